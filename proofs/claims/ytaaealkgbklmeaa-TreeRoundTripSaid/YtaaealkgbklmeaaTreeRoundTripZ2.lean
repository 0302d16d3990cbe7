/-
  Part 2 of what TreeRoundTrip rests on.
-/
import Derived.Test.YtaaealkgbklmeaaTreeRoundTripZ1
import Derived.OrdersIn
import Derived.Deep.LoopGhost
/-
  Procedures: a call that is handed boxes of the caller's is right.
-/
namespace Go.Proofs.Ytaaealkgbklmeaa
open Go.RowKit
set_option linter.unusedVariables false
set_option linter.unusedSimpArgs false
theorem getD_at {α : Type} (l : List α) (d : α) {j : Nat} (h : j < l.length) : l.getD j d = l[j] := by simp [List.getD_eq_getElem?_getD, List.getElem?_eq_getElem h]
def posOf : List Nat → Nat → Nat
  | [], _ => 0
  | x :: l, b => if b = x then 0 else posOf l b + 1
theorem posOf_lt : ∀ {l : List Nat} {b : Nat}, b ∈ l → posOf l b < l.length
  | x :: l, b, h => by
    simp only [posOf, List.length_cons]
    split
    · omega
    · rename_i hne
      have : b ∈ l := by rcases List.mem_cons.1 h with e | h; exact absurd e hne; exact h
      have := posOf_lt this
      omega
theorem posOf_mem : ∀ {l : List Nat} {b : Nat}, posOf l b < l.length → b ∈ l
  | [], b, h => by simp [posOf] at h
  | x :: l, b, h => by
    simp only [posOf, List.length_cons] at h
    split at h
    · rename_i e; simp [e]
    · exact List.mem_cons_of_mem _ (posOf_mem (by omega))
theorem posOf_at : ∀ {l : List Nat} {b : Nat}, b ∈ l → l.getD (posOf l b) 0 = b
  | x :: l, b, h => by
    simp only [posOf]
    split
    · rename_i e; simp [e]
    · rename_i hne
      have : b ∈ l := by rcases List.mem_cons.1 h with e | h; exact absurd e hne; exact h
      simpa using posOf_at this
theorem at_posOf : ∀ {l : List Nat} {j : Nat}, l.Nodup → j < l.length → posOf l (l.getD j 0) = j
  | x :: l, 0, _, _ => by simp [posOf]
  | x :: l, j + 1, hn, h => by
    rw [List.nodup_cons] at hn
    have hj : j < l.length := by simpa using h
    have hm : l.getD j 0 ∈ l := by rw [getD_at _ _ hj]; exact List.getElem_mem hj
    have hne : ¬ l.getD j 0 = x := fun e => hn.1 (by rw [← e]; exact hm)
    have := at_posOf hn.2 hj
    simp only [List.getD_cons_succ, posOf, if_neg hne, this]
def nubN : List Nat → List Nat
  | [] => []
  | b :: l => b :: (nubN l).filter fun x => decide (x ≠ b)
theorem mem_nubN : ∀ {l : List Nat} {b : Nat}, b ∈ nubN l ↔ b ∈ l
  | [], b => by simp [nubN]
  | x :: l, b => by
    simp only [nubN, List.mem_cons, List.mem_filter, mem_nubN (l := l), decide_eq_true_eq]
    constructor
    · rintro (h | ⟨h, _⟩)
      · exact .inl h
      · exact .inr h
    · rintro (h | h)
      · exact .inl h
      · by_cases e : b = x
        · exact .inl e
        · exact .inr ⟨h, e⟩
def maxL : List Nat → Nat
  | [] => 0
  | b :: l => Nat.max b (maxL l)
/-- the arguments as the procedure sees them -/
def argsP (look : Nat → Option (List DV)) (ρ : Nat → Nat) : List Bool → List AV → Option (List AV)
  | [], [] => some []
  | m :: ms, x :: xs => match argsP look ρ ms xs with
    | some ys => match m with
      | true => match x.flat with
        | true => (x.rv look).map fun r => r.av :: ys
        | false => none
      | false => some (x.ren ρ :: ys)
    | none => none
  | _, _ => none
def rawNames : List Bool → List AV → List Nat
  | m :: ms, x :: xs => (bif m then [] else x.names) ++ rawNames ms xs
  | _, _ => []
def dataRefs : List Bool → List AV → List Nat
  | m :: ms, x :: xs => (bif m then x.refs else []) ++ dataRefs ms xs
  | _, _ => []
def okNames (l0 bs news : List Nat) (B BN : List Bx) : Bool :=
  (B.all fun b => b.names.all fun x => bs.contains x) && (l0.all fun b => !bs.contains b && !news.contains b) && decide (bs.Nodup) && decide (news.Nodup) && (news.all fun b => !bs.contains b) &&
  BN.all fun b => !b.known
def okOuts (pin nnew : Nat) (bs news : List Nat) (r : Ret) : Bool :=
  decide (r.outs.length = pin + nnew) && decide (news.length = nnew) && decide (pin ≤ bs.length) && (r.outs.take pin).all Bx.known
def sigma (pin : Nat) (bs news : List Nat) (j : Nat) : Nat := if j < pin then bs.getD j 0 else news.getD (j - pin) 0
def becomes (pin : Nat) (l0 bs news : List Nat) (B0 : List Bx) (r : Ret) (b : Nat) : Bx :=
  if posOf bs b < pin then (boxes r.outs (posOf bs b)).ren (sigma pin bs news)
  else if bs.contains b then .gone
  else if news.contains b then (boxes r.outs (pin + posOf news b)).ren (sigma pin bs news)
  else (B0.getD (posOf l0 b) .gone).freeze
def procOut (P : Program) (Γ : Gam) (f : FuncId) (ms : List Bool) (pin nnew : Nat) (xs : List AV) (l0 bs news : List Nat) (B0 B BN : List Bx) : Option (Prop × AV × List (Nat × Bx)) :=
  match okNames l0 bs news B BN with
  | true => match argsP (lookIn l0 B0) (posOf bs) ms xs with
    | some ys => match Γ.proc f ys (B.map (Bx.ren (posOf bs))) with
      | some r => match okOuts pin nnew bs news r with
        | true => some (AnsG P f pin ys (B.map (Bx.ren (posOf bs))) r, r.res.ren (sigma pin bs news),
            (bs ++ news ++ (bif r.fresh then [] else l0)).map fun b => (b, becomes pin l0 bs news B0 r b))
        | false => none
      | none => none
    | none => none
  | false => none
section
variable {P : Program} {o : Oper} {s : AS}
/-- a call of a procedure, whichever way it ends: what the caller has behind it -/
theorem proc_core {f : FuncId} {ms : List Bool} {pin nnew : Nat} {xs ys : List AV} {l0 bs news : List Nat} {r : Ret} {Ed : Value → Ending}
    (hex : ∀ (w0 : World) (S : Scope) (n : Dom) (ι : Names) (a : Act) (w : World), RepS w0 S n s ι a w → ∃ vs : Array Value, (execOp a.eval o).run P w = .ok (.enter f vs) w ∧
      ∀ ι2 s2, s2.tm = s.tm → RepS w0 S n s2 ι2 a w → RepAVs w (Seen S w0.heap.size s2.bx ι2) ι2 s2.bx xs vs.toList)
    (hl0 : ∀ b ∈ dataRefs ms xs, b ∈ l0) (hbs : ∀ b ∈ rawNames ms xs, b ∈ bs)
    (hok : okNames l0 bs news (bs.map s.bx) (news.map s.bx) = true) (hys : argsP (lookIn l0 (l0.map s.bx)) (posOf bs) ms xs = some ys) (hoo : okOuts pin nnew bs news r = true)
    (hans : ∀ (w : World) (S : Nat → Prop) (ι : Names) (vs : Array Value), GlobOK w S → Handed_ w S ι ys ((bs.map s.bx).map (Bx.ren (posOf bs))) vs.toList → Calls P f vs w fun ed w' => ∃ v ι', ed = Ed v ∧ After w S ι pin ((bs.map s.bx).map (Bx.ren (posOf bs))) r w' ι' v) :
    ∀ (w0 : World) (S : Scope) (n : Dom) (ι : Names) (a : Act) (w : World), RepS w0 S n s ι a w → ∃ vs : Array Value, (execOp a.eval o).run P w = .ok (.enter f vs) w ∧
      Calls P f vs w fun ed w' => ∃ u ι2, ed = Ed u ∧ RepS w0 S n (s.setBs (((bs ++ news ++ (bif r.fresh then [] else l0)).map fun b => (b, becomes pin l0 bs news (l0.map s.bx) r b)).map (·.1)) (((bs ++ news ++ (bif r.fresh then [] else l0)).map fun b => (b, becomes pin l0 bs news (l0.map s.bx) r b)).map (·.2))) ι2 a w' ∧
        RepAV w' (Seen S w0.heap.size (s.setBs (((bs ++ news ++ (bif r.fresh then [] else l0)).map fun b => (b, becomes pin l0 bs news (l0.map s.bx) r b)).map (·.1)) (((bs ++ news ++ (bif r.fresh then [] else l0)).map fun b => (b, becomes pin l0 bs news (l0.map s.bx) r b)).map (·.2))).bx ι2) ι2 (s.setBs (((bs ++ news ++ (bif r.fresh then [] else l0)).map fun b => (b, becomes pin l0 bs news (l0.map s.bx) r b)).map (·.1)) (((bs ++ news ++ (bif r.fresh then [] else l0)).map fun b => (b, becomes pin l0 bs news (l0.map s.bx) r b)).map (·.2))).bx (r.res.ren (sigma pin bs news)) u := by
  simp only [okNames, Bool.and_eq_true, List.all_eq_true, decide_eq_true_eq, Bool.not_eq_true', List.contains_eq_mem, decide_eq_false_iff_not] at hok
  obtain ⟨⟨⟨⟨⟨k1, k2⟩, k3⟩, k4⟩, k5⟩, k6⟩ := hok
  simp only [okOuts, Bool.and_eq_true, decide_eq_true_eq, List.all_eq_true] at hoo
  obtain ⟨⟨⟨q1, q2⟩, q3⟩, q4⟩ := hoo
  intro w0 S n ι a w hr
  have knames : ∀ b ∈ bs, ∀ x ∈ (s.bx b).names, x ∈ bs := fun b hb x hx => k1 (s.bx b) (List.mem_map.2 ⟨b, hb, rfl⟩) x hx
  have kfresh : ∀ b ∈ news, (s.bx b).known = false := fun b hb => k6 (s.bx b) (List.mem_map.2 ⟨b, hb, rfl⟩)
  -- the state in which the rows that are data are seen
  have hr' := RepS.freezes hr l0 s (fun b => .inl rfl) hr
  generalize hs1 : s.setBs l0 (l0.map fun b => (s.bx b).freeze) = s1 at hr'
  have htm1 : s1.tm = s.tm := by rw [← hs1]; exact setBs_tm _ _ _
  have hbx1 : ∀ b, s1.bx b = if b ∈ l0 then (s.bx b).freeze else s.bx b := fun b => by rw [← hs1, setBs_map]
  have hbs1 : ∀ b ∈ bs, s1.bx b = s.bx b := fun b hb => by rw [hbx1, if_neg (fun h => (k2 b h).1 hb)]
  obtain ⟨vs, hrun, hvs⟩ := hex w0 S n ι a w hr
  have hargs := hvs ι s1 htm1 hr'
  obtain ⟨ιc, hιc⟩ : ∃ ιc : Names, ιc = fun j => if j < bs.length then ι (bs.getD j 0) else none := ⟨_, rfl⟩
  have hins : ∀ j, j < bs.length → boxes ((bs.map s.bx).map (Bx.ren (posOf bs))) j = (s.bx (bs.getD j 0)).ren (posOf bs) := fun j hj => by
    simp [boxes, List.getD_eq_getElem?_getD, List.getElem?_map, List.getElem?_eq_getElem hj]
  have hins' : ∀ j, ¬ j < bs.length → boxes ((bs.map s.bx).map (Bx.ren (posOf bs))) j = .fresh := fun j hj => by
    simp [boxes, List.getD_eq_getElem?_getD, List.getElem?_eq_none (Nat.le_of_not_lt hj)]
  have hmem : ∀ j, j < bs.length → bs.getD j 0 ∈ bs := fun j hj => by rw [getD_at _ _ hj]; exact List.getElem_mem hj
  generalize hIns : (bs.map s.bx).map (Bx.ren (posOf bs)) = ins at *
  -- names turned
  have hturn : ∀ b ∈ bs, Turns ι s1.bx ιc (boxes ins) (posOf bs) b := fun b hb hk => by
    have hlt := posOf_lt hb
    refine ⟨by rw [hιc]; simp only [if_pos hlt, posOf_at hb], ?_⟩
    rw [hins _ hlt, Bx.ren_known, posOf_at hb, ← hbs1 b hb]
    exact hk
  have hrow : ∀ b ∈ l0, ∀ zs, lookIn l0 (l0.map s.bx) b = some zs → Shows w (Seen S w0.heap.size s1.bx ι) ι b zs ∧ (ι b = none → zs = []) := by
    intro b hb zs hzs
    obtain ⟨hbr, hin⟩ := lookIn_map hzs
    have hb' := hr'.bx b
    have e1 : s1.bx b = (s.bx b).freeze := by rw [hbx1, if_pos hbr]
    have e2 : s1.bx b = .ice zs := by
      rw [e1]
      revert hin
      cases s.bx b <;> intro hin <;> simp only [inside, Option.some.injEq, reduceCtorEq] at hin <;> subst hin <;> rfl
    rw [e2] at hb'
    rcases hb' with ⟨g1, g2⟩ | ⟨g, cap, g1, g2, g3⟩
    · exact ⟨fun g c e => (by rw [g1] at e; cases e), fun _ => g2⟩
    · refine ⟨fun g' c e => ?_, fun e => (by rw [g1] at e; cases e)⟩
      rw [g1] at e
      simp only [Option.some.injEq, Prod.mk.injEq] at e
      obtain ⟨rfl, rfl⟩ := e
      exact ⟨g3, g2⟩
  have hlook : ∀ b zs, lookIn l0 (l0.map s.bx) b = some zs → b ∈ l0 := fun b zs hzs => (lookIn_map hzs).1
  have hargs2 : RepAVs w (Seen S w0.heap.size s1.bx ι) ιc (boxes ins) ys vs.toList := by
    have key : ∀ (ms : List Bool) (xs : List AV) (us : List Value) (ys : List AV), (∀ b ∈ rawNames ms xs, b ∈ bs) → argsP (lookIn l0 (l0.map s.bx)) (posOf bs) ms xs = some ys → RepAVs w (Seen S w0.heap.size s1.bx ι) ι s1.bx xs us → RepAVs w (Seen S w0.heap.size s1.bx ι) ιc (boxes ins) ys us := by
      intro ms
      induction ms with
      | nil =>
        intro xs us ys _ hy hu
        cases xs with
        | nil => simp only [argsP, Option.some.injEq] at hy; subst hy; cases us <;> simp only [RepAVs] at hu ⊢
        | cons x xs => cases hy
      | cons m ms ih =>
        intro xs us ys hb hy hu
        cases xs with
        | nil => cases hy
        | cons x xs =>
          cases us with
          | nil => simp only [RepAVs] at hu
          | cons u us =>
            simp only [RepAVs] at hu
            simp only [argsP] at hy
            cases h1 : argsP (lookIn l0 (l0.map s.bx)) (posOf bs) ms xs with
            | none => rw [h1] at hy; cases hy
            | some zs =>
              rw [h1] at hy
              have ih' := ih xs us zs (fun b hb' => hb b (by simp only [rawNames, List.mem_append]; exact .inr hb')) h1 hu.2
              cases m with
              | true =>
                simp only at hy
                split at hy
                · rename_i hfl
                  cases h2 : x.rv (lookIn l0 (l0.map s.bx)) with
                  | none => rw [h2] at hy; cases hy
                  | some q =>
                    rw [h2] at hy
                    simp only [Option.map_some, Option.some.injEq] at hy
                    subst hy
                    simp only [RepAVs]
                    exact ⟨rep_av (rv_av (Keeps.refl _ _) hfl hu.1 (fun b hb' zs hzs => hrow b (hlook b zs hzs) zs hzs) h2), ih'⟩
                · cases hy
              | false =>
                simp only [Option.some.injEq] at hy
                subst hy
                simp only [RepAVs]
                refine ⟨hu.1.turn fun b hb' => hturn b (hb b ?_), ih'⟩
                simp only [rawNames, cond_false, List.mem_append]
                exact .inl hb'
    exact key ms xs vs.toList ys hbs hys hargs
  have hhanded : Handed_ w (Seen S w0.heap.size s1.bx ι) ιc ys ins vs.toList := by
    refine ⟨fun j g c hl e => ?_, fun j j' g c c' hl hl' hne e => ?_, fun j => ?_, hargs2⟩
    · by_cases hj : j < bs.length
      · rw [hins j hj, Bx.ren_live] at hl
        rw [hιc] at e
        simp only [if_pos hj] at e
        rw [← hbs1 _ (hmem j hj)] at hl
        exact ⟨fun hV => hV.2 _ _ hl e, (hr'.own _ g c hl e).2⟩
      · rw [hins' j hj] at hl; cases hl
    · by_cases hj : j < bs.length
      · by_cases hj' : j' < bs.length
        · rw [hins j hj, Bx.ren_live, ← hbs1 _ (hmem j hj)] at hl
          rw [hins j' hj', Bx.ren_live, ← hbs1 _ (hmem j' hj')] at hl'
          rw [hιc] at e ⊢
          simp only [if_pos hj, if_pos hj'] at e ⊢
          refine hr'.dist _ _ g c c' hl hl' (fun eq => hne ?_) e
          have h1 := at_posOf k3 hj
          have h2 := at_posOf k3 hj'
          rw [← h1, ← h2, eq]
        · rw [hins' j' hj'] at hl'; cases hl'
      · rw [hins' j hj] at hl; cases hl
    · by_cases hj : j < bs.length
      · rw [hins j hj]
        have hb := hr'.bx (bs.getD j 0)
        rw [hbs1 _ (hmem j hj)] at hb
        exact hb.turn (by rw [hιc]; simp only [if_pos hj]) fun x hx => hturn x (knames _ (hmem j hj) x hx)
      · rw [hins' j hj]; trivial
  have hcall := hans w (Seen S w0.heap.size s1.bx ι) ιc vs hr'.glob hhanded
  refine ⟨vs, hrun, hcall.mono fun ed w' hq => ?_⟩
  obtain ⟨u, ι', rfl, ha⟩ := hq
  refine ⟨u, ?_⟩
  -- the state behind it
  obtain ⟨sB, hsB⟩ : ∃ sB : AS, sB = bif r.fresh then s else s1 := ⟨_, rfl⟩
  have hrB : RepS w0 S n sB ι a w := by rw [hsB]; cases r.fresh; exact hr'; exact hr
  have hBbs : ∀ b ∈ bs, sB.bx b = s.bx b := fun b hb => by rw [hsB]; cases r.fresh; exact hbs1 b hb; rfl
  have hBnews : ∀ b ∈ news, (sB.bx b).known = false := fun b hb => by
    rw [hsB]
    cases r.fresh
    · simp only [cond_false]
      rw [hbx1, if_neg (fun h => (k2 b h).2 hb)]; exact kfresh b hb
    · exact kfresh b hb
  have hBtm : sB.tm = s.tm := by rw [hsB]; cases r.fresh; exact htm1; rfl
  obtain ⟨bx2, hbx2⟩ : ∃ bx2 : Nat → Bx, bx2 = fun b => if posOf bs b < pin then (boxes r.outs (posOf bs b)).ren (sigma pin bs news) else if b ∈ bs then .gone else if b ∈ news then (boxes r.outs (pin + posOf news b)).ren (sigma pin bs news) else sB.bx b := ⟨_, rfl⟩
  have hset : s.setBs ((((bs ++ news ++ (bif r.fresh then [] else l0)).map fun b => (b, becomes pin l0 bs news (l0.map s.bx) r b))).map (·.1)) ((((bs ++ news ++ (bif r.fresh then [] else l0)).map fun b => (b, becomes pin l0 bs news (l0.map s.bx) r b))).map (·.2)) = ⟨sB.tm, bx2⟩ := by
    have e1 : (((bs ++ news ++ (bif r.fresh then [] else l0)).map fun b => (b, becomes pin l0 bs news (l0.map s.bx) r b))).map (·.1) = bs ++ news ++ (bif r.fresh then [] else l0) := by simp [List.map_map, Function.comp_def]
    have e2 : (((bs ++ news ++ (bif r.fresh then [] else l0)).map fun b => (b, becomes pin l0 bs news (l0.map s.bx) r b))).map (·.2) = (bs ++ news ++ (bif r.fresh then [] else l0)).map (becomes pin l0 bs news (l0.map s.bx) r) := by simp [List.map_map, Function.comp_def]
    rw [e1, e2]
    refine AS.ext' (by rw [setBs_tm, hBtm]) ?_
    funext b
    rw [setBs_map, hbx2]
    simp only [becomes, List.contains_eq_mem, decide_eq_true_eq, List.mem_append]
    by_cases g1 : posOf bs b < pin
    · have : b ∈ bs := posOf_mem (by omega)
      simp [g1, this]
    · by_cases g2 : b ∈ bs
      · simp [g1, g2]
      · by_cases g3 : b ∈ news
        · simp [g1, g2, g3]
        · simp only [g1, g2, g3, false_or, if_false]
          rw [hsB]
          cases hfr : r.fresh with
          | true => simp
          | false =>
            simp only [cond_false]
            rw [hbx1]
            by_cases g4 : b ∈ l0
            · simp only [g4, if_true]
              congr 1
              have hlt := posOf_lt g4
              have hat := posOf_at g4
              rw [getD_at _ _ hlt] at hat
              rw [getD_at _ _ (by simpa using hlt), List.getElem_map, hat]
            · simp only [g4, if_false]
  rw [hset]
  -- turned boxes
  obtain ⟨ι2, hι2⟩ : ∃ ι2 : Names, ι2 = fun b => if b ∈ news then ι' (pin + posOf news b) else ι b := ⟨_, rfl⟩
  obtain ⟨J, hJ⟩ : ∃ J : Nat → Nat, J = fun b => if posOf bs b < pin then posOf bs b else pin + posOf news b := ⟨_, rfl⟩
  have hpin : ∀ b, posOf bs b < pin → b ∈ bs ∧ b ∉ news ∧ ι b = ι' (posOf bs b) := fun b hb => by
    have hm : b ∈ bs := posOf_mem (by omega)
    refine ⟨hm, fun hn => k5 b hn hm, ?_⟩
    have := ha.pin _ hb
    rw [this, hιc]
    simp only [if_pos (posOf_lt hm), posOf_at hm]
  have hT : ∀ b, (posOf bs b < pin ∨ b ∈ news) → bx2 b = (boxes r.outs (J b)).ren (sigma pin bs news) ∧ ι2 b = ι' (J b) ∧ J b < pin + nnew := fun b hb => by
    by_cases g1 : posOf bs b < pin
    · obtain ⟨m1, m2, m3⟩ := hpin b g1
      rw [hbx2, hJ, hι2]
      simp only [if_pos g1, if_neg m2]
      exact ⟨trivial, m3, by omega⟩
    · have hn : b ∈ news := hb.resolve_left g1
      have m2 : b ∉ bs := fun h => k5 b hn h
      rw [hbx2, hJ, hι2]
      simp only [if_neg g1, if_neg m2, if_pos hn]
      have := posOf_lt hn
      exact ⟨trivial, trivial, by omega⟩
  have hU : ∀ b, ¬ (posOf bs b < pin ∨ b ∈ news) → ι2 b = ι b ∧ (bx2 b = .gone ∨ (b ∉ bs ∧ bx2 b = sB.bx b)) := fun b hb => by
    have h1 : ¬ posOf bs b < pin := fun h => hb (.inl h)
    have h2 : b ∉ news := fun h => hb (.inr h)
    rw [hι2, hbx2]
    simp only [if_neg h1, if_neg h2]
    refine ⟨trivial, ?_⟩
    by_cases h3 : b ∈ bs
    · left; rw [if_pos h3]
    · right; exact ⟨h3, by rw [if_neg h3]⟩
  have hJinj : ∀ b b', (posOf bs b < pin ∨ b ∈ news) → (posOf bs b' < pin ∨ b' ∈ news) → J b = J b' → b = b' := fun b b' hb hb' e => by
    rw [hJ] at e
    by_cases g1 : posOf bs b < pin
    · by_cases g1' : posOf bs b' < pin
      · simp only [if_pos g1, if_pos g1'] at e
        have e1 := posOf_at (hpin b g1).1
        have e2 := posOf_at (hpin b' g1').1
        rw [← e1, ← e2, e]
      · simp only [if_pos g1, if_neg g1'] at e; omega
    · by_cases g1' : posOf bs b' < pin
      · simp only [if_neg g1, if_pos g1'] at e; omega
      · simp only [if_neg g1, if_neg g1'] at e
        have e1 := posOf_at (hb.resolve_left g1)
        have e2 := posOf_at (hb'.resolve_left g1')
        rw [← e1, ← e2]
        congr 1
        omega
  have hOwnIns : ∀ g, OwnB (boxes ins) ιc g → ∃ b c, b ∈ bs ∧ (s.bx b).live = true ∧ ι b = some (g, c) := fun g ⟨j, c, hl, e⟩ => by
    by_cases hj : j < bs.length
    · rw [hins j hj, Bx.ren_live] at hl
      rw [hιc] at e
      simp only [if_pos hj] at e
      exact ⟨_, c, hmem j hj, hl, e⟩
    · rw [hins' j hj] at hl; cases hl
  -- a live box that is none of the turned ones
  have hout : ∀ b, ¬ (posOf bs b < pin ∨ b ∈ news) → (bx2 b).live = true → b ∉ bs ∧ bx2 b = sB.bx b ∧ (sB.bx b).live = true ∧ ι2 b = ι b := fun b hb hl => by
    obtain ⟨h1, h2⟩ := hU b hb
    rcases h2 with h2 | ⟨h2, h3⟩
    · rw [h2] at hl; cases hl
    · exact ⟨h2, h3, by rw [← h3]; exact hl, h1⟩
  have hout2 : ∀ b g c, b ∉ bs → (sB.bx b).live = true → ι b = some (g, c) → ¬ OwnB (boxes ins) ιc g := fun b g c hb hl e hO => by
    obtain ⟨b', c', m, hl', e'⟩ := hOwnIns g hO
    exact hrB.dist b b' g c c' hl (by rw [hBbs b' m]; exact hl') (fun h => hb (by rw [h]; exact m)) e e'
  have hliveT : ∀ b, (posOf bs b < pin ∨ b ∈ news) → (bx2 b).live = true → (boxes r.outs (J b)).live = true := fun b hb hl => by
    rw [(hT b hb).1, Bx.ren_live] at hl; exact hl
  -- who sees what
  have hK1 : Keeps w' (Behind w (Seen S w0.heap.size s1.bx ι) ιc ins r ι') w' (Seen S w0.heap.size bx2 ι2) := by
    intro g off x hV hx
    obtain ⟨hV1, hV2⟩ := hV
    refine ⟨⟨?_, fun b c hl e => ?_⟩, hx⟩
    · rcases hV1 with ⟨_, hV1⟩ | hV1 | hV1
      · exact hV1.1
      · exact .inr (.inl (Nat.le_trans hr.bel.size hV1))
      · obtain ⟨b', c', m, hl', e'⟩ := hOwnIns g hV1
        exact .inr (hr.own b' g c' hl' e').1
    · by_cases hb : posOf bs b < pin ∨ b ∈ news
      · exact hV2 ⟨J b, c, hliveT b hb hl, by rw [← (hT b hb).2.1]; exact e⟩
      · obtain ⟨o1, o2, o3, o4⟩ := hout b hb hl
        rw [o4] at e
        rcases hV1 with ⟨hfr, hV1⟩ | hV1 | hV1
        · have : sB = s1 := by rw [hsB, hfr]; rfl
          rw [this] at o3
          exact hV1.2 b c o3 e
        · have := (hrB.own b g c o3 e).2
          omega
        · exact hout2 b g c o1 o3 e hV1
  have hK2 : Keeps w (Seen S w0.heap.size sB.bx ι) w' (Seen S w0.heap.size bx2 ι2) := by
    intro g off x hV hx
    have hlt : g < w.heap.size := World.block_lt_of_cell? w _ hx
    have hno : ¬ OwnB (boxes ins) ιc g := fun hO => by
      obtain ⟨b', c', m, hl', e'⟩ := hOwnIns g hO
      exact hV.2 b' c' (by rw [hBbs b' m]; exact hl') e'
    refine ⟨⟨hV.1, fun b c hl e => ?_⟩, by rw [← hx]; simp [World.cell?, ha.bel.block g hlt hno]⟩
    by_cases hb : posOf bs b < pin ∨ b ∈ news
    · rw [(hT b hb).2.1] at e
      rcases (ha.own _ g c (hliveT b hb hl) e).1 with h1 | h1
      · omega
      · exact hno h1
    · obtain ⟨o1, o2, o3, o4⟩ := hout b hb hl
      rw [o4] at e
      exact hV.2 b c o3 e
  have hsig : ∀ x, x < pin + nnew → (posOf bs (sigma pin bs news x) < pin ∨ sigma pin bs news x ∈ news) ∧ J (sigma pin bs news x) = x := fun x hx => by
    unfold sigma
    by_cases hxp : x < pin
    · simp only [if_pos hxp]
      have h1 := at_posOf k3 (show x < bs.length by omega)
      refine ⟨.inl (by rw [h1]; exact hxp), ?_⟩
      rw [hJ]
      simp only [h1, if_pos hxp]
    · simp only [if_neg hxp]
      have hlt : x - pin < news.length := by omega
      have hm : news.getD (x - pin) 0 ∈ news := by rw [getD_at _ _ hlt]; exact List.getElem_mem hlt
      have h1 := at_posOf k4 hlt
      refine ⟨.inr hm, ?_⟩
      rw [hJ]
      have h2 : ¬ posOf bs (news.getD (x - pin) 0) < pin := fun h => (hpin _ h).2.1 hm
      simp only [if_neg h2, h1]
      omega
  have hkn : ∀ x, (boxes r.outs x).known = true → x < pin + nnew := fun x hx => by
    rcases Nat.lt_or_ge x (pin + nnew) with h | h
    · exact h
    · have : boxes r.outs x = .fresh := by
        simp [boxes, List.getD_eq_getElem?_getD, List.getElem?_eq_none (show r.outs.length ≤ x by omega)]
      rw [this] at hx; cases hx
  have hturn2 : ∀ x, Turns ι' (boxes r.outs) ι2 bx2 (sigma pin bs news) x := fun x hx => by
    obtain ⟨h1, h2⟩ := hsig x (hkn x hx)
    obtain ⟨t1, t2, _⟩ := hT _ h1
    rw [h2] at t1 t2
    exact ⟨t2, by rw [t1, Bx.ren_known]; exact hx⟩
  have hR : RepS w0 S n ⟨sB.tm, bx2⟩ ι2 a w' := by
    refine hrB.move (bx' := bx2) ⟨ha.bel.os.trans hr.bel.os, ha.bel.tape.trans hr.bel.tape, ha.bel.output.trans hr.bel.output, Nat.le_trans hr.bel.size ha.bel.size, fun g hg hl => ?_⟩ (keeps_same ha.bel.size fun k o hk ho => ha.bel.block k (Array.getElem?_eq_some_iff.1 hk).1 fun hO => ?_) (fun b hb => ?_) hK2 (fun b => ?_) (fun b g c hl e => ?_) (fun b b' g c c' hl hl' hbb e => ?_)
    · have hlt := Nat.lt_of_lt_of_le hg hr.bel.size
      refine (ha.bel.block g hlt fun hO => ?_).trans (hr.bel.block g hg hl)
      obtain ⟨b', c', m, hl', e'⟩ := hOwnIns g hO
      rcases (hr.own b' g c' hl' e').1 with h1 | h1
      · omega
      · exact hl h1
    · obtain ⟨b', c', m, hl', e'⟩ := hOwnIns k hO
      obtain ⟨cur, T, i, hc⟩ := hr.live_cells hl' e'
      rw [hc] at hk
      injection hk with hk
      subst hk
      cases ho
    · by_cases h1 : posOf bs b < pin ∨ b ∈ news
      · rcases h1 with h1 | h1
        · obtain ⟨m1, m2, m3⟩ := hpin b h1
          obtain ⟨t1, t2, t3⟩ := hT b (.inl h1)
          refine ⟨?_, ?_⟩
          · rw [t1, Bx.ren_known, hJ]
            simp only [if_pos h1]
            have hlt : posOf bs b < r.outs.length := by omega
            have := q4 (r.outs[posOf bs b]) (by rw [List.mem_take_iff_getElem]; exact ⟨posOf bs b, by omega, rfl⟩)
            simpa [boxes, List.getD_eq_getElem?_getD, List.getElem?_eq_getElem hlt] using this
          · rw [hι2]; simp only [if_neg m2]
        · rw [hBnews b h1] at hb; cases hb
      · obtain ⟨h2, h3⟩ := hU b h1
        refine ⟨?_, h2⟩
        rcases h3 with h3 | ⟨_, h3⟩
        · rw [h3]; rfl
        · rw [h3]; exact hb
    · by_cases h1 : posOf bs b < pin ∨ b ∈ news
      · right
        obtain ⟨t1, t2, t3⟩ := hT b h1
        rw [t1]
        exact ((ha.bx (J b)).turn t2 fun x hx => hturn2 x).seen hK1
      · obtain ⟨h2, h3⟩ := hU b h1
        rcases h3 with h3 | ⟨h4, h3⟩
        · right; rw [h3]; trivial
        · left
          exact ⟨h3, fun hl g c e => ha.bel.block g (hrB.own b g c hl e).2 (hout2 b g c h4 hl e)⟩
    · by_cases h1 : posOf bs b < pin ∨ b ∈ news
      · have := ha.own _ g c (hliveT b h1 hl) (by rw [← (hT b h1).2.1]; exact e)
        refine ⟨?_, this.2⟩
        rcases this.1 with h2 | h2
        · exact .inl (Nat.le_trans hr.bel.size h2)
        · obtain ⟨b', c', m, hl', e'⟩ := hOwnIns g h2
          exact (hr.own b' g c' hl' e').1
      · obtain ⟨o1, o2, o3, o4⟩ := hout b h1 hl
        rw [o4] at e
        have := hrB.own b g c o3 e
        exact ⟨this.1, Nat.lt_of_lt_of_le this.2 ha.bel.size⟩
    · have cross : ∀ x y gg cx cy, (posOf bs x < pin ∨ x ∈ news) → ¬ (posOf bs y < pin ∨ y ∈ news) → (bx2 x).live = true → (bx2 y).live = true → ι2 x = some (gg, cx) → ι2 y ≠ some (gg, cy) := by
        intro x y gg cx cy hx hy hlx hly ex ey
        obtain ⟨o1, o2, o3, o4⟩ := hout y hy hly
        rw [o4] at ey
        rcases (ha.own _ gg cx (hliveT x hx hlx) (by rw [← (hT x hx).2.1]; exact ex)).1 with h2 | h2
        · have := (hrB.own y gg cy o3 ey).2
          omega
        · exact hout2 y gg cy o1 o3 ey h2
      by_cases h1 : posOf bs b < pin ∨ b ∈ news
      · by_cases h1' : posOf bs b' < pin ∨ b' ∈ news
        · rw [(hT b h1).2.1] at e
          rw [(hT b' h1').2.1]
          exact ha.dist _ _ g c c' (hliveT b h1 hl) (hliveT b' h1' hl') (fun eq => hbb (hJinj b b' h1 h1' eq)) e
        · exact cross b b' g c c' h1 h1' hl hl' e
      · by_cases h1' : posOf bs b' < pin ∨ b' ∈ news
        · exact fun e' => cross b' b g c' c h1' h1 hl' hl e' e
        · obtain ⟨o1, o2, o3, o4⟩ := hout b h1 hl
          obtain ⟨p1, p2, p3, p4⟩ := hout b' h1' hl'
          rw [o4] at e
          rw [p4]
          exact hrB.dist b b' g c c' o3 p3 hbb e
  exact ⟨ι2, rfl, hR, (ha.rep.turn fun x _ => hturn2 x).keep (fun b hb => ⟨hb, rfl⟩) hK1⟩
theorem sound_proc {Γ : Gam} {f : FuncId} {ms : List Bool} {pin nnew : Nat} {xs : List AV} {l0 bs news : List Nat} {vc : Prop} {v : AV} {ws : List (Nat × Bx)}
    (hex : ∀ (w0 : World) (S : Scope) (n : Dom) (ι : Names) (a : Act) (w : World), RepS w0 S n s ι a w → ∃ vs : Array Value, (execOp a.eval o).run P w = .ok (.enter f vs) w ∧
      ∀ ι2 s2, s2.tm = s.tm → RepS w0 S n s2 ι2 a w → RepAVs w (Seen S w0.heap.size s2.bx ι2) ι2 s2.bx xs vs.toList)
    (hl0 : ∀ b ∈ dataRefs ms xs, b ∈ l0) (hbs : ∀ b ∈ rawNames ms xs, b ∈ bs)
    (hf : procOut P Γ f ms pin nnew xs l0 bs news (l0.map s.bx) (bs.map s.bx) (news.map s.bx) = some (vc, v, ws)) : Sound P o s vc v (ws.map (·.1)) (ws.map (·.2)) := by
  unfold procOut at hf
  split at hf
  · rename_i hok
    split at hf
    · rename_i ys hys
      split at hf
      · rename_i r hr0
        split at hf
        · rename_i hoo
          simp only [Option.some.injEq, Prod.mk.injEq] at hf
          obtain ⟨rfl, rfl, rfl⟩ := hf
          intro w0 S n ι a w K Q hr hans hK
          obtain ⟨vs, hrun, hcall⟩ := proc_core (Ed := Ending.returned) hex hl0 hbs hok hys hoo hans w0 S n ι a w hr
          unfold Oper.wp
          rw [hrun, Oper.upon_enter]
          refine hcall.mono fun ed w' hq => ?_
          obtain ⟨u, ι2, rfl, h1, h2⟩ := hq
          exact hK ι2 u w' h1 h2
        · cases hf
      · cases hf
    · cases hf
  · cases hf
end
/-
  All operations: procedures among them.
-/
def Cap.av : Cap → AV
  | .d v => .one (.d v)
  | .ptr b off => .one (.ptr b off)
def nextNames (dst : Option Nat) (bs : List Nat) (nnew : Nat) : List Nat :=
  let base := match dst with
    | some d => d
    | none => maxL bs
  (List.range nnew).map fun i => base + 1000 * (i + 1)
def innerNames (l1 : List Nat) (B1 : List Bx) : List Nat := (nubN (B1.flatMap Bx.names)).filter fun x => !l1.contains x
def procEff (P : Program) (Γ : Gam) (dst : Option Nat) (f : FuncId) (xs : List AV) : Option Eff2 :=
  match Γ.modes f, enters P f with
  | some (ms, pin, nnew), true =>
    let l0 := dataRefs ms xs
    let l1 := nubN (rawNames ms xs)
    some ⟨l0 ++ l1, fun bs1 => let l2 := innerNames l1 (bs1.drop l0.length); l2 ++ nextNames dst (l1 ++ l2) nnew, fun bs1 bs2 =>
      let l2 := innerNames l1 (bs1.drop l0.length)
      procOut P Γ f ms pin nnew xs l0 (l1 ++ l2) (nextNames dst (l1 ++ l2) nnew) (bs1.take l0.length) (bs1.drop l0.length ++ bs2.take l2.length) (bs2.drop l2.length)⟩
  | _, _ => none
/-- a call that hands back flat data, or what is new alone, writes nothing -/
def callQ (Γ : Gam) (f : FuncId) (xs : List AV) (bs : List Bx) : Bool :=
  match ownOf Γ f with
  | some _ => false
  | none => match newOf Γ f with
    | true => true
    | false => match AV.rvs (lookIn (xs.flatMap AV.refs) bs) xs with
      | some rs => match Γ f rs with
        | some r => r.flat
        | none => false
      | none => false
/-- what is frozen stays as it is: no write -/
def dropIce : List Nat → List Bx → List Bx → List (Nat × Bx)
  | b :: rs, B0 :: bs, B :: ws => match B0 with
    | .ice _ => dropIce rs bs ws
    | _ => (b, B) :: dropIce rs bs ws
  | _, _, _ => []
def Eff.upQ (q : List Bx → Bool) (e : Eff) : Eff2 := ⟨e.rds, fun _ => [], fun bs _ => (e.f bs).map fun r => (r.1, r.2.1, match q bs with | true => [] | false => dropIce e.wrs bs r.2.2)⟩
def KeptIce : List Bx → List Bx → Prop
  | .ice xs :: bs, B :: ws => B = .ice xs ∧ KeptIce bs ws
  | _ :: bs, _ :: ws => KeptIce bs ws
  | [], [] => True
  | _, _ => False
theorem keptIce_freeze : ∀ bs : List Bx, KeptIce bs (bs.map Bx.freeze)
  | [] => trivial
  | B :: bs => by
    have := keptIce_freeze bs
    cases B <;> simp only [List.map_cons, KeptIce, Bx.freeze, true_and] <;> exact this
theorem keptIce_self : ∀ bs : List Bx, KeptIce bs bs
  | [] => trivial
  | B :: bs => by
    have := keptIce_self bs
    cases B <;> simp only [KeptIce, true_and] <;> exact this
theorem keptIce_snoc : ∀ (bs ws : List Bx) (B : Bx), KeptIce bs ws → KeptIce (bs ++ [.fresh]) (ws ++ [B])
  | [], [], B, _ => by simp [KeptIce]
  | .ice xs :: bs, W :: ws, B, h => by
    simp only [List.cons_append, KeptIce] at h ⊢
    exact ⟨h.1, keptIce_snoc bs ws B h.2⟩
  | .fresh :: bs, W :: ws, B, h => by simp only [List.cons_append, KeptIce] at h ⊢; exact keptIce_snoc bs ws B h
  | .gone :: bs, W :: ws, B, h => by simp only [List.cons_append, KeptIce] at h ⊢; exact keptIce_snoc bs ws B h
  | .cells _ :: bs, W :: ws, B, h => by simp only [List.cons_append, KeptIce] at h ⊢; exact keptIce_snoc bs ws B h
  | .row _ _ _ :: bs, W :: ws, B, h => by simp only [List.cons_append, KeptIce] at h ⊢; exact keptIce_snoc bs ws B h
  | [], _ :: _, _, h => h.elim
  | B0 :: bs, [], B, h => by cases B0 <;> exact h.elim
theorem setBs_ice (s0 : AS) : ∀ (rs : List Nat) (ws : List Bx) (s : AS), (∀ b xs, s0.bx b = .ice xs → s.bx b = .ice xs) → KeptIce (rs.map s0.bx) ws → s.setBs ((dropIce rs (rs.map s0.bx) ws).map (·.1)) ((dropIce rs (rs.map s0.bx) ws).map (·.2)) = s.setBs rs ws
  | [], _, s, _, _ => by simp [dropIce, AS.setBs]
  | b :: rs, [], s, _, h => by
    simp only [List.map_cons] at h
    cases hB : s0.bx b <;> rw [hB] at h <;> exact h.elim
  | b :: rs, W :: ws, s, hs, h => by
    simp only [List.map_cons, dropIce, AS.setBs] at h ⊢
    cases hB : s0.bx b with
    | ice xs =>
      rw [hB] at h
      simp only [KeptIce] at h
      obtain ⟨rfl, h⟩ := h
      have e : s.setB b (.ice xs) = s := by
        refine AS.ext' rfl ?_
        funext b'
        simp only [AS.setB]
        split
        · rename_i e; subst e; exact (hs b' xs hB).symm
        · rfl
      rw [e]
      exact setBs_ice s0 rs ws s hs h
    | _ =>
      rw [hB] at h
      simp only [KeptIce] at h
      simp only [List.map_cons, AS.setBs]
      refine setBs_ice s0 rs ws _ (fun b' xs hb' => ?_) h
      simp only [AS.setB]
      rw [if_neg (fun e => by subst e; rw [hB] at hb'; cases hb')]
      exact hs b' xs hb'
theorem opCall_ice {P : Program} {Γ : Gam} {dst : Option Nat} {f : FuncId} {xs : List AV} {e0 : Eff} (he : opCall P Γ dst f xs = some e0) {bs bs' : List Bx} {vc : Prop} {v : AV} (hf : e0.f bs = some (vc, v, bs')) : KeptIce bs bs' ∧ e0.wrs = e0.rds := by
  unfold opCall at he
  cases h1 : ownOf Γ f with
  | some p =>
    rw [h1] at he
    simp only at he
    split at he
    · simp only [opCallO] at he
      split at he
      · simp only [Option.some.injEq] at he
        subst he
        simp only at hf ⊢
        split at hf
        · rename_i hl
          split at hf
          · split at hf
            · simp only [Option.some.injEq, Prod.mk.injEq] at hf
              obtain ⟨_, _, rfl⟩ := hf
              refine ⟨?_, trivial⟩
              have : bs = bs.dropLast ++ [.fresh] := by
                have hne : bs ≠ [] := fun e => by rw [e] at hl; cases hl
                rw [List.getLast?_eq_some_getLast hne] at hl
                injection hl with hl
                rw [← hl, List.dropLast_concat_getLast]
              have k := fun B => keptIce_snoc _ _ B (keptIce_freeze bs.dropLast)
              rw [← this] at k
              exact k _
            · cases hf
          · cases hf
        · cases hf
      · cases he
    · cases he
  | none =>
    rw [h1] at he
    simp only at he
    cases h2 : newOf Γ f with
    | true =>
      rw [h2] at he
      simp only [opCallN] at he
      split at he
      · simp only [Option.some.injEq] at he
        subst he
        simp only at hf ⊢
        split at hf
        · split at hf
          · simp only [Option.some.injEq, Prod.mk.injEq] at hf
            obtain ⟨_, _, rfl⟩ := hf
            exact ⟨keptIce_self _, trivial⟩
          · cases hf
        · cases hf
      · cases he
    | false =>
      rw [h2] at he
      simp only [opCallP] at he
      split at he
      · simp only [Option.some.injEq] at he
        subst he
        simp only at hf ⊢
        split at hf
        · split at hf
          · simp only [Option.some.injEq, Prod.mk.injEq] at hf
            obtain ⟨_, _, rfl⟩ := hf
            refine ⟨?_, trivial⟩
            split
            · exact keptIce_self _
            · exact keptIce_freeze _
          · cases hf
        · cases hf
      · cases he
theorem opCall_q {P : Program} {Γ : Gam} {dst : Option Nat} {f : FuncId} {xs : List AV} {e0 : Eff} (he : opCall P Γ dst f xs = some e0) {bs bs' : List Bx} {vc : Prop} {v : AV} (hq : callQ Γ f xs bs = true) (hf : e0.f bs = some (vc, v, bs')) : bs' = bs ∧ e0.wrs = e0.rds := by
  unfold callQ at hq
  unfold opCall at he
  cases h1 : ownOf Γ f with
  | some p => rw [h1] at hq; cases hq
  | none =>
    rw [h1] at hq he
    simp only at hq he
    cases h2 : newOf Γ f with
    | true =>
      rw [h2] at he
      simp only [opCallN] at he
      split at he
      · simp only [Option.some.injEq] at he
        subst he
        simp only at hf ⊢
        split at hf
        · split at hf
          · simp only [Option.some.injEq, Prod.mk.injEq] at hf
            exact ⟨hf.2.2.symm, trivial⟩
          · cases hf
        · cases hf
      · cases he
    | false =>
      rw [h2] at he hq
      simp only [opCallP] at he
      split at he
      · simp only [Option.some.injEq] at he
        subst he
        simp only at hf hq ⊢
        split at hf
        · rename_i rs hrs
          rw [hrs] at hq
          simp only at hq
          split at hf
          · rename_i r hr
            rw [hr] at hq
            simp only at hq
            simp only [Option.some.injEq, Prod.mk.injEq, if_pos hq] at hf
            exact ⟨hf.2.2.symm, trivial⟩
          · cases hf
        · cases hf
      · cases he
theorem right_upQ {P : Program} {Γ : Gam} {o : Oper} {s : AS} {f : FuncId} {xs : List AV} (h : Right P o s (prep P Γ o s.eval)) (hp : prep P Γ o s.eval = opCall P Γ o.dst f xs) : Right2 P o s ((prep P Γ o s.eval).map (Eff.upQ (callQ Γ f xs))) := by
  intro e' he vc v ws hf
  obtain ⟨e0, he0, rfl⟩ := Option.map_eq_some_iff.1 he
  simp only [Eff.upQ] at hf
  obtain ⟨⟨vc0, v0, bs0⟩, hf1, hf'⟩ := Option.map_eq_some_iff.1 hf
  simp only [Prod.mk.injEq] at hf'
  obtain ⟨rfl, rfl, rfl⟩ := hf'
  have hs := h e0 he0 vc0 v0 bs0 hf1
  cases hq : callQ Γ f xs (e0.rds.map s.bx) with
  | true =>
    obtain ⟨e1, e2⟩ := opCall_q (by rw [← hp, he0]) hq hf1
    subst e1
    intro w0 S n ι a w K Q hr hvc hK
    refine hs w0 S n ι a w K Q hr hvc fun ι' u w' h1 h2 => hK ι' u w' ?_ ?_
    · rw [e2, setBs_same] at h1; exact h1
    · rw [e2, setBs_same] at h2; exact h2
  | false =>
    obtain ⟨e1, e2⟩ := opCall_ice (by rw [← hp, he0]) hf1
    rw [← e2] at e1
    have e3 := setBs_ice s e0.wrs bs0 s (fun _ _ h => h) e1
    intro w0 S n ι a w K Q hr hvc hK
    refine hs w0 S n ι a w K Q hr hvc fun ι' u w' h1 h2 => hK ι' u w' ?_ ?_
    · simp only; rw [← e2, e3]; exact h1
    · simp only; rw [← e2, e3]; exact h2
def prep2 (P : Program) (Γ : Gam) (o : Oper) (ρ : Operand → AV) : Option Eff2 :=
  match o.op with
  | .call c => match c.callee with
    | .value (.func f) => match Γ.modes f with
      | some _ => procEff P Γ o.dst f (c.args.toList.map ρ)
      | none => (prep P Γ o ρ).map (Eff.upQ (callQ Γ f (c.args.toList.map ρ)))
    | .value (.tmp t) => match ρ (.tmp t) with
      | .one (.d (.fn f)) => match Γ.modes f with
        | some _ => procEff P Γ o.dst f (c.args.toList.map ρ)
        | none => (prep P Γ o ρ).map (Eff.upQ (callQ Γ f (c.args.toList.map ρ)))
      | .one (.clo f cs) => procEff P Γ o.dst f (c.args.toList.map ρ ++ cs.map Cap.av)
      | _ => none
    | _ => (prep P Γ o ρ).map Eff.up
  | _ => (prep P Γ o ρ).map Eff.up
def aop (P : Program) (Γ : Gam) (n : Dom) (o : Oper) (s : AS) : Option (Prop × AS) :=
  if dstIn n o then
    match prep2 P Γ o s.eval with
    | some e => match e.f (e.rds.map s.bx) ((e.more (e.rds.map s.bx)).map s.bx) with
      | some (vc, v, ws) => some (vc, (s.setL ws).put o.dst v)
      | none => none
    | none => none
  else none
section
variable {P : Program} {o : Oper} {s : AS}
theorem right_procEff {Γ : Gam} {f : FuncId} {xs : List AV}
    (hex : enters P f = true → ∀ (w0 : World) (S : Scope) (n : Dom) (ι : Names) (a : Act) (w : World), RepS w0 S n s ι a w → ∃ vs : Array Value, (execOp a.eval o).run P w = .ok (.enter f vs) w ∧
      ∀ ι2 s2, s2.tm = s.tm → RepS w0 S n s2 ι2 a w → RepAVs w (Seen S w0.heap.size s2.bx ι2) ι2 s2.bx xs vs.toList) : Right2 P o s (procEff P Γ o.dst f xs) := by
  unfold procEff
  split
  · rename_i ms pin nnew hm hen
    intro e' he vc v ws hf
    simp only [Option.some.injEq] at he
    subst he
    simp only at hf
    have e1 : ((dataRefs ms xs ++ nubN (rawNames ms xs)).map s.bx).take (dataRefs ms xs).length = (dataRefs ms xs).map s.bx := by
      rw [List.map_append, List.take_left' (by simp)]
    have e2 : ((dataRefs ms xs ++ nubN (rawNames ms xs)).map s.bx).drop (dataRefs ms xs).length = (nubN (rawNames ms xs)).map s.bx := by
      rw [List.map_append, List.drop_left' (by simp)]
    rw [e1, e2] at hf
    generalize hl2 : innerNames (nubN (rawNames ms xs)) ((nubN (rawNames ms xs)).map s.bx) = l2 at hf
    generalize nextNames o.dst (nubN (rawNames ms xs) ++ l2) nnew = news at hf
    have e3 : ((l2 ++ news).map s.bx).take l2.length = l2.map s.bx := by rw [List.map_append, List.take_left' (by simp)]
    have e4 : ((l2 ++ news).map s.bx).drop l2.length = news.map s.bx := by rw [List.map_append, List.drop_left' (by simp)]
    rw [e3, e4, ← List.map_append] at hf
    exact sound_proc (hex hen) (fun b hb => hb) (fun b hb => by rw [List.mem_append]; exact .inl (mem_nubN.2 hb)) hf
  · exact .none
theorem args_reps {w0 : World} {S : Scope} {n : Dom} {a : Act} {w : World} {ι2 : Names} {s2 : AS} (ht : s2.tm = s.tm) (hr : RepS w0 S n s2 ι2 a w) (args : List Operand) : RepAVs w (Seen S w0.heap.size s2.bx ι2) ι2 s2.bx (args.map s.eval) (args.map a.eval) := by
  have heval : s2.eval = s.eval := by funext x; cases x <;> simp [AS.eval, ht]
  induction args with
  | nil => simp only [List.map_nil, RepAVs]
  | cons x xs ih =>
    simp only [List.map_cons, RepAVs]
    exact ⟨by rw [← heval]; exact hr.eval x, ih⟩
theorem caps_reps {w : World} {V : Nat → Prop} {ι : Names} {bx : Nat → Bx} : ∀ {cs : List Cap} {vs : List Value}, RepCaps ι bx w V cs vs → RepAVs w V ι bx (cs.map Cap.av) vs
  | [], [], _ => by simp only [List.map_nil, RepAVs]
  | c :: cs, v :: vs, h => by
    simp only [List.map_cons, RepAVs]
    refine ⟨?_, caps_reps h.2⟩
    cases c <;> simp only [Cap.av, RepAV, RepCl] <;> exact h.1
  | [], _ :: _, h => h.elim
  | _ :: _, [], h => h.elim
theorem repAVs_app {w : World} {V : Nat → Prop} {ι : Names} {bx : Nat → Bx} : ∀ {xs : List AV} {us : List Value} {ys : List AV} {vs : List Value}, RepAVs w V ι bx xs us → RepAVs w V ι bx ys vs → RepAVs w V ι bx (xs ++ ys) (us ++ vs)
  | [], [], _, _, _, h => h
  | _ :: _, _ :: _, _, _, h, h' => by
    simp only [RepAVs, List.cons_append] at h ⊢
    exact ⟨h.1, repAVs_app h.2 h'⟩
  | [], _ :: _, _, _, h, _ => by simp only [RepAVs] at h
  | _ :: _, [], _, _, h, _ => by simp only [RepAVs] at h
theorem right_prep2 {Γ : Gam} (o : Oper) (s : AS) : Right2 P o s (prep2 P Γ o s.eval) := by
  unfold prep2
  split
  · rename_i c h
    obtain ⟨callee, args, ts⟩ := c
    simp only
    split
    · rename_i f
      split
      · exact right_procEff fun hen w0 S n ι a w hr => ⟨args.map a.eval, run_static h hen w0 S n ι a w hr, fun ι2 s2 ht hr2 => by simpa using args_reps ht hr2 args.toList⟩
      · exact right_upQ (right_prep o s) (by unfold prep; rw [h])
    · rename_i t
      split
      · rename_i f hx
        split
        · exact right_procEff fun hen w0 S n ι a w hr => ⟨args.map a.eval, run_dynamic h hx hen w0 S n ι a w hr, fun ι2 s2 ht hr2 => by simpa using args_reps ht hr2 args.toList⟩
        · exact right_upQ (right_prep o s) (by unfold prep; rw [h]; simp only [hx])
      · rename_i f cs hx
        refine right_procEff fun hen w0 S n ι a w hr => ?_
        have hv := hr.eval (.tmp t)
        rw [hx] at hv
        simp only [RepAV, RepCl] at hv
        obtain ⟨lb, hv, hc⟩ := hv
        refine ⟨args.map a.eval ++ lb, ?_, fun ι2 s2 ht hr2 => ?_⟩
        · simp [execOp, h, resolve, hv, Deferred.ofValue, invoke, run_enter hen]
        · have hv2 := hr2.eval (.tmp t)
          have hx2 : s2.eval (.tmp t) = .one (.clo f cs) := by rw [← hx]; simp [AS.eval, ht]
          rw [hx2, hv] at hv2
          simp only [RepAV, RepCl] at hv2
          obtain ⟨lb2, e, hc2⟩ := hv2
          injection e with _ _ e
          subst e
          have := repAVs_app (args_reps ht hr2 args.toList) (caps_reps hc2)
          simpa using this
      · exact .none
    · exact (right_prep o s).up
  · exact (right_prep o s).up
theorem aop_sound {Γ : Gam} {n : Dom} {o : Oper} {s s' : AS} {vc : Prop} (h : aop P Γ n o s = some (vc, s')) {w0 : World} {S : Scope} {ι : Names} {a : Act} {w : World} {K : Act → World → Prop} {Q : Exit → Act → World → Prop}
    (hr : RepS w0 S n s ι a w) (hvc : vc) (hK : ∀ ι' a' w', RepS w0 S n s' ι' a' w' → K a' w') : o.wp P a w K Q := by
  unfold aop at h
  split at h
  · rename_i hd
    split at h
    · rename_i e he
      split at h
      · rename_i vc' v ws hf
        simp only [Option.some.injEq, Prod.mk.injEq] at h
        obtain ⟨rfl, rfl⟩ := h
        refine right_prep2 (Γ := Γ) o s e he vc' v ws hf w0 S n ι a w K Q hr hvc fun ι' u w' h1 h2 => hK ι' _ w' (h1.put (fun k hk => ?_) h2)
        unfold dstIn at hd
        rw [hk] at hd
        simpa using hd
      · cases h
    · cases h
  · cases h
theorem aop_nodefer {Γ : Gam} {n : Dom} {o : Oper} {s s' : AS} {vc : Prop} (h : aop P Γ n o s = some (vc, s')) : ∀ c, o.op ≠ .defer c := by
  intro c hc
  unfold aop prep2 prep at h
  rw [hc] at h
  simp at h
end
theorem prep_congr {P : Program} {Γ : Gam} {o : Oper} {ρ ρ' : Operand → AV} (h : ∀ x ∈ o.op.operands, ρ x = ρ' x) : prep P Γ o ρ = prep P Γ o ρ' := by
  obtain ⟨dst, op, type, pos, after, guard⟩ := o
  have pairs : ∀ ps : Array (Nat × Operand), (∀ x ∈ (ps.toList.map (·.2)), ρ x = ρ' x) → (ps.toList.map fun p => (p.1, ρ p.2)) = ps.toList.map fun p => (p.1, ρ' p.2) := fun ps hp =>
    List.map_congr_left fun p hm => by
      simp only [hp p.2 (List.mem_map.2 ⟨p, hm, rfl⟩)]
  have bnd : ∀ (o : Option Operand) d, (∀ x, o = some x → ρ x = ρ' x) → boundOf ρ o d = boundOf ρ' o d := fun o d ho => by
    cases o with
    | none => rfl
    | some x => simp only [boundOf, ho x rfl]
  cases op <;> simp only [Op.operands] at h <;> simp only [prep]
  case move x => rw [h x (by simp)]
  case assign x => rw [h x (by simp)]
  case pick c a b => simp only [opPick, h c (by simp), h a (by simp), h b (by simp)]
  case box t x => simp only [opBox, h x (by simp)]
  case build t ps => simp only [opBuild, pairs ps (fun x hx => h x (by simpa using hx))]
  case buildSlice t n ps => simp only [opBuildSlice, pairs ps (fun x hx => h x (by simpa using hx))]
  case load t x => simp only [opLoad, h x (by simp)]
  case store t x y => simp only [opStore, h x (by simp), h y (by simp)]
  case nilCheck x => simp only [opNilCheck, h x (by simp)]
  case binOp op t x y t' => simp only [opBin, h x (by simp), h y (by simp)]
  case unOp op t x => simp only [opUn, h x (by simp)]
  case convert s d x => simp only [opConv, opConvB, opConvM, h x (by simp)]
  case makeSlice t l c => simp only [opMakeSlice, h l (by simp), h c (by simp)]
  case slice t x lo hi mx =>
    have e0 : opSlice0 P ρ t x lo hi mx = opSlice0 P ρ' t x lo hi mx := by
      simp only [opSlice0, h x (by simp), bnd lo _ (fun y e => h y (by subst e; simp)), bnd hi _ (fun y e => h y (by subst e; simp))]
    have e1 : ∀ b n, opSliceR P ρ t b n lo hi mx = opSliceR P ρ' t b n lo hi mx := fun b n => by
      simp only [opSliceR, bnd hi _ (fun y e => h y (by subst e; simp))]
    simp only [opSlice, h x (by simp), e0, e1]
  case fieldAddr t x f => simp only [opFieldAddr, h x (by simp)]
  case field t x f => simp only [opField, h x (by simp)]
  case indexAddr t x y => simp only [opIndexAddr, h x (by simp), h y (by simp)]
  case index t x y => simp only [opIndex, h x (by simp), h y (by simp)]
  case extract x i => simp only [opExtract, h x (by simp)]
  case makeFunc fn fs cs =>
    have h1 : fs.toList.map ρ = fs.toList.map ρ' := List.map_congr_left fun x hx => h x (by simp; left; simpa using hx)
    have h2 : cs.toList.map ρ = cs.toList.map ρ' := List.map_congr_left fun x hx => h x (by simp; right; simpa using hx)
    simp only [h1, h2]
  case call c =>
    obtain ⟨callee, args, ts⟩ := c
    have hargs : ∀ x ∈ args.toList, ρ x = ρ' x := fun x hx => h x (by simp [Call.operands]; right; simpa using hx)
    have hm : args.toList.map ρ = args.toList.map ρ' := List.map_congr_left hargs
    cases callee with
    | value f =>
      cases f with
      | tmp t => simp only [hm, h (.tmp t) (by simp [Call.operands])]
      | const v => rfl
      | global g => rfl
      | func f => simp only [hm]
    | invoke r m => rfl
    | builtin b =>
      simp only
      generalize args.toList = l at hargs
      match b, l with
      | .len, [x] => simp only [hargs x (by simp)]
      | .max, [x, y] => simp only [hargs x (by simp), hargs y (by simp)]
      | .min, [x, y] => simp only [hargs x (by simp), hargs y (by simp)]
      | .append, [x, y] => simp only [hargs x (by simp), hargs y (by simp)]
      | b, [] => cases b <;> rfl
      | b, [x] => cases b <;> first | rfl | simp only [hargs x (by simp)]
      | b, [x, y] => cases b <;> first | rfl | simp only [hargs x (by simp), hargs y (by simp)]
      | b, _ :: _ :: _ :: _ => cases b <;> rfl
theorem prep2_congr {P : Program} {Γ : Gam} {o : Oper} {ρ ρ' : Operand → AV} (h : ∀ x ∈ o.op.operands, ρ x = ρ' x) : prep2 P Γ o ρ = prep2 P Γ o ρ' := by
  have h1 := prep_congr (P := P) (Γ := Γ) h
  unfold prep2
  rw [h1]
  cases hop : o.op with
  | call c =>
    obtain ⟨callee, args, ts⟩ := c
    rw [hop] at h
    simp only [Op.operands] at h
    have hargs : ∀ x ∈ args.toList, ρ x = ρ' x := fun x hx => h x (by simp [Call.operands]; right; simpa using hx)
    have hm : args.toList.map ρ = args.toList.map ρ' := List.map_congr_left hargs
    cases callee with
    | value x =>
      cases x with
      | func f => simp only [hm]
      | tmp t => simp only [hm, h (.tmp t) (by simp [Call.operands])]
      | const v => rfl
      | global g => rfl
    | invoke r m => rfl
    | builtin b => rfl
  | _ => rfl
/-! ### fences that let everything in -/
def Wide (F : Fence) : Prop := F = Fence.wide ∨ ∃ l, F = Fence.wide.inRound l
theorem Wide.fn {F : Fence} (h : Wide F) (f : FuncId) : F.fn f := by
  rcases h with rfl | ⟨l, rfl⟩ <;> trivial
theorem Wide.depth {F : Fence} (h : Wide F) : F.depth = none := by
  rcases h with rfl | ⟨l, rfl⟩ <;> rfl
theorem Wide.room {F : Fence} (h : Wide F) (n : Nat) : F.room n := fun d hd => by rw [h.depth] at hd; cases hd
theorem Wide.calls {F : Fence} (h : Wide F) {n : Nat} {P : Program} {f : FuncId} {args : Array Value} {w : World} {R : Ending → World → Prop} (hc : Calls P f args w R) : CallsIn F n P f args w R := by
  have h1 : CallsIn Fence.wide n P f args w R := callsIn_wide.2 hc
  rcases h with rfl | ⟨l, rfl⟩
  · exact h1
  · exact h1
theorem Wide.rows {F : Fence} (h : Wide F) {n : Nat} {P : Program} {row : String} {args : Array Value} {w : World} {R : Value → World → Prop} (hc : Rows P row args w R) : RowsIn F n P row args w R := by
  have h1 : RowsIn Fence.wide n P row args w R := fun c cs _ => by
    obtain ⟨v, w', r, st⟩ := hc c cs
    exact ⟨v, w', r, stepsIn_wide.2 st⟩
  rcases h with rfl | ⟨l, rfl⟩
  · exact h1
  · exact h1
theorem Oper.wpIn_of_wp {F : Fence} (hF : Wide F) {m : Nat} {P : Program} {o : Oper} (hd : ∀ c, o.op ≠ .defer c) {a : Act} {w : World} {K : Act → World → Prop} {Q : Exit → Act → World → Prop} (h : o.wp P a w K Q) : o.wpIn F m P a w K Q := by
  refine ⟨fun f _ => hF.fn f, ?_⟩
  rw [Oper.semAt_eq _ _ _ hd]
  unfold Oper.wp at h
  revert h
  generalize (execOp a.eval o).run P w = r
  intro h
  cases r with
  | ok nx w' =>
    cases nx with
    | value v => exact h
    | skip => exact h
    | defer d => exact h
    | enter f args => exact ⟨fun hx => by (rw [hF.depth] at hx; cases hx), hF.calls h⟩
    | row row args => exact ⟨fun hx => by (rw [hF.depth] at hx; cases hx), hF.rows h⟩
    | _ => exact h.elim
  | halt s w' =>
    cases s with
    | panic v => exact h
    | _ => exact h.elim
/-
  A region whose order is drawn: what is right in the order of the text is right in every order.
-/
section
variable (P : Program) (Γ : Gam) (n : Dom) (ops : Array Oper)
/-- is an operation carried out: what its guard answers -/
def gv (s : AS) (o : Oper) : Option Bool :=
  match o.guard with
  | none => some true
  | some (j, want) => match (ops[j]?).bind (·.dst) with
    | none => none
    | some t => match s.tm t with
      | .tup [] => some false
      | x => x.bool?.map (· == want)
def astep (i : Nat) (s : AS) : Option (Prop × AS) :=
  match ops[i]? with
  | none => none
  | some o => match gv ops s o with
    | none => none
    | some true => aop P Γ n o s
    | some false => if dstIn n o then some (True, s.put o.dst (.tup [])) else none
def touch (i : Nat) (s : AS) : List Nat × List Nat :=
  match ops[i]? with
  | none => ([], [])
  | some o => match gv ops s o with
    | some true => match prep2 P Γ o s.eval with
      | some e => e.touch s.bx
      | none => ([], [])
    | _ => ([], [])
def Runs (τ : Nat → List Nat × List Nat) : List Nat → AS → AS → Prop
  | [], s, s' => s = s'
  | i :: R, s, s' => ∃ vc s1, astep P Γ n ops i s = some (vc, s1) ∧ vc ∧ touch P Γ ops i s = τ i ∧ Runs τ R s1 s'
def apartB (x y : List Nat × List Nat) : Bool :=
  (x.2.all fun b => !y.1.contains b && !y.2.contains b) && (y.2.all fun b => !x.1.contains b)
def indep (τ : Nat → List Nat × List Nat) (i j : Nat) : Bool :=
  match ops[i]?, ops[j]? with
  | some x, some y => x.apart ops y && apartB (τ i) (τ j)
  | _, _ => false
end
section
variable {P : Program} {Γ : Gam} {n : Dom} {ops : Array Oper}
theorem put_tm (s : AS) (d : Option Nat) (v : AV) (t : Nat) (h : d ≠ some t) : (s.put d v).tm t = s.tm t := by
  cases d with
  | none => rfl
  | some d => simp only [AS.put]; rw [if_neg (fun e => h (by rw [e]))]
theorem put_bx (s : AS) (d : Option Nat) (v : AV) : (s.put d v).bx = s.bx := by cases d <;> rfl
theorem setBs_bx_other : ∀ (bs : List Nat) (Bs : List Bx) (s : AS) (b : Nat), b ∉ bs → (s.setBs bs Bs).bx b = s.bx b
  | [], _, _, _, _ => by simp [AS.setBs]
  | _ :: _, [], _, _, _ => by simp [AS.setBs]
  | x :: bs, B :: Bs, s, b, h => by
    rw [AS.setBs, setBs_bx_other bs Bs _ b (fun e => h (by simp [e]))]
    simp only [AS.setB]
    rw [if_neg (fun e => h (by simp [e]))]
theorem setBs_bx_congr : ∀ (bs : List Nat) (Bs : List Bx) (s s' : AS) (b : Nat), (b ∉ bs → s.bx b = s'.bx b) → (Bs.length < bs.length → s.bx b = s'.bx b) → (s.setBs bs Bs).bx b = (s'.setBs bs Bs).bx b
  | [], _, _, _, _, h, _ => by simpa [AS.setBs] using h (by simp)
  | _ :: _, [], _, _, _, _, h => by simpa [AS.setBs] using h (by simp)
  | x :: bs, B :: Bs, s, s', b, h, h' => by
    rw [AS.setBs, AS.setBs]
    by_cases e : b = x
    · refine setBs_bx_congr bs Bs _ _ b (fun _ => by simp [AS.setB, e]) (fun _ => by simp [AS.setB, e])
    · refine setBs_bx_congr bs Bs _ _ b (fun hb => ?_) (fun hl => ?_)
      · simp only [AS.setB, if_neg e]; exact h (by simp [e, hb])
      · simp only [AS.setB, if_neg e]; exact h' (by simpa using hl)
/-- what an operation does, when it does: a value for its slot, contents for some boxes -/
theorem astep_form {i : Nat} {s s1 : AS} {vc : Prop} (h : astep P Γ n ops i s = some (vc, s1)) : ∃ o v wrs bs, ops[i]? = some o ∧ wrs = (touch P Γ ops i s).2 ∧ s1 = (s.setBs wrs bs).put o.dst v := by
  unfold astep at h
  split at h
  · cases h
  · rename_i o ho
    split at h
    · cases h
    · rename_i hg
      unfold aop at h
      split at h
      · split at h
        · rename_i e he
          split at h
          · rename_i vc' v ws hf
            simp only [Option.some.injEq, Prod.mk.injEq] at h
            obtain ⟨rfl, rfl⟩ := h
            exact ⟨o, v, ws.map (·.1), ws.map (·.2), ho, by simp [touch, ho, hg, he, Eff2.touch, hf], rfl⟩
          · cases h
        · cases h
      · cases h
    · rename_i hg
      split at h
      · simp only [Option.some.injEq, Prod.mk.injEq] at h
        obtain ⟨rfl, rfl⟩ := h
        exact ⟨o, .tup [], [], [], ho, by simp [touch, ho, hg], by simp [AS.setBs]⟩
      · cases h
/-- an operation does the same in two states that agree on what it looks at -/
theorem astep_congr {i : Nat} {o : Oper} (ho : ops[i]? = some o) {s s' : AS} (htm : ∀ t ∈ o.looksAt ops, s.tm t = s'.tm t) :
    (∀ b ∈ (touch P Γ ops i s).1, s.bx b = s'.bx b) → touch P Γ ops i s = touch P Γ ops i s' ∧ (∀ vc s1, astep P Γ n ops i s = some (vc, s1) →
      ∃ v bs, s1 = (s.setBs (touch P Γ ops i s).2 bs).put o.dst v ∧ astep P Γ n ops i s' = some (vc, (s'.setBs (touch P Γ ops i s).2 bs).put o.dst v)) := by
  have hgv : gv ops s o = gv ops s' o := by
    unfold gv
    cases hg : o.guard with
    | none => rfl
    | some jw =>
      obtain ⟨j, want⟩ := jw
      simp only
      cases ht : (ops[j]?).bind (·.dst) with
      | none => rfl
      | some t =>
        have : s.tm t = s'.tm t := htm t (by simp [Oper.looksAt, hg, ht])
        simp only [this]
  have hev : ∀ x ∈ o.op.operands, s.eval x = s'.eval x := fun x hx => by
    cases x with
    | tmp t => exact htm t (by simp only [Oper.looksAt, List.mem_append, List.mem_filterMap]; exact .inl ⟨_, by simpa using hx, rfl⟩)
    | const v => rfl
    | global g => rfl
    | func f => rfl
  have hprep : prep2 P Γ o s.eval = prep2 P Γ o s'.eval := prep2_congr hev
  intro hbx
  have htouch : touch P Γ ops i s = touch P Γ ops i s' := by
    simp only [touch, ho, ← hgv, ← hprep] at hbx ⊢
    cases hg : gv ops s o with
    | none => rfl
    | some g =>
      cases g with
      | false => rfl
      | true =>
        rw [hg] at hbx
        cases he : prep2 P Γ o s.eval with
        | none => rfl
        | some e =>
          rw [he] at hbx
          simp only at hbx ⊢
          exact e.touch_congr hbx
  refine ⟨htouch, fun vc s1 h => ?_⟩
  unfold astep at h ⊢
  simp only [ho] at h ⊢
  rw [← hgv]
  cases hg : gv ops s o with
  | none => rw [hg] at h; cases h
  | some g =>
    rw [hg] at h
    cases g with
    | false =>
      simp only at h ⊢
      split at h
      · rename_i hd
        simp only [Option.some.injEq, Prod.mk.injEq] at h
        obtain ⟨rfl, rfl⟩ := h
        have ht : (touch P Γ ops i s).2 = [] := by simp [touch, ho, hg]
        exact ⟨.tup [], [], by rw [ht]; simp [AS.setBs], by rw [ht, if_pos hd]; simp [AS.setBs]⟩
      · cases h
    | true =>
      simp only at h ⊢
      unfold aop at h ⊢
      split at h
      · rename_i hd
        rw [if_pos hd, ← hprep]
        cases he : prep2 P Γ o s.eval with
        | none => rw [he] at h; cases h
        | some e =>
          rw [he] at h
          simp only at h ⊢
          have ht : touch P Γ ops i s = e.touch s.bx := by simp [touch, ho, hg, he]
          rw [ht] at hbx
          obtain ⟨m1, m2⟩ := e.agree hbx
          rw [← m1] at m2 ⊢
          rw [← m2]
          cases hf : e.f (e.rds.map s.bx) ((e.more (e.rds.map s.bx)).map s.bx) with
          | none => rw [hf] at h; cases h
          | some r =>
            obtain ⟨vc', v, ws⟩ := r
            rw [hf] at h
            simp only [Option.some.injEq, Prod.mk.injEq] at h ⊢
            obtain ⟨rfl, rfl⟩ := h
            have ht2 : (touch P Γ ops i s).2 = ws.map (·.1) := by rw [ht]; simp [Eff2.touch, hf]
            exact ⟨v, ws.map (·.2), by rw [ht2]; rfl, rfl, by rw [ht2]; rfl⟩
      · cases h
theorem swap {τ : Nat → List Nat × List Nat} {i j : Nat} (hi : indep ops τ j i = true) {s s1 s2 : AS} {v1 v2 : Prop}
    (h1 : astep P Γ n ops j s = some (v1, s1)) (t1 : touch P Γ ops j s = τ j) (h2 : astep P Γ n ops i s1 = some (v2, s2)) (t2 : touch P Γ ops i s1 = τ i) :
    ∃ s1', astep P Γ n ops i s = some (v2, s1') ∧ touch P Γ ops i s = τ i ∧ astep P Γ n ops j s1' = some (v1, s2) ∧ touch P Γ ops j s1' = τ j := by
  unfold indep at hi
  split at hi
  · rename_i oj oi hoj hoi
    simp only [Bool.and_eq_true] at hi
    obtain ⟨hap, hb⟩ := hi
    obtain ⟨a1, a2, a3⟩ := Oper.apart_spec hap
    simp only [apartB, Bool.and_eq_true, List.all_eq_true, Bool.not_eq_true'] at hb
    obtain ⟨b1, b2⟩ := hb
    -- the first operation's form
    obtain ⟨o', v, wrs, bs, ho', hw, hs1⟩ := astep_form h1
    rw [hoj] at ho'
    injection ho' with ho'
    subst ho'
    rw [t1] at hw
    -- what the second looks at is as it was
    have htm1 : ∀ t ∈ oi.looksAt ops, s1.tm t = s.tm t := fun t ht => by
      rw [hs1, put_tm _ _ _ _ (fun e => a1 t e ht), setBs_tm]
    have hbx1 : ∀ b, b ∉ (τ j).2 → s1.bx b = s.bx b := fun b hb => by
      rw [hs1, put_bx, setBs_bx_other _ _ _ _ (by rw [hw]; exact hb)]
    obtain ⟨c1, c2⟩ := astep_congr (P := P) (Γ := Γ) (n := n) hoi htm1 (by
      rw [t2]
      exact fun b hb => hbx1 b (fun hm => by
        have := b1 b hm
        simp only [List.contains_eq_mem, decide_eq_false_iff_not] at this
        exact this.1 hb))
    rw [t2] at c1 c2
    obtain ⟨v', bs', e1, e2⟩ := c2 _ _ h2
    -- and the first, behind the second
    have htm2 : ∀ t ∈ oj.looksAt ops, s.tm t = ((s.setBs (τ i).2 bs').put oi.dst v').tm t := fun t ht => by
      rw [put_tm _ _ _ _ (fun e => a3 t e ht), setBs_tm]
    obtain ⟨d1, d2⟩ := astep_congr (P := P) (Γ := Γ) (n := n) hoj htm2 (by
      rw [t1]
      intro b hb
      rw [put_bx, setBs_bx_other]
      intro hm
      have := b2 b hm
      simp only [List.contains_eq_mem, decide_eq_false_iff_not] at this
      exact this hb)
    rw [t1] at d1 d2
    obtain ⟨v'', bs'', f1, f2⟩ := d2 _ _ h1
    refine ⟨_, e2, c1.symm, ?_, d1.symm⟩
    rw [f2]
    congr 1
    congr 1
    rw [e1, f1]
    apply AS.ext'
    · funext t
      have q : ∀ (s : AS) (d : Option Nat) (x : AV) (bs : List Nat) (Bs : List Bx), ((s.setBs bs Bs).put d x).tm = (s.put d x).tm := fun s d x bs Bs => by
        cases d with
        | none => simp [AS.put, setBs_tm]
        | some d => simp [AS.put, setBs_tm]
      by_cases g1 : oj.dst = some t
      · have g2 : oi.dst ≠ some t := a2 t g1
        rw [put_tm _ oi.dst _ _ g2, setBs_tm, g1]
        simp [AS.put]
      · rw [put_tm _ oj.dst _ _ g1, setBs_tm]
        by_cases g2 : oi.dst = some t
        · rw [g2]; simp [AS.put]
        · rw [put_tm _ oi.dst _ _ g2, put_tm _ oi.dst _ _ g2, setBs_tm, setBs_tm, put_tm _ oj.dst _ _ g1, setBs_tm]
    · funext b
      rw [put_bx, put_bx]
      by_cases g1 : b ∈ (τ j).2
      · have hni : b ∉ (τ i).2 := fun hm => by
          have := b1 b g1
          simp only [List.contains_eq_mem, decide_eq_false_iff_not] at this
          exact this.2 hm
        rw [setBs_bx_other (τ i).2 bs' _ b hni, put_bx]
        refine setBs_bx_congr _ _ _ _ _ (fun h => absurd g1 h) (fun _ => ?_)
        rw [put_bx, setBs_bx_other _ _ _ _ hni]
      · rw [setBs_bx_other (τ j).2 bs'' _ b g1, put_bx]
        refine setBs_bx_congr _ _ _ _ _ (fun _ => ?_) (fun _ => ?_) <;> rw [put_bx, setBs_bx_other _ _ _ _ g1]
  · cases hi
theorem front {τ : Nat → List Nat × List Nat} {i : Nat} {B : List Nat} {s' : AS} : ∀ {A : List Nat} {s : AS}, (∀ j ∈ A, indep ops τ j i = true) → Runs P Γ n ops τ (A ++ i :: B) s s' →
    ∃ vc s1, astep P Γ n ops i s = some (vc, s1) ∧ vc ∧ touch P Γ ops i s = τ i ∧ Runs P Γ n ops τ (A ++ B) s1 s'
  | [], s, _, h => h
  | j :: A, s, hA, h => by
    obtain ⟨vj, sj, h1, h2, h3, h4⟩ := h
    obtain ⟨vi, si, g1, g2, g3, g4⟩ := front (fun k hk => hA k (by simp [hk])) h4
    obtain ⟨s1', e1, e2, e3, e4⟩ := swap (hA j (by simp)) h1 h3 g1 g3
    exact ⟨vi, s1', e1, g2, e2, vj, si, e3, h2, e4, g4⟩
end
section
variable (ops : Array Oper)
/-- what must come ahead of an operation, directly or through others: as the bits of a number -/
def maskE (k : Nat) (t : List Nat) : List Edge → Nat
  | [] => 0
  | e :: es => match Region.binds .any e && decide (e.on < k) with
    | true => (2 ^ e.on ||| t.getD e.on 0) ||| maskE k t es
    | false => maskE k t es
def maskTab : Nat → List Nat
  | 0 => []
  | k + 1 => maskTab k ++ [match ops[k]? with
    | some o => maskE k (maskTab k) o.after.toList
    | none => 0]
def isBefore (j i : Nat) : Bool := ((maskTab ops ops.size).getD i 0).testBit j
/-- what is listed has all that must come ahead of it listed -/
def Listed (listed : Array Bool) : Prop := ∀ i o, ops[i]? = some o → listed.getD i true = true → i < listed.size → ∀ e ∈ o.after.toList, Region.binds .any e = true → listed.getD e.on false = true
theorem maskTab_len : ∀ k, (maskTab ops k).length = k
  | 0 => rfl
  | k + 1 => by simp [maskTab, maskTab_len k]
theorem maskTab_at : ∀ {n k : Nat}, k < n → (maskTab ops n).getD k 0 = match ops[k]? with
    | some o => maskE k (maskTab ops k) o.after.toList
    | none => 0
  | n + 1, k, h => by
    simp only [maskTab, List.getD_eq_getElem?_getD]
    by_cases e : k < n
    · rw [List.getElem?_append_left (by rw [maskTab_len]; exact e)]
      have := maskTab_at (n := n) e
      rwa [List.getD_eq_getElem?_getD] at this
    · have : k = n := by omega
      subst this
      rw [List.getElem?_append_right (by rw [maskTab_len]; omega), maskTab_len]
      simp
theorem maskE_bit {k j : Nat} {t : List Nat} : ∀ {es : List Edge}, (maskE k t es).testBit j = true → ∃ e ∈ es, Region.binds .any e = true ∧ e.on < k ∧ (e.on = j ∨ (t.getD e.on 0).testBit j = true)
  | [], h => by simp [maskE] at h
  | e :: es, h => by
    simp only [maskE] at h
    cases hb : Region.binds .any e && decide (e.on < k) with
    | false =>
      rw [hb] at h
      obtain ⟨e', h1, h2⟩ := maskE_bit h
      exact ⟨e', by simp [h1], h2⟩
    | true =>
      rw [hb] at h
      simp only [Nat.testBit_or, Bool.or_eq_true, Nat.testBit_two_pow] at h
      simp only [Bool.and_eq_true, decide_eq_true_eq] at hb
      rcases h with (h | h) | h
      · exact ⟨e, by simp, hb.1, hb.2, .inl (by simpa using h)⟩
      · exact ⟨e, by simp, hb.1, hb.2, .inr h⟩
      · obtain ⟨e', h1, h2⟩ := maskE_bit h
        exact ⟨e', by simp [h1], h2⟩
theorem before_listed {listed : Array Bool} (hc : Listed ops listed) (hsz : listed.size = ops.size) : ∀ (i j : Nat) (o : Oper), ops[i]? = some o → (∀ e ∈ o.after.toList, Region.binds .any e = true → listed.getD e.on false = true) → isBefore ops j i = true → listed.getD j false = true := by
  intro i
  induction i using Nat.strongRecOn with
  | ind i ih =>
    intro j o ho haft hb
    have hi : i < ops.size := (Array.getElem?_eq_some_iff.1 ho).1
    unfold isBefore at hb
    rw [maskTab_at ops hi, ho] at hb
    obtain ⟨e, h1, h2, h3, h4⟩ := maskE_bit hb
    have hl := haft e h1 h2
    rcases h4 with rfl | h4
    · exact hl
    · have he : e.on < ops.size := by omega
      refine ih e.on h3 j ops[e.on] (Array.getElem?_eq_getElem he) ?_ ?_
      · refine hc e.on _ (Array.getElem?_eq_getElem he) ?_ (by omega)
        have : e.on < listed.size := by omega
        simp [Array.getD, this] at hl ⊢
        exact hl
      · unfold isBefore
        rw [maskTab_at ops he]
        rw [maskTab_at ops h3] at h4
        exact h4
/-- operations that may change places do not touch one another -/
def regOK (τ : Nat → List Nat × List Nat) : Bool :=
  (List.range ops.size).all fun i => ((ops[i]?).any fun o => o.after.all fun e => !Region.binds .any e || decide (e.on < i)) && (List.range i).all fun j => isBefore ops j i || indep ops τ j i
end
section
variable {P : Program} {Γ : Gam} {n : Dom} {ops : Array Oper}
theorem gv_wanted {w0 : World} {S : Scope} {s : AS} {ι : Names} {a : Act} {w : World} (h : RepS w0 S n s ι a w) {o : Oper} {g : Bool} (hg : gv ops s o = some g) : Region.wanted o (yielded ops a.tmps) = g := by
  unfold gv at hg
  unfold Region.wanted
  cases ho : o.guard with
  | none => rw [ho] at hg; simp only [Option.some.injEq] at hg; exact hg
  | some jw =>
    obtain ⟨j, want⟩ := jw
    rw [ho] at hg
    simp only at hg ⊢
    cases ht : (ops[j]?).bind (·.dst) with
    | none => rw [ht] at hg; cases hg
    | some t =>
      rw [ht] at hg
      simp only at hg
      have hr := h.tm t
      unfold yielded
      rw [ht]
      simp only [Option.bind_some]
      split at hg
      · rename_i hs
        rw [hs] at hr
        simp only [RepAV] at hr
        obtain ⟨cur, e, hc⟩ := hr
        have hcur : cur = #[] := by
          cases hcl : cur.toList with
          | nil => exact Array.toList_eq_nil_iff.1 hcl
          | cons _ _ => rw [hcl] at hc; simp only [RepAVs] at hc
        subst hcur
        simp only [Option.some.injEq] at hg
        subst hg
        rw [Array.getD_eq_getD_getElem?] at e
        cases hx : a.tmps[t]? with
        | none => rfl
        | some x =>
          rw [hx] at e
          simp only [Option.getD_some] at e
          subst e
          rfl
      · cases hb : (s.tm t).bool? with
        | none => rw [hb] at hg; cases hg
        | some b =>
          rw [hb] at hg
          simp only [Option.map_some, Option.some.injEq] at hg
          subst hg
          have e := rep_bool hr hb
          rw [Array.getD_eq_getD_getElem?] at e
          cases hx : a.tmps[t]? with
          | none => rw [hx] at e; simp [undef] at e
          | some x =>
            rw [hx] at e
            simp only [Option.getD_some] at e
            subst e
            simp only
            cases b <;> cases want <;> rfl
/-- one step, in the model -/
theorem astep_sound {F : Fence} {m : Nat} (hF : Wide F) {w0 : World} {S : Scope} {s s1 : AS} {ι : Names} {a : Act} {w : World} {i : Nat} {vc : Prop} (h : astep P Γ n ops i s = some (vc, s1)) (hr : RepS w0 S n s ι a w) (hvc : vc) {K : Act → World → Prop} {Q : Exit → Act → World → Prop}
    (hK : ∀ ι' a' w', RepS w0 S n s1 ι' a' w' → K a' w') : wpOpIn F m P ops Q i K a w := by
  unfold astep at h
  unfold Go.wpOpIn
  split at h
  · cases h
  · rename_i o ho
    simp only [ho]
    split at h
    · cases h
    · rename_i hg
      rw [if_pos (gv_wanted hr hg)]
      exact Oper.wpIn_of_wp hF (aop_nodefer h) (aop_sound h hr hvc hK)
    · rename_i hg
      rw [gv_wanted hr hg, if_neg (by simp)]
      split at h
      · rename_i hd
        simp only [Option.some.injEq, Prod.mk.injEq] at h
        obtain ⟨rfl, rfl⟩ := h
        refine ⟨fun _ _ => hF.fn _, hK ι _ w (hr.put (fun k hk => ?_) (by simp only [RepAV]; exact ⟨_, rfl, by simp only [RepAVs]⟩))⟩
        unfold dstIn at hd
        rw [hk] at hd
        simpa using hd
      · cases h
/-- in the order of the text -/
theorem runs_wpOps {F : Fence} {m : Nat} (hF : Wide F) {τ : Nat → List Nat × List Nat} {w0 : World} {S : Scope} {Q : Exit → Act → World → Prop} {s' : AS} : ∀ {R : List Nat} {s : AS} {ι : Names} {a : Act} {w : World}, Runs P Γ n ops τ R s s' → RepS w0 S n s ι a w →
    (∀ ι' a' w', RepS w0 S n s' ι' a' w' → Q .normal a' w') → wpOpsIn F m P ops Q R a w
  | [], s, ι, a, w, h, hr, hQ => by
    have h : s = s' := h
    subst h; exact hQ ι a w hr
  | i :: R, s, ι, a, w, ⟨vc, s1, h1, h2, _, h4⟩, hr, hQ => by
    rw [wpOpsIn_cons]
    exact astep_sound hF h1 hr h2 fun ι' a' w' hr' => runs_wpOps hF h4 hr' hQ
def left (ops : Array Oper) (listed : Array Bool) : List Nat := (List.range ops.size).filter fun i => !listed.getD i true
theorem runs_any {F : Fence} {m : Nat} (hF : Wide F) {τ : Nat → List Nat × List Nat} (hok : regOK ops τ = true) {w0 : World} {S : Scope} {Q : Exit → Act → World → Prop} {s' : AS} (hQ : ∀ ι' a' w', RepS w0 S n s' ι' a' w' → Q .normal a' w') :
    ∀ (fuel : Nat) (listed : Array Bool) (s : AS) (ι : Names) (a : Act) (w : World), Listed ops listed → listed.size = ops.size → (left ops listed).length ≤ fuel → Runs P Γ n ops τ (left ops listed) s s' → RepS w0 S n s ι a w → wpAnyIn F m P .any ops Q fuel listed a w := by
  simp only [regOK, List.all_eq_true, Bool.and_eq_true] at hok
  have hready : ∀ (listed : Array Bool) i, i ∈ Region.ready .any ops listed ↔ i < ops.size ∧ listed.getD i true = false ∧ ((ops[i]?).map (·.after.all fun e => !Region.binds .any e || listed.getD e.on false)).getD false = true := by
    intro listed i
    simp [Region.ready, List.mem_filter]
  have hempty : ∀ listed : Array Bool, listed.size = ops.size → Region.ready .any ops listed = [] → left ops listed = [] := by
    intro listed hsz hr
    -- else the least one that is left is ready
    cases hl : left ops listed with
    | nil => rfl
    | cons i R =>
      exfalso
      have hi : i ∈ left ops listed := by rw [hl]; simp
      simp only [left, List.mem_filter, List.mem_range, Bool.not_eq_true'] at hi
      have hsorted : ∀ j, j < i → listed.getD j true = true := by
        intro j hj
        cases hjv : listed.getD j true with
        | true => rfl
        | false =>
          exfalso
          have hjm : j ∈ left ops listed := by
            simp only [left, List.mem_filter, List.mem_range, Bool.not_eq_true']
            exact ⟨by omega, hjv⟩
          have hp : (left ops listed).Pairwise (· < ·) := List.Pairwise.filter _ List.pairwise_lt_range
          rw [hl] at hjm hp
          rcases List.mem_cons.1 hjm with e | hm
          · omega
          · have := (List.pairwise_cons.1 hp).1 j hm
            omega
      have : i ∈ Region.ready .any ops listed := by
        rw [hready]
        refine ⟨hi.1, hi.2, ?_⟩
        have h1 := (hok i (List.mem_range.2 hi.1)).1
        cases ho : ops[i]? with
        | none => rw [ho] at h1; simp at h1
        | some o =>
          rw [ho] at h1
          simp only [Option.any_some, Option.map_some, Option.getD_some] at h1 ⊢
          rw [Array.all_eq_true_iff_forall_mem] at h1 ⊢
          intro e he
          have h2 := h1 e he
          simp only [Bool.or_eq_true, Bool.not_eq_true', decide_eq_true_eq] at h2 ⊢
          rcases h2 with h2 | h2
          · exact .inl h2
          · right
            have h3 := hsorted e.on h2
            have hlt : e.on < listed.size := by omega
            simp [Array.getD, hlt] at h3 ⊢
            exact h3
      rw [hr] at this
      simp at this
  intro fuel
  induction fuel with
  | zero =>
    intro listed s ι a w hcl hsz hl hruns hr
    have h0 : left ops listed = [] := List.eq_nil_of_length_eq_zero (by omega)
    rw [h0] at hruns
    have hs : s = s' := hruns
    subst hs
    refine ⟨?_, hQ ι a w hr⟩
    cases hre : Region.ready .any ops listed with
    | nil => rfl
    | cons i R =>
      exfalso
      have : i ∈ Region.ready .any ops listed := by rw [hre]; simp
      rw [hready] at this
      have hm : i ∈ left ops listed := by
        simp only [left, List.mem_filter, List.mem_range, Bool.not_eq_true']
        exact ⟨this.1, this.2.1⟩
      rw [h0] at hm
      simp at hm
  | succ fuel ih =>
    intro listed s ι a w hcl hsz hl hruns hr
    refine ⟨fun he => ?_, fun i hi => ?_⟩
    · have h0 := hempty listed hsz he
      rw [h0] at hruns
      have hs : s = s' := hruns
      subst hs
      exact hQ ι a w hr
    · rw [hready] at hi
      obtain ⟨hlt, hnl, haft⟩ := hi
      have hm : i ∈ left ops listed := by
        simp only [left, List.mem_filter, List.mem_range, Bool.not_eq_true']
        exact ⟨hlt, hnl⟩
      obtain ⟨A, B, hAB⟩ := List.append_of_mem hm
      have hp : (left ops listed).Pairwise (· < ·) := List.Pairwise.filter _ List.pairwise_lt_range
      rw [hAB] at hp
      have hA : ∀ j ∈ A, j < i ∧ listed.getD j true = false := fun j hj => by
        refine ⟨(List.pairwise_append.1 hp).2.2 j hj i (by simp), ?_⟩
        have : j ∈ left ops listed := by rw [hAB]; simp [hj]
        simp only [left, List.mem_filter, List.mem_range, Bool.not_eq_true'] at this
        exact this.2
      have hind : ∀ j ∈ A, indep ops τ j i = true := fun j hj => by
        obtain ⟨h1, h2⟩ := hA j hj
        have h3 := (hok i (List.mem_range.2 hlt)).2 j (List.mem_range.2 h1)
        simp only [Bool.or_eq_true] at h3
        rcases h3 with h3 | h3
        · exfalso
          cases ho : ops[i]? with
          | none => rw [ho] at haft; simp at haft
          | some o =>
            rw [ho] at haft
            simp only [Option.map_some, Option.getD_some] at haft
            have h4 := before_listed ops hcl hsz i j o ho (fun e he hb => by
              have := Array.all_eq_true_iff_forall_mem.1 haft e (Array.mem_toList_iff.1 he)
              simpa [hb] using this) h3
            by_cases hlt' : j < listed.size
            · simp [Array.getD, hlt'] at h2 h4
              rw [h2] at h4; cases h4
            · simp [Array.getD, hlt'] at h2
        · exact h3
      rw [hAB] at hruns
      obtain ⟨vc, s1, g1, g2, _, g4⟩ := front hind hruns
      have hleft : left ops (listed.setIfInBounds i true) = A ++ B := by
        have hnodup : (left ops listed).Nodup := (List.nodup_range).filter _
        have e1 : left ops (listed.setIfInBounds i true) = (left ops listed).filter fun k => decide (k ≠ i) := by
          simp only [left, List.filter_filter]
          apply List.filter_congr
          intro k hk
          have hk' : k < ops.size := List.mem_range.1 hk
          by_cases e : k = i
          · subst e
            simp [Array.getD, hsz, hlt]
          · have : (listed.setIfInBounds i true).getD k true = listed.getD k true := by
              simp only [Array.getD_eq_getD_getElem?, Array.getElem?_setIfInBounds_ne (Ne.symm e)]
            rw [this]; simp [e]
        rw [e1, hAB, List.filter_append, List.filter_cons]
        rw [hAB] at hnodup
        have hn := List.nodup_append.1 hnodup
        have hA' : A.filter (fun k => decide (k ≠ i)) = A := List.filter_eq_self.2 fun k hk => by
          have := (hA k hk).1
          simp; omega
        have hB' : B.filter (fun k => decide (k ≠ i)) = B := List.filter_eq_self.2 fun k hk => by
          have : i ≠ k := fun e => by
            have := (List.nodup_cons.1 hn.2.1).1
            exact this (by rw [e]; exact hk)
          simp; exact Ne.symm this
        rw [hA', hB']
        simp
      refine astep_sound hF g1 hr g2 fun ι' a' w' hr' => ?_
      have hcl2 : Listed ops (listed.setIfInBounds i true) := by
        intro k ok hk hkl hks e he hb
        have hmono : ∀ q, listed.getD q false = true → (listed.setIfInBounds i true).getD q false = true := fun q hq => by
          by_cases e' : q = i
          · subst e'
            simp [Array.getD, hsz, hlt]
          · simp only [Array.getD_eq_getD_getElem?, Array.getElem?_setIfInBounds_ne (Ne.symm e')] at hq ⊢
            exact hq
        refine hmono _ ?_
        by_cases e' : k = i
        · subst e'
          rw [hk] at haft
          simp only [Option.map_some, Option.getD_some] at haft
          have := Array.all_eq_true_iff_forall_mem.1 haft e (Array.mem_toList_iff.1 he)
          simpa [hb] using this
        · have hkl' : listed.getD k true = true := by
            simp only [Array.getD_eq_getD_getElem?, Array.getElem?_setIfInBounds_ne (Ne.symm e')] at hkl ⊢
            exact hkl
          exact hcl k ok hk hkl' (by simpa using hks) e he hb
      refine ih _ s1 ι' a' w' hcl2 (by simpa using hsz) ?_ (by rw [hleft]; exact g4) hr'
      rw [hleft]
      have : (left ops listed).length = (A ++ B).length + 1 := by rw [hAB]; simp; omega
      omega
end
/-
  What is to be shown of a function's text, as one plain statement; and that it suffices.
-/
/-! ### bools that are known -/
abbrev Kn := Nat → Option Bool
def kx (kn : Kn) : Operand → Option Bool
  | .const (.bool b) => some b
  | .tmp t => kn t
  | _ => none
def knOf (kn : Kn) : Op → Option Bool
  | .move x | .assign x => kx kn x
  | .pick c x y => match kx kn c with
    | some true => kx kn x
    | some false => kx kn y
    | none => none
  | .unOp .not _ x => (kx kn x).map (!·)
  | _ => none
def knPut (kn : Kn) (d : Option Nat) (b : Option Bool) : Kn :=
  match d with
  | some d => fun t => if t = d then b else kn t
  | none => kn
def setBool (x : AV) (b : Bool) : AV :=
  match x with
  | .one (.d (.bool _)) => .one (.d (.bool b))
  | .one (.lit (.bool _)) => .one (.lit (.bool b))
  | x => x
def AS.fix (s : AS) (t : Nat) (b : Bool) : AS := s.put (some t) (setBool (s.tm t) b)
def KnOK (kn : Kn) (s : AS) : Prop := ∀ t b, kn t = some b → (s.tm t).bool? = some b
inductive Gd where
  | stuck
  | yes
  | no
  | ask (t : Nat) (b want : Bool)
def gd (ops : Array Oper) (kn : Kn) (s : AS) (o : Oper) : Gd :=
  match o.guard with
  | none => .yes
  | some (j, want) => match (ops[j]?).bind (·.dst) with
    | none => .stuck
    | some t => match kn t with
      | some b => if b = want then .yes else .no
      | none => match s.tm t with
        | .tup [] => .no
        | .one (.d (.bool b)) => .ask t b want
        | .one (.lit (.bool b)) => .ask t b want
        | _ => .stuck
section
variable (P : Program) (Γ : Gam) (n : Dom)
/-- one operation that is carried out, with the boxes that it touches -/
def aopT (o : Oper) (s : AS) : Option (Prop × AS × (List Nat × List Nat)) :=
  if dstIn n o then
    match prep2 P Γ o s.eval with
    | some e => match e.f (e.rds.map s.bx) ((e.more (e.rds.map s.bx)).map s.bx) with
      | some (vc, v, ws) => some (vc, (s.setL ws).put o.dst v, (e.rds ++ e.more (e.rds.map s.bx), ws.map (·.1)))
      | none => none
    | none => none
  else none
def vcRun (ops : Array Oper) : List Nat → Kn → AS → List (List Nat × List Nat) → (Kn → AS → List (List Nat × List Nat) → Prop) → Prop
  | [], kn, s, acc, Q => Q kn s acc
  | i :: R, kn, s, acc, Q =>
    match ops[i]? with
    | none => False
    | some o => match gd ops kn s o with
      | .stuck => False
      | .yes => match aopT P Γ n o s with
        | some (vc, s', t) => vc ∧ vcRun ops R (knPut kn o.dst (knOf kn o.op)) s' (t :: acc) Q
        | none => False
      | .no => match dstIn n o with
        | true => vcRun ops R (knPut kn o.dst none) (s.put o.dst (.tup [])) (([], []) :: acc) Q
        | false => False
      | .ask t b want =>
        (b = want → match aopT P Γ n o (s.fix t want) with
          | some (vc, s', th) => vc ∧ vcRun ops R (knPut (knPut kn (some t) (some want)) o.dst (knOf (knPut kn (some t) (some want)) o.op)) s' (th :: acc) Q
          | none => False) ∧
        (b = (!want) → match dstIn n o with
          | true => vcRun ops R (knPut (knPut kn (some t) (some (!want))) o.dst none) ((s.fix t (!want)).put o.dst (.tup [])) (([], []) :: acc) Q
          | false => False)
end
theorem bool_shape {x : AV} {b : Bool} (h : x.bool? = some b) : setBool x b = x := by
  unfold AV.bool? at h
  split at h
  · injection h with h; subst h; rfl
  · injection h with h; subst h; rfl
  · cases h
theorem fix_same {s : AS} {t : Nat} {b : Bool} (h : (s.tm t).bool? = some b) : s.fix t b = s := by
  unfold AS.fix
  rw [bool_shape h]
  apply AS.ext'
  · funext t'
    simp only [AS.put]
    split
    · rename_i e; rw [e]
    · rfl
  · rfl
theorem kx_ok {kn : Kn} {s : AS} (h : KnOK kn s) {x : Operand} {b : Bool} (hx : kx kn x = some b) : (s.eval x).bool? = some b := by
  unfold kx at hx
  split at hx
  · injection hx with hx; subst hx; rfl
  · exact h _ _ hx
  · cases hx
section
variable {P : Program} {Γ : Gam} {n : Dom} {ops : Array Oper}
theorem aopT_aop {o : Oper} {s s' : AS} {vc : Prop} {t : List Nat × List Nat} (h : aopT P Γ n o s = some (vc, s', t)) : aop P Γ n o s = some (vc, s') ∧ ∃ e, prep2 P Γ o s.eval = some e ∧ t = e.touch s.bx := by
  unfold aopT at h
  unfold aop
  split at h
  · rename_i hd
    rw [if_pos hd]
    split at h
    · rename_i e he
      split at h
      · rename_i vc' v ws hf
        simp only [Option.some.injEq, Prod.mk.injEq] at h
        obtain ⟨rfl, rfl, rfl⟩ := h
        refine ⟨?_, e, he, by simp [Eff2.touch, hf]⟩
        try rw [he]
        simp only [hf]
      · cases h
    · cases h
  · cases h
theorem kn_put {kn : Kn} {s s' : AS} (h : KnOK kn s) {o : Oper} {vc : Prop} (ha : aop P Γ n o s = some (vc, s')) : KnOK (knPut kn o.dst (knOf kn o.op)) s' := by
  unfold aop at ha
  split at ha
  · split at ha
    · rename_i e he
      split at ha
      · rename_i vc' v bs hf
        simp only [Option.some.injEq, Prod.mk.injEq] at ha
        obtain ⟨rfl, rfl⟩ := ha
        intro t b hb
        cases hd : o.dst with
        | none =>
          rw [hd] at hb
          have hb : kn t = some b := hb
          show ((s.setL bs).tm t).bool? = some b
          rw [AS.setL, setBs_tm]
          exact h t b hb
        | some d =>
          rw [hd] at hb
          simp only [knPut] at hb
          by_cases e1 : t = d
          · rw [if_pos e1] at hb
            simp only [AS.put, if_pos e1]
            -- the value itself
            unfold knOf at hb
            unfold prep2 at he
            have he' : (prep P Γ o s.eval).map Eff.up = some e := by
              split at he
              · rename_i c hc
                rw [hc] at hb
                cases hb
              · exact he
            clear he
            obtain ⟨e0, he, rfl⟩ := Option.map_eq_some_iff.1 he'
            clear he'
            simp only [Eff.up] at hf
            obtain ⟨⟨vc0, v0, bs0⟩, hf2, hf'⟩ := Option.map_eq_some_iff.1 hf
            clear hf
            have hf := hf2
            clear hf2
            simp only [Prod.mk.injEq] at hf'
            obtain ⟨rfl, rfl, rfl⟩ := hf'
            unfold prep at he
            split at hb
            · rename_i x hop
              rw [hop] at he
              simp only [Option.some.injEq] at he
              subst he
              simp only [Eff.val, Option.some.injEq, Prod.mk.injEq] at hf
              rw [← hf.2.1]; exact kx_ok h hb
            · rename_i x hop
              rw [hop] at he
              simp only [Option.some.injEq] at he
              subst he
              simp only [Eff.val, Option.some.injEq, Prod.mk.injEq] at hf
              rw [← hf.2.1]; exact kx_ok h hb
            · rename_i c x y hop
              rw [hop] at he
              simp only [opPick] at he
              split at hb
              · rename_i hc
                rw [kx_ok h hc] at he
                simp only [Option.some.injEq] at he
                subst he
                simp only [Eff.val, Option.some.injEq, Prod.mk.injEq] at hf
                rw [← hf.2.1]; exact kx_ok h hb
              · rename_i hc
                rw [kx_ok h hc] at he
                simp only [Option.some.injEq] at he
                subst he
                simp only [Eff.val, Option.some.injEq, Prod.mk.injEq] at hf
                rw [← hf.2.1]; exact kx_ok h hb
              · cases hb
            · rename_i t' x hop
              rw [hop] at he
              simp only [opUn] at he
              cases hx : kx kn x with
              | none => rw [hx] at hb; cases hb
              | some bx =>
                rw [hx] at hb
                simp only [Option.map_some, Option.some.injEq] at hb
                have := kx_ok h hx
                unfold AV.bool? at this
                split at this
                · rename_i b' hs
                  rw [hs] at he
                  simp only [Option.some.injEq] at this he
                  subst this he
                  simp only [Eff.val, Option.some.injEq, Prod.mk.injEq] at hf
                  rw [← hf.2.1, ← hb]; rfl
                · rename_i b' hs
                  rw [hs] at he
                  simp only [Option.some.injEq] at this he
                  subst this he
                  simp only [Eff.val, Option.some.injEq, Prod.mk.injEq] at hf
                  rw [← hf.2.1, ← hb]; rfl
                · cases this
            · cases hb
          · rw [if_neg e1] at hb
            simp only [AS.put, if_neg e1]
            rw [AS.setL, setBs_tm]
            exact h t b hb
      · cases ha
    · cases ha
  · cases ha
theorem kn_fix {kn : Kn} {s : AS} (h : KnOK kn s) {t : Nat} {b : Bool} (ht : (s.tm t).bool? = some b) : KnOK (knPut kn (some t) (some b)) s := by
  intro t' b' hb
  simp only [knPut] at hb
  by_cases e : t' = t
  · rw [if_pos e] at hb; injection hb with hb; subst hb; rw [e]; exact ht
  · rw [if_neg e] at hb; exact h _ _ hb
theorem kn_skip {kn : Kn} {s : AS} (h : KnOK kn s) (d : Option Nat) : KnOK (knPut kn d none) (s.put d (.tup [])) := by
  intro t b hb
  cases d with
  | none => exact h t b hb
  | some d =>
    simp only [knPut] at hb
    by_cases e : t = d
    · rw [if_pos e] at hb; cases hb
    · rw [if_neg e] at hb
      simp only [AS.put, if_neg e]
      exact h t b hb
def Ran (P : Program) (Γ : Gam) (n : Dom) (ops : Array Oper) (R : List Nat) (s : AS) (acc : List (List Nat × List Nat)) (Q : Kn → AS → List (List Nat × List Nat) → Prop) : Prop :=
  ∃ (kn' : Kn) (s' : AS) (ts : List (List Nat × List Nat)), Q kn' s' (ts.reverse ++ acc) ∧ KnOK kn' s' ∧ ts.length = R.length ∧ ∀ τ : Nat → List Nat × List Nat, (∀ (k : Nat) (i : Nat), R[k]? = some i → τ i = ts.getD k ([], [])) → Runs P Γ n ops τ R s s'
theorem vcRun_runs : ∀ {R : List Nat} {kn : Kn} {s : AS} {acc : List (List Nat × List Nat)} {Q : Kn → AS → List (List Nat × List Nat) → Prop}, vcRun P Γ n ops R kn s acc Q → KnOK kn s →
    Ran P Γ n ops R s acc Q
  | [], kn, s, acc, Q, h, hk => ⟨kn, s, [], h, hk, rfl, fun τ _ => rfl⟩
  | i :: R, kn, s, acc, Q, h, hk => by
    have yes : ∀ {o : Oper} {kn1 : Kn}, ops[i]? = some o → gv ops s o = some true → KnOK kn1 s → (match aopT P Γ n o s with
        | some (vc, s', t) => vc ∧ vcRun P Γ n ops R (knPut kn1 o.dst (knOf kn1 o.op)) s' (t :: acc) Q
        | none => False) → Ran P Γ n ops (i :: R) s acc Q := by
      intro o kn1 ho hg hk1 h
      split at h
      · rename_i vc s1 t ha
        obtain ⟨hvc, h⟩ := h
        obtain ⟨h1, e, he, rfl⟩ := aopT_aop ha
        obtain ⟨kn', s', ts, g1, g2, g3, g4⟩ := vcRun_runs h (kn_put hk1 h1)
        refine ⟨kn', s', e.touch s.bx :: ts, by simpa using g1, g2, by simp [g3], fun τ hτ => ⟨vc, s1, by simp [astep, ho, hg, h1], hvc, ?_, g4 τ fun k j hj => by simpa using hτ (k + 1) j (by simpa using hj)⟩⟩
        have := hτ 0 i rfl
        rw [this]
        simp [touch, ho, hg, he]
      · exact h.elim
    have no : ∀ {o : Oper} {kn1 : Kn}, ops[i]? = some o → gv ops s o = some false → KnOK kn1 s → (match dstIn n o with
        | true => vcRun P Γ n ops R (knPut kn1 o.dst none) (s.put o.dst (.tup [])) (([], []) :: acc) Q
        | false => False) → Ran P Γ n ops (i :: R) s acc Q := by
      intro o kn1 ho hg hk1 h
      split at h
      · rename_i hd
        obtain ⟨kn', s', ts, g1, g2, g3, g4⟩ := vcRun_runs h (kn_skip hk1 o.dst)
        refine ⟨kn', s', ([], []) :: ts, by simpa using g1, g2, by simp [g3], fun τ hτ => ⟨True, _, by simp only [astep, ho, hg, hd, if_true], trivial, ?_, g4 τ fun k j hj => by simpa using hτ (k + 1) j (by simpa using hj)⟩⟩
        have := hτ 0 i rfl
        rw [this]
        simp [touch, ho, hg]
      · exact h.elim
    unfold vcRun at h
    split at h
    · exact h.elim
    · rename_i o ho
      split at h
      · exact h.elim
      · rename_i hg
        have hgv : gv ops s o = some true := by
          unfold gd at hg
          unfold gv
          cases hgu : o.guard with
          | none => rfl
          | some jw =>
            obtain ⟨j, want⟩ := jw
            rw [hgu] at hg
            simp only at hg ⊢
            cases ht : (ops[j]?).bind (·.dst) with
            | none => rw [ht] at hg; cases hg
            | some t =>
              rw [ht] at hg
              simp only at hg ⊢
              cases hkt : kn t with
              | some b =>
                rw [hkt] at hg
                simp only at hg
                split at hg
                · rename_i hbw
                  subst hbw
                  have hb := hk t b hkt
                  split
                  · rename_i hs; rw [hs] at hb; simp [AV.bool?] at hb
                  · rw [hb]; simp
                · cases hg
              | none =>
                rw [hkt] at hg
                simp only at hg
                split at hg <;> cases hg
        exact yes ho hgv hk h
      · rename_i hg
        have hgv : gv ops s o = some false := by
          unfold gd at hg
          unfold gv
          cases hgu : o.guard with
          | none => rw [hgu] at hg; cases hg
          | some jw =>
            obtain ⟨j, want⟩ := jw
            rw [hgu] at hg
            simp only at hg ⊢
            cases ht : (ops[j]?).bind (·.dst) with
            | none => rw [ht] at hg; cases hg
            | some t =>
              rw [ht] at hg
              simp only at hg ⊢
              cases hkt : kn t with
              | some b =>
                rw [hkt] at hg
                simp only at hg
                split at hg
                · cases hg
                · rename_i hbw
                  have hb := hk t b hkt
                  split
                  · rfl
                  · rw [hb]; simp [hbw]
              | none =>
                rw [hkt] at hg
                simp only at hg
                split at hg
                · rename_i hs; simp [hs]
                · cases hg
                · cases hg
                · cases hg
        exact no ho hgv hk h
      · rename_i t b want hg
        have hgt : ∃ j, o.guard = some (j, want) ∧ (ops[j]?).bind (·.dst) = some t ∧ (s.tm t).bool? = some b := by
          unfold gd at hg
          cases hgu : o.guard with
          | none => rw [hgu] at hg; cases hg
          | some jw =>
            obtain ⟨j, want'⟩ := jw
            rw [hgu] at hg
            simp only at hg
            cases ht : (ops[j]?).bind (·.dst) with
            | none => rw [ht] at hg; cases hg
            | some t' =>
              rw [ht] at hg
              simp only at hg
              cases hkt : kn t' with
              | some b' => rw [hkt] at hg; simp only at hg; split at hg <;> cases hg
              | none =>
                rw [hkt] at hg
                simp only at hg
                split at hg
                · cases hg
                · rename_i b' hs
                  simp only [Gd.ask.injEq] at hg
                  obtain ⟨rfl, rfl, rfl⟩ := hg
                  exact ⟨j, rfl, ht, by rw [hs]; rfl⟩
                · rename_i b' hs
                  simp only [Gd.ask.injEq] at hg
                  obtain ⟨rfl, rfl, rfl⟩ := hg
                  exact ⟨j, rfl, ht, by rw [hs]; rfl⟩
                · cases hg
        obtain ⟨j, h1, h2, h3⟩ := hgt
        have hgv : gv ops s o = some (b == want) := by
          unfold gv
          rw [h1]
          simp only [h2]
          split
          · rename_i hs; rw [hs] at h3; simp [AV.bool?] at h3
          · rw [h3]; simp
        by_cases hbw : b = want
        · subst hbw
          rw [fix_same h3] at h
          exact yes ho (hgv.trans (by simp)) (kn_fix hk h3) (h.1 rfl)
        · have hbn : b = !want := by cases b <;> cases want <;> simp_all
          subst hbn
          rw [fix_same h3] at h
          exact no ho (hgv.trans (by cases want <;> rfl)) (kn_fix hk h3) (h.2 rfl)
end
/-
  A range over a function: by how often it calls its body and with what.
-/
/-- what a closure's cell holds: data, or a box of data -/
def Holds1 (w : World) : Bool × List DV → Value → Prop
  | (false, ds), v => ∃ d, ds = [d] ∧ d.plain = some v
  | (true, ds), v => ∃ g, v = .pointer (some ⟨g, 0, none⟩) ∧ ∀ i d, ds[i]? = some d → ∃ u, d.plain = some u ∧ w.cell? ⟨g, i, none⟩ = some u
def HoldsL (w : World) : List (Bool × List DV) → List Value → Prop
  | [], [] => True
  | c :: cs, v :: vs => Holds1 w c v ∧ HoldsL w cs vs
  | _, _ => False
def encsOf (ds : List DV) : Array Value := (ds.map fun d => d.plain.getD undef).toArray
/-- AN ITERATOR: it calls its body N times, with the k-th item at the k-th time, until the body says stop -/
def AnsI (P : Program) (g : FuncId) (caps : List (Bool × List DV)) (N : Nat) (item : Nat → List DV) : Prop :=
  ∀ (lb : Array Value) (l m : Nat) (J : Nat → World → Prop) (Jx : World → Prop),
    (∀ k W, J k W → HoldsL W caps lb.toList) →
    (∀ k W d, J k W → J k { W with drawn := d }) → (∀ W d, Jx W → Jx { W with drawn := d }) →
    (∀ k W, k < N → J k W → YieldAt Fence.wide m P l (encsOf (item k)) W fun e W' => (e = .returned (.bool true) ∧ J (k + 1) W') ∨ (e = .returned (.bool false) ∧ Jx W')) →
    ∀ W, J 0 W → CallsIn Fence.wide m P g (#[.func (.yield l) #[] #[]] ++ lb) W fun e W' => (∃ v, e = .returned v) ∧ (J N W' ∨ Jx W')
/-- how a round may be left -/
def roundEnd (I : World → Prop) (Ix : Code → World → Prop) (W : World) : Exit → Act → World → Prop
  | .normal, _, W' => KeepsOthers W W' ∧ I W'
  | .ret, _, W' => KeepsOthers W W' ∧ Ix .ret W'
  | .exit id, _, W' => KeepsOthers W W' ∧ Ix (.exit id) W'
  | _, _, _ => False
def Stays_ (B : Nat) (I : World → Prop) : Prop :=
  ∀ W W' row, I W → W.grownBy W' row → (∀ r, row = some r → B ≤ r ∧ ∃ o : Obj, W.heap[r]? = some o ∧ o.isCells = false) → I W'
theorem Stays_.put {B : Nat} {I : World → Prop} (h : Stays_ B I) {W : World} {l : Nat} {o : Obj} (o' : Obj) (hs : I W) (hB : B ≤ l) (hl : W.heap[l]? = some o) (ho : o.isCells = false) : I (W.putObj l o') :=
  h W _ (some l) hs (grownBy_putObj' W l o') (fun r e => by cases e; exact ⟨hB, o, hl, ho⟩)
theorem Stays_.new_ {B : Nat} {I : World → Prop} (h : Stays_ B I) {W : World} (o : Obj) (hs : I W) : I (W.alloc o) :=
  h W _ none hs (World.grownBy_alloc W o none) (fun r e => by cases e)
theorem Stays_.drawn {B : Nat} {I : World → Prop} (h : Stays_ B I) {W : World} (d : Nat) (hs : I W) : I { W with drawn := d } :=
  h W _ none hs ⟨rfl, rfl, rfl, Nat.le_refl _, fun _ _ _ => rfl⟩ (fun r e => by cases e)
theorem range_law {P : Program} {g : Operand} {ps : Array Tmp} {assign body : Code} {Q : Exit → Act → World → Prop} {a : Act} {w : World} {m gf : Nat} {lb : Array Value}
    (hg : a.eval g = .func (.func gf) #[] lb) (eg : ∀ args w, (callFunc gf args).run P w = .ok (.enter gf args) w)
    {caps : List (Bool × List DV)} {N : Nat} {item : Nat → List DV} (hseq : AnsI P gf caps N item) (hps : ∀ k, k < N → (item k).length = ps.size)
    (I : Nat → World → Prop) (Ix : Code → World → Prop) (hI : ∀ k, Stays_ w.heap.size (I k)) (hIx : ∀ c, Stays_ w.heap.size (Ix c))
    (hcaps : ∀ k W, I k W → HoldsL W caps lb.toList) (h0 : I 0 w)
    (hround : ∀ l k W, k < N → I k W →
      assign.wpIn (Fence.wide.inRound l) m P (Exit.then (fun a1 W1 => KeepsOthers W W1 ∧ ∀ W2, W1.grownBy W2 (some l) → w.heap.size ≤ l → (∃ r : Loop, W1.heap[l]? = some (.loop r)) →
        body.wpIn (Fence.wide.inRound l) m P (roundEnd (I (k + 1)) Ix W2) a1 W2) (fun _ _ _ => False))
        { tmps := (ps.zip (encsOf (item k))).foldl (fun t (p, v) => t.setIfInBounds p v) a.tmps, defers := [] } W)
    (hdone : ∀ (D : Nat) (W : World), w.heap.size ≤ D → I N W → W.heap[D]? = some (.deferred (some [])) → Q .normal { a with defers := { target := .collected D, args := #[] } :: a.defers } W)
    (hstop : ∀ (D : Nat) (c : Code) (W : World), w.heap.size ≤ D → Ix c W → W.heap[D]? = some (.deferred (some [])) → c.wpIn Fence.wide m P Q { a with defers := { target := .collected D, args := #[] } :: a.defers } W) :
    (Code.rangeFunc g ps assign body).wpIn Fence.wide m P Q a w := by
  refine wpIn_rangeFunc ?_
  intro fn hfn
  show ∃ (l : Nat) (mark : List Deferred) (w₁ : World) (d : Deferred) (w₁' : World) (f : FuncId) (args : Array Value) (w₂ : World), (Instr.enterLoop fn a.tmps ps assign body none).run P w = _ ∧ _
  obtain ⟨rec, hrec⟩ : ∃ rec : LoopState → Option Code → Loop, rec = fun st pe => { state := st, pending := pe, fn, tmps := a.tmps, params := ps, assign, body, defers := w.heap.size } := ⟨_, rfl⟩
  obtain ⟨W1, hW1⟩ : ∃ W1, (w.alloc (.deferred (some []))).alloc (.loop (rec .ready none)) = W1 := ⟨_, rfl⟩
  have hL1 : W1.heap[w.heap.size + 1]? = some (.loop (rec .ready none)) := by
    rw [← hW1]; have := World.alloc_heap_new (w.alloc (.deferred (some []))) (.loop (rec .ready none)); rwa [World.size_alloc] at this
  have hK1 : W1.heap[w.heap.size]? = some (.deferred (some [])) := by
    rw [← hW1]; exact (Below.heap_alloc _ _ _ (by simp)).trans (World.alloc_heap_new w _)
  have hI1 : I 0 W1 := by rw [← hW1]; exact (hI 0).new_ _ ((hI 0).new_ _ h0)
  refine ⟨w.heap.size + 1, [{ target := .collected w.heap.size, args := #[] }], W1, { target := .fn (.func gf) lb, args := #[.func (.yield (w.heap.size + 1)) #[] #[]] }, W1, gf,
    #[.func (.yield (w.heap.size + 1)) #[] #[]] ++ lb, W1, ?_, ?_, ?_, ?_, fun h => by (cases h), ?_⟩
  · rw [← hW1, hrec]; exact run_enterLoop_outer _ _ _ _ _
  · simp only [resolve, hg]
    simp [go_sem]
  · intro f' hf'; trivial
  · simp [invoke, go_sem, eg]
  · refine CallsIn.mono (hseq lb (w.heap.size + 1) (m - 1)
      (fun k W => I k W ∧ W.heap[w.heap.size + 1]? = some (.loop (rec .ready none)) ∧ W.heap[w.heap.size]? = some (.deferred (some [])))
      (fun W => ∃ c, Ix c W ∧ W.heap[w.heap.size + 1]? = some (.loop (rec .done (some c))) ∧ W.heap[w.heap.size]? = some (.deferred (some [])))
      (fun k W h => hcaps k W h.1) (fun k W d h => ⟨(hI k).drawn d h.1, h.2.1, h.2.2⟩) (fun W d ⟨c, h1, h2, h3⟩ => ⟨c, (hIx c).drawn d h1, h2, h3⟩) ?_ W1 ⟨hI1, hL1, hK1⟩) ?_
    · -- one round
      rintro k W hk ⟨hi, hl, hkd⟩
      have hy := run_yield (P := P) (args := encsOf (item k)) hl (by rw [hrec]; simp only [encsOf, List.size_toArray, List.length_map]; exact hps k hk)
      rw [hrec] at hy
      refine ⟨fn, _, assign, body, hy, roundIn_of_wpIn trivial ?_⟩
      have hr := hround (w.heap.size + 1) k W hk hi
      have hr : assign.wpIn (Fence.wide.inRound (w.heap.size + 1)) (m - 1) P _ _ W := fun b k cs h1 h2 _ => hr b k cs h1 h2 (Wide.room (.inr ⟨_, rfl⟩) _)
      refine wpIn_mono hr ?_
      intro e a1 Wa hq
      cases e with
      | normal =>
        obtain ⟨hka, hq⟩ := hq
        have hla := hka.same _ _ hl rfl
        have hda := hka.same _ _ hkd rfl
        have hbr := run_beginRound (P := P) hla (by rw [hrec])
        refine ⟨_, hbr, ?_⟩
        have hlt : w.heap.size + 1 < Wa.heap.size := (Array.getElem?_eq_some_iff.1 hla).1
        have hl2 : (Wa.putObj (w.heap.size + 1) (.loop { rec .ready none with state := .busy })).heap[w.heap.size + 1]? = some (.loop { rec .ready none with state := .busy }) := World.putObj_heap_same hlt
        have hk2 : (Wa.putObj (w.heap.size + 1) (.loop { rec .ready none with state := .busy })).heap[w.heap.size]? = some (.deferred (some [])) := (World.putObj_heap_other (by omega)).trans hda
        have hb := hq _ (grownBy_putObj' Wa (w.heap.size + 1) (.loop { rec .ready none with state := .busy })) (by omega) ⟨_, hla⟩
        have hb : body.wpIn (Fence.wide.inRound (w.heap.size + 1)) (m - 1) P _ a1 _ := fun b k cs h1 h2 _ => hb b k cs h1 h2 (Wide.room (.inr ⟨_, rfl⟩) _)
        refine wpIn_mono hb ?_
        have fin : ∀ (jump : Option Code) (W3 : World), KeepsOthers (Wa.putObj (w.heap.size + 1) (.loop { rec .ready none with state := .busy })) W3 →
            (Instr.endRound (w.heap.size + 1) jump).run P W3 = .ok (.bool jump.isNone) (W3.putObj (w.heap.size + 1) (.loop (rec (if jump.isNone then .ready else .done) jump))) ∧
            W3.heap[w.heap.size + 1]? = some (.loop { rec .ready none with state := .busy }) ∧
            (W3.putObj (w.heap.size + 1) (.loop (rec (if jump.isNone then .ready else .done) jump))).heap[w.heap.size + 1]? = some (.loop (rec (if jump.isNone then .ready else .done) jump)) ∧
            (W3.putObj (w.heap.size + 1) (.loop (rec (if jump.isNone then .ready else .done) jump))).heap[w.heap.size]? = some (.deferred (some [])) := fun jump W3 hk3 => by
          have hl3 := hk3.same _ _ hl2 rfl
          have := run_endRound (P := P) jump hl3
          rw [hrec] at this ⊢
          exact ⟨this, by rw [hrec] at hl3; exact hl3, World.putObj_heap_same (Array.getElem?_eq_some_iff.1 hl3).1, (World.putObj_heap_other (by omega)).trans (hk3.same _ _ hk2 rfl)⟩
        intro e3 a3 W3 hp
        cases e3 with
        | normal =>
          obtain ⟨hk3, hi3⟩ := hp
          obtain ⟨hr, hl3, hl4, hk4⟩ := fin none W3 hk3
          exact ⟨_, _, hr, .inl ⟨rfl, (hI _).put _ hi3 (by omega) hl3 rfl, hl4, hk4⟩⟩
        | ret =>
          obtain ⟨hk3, hi3⟩ := hp
          obtain ⟨hr, hl3, hl4, hk4⟩ := fin (some .ret) W3 hk3
          exact ⟨_, _, hr, .inr ⟨rfl, .ret, (hIx _).put _ hi3 (by omega) hl3 rfl, hl4, hk4⟩⟩
        | exit id =>
          obtain ⟨hk3, hi3⟩ := hp
          obtain ⟨hr, hl3, hl4, hk4⟩ := fin (some (.exit id)) W3 hk3
          exact ⟨_, _, hr, .inr ⟨rfl, .exit id, (hIx _).put _ hi3 (by omega) hl3 rfl, hl4, hk4⟩⟩
        | goto t => exact hp.elim
        | panic ch => exact hp.elim
        | outgrown => exact hp.elim
      | ret => exact hq.elim
      | exit id => exact hq.elim
      | goto t => exact hq.elim
      | panic ch => exact hq.elim
      | outgrown => exact hq.elim
    · -- behind the iterator
      rintro e W2 ⟨⟨v, rfl⟩, (⟨hi, hl, hk⟩ | ⟨c, hi, hl, hk⟩)⟩
      · exact ⟨none, _, by have := run_endLoop (P := P) hl (by rw [hrec]; simp); rw [hrec] at this; exact this, hdone _ _ (Nat.le_refl _) ((hI _).put _ hi (by omega) hl rfl) ((World.putObj_heap_other (by omega)).trans hk)⟩
      · exact ⟨some c, _, by have := run_endLoop (P := P) hl (by rw [hrec]; simp); rw [hrec] at this; exact this, hstop _ c _ (Nat.le_refl _) ((hIx c).put _ hi (by omega) hl rfl) ((World.putObj_heap_other (by omega)).trans hk)⟩
/-
  A function's whole text as one plain statement (loops by what holds at their heads); and that it suffices.
-/
structure Snap where
  tm : List (Nat × AV)
  bx : List (Nat × Bx)
def lookT : List (Nat × AV) → Nat → AV
  | [], _ => .one .dead
  | (t', v) :: r, t => if t = t' then v else lookT r t
def lookX : List (Nat × Bx) → Nat → Bx
  | [], _ => .fresh
  | (t', v) :: r, t => if t = t' then v else lookX r t
def Snap.as (sn : Snap) : AS := ⟨lookT sn.tm, lookX sn.bx⟩
/-! ### a state fits a looser one -/
abbrev Ren := List (Nat × Option Nat)
def renOf : Ren → Nat → Option (Option Nat)
  | [], _ => none
  | (b', x) :: r, b => if b = b' then some x else renOf r b
def fitCap : Cap → Cap → Option (Prop × Ren)
  | .d v, .d v' => some (v' = v, [])
  | .ptr b off, .ptr b' off' => some (off' = off, [(b, some b')])
  | _, _ => none
def fitCaps : List Cap → List Cap → Option (Prop × Ren)
  | [], [] => some (True, [])
  | c :: cs, c' :: cs' => match fitCap c c', fitCaps cs cs' with
    | some (p, r), some (q, r') => some (p ∧ q, r ++ r')
    | _, _ => none
  | _, _ => none
def fitCl : Cl → Cl → Option (Prop × Ren)
  | .dead, _ => some (True, [])
  | .d v, .d v' => some (v' = v, [])
  | .d v, .lit (.bool b) => some (DV.bool b = v, [])
  | .d v, .nil => some (DV.sl 0 [] = v, [])
  | .lit u, .lit u' => some (u' = u, [])
  | .nil, .nil => some (True, [])
  | .ptr b off, .ptr b' off' => some (off' = off, [(b, some b')])
  | .vp cs off, .vp cs' off' => some (cs' = cs ∧ off' = off, [])
  | .ref b n, .ref b' n' => some (n' = n, [(b, some b')])
  | .ref b n, .nil => some (0 = n, [(b, none)])
  | .clo f cs, .clo f' cs' => if f' = f then fitCaps cs cs' else none
  | _, _ => none
def fitCls0 : List Cl → List Cl → Option (Prop × Ren)
  | [], [] => some (True, [])
  | c :: cs, c' :: cs' => match fitCl c c', fitCls0 cs cs' with
    | some (p, r), some (q, r') => some (p ∧ q, r ++ r')
    | _, _ => none
  | _, _ => none
def dataOf : List Cl → Option (List DV)
  | [] => some []
  | .d v :: cs => match dataOf cs with
    | some vs => some (v :: vs)
    | none => none
  | _ :: _ => none
/-- cells that are data alone fit as one list -/
def fitCls (cs cs' : List Cl) : Option (Prop × Ren) := match dataOf cs, dvs cs' with
  | some xs, some ys => some (ys = xs, [])
  | _, _ => fitCls0 cs cs'
mutual
def fitAV : AV → AV → Option (Prop × Ren)
  | .one c, .one c' => fitCl c c'
  | .one .dead, _ => some (True, [])
  | .agg cs, .agg cs' => fitCls cs cs'
  | .tup vs, .tup vs' => fitAVs vs vs'
  | _, _ => none
def fitAVs : List AV → List AV → Option (Prop × Ren)
  | [], [] => some (True, [])
  | x :: xs, y :: ys => match fitAV x y, fitAVs xs ys with
    | some (p, r), some (q, r') => some (p ∧ q, r ++ r')
    | _, _ => none
  | _, _ => none
end
def fitTm (s : AS) : List (Nat × AV) → Option (Prop × Ren)
  | [] => some (True, [])
  | (t, v) :: l => match fitAV v (s.tm t), fitTm s l with
    | some (p, r), some (q, r') => some (p ∧ q, r ++ r')
    | _, _ => none
def fitBx : Bx → Bx → Option (Prop × Ren)
  | .cells cs, .cells cs' => fitCls cs cs'
  | .row e size xs, .row e' size' xs' => if e' = e ∧ size' = size then some (xs' = xs, []) else none
  | .ice xs, .ice xs' => some (xs' = xs, [])
  | .gone, .gone => some (True, [])
  | _, _ => none
/-- the boxes, in their order: each one's name must be known when it is reached -/
def fitBxs (s : AS) : List (Nat × Bx) → Ren → Option (Prop × Ren)
  | [], r => some (True, r)
  | (b, B) :: l, r => match renOf r b with
    | some (some b') => match fitBx B (s.bx b') with
      | some (p, r') => match fitBxs s l (r ++ r') with
        | some (q, r'') => some (p ∧ q, r'')
        | none => none
      | none => none
    | some none => match B with
      | .row _ _ xs => match fitBxs s l r with
        | some (q, r'') => some ([] = xs ∧ q, r'')
        | none => none
      | _ => none
    | none => none
def renOK (bx : List (Nat × Bx)) (r : Ren) : Bool :=
  (r.all fun p => (renOf r p.1 == some p.2) && bx.any fun q => q.1 == p.1) &&
  (r.all fun p => r.all fun q => p.1 == q.1 || p.2 == none || p.2 != q.2) && decide ((bx.map (·.1)).Nodup)
def pins (l : List Nat) : Ren := l.map fun j => (j, some j)
def fits0 (n : Dom) (s : AS) (sn : Snap) : Prop :=
  match fitTm s sn.tm with
  | some (p, r) => match fitBxs s sn.bx (r ++ pins n.pin) with
    | some (q, r') => match renOK sn.bx r' with
      | true => p ∧ q
      | false => False
    | none => False
  | none => False
/-- a row of the call's own that is from now on read alone: data -/
def AS.melt1 (s : AS) (t : Nat) : AS := match s.tm t with
  | .one (.ref b n) => match inside (s.bx b) with
    | some xs => ⟨fun t' => if t' = t then .one (.d (.sl n xs)) else s.tm t', fun b' => if b' = b then (s.bx b).freeze else s.bx b'⟩
    | none => s
  | _ => s
def meltFor : List (Nat × AV) → AS → AS
  | [], s => s
  | (t, .one (.d _)) :: l, s => meltFor l (s.melt1 t)
  | _ :: l, s => meltFor l s
def fits (n : Dom) (s : AS) (sn : Snap) : Prop := fits0 n (meltFor sn.tm s) sn
structure Inv where
  α : Type
  ok : α → Prop
  st : α → Snap
  μ : α → Nat
inductive Ann : Type 1 where
  | leaf
  | seq (a b : Ann)
  | loop (I : Inv) (a : I.α → Ann)
  | cut (I : Inv) (a : Ann) (b : I.α → Ann)
  /-- a loop whose rounds are known: what holds at the head in this round; the next round -/
  | link (I : Inv) (a : I.α → Ann) (next : Ann)
  /-- behind the first part, slot t is one of some numbers -/
  | split (a : Ann) (t : Nat) (bs : Ann)
  | opt (v : Int) (b : Ann) (next : Ann)
  /-- a condition whose answer is known -/
  | sure (b : Bool) (a : Ann)
  /-- behind the first part, some rows are frozen, and some slots with rows are from then on data -/
  | ice (bs ts : List Nat) (a b : Ann)
  /-- behind an operation of a region, slot t is one of some numbers -/
  | splitAt (i t : Nat) (vs : List Int)
  /-- a range over a function: what holds at its heads (μ: how many items are done), the slots that stay -/
  | range (I : Inv) (T : List Nat) (a b : I.α → Ann)
def Ann.l : Ann → Ann
  | .seq a _ => a
  | _ => .leaf
def Ann.r : Ann → Ann
  | .seq _ b => b
  | _ => .leaf
inductive AExit where
  | normal
  | exit (id : Nat)
  | ret
def kn0 : Kn := fun _ => none
def linkIn (n : Dom) : Ann → AS → Prop
  | .link I _ _, s => ∃ z, I.ok z ∧ fits n s (I.st z)
  | _, _ => False
def linkVC (n : Dom) (f : Ann → Kn → AS → (AExit → Kn → AS → Prop) → Prop) (Q : AExit → Kn → AS → Prop) : Ann → Prop
  | .link I a next => (∀ z, I.ok z → f (a z) kn0 (I.st z).as fun e kn' s' => match e with
      | .normal => linkIn n next s'
      | e => Q e kn' s') ∧ linkVC n f Q next
  | _ => True
def optOr (e : Int) : Ann → Prop
  | .opt v _ next => e = v ∨ optOr e next
  | _ => False
def optAnd (f : Ann → Kn → AS → (AExit → Kn → AS → Prop) → Prop) (k : IntKind) (e : Int) (kn : Kn) (s : AS) (t : Nat) (Q : AExit → Kn → AS → Prop) : Ann → Prop
  | .opt v b next => (e = v → f b (knPut kn (some t) none) (s.put (some t) (.one (.d (.int k v)))) Q) ∧ optAnd f k e kn s t Q next
  | _ => True
def optVC (f : Ann → Kn → AS → (AExit → Kn → AS → Prop) → Prop) (kn : Kn) (s : AS) (t : Nat) (bs : Ann) (Q : AExit → Kn → AS → Prop) : Prop :=
  match s.tm t with
  | .one (.d (.int k e)) => optOr e bs ∧ optAnd f k e kn s t Q bs
  | _ => False
/-! ### ranges over functions -/
def capCell (bx : Nat → Bx) : Cap → Option (Bool × List DV)
  | .d v => if v.plain.isSome then some (false, [v]) else none
  | .ptr b off => if off = 0 then match bx b with
    | .cells cs => match dvs cs with
      | some ds => if ds.all (fun d => d.plain.isSome) then some (true, ds) else none
      | none => none
    | _ => none else none
def capCells (bx : Nat → Bx) : List Cap → Option (List (Bool × List DV))
  | [] => some []
  | c :: cs => match capCell bx c, capCells bx cs with
    | some x, some xs => some (x :: xs)
    | _, _ => none
def AS.only (T : List Nat) (s : AS) : AS := ⟨fun t => if T.contains t then s.tm t else .one .dead, s.bx⟩
def AS.putAll : AS → List Nat → List DV → AS
  | s, p :: ps, d :: ds => (s.put (some p) (.one (.d d))).putAll ps ds
  | s, _, _ => s
def Dom.pinned (n : Dom) (names : List Nat) : Dom := ⟨n.n, n.keep, n.pin ++ names, n.round⟩
def Dom.inner (n : Dom) (T names : List Nat) : Dom := ⟨n.n, fun t => n.keep t || T.contains t, n.pin ++ names, true⟩
def plainOK : DV → Prop
  | .int k n => k.min ≤ n ∧ n ≤ k.max
  | .bool _ => True
  | .str s => s.size ≤ maxLen
  | _ => False
def plainsOK : List DV → Prop
  | [] => True
  | d :: ds => plainOK d ∧ plainsOK ds
def psOK (ps T : List Nat) (n : Dom) : Bool := (ps.all fun p => decide (p < n.n) && !T.contains p && !n.keep p) && decide ps.Nodup
abbrev VCF := Dom → Ann → Kn → AS → (AExit → Kn → AS → Prop) → Prop
def rangeVC (P : Program) (Γ : Gam) (n : Dom) (fA fB : VCF) (g : Operand) (ps : List Nat) (I : Inv) (T : List Nat) (a b : I.α → Ann) (s : AS) (Q : AExit → Kn → AS → Prop) : Prop :=
  match s.eval g with
  | .one (.clo f cs) => match capCells s.bx cs, enters P f && !n.round && psOK ps T n with
    | some caps, true => match Γ.iter f caps with
      | some (N, item) =>
        AnsI P f caps N item ∧ (∀ k, k < N → (item k).length = ps.length ∧ plainsOK (item k)) ∧
        (∃ z, I.ok z ∧ I.μ z = 0 ∧ fits (n.pinned (cs.flatMap Cap.names)) s (I.st z)) ∧
        (∀ z, I.ok z → capCells (lookX (I.st z).bx) cs = some caps ∧
          (I.μ z < N → fA (n.inner T (cs.flatMap Cap.names)) (a z) kn0 (((I.st z).as.only T).putAll ps (item (I.μ z))) fun e kn' s' => match e with
            | .normal => fB (n.inner T (cs.flatMap Cap.names)) (b z) kn' s' fun e kn' s' => match e with
              | .normal => ∃ y, I.ok y ∧ I.μ y = I.μ z + 1 ∧ fits (n.inner T (cs.flatMap Cap.names)) s' (I.st y)
              | e => Q e kn0 (s'.only T)
            | _ => False) ∧
          (I.μ z = N → Q .normal kn0 ((I.st z).as.only T)))
      | none => False
    | _, _ => False
  | _ => False
def melts : AS → List Nat → AS
  | s, [] => s
  | s, t :: ts => melts (s.melt1 t) ts
def orIs (e : Int) : List Int → Prop
  | [] => False
  | v :: vs => e = v ∨ orIs e vs
def andIs (e : Int) (k : IntKind) (t : Nat) (s : AS) (K : AS → Prop) : List Int → Prop
  | [] => True
  | v :: vs => (e = v → K (s.put (some t) (.one (.d (.int k v))))) ∧ andIs e k t s K vs
def splitVC (vs : List Int) (t : Nat) (s : AS) (K : AS → Prop) : Prop :=
  match s.tm t with
  | .one (.d (.int k e)) => orIs e vs ∧ andIs e k t s K vs
  | _ => False
def vcReg (P : Program) (Γ : Gam) (n : Dom) (ops : Array Oper) (ann : Ann) (kn : Kn) (s : AS) (K : Kn → AS → List (List Nat × List Nat) → Prop) : Prop :=
  match ann with
  | .splitAt i t vs => vcRun P Γ n ops ((List.range ops.size).take (i + 1)) kn s [] fun kn' s' acc => splitVC vs t s' fun s2 => vcRun P Γ n ops ((List.range ops.size).drop (i + 1)) kn' s2 acc K
  | _ => vcRun P Γ n ops (List.range ops.size) kn s [] K
def vcg (P : Program) (Γ : Gam) : Dom → Code → Ann → Kn → AS → (AExit → Kn → AS → Prop) → Prop
  | _, .skip, _, kn, s, Q => Q .normal kn s
  | _, .label _, _, kn, s, Q => Q .normal kn s
  | _, .exit id, _, kn, s, Q => Q (.exit id) kn s
  | _, .ret, _, kn, s, Q => Q .ret kn s
  | n, .region _ ops draw, ann, kn, s, Q => vcReg P Γ n ops ann kn s fun kn' s' acc => match draw with
    | true => regOK ops (fun i => acc.reverse.getD i ([], [])) = true ∧ Q .normal kn' s'
    | false => Q .normal kn' s'
  | n, .seq x y, ann, kn, s, Q => match ann with
    | .cut I a b => vcg P Γ n x a kn s (fun e kn' s' => match e with
        | .normal => ∃ z, I.ok z ∧ fits n s' (I.st z)
        | e => Q e kn' s') ∧ ∀ z, I.ok z → vcg P Γ n y (b z) kn0 (I.st z).as Q
    | .ice bs ts a b => vcg P Γ n x a kn s fun e kn' s' => match e with
        | .normal => vcg P Γ n y b kn' (melts (ices s' bs) ts) Q
        | e => Q e kn' s'
    | .split a t bs => vcg P Γ n x a kn s fun e kn' s' => match e with
        | .normal => optVC (vcg P Γ n y) kn' s' t bs Q
        | e => Q e kn' s'
    | ann => vcg P Γ n x ann.l kn s fun e kn' s' => match e with
        | .normal => vcg P Γ n y ann.r kn' s' Q
        | e => Q e kn' s'
  | n, .cond c x y, ann, kn, s, Q => match ann with
    | .sure b a => match (s.eval c).bool? with
      | some b' => b' = b ∧ match b with
        | true => vcg P Γ n x a kn s Q
        | false => vcg P Γ n y a kn s Q
      | none => False
    | ann => match kx kn c with
      | some true => vcg P Γ n x ann.l kn s Q
      | some false => vcg P Γ n y ann.r kn s Q
      | none => match (s.eval c).bool? with
        | some b => (b = true → vcg P Γ n x ann.l kn s Q) ∧ (b = false → vcg P Γ n y ann.r kn s Q)
        | none => False
  | n, .block id c, ann, kn, s, Q => vcg P Γ n c ann kn s fun e kn' s' => match e with
    | .exit id' => match decide (id' = id) with
      | true => Q .normal kn' s'
      | false => Q (.exit id') kn' s'
    | e => Q e kn' s'
  | n, .loop c, ann, kn, s, Q => match ann with
    | .loop I a => (∃ z, I.ok z ∧ fits n s (I.st z)) ∧ ∀ z, I.ok z → vcg P Γ n c (a z) kn0 (I.st z).as fun e kn' s' => match e with
        | .normal => ∃ y, I.ok y ∧ I.μ y < I.μ z ∧ fits n s' (I.st y)
        | e => Q e kn' s'
    | .link I a next => linkIn n (.link I a next) s ∧ linkVC n (vcg P Γ n c) Q (.link I a next)
    | _ => False
  | n, .rangeFunc g ps x y, ann, kn, s, Q => match ann with
    | .range I T a b => rangeVC P Γ n (fun n' => vcg P Γ n' x) (fun n' => vcg P Γ n' y) g ps.toList I T a b s Q
    | _ => False
  | _, _, _, _, _, _ => False
/-! ### fitting is right -/
section
variable {w : World} {V : Nat → Prop} {ι : Names} {bx : Nat → Bx}
/-- the names of the looser state -/
def nm (ι : Names) (r : Ren) : Names := fun b => match renOf r b with
  | some (some b') => ι b'
  | _ => none
theorem fitCap_rep {ι' : Names} {bx' : Nat → Bx} {c c' : Cap} {v : Value} {p : Prop} {r r' : Ren} (hf : fitCap c c' = some (p, r)) (hp : p) (hr : ∀ q ∈ r, renOf r' q.1 = some q.2 ∧ (bx' q.1).known = true) (hι : ∀ b, ι' b = nm ι r' b)
    (h : RepCap ι bx w V c' v) : RepCap ι' bx' w V c v := by
  unfold fitCap at hf
  split at hf <;> first
    | (injection hf with hf; injection hf with hf1 hf2; subst hf1 hf2)
    | cases hf
  · subst hp; exact h
  · obtain ⟨h1, g, c, h2, h3⟩ := h
    subst hp
    obtain ⟨e1, e2⟩ := hr _ (List.mem_singleton.2 rfl)
    simp only at e1 e2
    exact ⟨e2, g, c, by rw [hι]; simp only [nm, e1]; exact h2, h3⟩
theorem fitCaps_rep {ι' : Names} {bx' : Nat → Bx} {r' : Ren} (hι : ∀ b, ι' b = nm ι r' b) : ∀ {cs cs' : List Cap} {vs : List Value} {p : Prop} {r : Ren}, fitCaps cs cs' = some (p, r) → p → (∀ q ∈ r, renOf r' q.1 = some q.2 ∧ (bx' q.1).known = true) →
    RepCaps ι bx w V cs' vs → RepCaps ι' bx' w V cs vs
  | [], [], [], _, _, _, _, _, _ => trivial
  | [], [], _ :: _, _, _, _, _, _, h => h.elim
  | c :: cs, c' :: cs', [], _, _, _, _, _, h => h.elim
  | c :: cs, c' :: cs', v :: vs, p, r, hf, hp, hr, h => by
    simp only [fitCaps] at hf
    cases h1 : fitCap c c' with
    | none => rw [h1] at hf; cases hf
    | some x =>
      cases h2 : fitCaps cs cs' with
      | none => rw [h1, h2] at hf; cases hf
      | some y =>
        rw [h1, h2] at hf
        simp only [Option.some.injEq, Prod.mk.injEq] at hf
        obtain ⟨rfl, rfl⟩ := hf
        exact ⟨fitCap_rep h1 hp.1 (fun q hq => hr q (by simp [hq])) hι h.1, fitCaps_rep hι h2 hp.2 (fun q hq => hr q (by simp [hq])) h.2⟩
  | [], _ :: _, _, _, _, hf, _, _, _ => by cases hf
  | _ :: _, [], _, _, _, hf, _, _, _ => by cases hf
theorem fitCl_rep {ι' : Names} {bx' : Nat → Bx} {c c' : Cl} {v : Value} {p : Prop} {r r' : Ren} (hf : fitCl c c' = some (p, r)) (hp : p) (hr : ∀ q ∈ r, renOf r' q.1 = some q.2 ∧ (bx' q.1).known = true) (hι : ∀ b, ι' b = nm ι r' b)
    (h : RepCl w V ι bx c' v) : RepCl w V ι' bx' c v := by
  unfold fitCl at hf
  split at hf <;> first
    | (injection hf with hf; injection hf with hf1 hf2; subst hf1 hf2)
    | cases hf
    | skip
  · trivial
  · subst hp; exact h
  · subst hp; exact rep_dv_cl (d := .bool _) h rfl
  · subst hp; exact rep_dv_cl (d := .sl 0 []) h rfl
  · subst hp; exact h
  · exact h
  · obtain ⟨h1, g, c, h2, h3⟩ := h
    subst hp
    obtain ⟨e1, e2⟩ := hr _ (List.mem_singleton.2 rfl)
    simp only at e1 e2
    exact ⟨e2, g, c, by rw [hι]; simp only [nm, e1]; exact h2, h3⟩
  · obtain ⟨rfl, rfl⟩ := hp; exact h
  · obtain ⟨h1, h2⟩ := h
    subst hp
    obtain ⟨e1, e2⟩ := hr _ (List.mem_singleton.2 rfl)
    simp only at e1 e2
    exact ⟨e2, by rw [hι]; simp only [nm, e1]; exact h2⟩
  · subst hp
    obtain ⟨e1, e2⟩ := hr _ (List.mem_singleton.2 rfl)
    simp only at e1 e2
    exact ⟨e2, .inl ⟨by rw [hι]; simp only [nm, e1], rfl, h⟩⟩
  · split at hf
    · rename_i e
      subst e
      obtain ⟨lb, h1, h2⟩ := h
      exact ⟨lb, h1, fitCaps_rep hι hf hp hr h2⟩
    · cases hf
theorem fitCls0_rep {ι' : Names} {bx' : Nat → Bx} {r' : Ren} (hι : ∀ b, ι' b = nm ι r' b) : ∀ {cs cs' : List Cl} {vs : List Value} {p : Prop} {r : Ren}, fitCls0 cs cs' = some (p, r) → p → (∀ q ∈ r, renOf r' q.1 = some q.2 ∧ (bx' q.1).known = true) →
    RepCls w V ι bx cs' vs → RepCls w V ι' bx' cs vs
  | [], [], [], _, _, _, _, _, _ => trivial
  | [], [], _ :: _, _, _, _, _, _, h => h.elim
  | c :: cs, c' :: cs', [], _, _, _, _, _, h => h.elim
  | c :: cs, c' :: cs', v :: vs, p, r, hf, hp, hr, h => by
    simp only [fitCls0] at hf
    cases h1 : fitCl c c' with
    | none => rw [h1] at hf; cases hf
    | some x =>
      cases h2 : fitCls0 cs cs' with
      | none => rw [h1, h2] at hf; cases hf
      | some y =>
        rw [h1, h2] at hf
        simp only [Option.some.injEq, Prod.mk.injEq] at hf
        obtain ⟨rfl, rfl⟩ := hf
        exact ⟨fitCl_rep h1 hp.1 (fun q hq => hr q (by simp [hq])) hι h.1, fitCls0_rep hι h2 hp.2 (fun q hq => hr q (by simp [hq])) h.2⟩
  | [], _ :: _, _, _, _, hf, _, _, _ => by cases hf
  | _ :: _, [], _, _, _, hf, _, _, _ => by cases hf
theorem rep_dataOf {w : World} {V : Nat → Prop} {ι : Names} {bx : Nat → Bx} : ∀ {cs : List Cl} {vs : List Value} {ds : List DV}, dataOf cs = some ds → RepDs w V ds vs → RepCls w V ι bx cs vs
  | [], [], _, _, _ => trivial
  | [], _ :: _, ds, hd, h => by simp only [dataOf, Option.some.injEq] at hd; subst hd; exact h.elim
  | c :: cs, vs, ds, hd, h => by
    cases c <;> simp only [dataOf, reduceCtorEq] at hd
    rename_i v
    cases h2 : dataOf cs with
    | none => rw [h2] at hd; cases hd
    | some ds' =>
      rw [h2] at hd
      simp only [Option.some.injEq] at hd
      subst hd
      cases vs with
      | nil => exact h.elim
      | cons u vs => exact ⟨h.1, rep_dataOf h2 h.2⟩
theorem fitCls_rep {ι' : Names} {bx' : Nat → Bx} {r' : Ren} (hι : ∀ b, ι' b = nm ι r' b) {cs cs' : List Cl} {vs : List Value} {p : Prop} {r : Ren} (hf : fitCls cs cs' = some (p, r)) (hp : p) (hr : ∀ q ∈ r, renOf r' q.1 = some q.2 ∧ (bx' q.1).known = true)
    (h : RepCls w V ι bx cs' vs) : RepCls w V ι' bx' cs vs := by
  unfold fitCls at hf
  split at hf
  · rename_i xs ys h1 h2
    simp only [Option.some.injEq, Prod.mk.injEq] at hf
    obtain ⟨rfl, rfl⟩ := hf
    subst hp
    exact rep_dataOf h1 (rep_dvs h h2)
  · exact fitCls0_rep hι hf hp hr h
mutual
theorem fitAV_rep {ι' : Names} {bx' : Nat → Bx} {r' : Ren} (hι : ∀ b, ι' b = nm ι r' b) : ∀ {x y : AV} {v : Value} {p : Prop} {r : Ren}, fitAV x y = some (p, r) → p → (∀ q ∈ r, renOf r' q.1 = some q.2 ∧ (bx' q.1).known = true) →
    RepAV w V ι bx y v → RepAV w V ι' bx' x v
  | .one c, .one c', v, p, r, hf, hp, hr, h => by
    simp only [fitAV] at hf
    simp only [RepAV] at h ⊢
    exact fitCl_rep hf hp hr hι h
  | .one c, .agg cs', v, p, r, hf, hp, hr, h => by
    cases c <;> simp only [fitAV, reduceCtorEq] at hf
    simp only [RepAV, RepCl]
  | .one c, .tup vs', v, p, r, hf, hp, hr, h => by
    cases c <;> simp only [fitAV, reduceCtorEq] at hf
    simp only [RepAV, RepCl]
  | .agg cs, .agg cs', v, p, r, hf, hp, hr, h => by
    simp only [fitAV] at hf
    simp only [RepAV] at h ⊢
    obtain ⟨cur, e, h⟩ := h
    exact ⟨cur, e, fitCls_rep hι hf hp hr h⟩
  | .tup vs, .tup vs', v, p, r, hf, hp, hr, h => by
    simp only [fitAV] at hf
    simp only [RepAV] at h ⊢
    obtain ⟨cur, e, h⟩ := h
    exact ⟨cur, e, fitAVs_rep hι hf hp hr h⟩
  | .agg _, .one _, _, _, _, hf, _, _, _ => by simp [fitAV] at hf
  | .agg _, .tup _, _, _, _, hf, _, _, _ => by simp [fitAV] at hf
  | .tup _, .one _, _, _, _, hf, _, _, _ => by simp [fitAV] at hf
  | .tup _, .agg _, _, _, _, hf, _, _, _ => by simp [fitAV] at hf
theorem fitAVs_rep {ι' : Names} {bx' : Nat → Bx} {r' : Ren} (hι : ∀ b, ι' b = nm ι r' b) : ∀ {xs ys : List AV} {vs : List Value} {p : Prop} {r : Ren}, fitAVs xs ys = some (p, r) → p → (∀ q ∈ r, renOf r' q.1 = some q.2 ∧ (bx' q.1).known = true) →
    RepAVs w V ι bx ys vs → RepAVs w V ι' bx' xs vs
  | [], [], vs, _, _, _, _, _, h => by
    cases vs with
    | nil => simp only [RepAVs]
    | cons _ _ => simp only [RepAVs] at h
  | x :: xs, y :: ys, [], _, _, _, _, _, h => by simp only [RepAVs] at h
  | x :: xs, y :: ys, v :: vs, p, r, hf, hp, hr, h => by
    simp only [fitAVs] at hf
    cases h1 : fitAV x y with
    | none => rw [h1] at hf; cases hf
    | some a =>
      cases h2 : fitAVs xs ys with
      | none => rw [h1, h2] at hf; cases hf
      | some b =>
        rw [h1, h2] at hf
        simp only [Option.some.injEq, Prod.mk.injEq] at hf
        obtain ⟨rfl, rfl⟩ := hf
        simp only [RepAVs] at h ⊢
        exact ⟨fitAV_rep hι h1 hp.1 (fun q hq => hr q (by simp [hq])) h.1, fitAVs_rep hι h2 hp.2 (fun q hq => hr q (by simp [hq])) h.2⟩
  | [], _ :: _, _, _, _, hf, _, _, _ => by simp [fitAVs] at hf
  | _ :: _, [], _, _, _, hf, _, _, _ => by simp [fitAVs] at hf
end
end
theorem fitTm_at {s : AS} : ∀ {l : List (Nat × AV)} {p : Prop} {r : Ren}, fitTm s l = some (p, r) → p → ∀ t, lookT l t = .one .dead ∨ ∃ q r1, fitAV (lookT l t) (s.tm t) = some (q, r1) ∧ q ∧ ∀ x ∈ r1, x ∈ r
  | [], _, _, _, _, t => .inl rfl
  | (t', v) :: l, p, r, hf, hp, t => by
    simp only [fitTm] at hf
    cases h1 : fitAV v (s.tm t') with
    | none => rw [h1] at hf; cases hf
    | some a =>
      cases h2 : fitTm s l with
      | none => rw [h1, h2] at hf; cases hf
      | some b =>
        rw [h1, h2] at hf
        simp only [Option.some.injEq, Prod.mk.injEq] at hf
        obtain ⟨rfl, rfl⟩ := hf
        simp only [lookT]
        by_cases e : t = t'
        · subst e
          rw [if_pos rfl]
          exact .inr ⟨a.1, a.2, h1, hp.1, fun x hx => by simp [hx]⟩
        · rw [if_neg e]
          rcases fitTm_at h2 hp.2 t with h3 | ⟨q, r1, h3, h4, h5⟩
          · exact .inl h3
          · exact .inr ⟨q, r1, h3, h4, fun x hx => by simp [h5 x hx]⟩
theorem fitBxs_grow {s : AS} : ∀ {l : List (Nat × Bx)} {r r' : Ren} {p : Prop}, fitBxs s l r = some (p, r') → ∀ x ∈ r, x ∈ r'
  | [], r, r', p, h, x, hx => by simp only [fitBxs, Option.some.injEq, Prod.mk.injEq] at h; rw [← h.2]; exact hx
  | (b, B) :: l, r, r', p, h, x, hx => by
    simp only [fitBxs] at h
    split at h
    · split at h
      · split at h
        · rename_i h3
          simp only [Option.some.injEq, Prod.mk.injEq] at h
          rw [← h.2]
          exact fitBxs_grow h3 x (by simp [hx])
        · cases h
      · cases h
    · split at h
      · split at h
        · rename_i h3
          simp only [Option.some.injEq, Prod.mk.injEq] at h
          rw [← h.2]
          exact fitBxs_grow h3 x hx
        · cases h
      · cases h
    · cases h
theorem renOf_mem : ∀ {r : Ren} {b : Nat} {x : Option Nat}, renOf r b = some x → (b, x) ∈ r
  | [], _, _, h => by cases h
  | (b', y) :: r, b, x, h => by
    simp only [renOf] at h
    split at h
    · rename_i e; injection h with h; subst e h; simp
    · simp [renOf_mem h]
theorem fitBxs_at {s : AS} : ∀ {l : List (Nat × Bx)} {r r' : Ren} {p : Prop}, fitBxs s l r = some (p, r') → p → (l.map (·.1)).Nodup → ∀ b B, (b, B) ∈ l →
    (∃ b' q r1, (b, some b') ∈ r' ∧ fitBx B (s.bx b') = some (q, r1) ∧ q ∧ ∀ x ∈ r1, x ∈ r') ∨ ((b, none) ∈ r' ∧ ∃ e size, B = .row e size [])
  | (b0, B0) :: l, r, r', p, h, hp, hn, b, B, hm => by
    simp only [List.map_cons, List.nodup_cons] at hn
    simp only [fitBxs] at h
    split at h
    · rename_i b' hren
      split at h
      · rename_i q r1 h2
        split at h
        · rename_i q2 r2 h3
          simp only [Option.some.injEq, Prod.mk.injEq] at h
          obtain ⟨rfl, rfl⟩ := h
          rcases List.mem_cons.1 hm with e | hm
          · injection e with e1 e2
            subst e1 e2
            exact .inl ⟨b', q, r1, fitBxs_grow h3 _ (by simp [renOf_mem hren]), h2, hp.1, fun x hx => fitBxs_grow h3 x (by simp [hx])⟩
          · exact fitBxs_at h3 hp.2 hn.2 b B hm
        · cases h
      · cases h
    · rename_i hren
      split at h
      · rename_i e size xs
        split at h
        · rename_i q2 r2 h3
          simp only [Option.some.injEq, Prod.mk.injEq] at h
          obtain ⟨rfl, rfl⟩ := h
          rcases List.mem_cons.1 hm with e' | hm
          · injection e' with e1 e2
            subst e1 e2
            exact .inr ⟨fitBxs_grow h3 _ (renOf_mem hren), e, size, by rw [← hp.1]⟩
          · exact fitBxs_at h3 hp.2 hn.2 b B hm
        · cases h
      · cases h
    · cases h
theorem lookX_mem : ∀ {l : List (Nat × Bx)} {b : Nat}, (lookX l b).known = true → (b, lookX l b) ∈ l
  | [], _, h => by simp [lookX, Bx.known] at h
  | (b', B) :: l, b, h => by
    simp only [lookX] at h ⊢
    by_cases e : b = b'
    · subst e; simp
    · rw [if_neg e] at h ⊢; simp [lookX_mem h]
theorem lookX_of_mem : ∀ {l : List (Nat × Bx)} {b : Nat} {B : Bx}, (l.map (·.1)).Nodup → (b, B) ∈ l → lookX l b = B
  | (b', B') :: l, b, B, hn, h => by
    simp only [List.map_cons, List.nodup_cons] at hn
    rcases List.mem_cons.1 h with e | h
    · injection e with e1 e2; subst e1 e2; simp [lookX]
    · have : b ≠ b' := fun e => hn.1 (by rw [← e]; exact List.mem_map.2 ⟨_, h, rfl⟩)
      simp only [lookX, if_neg this]
      exact lookX_of_mem hn.2 h
theorem RepS.fit0 {w0 : World} {S : Scope} {n : Dom} {s : AS} {ι : Names} {a : Act} {w : World} (h : RepS w0 S n s ι a w) {sn : Snap} (hf : fits0 n s sn) : ∃ ι', RepS w0 S n sn.as ι' a w := by
  unfold fits0 at hf
  split at hf
  · rename_i p r h1
    split at hf
    · rename_i q r' h2
      split at hf
      · rename_i hok
        obtain ⟨hp, hq⟩ := hf
        simp only [renOK, Bool.and_eq_true, List.all_eq_true, decide_eq_true_eq] at hok
        obtain ⟨⟨o1, o2⟩, o3⟩ := hok
        have hren : ∀ x ∈ r', renOf r' x.1 = some x.2 := fun x hx => by
          have := (o1 x hx).1
          exact eq_of_beq this
        have hinj : ∀ b1 b2 b', (b1, some b') ∈ r' → (b2, some b') ∈ r' → b1 = b2 := fun b1 b2 b' m1 m2 => by
          have := o2 _ m1 _ m2
          simpa using this
        -- boxes of the looser state
        have hat : ∀ b, (lookX sn.bx b).known = true → (∃ b' q r1, (b, some b') ∈ r' ∧ fitBx (lookX sn.bx b) (s.bx b') = some (q, r1) ∧ q ∧ ∀ x ∈ r1, x ∈ r') ∨ ((b, none) ∈ r' ∧ ∃ e size, lookX sn.bx b = .row e size []) :=
          fun b hk => fitBxs_at h2 hq o3 b _ (lookX_mem hk)
        have hbxk : ∀ x ∈ r', (sn.as.bx x.1).known = true := fun x hx => by
          have := (o1 x hx).2
          rw [List.any_eq_true] at this
          obtain ⟨y, hy, e⟩ := this
          have e : y.1 = x.1 := eq_of_beq e
          have hy' : (x.1, y.2) ∈ sn.bx := by rw [← e]; exact hy
          have hl := lookX_of_mem o3 hy'
          show (lookX sn.bx x.1).known = true
          rw [hl]
          have hno : ∀ B, (x.1, B) ∈ sn.bx → B.known = true := fun B hB => by
            rcases fitBxs_at h2 hq o3 x.1 B hB with ⟨b', q, r1, _, hfb, _⟩ | ⟨_, e', size, rfl⟩
            · cases B <;> simp_all [fitBx, Bx.known]
            · rfl
          exact hno _ hy'
        have hknown : ∀ x ∈ r', renOf r' x.1 = some x.2 ∧ (sn.as.bx x.1).known = true := fun x hx => ⟨hren x hx, hbxk x hx⟩
        have hlive : ∀ b, (sn.as.bx b).live = true → (∃ b', (b, some b') ∈ r' ∧ (s.bx b').live = true ∧ nm ι r' b = ι b') ∨ nm ι r' b = none := fun b hl => by
          have hk : (lookX sn.bx b).known = true := by
            have hl' : (lookX sn.bx b).live = true := hl
            cases hB : lookX sn.bx b <;> rw [hB] at hl' <;> first | rfl | cases hl'
          rcases hat b hk with ⟨b', q, r1, m, hfb, _⟩ | ⟨m, _⟩
          · left
            refine ⟨b', m, ?_, by simp only [nm, hren _ m]⟩
            have hl' : (lookX sn.bx b).live = true := hl
            cases hB : lookX sn.bx b <;> cases hB' : s.bx b' <;> rw [hB, hB'] at hfb <;> simp only [fitBx, reduceCtorEq] at hfb <;> first | rfl | (rw [hB] at hl'; cases hl')
          · right; simp only [nm, hren _ m]
        have hkeep : Keeps w (Seen S w0.heap.size s.bx ι) w (Seen S w0.heap.size sn.as.bx (nm ι r')) := fun g off u hV hu => ⟨⟨hV.1, fun b c hl e => by
          rcases hlive b hl with ⟨b', _, hl', e'⟩ | e'
          · exact hV.2 b' c hl' (by rw [← e']; exact e)
          · rw [e'] at e; cases e⟩, hu⟩
        have hVmono : ∀ {x : AV} {v : Value}, RepAV w (Seen S w0.heap.size s.bx ι) ι s.bx x v → RepAV w (Seen S w0.heap.size sn.as.bx (nm ι r')) ι s.bx x v := fun hx => hx.keep (fun b hb => ⟨hb, rfl⟩) hkeep
        refine ⟨nm ι r', h.bel, h.marks, h.oth, h.size, h.fix, fun b hb => ?_, fun t => ?_, fun b => ?_, fun b g c hl e => ?_, fun b1 b2 g c c' hl hl' hne e => ?_, h.glob.keep hkeep⟩
        · have hm : (b, some b) ∈ r' := fitBxs_grow h2 _ (by simp only [pins, List.mem_append, List.mem_map]; exact .inr ⟨b, hb, rfl⟩)
          exact ⟨by simp only [nm, hren _ hm]; exact (h.pin b hb).1, hbxk _ hm⟩
        · rcases fitTm_at h1 hp t with hd | ⟨q, r1, g1, g2, g3⟩
          · show RepAV _ _ _ _ (lookT sn.tm t) _
            rw [hd]; simp only [RepAV, RepCl]
          · exact fitAV_rep (fun _ => rfl) g1 g2 (fun x hx => hknown x (fitBxs_grow h2 x (by simp [g3 x hx]))) (hVmono (h.tm t))
        · show RepBx _ _ _ _ b (lookX sn.bx b)
          cases hk : (lookX sn.bx b).known with
          | false => cases hB : lookX sn.bx b <;> rw [hB] at hk <;> first | trivial | cases hk
          | true =>
            rcases hat b hk with ⟨b', q, r1, m, hfb, hq1, hr1⟩ | ⟨m, e, size, hB⟩
            · have hnm : nm ι r' b = ι b' := by simp only [nm, hren _ m]
              have hrb := h.bx b'
              cases hB : lookX sn.bx b <;> cases hB' : s.bx b' <;> rw [hB, hB'] at hfb <;> simp only [fitBx, reduceCtorEq] at hfb <;> rw [hB'] at hrb
              · trivial
              · obtain ⟨g, c, cur, T, g1, g2, g3⟩ := hrb
                refine ⟨g, c, cur, T, by rw [hnm]; exact g1, g2, ?_⟩
                exact fitCls_rep (fun _ => rfl) hfb hq1 (fun x hx => hknown x (hr1 x hx)) (g3.keep (fun b hb => ⟨hb, rfl⟩) hkeep)
              · split at hfb
                · rename_i hes
                  simp only [Option.some.injEq, Prod.mk.injEq] at hfb
                  obtain ⟨rfl, rfl⟩ := hfb
                  subst hq1
                  obtain ⟨rfl, rfl⟩ := hes
                  rcases hrb with ⟨g1, g2⟩ | ⟨g, cap, cur, g1, g2, g3, g4, g5⟩
                  · exact .inl ⟨by rw [hnm]; exact g1, g2⟩
                  · exact .inr ⟨g, cap, cur, by rw [hnm]; exact g1, g2, g3, g4, g5.keep hkeep⟩
                · cases hfb
              · simp only [Option.some.injEq, Prod.mk.injEq] at hfb
                obtain ⟨rfl, rfl⟩ := hfb
                subst hq1
                rcases hrb with ⟨g1, g2⟩ | ⟨g, cap, g1, g2, g3⟩
                · exact .inl ⟨by rw [hnm]; exact g1, g2⟩
                · exact .inr ⟨g, cap, by rw [hnm]; exact g1, g2.keep hkeep, g3⟩
            · rw [hB]
              exact .inl ⟨by simp only [nm, hren _ m], rfl⟩
        · rcases hlive b hl with ⟨b', _, hl', e'⟩ | e'
          · exact h.own b' g c hl' (by rw [← e']; exact e)
          · rw [e'] at e; cases e
        · rcases hlive b1 hl with ⟨b1', m1, hl1, e1⟩ | e1
          · rcases hlive b2 hl' with ⟨b2', m2, hl2, e2⟩ | e2
            · rw [e1] at e
              rw [e2]
              refine h.dist b1' b2' g c c' hl1 hl2 (fun e' => hne ?_) e
              subst e'
              exact hinj _ _ _ m1 m2
            · rw [e2]; simp
          · rw [e1] at e; cases e
      · exact hf.elim
    · exact hf.elim
  · exact hf.elim
theorem RepS.melt1 {w0 : World} {S : Scope} {n : Dom} {s : AS} {ι : Names} {a : Act} {w : World} (h : RepS w0 S n s ι a w) (t : Nat) : RepS w0 S n (s.melt1 t) ι a w := by
  unfold AS.melt1
  split
  · rename_i b m ht
    split
    · rename_i xs hin
      have h2 := h.freeze b
      refine ⟨h2.bel, h2.marks, h2.oth, h2.size, h2.fix, h2.pin, fun t' => ?_, h2.bx, h2.own, h2.dist, h2.glob⟩
      by_cases e : t' = t
      · subst e
        have hv := h2.tm t'
        have hb := h2.bx b
        have e1 : (s.setB b (s.bx b).freeze).bx b = .ice xs := by
          simp only [AS.setB, if_true]
          revert hin
          cases s.bx b <;> intro hin <;> simp only [inside, Option.some.injEq, reduceCtorEq] at hin <;> subst hin <;> rfl
        have e2 : (s.setB b (s.bx b).freeze).tm t' = .one (.ref b m) := ht
        rw [e2] at hv
        rw [e1] at hb
        show RepAV _ _ _ _ (if t' = t' then .one (.d (.sl m xs)) else s.tm t') _
        rw [if_pos rfl]
        simp only [RepAV, RepCl] at hv ⊢
        simp only [RepD]
        obtain ⟨_, hv⟩ := hv
        rcases hb with ⟨g1, g2⟩ | ⟨g, cap, g1, g2, g3⟩
        · subst g2
          rcases hv with ⟨_, q1, q2⟩ | ⟨g', cap', q1, _⟩
          · exact ⟨none, 0, by rw [q1]; exact q2, by omega, Nat.zero_le _, fun hne => absurd rfl hne⟩
          · rw [g1] at q1; cases q1
        · rcases hv with ⟨q1, _⟩ | ⟨g', cap', q1, q2, q3⟩
          · rw [g1] at q1; cases q1
          · rw [g1] at q1
            simp only [Option.some.injEq, Prod.mk.injEq] at q1
            obtain ⟨rfl, rfl⟩ := q1
            exact ⟨_, cap, q2, q3, g3, fun hne => ⟨g, 0, rfl, g2 hne⟩⟩
      · have := h2.tm t'
        show RepAV _ _ _ _ (if t' = t then .one (.d (.sl m xs)) else s.tm t') _
        rw [if_neg e]
        exact this
    · exact h
  · exact h
theorem RepS.meltFor {w0 : World} {S : Scope} {n : Dom} {ι : Names} {a : Act} {w : World} : ∀ (l : List (Nat × AV)) {s : AS}, RepS w0 S n s ι a w → RepS w0 S n (meltFor l s) ι a w
  | [], _, h => h
  | (t, v) :: l, s, h => by
    unfold Go.Proofs.Ytaaealkgbklmeaa.meltFor
    split
    · rename_i e; cases e
    · rename_i t' d l' e
      injection e with e1 e2
      injection e1 with e3 e4
      subst e2 e3
      exact RepS.meltFor _ (h.melt1 _)
    · rename_i p l' _ e
      injection e with e1 e2
      subst e2
      exact RepS.meltFor _ h
theorem RepS.fit {w0 : World} {S : Scope} {n : Dom} {s : AS} {ι : Names} {a : Act} {w : World} (h : RepS w0 S n s ι a w) {sn : Snap} (hf : fits n s sn) : ∃ ι', RepS w0 S n sn.as ι' a w :=
  (h.meltFor sn.tm).fit0 hf
/-
  A function's statement suffices: it answers as it says.
-/
def AExit.exit_ : AExit → Exit
  | .normal => .normal
  | .exit id => .exit id
  | .ret => .ret
section
variable {P : Program} {Γ : Gam}
theorem kn0_ok (s : AS) : KnOK kn0 s := fun _ _ h => by cases h
/-- a block turned that is no cells -/
theorem RepS.turn {w0 : World} {S : Scope} {n : Dom} {s : AS} {ι : Names} {a : Act} {w w' : World} (h : RepS w0 S n s ι a w) {row : Option Nat} (hg : w.grownBy w' row)
    (hr : ∀ r, row = some r → w0.heap.size ≤ r ∧ ∃ o : Obj, w.heap[r]? = some o ∧ o.isCells = false) {ds : List Deferred} (hm : Marks w0 ds w') {ref : World} (ho : KeepsOthers ref w') :
    RepS w0 { S with ref := ref } n s ι { a with defers := ds } w' := by
  have hk : Keeps w (Seen S w0.heap.size s.bx ι) w' (Seen { S with ref := ref } w0.heap.size s.bx ι) := fun g off u hV hu => ⟨hV, cell_kept hu hg fun r e => (hr r e).2⟩
  have hl : ∀ b g c, (s.bx b).live = true → ι b = some (g, c) → w'.heap[g]? = w.heap[g]? := fun b g c hb hι => by
    refine hg.block g (h.own b g c hb hι).2 fun e => ?_
    obtain ⟨o, h1, h2⟩ := (hr g e.symm).2
    obtain ⟨cur, T, i, h3⟩ := h.live_cells hb hι
    rw [h3] at h1
    injection h1 with h1
    subst h1
    cases h2
  refine ⟨⟨hg.os.trans h.bel.os, hg.tape.trans h.bel.tape, hg.output.trans h.bel.output, Nat.le_trans h.bel.size hg.size, fun g h1 h2 => ?_⟩, hm, ho, h.size, h.fix, h.pin, fun t => (h.tm t).keep (fun b hb => ⟨hb, rfl⟩) hk, fun b => ?_,
    fun b g c hb hι => ⟨(h.own b g c hb hι).1, Nat.lt_of_lt_of_le (h.own b g c hb hι).2 hg.size⟩, h.dist, h.glob.keep hk⟩
  · refine (hg.block g (Nat.lt_of_lt_of_le h1 h.bel.size) fun e => ?_).trans (h.bel.block g h1 h2)
    have := (hr g e.symm).1
    omega
  · cases hkn : (s.bx b).known with
    | true => exact RepBx.keep (fun b hb => ⟨hb, rfl⟩) hk hkn hkn (fun hb g c hι => hl b g c hb hι) (h.bx b)
    | false => cases hB : s.bx b <;> rw [hB] at hkn <;> first | trivial | (simp [Bx.known] at hkn)
theorem keeps_turn {ref w w' : World} {row : Option Nat} {B : Nat} (h : KeepsOthers ref w) (hg : w.grownBy w' row) (hr : ∀ r, row = some r → B ≤ r) (hB : ref.heap.size ≤ B) : KeepsOthers ref w' :=
  ⟨Nat.le_trans h.size hg.size, fun k o hk ho => by
    have hlt : k < ref.heap.size := (Array.getElem?_eq_some_iff.1 hk).1
    refine (hg.block k (Nat.lt_of_lt_of_le hlt h.size) fun e => ?_).trans (h.same k o hk ho)
    have := hr k e.symm
    omega⟩
theorem marks_turn {w0 w w' : World} {ds : List Deferred} {row : Option Nat} {B : Nat} (h : Marks w0 ds w) (hg : w.grownBy w' row) (hr : ∀ r, row = some r → B ≤ r) (hB : ∀ d ∈ ds, ∀ D, d = { target := .collected D, args := #[] } → D < B) : Marks w0 ds w' :=
  ⟨h.1, fun d hd => by
    obtain ⟨D, e, h1, h2⟩ := h.2 d hd
    refine ⟨D, e, h1, (hg.block D (Array.getElem?_eq_some_iff.1 h2).1 fun e' => ?_).trans h2⟩
    have := hr D e'.symm
    have := hB d hd D e
    omega⟩
theorem vcRun_wp {n : Dom} {F : Fence} (hF : Wide F) {m id : Nat} {ops : Array Oper} {draw : Bool} {kn : Kn} {s : AS} {Q : AExit → Kn → AS → Prop} (hm : P.follows .mixedOrders = true) (h : vcRun P Γ n ops (List.range ops.size) kn s [] fun kn' s' acc => match draw with
    | true => regOK ops (fun i => acc.reverse.getD i ([], [])) = true ∧ Q .normal kn' s'
    | false => Q .normal kn' s') (hk : KnOK kn s) {w0 : World} {S : Scope} {ι : Names} {a : Act} {w : World} (hr : RepS w0 S n s ι a w) {Q' : Exit → Act → World → Prop}
    (hQ : ∀ e kn' s' ι' a' w', Q e kn' s' → KnOK kn' s' → RepS w0 S n s' ι' a' w' → Q' e.exit_ a' w') : (Code.region id ops draw).wpIn F m P Q' a w := by
  obtain ⟨kn', s', ts, h1, h2, h3, h4⟩ := vcRun_runs h hk
  have hτ : ∀ (k i : Nat), (List.range ops.size)[k]? = some i → (fun i => (ts.reverse ++ []).reverse.getD i ([], [])) i = ts.getD k ([], []) := fun k i hi => by
    have : k = i := by
      have hlt := (List.getElem?_eq_some_iff.1 hi).1
      simp at hlt
      simp [hlt] at hi
      exact hi
    subst this
    simp
  have hruns := h4 _ hτ
  cases draw with
  | false =>
    simp only at h1
    exact wpIn_region (runs_wpOps hF hruns hr fun ι' a' w' hr' => hQ .normal kn' s' ι' a' w' h1 h2 hr')
  | true =>
    simp only at h1
    obtain ⟨hok, h1⟩ := h1
    refine wpIn_region_any hm ?_
    have hleft : left ops (Array.replicate ops.size false) = List.range ops.size := by
      unfold left
      rw [List.filter_eq_self]
      intro i hi
      have : i < ops.size := List.mem_range.1 hi
      simp [Array.getD, this]
    have hr1 : RepS w0 S n s ι a { w with drawn := w.drawn + 1 } := hr.quiet ⟨hr.bel.os, hr.bel.tape, hr.bel.output, hr.bel.size, hr.bel.block⟩ rfl
    exact runs_any hF hok (fun ι' a' w' hr' => hQ .normal kn' s' ι' a' w' h1 h2 hr') ops.size _ s ι a _ (fun i o ho hl hs => by
      have : i < ops.size := by simpa using hs
      simp [Array.getD, this] at hl) (by simp) (by rw [hleft]; simp) (by rw [hleft]; exact hruns) hr1
theorem melt1_kn {kn : Kn} {s : AS} {t : Nat} (h : KnOK kn s) : KnOK kn (s.melt1 t) := fun t' b hb => by
  have h1 := h t' b hb
  unfold AS.melt1
  split
  · rename_i b' m ht
    split
    · simp only
      split
      · rename_i e
        subst e
        rw [ht] at h1
        cases h1
      · exact h1
    · exact h1
  · exact h1
theorem melts_kn {kn : Kn} : ∀ (ts : List Nat) {s : AS}, KnOK kn s → KnOK kn (melts s ts)
  | [], _, h => h
  | _ :: ts, _, h => melts_kn ts (melt1_kn h)
theorem RepS.melts {w0 : World} {S : Scope} {n : Dom} {ι : Names} {a : Act} {w : World} : ∀ (ts : List Nat) {s : AS}, RepS w0 S n s ι a w → RepS w0 S n (melts s ts) ι a w
  | [], _, h => h
  | t :: ts, _, h => RepS.melts ts (h.melt1 t)
theorem vcRun_mono {n : Dom} {ops : Array Oper} : ∀ {R : List Nat} {kn : Kn} {s : AS} {acc : List (List Nat × List Nat)} {Q Q' : Kn → AS → List (List Nat × List Nat) → Prop}, (∀ kn s acc, Q kn s acc → Q' kn s acc) → vcRun P Γ n ops R kn s acc Q → vcRun P Γ n ops R kn s acc Q'
  | [], kn, s, acc, Q, Q', hQ, h => hQ _ _ _ h
  | i :: R, kn, s, acc, Q, Q', hQ, h => by
    unfold vcRun at h ⊢
    split at h
    · exact h.elim
    · split at h
      · exact h.elim
      · split at h
        · exact ⟨h.1, vcRun_mono hQ h.2⟩
        · exact h.elim
      · split at h
        · exact vcRun_mono hQ h
        · exact h.elim
      · refine ⟨fun e => ?_, fun e => ?_⟩
        · have h := h.1 e
          split at h
          · exact ⟨h.1, vcRun_mono hQ h.2⟩
          · exact h.elim
        · have h := h.2 e
          split at h
          · exact vcRun_mono hQ h
          · exact h.elim
theorem vcRun_append {n : Dom} {ops : Array Oper} {B : List Nat} {Q : Kn → AS → List (List Nat × List Nat) → Prop} : ∀ {A : List Nat} {kn : Kn} {s : AS} {acc : List (List Nat × List Nat)}, vcRun P Γ n ops A kn s acc (fun kn' s' acc' => vcRun P Γ n ops B kn' s' acc' Q) → vcRun P Γ n ops (A ++ B) kn s acc Q
  | [], kn, s, acc, h => h
  | i :: A, kn, s, acc, h => by
    rw [List.cons_append]
    unfold vcRun at h ⊢
    split at h
    · exact h.elim
    · split at h
      · exact h.elim
      · split at h
        · exact ⟨h.1, vcRun_append h.2⟩
        · exact h.elim
      · split at h
        · exact vcRun_append h
        · exact h.elim
      · refine ⟨fun e => ?_, fun e => ?_⟩
        · have h := h.1 e
          split at h
          · exact ⟨h.1, vcRun_append h.2⟩
          · exact h.elim
        · have h := h.2 e
          split at h
          · exact vcRun_append h
          · exact h.elim
theorem andIs_pick {e : Int} {k : IntKind} {t : Nat} {s : AS} {K : AS → Prop} : ∀ {vs : List Int}, orIs e vs → andIs e k t s K vs → K (s.put (some t) (.one (.d (.int k e))))
  | v :: vs, h1, h2 => by
    simp only [orIs] at h1
    simp only [andIs] at h2
    rcases h1 with rfl | h1
    · exact h2.1 rfl
    · exact andIs_pick h1 h2.2
  | [], h1, _ => h1.elim
theorem splitVC_pick {vs : List Int} {t : Nat} {s : AS} {K : AS → Prop} (h : splitVC vs t s K) : K s := by
  unfold splitVC at h
  split at h
  · rename_i k e ht
    have := andIs_pick h.1 h.2
    have hs : s.put (some t) (.one (.d (.int k e))) = s := by
      refine AS.ext' ?_ rfl
      funext t'
      simp only [AS.put]
      split
      · rename_i e'; rw [e', ht]
      · rfl
    rwa [hs] at this
  · exact h.elim
theorem vcReg_run {n : Dom} {ops : Array Oper} {ann : Ann} {kn : Kn} {s : AS} {K : Kn → AS → List (List Nat × List Nat) → Prop} (h : vcReg P Γ n ops ann kn s K) : vcRun P Γ n ops (List.range ops.size) kn s [] K := by
  unfold vcReg at h
  split at h
  · rename_i i t vs
    have h2 := vcRun_append (vcRun_mono (fun _ _ _ h => splitVC_pick h) h)
    rwa [List.take_append_drop] at h2
  · exact h
def SoundC (P : Program) (f : VCF) (c : Code) : Prop :=
  ∀ (n : Dom) (ann : Ann) (kn : Kn) (s : AS) (Q : AExit → Kn → AS → Prop), f n ann kn s Q → KnOK kn s → ∀ (F : Fence), Wide F → (n.round = false → F = Fence.wide) →
    ∀ (w0 : World) (S : Scope) (ι : Names) (a : Act) (w : World), RepS w0 S n s ι a w → ∀ (m : Nat) (Q' : Exit → Act → World → Prop),
    (∀ e kn' s' ι' a' w', Q e kn' s' → KnOK kn' s' → RepS w0 S n s' ι' a' w' → Q' e.exit_ a' w') → c.wpIn F m P Q' a w
def linkLen : Ann → Nat
  | .link _ _ next => linkLen next + 1
  | _ => 0
theorem link_sound {f : VCF} {c : Code} (ih : SoundC P f c) {n : Dom} {ann : Ann} {s : AS} {Q : AExit → Kn → AS → Prop} (h1 : linkIn n ann s) (h2 : linkVC n (f n) Q ann) {F : Fence} (hF : Wide F) (hR : n.round = false → F = Fence.wide)
    {w0 : World} {S : Scope} {ι : Names} {a : Act} {w : World} (hr : RepS w0 S n s ι a w) {m : Nat} {Q' : Exit → Act → World → Prop}
    (hQ : ∀ e kn' s' ι' a' w', Q e kn' s' → KnOK kn' s' → RepS w0 S n s' ι' a' w' → Q' e.exit_ a' w') : (Code.loop c).wpIn F m P Q' a w := by
  refine wpIn_loop_ghost (fun k a w => ∃ ann s ι, linkLen ann = k ∧ linkIn n ann s ∧ linkVC n (f n) Q ann ∧ RepS w0 S n s ι a w) (linkLen ann) ⟨ann, s, ι, rfl, h1, h2, hr⟩ fun k a w hI => ?_
  obtain ⟨ann, s, ι, rfl, h1, h2, hr⟩ := hI
  cases ann <;> first | exact h1.elim | skip
  rename_i I b next
  obtain ⟨z, hz, hf⟩ := h1
  obtain ⟨ι2, hr2⟩ := hr.fit hf
  simp only [linkVC] at h2
  refine ih n (b z) kn0 _ _ (h2.1 z hz) (kn0_ok _) F hF hR w0 S ι2 a w hr2 m _ fun e kn' s' ι' a' w' hq hk' hr' => ?_
  cases e with
  | normal => exact ⟨linkLen next, by simp [linkLen], next, s', ι', rfl, hq, h2.2, hr'⟩
  | exit id => exact hQ (.exit id) kn' s' ι' a' w' hq hk' hr'
  | ret => exact hQ .ret kn' s' ι' a' w' hq hk' hr'
theorem opt_pick {f : Ann → Kn → AS → (AExit → Kn → AS → Prop) → Prop} {kn : Kn} {s : AS} {t : Nat} {Q : AExit → Kn → AS → Prop} {k : IntKind} {e : Int} (ht : s.tm t = .one (.d (.int k e))) :
    ∀ {bs : Ann}, optOr e bs → optAnd f k e kn s t Q bs → ∃ b, f b (knPut kn (some t) none) s Q
  | .opt v b next, h1, h2 => by
    simp only [optOr] at h1
    simp only [optAnd] at h2
    rcases h1 with h1 | h1
    · have hs : s.put (some t) (.one (.d (.int k v))) = s := by
        refine AS.ext' ?_ rfl
        funext t'
        simp only [AS.put]
        split
        · rename_i e'; rw [e', ht, h1]
        · rfl
      have := h2.1 h1
      rw [hs] at this
      exact ⟨b, this⟩
    · exact opt_pick ht h1 h2.2
  | .leaf, h1, _ => h1.elim
  | .seq _ _, h1, _ => h1.elim
  | .loop _ _, h1, _ => h1.elim
  | .cut _ _ _, h1, _ => h1.elim
  | .link _ _ _, h1, _ => h1.elim
  | .split _ _ _, h1, _ => h1.elim
  | .range _ _ _ _, h1, _ => h1.elim
  | .sure _ _, h1, _ => h1.elim
  | .ice _ _ _ _, h1, _ => h1.elim
  | .splitAt _ _ _, h1, _ => h1.elim
theorem ices_tm : ∀ (bs : List Nat) (s : AS), (ices s bs).tm = s.tm
  | [], _ => rfl
  | b :: bs, s => by simp only [ices]; rw [ices_tm bs]; rfl
theorem RepS.ices {w0 : World} {S : Scope} {n : Dom} {ι : Names} {a : Act} {w : World} : ∀ (bs : List Nat) {s : AS}, RepS w0 S n s ι a w → RepS w0 S n (ices s bs) ι a w
  | [], _, h => h
  | b :: bs, s, h => RepS.ices bs (h.freeze b)
/-! ### ranges over functions -/
theorem RepS.only {w0 : World} {S : Scope} {n : Dom} {s : AS} {ι : Names} {a : Act} {w : World} (h : RepS w0 S n s ι a w) (T : List Nat) : RepS w0 S n (s.only T) ι a w := by
  refine ⟨h.bel, h.marks, h.oth, h.size, h.fix, h.pin, fun t => ?_, h.bx, h.own, h.dist, h.glob⟩
  show RepAV _ _ _ _ (if T.contains t then s.tm t else .one .dead) _
  split
  · exact h.tm t
  · simp only [RepAV, RepCl]
theorem plain_of_ok {d : DV} (h : plainOK d) : ∃ u, d.plain = some u ∧ ∀ (w : World) (V : Nat → Prop), RepD w V d u := by
  cases d with
  | int k n => exact ⟨_, rfl, fun w V => by simp only [RepD, true_and]; exact (inK_iff _ _).2 h⟩
  | bool b => exact ⟨_, rfl, fun w V => by simp only [RepD]⟩
  | str s => exact ⟨_, rfl, fun w V => by simp only [RepD, true_and]; exact h⟩
  | sl n cs => exact h.elim
  | fn f => exact h.elim
/-- the slots of a round -/
theorem RepS.putAll {w0 : World} {S : Scope} {n : Dom} {ι : Names} {w : World} : ∀ {ps : List Nat} {ds : List DV} {s : AS} {a : Act}, ds.length = ps.length → plainsOK ds → (∀ p ∈ ps, p < n.n ∧ n.keep p = false) → RepS w0 S n s ι a w →
    RepS w0 S n (s.putAll ps ds) ι { a with tmps := (ps.zip (ds.map fun d => d.plain.getD undef)).foldl (fun t (p, v) => t.setIfInBounds p v) a.tmps } w
  | [], [], _, _, _, _, _, h => h
  | p :: ps, d :: ds, s, a, hl, hd, hp, h => by
    obtain ⟨u, h1, h2⟩ := plain_of_ok hd.1
    have := h.put (d := some p) (x := .one (.d d)) (v := u) (fun k hk => by cases hk; exact hp p (by simp)) (by simp only [RepAV, RepCl]; exact h2 _ _)
    have := RepS.putAll (ps := ps) (ds := ds) (by simpa using hl) hd.2 (fun q hq => hp q (by simp [hq])) this
    simpa [AS.putAll, h1, Act.put] using this
  | [], _ :: _, _, _, hl, _, _, _ => by simp at hl
  | _ :: _, [], _, _, hl, _, _, _ => by simp at hl
theorem caps_hold {w0 : World} {S : Scope} {n : Dom} {s : AS} {ι : Names} {a : Act} {w : World} (h : RepS w0 S n s ι a w) {ι0 : Names} {bx0 : Nat → Bx} {w1 : World} {V1 : Nat → Prop} : ∀ {cs : List Cap} {lb : List Value} {caps : List (Bool × List DV)}, RepCaps ι0 bx0 w1 V1 cs lb →
    (∀ b ∈ cs.flatMap Cap.names, ι b = ι0 b) → capCells s.bx cs = some caps → HoldsL w caps lb
  | [], [], caps, _, _, hc => by simp only [capCells, Option.some.injEq] at hc; subst hc; trivial
  | c :: cs, v :: lb, caps, hr, hn, hc => by
    simp only [capCells] at hc
    cases h1 : capCell s.bx c with
    | none => rw [h1] at hc; cases hc
    | some x =>
      cases h2 : capCells s.bx cs with
      | none => rw [h1, h2] at hc; cases hc
      | some xs =>
        rw [h1, h2] at hc
        simp only [Option.some.injEq] at hc
        subst hc
        refine ⟨?_, caps_hold h hr.2 (fun b hb => hn b (by rw [List.flatMap_cons, List.mem_append]; exact .inr hb)) h2⟩
        have hv := hr.1
        cases c with
        | d x =>
          simp only [capCell] at h1
          split at h1
          · rename_i hp
            simp only [Option.some.injEq] at h1
            subst h1
            obtain ⟨u, hu⟩ := Option.isSome_iff_exists.1 hp
            exact ⟨x, rfl, by rw [RepD.plain hv hu]; exact hu⟩
          · cases h1
        | ptr b off =>
          simp only [capCell] at h1
          split at h1
          · rename_i ho
            subst ho
            split at h1
            · rename_i cells hB
              split at h1
              · rename_i ds hds
                split at h1
                · rename_i hall
                  simp only [Option.some.injEq] at h1
                  subst h1
                  obtain ⟨_, g, c, e1, e2⟩ := hv
                  have hb := h.bx b
                  rw [hB] at hb
                  obtain ⟨g', c', cur, T, q1, q2, q3⟩ := hb
                  rw [hn b (by simp [Cap.names]), e1] at q1
                  simp only [Option.some.injEq, Prod.mk.injEq] at q1
                  obtain ⟨rfl, rfl⟩ := q1
                  have q4 := rep_dvs q3 hds
                  refine ⟨g, e2, fun i d hi => ?_⟩
                  obtain ⟨u, hu, hd⟩ := rep_ds_at q4 i d hi
                  have hp : d.plain.isSome = true := (List.all_eq_true.1 hall) d (List.mem_of_getElem? hi)
                  obtain ⟨u', hu'⟩ := Option.isSome_iff_exists.1 hp
                  refine ⟨u', hu', ?_⟩
                  rw [cell_of_row w g i cur T (0, 0) q2, ← RepD.plain hd hu']
                  simpa using hu
                · cases h1
              · cases h1
            · cases h1
          · cases h1
  | [], _ :: _, _, h, _, _ => h.elim
  | _ :: _, [], _, h, _, _ => h.elim
theorem caps_known {w : World} {V : Nat → Prop} {ι : Names} {bx : Nat → Bx} : ∀ {cs : List Cap} {lb : List Value}, RepCaps ι bx w V cs lb → ∀ b ∈ cs.flatMap Cap.names, (bx b).known = true
  | [], [], _, b, hb => by simp at hb
  | c :: cs, v :: lb, h, b, hb => by
    rw [List.flatMap_cons, List.mem_append] at hb
    rcases hb with hb | hb
    · cases c with
      | d x => simp [Cap.names] at hb
      | ptr b' off => simp only [Cap.names, List.mem_singleton] at hb; subst hb; exact h.1.1
    · exact caps_known h.2 b hb
  | [], _ :: _, h, _, _ => h.elim
  | _ :: _, [], h, _, _ => h.elim
def exitCode : AExit → Option Code
  | .normal => none
  | .exit id => some (.exit id)
  | .ret => some .ret
theorem range_sound {fA fB : VCF} {x y : Code} (ihA : SoundC P fA x) (ihB : SoundC P fB y) {n : Dom} {g : Operand} {ps : Array Tmp} {I : Inv} {T : List Nat} {aa bb : I.α → Ann} {s : AS} {Q : AExit → Kn → AS → Prop}
    (h : rangeVC P Γ n fA fB g ps.toList I T aa bb s Q) {F : Fence} (hR : n.round = false → F = Fence.wide)
    {w0 : World} {S : Scope} {ι : Names} {a : Act} {w : World} (hr : RepS w0 S n s ι a w) {m : Nat} {Q' : Exit → Act → World → Prop}
    (hQ : ∀ e kn' s' ι' a' w', Q e kn' s' → KnOK kn' s' → RepS w0 S n s' ι' a' w' → Q' e.exit_ a' w') : (Code.rangeFunc g ps x y).wpIn F m P Q' a w := by
  unfold rangeVC at h
  split at h
  · rename_i f cs hs
    split at h
    · rename_i caps hcaps hflags
      split at h
      · rename_i N item hit
        obtain ⟨hans, hitems, ⟨z0, hz0, hμ0, hf0⟩, hrounds⟩ := h
        simp only [Bool.and_eq_true, Bool.not_eq_true'] at hflags
        obtain ⟨⟨hen, hrd⟩, hps⟩ := hflags
        have hFw := hR hrd
        subst hFw
        simp only [psOK, Bool.and_eq_true, List.all_eq_true, decide_eq_true_eq, Bool.not_eq_true'] at hps
        obtain ⟨hps1, hps2⟩ := hps
        have hv := hr.eval g
        rw [hs] at hv
        simp only [RepAV, RepCl] at hv
        obtain ⟨lb, hv, hlb⟩ := hv
        -- names that stay
        have hr1 : RepS w0 { S with nm := ι } (n.pinned (cs.flatMap Cap.names)) s ι a w :=
          ⟨hr.bel, hr.marks, hr.oth, hr.size, hr.fix, fun b hb => ⟨rfl, by
            simp only [Dom.pinned, List.mem_append] at hb
            rcases hb with hb | hb
            · exact (hr.pin b hb).2
            · exact caps_known hlb b hb⟩, hr.tm, hr.bx, hr.own, hr.dist, hr.glob⟩
        obtain ⟨ι1, hr2⟩ := hr1.fit hf0
        have hmk : ∀ d ∈ a.defers, ∀ D, d = { target := .collected D, args := #[] } → D < w.heap.size := fun d hd D e => by
          obtain ⟨D', e', _, h2⟩ := hr.marks.2 d hd
          rw [e'] at e
          simp only [Deferred.mk.injEq, Target.collected.injEq, and_true] at e
          subst e
          exact (Array.getElem?_eq_some_iff.1 h2).1
        have hturn : ∀ {s' : AS} {n' : Dom} {S' : Scope} {ι' : Names} {W W' : World} {row : Option Nat}, S'.ref.heap.size ≤ w.heap.size → RepS w0 S' n' s' ι' a W → W.grownBy W' row → (∀ r, row = some r → w.heap.size ≤ r ∧ ∃ o : Obj, W.heap[r]? = some o ∧ o.isCells = false) → RepS w0 S' n' s' ι' a W' := by
          intro s' n' S' ι' W W' row hs' h' hg hr'
          exact h'.turn hg (fun r e => ⟨Nat.le_trans hr.bel.size (hr' r e).1, (hr' r e).2⟩) (marks_turn h'.marks hg (fun r e => (hr' r e).1) hmk) (keeps_turn h'.oth hg (fun r e => (hr' r e).1) hs')
        have hkeepT : ∀ t, (T.contains t = true ∨ n.keep t = true) → t ∉ ps.toList := fun t ht hm => by
          obtain ⟨⟨_, h2⟩, h3⟩ := hps1 t hm
          rcases ht with ht | ht
          · rw [ht] at h2; cases h2
          · rw [ht] at h3; cases h3
        -- back from a round
        have hback : ∀ {s' : AS} {ι' : Names} {a3 : Act} {W W3 ref : World}, Marks w0 a.defers W → KeepsOthers S.ref W → KeepsOthers W W3 → RepS w0 { S with nm := ι, ref := ref, base := fun t => a.tmps.getD t undef } (n.inner T (cs.flatMap Cap.names)) s' ι' a3 W3 →
            RepS w0 { S with nm := ι } (n.pinned (cs.flatMap Cap.names)) (s'.only T) ι' a W3 := by
          intro s' ι' a3 W W3 ref hm1 ho1 hk h3
          refine ⟨h3.bel, hm1.keep hk, ho1.trans hk, hr.size, hr.fix, h3.pin, fun t => ?_, h3.bx, h3.own, h3.dist, h3.glob⟩
          show RepAV _ _ _ _ (if T.contains t then s'.tm t else .one .dead) _
          split
          · rename_i ht
            have hfx := h3.fix t (by show (n.keep t || T.contains t) = true; rw [ht, Bool.or_true])
            have := h3.tm t
            rw [hfx] at this
            exact this
          · simp only [RepAV, RepCl]
        have hout : ∀ {s' : AS} {ι' : Names} {W : World}, RepS w0 { S with nm := ι } (n.pinned (cs.flatMap Cap.names)) s' ι' a W → RepS w0 S n s' ι' a W := fun h' =>
          ⟨h'.bel, h'.marks, h'.oth, h'.size, h'.fix, fun b hb => by
            have := h'.pin b (by simp [Dom.pinned, hb])
            exact ⟨this.1.trans (hr.pin b hb).1, this.2⟩, h'.tm, h'.bx, h'.own, h'.dist, h'.glob⟩
        have hmark : ∀ {s' : AS} {ι' : Names} {W : World} {D : Nat}, w.heap.size ≤ D → W.heap[D]? = some (.deferred (some [])) → RepS w0 S n s' ι' a W → RepS w0 S n s' ι' { a with defers := { target := .collected D, args := #[] } :: a.defers } W := fun hD hW h' =>
          ⟨h'.bel, ⟨List.pairwise_cons.2 ⟨fun d hd e => by
              have := hmk d hd _ e.symm
              omega, h'.marks.1⟩, fun d hd => by
            rcases List.mem_cons.1 hd with rfl | hd
            · exact ⟨_, rfl, Nat.le_trans hr.bel.size hD, hW⟩
            · exact h'.marks.2 d hd⟩, h'.oth, h'.size, h'.fix, h'.pin, h'.tm, h'.bx, h'.own, h'.dist, h'.glob⟩
        refine range_law hv (run_enter hen) hans (fun k hk => by rw [(hitems k hk).1]; simp)
          (fun k W => ∃ z ι', I.ok z ∧ I.μ z = k ∧ RepS w0 { S with nm := ι } (n.pinned (cs.flatMap Cap.names)) ((I.st z).as.only T) ι' a W)
          (fun c W => ∃ e kn' s' ι', exitCode e = some c ∧ Q e kn' s' ∧ KnOK kn' s' ∧ RepS w0 { S with nm := ι } (n.pinned (cs.flatMap Cap.names)) s' ι' a W)
          (fun k W W' row ⟨z, ι', h1, h2, h3⟩ hg hrr => ⟨z, ι', h1, h2, hturn hr.oth.size h3 hg hrr⟩)
          (fun c W W' row ⟨e, kn', s', ι', h1, h2, h3, h4⟩ hg hrr => ⟨e, kn', s', ι', h1, h2, h3, hturn hr.oth.size h4 hg hrr⟩)
          (fun k W ⟨z, ι', h1, h2, h3⟩ => caps_hold h3 hlb (fun b hb => (h3.pin b (by simp only [Dom.pinned, List.mem_append]; exact .inr hb)).1) (hrounds z h1).1)
          ⟨z0, ι1, hz0, hμ0, hr2.only T⟩ ?_ ?_ ?_
        · -- a round
          rintro l k W hk ⟨z, ι', hz, rfl, h3⟩
          have hit := hitems (I.μ z) hk
          -- the round's own slots
          have hin : RepS w0 { S with nm := ι, ref := W, base := fun t => a.tmps.getD t undef } (n.inner T (cs.flatMap Cap.names)) ((I.st z).as.only T) ι' { tmps := a.tmps, defers := [] } W :=
            ⟨h3.bel, ⟨List.Pairwise.nil, fun d hd => by simp at hd⟩, KeepsOthers.refl W, h3.size, fun t _ => rfl, h3.pin, h3.tm, h3.bx, h3.own, h3.dist, h3.glob⟩
          have hin2 := hin.putAll (ps := ps.toList) (ds := item (I.μ z)) hit.1 hit.2 (fun p hp => by
            obtain ⟨⟨h1, h2⟩, h4⟩ := hps1 p hp
            refine ⟨h1, ?_⟩
            simp only [Dom.inner, h2, h4, Bool.or_self])
          have hloop : ∀ (f : Array Value → Tmp × Value → Array Value) (t0 : Array Value) (vs : List Value), (ps.zip vs.toArray).foldl f t0 = (ps.toList.zip vs).foldl f t0 := fun f t0 vs => by
            rw [← Array.foldl_toList, Array.toList_zip]
          show x.wpIn _ m P _ { tmps := (ps.zip (encsOf (item (I.μ z)))).foldl (fun t (p, v) => t.setIfInBounds p v) a.tmps, defers := [] } W
          rw [encsOf, hloop]
          refine ihA _ (aa z) kn0 _ _ ((hrounds z hz).2.1 hk) (kn0_ok _) _ (.inr ⟨l, rfl⟩) (fun h => by cases h) w0 _ ι' _ W hin2 m _ fun e kn' s' ι2 a1 W1 hq hk' h4 => ?_
          cases e with
          | ret => exact hq.elim
          | exit id => exact hq.elim
          | normal =>
            refine ⟨h4.oth, fun W2 hg hl hcell => ?_⟩
            obtain ⟨lr, hlr⟩ := hcell
            have h5 := h4.turn hg (fun r e => by cases e; exact ⟨Nat.le_trans hr.bel.size hl, _, hlr, rfl⟩) (ds := a1.defers) ⟨h4.marks.1, fun d hd => by
              obtain ⟨D, e1, e2, e3⟩ := h4.marks.2 d hd
              refine ⟨D, e1, e2, (hg.block D (Array.getElem?_eq_some_iff.1 e3).1 fun e' => ?_).trans e3⟩
              injection e' with e'
              subst e'
              rw [hlr] at e3
              injection e3 with e3
              cases e3⟩ (KeepsOthers.refl W2)
            have hm1 : Marks w0 a.defers W := h3.marks
            have hm2 : Marks w0 a.defers W2 := marks_turn (hm1.keep h4.oth) hg (fun r e => by cases e; exact hl) hmk
            have ho2 : KeepsOthers S.ref W2 := keeps_turn (h3.oth.trans h4.oth) hg (fun r e => by cases e; exact hl) hr.oth.size
            refine ihB _ (bb z) kn' _ _ hq hk' _ (.inr ⟨l, rfl⟩) (fun h => by cases h) w0 _ ι2 a1 W2 h5 m _ fun e kn2 s2 ι3 a3 W3 hq2 hk2 h6 => ?_
            cases e with
            | normal =>
              obtain ⟨y, hy, hμ, hf⟩ := hq2
              obtain ⟨ι4, h7⟩ := h6.fit hf
              exact ⟨h6.oth, y, ι4, hy, hμ, hback hm2 ho2 h6.oth h7⟩
            | ret => exact ⟨h6.oth, .ret, kn0, s2.only T, ι3, rfl, hq2, kn0_ok _, hback hm2 ho2 h6.oth h6⟩
            | exit id => exact ⟨h6.oth, .exit id, kn0, s2.only T, ι3, rfl, hq2, kn0_ok _, hback hm2 ho2 h6.oth h6⟩
        · -- all items done
          rintro Dk W hD ⟨z, ι', hz, hμ, h3⟩ hW
          exact hQ .normal kn0 _ ι' _ W ((hrounds z hz).2.2 hμ) (kn0_ok _) (hmark hD hW (hout h3))
        · rintro Dk c W hD ⟨e, kn', s', ι', he, hq, hk', h3⟩ hW
          cases e with
          | normal => cases he
          | ret =>
            simp only [exitCode, Option.some.injEq] at he
            subst he
            exact wpIn_ret (hQ .ret kn' s' ι' _ W hq hk' (hmark hD hW (hout h3)))
          | exit id =>
            simp only [exitCode, Option.some.injEq] at he
            subst he
            exact wpIn_exit (hQ (.exit id) kn' s' ι' _ W hq hk' (hmark hD hW (hout h3)))
      · exact h.elim
    · exact h.elim
  · exact h.elim
theorem vcg_sound (hm : P.follows .mixedOrders = true) : ∀ (c : Code), SoundC P (fun n => vcg P Γ n c) c
  | .skip, n, _, kn, s, Q, h, hk, F, hF, hR, w0, S, ι, a, w, hr, m, Q', hQ => wpIn_skip (hQ .normal kn s ι a w h hk hr)
  | .label _, n, _, kn, s, Q, h, hk, F, hF, hR, w0, S, ι, a, w, hr, m, Q', hQ => wpIn_label (hQ .normal kn s ι a w h hk hr)
  | .exit id, n, _, kn, s, Q, h, hk, F, hF, hR, w0, S, ι, a, w, hr, m, Q', hQ => wpIn_exit (hQ (.exit id) kn s ι a w h hk hr)
  | .ret, n, _, kn, s, Q, h, hk, F, hF, hR, w0, S, ι, a, w, hr, m, Q', hQ => wpIn_ret (hQ .ret kn s ι a w h hk hr)
  | .region id ops draw, n, _, kn, s, Q, h, hk, F, hF, hR, w0, S, ι, a, w, hr, m, Q', hQ => vcRun_wp hF hm (vcReg_run h) hk hr hQ
  | .seq x y, n, ann, kn, s, Q, h, hk, F, hF, hR, w0, S, ι, a, w, hr, m, Q', hQ => by
    simp only [vcg] at h
    refine wpIn_seq ?_
    split at h
    · rename_i I a' b
      obtain ⟨h1, h2⟩ := h
      refine vcg_sound hm x n a' kn s _ h1 hk F hF hR w0 S ι a w hr m _ fun e kn' s' ι' a' w' hq hk' hr' => ?_
      cases e with
      | normal =>
        obtain ⟨z, hz, hf⟩ := hq
        obtain ⟨ι2, hr2⟩ := hr'.fit hf
        exact vcg_sound hm y n (b z) kn0 _ Q (h2 z hz) (kn0_ok _) F hF hR w0 S ι2 a' w' hr2 m Q' hQ
      | exit id => exact hQ (.exit id) kn' s' ι' a' w' hq hk' hr'
      | ret => exact hQ .ret kn' s' ι' a' w' hq hk' hr'
    · rename_i bs ts a' b
      refine vcg_sound hm x n a' kn s _ h hk F hF hR w0 S ι a w hr m _ fun e kn' s' ι' a' w' hq hk' hr' => ?_
      cases e with
      | normal => exact vcg_sound hm y n b kn' (Go.Proofs.Ytaaealkgbklmeaa.melts (Go.Proofs.Ytaaealkgbklmeaa.ices s' bs) ts) Q hq (melts_kn ts fun t b hb => by rw [ices_tm]; exact hk' t b hb) F hF hR w0 S ι' a' w' ((hr'.ices bs).melts ts) m Q' hQ
      | exit id => exact hQ (.exit id) kn' s' ι' a' w' hq hk' hr'
      | ret => exact hQ .ret kn' s' ι' a' w' hq hk' hr'
    · rename_i a' t bs
      refine vcg_sound hm x n a' kn s _ h hk F hF hR w0 S ι a w hr m _ fun e kn' s' ι' a' w' hq hk' hr' => ?_
      cases e with
      | normal =>
        simp only at hq
        unfold optVC at hq
        split at hq
        · rename_i k e ht
          obtain ⟨b, hb⟩ := opt_pick ht hq.1 hq.2
          refine vcg_sound hm y n b _ s' Q hb (fun t' b' hb' => ?_) F hF hR w0 S ι' a' w' hr' m Q' hQ
          simp only [knPut] at hb'
          split at hb'
          · cases hb'
          · exact hk' _ _ hb'
        · exact hq.elim
      | exit id => exact hQ (.exit id) kn' s' ι' a' w' hq hk' hr'
      | ret => exact hQ .ret kn' s' ι' a' w' hq hk' hr'
    · refine vcg_sound hm x n ann.l kn s _ h hk F hF hR w0 S ι a w hr m _ fun e kn' s' ι' a' w' hq hk' hr' => ?_
      cases e with
      | normal => exact vcg_sound hm y n ann.r kn' s' Q hq hk' F hF hR w0 S ι' a' w' hr' m Q' hQ
      | exit id => exact hQ (.exit id) kn' s' ι' a' w' hq hk' hr'
      | ret => exact hQ .ret kn' s' ι' a' w' hq hk' hr'
  | .cond c x y, n, ann, kn, s, Q, h, hk, F, hF, hR, w0, S, ι, a, w, hr, m, Q', hQ => by
    simp only [vcg] at h
    split at h
    · rename_i b a'
      split at h
      · rename_i b' hc
        obtain ⟨rfl, h⟩ := h
        cases b' with
        | true => exact wpIn_cond_true (rep_bool (hr.eval c) hc) (vcg_sound hm x n a' kn s Q h hk F hF hR w0 S ι a w hr m Q' hQ)
        | false => exact wpIn_cond_false (rep_bool (hr.eval c) hc) (vcg_sound hm y n a' kn s Q h hk F hF hR w0 S ι a w hr m Q' hQ)
      · exact h.elim
    split at h
    · rename_i hc
      exact wpIn_cond_true (rep_bool (hr.eval c) (kx_ok hk hc)) (vcg_sound hm x n ann.l kn s Q h hk F hF hR w0 S ι a w hr m Q' hQ)
    · rename_i hc
      exact wpIn_cond_false (rep_bool (hr.eval c) (kx_ok hk hc)) (vcg_sound hm y n ann.r kn s Q h hk F hF hR w0 S ι a w hr m Q' hQ)
    · split at h
      · rename_i b hc
        exact wpIn_cond_split (rep_bool (hr.eval c) hc) (fun hb => vcg_sound hm x n ann.l kn s Q (h.1 hb) hk F hF hR w0 S ι a w hr m Q' hQ) (fun hb => vcg_sound hm y n ann.r kn s Q (h.2 hb) hk F hF hR w0 S ι a w hr m Q' hQ)
      · exact h.elim
  | .block id c, n, ann, kn, s, Q, h, hk, F, hF, hR, w0, S, ι, a, w, hr, m, Q', hQ => by
    simp only [vcg] at h
    refine wpIn_block (vcg_sound hm c n ann kn s _ h hk F hF hR w0 S ι a w hr m _ fun e kn' s' ι' a' w' hq hk' hr' => ?_)
    cases e with
    | normal => exact hQ .normal kn' s' ι' a' w' hq hk' hr'
    | exit id' =>
      simp only at hq
      simp only [AExit.exit_, Exit.inBlock]
      by_cases e : id' = id
      · rw [if_pos e]
        simp only [e, decide_true] at hq
        exact hQ .normal kn' s' ι' a' w' hq hk' hr'
      · rw [if_neg e]
        simp only [e, decide_false] at hq
        exact hQ (.exit id') kn' s' ι' a' w' hq hk' hr'
    | ret => exact hQ .ret kn' s' ι' a' w' hq hk' hr'
  | .loop c, n, ann, kn, s, Q, h, hk, F, hF, hR, w0, S, ι, a, w, hr, m, Q', hQ => by
    simp only [vcg] at h
    split at h
    · rename_i I a'
      obtain ⟨⟨z, hz, hf⟩, h2⟩ := h
      obtain ⟨ι2, hr2⟩ := hr.fit hf
      refine wpIn_loop_ghost (fun m a w => ∃ z ι, I.ok z ∧ I.μ z = m ∧ RepS w0 S n (I.st z).as ι a w) (I.μ z) ⟨z, ι2, hz, rfl, hr2⟩ fun k a w hI => ?_
      obtain ⟨z, ι, hz, rfl, hr⟩ := hI
      refine vcg_sound hm c n (a' z) kn0 _ _ (h2 z hz) (kn0_ok _) F hF hR w0 S ι a w hr m _ fun e kn' s' ι' a' w' hq hk' hr' => ?_
      cases e with
      | normal =>
        obtain ⟨y, hy, hlt, hf⟩ := hq
        obtain ⟨ι3, hr3⟩ := hr'.fit hf
        exact ⟨I.μ y, hlt, y, ι3, hy, rfl, hr3⟩
      | exit id => exact hQ (.exit id) kn' s' ι' a' w' hq hk' hr'
      | ret => exact hQ .ret kn' s' ι' a' w' hq hk' hr'
    · exact link_sound (f := fun n => vcg P Γ n c) (vcg_sound hm c) h.1 h.2 hF hR hr hQ
    · exact h.elim
  | .rangeFunc g ps x y, n, ann, kn, s, Q, h, hk, F, hF, hR, w0, S, ι, a, w, hr, m, Q', hQ => by
    simp only [vcg] at h
    split at h
    · exact range_sound (vcg_sound hm x) (vcg_sound hm y) h hR hr hQ
    · exact h.elim
  | .scope _, _, _, _, _, _, h, _, _, _, _, _, _, _, _, _, _, _, _, _ => by simp only [vcg] at h
  | .goto _, _, _, _, _, _, h, _, _, _, _, _, _, _, _, _, _, _, _, _ => by simp only [vcg] at h
  | .refuse _, _, _, _, _, _, h, _, _, _, _, _, _, _, _, _, _, _, _, _ => by simp only [vcg] at h
end
/-! ### what is returned -/
def resAV (P : Program) (s : AS) : ResultVar → Option AV
  | .tmp t => some (s.tm t)
  | .cell t ty => match s.tm t with
    | .one (.ptr b off) => match s.bx b, kindOf P ty with
      | .cells cs, some (g, k) => if off + k ≤ cs.length then aggOr g ((cs.drop off).take k) else none
      | _, _ => none
    | _ => none
def resAVs (P : Program) (s : AS) : List ResultVar → Option (List AV)
  | [] => some []
  | r :: rs => match resAV P s r, resAVs P s rs with
    | some v, some vs => some (v :: vs)
    | _, _ => none
/-- what a call returns, as data -/
def resRV (P : Program) (s : AS) (rs : List ResultVar) : Option RV :=
  match resAVs P s rs with
  | some xs => if xs.all AV.flat then match AV.rvs (fun b => inside (s.bx b)) xs with
    | some [r] => some r
    | some l => some (.tup l)
    | none => none else none
  | none => none
def post (P : Program) (rs : List ResultVar) (R : RV → Prop) : AExit → Kn → AS → Prop
  | .exit _, _, _ => False
  | _, _, s => match resRV P s rs with
    | some r => R r
    | none => False
def start (args : List RV) : AS := ⟨fun t => match args[t]? with
  | some r => r.av
  | none => .tup [], fun _ => .fresh⟩
mutual
def DV.wf : DV → Prop
  | .int k n => k.min ≤ n ∧ n ≤ k.max
  | .bool _ => True
  | .str s => s.size ≤ maxLen
  | .sl n xs => n ≤ maxLen ∧ DV.wfs xs
  | .fn _ => True
def DV.wfs : List DV → Prop
  | [] => True
  | x :: xs => x.wf ∧ DV.wfs xs
end
mutual
def RV.wf : RV → Prop
  | .d x => x.wf
  | .agg xs => DV.wfs xs
  | .tup xs => RV.wfs xs
def RV.wfs : List RV → Prop
  | [] => True
  | x :: xs => x.wf ∧ RV.wfs xs
end
section
variable {w : World} {V : Nat → Prop}
mutual
theorem RepD.wf : ∀ {d : DV} {v : Value}, RepD w V d v → d.wf
  | .int k n, v, h => by simp only [RepD] at h; simp only [DV.wf]; exact (inK_iff _ _).1 h.2
  | .bool _, _, _ => by simp only [DV.wf]
  | .str s, v, h => by simp only [RepD] at h; simp only [DV.wf]; exact h.2
  | .fn _, _, _ => by simp only [DV.wf]
  | .sl n xs, v, h => by
    simp only [RepD] at h
    obtain ⟨A, cap, _, h1, h2, h3⟩ := h
    simp only [DV.wf]
    refine ⟨Nat.le_trans h1 h2, ?_⟩
    cases xs with
    | nil => simp only [DV.wfs]
    | cons d ds =>
      obtain ⟨g, off, _, _, hc⟩ := h3 (by simp)
      exact RepCells.wf hc
theorem RepCells.wf : ∀ {xs : List DV} {g off : Nat}, RepCells w V xs g off → DV.wfs xs
  | [], _, _, _ => by simp only [DV.wfs]
  | d :: ds, g, off, h => by
    simp only [RepCells] at h
    obtain ⟨⟨u, _, hd⟩, hr⟩ := h
    simp only [DV.wfs]
    exact ⟨RepD.wf hd, RepCells.wf hr⟩
end
theorem RepDs.wf : ∀ {ds : List DV} {vs : List Value}, RepDs w V ds vs → DV.wfs ds
  | [], [], _ => by simp only [DV.wfs]
  | _ :: _, _ :: _, h => by simp only [DV.wfs]; exact ⟨h.1.wf, RepDs.wf h.2⟩
  | [], _ :: _, h => h.elim
  | _ :: _, [], h => h.elim
mutual
theorem RepR.wf : ∀ {r : RV} {v : Value}, RepR w V r v → r.wf
  | .d x, v, h => by simp only [RepR] at h; simp only [RV.wf]; exact h.wf
  | .agg xs, v, h => by simp only [RepR] at h; obtain ⟨cs, _, h⟩ := h; simp only [RV.wf]; exact h.wf
  | .tup xs, v, h => by simp only [RepR] at h; obtain ⟨vs, _, h⟩ := h; simp only [RV.wf]; exact RepRs.wf h
theorem RepRs.wf : ∀ {rs : List RV} {vs : List Value}, RepRs w V rs vs → RV.wfs rs
  | [], [], _ => by simp only [RV.wfs]
  | _ :: _, _ :: _, h => by simp only [RepRs] at h; simp only [RV.wfs]; exact ⟨RepR.wf h.1, RepRs.wf h.2⟩
  | [], _ :: _, h => by simp only [RepRs] at h
  | _ :: _, [], h => by simp only [RepRs] at h
end
end
theorem repRs_len {w : World} {V : Nat → Prop} : ∀ {rs : List RV} {vs : List Value}, RepRs w V rs vs → rs.length = vs.length
  | [], [], _ => rfl
  | _ :: _, _ :: _, h => by simp only [RepRs] at h; simp [repRs_len h.2]
  | [], _ :: _, h => by simp only [RepRs] at h
  | _ :: _, [], h => by simp only [RepRs] at h
theorem run_mapM_opt {P : Program} {α β : Type} (f : α → Sem β) (w : World) : ∀ (l : List α) (us : List β), l.length = us.length → (∀ (i : Nat) x u, l[i]? = some x → us[i]? = some u → (f x).run P w = .ok u w) → (l.mapM f).run P w = .ok us w
  | [], [], _, _ => by simp
  | x :: l, u :: us, hl, h => by
    rw [List.mapM_cons]
    simp only [Sem.run_bind, h 0 x u rfl rfl, Result.andThen_ok, run_mapM_opt f w l us (by simpa using hl) (fun i x' u' h1 h2 => h (i + 1) x' u' (by simpa using h1) (by simpa using h2)), Sem.run_pure]
  | [], _ :: _, hl, _ => by simp at hl
  | _ :: _, [], hl, _ => by simp at hl
def resOne (tmps : Array Value) : ResultVar → Sem Value
  | .tmp t => pure (tmps.getD t undef)
  | .cell c t => do loadVar t (← asAddr (tmps.getD c undef))
theorem results_eq (fn : Func) (tmps : Array Value) : results fn tmps = (do let vs ← fn.results.mapM (resOne tmps); pure (if h : vs.size = 1 then vs[0] else .tuple vs)) := by
  unfold results
  refine congrArg (fun f : ResultVar → Sem Value => (do let vs ← fn.results.mapM f; pure (if h : vs.size = 1 then vs[0] else .tuple vs) : Sem Value)) ?_
  funext x
  cases x <;> rfl
theorem res_vals {P : Program} {fn : Func} {w0 : World} {S : Scope} {n : Dom} {s : AS} {ι : Names} {a : Act} {w : World} (h : RepS w0 S n s ι a w) {xs : List AV} (hxs : resAVs P s fn.results.toList = some xs) :
    ∃ us : List Value, (results fn a.tmps).run P w = .ok (if h : us.toArray.size = 1 then us.toArray[0] else .tuple us.toArray) w ∧ RepAVs w (Seen S w0.heap.size s.bx ι) ι s.bx xs us := by
  -- each result's value
  have key : ∀ (rs : List ResultVar) (xs : List AV), resAVs P s rs = some xs → ∃ us : List Value, rs.length = us.length ∧ (∀ (i : Nat) x u, rs[i]? = some x → us[i]? = some u → (resOne a.tmps x).run P w = .ok u w) ∧
      RepAVs w (Seen S w0.heap.size s.bx ι) ι s.bx xs us := by
    intro rs
    induction rs with
    | nil => intro xs h; simp only [resAVs, Option.some.injEq] at h; subst h; exact ⟨[], rfl, fun i x u h => by simp at h, by simp only [RepAVs]⟩
    | cons rv rs ih =>
      intro xs hx
      simp only [resAVs] at hx
      cases h1 : resAV P s rv with
      | none => rw [h1] at hx; cases hx
      | some v =>
        cases h2 : resAVs P s rs with
        | none => rw [h1, h2] at hx; cases hx
        | some vs =>
          rw [h1, h2] at hx
          simp only [Option.some.injEq] at hx
          subst hx
          obtain ⟨us, l1, l2, l3⟩ := ih vs h2
          have h0 : ∃ u, (resOne a.tmps rv).run P w = .ok u w ∧ RepAV w (Seen S w0.heap.size s.bx ι) ι s.bx v u := by
            cases rv with
            | tmp t =>
              simp only [resAV, Option.some.injEq] at h1
              subst h1
              exact ⟨_, rfl, h.tm t⟩
            | cell c ty =>
              simp only [resAV] at h1
              split at h1
              · rename_i b off hc
                split at h1
                · rename_i cs g k hB hk
                  split at h1
                  · rename_i hle
                    have hv := h.tm c
                    rw [hc] at hv
                    obtain ⟨_, g', c', hι, ev⟩ := known_of hv
                    have hb := h.bx b
                    rw [hB] at hb
                    obtain ⟨g2, c2, cur, T, e1, e2, e3⟩ := hb
                    rw [e1] at hι
                    simp only [Option.some.injEq, Prod.mk.injEq] at hι
                    obtain ⟨rfl, rfl⟩ := hι
                    have hp := rep_aggOr (rep_cls_part e3 off k) h1
                    have hlen := rep_cls_len e3
                    have hk' : kindOf P ty = some (g, ((cur.toList.drop off).take k).length) := by
                      rw [hk]; congr 2; simp at hlen ⊢; omega
                    have hrun := run_loadVar_of (P := P) hk' (w := w) (b := g2) (o := off) (fun j u hj => by
                      rw [cell_of_row w g2 (off + j) cur T (0, 0) e2]
                      rw [List.getElem?_take] at hj
                      split at hj
                      · simpa using hj
                      · cases hj)
                    refine ⟨_, ?_, hp.1⟩
                    simp only [resOne, ev, asAddr, Sem.run_bind, Sem.run_pure, Result.andThen_ok, hrun]
                  · cases h1
                · cases h1
              · cases h1
          obtain ⟨u, hu1, hu2⟩ := h0
          refine ⟨u :: us, by simp [l1], fun i x u' hx hu' => ?_, by simp only [RepAVs]; exact ⟨hu2, l3⟩⟩
          cases i with
          | zero => simp at hx hu'; subst hx hu'; exact hu1
          | succ i => exact l2 i x u' (by simpa using hx) (by simpa using hu')
  obtain ⟨us, l1, l2, l3⟩ := key _ _ hxs
  have hmap := run_mapM_opt (P := P) (resOne a.tmps) w fn.results.toList us l1 l2
  refine ⟨us, ?_, l3⟩
  rw [results_eq, Sem.run_bind, Array.mapM_eq_mapM_toList, Sem.run_map, hmap]
  simp only [Result.andThen_ok, Sem.run_pure]
theorem res_run {P : Program} {fn : Func} {w0 : World} {S : Scope} {n : Dom} {s : AS} {ι : Names} {a : Act} {w : World} (h : RepS w0 S n s ι a w) {r : RV} (hr : resRV P s fn.results.toList = some r) :
    ∃ v, (results fn a.tmps).run P w = .ok v w ∧ RepR w (fun g => S.see g ∨ w0.heap.size ≤ g ∨ S.lent g) r v := by
  unfold resRV at hr
  split at hr
  · rename_i xs hxs
    split at hr
    · rename_i hflat
      obtain ⟨us, hrun, l3⟩ := res_vals h hxs
      have hseen : Keeps w (Seen S w0.heap.size s.bx ι) w (fun g => S.see g ∨ w0.heap.size ≤ g ∨ S.lent g) := fun g off u hV hu => ⟨hV.1, hu⟩
      have hlook : ∀ x ∈ xs, ∀ b ∈ x.refs, ∀ ys, (fun b => inside (s.bx b)) b = some ys → Shows w (fun g => S.see g ∨ w0.heap.size ≤ g ∨ S.lent g) ι b ys ∧ (ι b = none → ys = []) := by
        intro x hx b hb ys hys
        simp only at hys
        have hb' := h.bx b
        cases hB : s.bx b <;> rw [hB] at hys hb' <;> simp only [inside, Option.some.injEq, reduceCtorEq] at hys <;> subst hys
        · rcases hb' with ⟨g1, g2⟩ | ⟨g, cap, cur, g1, g2, g3, g4, g5⟩
          · exact ⟨fun g c e => (by rw [g1] at e; cases e), fun _ => g2⟩
          · refine ⟨fun g' c e => ?_, fun e => (by rw [g1] at e; cases e)⟩
            rw [g1] at e
            simp only [Option.some.injEq, Prod.mk.injEq] at e
            obtain ⟨rfl, rfl⟩ := e
            exact ⟨g3, fun _ => ⟨.inr (h.own b g cap (by rw [hB]; rfl) g1).1, RepCells.of_row g2 (g5.keep hseen)⟩⟩
        · rcases hb' with ⟨g1, g2⟩ | ⟨g, cap, g1, g2, g3⟩
          · exact ⟨fun g c e => (by rw [g1] at e; cases e), fun _ => g2⟩
          · refine ⟨fun g' c e => ?_, fun e => (by rw [g1] at e; cases e)⟩
            rw [g1] at e
            simp only [Option.some.injEq, Prod.mk.injEq] at e
            obtain ⟨rfl, rfl⟩ := e
            exact ⟨g3, g2.keep hseen⟩
      cases hrv : AV.rvs (fun b => inside (s.bx b)) xs with
      | none => rw [hrv] at hr; cases hr
      | some rvs =>
        rw [hrv] at hr
        have hall := rv_avs hseen hflat l3 hlook hrv
        refine ⟨_, hrun, ?_⟩
        have hlen := repRs_len hall
        match rvs, us, hall, hlen, hr with
        | [r'], [u], hall, _, hr =>
          simp only [Option.some.injEq] at hr
          subst hr
          simp only [RepRs] at hall
          simpa using hall.1
        | [], [], hall, _, hr =>
          simp only [Option.some.injEq] at hr
          subst hr
          simp only [List.size_toArray, List.length_nil, Nat.zero_ne_one, dite_false, RepR]
          exact ⟨_, rfl, hall⟩
        | r1 :: r2 :: rs, u1 :: u2 :: us, hall, _, hr =>
          simp only [Option.some.injEq] at hr
          subst hr
          simp only [RepR]
          refine ⟨(u1 :: u2 :: us).toArray, by simp, hall⟩
        | [_], [], _, hl, _ => simp at hl
        | [], _ :: _, _, hl, _ => simp at hl
        | [_], _ :: _ :: _, _, hl, _ => simp at hl
        | _ :: _ :: _, [], _, hl, _ => simp at hl
        | _ :: _ :: _, [_], _, hl, _ => simp at hl
    · cases hr
  · cases hr
/-- the marks that ranges over functions have left are taken off -/
theorem leaves_of {F : Fence} {m : Nat} {P : Program} {fn : Func} {R : Ending → World → Prop} {w0 : World} {n : Dom} {s : AS} {ι : Names} {tmps : Array Value} : ∀ (ds : List Deferred) (S : Scope) (w : World), RepS w0 S n s ι { tmps := tmps, defers := ds } w → S.ref.heap.size ≤ w0.heap.size →
    (∀ w', RepS w0 S n s ι { tmps := tmps, defers := [] } w' → ∃ v, (results fn tmps).run P w' = .ok v w' ∧ R (.returned v) w') → LeavesInM F m P fn tmps R ds .returning w
  | [], S, w, h, _, hR => hR w h
  | d :: ds, S, w, h, href, hR => by
    obtain ⟨D, rfl, h1, h2⟩ := h.marks.2 d (by simp)
    have hlt : D < w.heap.size := (Array.getElem?_eq_some_iff.1 h2).1
    refine ⟨by simp, .inl ⟨D, w.putObj D (.deferred none), rfl, run_takeDeferred h2, leaves_of ds S _ ?_ href hR⟩⟩
    have hg := grownBy_putObj' w D (.deferred none)
    refine h.turn hg (fun r e => by cases e; exact ⟨h1, _, h2, rfl⟩) (ds := ds) ⟨(List.pairwise_cons.1 h.marks.1).2, fun d' hd' => ?_⟩ (ref := S.ref) (keeps_turn h.oth hg (fun r e => by cases e; exact h1) href)
    obtain ⟨D', rfl, q1, q2⟩ := h.marks.2 d' (by simp [hd'])
    have hne : D' ≠ D := fun e => (List.pairwise_cons.1 h.marks.1).1 _ hd' (by rw [e])
    exact ⟨D', rfl, q1, (World.putObj_heap_other hne).trans q2⟩
def bodyOf (fn : Func) : Code := fn.body.getD .skip
theorem bodyOf_eq {fn : Func} (hb : fn.body.isSome = true) : fn.body = some (bodyOf fn) := by
  unfold bodyOf
  cases h : fn.body with
  | none => rw [h] at hb; cases hb
  | some c => rfl
/-- a function answers as its text's statement says -/
theorem calls_of_vcg {P : Program} {Γ : Gam} {f : FuncId} {fn : Func} (ann : Ann) (hm : P.follows .mixedOrders = true) (hf : P.funcs[f]? = some fn) (hb : fn.body.isSome = true) {n : Dom} (hn : n.round = false) {s : AS} {Q : AExit → Kn → AS → Prop}
    (h : vcg P Γ n (bodyOf fn) ann kn0 s Q) {w : World} {S : Scope} {ι : Names} {vs : Array Value} {R : Ending → World → Prop} (hr : RepS w S n s ι { tmps := vs ++ Array.replicate (fn.ntmps - vs.size) undef, defers := [] } w) (href : S.ref = w)
    (hend : ∀ e kn' s' ι' tmps w', Q e kn' s' → RepS w S n s' ι' { tmps := tmps, defers := [] } w' → (∀ id, e ≠ .exit id) ∧ ∃ v, (results fn tmps).run P w' = .ok v w' ∧ R (.returned v) w')
    (hex : ∀ id kn' s', ¬ Q (.exit id) kn' s') : Calls P f vs w R := by
  refine callsIn_wide.1 (callsIn_of_wp_marks (F := Fence.wide) (n := 1) hf (bodyOf_eq hb) trivial ?_)
  refine vcg_sound hm (bodyOf fn) n ann kn0 s Q h (kn0_ok _) Fence.wide (.inl rfl) (fun _ => rfl) w S ι _ w hr 1 _ fun e kn' s' ι' a' w' hq hk' hr' => ?_
  have done : LeavesInM Fence.wide 1 P fn a'.tmps R a'.defers .returning w' :=
    leaves_of a'.defers S w' hr' (by rw [href]; exact Nat.le_refl _) fun w'' h'' => (hend e kn' s' ι' a'.tmps w'' hq h'').2
  cases e with
  | normal => exact done
  | ret => exact done
  | exit id => exact (hex id kn' s' hq).elim
theorem start_tm {w : World} {V : Nat → Prop} {ι : Names} {bx : Nat → Bx} {k : Nat} : ∀ {xs : List AV} {vs : List Value}, RepAVs w V ι bx xs vs → ∀ t, RepAV w V ι bx ((xs[t]?).getD (.tup [])) ((vs ++ List.replicate k undef).getD t undef)
  | [], [], _, t => by
    simp only [List.getElem?_nil, Option.getD_none, RepAV, List.nil_append]
    refine ⟨#[], ?_, by simp only [RepAVs]⟩
    rw [List.getD_eq_getElem?_getD, List.getElem?_replicate]
    split <;> rfl
  | x :: xs, v :: vs, h, 0 => by simp only [RepAVs] at h; simpa using h.1
  | x :: xs, v :: vs, h, t + 1 => by simp only [RepAVs] at h; simpa using start_tm h.2 t
  | [], _ :: _, h, _ => by simp only [RepAVs] at h
  | _ :: _, [], h, _ => by simp only [RepAVs] at h
theorem arr_getD (vs : Array Value) (k t : Nat) : (vs ++ Array.replicate k undef).getD t undef = (vs.toList ++ List.replicate k undef).getD t undef := by
  rw [Array.getD_eq_getD_getElem?, List.getD_eq_getElem?_getD, ← Array.getElem?_toList]
  simp
theorem rep_start {w : World} {S : Nat → Prop} {fn : Func} {args : List RV} {vs : Array Value} (hl : args.length ≤ fn.ntmps) (hgl : GlobOK w S) (hvs : RepRs w S args vs.toList) :
    RepS w { see := S, ref := w } fn.ntmps (start args) (fun _ => none) { tmps := vs ++ Array.replicate (fn.ntmps - vs.size) undef, defers := [] } w := by
  have hlen := repRs_len hvs
  refine ⟨Bel.refl _ _, ⟨List.Pairwise.nil, fun d hd => by simp at hd⟩, KeepsOthers.refl w, ?_, fun t h => by (cases h), fun b h => by (cases h), fun t => ?_, fun b => trivial, fun b g c hl => by simp [start, Bx.live] at hl, fun b b' g c c' hl => by simp [start, Bx.live] at hl, hgl.keep fun g off u hV hu => ⟨⟨.inl hV, fun b c hl => by simp [start, Bx.live] at hl⟩, hu⟩⟩
  · show (vs ++ Array.replicate (fn.ntmps - vs.size) undef).size = fn.ntmps
    simp at hlen ⊢; omega
  · have hk : Keeps w S w (Seen { see := S, ref := w } w.heap.size (start args).bx fun _ => none) := fun g off u hV hu => ⟨⟨.inl hV, fun b c hl => by simp [start, Bx.live] at hl⟩, hu⟩
    have h1 := rep_avs (ι := fun _ => none) (bx := (start args).bx) (RepRs.keep hk hvs)
    have h2 := start_tm (k := fn.ntmps - vs.size) h1 t
    rw [← arr_getD] at h2
    have e : (start args).tm t = ((RV.avs args)[t]?).getD (.tup []) := by
      have : ∀ (l : List RV) (t : Nat), (RV.avs l)[t]? = (l[t]?).map RV.av := by
        intro l
        induction l with
        | nil => intro t; simp [RV.avs]
        | cons x l ih => intro t; cases t <;> simp [RV.avs, ih]
      rw [this]
      simp only [start]
      cases args[t]? <;> rfl
    rw [e]
    exact h2
theorem ans_of_vcg {P : Program} {Γ : Gam} {f : FuncId} {fn : Func} {args : List RV} {res : RV} (ann : Ann) (hm : P.follows .mixedOrders = true) (hf : P.funcs[f]? = some fn) (hb : fn.body.isSome = true) (hl : args.length ≤ fn.ntmps)
    (h : RV.wfs args → vcg P Γ fn.ntmps (bodyOf fn) ann kn0 (start args) (post P fn.results.toList (· = res))) : Ans P f args res := by
  intro w S vs hgl hvs
  refine calls_of_vcg ann hm hf hb (n := fn.ntmps) rfl (h (RepRs.wf hvs)) (rep_start hl hgl hvs) rfl (fun e kn' s' ι' tmps w' hq hr' => ?_) (fun id kn' s' hq => hq)
  have done : post P fn.results.toList (· = res) .ret kn' s' → ∃ v, (results fn tmps).run P w' = .ok v w' ∧ (∃ u, Ending.returned v = .returned u ∧ RepR w' (fun g => S g ∨ w.heap.size ≤ g) res u ∧ Below w.heap.size w w') := by
    intro hq
    simp only [post] at hq
    split at hq
    · rename_i r hres
      subst hq
      obtain ⟨v, h1, h2⟩ := res_run hr' hres
      have hsee : ∀ g, (S g ∨ w.heap.size ≤ g ∨ False) → (S g ∨ w.heap.size ≤ g) := fun g hV => hV.imp id fun h => h.resolve_right id
      exact ⟨v, h1, v, rfl, h2.keep (fun g off u hV hu => ⟨hsee g hV, hu⟩), hr'.bel.below fun g h => h⟩
    · exact hq.elim
  cases e with
  | normal => exact ⟨fun _ e => by (cases e), done hq⟩
  | ret => exact ⟨fun _ e => by (cases e), done hq⟩
  | exit id => exact hq.elim
/-
  A procedure's statement suffices: it does with its caller's boxes as it says.
-/
mutual
def AV.wf : AV → Prop
  | .one c => match c with
    | .d v => v.wf
    | _ => True
  | .agg cs => Cl.wfs cs
  | .tup _ => True
def Cl.wfs : List Cl → Prop
  | [] => True
  | c :: cs => (match c with
    | .d v => v.wf
    | _ => True) ∧ Cl.wfs cs
end
def AV.wfL : List AV → Prop
  | [] => True
  | x :: xs => x.wf ∧ AV.wfL xs
def Bx.wf : Bx → Prop
  | .cells cs => Cl.wfs cs
  | .row _ _ xs => DV.wfs xs
  | .ice xs => DV.wfs xs
  | _ => True
def Bx.wfL : List Bx → Prop
  | [] => True
  | x :: xs => x.wf ∧ Bx.wfL xs
section
variable {w : World} {V : Nat → Prop} {ι : Names} {bx : Nat → Bx}
theorem RepCls.wf : ∀ {cs : List Cl} {vs : List Value}, RepCls w V ι bx cs vs → Cl.wfs cs
  | [], [], _ => by simp only [Cl.wfs]
  | c :: cs, v :: vs, h => by
    simp only [Cl.wfs]
    refine ⟨?_, RepCls.wf h.2⟩
    cases c <;> first | exact RepD.wf h.1 | trivial
  | [], _ :: _, h => h.elim
  | _ :: _, [], h => h.elim
theorem RepAV.wf {x : AV} {v : Value} (h : RepAV w V ι bx x v) : x.wf := by
  cases x with
  | one c => simp only [RepAV] at h; cases c <;> simp only [AV.wf] <;> first | exact RepD.wf h | trivial
  | agg cs => simp only [RepAV] at h; obtain ⟨cur, _, h⟩ := h; simp only [AV.wf]; exact h.wf
  | tup vs => simp only [AV.wf]
theorem RepAVs.wf : ∀ {xs : List AV} {vs : List Value}, RepAVs w V ι bx xs vs → AV.wfL xs
  | [], [], _ => trivial
  | _ :: _, _ :: _, h => by simp only [RepAVs] at h; exact ⟨h.1.wf, RepAVs.wf h.2⟩
  | [], _ :: _, h => by simp only [RepAVs] at h
  | _ :: _, [], h => by simp only [RepAVs] at h
theorem RepBx.wf {b : Nat} {B : Bx} (h : RepBx w V ι bx b B) : B.wf := by
  cases B with
  | fresh => trivial
  | gone => trivial
  | cells cs => obtain ⟨_, _, _, _, _, _, h⟩ := h; exact h.wf
  | row e size xs =>
    rcases h with ⟨_, rfl⟩ | ⟨_, _, _, _, _, _, _, h⟩
    · simp only [Bx.wf, DV.wfs]
    · exact h.wf
  | ice xs =>
    rcases h with ⟨_, rfl⟩ | ⟨_, _, _, h, _⟩
    · simp only [Bx.wf, DV.wfs]
    · exact h.cells.wf
end
def startG (args : List AV) (ins : List Bx) : AS := ⟨fun t => (args[t]?).getD (.tup []), boxes ins⟩
def zipN {α : Type} : Nat → List α → List (Nat × α)
  | _, [] => []
  | n, x :: xs => (n, x) :: zipN (n + 1) xs
def Cl.flatV : Cl → Prop
  | .d v => v.flat = true
  | .vp _ _ => False
  | .clo _ _ => False
  | _ => True
def flatVs : List Cl → Prop
  | [] => True
  | c :: cs => c.flatV ∧ flatVs cs
mutual
def AV.flatV : AV → Prop
  | .one c => c.flatV
  | .agg cs => flatVs cs
  | .tup vs => AV.flatVL vs
def AV.flatVL : List AV → Prop
  | [] => True
  | x :: xs => x.flatV ∧ AV.flatVL xs
end
def Bx.flatV : Bx → Prop
  | .cells cs => flatVs cs
  | .row _ _ xs => ∀ d ∈ xs, d.flat = true
  | .ice _ => False
  | _ => True
def Bx.flatVL : List Bx → Prop
  | [] => True
  | x :: xs => x.flatV ∧ Bx.flatVL xs
def freshOK (r : Ret) : Prop := match r.fresh with
  | true => r.res.flatV ∧ Bx.flatVL r.outs
  | false => True
def oneOr : List AV → AV
  | [x] => x
  | xs => .tup xs
def postAS (x : AV) (bx : Nat → Bx) : AS := ⟨fun t => if t = 0 then x else .one .dead, bx⟩
def postG (P : Program) (n : Dom) (rs : List ResultVar) (r : Ret) : AExit → Kn → AS → Prop
  | .exit _, _, _ => False
  | _, _, s => match resAVs P s rs with
    | some xs => fits ⟨1, fun _ => false, n.pin, false⟩ (postAS (oneOr xs) s.bx) ⟨[(0, r.res)], zipN 0 r.outs⟩ ∧ freshOK r
    | none => False
section
variable {w : World} {V V' : Nat → Prop} {ι : Names} {bx : Nat → Bx}
theorem flat_cl {c : Cl} {v : Value} (hf : c.flatV) (h : RepCl w V ι bx c v) : RepCl w V' ι bx c v := by
  cases c with
  | d x => exact RepD.of_flat hf h
  | vp _ _ => exact hf.elim
  | clo _ _ => exact hf.elim
  | lit u => exact h
  | nil => exact h
  | ptr b off => exact h
  | ref b n => exact h
  | dead => trivial
theorem flat_cls : ∀ {cs : List Cl} {vs : List Value}, flatVs cs → RepCls w V ι bx cs vs → RepCls w V' ι bx cs vs
  | [], [], _, _ => trivial
  | _ :: _, _ :: _, hf, h => ⟨flat_cl hf.1 h.1, flat_cls hf.2 h.2⟩
  | [], _ :: _, _, h => h.elim
  | _ :: _, [], _, h => h.elim
mutual
theorem flat_av : ∀ {x : AV} {v : Value}, x.flatV → RepAV w V ι bx x v → RepAV w V' ι bx x v
  | .one c, v, hf, h => by simp only [RepAV, AV.flatV] at h hf ⊢; exact flat_cl hf h
  | .agg cs, v, hf, h => by
    simp only [RepAV, AV.flatV] at h hf ⊢
    obtain ⟨cur, e, h⟩ := h
    exact ⟨cur, e, flat_cls hf h⟩
  | .tup vs, v, hf, h => by
    simp only [RepAV, AV.flatV] at h hf ⊢
    obtain ⟨cur, e, h⟩ := h
    exact ⟨cur, e, flat_avs hf h⟩
theorem flat_avs : ∀ {xs : List AV} {vs : List Value}, AV.flatVL xs → RepAVs w V ι bx xs vs → RepAVs w V' ι bx xs vs
  | [], [], _, _ => by simp only [RepAVs]
  | _ :: _, _ :: _, hf, h => by simp only [RepAVs, AV.flatVL] at h hf ⊢; exact ⟨flat_av hf.1 h.1, flat_avs hf.2 h.2⟩
  | [], _ :: _, _, h => by simp only [RepAVs] at h
  | _ :: _, [], _, h => by simp only [RepAVs] at h
end
theorem flat_bx {b : Nat} {B : Bx} (hf : B.flatV) (h : RepBx w V ι bx b B) : RepBx w V' ι bx b B := by
  cases B with
  | fresh => trivial
  | gone => trivial
  | cells cs => obtain ⟨g, c, cur, T, h1, h2, h3⟩ := h; exact ⟨g, c, cur, T, h1, h2, flat_cls hf h3⟩
  | row e size xs =>
    rcases h with h | ⟨g, cap, cur, h1, h2, h3, h4, h5⟩
    · exact .inl h
    · exact .inr ⟨g, cap, cur, h1, h2, h3, h4, RepDs.of_flat (List.all_eq_true.2 hf) h5⟩
  | ice xs => exact hf.elim
theorem flatVL_at : ∀ {l : List Bx} {b : Nat}, Bx.flatVL l → (boxes l b).flatV
  | [], b, _ => by simp [boxes, Bx.flatV]
  | x :: l, 0, h => h.1
  | x :: l, b + 1, h => flatVL_at (b := b) h.2
end
theorem lookX_zipN : ∀ {l : List Bx} {k b : Nat}, lookX (zipN k l) (k + b) = boxes l b
  | [], _, _ => rfl
  | x :: l, k, 0 => by simp [zipN, lookX, boxes]
  | x :: l, k, b + 1 => by
    have := lookX_zipN (l := l) (k := k + 1) (b := b)
    simp only [zipN, lookX]
    rw [if_neg (by omega), show k + (b + 1) = k + 1 + b from by omega, this]
    rfl
theorem wfs_at : ∀ {l : List Bx}, (∀ b, (boxes l b).wf) → Bx.wfL l
  | [], _ => trivial
  | x :: l, h => ⟨h 0, wfs_at fun b => h (b + 1)⟩
theorem repAVs_len {w : World} {V : Nat → Prop} {ι : Names} {bx : Nat → Bx} : ∀ {xs : List AV} {vs : List Value}, RepAVs w V ι bx xs vs → xs.length = vs.length
  | [], [], _ => rfl
  | _ :: _, _ :: _, h => by simp only [RepAVs] at h; simp [repAVs_len h.2]
  | [], _ :: _, h => by simp only [RepAVs] at h
  | _ :: _, [], h => by simp only [RepAVs] at h
theorem start_repG {fn : Func} {pin : Nat} {args : List AV} {ins : List Bx} (hl : args.length ≤ fn.ntmps) (hp : (List.range pin).all (fun b => (boxes ins b).known) = true)
    {w : World} {S : Nat → Prop} {ι : Names} {vs : Array Value} (hgl : GlobOK w S) (hh : Handed_ w S ι args ins vs.toList) :
    RepS w { see := S, lent := OwnB (boxes ins) ι, ref := w, nm := ι } ⟨fn.ntmps, fun _ => false, List.range pin, false⟩ (startG args ins) ι { tmps := vs ++ Array.replicate (fn.ntmps - vs.size) undef, defers := [] } w := by
  have hargs := hh.args
  have hlen := repAVs_len hargs
  have hk : Keeps w S w (Seen { see := S, lent := OwnB (boxes ins) ι, ref := w, nm := ι } w.heap.size (boxes ins) ι) := fun g off u hV hu => ⟨⟨.inl hV, fun b c hl e => (hh.own b g c hl e).1 hV⟩, hu⟩
  refine ⟨Bel.refl _ _, ⟨List.Pairwise.nil, fun d hd => by simp at hd⟩, KeepsOthers.refl w, ?_, fun t h => by (cases h), fun b hb => ⟨rfl, (List.all_eq_true.1 hp) b hb⟩, fun t => ?_, fun b => (hh.bx b).seen hk, fun b g c hl e => ⟨.inr ⟨b, c, hl, e⟩, (hh.own b g c hl e).2⟩, hh.dist, hgl.keep hk⟩
  · show (vs ++ Array.replicate (fn.ntmps - vs.size) undef).size = fn.ntmps
    simp at hlen ⊢; omega
  · have h1 : RepAVs w (Seen { see := S, lent := OwnB (boxes ins) ι, ref := w, nm := ι } w.heap.size (boxes ins) ι) ι (boxes ins) args vs.toList := hargs.keep (fun b hb => ⟨hb, rfl⟩) hk
    have h2 := start_tm (k := fn.ntmps - vs.size) h1 t
    rw [← arr_getD] at h2
    exact h2
theorem ret_afterG {P : Program} {fn : Func} {pin : Nat} {ins : List Bx} {r : Ret} {kn' : Kn} {s' : AS} {ι' : Names} {w w' : World} {S : Nat → Prop} {ι : Names} {tmps : Array Value}
    (hr' : RepS w { see := S, lent := OwnB (boxes ins) ι, ref := w, nm := ι } ⟨fn.ntmps, fun _ => false, List.range pin, false⟩ s' ι' { tmps := tmps, defers := [] } w') :
    postG P ⟨fn.ntmps, fun _ => false, List.range pin, false⟩ fn.results.toList r .ret kn' s' → ∃ v, (results fn tmps).run P w' = .ok v w' ∧ ∃ v2 ι', Ending.returned v = .returned v2 ∧ After w S ι pin ins r w' ι' v2 := by
  intro hq
  simp only [postG] at hq
  split at hq
  · rename_i xs hxs
    obtain ⟨hfit, hfresh⟩ := hq
    obtain ⟨us, hrun, hus⟩ := res_vals hr' hxs
    have hul := repAVs_len hus
    refine ⟨_, hrun, ?_⟩
    -- the result alone
    have hx : RepAV w' (Seen { see := S, lent := OwnB (boxes ins) ι, ref := w, nm := ι } w.heap.size s'.bx ι') ι' s'.bx (oneOr xs) (if h : us.toArray.size = 1 then us.toArray[0] else .tuple us.toArray) := by
      match xs, us, hus, hul with
      | [x], [u], hus, _ => simp only [RepAVs] at hus; simpa [oneOr] using hus.1
      | [], [], hus, _ => simp only [oneOr, RepAV]; exact ⟨_, rfl, hus⟩
      | x1 :: x2 :: xs, u1 :: u2 :: us, hus, _ => simp only [oneOr, RepAV]; exact ⟨(u1 :: u2 :: us).toArray, by simp, hus⟩
      | [_], [], _, hl => simp at hl
      | [], _ :: _, _, hl => simp at hl
      | [_], _ :: _ :: _, _, hl => simp at hl
      | _ :: _ :: _, [], _, hl => simp at hl
      | _ :: _ :: _, [_], _, hl => simp at hl
    generalize (if h : us.toArray.size = 1 then us.toArray[0] else .tuple us.toArray) = v at hx
    generalize oneOr xs = x at hx hfit
    have h1 : RepS w { see := S, lent := OwnB (boxes ins) ι, ref := w, nm := ι } ⟨1, fun _ => false, List.range pin, false⟩ (postAS x s'.bx) ι' { tmps := #[v], defers := [] } w' :=
      ⟨hr'.bel, ⟨List.Pairwise.nil, fun d hd => by simp at hd⟩, hr'.oth, rfl, fun t h => by (cases h), hr'.pin, fun t => by
        show RepAV _ _ _ _ (if t = 0 then x else .one .dead) _
        split
        · rename_i e; subst e; exact hx
        · simp only [RepAV, RepCl], hr'.bx, hr'.own, hr'.dist, hr'.glob⟩
    obtain ⟨ι2, h2⟩ := h1.fit hfit
    have hbx : lookX (zipN 0 r.outs) = boxes r.outs := by
      funext b
      have := lookX_zipN (l := r.outs) (k := 0) (b := b)
      rwa [Nat.zero_add] at this
    have htm : RepAV w' (Seen { see := S, lent := OwnB (boxes ins) ι, ref := w, nm := ι } w.heap.size (boxes r.outs) ι2) ι2 (boxes r.outs) r.res v := by
      have := h2.tm 0
      rw [← hbx]
      exact this
    have hb2 : ∀ b, RepBx w' (Seen { see := S, lent := OwnB (boxes ins) ι, ref := w, nm := ι } w.heap.size (boxes r.outs) ι2) ι2 (boxes r.outs) b (boxes r.outs b) := fun b => by
      have := h2.bx b
      rw [← hbx]
      exact this
    have hown : ∀ b g c, (boxes r.outs b).live = true → ι2 b = some (g, c) → (w.heap.size ≤ g ∨ OwnB (boxes ins) ι g) ∧ g < w'.heap.size := fun b g c hl e => h2.own b g c (by rw [← hbx] at hl; exact hl) e
    have hdist : ∀ b b' g c c', (boxes r.outs b).live = true → (boxes r.outs b').live = true → b ≠ b' → ι2 b = some (g, c) → ι2 b' ≠ some (g, c') := fun b b' g c c' hl hl' => h2.dist b b' g c c' (by rw [← hbx] at hl; exact hl) (by rw [← hbx] at hl'; exact hl')
    have hpin : ∀ b, b < pin → ι2 b = ι b := fun b hb => (h2.pin b (List.mem_range.2 hb)).1
    refine ⟨v, ι2, rfl, ?_⟩
    cases hfr : r.fresh with
    | true =>
      unfold freshOK at hfresh
      rw [hfr] at hfresh
      exact ⟨flat_av hfresh.1 htm, fun b => flat_bx (flatVL_at hfresh.2) (hb2 b), hown, hdist, hpin, h2.bel⟩
    | false =>
      have hk2 : Keeps w' (Seen { see := S, lent := OwnB (boxes ins) ι, ref := w, nm := ι } w.heap.size (boxes r.outs) ι2) w' (Behind w S ι ins r ι2) := fun g off u hV hu => ⟨⟨by
        rcases hV.1 with h | h | h
        · exact .inl ⟨hfr, h⟩
        · exact .inr (.inl h)
        · exact .inr (.inr h), fun ⟨b, c, hl, e⟩ => hV.2 b c hl e⟩, hu⟩
      exact ⟨htm.keep (fun b hb => ⟨hb, rfl⟩) hk2, fun b => (hb2 b).seen hk2, hown, hdist, hpin, h2.bel⟩
  · exact hq.elim
theorem ansG_of_vcg {P : Program} {Γ : Gam} {f : FuncId} {fn : Func} {pin : Nat} {args : List AV} {ins : List Bx} {r : Ret} (ann : Ann) (hm : P.follows .mixedOrders = true) (hf : P.funcs[f]? = some fn) (hb : fn.body.isSome = true) (hl : args.length ≤ fn.ntmps)
    (hp : (List.range pin).all (fun b => (boxes ins b).known) = true)
    (h : AV.wfL args → Bx.wfL ins → vcg P Γ ⟨fn.ntmps, fun _ => false, List.range pin, false⟩ (bodyOf fn) ann kn0 (startG args ins) (postG P ⟨fn.ntmps, fun _ => false, List.range pin, false⟩ fn.results.toList r)) : AnsG P f pin args ins r := by
  intro w S ι vs hgl hh
  have hv := h hh.args.wf (wfs_at fun b => (hh.bx b).wf)
  refine calls_of_vcg ann hm hf hb (n := ⟨fn.ntmps, fun _ => false, List.range pin, false⟩) rfl hv (start_repG hl hp hgl hh) rfl (fun e kn' s' ι' tmps w' hq hr' => ?_) (fun id kn' s' hq => hq)
  cases e with
  | normal => exact ⟨fun _ e => by (cases e), ret_afterG (kn' := kn') hr' hq⟩
  | ret => exact ⟨fun _ e => by (cases e), ret_afterG (kn' := kn') hr' hq⟩
  | exit id => exact hq.elim
/-
  A procedure that is handed data alone is a function of its data, if its caller gives up what it makes.
-/
def Cl.thaw (bx : Nat → Bx) : Cl → Option DV
  | .d v => some v
  | .nil => some (.sl 0 [])
  | .ref b n => match inside (bx b) with
    | some xs => some (.sl n xs)
    | none => none
  | _ => none
def thaws (bx : Nat → Bx) : List Cl → Option (List DV)
  | [] => some []
  | c :: cs => match c.thaw bx, thaws bx cs with
    | some d, some ds => some (d :: ds)
    | _, _ => none
mutual
def AV.thaw (bx : Nat → Bx) : AV → Option RV
  | .one c => match c.thaw bx with
    | some d => some (.d d)
    | none => none
  | .agg cs => match thaws bx cs with
    | some ds => some (.agg ds)
    | none => none
  | .tup vs => match AV.thawL bx vs with
    | some rs => some (.tup rs)
    | none => none
def AV.thawL (bx : Nat → Bx) : List AV → Option (List RV)
  | [] => some []
  | x :: xs => match x.thaw bx, AV.thawL bx xs with
    | some r, some rs => some (r :: rs)
    | _, _ => none
end
section
variable {w : World} {V V' : Nat → Prop} {ι : Names} {bx : Nat → Bx}
theorem thaw_cl (hk : ∀ g, V g → V' g) (hb : ∀ b, RepBx w V ι bx b (bx b)) (ho : ∀ b g c, (bx b).live = true → ι b = some (g, c) → V' g) {c : Cl} {d : DV} {v : Value} (h : c.thaw bx = some d) (hr : RepCl w V ι bx c v) : RepD w V' d v := by
  have hkk : Keeps w V w V' := fun g off u hV hu => ⟨hk g hV, hu⟩
  cases c with
  | d x =>
    simp only [Cl.thaw, Option.some.injEq] at h
    subst h
    exact RepD.keep hkk hr
  | nil =>
    simp only [Cl.thaw, Option.some.injEq] at h
    subst h
    simp only [RepCl] at hr
    simp only [RepD]
    exact ⟨none, 0, hr, Nat.le_refl _, Nat.zero_le _, fun hne => absurd rfl hne⟩
  | ref b n =>
    simp only [Cl.thaw] at h
    split at h
    · rename_i xs hin
      simp only [Option.some.injEq] at h
      subst h
      simp only [RepCl] at hr
      have hbb := hb b
      cases hB : bx b with
      | row e size ys =>
        rw [hB] at hin hbb
        simp only [inside, Option.some.injEq] at hin
        subst hin
        obtain ⟨_, ⟨h1, h2, h3⟩ | ⟨g, cap, h1, h2, h3⟩⟩ := hr
        · rcases hbb with ⟨h4, h5⟩ | ⟨g, cap, cur, h4, _⟩
          · subst h5 h2
            simp only [RepD]
            exact ⟨none, 0, h3, Nat.le_refl _, Nat.zero_le _, fun hne => absurd rfl hne⟩
          · rw [h1] at h4; cases h4
        · rcases hbb with ⟨h4, h5⟩ | ⟨g', cap', cur, h4, h5, h6, h7, h8⟩
          · rw [h1] at h4; cases h4
          · rw [h1] at h4
            injection h4 with h4
            injection h4 with h4 h4'
            subst h4 h4'
            simp only [RepD]
            exact ⟨_, cap, h2, h3, h6, fun hne => ⟨g, 0, rfl, ho b g cap (by rw [hB]; rfl) h1, RepCells.of_row h5 (h8.keep hkk)⟩⟩
      | ice ys =>
        rw [hB] at hin hbb
        simp only [inside, Option.some.injEq] at hin
        subst hin
        obtain ⟨_, ⟨h1, h2, h3⟩ | ⟨g, cap, h1, h2, h3⟩⟩ := hr
        · rcases hbb with ⟨h4, h5⟩ | ⟨g, cap, h4, _⟩
          · subst h5 h2
            simp only [RepD]
            exact ⟨none, 0, h3, Nat.le_refl _, Nat.zero_le _, fun hne => absurd rfl hne⟩
          · rw [h1] at h4; cases h4
        · rcases hbb with ⟨h4, h5⟩ | ⟨g', cap', h4, h5, h6⟩
          · rw [h1] at h4; cases h4
          · rw [h1] at h4
            injection h4 with h4
            injection h4 with h4 h4'
            subst h4 h4'
            simp only [RepD]
            refine ⟨_, cap, h2, h3, h6, fun hne => ⟨g, 0, rfl, ?_⟩⟩
            have h9 := Lies.keep hkk h5
            exact h9 hne
      | fresh => rw [hB] at hin; cases hin
      | gone => rw [hB] at hin; cases hin
      | cells cs => rw [hB] at hin; cases hin
    · cases h
  | lit u => cases h
  | ptr b off => cases h
  | vp cs off => cases h
  | clo f cs => cases h
  | dead => cases h
theorem thaw_cls (hk : ∀ g, V g → V' g) (hb : ∀ b, RepBx w V ι bx b (bx b)) (ho : ∀ b g c, (bx b).live = true → ι b = some (g, c) → V' g) : ∀ {cs : List Cl} {ds : List DV} {vs : List Value}, thaws bx cs = some ds → RepCls w V ι bx cs vs → RepDs w V' ds vs
  | [], ds, vs, h, hr => by
    simp only [thaws, Option.some.injEq] at h
    subst h
    cases vs with
    | nil => trivial
    | cons _ _ => exact hr.elim
  | c :: cs, ds, vs, h, hr => by
    simp only [thaws] at h
    split at h
    · rename_i d ds' h1 h2
      simp only [Option.some.injEq] at h
      subst h
      cases vs with
      | nil => exact hr.elim
      | cons v vs => exact ⟨thaw_cl hk hb ho h1 hr.1, thaw_cls hk hb ho h2 hr.2⟩
    · cases h
mutual
theorem thaw_av (hk : ∀ g, V g → V' g) (hb : ∀ b, RepBx w V ι bx b (bx b)) (ho : ∀ b g c, (bx b).live = true → ι b = some (g, c) → V' g) : ∀ {x : AV} {r : RV} {v : Value}, x.thaw bx = some r → RepAV w V ι bx x v → RepR w V' r v
  | .one c, r, v, h, hr => by
    simp only [AV.thaw] at h
    split at h
    · rename_i d h1
      simp only [Option.some.injEq] at h
      subst h
      simp only [RepAV] at hr
      simp only [RepR]
      exact thaw_cl hk hb ho h1 hr
    · cases h
  | .agg cs, r, v, h, hr => by
    simp only [AV.thaw] at h
    split at h
    · rename_i d h1
      simp only [Option.some.injEq] at h
      subst h
      simp only [RepAV] at hr
      obtain ⟨cur, e, hr⟩ := hr
      simp only [RepR]
      exact ⟨cur, e, thaw_cls hk hb ho h1 hr⟩
    · cases h
  | .tup vs, r, v, h, hr => by
    simp only [AV.thaw] at h
    split at h
    · rename_i d h1
      simp only [Option.some.injEq] at h
      subst h
      simp only [RepAV] at hr
      obtain ⟨cur, e, hr⟩ := hr
      simp only [RepR]
      exact ⟨cur, e, thaw_avs hk hb ho h1 hr⟩
    · cases h
theorem thaw_avs (hk : ∀ g, V g → V' g) (hb : ∀ b, RepBx w V ι bx b (bx b)) (ho : ∀ b g c, (bx b).live = true → ι b = some (g, c) → V' g) : ∀ {xs : List AV} {rs : List RV} {vs : List Value}, AV.thawL bx xs = some rs → RepAVs w V ι bx xs vs → RepRs w V' rs vs
  | [], rs, vs, h, hr => by
    simp only [AV.thawL, Option.some.injEq] at h
    subst h
    cases vs with
    | nil => simp only [RepRs]
    | cons _ _ => simp only [RepAVs] at hr
  | x :: xs, rs, vs, h, hr => by
    simp only [AV.thawL] at h
    split at h
    · rename_i d ds' h1 h2
      simp only [Option.some.injEq] at h
      subst h
      cases vs with
      | nil => simp only [RepAVs] at hr
      | cons v vs =>
        simp only [RepAVs] at hr
        simp only [RepRs]
        exact ⟨thaw_av hk hb ho h1 hr.1, thaw_avs hk hb ho h2 hr.2⟩
    · cases h
end
end
theorem AnsG.ans {P : Program} {f : FuncId} {args : List AV} {rs : List RV} {r : Ret} {res : RV} (h : AnsG P f 0 args [] r) (ha : args = RV.avs rs) (hr : r.res.thaw (boxes r.outs) = some res) : Ans P f rs res := by
  subst ha
  intro w S vs hg hrep
  have hno : ∀ b, (boxes ([] : List Bx) b) = .fresh := fun b => by simp [boxes]
  have hnone : ∀ g, ¬ OwnB (boxes ([] : List Bx)) (fun _ => none) g := fun g ⟨b, c, hl, e⟩ => by rw [hno] at hl; cases hl
  have hh : Handed_ w S (fun _ => none) (RV.avs rs) [] vs.toList := by
    refine ⟨fun b g c hl e => ?_, fun b b' g c c' hl hl' hne e => ?_, fun b => ?_, rep_avs hrep⟩
    · rw [hno] at hl; cases hl
    · rw [hno] at hl; cases hl
    · rw [hno]; trivial
  refine (h w S _ vs hg hh).mono fun ed w' hp => ?_
  obtain ⟨v, ι', rfl, ha⟩ := hp
  refine ⟨v, rfl, thaw_av (fun g hV => ?_) ha.bx (fun b g c hl e => ?_) hr ha.rep, ha.bel.below hnone⟩
  · rcases hV.1 with ⟨_, h⟩ | h | h
    · exact .inl h
    · exact .inr h
    · exact absurd h (hnone g)
  · rcases (ha.own b g c hl e).1 with h | h
    · exact .inr h
    · exact absurd h (hnone g)
/-
  Rectangles as numbers: plain words, no program is named.
-/
/-! ### remainders -/
def modS (n k : Int) : Int := if k < 1 then 0 else (IntKind.wrap .i64 (n.tmod k + k)).tmod k
/-! ### rectangles -/
structure Rc where
  a : Int
  b : Int
  c : Int
  d : Int
deriving DecidableEq
def okC (v : Int) : Bool := decide (-1073741824 ≤ v) && decide (v ≤ 1073741824)
def Rc.valid (r : Rc) : Bool := okC r.a && okC r.b && okC r.c && okC r.d
def Rc.empty (r : Rc) : Bool := !r.valid || decide (r.c ≤ r.a) || decide (r.d ≤ r.b)
def Rc.zero : Rc := ⟨0, 0, 0, 0⟩
def Rc.clean (r : Rc) : Rc := if r.empty then Rc.zero else r
def Rc.has (r : Rc) (x y : Int) : Bool := !r.empty && decide (r.a ≤ x) && decide (x < r.c) && decide (r.b ≤ y) && decide (y < r.d)
def Rc.inter (r q : Rc) : Rc := if r.empty || q.empty then Rc.zero else Rc.clean ⟨max r.a q.a, max r.b q.b, min r.c q.c, min r.d q.d⟩
def Rc.move (r : Rc) (x y : Int) : Rc := if r.empty || decide (x < -2147483648) || decide (2147483648 < x) || decide (y < -2147483648) || decide (2147483648 < y) then Rc.zero else Rc.clean ⟨r.a + x, r.b + y, r.c + x, r.d + y⟩
/-! ### lists of numbers, of rectangles -/
def is (l : List Int) : List DV := l.map (.int .i64)
def ints (l : List DV) : List Int := l.map fun | .int _ n => n | _ => 0
theorem ints_is (l : List Int) : ints (is l) = l := by simp [ints, is, Function.comp_def]
def Rc.cells (r : Rc) : List DV := [.int .i64 r.a, .int .i64 r.b, .int .i64 r.c, .int .i64 r.d]
def rcs (l : List Rc) : List DV := l.flatMap Rc.cells
def nOf : DV → Int
  | .int _ n => n
  | _ => 0
def toRcs : List DV → List Rc
  | a :: b :: c :: d :: r => ⟨nOf a, nOf b, nOf c, nOf d⟩ :: toRcs r
  | _ => []
/-- a list of rectangles, read out of memory -/
def IsRcs (n : Nat) (xs : List DV) : Prop := xs = rcs (toRcs xs) ∧ n = (toRcs xs).length
theorem IsRcs.of {n : Nat} {xs : List DV} (h : IsRcs n xs) : ∃ l : List Rc, xs = rcs l ∧ n = l.length := ⟨_, h.1, h.2⟩
/-- the pieces of a difference, in their order -/
def Rc.pieces (r i : Rc) : List Rc := [⟨r.a, r.b, r.c, i.b⟩, ⟨r.a, i.d, r.c, r.d⟩, ⟨r.a, i.b, i.a, i.d⟩, ⟨i.c, i.b, r.c, i.d⟩]
def filt (l : List Rc) : List Rc := l.filter fun p => !p.empty
def Rc.sub (r q : Rc) : List Rc := if r.empty then [] else if (r.inter q).empty then [r] else filt (Rc.pieces r (r.inter q))
theorem is_length (l : List Int) : (is l).length = l.length := by simp [is]
/-
  Orders and permutations in plain words.
-/
/-! ### orders -/
def goodP (s : List Int) (n : Int) : Prop := (∀ v ∈ s, 0 ≤ v ∧ v < n) ∧ s.Nodup
instance (s : List Int) (n : Int) : Decidable (goodP s n) := by unfold goodP; infer_instance
theorem isI_of {n : Nat} {xs : List DV} (hn : xs.length = n) (hx : ∀ (j : Nat) d, xs[j]? = some d → ∃ v, d = .int .i64 v) : xs = is (ints xs) ∧ n = xs.length := by
  refine ⟨?_, hn.symm⟩
  clear hn
  induction xs with
  | nil => rfl
  | cons x xs ih =>
    obtain ⟨v, rfl⟩ := hx 0 _ rfl
    have := ih fun j d hj => hx (j + 1) d hj
    simp only [is, ints, List.map_cons] at this ⊢
    rw [← this]
/-
  Operations in plain words: 12 fields.
-/
structure Oq where
  kind : Int
  image : Int
  x : Int
  y : Int
  mask : Int
  mx : Int
  my : Int
  opac : Int
  oper : Int
  mode : Int
  iso : Bool
  kno : Bool
deriving DecidableEq
def popO : Oq := ⟨3, 0, 0, 0, 0, 0, 0, 0, 0, 0, false, false⟩
/-- are the fields that it does not use zero -/
def Oq.fields (o : Oq) : Bool :=
  if o.kind = 3 then decide (o = popO)
  else !(decide (o.kind = 1) && (o.iso || o.kno)) && !(decide (o.kind = 2) && decide (o.image ≠ 0 ∨ o.x ≠ 0 ∨ o.y ≠ 0)) && decide (o.mask ≠ 0 ∨ o.mx = 0 ∧ o.my = 0)
/-- the cells of an operation -/
def Oq.cells (o : Oq) : List DV := [.int .i64 o.kind, .int .i64 o.image, .int .i64 o.x, .int .i64 o.y, .int .i64 o.mask, .int .i64 o.mx, .int .i64 o.my, .int .u16 o.opac, .int .i64 o.oper, .int .i64 o.mode, .bool o.iso, .bool o.kno]
/-- an operation by its cells -/
def oqAt (xs : List DV) (i : Nat) : Oq := ⟨nAt xs i, nAt xs (i + 1), nAt xs (i + 2), nAt xs (i + 3), nAt xs (i + 4), nAt xs (i + 5), nAt xs (i + 6), nAt xs (i + 7), nAt xs (i + 8), nAt xs (i + 9), bAt xs (i + 10), bAt xs (i + 11)⟩
def ops (l : List Oq) : List DV := l.flatMap Oq.cells
theorem ops_length (l : List Oq) : (ops l).length = l.length * 12 := by
  induction l with
  | nil => rfl
  | cons o l ih => simp only [ops, List.flatMap_cons, List.length_append, List.length_cons] at ih ⊢; rw [ih]; simp [Oq.cells]; omega
theorem ops_get {l : List Oq} {k : Nat} (h : k < l.length) (j : Nat) (hj : j < 12) : (ops l)[k * 12 + j]? = l[k].cells[j]? := by
  induction l generalizing k with
  | nil => simp at h
  | cons o l ih =>
    have e : ops (o :: l) = o.cells ++ ops l := by simp [ops]
    rw [e]
    cases k with
    | zero => simp only [List.getElem_cons_zero]; rw [List.getElem?_append_left (by simp [Oq.cells]; omega)]; simp
    | succ k =>
      rw [List.getElem?_append_right (by simp [Oq.cells]; omega)]
      have := ih (k := k) (by simpa using h)
      simp only [List.getElem_cons_succ]
      rw [← this]
      congr 1
      simp [Oq.cells]; omega
theorem ops_rd {l : List Oq} {k : Nat} (h : k < l.length) : (ops l)[k * 12]? = some (.int .i64 l[k].kind) ∧ (ops l)[k * 12 + 1]? = some (.int .i64 l[k].image) ∧ (ops l)[k * 12 + 1 + 1]? = some (.int .i64 l[k].x) ∧ (ops l)[k * 12 + 1 + 1 + 1]? = some (.int .i64 l[k].y) ∧ (ops l)[k * 12 + 1 + 1 + 1 + 1]? = some (.int .i64 l[k].mask) ∧ (ops l)[k * 12 + 1 + 1 + 1 + 1 + 1]? = some (.int .i64 l[k].mx) ∧ (ops l)[k * 12 + 1 + 1 + 1 + 1 + 1 + 1]? = some (.int .i64 l[k].my) ∧ (ops l)[k * 12 + 1 + 1 + 1 + 1 + 1 + 1 + 1]? = some (.int .u16 l[k].opac) ∧ (ops l)[k * 12 + 1 + 1 + 1 + 1 + 1 + 1 + 1 + 1]? = some (.int .i64 l[k].oper) ∧ (ops l)[k * 12 + 1 + 1 + 1 + 1 + 1 + 1 + 1 + 1 + 1]? = some (.int .i64 l[k].mode) ∧ (ops l)[k * 12 + 1 + 1 + 1 + 1 + 1 + 1 + 1 + 1 + 1 + 1]? = some (.bool l[k].iso) ∧ (ops l)[k * 12 + 1 + 1 + 1 + 1 + 1 + 1 + 1 + 1 + 1 + 1 + 1]? = some (.bool l[k].kno) := by
  have g := fun j hj => ops_get h j hj
  refine ⟨g 0 (by omega), g 1 (by omega), g 2 (by omega), g 3 (by omega), g 4 (by omega), g 5 (by omega), g 6 (by omega), g 7 (by omega), g 8 (by omega), g 9 (by omega), g 10 (by omega), g 11 (by omega)⟩
theorem ops_at {l : List Oq} {k : Nat} (h : k < l.length) : nAt (ops l) (k * 12) = l[k].kind ∧ nAt (ops l) (k * 12 + 1) = l[k].image ∧ nAt (ops l) (k * 12 + 1 + 1) = l[k].x ∧ nAt (ops l) (k * 12 + 1 + 1 + 1) = l[k].y ∧ nAt (ops l) (k * 12 + 1 + 1 + 1 + 1) = l[k].mask ∧ nAt (ops l) (k * 12 + 1 + 1 + 1 + 1 + 1) = l[k].mx ∧ nAt (ops l) (k * 12 + 1 + 1 + 1 + 1 + 1 + 1) = l[k].my ∧ nAt (ops l) (k * 12 + 1 + 1 + 1 + 1 + 1 + 1 + 1) = l[k].opac ∧ nAt (ops l) (k * 12 + 1 + 1 + 1 + 1 + 1 + 1 + 1 + 1) = l[k].oper ∧ nAt (ops l) (k * 12 + 1 + 1 + 1 + 1 + 1 + 1 + 1 + 1 + 1) = l[k].mode ∧ bAt (ops l) (k * 12 + 1 + 1 + 1 + 1 + 1 + 1 + 1 + 1 + 1 + 1) = l[k].iso ∧ bAt (ops l) (k * 12 + 1 + 1 + 1 + 1 + 1 + 1 + 1 + 1 + 1 + 1 + 1) = l[k].kno := by
  obtain ⟨e0, e1, e2, e3, e4, e5, e6, e7, e8, e9, e10, e11⟩ := ops_rd h
  simp only [nAt, bAt, e0, e1, e2, e3, e4, e5, e6, e7, e8, e9, e10, e11, and_self]
theorem oqAt_ops {l : List Oq} {k : Nat} (h : k < l.length) : oqAt (ops l) (k * 12) = l[k] := by
  obtain ⟨e0, e1, e2, e3, e4, e5, e6, e7, e8, e9, e10, e11⟩ := ops_at h
  simp only [oqAt, show k * 12 + 2 = k * 12 + 1 + 1 from rfl, show k * 12 + 3 = k * 12 + 1 + 1 + 1 from rfl, show k * 12 + 4 = k * 12 + 1 + 1 + 1 + 1 from rfl, show k * 12 + 5 = k * 12 + 1 + 1 + 1 + 1 + 1 from rfl, show k * 12 + 6 = k * 12 + 1 + 1 + 1 + 1 + 1 + 1 from rfl, show k * 12 + 7 = k * 12 + 1 + 1 + 1 + 1 + 1 + 1 + 1 from rfl, show k * 12 + 8 = k * 12 + 1 + 1 + 1 + 1 + 1 + 1 + 1 + 1 from rfl, show k * 12 + 9 = k * 12 + 1 + 1 + 1 + 1 + 1 + 1 + 1 + 1 + 1 from rfl, show k * 12 + 10 = k * 12 + 1 + 1 + 1 + 1 + 1 + 1 + 1 + 1 + 1 + 1 from rfl, show k * 12 + 11 = k * 12 + 1 + 1 + 1 + 1 + 1 + 1 + 1 + 1 + 1 + 1 + 1 from rfl, e0, e1, e2, e3, e4, e5, e6, e7, e8, e9, e10, e11]
def toOps (xs : List DV) : List Oq := (List.range (xs.length / 12)).map fun k => oqAt xs (k * 12)
theorem toOps_ops (l : List Oq) : toOps (ops l) = l := by
  have e : (ops l).length / 12 = l.length := by rw [ops_length]; omega
  unfold toOps
  rw [e]
  refine List.ext_getElem (by simp) fun i h1 h2 => ?_
  simp only [List.getElem_map, List.getElem_range]
  exact oqAt_ops h2
/-
  A forest in memory: nodes in a row; the numbers of each node's kids in a row of their own.
-/
theorem OwnsM.keep {w w' : World} {base : Nat} {e : TypeId} {size : Nat} {v : Value} {n : Nat} {xs : List Value} (h : OwnsM w base e size v n xs) (hk : ∀ g, v.ownBlock = some g → w'.heap[g]? = w.heap[g]?) : OwnsM w' base e size v n xs := by
  refine ⟨h.1, ?_⟩
  rcases h.2 with h | ⟨g, cap, cur, hv, hb, hr, h1, h2, h3, h4⟩
  · exact .inl h
  · exact .inr ⟨g, cap, cur, hv, hb, hr.keep (hk g (by rw [hv]; rfl)), h1, h2, h3, h4⟩
theorem RowAt.lt {w : World} {g : Nat} {cur : Array Value} {e : TypeId} (h : RowAt w g cur e) : g < w.heap.size := by
  obtain ⟨m, h1, _⟩ := h
  exact (Array.getElem?_eq_some_iff.1 h1).1
theorem OwnsM.block {w : World} {base : Nat} {e : TypeId} {size : Nat} {v : Value} {n : Nat} {xs : List Value} (h : OwnsM w base e size v n xs) {g : Nat} (hg : v.ownBlock = some g) : base ≤ g ∧ g < w.heap.size := by
  rcases h.2 with ⟨hv, _⟩ | ⟨g', cap, cur, hv, hb, hr, h1, h2, h3, h4⟩
  · rw [hv] at hg; cases hg
  · rw [hv] at hg
    simp only [Value.ownBlock, Option.some.injEq] at hg
    subst hg
    exact ⟨hb, hr.lt⟩
theorem OwnsM.shape {w : World} {base : Nat} {e : TypeId} {size : Nat} {v : Value} {n : Nat} {xs : List Value} (h : OwnsM w base e size v n xs) : ∃ A cap, v = .slice A n cap ∧ n ≤ cap := by
  rcases h.2 with ⟨hv, hn⟩ | ⟨g', cap, cur, hv, hb, hr, h1, h2, h3, h4⟩
  · exact ⟨none, 0, by rw [hv, hn], by omega⟩
  · exact ⟨_, cap, hv, h1⟩
theorem OwnsM.cell {w : World} {base : Nat} {e : TypeId} {size : Nat} {v : Value} {n : Nat} {xs : List Value} (h : OwnsM w base e size v n xs) (hn : 0 < n) : ∃ g cap, v = .slice (some ⟨g, 0, none⟩) n cap ∧ n ≤ cap ∧ ∀ j (hj : j < xs.length), w.cell? ⟨g, j, none⟩ = some xs[j] ∧ w.frozen? ⟨g, j, none⟩ = false := by
  rcases h.2 with ⟨hv, hn'⟩ | ⟨g', cap, cur, hv, hb, hr, h1, h2, h3, h4⟩
  · omega
  · refine ⟨g', cap, hv, h1, fun j hj => ?_⟩
    have hjc : cur[j]? = some xs[j] := by
      have : (cur.toList.take (n * size))[j]? = some xs[j] := by rw [h4]; exact List.getElem?_eq_getElem hj
      rw [List.getElem?_take, if_pos (by rw [← h.1]; exact hj)] at this
      simpa using this
    refine ⟨by rw [hr.cell j, hjc], ?_⟩
    obtain ⟨m, hm, hm2⟩ := hr
    have hlt : j < cur.size := (Array.getElem?_eq_some_iff.1 hjc).1
    simp only [World.frozen?, hm]
    rcases hm2 with rfl | hm2
    · simp
    · simp; omega
/-- which block each part lies in -/
def Apart (f : Nat → Option Nat) : Prop := ∀ a b g, f a = some g → f b = some g → a = b
theorem Apart.upd {f : Nat → Option Nat} (h : Apart f) {S : Nat} (hs : ∀ a g, f a = some g → g < S) {j : Nat} {p : Option Nat} (hp : p = f j ∨ p = some S ∨ p = none) : Apart (fun x => if x = j then p else f x) := by
  intro a b g ha hb
  simp only at ha hb
  by_cases e1 : a = j
  · by_cases e2 : b = j
    · rw [e1, e2]
    · rw [if_pos e1] at ha
      rw [if_neg e2] at hb
      rcases hp with hp | hp | hp
      · rw [hp, ← e1] at ha; exact h a b g ha hb
      · rw [hp] at ha; injection ha with ha; have := hs b g hb; omega
      · rw [hp] at ha; cases ha
  · rw [if_neg e1] at ha
    by_cases e2 : b = j
    · rw [if_pos e2] at hb
      rcases hp with hp | hp | hp
      · rw [hp, ← e2] at hb; exact h a b g ha hb
      · rw [hp] at hb; injection hb with hb; have := hs a g ha; omega
      · rw [hp] at hb; cases hb
    · rw [if_neg e2] at hb
      exact h a b g ha hb
def blks (bt : Nat) (vN vR vO : Value) (kv : List Value) : Nat → Option Nat
  | 0 => some bt
  | 1 => vN.ownBlock
  | 2 => vR.ownBlock
  | 3 => vO.ownBlock
  | i + 4 => (kv[i]?).bind Value.ownBlock
def Oq.vals (o : Oq) : List Value := [.int .i64 o.kind, .int .i64 o.image, .int .i64 o.x, .int .i64 o.y, .int .i64 o.mask, .int .i64 o.mx, .int .i64 o.my, .int .u16 o.opac, .int .i64 o.oper, .int .i64 o.mode, .bool o.iso, .bool o.kno]
def intVs (l : List Int) : List Value := l.map (Value.int .i64)
def nodeVs : List (Oq × List Int) → List Value → List Value
  | p :: ns, k :: kv => p.1.vals ++ k :: nodeVs ns kv
  | _, _ => []
theorem nodeVs_app : ∀ {ns : List (Oq × List Int)} {kv : List Value} (h : kv.length = ns.length) (p : Oq × List Int) (k : Value), nodeVs (ns ++ [p]) (kv ++ [k]) = nodeVs ns kv ++ (p.1.vals ++ [k])
  | [], [], _, p, k => by simp [nodeVs]
  | q :: ns, l :: kv, h, p, k => by
    simp only [List.cons_append, nodeVs]
    rw [nodeVs_app (by simpa using h)]
    simp
theorem nodeVs_len : ∀ {ns : List (Oq × List Int)} {kv : List Value} (h : kv.length = ns.length), (nodeVs ns kv).length = ns.length * 13
  | [], [], _ => rfl
  | q :: ns, l :: kv, h => by
    simp only [nodeVs, List.length_append, List.length_cons, nodeVs_len (ns := ns) (kv := kv) (by simpa using h), Oq.vals]
    simp
    omega
theorem nodeVs_kid : ∀ {ns : List (Oq × List Int)} {kv : List Value} (h : kv.length = ns.length) {i : Nat} (hi : i < kv.length), (nodeVs ns kv)[i * 13 + 12]? = some kv[i]
  | _, [], _, i, hi => absurd hi (Nat.not_lt_zero i)
  | q :: ns, l :: kv, h, 0, hi => by simp [nodeVs, Oq.vals]
  | q :: ns, l :: kv, h, i + 1, hi => by
    have := nodeVs_kid (ns := ns) (kv := kv) (by simpa using h) (i := i) (by simpa using hi)
    have e : (i + 1) * 13 + 12 = (q.1.vals ++ [l]).length + (i * 13 + 12) := by simp [Oq.vals]; omega
    have e2 : nodeVs (q :: ns) (l :: kv) = (q.1.vals ++ [l]) ++ nodeVs ns kv := by simp [nodeVs]
    rw [e, e2, List.getElem?_append_right (by omega), Nat.add_sub_cancel_left, this]
    simp
theorem nodeVs_set : ∀ {ns : List (Oq × List Int)} {kv : List Value} (h : kv.length = ns.length) {i : Nat} {p : Oq × List Int} (hp : ns[i]? = some p) (v : Value) (l : List Int), (nodeVs ns kv).set (i * 13 + 12) v = nodeVs (ns.set i (p.1, l)) (kv.set i v)
  | [], _, _, i, p, hp, _, _ => by simp at hp
  | _ :: _, [], h, _, _, _, _, _ => by simp at h
  | q :: ns, k :: kv, h, 0, p, hp, v, l => by
    simp only [List.getElem?_cons_zero, Option.some.injEq] at hp
    subst hp
    simp [nodeVs, Oq.vals]
  | q :: ns, k :: kv, h, i + 1, p, hp, v, l => by
    have := nodeVs_set (ns := ns) (kv := kv) (by simpa using h) (i := i) (p := p) (by simpa using hp) v l
    have e : (i + 1) * 13 + 12 = (q.1.vals ++ [k]).length + (i * 13 + 12) := by simp [Oq.vals]; omega
    have e2 : nodeVs (q :: ns) (k :: kv) = (q.1.vals ++ [k]) ++ nodeVs ns kv := by simp [nodeVs]
    have e3 : nodeVs ((q :: ns).set (i + 1) (p.1, l)) ((k :: kv).set (i + 1) v) = (q.1.vals ++ [k]) ++ nodeVs (ns.set i (p.1, l)) (kv.set i v) := by simp [nodeVs]
    rw [e, e2, e3, List.set_append_right _ _ (by omega), Nat.add_sub_cancel_left, this]
structure Trees (tT tN tI : TypeId) (w0 w : World) (ex : List (Nat × Obj)) (bt : Nat) (vN vR vO : Value) (ns : List (Oq × List Int)) (kv : List Value) (rs os : List Int) : Prop where
  bel : Below w0.heap.size w0 w
  box : w.heap[bt]? = some (.cells #[vN, vR] tT (0, 0))
  old : w0.heap.size ≤ bt
  klen : kv.length = ns.length
  nodes : OwnsM w w0.heap.size tN 13 vN ns.length (nodeVs ns kv)
  roots : OwnsM w w0.heap.size tI 1 vR rs.length (intVs rs)
  open_ : OwnsM w w0.heap.size tI 1 vO os.length (intVs os)
  kids : ∀ (i : Nat) (v : Value) (p : Oq × List Int), kv[i]? = some v → ns[i]? = some p → OwnsM w w0.heap.size tI 1 v p.2.length (intVs p.2)
  apart : Apart (blks bt vN vR vO kv)
  /-- blocks beside it, as they are -/
  pins : ∀ p ∈ ex, w0.heap.size ≤ p.1 ∧ w.heap[p.1]? = some p.2 ∧ ∀ a, blks bt vN vR vO kv a ≠ some p.1
section
variable {tT tN tI : TypeId} {w0 w : World} {ex : List (Nat × Obj)} {bt : Nat} {vN vR vO : Value} {ns : List (Oq × List Int)} {kv : List Value} {rs os : List Int}
theorem Trees.blk (h : Trees tT tN tI w0 w ex bt vN vR vO ns kv rs os) : ∀ a g, blks bt vN vR vO kv a = some g → w0.heap.size ≤ g ∧ g < w.heap.size
  | 0, g, e => by
    simp only [blks, Option.some.injEq] at e
    subst e
    exact ⟨h.old, (Array.getElem?_eq_some_iff.1 h.box).1⟩
  | 1, g, e => h.nodes.block e
  | 2, g, e => h.roots.block e
  | 3, g, e => h.open_.block e
  | i + 4, g, e => by
    simp only [blks] at e
    cases hk : kv[i]? with
    | none => rw [hk] at e; cases e
    | some v =>
      rw [hk] at e
      have hi := (List.getElem?_eq_some_iff.1 hk).1
      exact (h.kids i v _ hk (List.getElem?_eq_getElem (by rw [← h.klen]; exact hi))).block e
/-- what leaves all parts as they are -/
theorem Trees.frame (h : Trees tT tN tI w0 w ex bt vN vR vO ns kv rs os) {w' : World} (hb : Below w0.heap.size w0 w') (hk : ∀ a g, blks bt vN vR vO kv a = some g → w'.heap[g]? = w.heap[g]?) (hx : ∀ p ∈ ex, w'.heap[p.1]? = w.heap[p.1]?) : Trees tT tN tI w0 w' ex bt vN vR vO ns kv rs os where
  bel := hb
  box := (hk 0 bt rfl).trans h.box
  old := h.old
  klen := h.klen
  nodes := h.nodes.keep fun g e => hk 1 g e
  roots := h.roots.keep fun g e => hk 2 g e
  open_ := h.open_.keep fun g e => hk 3 g e
  kids := fun i v p hv hp => (h.kids i v p hv hp).keep fun g e => hk (i + 4) g (by simp only [blks, hv]; exact e)
  apart := h.apart
  pins := fun p hp => ⟨(h.pins p hp).1, (hx p hp).trans (h.pins p hp).2.1, (h.pins p hp).2.2⟩
theorem Trees.alloc (h : Trees tT tN tI w0 w ex bt vN vR vO ns kv rs os) (o : Obj) : Trees tT tN tI w0 (w.alloc o) ex bt vN vR vO ns kv rs os := by
  have hs := h.bel.size
  refine h.frame ⟨h.bel.os, h.bel.tape, h.bel.output, by simp; omega, fun k hk => by rw [heap_alloc_old w o (by omega)]; exact h.bel.block k hk⟩ (fun a g e => heap_alloc_old w o (h.blk a g e).2) fun p hp => heap_alloc_old w o (Array.getElem?_eq_some_iff.1 (h.pins p hp).2.1).1
theorem Trees.after (h : Trees tT tN tI w0 w ex bt vN vR vO ns kv rs os) {j a0 t : Nat} (ht : blks bt vN vR vO kv a0 = some t) (hja : a0 ≠ j) {v : Value} (hj : blks bt vN vR vO kv j = v.ownBlock) {w' : World} (hg : w.grownBy w' v.ownBlock)
    {v' : Value} (hb : v'.ownBlock = v.ownBlock ∨ v'.ownBlock = some w.heap.size) (arr : Array Value) :
    Below w0.heap.size w0 (w'.setRow t arr) ∧ (∀ a g, a ≠ j → a ≠ a0 → blks bt vN vR vO kv a = some g → (w'.setRow t arr).heap[g]? = w.heap[g]?) ∧ (∀ g, v'.ownBlock = some g → (w'.setRow t arr).heap[g]? = w'.heap[g]?) ∧ w'.heap[t]? = w.heap[t]? ∧
      ∀ f : Nat → Option Nat, (∀ a, f a = v'.ownBlock ∨ f a = none ∨ ∃ b, f a = blks bt vN vR vO kv b) → ∀ p ∈ ex, w0.heap.size ≤ p.1 ∧ (w'.setRow t arr).heap[p.1]? = some p.2 ∧ ∀ a, f a ≠ some p.1 := by
  obtain ⟨t1, t2⟩ := h.blk a0 t ht
  have hs := h.bel.size
  have hv : ∀ g, v.ownBlock = some g → w0.heap.size ≤ g ∧ g < w.heap.size := fun g e => h.blk j g (by rw [hj]; exact e)
  have hvt : v.ownBlock ≠ some t := fun e => hja (h.apart a0 j t ht (by rw [hj]; exact e))
  refine ⟨⟨hg.os.trans h.bel.os, hg.tape.trans h.bel.tape, hg.output.trans h.bel.output, by have := hg.size; simp [World.setRow]; omega, fun k hk => ?_⟩, fun a g ha ha0 e => ?_, fun g e => ?_, hg.block t t2 fun e => hvt e.symm, fun f hf p hp => ?_⟩
  · rw [setRow_other _ _ _ _ (by omega), hg.block k (by omega) (fun e => by have := (hv k e.symm).1; omega)]
    exact h.bel.block k hk
  · have hgt : g ≠ t := fun e2 => ha0 (h.apart a a0 g e (by rw [ht, e2]))
    rw [setRow_other _ _ _ _ hgt]
    exact hg.block g (h.blk a g e).2 fun e2 => ha (h.apart a j g e (by rw [hj]; exact e2.symm))
  · refine setRow_other _ _ _ _ fun e2 => ?_
    rcases hb with hb | hb
    · rw [hb, e2] at e; exact hvt e
    · rw [hb] at e; injection e with e; omega
  · obtain ⟨p1, p2, p3⟩ := h.pins p hp
    have pl := (Array.getElem?_eq_some_iff.1 p2).1
    refine ⟨p1, ?_, fun a e => ?_⟩
    · rw [setRow_other _ _ _ _ (fun e => p3 a0 (by rw [ht, e])), hg.block p.1 pl fun e => p3 j (by rw [hj]; exact e.symm)]
      exact p2
    · rcases hf a with hf | hf | ⟨b, hf⟩
      · rw [hf] at e
        rcases hb with hb | hb
        · rw [hb, ← hj] at e; exact p3 j e
        · rw [hb] at e; injection e with e; omega
      · rw [hf] at e; cases e
      · rw [hf] at e; exact p3 b e
theorem blks_node (i : Nat) : blks bt vN vR vO (kv ++ [.slice none 0 0]) i = blks bt vN vR vO kv i := by
  match i with
  | 0 | 1 | 2 | 3 => rfl
  | i + 4 =>
    simp only [blks]
    by_cases hi : i < kv.length
    · rw [List.getElem?_append_left hi]
    · rw [List.getElem?_append_right (by omega), List.getElem?_eq_none (by omega : kv.length ≤ i)]
      cases h : i - kv.length with
      | zero => rfl
      | succ n => rfl
theorem Trees.node (h : Trees tT tN tI w0 w ex bt vN vR vO ns kv rs os) (o : Oq) {w' : World} {v' : Value} (ho : OwnsM w' w0.heap.size tN 13 v' (ns.length + 1) (nodeVs ns kv ++ (o.vals ++ [.slice none 0 0]))) (hg : w.grownBy w' vN.ownBlock)
    (hb : v'.ownBlock = vN.ownBlock ∨ v'.ownBlock = some w.heap.size) : Trees tT tN tI w0 (w'.setCell ⟨bt, 0, none⟩ v') ex bt v' vR vO (ns ++ [(o, [])]) (kv ++ [.slice none 0 0]) rs os := by
  obtain ⟨a1, a2, a3, a4, a5⟩ := h.after (j := 1) (a0 := 0) (t := bt) rfl (by decide) (v := vN) rfl hg hb #[v', vR]
  have hbox : w'.heap[bt]? = some (.cells #[vN, vR] tT (0, 0)) := a4.trans h.box
  have e : w'.setCell ⟨bt, 0, none⟩ v' = w'.setRow bt #[v', vR] := setCell_eq_setRow w' bt 0 _ _ _ v' hbox
  rw [e]
  refine ⟨a1, setRow_heap _ _ _ _ _ _ hbox, h.old, by simp [h.klen], ?_, h.roots.keep fun g e => a2 2 g (by decide) (by decide) e, h.open_.keep fun g e => a2 3 g (by decide) (by decide) e, fun i v p hv hp => ?_, ?_, a5 _ fun a => ?_⟩
  · rw [nodeVs_app h.klen, List.length_append]
    exact ho.keep a3
  · by_cases hi : i < kv.length
    · rw [List.getElem?_append_left hi] at hv
      rw [List.getElem?_append_left (by rw [← h.klen]; exact hi)] at hp
      exact (h.kids i v p hv hp).keep fun g e => a2 (i + 4) g (by omega) (by omega) (by simp only [blks, hv]; exact e)
    · have hk := h.klen
      rw [List.getElem?_append_right (by omega)] at hv hp
      rw [← hk] at hp
      cases hd : i - kv.length with
      | zero =>
        rw [hd] at hv hp
        simp only [List.getElem?_cons_zero, Option.some.injEq] at hv hp
        subst hv hp
        exact ⟨rfl, .inl ⟨rfl, rfl⟩⟩
      | succ n => rw [hd] at hv; simp at hv
  · have hu := h.apart.upd (S := w.heap.size) (fun a g e => (h.blk a g e).2) (j := 1) (p := v'.ownBlock) (by rcases hb with hb | hb; exact .inl hb; exact .inr (.inl hb))
    intro a b g ha hb'
    rw [blks_node] at ha hb'
    refine hu a b g ?_ ?_
    · match a, ha with
      | 0, ha | 1, ha | 2, ha | 3, ha | a + 4, ha => simpa [blks] using ha
    · match b, hb' with
      | 0, ha | 1, ha | 2, ha | 3, ha | a + 4, ha => simpa [blks] using ha
  · match a with
    | 0 => exact .inr (.inr ⟨0, rfl⟩)
    | 1 => exact .inl rfl
    | 2 => exact .inr (.inr ⟨2, rfl⟩)
    | 3 => exact .inr (.inr ⟨3, rfl⟩)
    | a + 4 => exact .inr (.inr ⟨a + 4, by rw [blks_node]; rfl⟩)
theorem Trees.root (h : Trees tT tN tI w0 w ex bt vN vR vO ns kv rs os) (n : Int) {w' : World} {v' : Value} (ho : OwnsM w' w0.heap.size tI 1 v' (rs.length + 1) (intVs rs ++ [.int .i64 n])) (hg : w.grownBy w' vR.ownBlock)
    (hb : v'.ownBlock = vR.ownBlock ∨ v'.ownBlock = some w.heap.size) : Trees tT tN tI w0 (w'.setCell ⟨bt, 1, none⟩ v') ex bt vN v' vO ns kv (rs ++ [n]) os := by
  obtain ⟨a1, a2, a3, a4, a5⟩ := h.after (j := 2) (a0 := 0) (t := bt) rfl (by decide) (v := vR) rfl hg hb #[vN, v']
  have hbox : w'.heap[bt]? = some (.cells #[vN, vR] tT (0, 0)) := a4.trans h.box
  have e : w'.setCell ⟨bt, 1, none⟩ v' = w'.setRow bt #[vN, v'] := setCell_eq_setRow w' bt 1 _ _ _ v' hbox
  rw [e]
  refine ⟨a1, setRow_heap _ _ _ _ _ _ hbox, h.old, h.klen, h.nodes.keep fun g e => a2 1 g (by decide) (by decide) e, ?_, h.open_.keep fun g e => a2 3 g (by decide) (by decide) e, fun i v p hv hp => ?_, ?_, a5 _ fun a => ?_⟩
  · rw [List.length_append, intVs, List.map_append]
    exact ho.keep a3
  · exact (h.kids i v p hv hp).keep fun g e => a2 (i + 4) g (by omega) (by omega) (by simp only [blks, hv]; exact e)
  · have hu := h.apart.upd (S := w.heap.size) (fun a g e => (h.blk a g e).2) (j := 2) (p := v'.ownBlock) (by rcases hb with hb | hb; exact .inl hb; exact .inr (.inl hb))
    intro a b g ha hb'
    refine hu a b g ?_ ?_
    · match a, ha with
      | 0, ha | 1, ha | 2, ha | 3, ha | a + 4, ha => simpa [blks] using ha
    · match b, hb' with
      | 0, ha | 1, ha | 2, ha | 3, ha | a + 4, ha => simpa [blks] using ha
  · match a with
    | 0 => exact .inr (.inr ⟨0, rfl⟩)
    | 1 => exact .inr (.inr ⟨1, rfl⟩)
    | 2 => exact .inl rfl
    | 3 => exact .inr (.inr ⟨3, rfl⟩)
    | a + 4 => exact .inr (.inr ⟨a + 4, rfl⟩)
theorem Trees.push (h : Trees tT tN tI w0 w ex bt vN vR vO ns kv rs os) (n : Int) {w' : World} {v' : Value} (ho : OwnsM w' w0.heap.size tI 1 v' (os.length + 1) (intVs os ++ [.int .i64 n])) (hg : w.grownBy w' vO.ownBlock)
    (hb : v'.ownBlock = vO.ownBlock ∨ v'.ownBlock = some w.heap.size) : Trees tT tN tI w0 w' ex bt vN vR v' ns kv rs (os ++ [n]) := by
  obtain ⟨a1, a2, a3, a4, a5⟩ := h.after (j := 3) (a0 := 0) (t := bt) rfl (by decide) (v := vO) rfl hg hb #[vN, vR]
  have hbox : w'.heap[bt]? = some (.cells #[vN, vR] tT (0, 0)) := a4.trans h.box
  have e : w'.setRow bt #[vN, vR] = w' := setRow_self w' bt _ _ _ hbox
  rw [e] at a1 a2 a3 a5
  refine ⟨a1, hbox, h.old, h.klen, h.nodes.keep fun g e => a2 1 g (by decide) (by decide) e, h.roots.keep fun g e => a2 2 g (by decide) (by decide) e, ?_, fun i v p hv hp => ?_, ?_, a5 _ fun a => ?_⟩
  · rw [List.length_append, intVs, List.map_append]
    exact ho
  · exact (h.kids i v p hv hp).keep fun g e => a2 (i + 4) g (by omega) (by omega) (by simp only [blks, hv]; exact e)
  · have hu := h.apart.upd (S := w.heap.size) (fun a g e => (h.blk a g e).2) (j := 3) (p := v'.ownBlock) (by rcases hb with hb | hb; exact .inl hb; exact .inr (.inl hb))
    intro a b g ha hb'
    refine hu a b g ?_ ?_
    · match a, ha with
      | 0, ha | 1, ha | 2, ha | 3, ha | a + 4, ha => simpa [blks] using ha
    · match b, hb' with
      | 0, ha | 1, ha | 2, ha | 3, ha | a + 4, ha => simpa [blks] using ha
  · match a with
    | 0 => exact .inr (.inr ⟨0, rfl⟩)
    | 1 => exact .inr (.inr ⟨1, rfl⟩)
    | 2 => exact .inr (.inr ⟨2, rfl⟩)
    | 3 => exact .inl rfl
    | a + 4 => exact .inr (.inr ⟨a + 4, rfl⟩)
/-- the last open group is closed -/
theorem Trees.pop {A : Option Addr} {n cap : Nat} (h : Trees tT tN tI w0 w ex bt vN vR (.slice A n cap) ns kv rs os) (hn : 0 < os.length) : Trees tT tN tI w0 w ex bt vN vR (.slice A (os.length - 1) cap) ns kv rs os.dropLast where
  bel := h.bel
  box := h.box
  old := h.old
  klen := h.klen
  nodes := h.nodes
  roots := h.roots
  open_ := by
    refine ⟨by simp [intVs], ?_⟩
    rcases h.open_.2 with ⟨hv, h0⟩ | ⟨g, c, cur, hv, hb, hr, h1, h2, h3, h4⟩
    · omega
    · injection hv with e1 e2 e3
      subst e1 e3
      refine .inr ⟨g, cap, cur, by rw [List.length_dropLast], hb, hr, by rw [List.length_dropLast]; omega, h2, h3, ?_⟩
      have : cur.toList.take (os.length * 1) = intVs os := h4
      rw [List.length_dropLast, Nat.mul_one]
      rw [Nat.mul_one] at this
      have e : intVs os.dropLast = (intVs os).take (os.length - 1) := by
        unfold intVs
        rw [List.dropLast_eq_take, List.map_take]
      rw [e, ← this, List.take_take, Nat.min_eq_left (by omega)]
  kids := h.kids
  apart := by
    have e : ∀ i, blks bt vN vR (.slice A (os.length - 1) cap) kv i = blks bt vN vR (.slice A n cap) kv i := fun i => by
      match i with
      | 0 | 1 | 2 | 3 | i + 4 => cases A <;> rfl
    intro a b g ha hb
    rw [e] at ha hb
    exact h.apart a b g ha hb
  pins := fun p hp => ⟨(h.pins p hp).1, (h.pins p hp).2.1, fun a e2 => (h.pins p hp).2.2 a (by
    rw [← e2]
    match a with
    | 0 | 1 | 2 | 3 | i + 4 => cases A <;> rfl)⟩
theorem Trees.kid (h : Trees tT tN tI w0 w ex bt vN vR vO ns kv rs os) {i : Nat} {v : Value} (hv : kv[i]? = some v) {p : Oq × List Int} (hp : ns[i]? = some p) (n : Int) {w' : World} {v' : Value} (ho : OwnsM w' w0.heap.size tI 1 v' (p.2.length + 1) (intVs p.2 ++ [.int .i64 n]))
    (hg : w.grownBy w' v.ownBlock) (hb : v'.ownBlock = v.ownBlock ∨ v'.ownBlock = some w.heap.size) {gN capN : Nat} (hN : vN = .slice (some ⟨gN, 0, none⟩) ns.length capN) :
    Trees tT tN tI w0 (w'.setCell ⟨gN, i * 13 + 12, none⟩ v') ex bt vN vR vO (ns.set i (p.1, p.2 ++ [n])) (kv.set i v') rs os := by
  have hin : i < ns.length := (List.getElem?_eq_some_iff.1 hp).1
  have hik : i < kv.length := by rw [h.klen]; exact hin
  rcases h.nodes.2 with ⟨hv0, h0⟩ | ⟨g, cap, cur, hvN, hb0, hr, h1, h2, h3, h4⟩
  · omega
  · rw [hN] at hvN
    injection hvN with e1 e2 e3
    injection e1 with e1
    injection e1 with e1
    subst e1 e3
    obtain ⟨a1, a2, a3, a4, a5⟩ := h.after (j := i + 4) (a0 := 1) (t := gN) (by rw [hN]; rfl) (by omega) (v := v) (by simp only [blks, hv]; rfl) hg hb (cur.setIfInBounds (i * 13 + 12) v')
    have hrw : RowAt w' gN cur tN := hr.keep a4
    obtain ⟨m, hm, hm2⟩ := hrw
    have e : w'.setCell ⟨gN, i * 13 + 12, none⟩ v' = w'.setRow gN (cur.setIfInBounds (i * 13 + 12) v') := setCell_eq_setRow w' gN (i * 13 + 12) _ _ _ v' hm
    have hlt : i * 13 + 12 < ns.length * 13 := by omega
    rw [e]
    refine ⟨a1, (a2 0 bt (by omega) (by decide) rfl).trans h.box, h.old, by simp [h.klen], ?_, h.roots.keep fun g e => a2 2 g (by omega) (by decide) e, h.open_.keep fun g e => a2 3 g (by omega) (by decide) e, fun q u r hu hr' => ?_, ?_, a5 _ fun a => ?_⟩
    · refine ⟨by rw [nodeVs_len (by simp [h.klen])], .inr ⟨gN, capN, cur.setIfInBounds (i * 13 + 12) v', by rw [hN]; simp, hb0, ⟨m, setRow_heap _ _ _ _ _ _ hm, by simpa using hm2⟩, by simpa using h1, h2, by simpa using h3, ?_⟩⟩
      rw [← nodeVs_set h.klen hp v' (p.2 ++ [n]), ← h4]
      simp only [List.length_set, Array.toList_setIfInBounds]
      rw [List.take_set]
    · by_cases hq : q = i
      · subst hq
        rw [List.getElem?_set_self hik] at hu
        rw [List.getElem?_set_self hin] at hr'
        injection hu with hu
        injection hr' with hr'
        subst hu hr'
        have := ho.keep a3
        simp only [List.length_append, List.length_cons, List.length_nil, intVs, List.map_append, List.map_cons, List.map_nil] at this ⊢
        exact this
      · rw [List.getElem?_set_ne (Ne.symm hq)] at hu hr'
        exact (h.kids q u r hu hr').keep fun g e => a2 (q + 4) g (by omega) (by omega) (by simp only [blks, hu]; exact e)
    · have hu := h.apart.upd (S := w.heap.size) (fun a g e => (h.blk a g e).2) (j := i + 4) (p := v'.ownBlock) (by
        have : blks bt vN vR vO kv (i + 4) = v.ownBlock := by simp only [blks, hv]; rfl
        rw [this]
        rcases hb with hb | hb
        · exact .inl hb
        · exact .inr (.inl hb))
      have eq : ∀ a, blks bt vN vR vO (kv.set i v') a = if a = i + 4 then v'.ownBlock else blks bt vN vR vO kv a := fun a => by
        match a with
        | 0 | 1 | 2 | 3 => rw [if_neg (by omega)]; rfl
        | a + 4 =>
          by_cases ha : a = i
          · subst ha
            simp only [blks, List.getElem?_set_self hik, if_true]
            rfl
          · rw [if_neg (by omega)]
            simp only [blks, List.getElem?_set_ne (Ne.symm ha)]
      intro a b g ha hb'
      rw [eq] at ha hb'
      exact hu a b g ha hb'
    · have eq : ∀ a, blks bt vN vR vO (kv.set i v') a = if a = i + 4 then v'.ownBlock else blks bt vN vR vO kv a := fun a => by
        match a with
        | 0 | 1 | 2 | 3 => rw [if_neg (by omega)]; rfl
        | a + 4 =>
          by_cases ha : a = i
          · subst ha
            simp only [blks, List.getElem?_set_self hik, if_true]
            rfl
          · rw [if_neg (by omega)]
            simp only [blks, List.getElem?_set_ne (Ne.symm ha)]
      rw [eq]
      by_cases ha : a = i + 4
      · exact .inl (if_pos ha)
      · exact .inr (.inr ⟨a, if_neg ha⟩)
end
/-! ### as data -/
def nodesD (ns : List (Oq × List Int)) : List DV := ns.flatMap fun p => p.1.cells ++ [DV.sl p.2.length (is p.2)]
def treeD (ns : List (Oq × List Int)) (rs : List Int) : List DV := [.sl ns.length (nodesD ns), .sl rs.length (is rs)]
theorem OwnsM.rep {w : World} {base : Nat} {e : TypeId} {size : Nat} {v : Value} {n : Nat} {xs : List Value} (h : OwnsM w base e size v n xs) {V : Nat → Prop} {ds : List DV} (hd : RepDs w V ds xs) (hV : ∀ g, base ≤ g → V g) : RepD w V (.sl n ds) v := by
  have hl := rep_ds_len hd
  simp only [RepD]
  rcases h.2 with ⟨hv, h0⟩ | ⟨g, cap, cur, hv, hb, hr, h1, h2, h3, h4⟩
  · refine ⟨none, 0, by rw [hv, h0], by omega, Nat.zero_le _, fun hne => absurd ?_ hne⟩
    have h1 := h.1
    rw [h0, Nat.zero_mul] at h1
    exact List.eq_nil_of_length_eq_zero (by omega)
  · refine ⟨_, cap, hv, h1, h2, fun _ => ⟨g, 0, rfl, hV g hb, RepCells.of_row hr ?_⟩⟩
    rw [hl, h.1, h4]
    exact hd
theorem rep_intVs {w : World} {V : Nat → Prop} : ∀ {l : List Int}, (∀ n ∈ l, inK .i64 n) → RepDs w V (is l) (intVs l)
  | [], _ => trivial
  | n :: l, h => ⟨by simp only [RepD, true_and]; exact h n (by simp), rep_intVs fun m hm => h m (by simp [hm])⟩
theorem rep_vals {w : World} {V : Nat → Prop} {o : Oq} (h : DV.wfs o.cells) : RepDs w V o.cells o.vals := by
  simp only [Oq.cells, DV.wfs, DV.wf] at h
  simp only [Oq.cells, Oq.vals, RepDs, RepD, true_and, and_true, inK_iff]
  exact ⟨h.1, h.2.1, h.2.2.1, h.2.2.2.1, h.2.2.2.2.1, h.2.2.2.2.2.1, h.2.2.2.2.2.2.1, h.2.2.2.2.2.2.2.1, h.2.2.2.2.2.2.2.2.1, h.2.2.2.2.2.2.2.2.2.1⟩
theorem rep_nodes {w : World} {V : Nat → Prop} : ∀ {ns : List (Oq × List Int)} {kv : List Value}, kv.length = ns.length → (∀ p ∈ ns, DV.wfs p.1.cells) → (∀ (i : Nat) (v : Value) (p : Oq × List Int), kv[i]? = some v → ns[i]? = some p → RepD w V (.sl p.2.length (is p.2)) v) → RepDs w V (nodesD ns) (nodeVs ns kv)
  | [], _, _, _, _ => by simp [nodesD, nodeVs, RepDs]
  | p :: ns, k :: kv, h, ho, hk => by
    have e : nodesD (p :: ns) = (p.1.cells ++ [DV.sl p.2.length (is p.2)]) ++ nodesD ns := by simp [nodesD]
    have e2 : nodeVs (p :: ns) (k :: kv) = (p.1.vals ++ [k]) ++ nodeVs ns kv := by simp [nodeVs]
    rw [e, e2]
    exact rep_ds_app (rep_ds_app (rep_vals (ho p (by simp))) ⟨hk 0 k p rfl rfl, trivial⟩) (rep_nodes (by simpa using h) (fun q hq => ho q (by simp [hq])) fun i v q hv hq => hk (i + 1) v q (by simpa using hv) (by simpa using hq))
theorem Trees.rep {tT tN tI : TypeId} {w0 w : World} {ex : List (Nat × Obj)} {bt : Nat} {vN vR vO : Value} {ns : List (Oq × List Int)} {kv : List Value} {rs os : List Int} (h : Trees tT tN tI w0 w ex bt vN vR vO ns kv rs os) {V : Nat → Prop} (hV : ∀ g, w0.heap.size ≤ g → V g)
    (ho : ∀ p ∈ ns, DV.wfs p.1.cells) (hk : ∀ p ∈ ns, ∀ n ∈ p.2, inK .i64 n) (hr : ∀ n ∈ rs, inK .i64 n) : RepDs w V (treeD ns rs) [vN, vR] := by
  refine ⟨h.nodes.rep (rep_nodes h.klen ho fun i v p hv hp => ?_) hV, h.roots.rep (rep_intVs hr) hV, trivial⟩
  exact (h.kids i v p hv hp).rep (rep_intVs (hk p (List.mem_of_getElem? hp))) hV
/-! ### the step of an append -/
theorem wp_append_m {P : Program} {w : World} {o : Oper} {a : Act} {K : Act → World → Prop} {Q : Exit → Act → World → Prop} (s x : Operand) (t : TypeId) (ho : o.op = .call { callee := .builtin .append, args := #[s, x], argTypes := #[t, t] })
    (base : Nat) (e : TypeId) (i : TypeInfo) (ht : P.underlying t = some (.slice e)) (hi : P.info? e = some i) (hz : zeroFits i = true) (v : Value) (n : Nat) (xs : List Value) (hs : a.eval s = v) (hown : OwnsM w base e i.size v n xs)
    (yv : Value) (m : Nat) (news : List Value) (hx : a.eval x = yv) (hsrc : Src w yv m news) (hl : news.length = m * i.size) (h1 : ∀ u ∈ news, u.oneCell' = true)
    (h63 : n + m ≤ maxLen) (hbytes : (n + m) * i.bytes ≤ 140737488355328 + 1099511627776 * (1 / i.bytes)) (hbase : base ≤ w.heap.size)
    (h : ∀ v' w', OwnsM w' base e i.size v' (n + m) (xs ++ news) → w.grownBy w' v.ownBlock → (v'.ownBlock = v.ownBlock ∨ v'.ownBlock = some w.heap.size) → K (a.put o.dst v') w') : o.wp P a w K Q := by
  obtain ⟨v', w', hr, h2, h3, h4⟩ := run_append_any (P := P) w base t o.type e i ht hi hz v n xs hown yv m news hsrc hl h1 h63 hbytes hbase
  unfold Oper.wp execOp
  simp only [ho, resolve, invoke, builtin, Sem.run_bind, Sem.run_pure, Result.andThen_ok, List.map_toArray, List.map_cons, List.map_nil, hs, hx, hr]
  exact h v' w' h2 h3 h4
theorem wpList_append_m {P : Program} {w : World} {ops : Array Oper} {rest : List Oper} {o : Oper} {a : Act} {Q : Exit → Act → World → Prop} (hgd : o.guard = none) (s x : Operand) (t : TypeId) (ho : o.op = .call { callee := .builtin .append, args := #[s, x], argTypes := #[t, t] })
    (base : Nat) (e : TypeId) (i : TypeInfo) (ht : P.underlying t = some (.slice e)) (hi : P.info? e = some i) (hz : zeroFits i = true) (v : Value) (n : Nat) (xs : List Value) (hs : a.eval s = v) (hown : OwnsM w base e i.size v n xs)
    (yv : Value) (m : Nat) (news : List Value) (hx : a.eval x = yv) (hsrc : Src w yv m news) (hl : news.length = m * i.size) (h1 : ∀ u ∈ news, u.oneCell' = true)
    (h63 : n + m ≤ maxLen) (hbytes : (n + m) * i.bytes ≤ 140737488355328 + 1099511627776 * (1 / i.bytes)) (hbase : base ≤ w.heap.size)
    (h : ∀ v' w', OwnsM w' base e i.size v' (n + m) (xs ++ news) → w.grownBy w' v.ownBlock → (v'.ownBlock = v.ownBlock ∨ v'.ownBlock = some w.heap.size) → wpList P ops Q rest (a.put o.dst v') w') : wpList P ops Q (o :: rest) a w :=
  wpList_plain hgd fun _ hK => wp_append_m s x t ho base e i ht hi hz v n xs hs hown yv m news hx hsrc hl h1 h63 hbytes hbase fun v' w' h2 h3 h4 => hK _ _ (h v' w' h2 h3 h4)
end Go.Proofs.Ytaaealkgbklmeaa
