/-
  Procedures: a call that is handed boxes of the caller's is right.
-/
import Derived.Test.YtoljdijpmnadpaaAbQ
namespace Go.Proofs.Ytoljdijpmnadpaa
open Go.RowKit
set_option linter.unusedVariables false
set_option linter.unusedSimpArgs false

theorem getD_at {α : Type} (l : List α) (d : α) {j : Nat} (h : j < l.length) : l.getD j d = l[j] := by simp [List.getD_eq_getElem?_getD, List.getElem?_eq_getElem h]
def posOf : List Nat → Nat → Nat
  | [], _ => 0
  | x :: l, b => if b = x then 0 else posOf l b + 1
theorem posOf_lt : ∀ {l : List Nat} {b : Nat}, b ∈ l → posOf l b < l.length
  | x :: l, b, h => by
    simp only [posOf, List.length_cons]
    split
    · omega
    · rename_i hne
      have : b ∈ l := by rcases List.mem_cons.1 h with e | h; exact absurd e hne; exact h
      have := posOf_lt this
      omega
theorem posOf_mem : ∀ {l : List Nat} {b : Nat}, posOf l b < l.length → b ∈ l
  | [], b, h => by simp [posOf] at h
  | x :: l, b, h => by
    simp only [posOf, List.length_cons] at h
    split at h
    · rename_i e; simp [e]
    · exact List.mem_cons_of_mem _ (posOf_mem (by omega))
theorem posOf_at : ∀ {l : List Nat} {b : Nat}, b ∈ l → l.getD (posOf l b) 0 = b
  | x :: l, b, h => by
    simp only [posOf]
    split
    · rename_i e; simp [e]
    · rename_i hne
      have : b ∈ l := by rcases List.mem_cons.1 h with e | h; exact absurd e hne; exact h
      simpa using posOf_at this
theorem at_posOf : ∀ {l : List Nat} {j : Nat}, l.Nodup → j < l.length → posOf l (l.getD j 0) = j
  | x :: l, 0, _, _ => by simp [posOf]
  | x :: l, j + 1, hn, h => by
    rw [List.nodup_cons] at hn
    have hj : j < l.length := by simpa using h
    have hm : l.getD j 0 ∈ l := by rw [getD_at _ _ hj]; exact List.getElem_mem hj
    have hne : ¬ l.getD j 0 = x := fun e => hn.1 (by rw [← e]; exact hm)
    have := at_posOf hn.2 hj
    simp only [List.getD_cons_succ, posOf, if_neg hne, this]
def nubN : List Nat → List Nat
  | [] => []
  | b :: l => b :: (nubN l).filter fun x => decide (x ≠ b)
theorem mem_nubN : ∀ {l : List Nat} {b : Nat}, b ∈ nubN l ↔ b ∈ l
  | [], b => by simp [nubN]
  | x :: l, b => by
    simp only [nubN, List.mem_cons, List.mem_filter, mem_nubN (l := l), decide_eq_true_eq]
    constructor
    · rintro (h | ⟨h, _⟩)
      · exact .inl h
      · exact .inr h
    · rintro (h | h)
      · exact .inl h
      · by_cases e : b = x
        · exact .inl e
        · exact .inr ⟨h, e⟩
def maxL : List Nat → Nat
  | [] => 0
  | b :: l => Nat.max b (maxL l)

/-- the arguments as the procedure sees them -/
def argsP (look : Nat → Option (List DV)) (ρ : Nat → Nat) : List Bool → List AV → Option (List AV)
  | [], [] => some []
  | m :: ms, x :: xs => match argsP look ρ ms xs with
    | some ys => match m with
      | true => match x.flat with
        | true => (x.rv look).map fun r => r.av :: ys
        | false => none
      | false => some (x.ren ρ :: ys)
    | none => none
  | _, _ => none
def rawNames : List Bool → List AV → List Nat
  | m :: ms, x :: xs => (bif m then [] else x.names) ++ rawNames ms xs
  | _, _ => []
def dataRefs : List Bool → List AV → List Nat
  | m :: ms, x :: xs => (bif m then x.refs else []) ++ dataRefs ms xs
  | _, _ => []
def okNames (l0 bs news : List Nat) (B BN : List Bx) : Bool :=
  (B.all fun b => b.names.all fun x => bs.contains x) && (l0.all fun b => !bs.contains b && !news.contains b) && decide (bs.Nodup) && decide (news.Nodup) && (news.all fun b => !bs.contains b) &&
  BN.all fun b => !b.known
def okOuts (pin nnew : Nat) (bs news : List Nat) (r : Ret) : Bool :=
  decide (r.outs.length = pin + nnew) && decide (news.length = nnew) && decide (pin ≤ bs.length) && (r.outs.take pin).all Bx.known
def sigma (pin : Nat) (bs news : List Nat) (j : Nat) : Nat := if j < pin then bs.getD j 0 else news.getD (j - pin) 0
def becomes (pin : Nat) (l0 bs news : List Nat) (B0 : List Bx) (r : Ret) (b : Nat) : Bx :=
  if posOf bs b < pin then (boxes r.outs (posOf bs b)).ren (sigma pin bs news)
  else if bs.contains b then .gone
  else if news.contains b then (boxes r.outs (pin + posOf news b)).ren (sigma pin bs news)
  else (B0.getD (posOf l0 b) .gone).freeze
def procOut (P : Program) (Γ : Gam) (f : FuncId) (ms : List Bool) (pin nnew : Nat) (xs : List AV) (l0 bs news : List Nat) (B0 B BN : List Bx) : Option (Prop × AV × List (Nat × Bx)) :=
  match okNames l0 bs news B BN with
  | true => match argsP (lookIn l0 B0) (posOf bs) ms xs with
    | some ys => match Γ.proc f ys (B.map (Bx.ren (posOf bs))) with
      | some r => match okOuts pin nnew bs news r with
        | true => some (AnsG P f pin ys (B.map (Bx.ren (posOf bs))) r, r.res.ren (sigma pin bs news),
            (bs ++ news ++ (bif r.fresh then [] else l0)).map fun b => (b, becomes pin l0 bs news B0 r b))
        | false => none
      | none => none
    | none => none
  | false => none

section
variable {P : Program} {o : Oper} {s : AS}
theorem sound_proc {Γ : Gam} {f : FuncId} {ms : List Bool} {pin nnew : Nat} {xs : List AV} {l0 bs news : List Nat} {vc : Prop} {v : AV} {ws : List (Nat × Bx)}
    (hex : ∀ (w0 : World) (S : Scope) (n : Dom) (ι : Names) (a : Act) (w : World), RepS w0 S n s ι a w → ∃ vs : Array Value, (execOp a.eval o).run P w = .ok (.enter f vs) w ∧
      ∀ ι2 s2, s2.tm = s.tm → RepS w0 S n s2 ι2 a w → RepAVs w (Seen S w0.heap.size s2.bx ι2) ι2 s2.bx xs vs.toList)
    (hl0 : ∀ b ∈ dataRefs ms xs, b ∈ l0) (hbs : ∀ b ∈ rawNames ms xs, b ∈ bs)
    (hf : procOut P Γ f ms pin nnew xs l0 bs news (l0.map s.bx) (bs.map s.bx) (news.map s.bx) = some (vc, v, ws)) : Sound P o s vc v (ws.map (·.1)) (ws.map (·.2)) := by
  unfold procOut at hf
  split at hf
  · rename_i hok
    split at hf
    · rename_i ys hys
      split at hf
      · rename_i r hr0
        split at hf
        · rename_i hoo
          simp only [Option.some.injEq, Prod.mk.injEq] at hf
          obtain ⟨rfl, rfl, rfl⟩ := hf
          simp only [okNames, Bool.and_eq_true, List.all_eq_true, decide_eq_true_eq, Bool.not_eq_true', List.contains_eq_mem, decide_eq_false_iff_not] at hok
          obtain ⟨⟨⟨⟨⟨k1, k2⟩, k3⟩, k4⟩, k5⟩, k6⟩ := hok
          simp only [okOuts, Bool.and_eq_true, decide_eq_true_eq, List.all_eq_true] at hoo
          obtain ⟨⟨⟨q1, q2⟩, q3⟩, q4⟩ := hoo
          intro w0 S n ι a w K Q hr hans hK
          have knames : ∀ b ∈ bs, ∀ x ∈ (s.bx b).names, x ∈ bs := fun b hb x hx => k1 (s.bx b) (List.mem_map.2 ⟨b, hb, rfl⟩) x hx
          have kfresh : ∀ b ∈ news, (s.bx b).known = false := fun b hb => k6 (s.bx b) (List.mem_map.2 ⟨b, hb, rfl⟩)
          -- the state in which the rows that are data are seen
          have hr' := RepS.freezes hr l0 s (fun b => .inl rfl) hr
          generalize hs1 : s.setBs l0 (l0.map fun b => (s.bx b).freeze) = s1 at hr'
          have htm1 : s1.tm = s.tm := by rw [← hs1]; exact setBs_tm _ _ _
          have hbx1 : ∀ b, s1.bx b = if b ∈ l0 then (s.bx b).freeze else s.bx b := fun b => by rw [← hs1, setBs_map]
          have hbs1 : ∀ b ∈ bs, s1.bx b = s.bx b := fun b hb => by rw [hbx1, if_neg (fun h => (k2 b h).1 hb)]
          obtain ⟨vs, hrun, hvs⟩ := hex w0 S n ι a w hr
          have hargs := hvs ι s1 htm1 hr'
          obtain ⟨ιc, hιc⟩ : ∃ ιc : Names, ιc = fun j => if j < bs.length then ι (bs.getD j 0) else none := ⟨_, rfl⟩
          have hins : ∀ j, j < bs.length → boxes ((bs.map s.bx).map (Bx.ren (posOf bs))) j = (s.bx (bs.getD j 0)).ren (posOf bs) := fun j hj => by
            simp [boxes, List.getD_eq_getElem?_getD, List.getElem?_map, List.getElem?_eq_getElem hj]
          have hins' : ∀ j, ¬ j < bs.length → boxes ((bs.map s.bx).map (Bx.ren (posOf bs))) j = .fresh := fun j hj => by
            simp [boxes, List.getD_eq_getElem?_getD, List.getElem?_eq_none (Nat.le_of_not_lt hj)]
          have hmem : ∀ j, j < bs.length → bs.getD j 0 ∈ bs := fun j hj => by rw [getD_at _ _ hj]; exact List.getElem_mem hj
          generalize hIns : (bs.map s.bx).map (Bx.ren (posOf bs)) = ins at *
          -- names turned
          have hturn : ∀ b ∈ bs, Turns ι s1.bx ιc (boxes ins) (posOf bs) b := fun b hb hk => by
            have hlt := posOf_lt hb
            refine ⟨by rw [hιc]; simp only [if_pos hlt, posOf_at hb], ?_⟩
            rw [hins _ hlt, Bx.ren_known, posOf_at hb, ← hbs1 b hb]
            exact hk
          have hrow : ∀ b ∈ l0, ∀ zs, lookIn l0 (l0.map s.bx) b = some zs → Shows w (Seen S w0.heap.size s1.bx ι) ι b zs ∧ (ι b = none → zs = []) := by
            intro b hb zs hzs
            obtain ⟨hbr, hin⟩ := lookIn_map hzs
            have hb' := hr'.bx b
            have e1 : s1.bx b = (s.bx b).freeze := by rw [hbx1, if_pos hbr]
            have e2 : s1.bx b = .ice zs := by
              rw [e1]
              revert hin
              cases s.bx b <;> intro hin <;> simp only [inside, Option.some.injEq, reduceCtorEq] at hin <;> subst hin <;> rfl
            rw [e2] at hb'
            rcases hb' with ⟨g1, g2⟩ | ⟨g, cap, g1, g2, g3⟩
            · exact ⟨fun g c e => (by rw [g1] at e; cases e), fun _ => g2⟩
            · refine ⟨fun g' c e => ?_, fun e => (by rw [g1] at e; cases e)⟩
              rw [g1] at e
              simp only [Option.some.injEq, Prod.mk.injEq] at e
              obtain ⟨rfl, rfl⟩ := e
              exact ⟨g3, g2⟩
          have hlook : ∀ b zs, lookIn l0 (l0.map s.bx) b = some zs → b ∈ l0 := fun b zs hzs => (lookIn_map hzs).1
          have hargs2 : RepAVs w (Seen S w0.heap.size s1.bx ι) ιc (boxes ins) ys vs.toList := by
            have key : ∀ (ms : List Bool) (xs : List AV) (us : List Value) (ys : List AV), (∀ b ∈ rawNames ms xs, b ∈ bs) → argsP (lookIn l0 (l0.map s.bx)) (posOf bs) ms xs = some ys → RepAVs w (Seen S w0.heap.size s1.bx ι) ι s1.bx xs us → RepAVs w (Seen S w0.heap.size s1.bx ι) ιc (boxes ins) ys us := by
              intro ms
              induction ms with
              | nil =>
                intro xs us ys _ hy hu
                cases xs with
                | nil => simp only [argsP, Option.some.injEq] at hy; subst hy; cases us <;> simp only [RepAVs] at hu ⊢
                | cons x xs => cases hy
              | cons m ms ih =>
                intro xs us ys hb hy hu
                cases xs with
                | nil => cases hy
                | cons x xs =>
                  cases us with
                  | nil => simp only [RepAVs] at hu
                  | cons u us =>
                    simp only [RepAVs] at hu
                    simp only [argsP] at hy
                    cases h1 : argsP (lookIn l0 (l0.map s.bx)) (posOf bs) ms xs with
                    | none => rw [h1] at hy; cases hy
                    | some zs =>
                      rw [h1] at hy
                      have ih' := ih xs us zs (fun b hb' => hb b (by simp only [rawNames, List.mem_append]; exact .inr hb')) h1 hu.2
                      cases m with
                      | true =>
                        simp only at hy
                        split at hy
                        · rename_i hfl
                          cases h2 : x.rv (lookIn l0 (l0.map s.bx)) with
                          | none => rw [h2] at hy; cases hy
                          | some q =>
                            rw [h2] at hy
                            simp only [Option.map_some, Option.some.injEq] at hy
                            subst hy
                            simp only [RepAVs]
                            exact ⟨rep_av (rv_av (Keeps.refl _ _) hfl hu.1 (fun b hb' zs hzs => hrow b (hlook b zs hzs) zs hzs) h2), ih'⟩
                        · cases hy
                      | false =>
                        simp only [Option.some.injEq] at hy
                        subst hy
                        simp only [RepAVs]
                        refine ⟨hu.1.turn fun b hb' => hturn b (hb b ?_), ih'⟩
                        simp only [rawNames, cond_false, List.mem_append]
                        exact .inl hb'
            exact key ms xs vs.toList ys hbs hys hargs
          have hhanded : Handed_ w (Seen S w0.heap.size s1.bx ι) ιc ys ins vs.toList := by
            refine ⟨fun j g c hl e => ?_, fun j j' g c c' hl hl' hne e => ?_, fun j => ?_, hargs2⟩
            · by_cases hj : j < bs.length
              · rw [hins j hj, Bx.ren_live] at hl
                rw [hιc] at e
                simp only [if_pos hj] at e
                rw [← hbs1 _ (hmem j hj)] at hl
                exact ⟨fun hV => hV.2 _ _ hl e, (hr'.own _ g c hl e).2⟩
              · rw [hins' j hj] at hl; cases hl
            · by_cases hj : j < bs.length
              · by_cases hj' : j' < bs.length
                · rw [hins j hj, Bx.ren_live, ← hbs1 _ (hmem j hj)] at hl
                  rw [hins j' hj', Bx.ren_live, ← hbs1 _ (hmem j' hj')] at hl'
                  rw [hιc] at e ⊢
                  simp only [if_pos hj, if_pos hj'] at e ⊢
                  refine hr'.dist _ _ g c c' hl hl' (fun eq => hne ?_) e
                  have h1 := at_posOf k3 hj
                  have h2 := at_posOf k3 hj'
                  rw [← h1, ← h2, eq]
                · rw [hins' j' hj'] at hl'; cases hl'
              · rw [hins' j hj] at hl; cases hl
            · by_cases hj : j < bs.length
              · rw [hins j hj]
                have hb := hr'.bx (bs.getD j 0)
                rw [hbs1 _ (hmem j hj)] at hb
                exact hb.turn (by rw [hιc]; simp only [if_pos hj]) fun x hx => hturn x (knames _ (hmem j hj) x hx)
              · rw [hins' j hj]; trivial
          have hcall := hans w (Seen S w0.heap.size s1.bx ι) ιc vs hhanded
          unfold Oper.wp
          rw [hrun, Oper.upon_enter]
          refine hcall.mono fun ed w' hq => ?_
          obtain ⟨u, ι', rfl, ha⟩ := hq
          show K (a.put o.dst u) w'
          -- the state behind it
          obtain ⟨sB, hsB⟩ : ∃ sB : AS, sB = bif r.fresh then s else s1 := ⟨_, rfl⟩
          have hrB : RepS w0 S n sB ι a w := by rw [hsB]; cases r.fresh; exact hr'; exact hr
          have hBbs : ∀ b ∈ bs, sB.bx b = s.bx b := fun b hb => by rw [hsB]; cases r.fresh; exact hbs1 b hb; rfl
          have hBnews : ∀ b ∈ news, (sB.bx b).known = false := fun b hb => by
            rw [hsB]
            cases r.fresh
            · simp only [cond_false]
              rw [hbx1, if_neg (fun h => (k2 b h).2 hb)]; exact kfresh b hb
            · exact kfresh b hb
          have hBtm : sB.tm = s.tm := by rw [hsB]; cases r.fresh; exact htm1; rfl
          obtain ⟨bx2, hbx2⟩ : ∃ bx2 : Nat → Bx, bx2 = fun b => if posOf bs b < pin then (boxes r.outs (posOf bs b)).ren (sigma pin bs news) else if b ∈ bs then .gone else if b ∈ news then (boxes r.outs (pin + posOf news b)).ren (sigma pin bs news) else sB.bx b := ⟨_, rfl⟩
          have hset : s.setBs ((((bs ++ news ++ (bif r.fresh then [] else l0)).map fun b => (b, becomes pin l0 bs news (l0.map s.bx) r b))).map (·.1)) ((((bs ++ news ++ (bif r.fresh then [] else l0)).map fun b => (b, becomes pin l0 bs news (l0.map s.bx) r b))).map (·.2)) = ⟨sB.tm, bx2⟩ := by
            have e1 : (((bs ++ news ++ (bif r.fresh then [] else l0)).map fun b => (b, becomes pin l0 bs news (l0.map s.bx) r b))).map (·.1) = bs ++ news ++ (bif r.fresh then [] else l0) := by simp [List.map_map, Function.comp_def]
            have e2 : (((bs ++ news ++ (bif r.fresh then [] else l0)).map fun b => (b, becomes pin l0 bs news (l0.map s.bx) r b))).map (·.2) = (bs ++ news ++ (bif r.fresh then [] else l0)).map (becomes pin l0 bs news (l0.map s.bx) r) := by simp [List.map_map, Function.comp_def]
            rw [e1, e2]
            refine AS.ext' (by rw [setBs_tm, hBtm]) ?_
            funext b
            rw [setBs_map, hbx2]
            simp only [becomes, List.contains_eq_mem, decide_eq_true_eq, List.mem_append]
            by_cases g1 : posOf bs b < pin
            · have : b ∈ bs := posOf_mem (by omega)
              simp [g1, this]
            · by_cases g2 : b ∈ bs
              · simp [g1, g2]
              · by_cases g3 : b ∈ news
                · simp [g1, g2, g3]
                · simp only [g1, g2, g3, false_or, if_false]
                  rw [hsB]
                  cases hfr : r.fresh with
                  | true => simp
                  | false =>
                    simp only [cond_false]
                    rw [hbx1]
                    by_cases g4 : b ∈ l0
                    · simp only [g4, if_true]
                      congr 1
                      have hlt := posOf_lt g4
                      have hat := posOf_at g4
                      rw [getD_at _ _ hlt] at hat
                      rw [getD_at _ _ (by simpa using hlt), List.getElem_map, hat]
                    · simp only [g4, if_false]
          rw [hset] at hK
          -- turned boxes
          obtain ⟨ι2, hι2⟩ : ∃ ι2 : Names, ι2 = fun b => if b ∈ news then ι' (pin + posOf news b) else ι b := ⟨_, rfl⟩
          obtain ⟨J, hJ⟩ : ∃ J : Nat → Nat, J = fun b => if posOf bs b < pin then posOf bs b else pin + posOf news b := ⟨_, rfl⟩
          have hpin : ∀ b, posOf bs b < pin → b ∈ bs ∧ b ∉ news ∧ ι b = ι' (posOf bs b) := fun b hb => by
            have hm : b ∈ bs := posOf_mem (by omega)
            refine ⟨hm, fun hn => k5 b hn hm, ?_⟩
            have := ha.pin _ hb
            rw [this, hιc]
            simp only [if_pos (posOf_lt hm), posOf_at hm]
          have hT : ∀ b, (posOf bs b < pin ∨ b ∈ news) → bx2 b = (boxes r.outs (J b)).ren (sigma pin bs news) ∧ ι2 b = ι' (J b) ∧ J b < pin + nnew := fun b hb => by
            by_cases g1 : posOf bs b < pin
            · obtain ⟨m1, m2, m3⟩ := hpin b g1
              rw [hbx2, hJ, hι2]
              simp only [if_pos g1, if_neg m2]
              exact ⟨trivial, m3, by omega⟩
            · have hn : b ∈ news := hb.resolve_left g1
              have m2 : b ∉ bs := fun h => k5 b hn h
              rw [hbx2, hJ, hι2]
              simp only [if_neg g1, if_neg m2, if_pos hn]
              have := posOf_lt hn
              exact ⟨trivial, trivial, by omega⟩
          have hU : ∀ b, ¬ (posOf bs b < pin ∨ b ∈ news) → ι2 b = ι b ∧ (bx2 b = .gone ∨ (b ∉ bs ∧ bx2 b = sB.bx b)) := fun b hb => by
            have h1 : ¬ posOf bs b < pin := fun h => hb (.inl h)
            have h2 : b ∉ news := fun h => hb (.inr h)
            rw [hι2, hbx2]
            simp only [if_neg h1, if_neg h2]
            refine ⟨trivial, ?_⟩
            by_cases h3 : b ∈ bs
            · left; rw [if_pos h3]
            · right; exact ⟨h3, by rw [if_neg h3]⟩
          have hJinj : ∀ b b', (posOf bs b < pin ∨ b ∈ news) → (posOf bs b' < pin ∨ b' ∈ news) → J b = J b' → b = b' := fun b b' hb hb' e => by
            rw [hJ] at e
            by_cases g1 : posOf bs b < pin
            · by_cases g1' : posOf bs b' < pin
              · simp only [if_pos g1, if_pos g1'] at e
                have e1 := posOf_at (hpin b g1).1
                have e2 := posOf_at (hpin b' g1').1
                rw [← e1, ← e2, e]
              · simp only [if_pos g1, if_neg g1'] at e; omega
            · by_cases g1' : posOf bs b' < pin
              · simp only [if_neg g1, if_pos g1'] at e; omega
              · simp only [if_neg g1, if_neg g1'] at e
                have e1 := posOf_at (hb.resolve_left g1)
                have e2 := posOf_at (hb'.resolve_left g1')
                rw [← e1, ← e2]
                congr 1
                omega
          have hOwnIns : ∀ g, OwnB (boxes ins) ιc g → ∃ b c, b ∈ bs ∧ (s.bx b).live = true ∧ ι b = some (g, c) := fun g ⟨j, c, hl, e⟩ => by
            by_cases hj : j < bs.length
            · rw [hins j hj, Bx.ren_live] at hl
              rw [hιc] at e
              simp only [if_pos hj] at e
              exact ⟨_, c, hmem j hj, hl, e⟩
            · rw [hins' j hj] at hl; cases hl
          -- a live box that is none of the turned ones
          have hout : ∀ b, ¬ (posOf bs b < pin ∨ b ∈ news) → (bx2 b).live = true → b ∉ bs ∧ bx2 b = sB.bx b ∧ (sB.bx b).live = true ∧ ι2 b = ι b := fun b hb hl => by
            obtain ⟨h1, h2⟩ := hU b hb
            rcases h2 with h2 | ⟨h2, h3⟩
            · rw [h2] at hl; cases hl
            · exact ⟨h2, h3, by rw [← h3]; exact hl, h1⟩
          have hout2 : ∀ b g c, b ∉ bs → (sB.bx b).live = true → ι b = some (g, c) → ¬ OwnB (boxes ins) ιc g := fun b g c hb hl e hO => by
            obtain ⟨b', c', m, hl', e'⟩ := hOwnIns g hO
            exact hrB.dist b b' g c c' hl (by rw [hBbs b' m]; exact hl') (fun h => hb (by rw [h]; exact m)) e e'
          have hliveT : ∀ b, (posOf bs b < pin ∨ b ∈ news) → (bx2 b).live = true → (boxes r.outs (J b)).live = true := fun b hb hl => by
            rw [(hT b hb).1, Bx.ren_live] at hl; exact hl
          -- who sees what
          have hK1 : Keeps w' (Behind w (Seen S w0.heap.size s1.bx ι) ιc ins r ι') w' (Seen S w0.heap.size bx2 ι2) := by
            intro g off x hV hx
            obtain ⟨hV1, hV2⟩ := hV
            refine ⟨⟨?_, fun b c hl e => ?_⟩, hx⟩
            · rcases hV1 with ⟨_, hV1⟩ | hV1 | hV1
              · exact hV1.1
              · exact .inr (.inl (Nat.le_trans hr.bel.size hV1))
              · obtain ⟨b', c', m, hl', e'⟩ := hOwnIns g hV1
                exact .inr (hr.own b' g c' hl' e').1
            · by_cases hb : posOf bs b < pin ∨ b ∈ news
              · exact hV2 ⟨J b, c, hliveT b hb hl, by rw [← (hT b hb).2.1]; exact e⟩
              · obtain ⟨o1, o2, o3, o4⟩ := hout b hb hl
                rw [o4] at e
                rcases hV1 with ⟨hfr, hV1⟩ | hV1 | hV1
                · have : sB = s1 := by rw [hsB, hfr]; rfl
                  rw [this] at o3
                  exact hV1.2 b c o3 e
                · have := (hrB.own b g c o3 e).2
                  omega
                · exact hout2 b g c o1 o3 e hV1
          have hK2 : Keeps w (Seen S w0.heap.size sB.bx ι) w' (Seen S w0.heap.size bx2 ι2) := by
            intro g off x hV hx
            have hlt : g < w.heap.size := World.block_lt_of_cell? w _ hx
            have hno : ¬ OwnB (boxes ins) ιc g := fun hO => by
              obtain ⟨b', c', m, hl', e'⟩ := hOwnIns g hO
              exact hV.2 b' c' (by rw [hBbs b' m]; exact hl') e'
            refine ⟨⟨hV.1, fun b c hl e => ?_⟩, by rw [← hx]; simp [World.cell?, ha.bel.block g hlt hno]⟩
            by_cases hb : posOf bs b < pin ∨ b ∈ news
            · rw [(hT b hb).2.1] at e
              rcases (ha.own _ g c (hliveT b hb hl) e).1 with h1 | h1
              · omega
              · exact hno h1
            · obtain ⟨o1, o2, o3, o4⟩ := hout b hb hl
              rw [o4] at e
              exact hV.2 b c o3 e
          have hsig : ∀ x, x < pin + nnew → (posOf bs (sigma pin bs news x) < pin ∨ sigma pin bs news x ∈ news) ∧ J (sigma pin bs news x) = x := fun x hx => by
            unfold sigma
            by_cases hxp : x < pin
            · simp only [if_pos hxp]
              have h1 := at_posOf k3 (show x < bs.length by omega)
              refine ⟨.inl (by rw [h1]; exact hxp), ?_⟩
              rw [hJ]
              simp only [h1, if_pos hxp]
            · simp only [if_neg hxp]
              have hlt : x - pin < news.length := by omega
              have hm : news.getD (x - pin) 0 ∈ news := by rw [getD_at _ _ hlt]; exact List.getElem_mem hlt
              have h1 := at_posOf k4 hlt
              refine ⟨.inr hm, ?_⟩
              rw [hJ]
              have h2 : ¬ posOf bs (news.getD (x - pin) 0) < pin := fun h => (hpin _ h).2.1 hm
              simp only [if_neg h2, h1]
              omega
          have hkn : ∀ x, (boxes r.outs x).known = true → x < pin + nnew := fun x hx => by
            rcases Nat.lt_or_ge x (pin + nnew) with h | h
            · exact h
            · have : boxes r.outs x = .fresh := by
                simp [boxes, List.getD_eq_getElem?_getD, List.getElem?_eq_none (show r.outs.length ≤ x by omega)]
              rw [this] at hx; cases hx
          have hturn2 : ∀ x, Turns ι' (boxes r.outs) ι2 bx2 (sigma pin bs news) x := fun x hx => by
            obtain ⟨h1, h2⟩ := hsig x (hkn x hx)
            obtain ⟨t1, t2, _⟩ := hT _ h1
            rw [h2] at t1 t2
            exact ⟨t2, by rw [t1, Bx.ren_known]; exact hx⟩
          have hR : RepS w0 S n ⟨sB.tm, bx2⟩ ι2 a w' := by
            refine hrB.move (bx' := bx2) ⟨ha.bel.os.trans hr.bel.os, ha.bel.tape.trans hr.bel.tape, ha.bel.output.trans hr.bel.output, Nat.le_trans hr.bel.size ha.bel.size, fun g hg hl => ?_⟩ (keeps_same ha.bel.size fun k o hk ho => ha.bel.block k (Array.getElem?_eq_some_iff.1 hk).1 fun hO => ?_) (fun b hb => ?_) hK2 (fun b => ?_) (fun b g c hl e => ?_) (fun b b' g c c' hl hl' hbb e => ?_)
            · have hlt := Nat.lt_of_lt_of_le hg hr.bel.size
              refine (ha.bel.block g hlt fun hO => ?_).trans (hr.bel.block g hg hl)
              obtain ⟨b', c', m, hl', e'⟩ := hOwnIns g hO
              rcases (hr.own b' g c' hl' e').1 with h1 | h1
              · omega
              · exact hl h1
            · obtain ⟨b', c', m, hl', e'⟩ := hOwnIns k hO
              obtain ⟨cur, T, i, hc⟩ := hr.live_cells hl' e'
              rw [hc] at hk
              injection hk with hk
              subst hk
              cases ho
            · by_cases h1 : posOf bs b < pin ∨ b ∈ news
              · rcases h1 with h1 | h1
                · obtain ⟨m1, m2, m3⟩ := hpin b h1
                  obtain ⟨t1, t2, t3⟩ := hT b (.inl h1)
                  refine ⟨?_, ?_⟩
                  · rw [t1, Bx.ren_known, hJ]
                    simp only [if_pos h1]
                    have hlt : posOf bs b < r.outs.length := by omega
                    have := q4 (r.outs[posOf bs b]) (by rw [List.mem_take_iff_getElem]; exact ⟨posOf bs b, by omega, rfl⟩)
                    simpa [boxes, List.getD_eq_getElem?_getD, List.getElem?_eq_getElem hlt] using this
                  · rw [hι2]; simp only [if_neg m2]
                · rw [hBnews b h1] at hb; cases hb
              · obtain ⟨h2, h3⟩ := hU b h1
                refine ⟨?_, h2⟩
                rcases h3 with h3 | ⟨_, h3⟩
                · rw [h3]; rfl
                · rw [h3]; exact hb
            · by_cases h1 : posOf bs b < pin ∨ b ∈ news
              · right
                obtain ⟨t1, t2, t3⟩ := hT b h1
                rw [t1]
                exact ((ha.bx (J b)).turn t2 fun x hx => hturn2 x).seen hK1
              · obtain ⟨h2, h3⟩ := hU b h1
                rcases h3 with h3 | ⟨h4, h3⟩
                · right; rw [h3]; trivial
                · left
                  exact ⟨h3, fun hl g c e => ha.bel.block g (hrB.own b g c hl e).2 (hout2 b g c h4 hl e)⟩
            · by_cases h1 : posOf bs b < pin ∨ b ∈ news
              · have := ha.own _ g c (hliveT b h1 hl) (by rw [← (hT b h1).2.1]; exact e)
                refine ⟨?_, this.2⟩
                rcases this.1 with h2 | h2
                · exact .inl (Nat.le_trans hr.bel.size h2)
                · obtain ⟨b', c', m, hl', e'⟩ := hOwnIns g h2
                  exact (hr.own b' g c' hl' e').1
              · obtain ⟨o1, o2, o3, o4⟩ := hout b h1 hl
                rw [o4] at e
                have := hrB.own b g c o3 e
                exact ⟨this.1, Nat.lt_of_lt_of_le this.2 ha.bel.size⟩
            · have cross : ∀ x y gg cx cy, (posOf bs x < pin ∨ x ∈ news) → ¬ (posOf bs y < pin ∨ y ∈ news) → (bx2 x).live = true → (bx2 y).live = true → ι2 x = some (gg, cx) → ι2 y ≠ some (gg, cy) := by
                intro x y gg cx cy hx hy hlx hly ex ey
                obtain ⟨o1, o2, o3, o4⟩ := hout y hy hly
                rw [o4] at ey
                rcases (ha.own _ gg cx (hliveT x hx hlx) (by rw [← (hT x hx).2.1]; exact ex)).1 with h2 | h2
                · have := (hrB.own y gg cy o3 ey).2
                  omega
                · exact hout2 y gg cy o1 o3 ey h2
              by_cases h1 : posOf bs b < pin ∨ b ∈ news
              · by_cases h1' : posOf bs b' < pin ∨ b' ∈ news
                · rw [(hT b h1).2.1] at e
                  rw [(hT b' h1').2.1]
                  exact ha.dist _ _ g c c' (hliveT b h1 hl) (hliveT b' h1' hl') (fun eq => hbb (hJinj b b' h1 h1' eq)) e
                · exact cross b b' g c c' h1 h1' hl hl' e
              · by_cases h1' : posOf bs b' < pin ∨ b' ∈ news
                · exact fun e' => cross b' b g c' c h1' h1 hl' hl e' e
                · obtain ⟨o1, o2, o3, o4⟩ := hout b h1 hl
                  obtain ⟨p1, p2, p3, p4⟩ := hout b' h1' hl'
                  rw [o4] at e
                  rw [p4]
                  exact hrB.dist b b' g c c' o3 p3 hbb e
          exact hK ι2 u w' hR ((ha.rep.turn fun x _ => hturn2 x).keep (fun b hb => ⟨hb, rfl⟩) hK1)
        · cases hf
      · cases hf
    · cases hf
  · cases hf
end
end Go.Proofs.Ytoljdijpmnadpaa
