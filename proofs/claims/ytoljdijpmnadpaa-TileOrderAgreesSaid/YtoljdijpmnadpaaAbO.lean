/-
  A function's statement suffices: it answers as it says.
-/
import Derived.Test.YtoljdijpmnadpaaAbN
namespace Go.Proofs.Ytoljdijpmnadpaa
open Go.RowKit
set_option linter.unusedVariables false
set_option linter.unusedSimpArgs false

def AExit.exit_ : AExit → Exit
  | .normal => .normal
  | .exit id => .exit id
  | .ret => .ret

section
variable {P : Program} {Γ : FuncId → List RV → Option RV} {n : Nat}
theorem kn0_ok (s : AS) : KnOK kn0 s := fun _ _ h => by cases h
theorem vcRun_wp {id : Nat} {ops : Array Oper} {draw : Bool} {kn : Kn} {s : AS} {Q : AExit → Kn → AS → Prop} (hm : P.follows .mixedOrders = true) (h : vcRun P Γ n ops (List.range ops.size) kn s [] fun kn' s' acc => match draw with
    | true => regOK ops (fun i => acc.reverse.getD i ([], [])) = true ∧ Q .normal kn' s'
    | false => Q .normal kn' s') (hk : KnOK kn s) {w0 : World} {S : Nat → Prop} {ι : Names} {a : Act} {w : World} (hr : RepS w0 S n s ι a w) {Q' : Exit → Act → World → Prop}
    (hQ : ∀ e kn' s' ι' a' w', Q e kn' s' → KnOK kn' s' → RepS w0 S n s' ι' a' w' → Q' e.exit_ a' w') : (Code.region id ops draw).wp P Q' a w := by
  obtain ⟨kn', s', ts, h1, h2, h3, h4⟩ := vcRun_runs h hk
  have hτ : ∀ (k i : Nat), (List.range ops.size)[k]? = some i → (fun i => (ts.reverse ++ []).reverse.getD i ([], [])) i = ts.getD k ([], []) := fun k i hi => by
    have : k = i := by
      have hlt := (List.getElem?_eq_some_iff.1 hi).1
      simp at hlt
      simp [hlt] at hi
      exact hi
    subst this
    simp
  have hruns := h4 _ hτ
  cases draw with
  | false =>
    simp only at h1
    exact wp_region (runs_wpOps hruns hr fun ι' a' w' hr' => hQ .normal kn' s' ι' a' w' h1 h2 hr')
  | true =>
    simp only at h1
    obtain ⟨hok, h1⟩ := h1
    refine wp_region_any hm ?_
    have hleft : left ops (Array.replicate ops.size false) = List.range ops.size := by
      unfold left
      rw [List.filter_eq_self]
      intro i hi
      have : i < ops.size := List.mem_range.1 hi
      simp [Array.getD, this]
    have hr1 : RepS w0 S n s ι a { w with drawn := w.drawn + 1 } := hr.quiet ⟨hr.bel.os, hr.bel.tape, hr.bel.output, hr.bel.size, hr.bel.block⟩ rfl
    exact runs_any hok (fun ι' a' w' hr' => hQ .normal kn' s' ι' a' w' h1 h2 hr') ops.size _ s ι a _ (by simp) (by rw [hleft]; simp) (by rw [hleft]; exact hruns) hr1
theorem vcg_sound (hm : P.follows .mixedOrders = true) : ∀ (c : Code) (ann : Ann) (kn : Kn) (s : AS) (Q : AExit → Kn → AS → Prop), vcg P Γ n c ann kn s Q → KnOK kn s → ∀ (w0 : World) (S : Nat → Prop) (ι : Names) (a : Act) (w : World), RepS w0 S n s ι a w →
    ∀ (Q' : Exit → Act → World → Prop), (∀ e kn' s' ι' a' w', Q e kn' s' → KnOK kn' s' → RepS w0 S n s' ι' a' w' → Q' e.exit_ a' w') → c.wp P Q' a w
  | .skip, _, kn, s, Q, h, hk, w0, S, ι, a, w, hr, Q', hQ => wp_skip (hQ .normal kn s ι a w h hk hr)
  | .label _, _, kn, s, Q, h, hk, w0, S, ι, a, w, hr, Q', hQ => wp_label (hQ .normal kn s ι a w h hk hr)
  | .exit id, _, kn, s, Q, h, hk, w0, S, ι, a, w, hr, Q', hQ => wp_exit (hQ (.exit id) kn s ι a w h hk hr)
  | .ret, _, kn, s, Q, h, hk, w0, S, ι, a, w, hr, Q', hQ => wp_ret (hQ .ret kn s ι a w h hk hr)
  | .region id ops draw, _, kn, s, Q, h, hk, w0, S, ι, a, w, hr, Q', hQ => vcRun_wp hm h hk hr hQ
  | .seq x y, ann, kn, s, Q, h, hk, w0, S, ι, a, w, hr, Q', hQ => by
    simp only [vcg] at h
    refine wp_seq ?_
    split at h
    · rename_i I a' b
      obtain ⟨h1, h2⟩ := h
      refine vcg_sound hm x a' kn s _ h1 hk w0 S ι a w hr _ fun e kn' s' ι' a' w' hq hk' hr' => ?_
      cases e with
      | normal =>
        obtain ⟨z, hz, hf⟩ := hq
        obtain ⟨ι2, hr2⟩ := hr'.fit hf
        exact vcg_sound hm y (b z) kn0 _ Q (h2 z hz) (kn0_ok _) w0 S ι2 a' w' hr2 Q' hQ
      | exit id => exact hQ (.exit id) kn' s' ι' a' w' hq hk' hr'
      | ret => exact hQ .ret kn' s' ι' a' w' hq hk' hr'
    · refine vcg_sound hm x ann.l kn s _ h hk w0 S ι a w hr _ fun e kn' s' ι' a' w' hq hk' hr' => ?_
      cases e with
      | normal => exact vcg_sound hm y ann.r kn' s' Q hq hk' w0 S ι' a' w' hr' Q' hQ
      | exit id => exact hQ (.exit id) kn' s' ι' a' w' hq hk' hr'
      | ret => exact hQ .ret kn' s' ι' a' w' hq hk' hr'
  | .cond c x y, ann, kn, s, Q, h, hk, w0, S, ι, a, w, hr, Q', hQ => by
    simp only [vcg] at h
    split at h
    · rename_i hc
      exact wp_cond_true (rep_bool (hr.eval c) (kx_ok hk hc)) (vcg_sound hm x ann.l kn s Q h hk w0 S ι a w hr Q' hQ)
    · rename_i hc
      exact wp_cond_false (rep_bool (hr.eval c) (kx_ok hk hc)) (vcg_sound hm y ann.r kn s Q h hk w0 S ι a w hr Q' hQ)
    · split at h
      · rename_i b hc
        exact wp_cond_split (rep_bool (hr.eval c) hc) (fun hb => vcg_sound hm x ann.l kn s Q (h.1 hb) hk w0 S ι a w hr Q' hQ) (fun hb => vcg_sound hm y ann.r kn s Q (h.2 hb) hk w0 S ι a w hr Q' hQ)
      · exact h.elim
  | .block id c, ann, kn, s, Q, h, hk, w0, S, ι, a, w, hr, Q', hQ => by
    simp only [vcg] at h
    refine wp_block (vcg_sound hm c ann kn s _ h hk w0 S ι a w hr _ fun e kn' s' ι' a' w' hq hk' hr' => ?_)
    cases e with
    | normal => exact hQ .normal kn' s' ι' a' w' hq hk' hr'
    | exit id' =>
      simp only at hq
      simp only [AExit.exit_, Exit.inBlock]
      by_cases e : id' = id
      · rw [if_pos e]
        simp only [e, decide_true] at hq
        exact hQ .normal kn' s' ι' a' w' hq hk' hr'
      · rw [if_neg e]
        simp only [e, decide_false] at hq
        exact hQ (.exit id') kn' s' ι' a' w' hq hk' hr'
    | ret => exact hQ .ret kn' s' ι' a' w' hq hk' hr'
  | .loop c, ann, kn, s, Q, h, hk, w0, S, ι, a, w, hr, Q', hQ => by
    simp only [vcg] at h
    split at h
    · rename_i I a'
      obtain ⟨⟨z, hz, hf⟩, h2⟩ := h
      obtain ⟨ι2, hr2⟩ := hr.fit hf
      refine wp_loop_ghost (fun m a w => ∃ z ι, I.ok z ∧ I.μ z = m ∧ RepS w0 S n (I.st z).as ι a w) (I.μ z) ⟨z, ι2, hz, rfl, hr2⟩ fun m a w hI => ?_
      obtain ⟨z, ι, hz, rfl, hr⟩ := hI
      refine vcg_sound hm c (a' z) kn0 _ _ (h2 z hz) (kn0_ok _) w0 S ι a w hr _ fun e kn' s' ι' a' w' hq hk' hr' => ?_
      cases e with
      | normal =>
        obtain ⟨y, hy, hlt, hf⟩ := hq
        obtain ⟨ι3, hr3⟩ := hr'.fit hf
        exact ⟨I.μ y, hlt, y, ι3, hy, rfl, hr3⟩
      | exit id => exact hQ (.exit id) kn' s' ι' a' w' hq hk' hr'
      | ret => exact hQ .ret kn' s' ι' a' w' hq hk' hr'
    · exact h.elim
  | .rangeFunc _ _ _ _, _, _, _, _, h, _, _, _, _, _, _, _, _, _ => by simp only [vcg] at h
  | .scope _, _, _, _, _, h, _, _, _, _, _, _, _, _, _ => by simp only [vcg] at h
  | .goto _, _, _, _, _, h, _, _, _, _, _, _, _, _, _ => by simp only [vcg] at h
  | .refuse _, _, _, _, _, h, _, _, _, _, _, _, _, _, _ => by simp only [vcg] at h
end

/-! ### what is returned -/
def resAV (P : Program) (s : AS) : ResultVar → Option AV
  | .tmp t => some (s.tm t)
  | .cell t ty => match s.tm t with
    | .one (.ptr b off) => match s.bx b, kindOf P ty with
      | .cells cs, some (g, k) => if off + k ≤ cs.length then aggOr g ((cs.drop off).take k) else none
      | _, _ => none
    | _ => none
def resAVs (P : Program) (s : AS) : List ResultVar → Option (List AV)
  | [] => some []
  | r :: rs => match resAV P s r, resAVs P s rs with
    | some v, some vs => some (v :: vs)
    | _, _ => none
/-- what a call returns, as data -/
def resRV (P : Program) (s : AS) (rs : List ResultVar) : Option RV :=
  match resAVs P s rs with
  | some xs => if xs.all AV.flat then match AV.rvs (fun b => inside (s.bx b)) xs with
    | some [r] => some r
    | some l => some (.tup l)
    | none => none else none
  | none => none
def post (P : Program) (rs : List ResultVar) (R : RV → Prop) : AExit → Kn → AS → Prop
  | .exit _, _, _ => False
  | _, _, s => match resRV P s rs with
    | some r => R r
    | none => False
def start (args : List RV) : AS := ⟨fun t => match args[t]? with
  | some r => r.av
  | none => .tup [], fun _ => .fresh⟩

mutual
def DV.wf : DV → Prop
  | .int k n => k.min ≤ n ∧ n ≤ k.max
  | .bool _ => True
  | .str s => s.size ≤ maxLen
  | .sl n xs => n ≤ maxLen ∧ DV.wfs xs
def DV.wfs : List DV → Prop
  | [] => True
  | x :: xs => x.wf ∧ DV.wfs xs
end
mutual
def RV.wf : RV → Prop
  | .d x => x.wf
  | .agg xs => DV.wfs xs
  | .tup xs => RV.wfs xs
def RV.wfs : List RV → Prop
  | [] => True
  | x :: xs => x.wf ∧ RV.wfs xs
end
section
variable {w : World} {V : Nat → Prop}
mutual
theorem RepD.wf : ∀ {d : DV} {v : Value}, RepD w V d v → d.wf
  | .int k n, v, h => by simp only [RepD] at h; simp only [DV.wf]; exact (inK_iff _ _).1 h.2
  | .bool _, _, _ => by simp only [DV.wf]
  | .str s, v, h => by simp only [RepD] at h; simp only [DV.wf]; exact h.2
  | .sl n xs, v, h => by
    simp only [RepD] at h
    obtain ⟨A, cap, _, h1, h2, h3⟩ := h
    simp only [DV.wf]
    refine ⟨Nat.le_trans h1 h2, ?_⟩
    cases xs with
    | nil => simp only [DV.wfs]
    | cons d ds =>
      obtain ⟨g, off, _, _, hc⟩ := h3 (by simp)
      exact RepCells.wf hc
theorem RepCells.wf : ∀ {xs : List DV} {g off : Nat}, RepCells w V xs g off → DV.wfs xs
  | [], _, _, _ => by simp only [DV.wfs]
  | d :: ds, g, off, h => by
    simp only [RepCells] at h
    obtain ⟨⟨u, _, hd⟩, hr⟩ := h
    simp only [DV.wfs]
    exact ⟨RepD.wf hd, RepCells.wf hr⟩
end
theorem RepDs.wf : ∀ {ds : List DV} {vs : List Value}, RepDs w V ds vs → DV.wfs ds
  | [], [], _ => by simp only [DV.wfs]
  | _ :: _, _ :: _, h => by simp only [DV.wfs]; exact ⟨h.1.wf, RepDs.wf h.2⟩
  | [], _ :: _, h => h.elim
  | _ :: _, [], h => h.elim
mutual
theorem RepR.wf : ∀ {r : RV} {v : Value}, RepR w V r v → r.wf
  | .d x, v, h => by simp only [RepR] at h; simp only [RV.wf]; exact h.wf
  | .agg xs, v, h => by simp only [RepR] at h; obtain ⟨cs, _, h⟩ := h; simp only [RV.wf]; exact h.wf
  | .tup xs, v, h => by simp only [RepR] at h; obtain ⟨vs, _, h⟩ := h; simp only [RV.wf]; exact RepRs.wf h
theorem RepRs.wf : ∀ {rs : List RV} {vs : List Value}, RepRs w V rs vs → RV.wfs rs
  | [], [], _ => by simp only [RV.wfs]
  | _ :: _, _ :: _, h => by simp only [RepRs] at h; simp only [RV.wfs]; exact ⟨RepR.wf h.1, RepRs.wf h.2⟩
  | [], _ :: _, h => by simp only [RepRs] at h
  | _ :: _, [], h => by simp only [RepRs] at h
end
end

theorem repRs_len {w : World} {V : Nat → Prop} : ∀ {rs : List RV} {vs : List Value}, RepRs w V rs vs → rs.length = vs.length
  | [], [], _ => rfl
  | _ :: _, _ :: _, h => by simp only [RepRs] at h; simp [repRs_len h.2]
  | [], _ :: _, h => by simp only [RepRs] at h
  | _ :: _, [], h => by simp only [RepRs] at h
theorem repRs_at {w : World} {V : Nat → Prop} : ∀ {rs : List RV} {vs : List Value}, RepRs w V rs vs → ∀ (i : Nat) r, rs[i]? = some r → ∃ v, vs[i]? = some v ∧ RepR w V r v
  | r :: rs, v :: vs, h, 0, r', hr => by simp only [RepRs] at h; simp at hr; subst hr; exact ⟨v, rfl, h.1⟩
  | r :: rs, v :: vs, h, i + 1, r', hr => by simp only [RepRs] at h; simpa using repRs_at h.2 i r' (by simpa using hr)
  | [], _, _, i, r, hr => by simp at hr
  | _ :: _, [], h, _, _, _ => by simp only [RepRs] at h

theorem run_mapM_opt {P : Program} {α β : Type} (f : α → Sem β) (w : World) : ∀ (l : List α) (us : List β), l.length = us.length → (∀ (i : Nat) x u, l[i]? = some x → us[i]? = some u → (f x).run P w = .ok u w) → (l.mapM f).run P w = .ok us w
  | [], [], _, _ => by simp
  | x :: l, u :: us, hl, h => by
    rw [List.mapM_cons]
    simp only [Sem.run_bind, h 0 x u rfl rfl, Result.andThen_ok, run_mapM_opt f w l us (by simpa using hl) (fun i x' u' h1 h2 => h (i + 1) x' u' (by simpa using h1) (by simpa using h2)), Sem.run_pure]
  | [], _ :: _, hl, _ => by simp at hl
  | _ :: _, [], hl, _ => by simp at hl

def resOne (tmps : Array Value) : ResultVar → Sem Value
  | .tmp t => pure (tmps.getD t undef)
  | .cell c t => do loadVar t (← asAddr (tmps.getD c undef))
theorem results_eq (fn : Func) (tmps : Array Value) : results fn tmps = (do let vs ← fn.results.mapM (resOne tmps); pure (if h : vs.size = 1 then vs[0] else .tuple vs)) := by
  unfold results
  refine congrArg (fun f : ResultVar → Sem Value => (do let vs ← fn.results.mapM f; pure (if h : vs.size = 1 then vs[0] else .tuple vs) : Sem Value)) ?_
  funext x
  cases x <;> rfl
theorem res_run {P : Program} {fn : Func} {w0 : World} {S : Nat → Prop} {n : Nat} {s : AS} {ι : Names} {a : Act} {w : World} (h : RepS w0 S n s ι a w) {r : RV} (hr : resRV P s fn.results.toList = some r) :
    ∃ v, (results fn a.tmps).run P w = .ok v w ∧ RepR w (fun g => S g ∨ w0.heap.size ≤ g) r v := by
  unfold resRV at hr
  split at hr
  · rename_i xs hxs
    split at hr
    · rename_i hflat
      -- each result's value
      have key : ∀ (rs : List ResultVar) (xs : List AV), resAVs P s rs = some xs → ∃ us : List Value, rs.length = us.length ∧ (∀ (i : Nat) x u, rs[i]? = some x → us[i]? = some u → (resOne a.tmps x).run P w = .ok u w) ∧
          RepAVs w (Seen S w0.heap.size s.bx ι) ι s.bx xs us := by
        intro rs
        induction rs with
        | nil => intro xs h; simp only [resAVs, Option.some.injEq] at h; subst h; exact ⟨[], rfl, fun i x u h => by simp at h, by simp only [RepAVs]⟩
        | cons rv rs ih =>
          intro xs hx
          simp only [resAVs] at hx
          cases h1 : resAV P s rv with
          | none => rw [h1] at hx; cases hx
          | some v =>
            cases h2 : resAVs P s rs with
            | none => rw [h1, h2] at hx; cases hx
            | some vs =>
              rw [h1, h2] at hx
              simp only [Option.some.injEq] at hx
              subst hx
              obtain ⟨us, l1, l2, l3⟩ := ih vs h2
              have h0 : ∃ u, (resOne a.tmps rv).run P w = .ok u w ∧ RepAV w (Seen S w0.heap.size s.bx ι) ι s.bx v u := by
                cases rv with
                | tmp t =>
                  simp only [resAV, Option.some.injEq] at h1
                  subst h1
                  exact ⟨_, rfl, h.tm t⟩
                | cell c ty =>
                  simp only [resAV] at h1
                  split at h1
                  · rename_i b off hc
                    split at h1
                    · rename_i cs g k hB hk
                      split at h1
                      · rename_i hle
                        have hv := h.tm c
                        rw [hc] at hv
                        obtain ⟨_, g', c', hι, ev⟩ := known_of hv
                        have hb := h.bx b
                        rw [hB] at hb
                        obtain ⟨g2, c2, cur, T, e1, e2, e3⟩ := hb
                        rw [e1] at hι
                        simp only [Option.some.injEq, Prod.mk.injEq] at hι
                        obtain ⟨rfl, rfl⟩ := hι
                        have hp := rep_aggOr (rep_cls_part e3 off k) h1
                        have hlen := rep_cls_len e3
                        have hk' : kindOf P ty = some (g, ((cur.toList.drop off).take k).length) := by
                          rw [hk]; congr 2; simp at hlen ⊢; omega
                        have hrun := run_loadVar_of (P := P) hk' (w := w) (b := g2) (o := off) (fun j u hj => by
                          rw [cell_of_row w g2 (off + j) cur T (0, 0) e2]
                          rw [List.getElem?_take] at hj
                          split at hj
                          · simpa using hj
                          · cases hj)
                        refine ⟨_, ?_, hp.1⟩
                        simp only [resOne, ev, asAddr, Sem.run_bind, Sem.run_pure, Result.andThen_ok, hrun]
                      · cases h1
                    · cases h1
                  · cases h1
              obtain ⟨u, hu1, hu2⟩ := h0
              refine ⟨u :: us, by simp [l1], fun i x u' hx hu' => ?_, by simp only [RepAVs]; exact ⟨hu2, l3⟩⟩
              cases i with
              | zero => simp at hx hu'; subst hx hu'; exact hu1
              | succ i => exact l2 i x u' (by simpa using hx) (by simpa using hu')
      obtain ⟨us, l1, l2, l3⟩ := key _ _ hxs
      have hmap := run_mapM_opt (P := P) (resOne a.tmps) w fn.results.toList us l1 l2
      have hrun : (results fn a.tmps).run P w = .ok (if h : us.toArray.size = 1 then us.toArray[0] else .tuple us.toArray) w := by
        rw [results_eq, Sem.run_bind, Array.mapM_eq_mapM_toList, Sem.run_map, hmap]
        simp only [Result.andThen_ok, Sem.run_pure]
      have hseen : Keeps w (Seen S w0.heap.size s.bx ι) w (fun g => S g ∨ w0.heap.size ≤ g) := fun g off u hV hu => ⟨hV.1, hu⟩
      have hlook : ∀ x ∈ xs, ∀ b ∈ x.refs, ∀ ys, (fun b => inside (s.bx b)) b = some ys → Shows w (fun g => S g ∨ w0.heap.size ≤ g) ι b ys ∧ (ι b = none → ys = []) := by
        intro x hx b hb ys hys
        simp only at hys
        have hb' := h.bx b
        cases hB : s.bx b <;> rw [hB] at hys hb' <;> simp only [inside, Option.some.injEq, reduceCtorEq] at hys <;> subst hys
        · rcases hb' with ⟨g1, g2⟩ | ⟨g, cap, cur, g1, g2, g3, g4, g5⟩
          · exact ⟨fun g c e => (by rw [g1] at e; cases e), fun _ => g2⟩
          · refine ⟨fun g' c e => ?_, fun e => (by rw [g1] at e; cases e)⟩
            rw [g1] at e
            simp only [Option.some.injEq, Prod.mk.injEq] at e
            obtain ⟨rfl, rfl⟩ := e
            exact ⟨g3, fun _ => ⟨.inr (h.own b g cap (by rw [hB]; rfl) g1).1, RepCells.of_row g2 (g5.keep hseen)⟩⟩
        · rcases hb' with ⟨g1, g2⟩ | ⟨g, cap, g1, g2, g3⟩
          · exact ⟨fun g c e => (by rw [g1] at e; cases e), fun _ => g2⟩
          · refine ⟨fun g' c e => ?_, fun e => (by rw [g1] at e; cases e)⟩
            rw [g1] at e
            simp only [Option.some.injEq, Prod.mk.injEq] at e
            obtain ⟨rfl, rfl⟩ := e
            exact ⟨g3, g2.keep hseen⟩
      cases hrv : AV.rvs (fun b => inside (s.bx b)) xs with
      | none => rw [hrv] at hr; cases hr
      | some rvs =>
        rw [hrv] at hr
        have hall := rv_avs hseen hflat l3 hlook hrv
        refine ⟨_, hrun, ?_⟩
        have hlen := repRs_len hall
        match rvs, us, hall, hlen, hr with
        | [r'], [u], hall, _, hr =>
          simp only [Option.some.injEq] at hr
          subst hr
          simp only [RepRs] at hall
          simpa using hall.1
        | [], [], hall, _, hr =>
          simp only [Option.some.injEq] at hr
          subst hr
          simp only [List.size_toArray, List.length_nil, Nat.zero_ne_one, dite_false, RepR]
          exact ⟨_, rfl, hall⟩
        | r1 :: r2 :: rs, u1 :: u2 :: us, hall, _, hr =>
          simp only [Option.some.injEq] at hr
          subst hr
          simp only [RepR]
          refine ⟨(u1 :: u2 :: us).toArray, by simp, hall⟩
        | [_], [], _, hl, _ => simp at hl
        | [], _ :: _, _, hl, _ => simp at hl
        | [_], _ :: _ :: _, _, hl, _ => simp at hl
        | _ :: _ :: _, [], _, hl, _ => simp at hl
        | _ :: _ :: _, [_], _, hl, _ => simp at hl
    · cases hr
  · cases hr

def bodyOf (fn : Func) : Code := fn.body.getD .skip
theorem ans_of_vcg {P : Program} {Γ : FuncId → List RV → Option RV} {f : FuncId} {fn : Func} {args : List RV} {res : RV} (ann : Ann) (hm : P.follows .mixedOrders = true) (hf : P.funcs[f]? = some fn) (hb : fn.body.isSome = true) (hl : args.length ≤ fn.ntmps)
    (h : RV.wfs args → vcg P Γ fn.ntmps (bodyOf fn) ann kn0 (start args) (post P fn.results.toList (· = res))) : Ans P f args res := by
  intro w S vs hvs
  have hlen := repRs_len hvs
  have hb : fn.body = some (bodyOf fn) := by
    unfold bodyOf
    cases h : fn.body with
    | none => rw [h] at hb; cases hb
    | some c => rfl
  refine calls_of_wp hf hb ?_
  have hr : RepS w S fn.ntmps (start args) (fun _ => none) { tmps := vs ++ Array.replicate (fn.ntmps - vs.size) undef, defers := [] } w := by
    refine ⟨Below.refl _ _, rfl, by simp at hlen ⊢; omega, fun t => ?_, fun b => trivial, fun b g c hl => by simp [start, Bx.live] at hl, fun b b' g c c' hl => by simp [start, Bx.live] at hl⟩
    have hk : Keeps w S w (Seen S w.heap.size (start args).bx fun _ => none) := fun g off u hV hu => ⟨⟨.inl hV, fun b c hl => by simp [start, Bx.live] at hl⟩, hu⟩
    show RepAV _ _ _ _ (match args[t]? with | some r => r.av | none => .tup []) _
    rw [Array.getD_eq_getD_getElem?]
    cases ht : args[t]? with
    | some r =>
      obtain ⟨v, hv, hrep⟩ := repRs_at hvs t r ht
      have hv' : vs[t]? = some v := by simpa using hv
      have hlt : t < vs.size := (Array.getElem?_eq_some_iff.1 hv').1
      rw [Array.getElem?_append_left hlt, hv']
      exact rep_av (hrep.keep hk)
    | none =>
      have hge : vs.size ≤ t := by
        have := List.getElem?_eq_none_iff.1 ht
        simp at hlen; omega
      rw [Array.getElem?_append_right hge]
      have : ((Array.replicate (fn.ntmps - vs.size) undef)[t - vs.size]?).getD undef = undef := by
        cases hx : (Array.replicate (fn.ntmps - vs.size) undef)[t - vs.size]? with
        | none => rfl
        | some x =>
          have := Array.mem_of_getElem? hx
          simp at this
          simp [this.2]
      rw [this]
      simp only [RepAV]
      exact ⟨_, rfl, by simp only [RepAVs]⟩
  refine vcg_sound hm (bodyOf fn) ann kn0 _ _ (h (RepRs.wf hvs)) (kn0_ok _) w S _ _ w hr _ fun e kn' s' ι' a' w' hq hk' hr' => ?_
  have done : ∀ {rs : RV → Prop}, post P fn.results.toList (· = res) .ret kn' s' → a'.defers = [] ∧ ∃ v, (results fn a'.tmps).run P w' = .ok v w' ∧ (∃ u, Ending.returned v = .returned u ∧ RepR w' (fun g => S g ∨ w.heap.size ≤ g) res u ∧ Below w.heap.size w w') := by
    intro _ hq
    simp only [post] at hq
    split at hq
    · rename_i r hres
      subst hq
      obtain ⟨v, h1, h2⟩ := res_run hr' hres
      exact ⟨hr'.defers, v, h1, v, rfl, h2, hr'.bel⟩
    · exact hq.elim
  cases e with
  | normal => exact done (rs := fun _ => True) hq
  | ret => exact done (rs := fun _ => True) hq
  | exit id => exact hq.elim
/-- what a function leaves that hands back a row of its own -/
def postO (t e size n : Nat) (ys : List DV) : AExit → Kn → AS → Prop
  | .exit _, _, _ => False
  | _, _, s => match s.tm t with
    | .one (.ref b m) => match s.bx b with
      | .row e' size' zs => (e' = e ∧ size' = size) ∧ ys.length = n * size ∧ m = n ∧ zs = ys
      | _ => False
    | .one .nil => n = 0 ∧ ys = []
    | _ => False
theorem ans_of_vcg_own {P : Program} {Γ : FuncId → List RV → Option RV} {f : FuncId} {fn : Func} {args : List RV} {t e size n : Nat} {ys : List DV} (ann : Ann) (hm : P.follows .mixedOrders = true) (hf : P.funcs[f]? = some fn) (hb : fn.body.isSome = true) (hl : args.length ≤ fn.ntmps) (hres : fn.results = #[.tmp t])
    (h : RV.wfs args → vcg P Γ fn.ntmps (bodyOf fn) ann kn0 (start args) (postO t e size n ys)) : AnsO P f args e size n ys := by
  intro w S vs hvs
  have hlen := repRs_len hvs
  have hb : fn.body = some (bodyOf fn) := by
    unfold bodyOf
    cases h : fn.body with
    | none => rw [h] at hb; cases hb
    | some c => rfl
  refine calls_of_wp hf hb ?_
  have hr : RepS w S fn.ntmps (start args) (fun _ => none) { tmps := vs ++ Array.replicate (fn.ntmps - vs.size) undef, defers := [] } w := by
    refine ⟨Below.refl _ _, rfl, by simp at hlen ⊢; omega, fun t => ?_, fun b => trivial, fun b g c hl => by simp [start, Bx.live] at hl, fun b b' g c c' hl => by simp [start, Bx.live] at hl⟩
    have hk : Keeps w S w (Seen S w.heap.size (start args).bx fun _ => none) := fun g off u hV hu => ⟨⟨.inl hV, fun b c hl => by simp [start, Bx.live] at hl⟩, hu⟩
    show RepAV _ _ _ _ (match args[t]? with | some r => r.av | none => .tup []) _
    rw [Array.getD_eq_getD_getElem?]
    cases ht : args[t]? with
    | some r =>
      obtain ⟨v, hv, hrep⟩ := repRs_at hvs t r ht
      have hv' : vs[t]? = some v := by simpa using hv
      have hlt : t < vs.size := (Array.getElem?_eq_some_iff.1 hv').1
      rw [Array.getElem?_append_left hlt, hv']
      exact rep_av (hrep.keep hk)
    | none =>
      have hge : vs.size ≤ t := by
        have := List.getElem?_eq_none_iff.1 ht
        simp at hlen; omega
      rw [Array.getElem?_append_right hge]
      have : ((Array.replicate (fn.ntmps - vs.size) undef)[t - vs.size]?).getD undef = undef := by
        cases hx : (Array.replicate (fn.ntmps - vs.size) undef)[t - vs.size]? with
        | none => rfl
        | some x =>
          have := Array.mem_of_getElem? hx
          simp at this
          simp [this.2]
      rw [this]
      simp only [RepAV]
      exact ⟨_, rfl, by simp only [RepAVs]⟩
  refine vcg_sound hm (bodyOf fn) ann kn0 _ _ (h (RepRs.wf hvs)) (kn0_ok _) w S _ _ w hr _ fun ex kn' s' ι' a' w' hq hk' hr' => ?_
  have done : postO t e size n ys .ret kn' s' → a'.defers = [] ∧ ∃ v, (results fn a'.tmps).run P w' = .ok v w' ∧ (∃ v2 us, Ending.returned v = .returned v2 ∧ w'.ownsRow w.heap.size e size v2 n us ∧ RepDs w' (fun g => (S g ∨ w.heap.size ≤ g) ∧ v2.ownBlock ≠ some g) ys us ∧ ys.length = n * size ∧ Below w.heap.size w w') := by
    intro hq
    refine ⟨hr'.defers, _, results_tmp hres _ _ _, ?_⟩
    have hv := hr'.tm t
    simp only [postO] at hq
    split at hq
    · rename_i b m htm
      rw [htm] at hv
      split at hq
      · rename_i e' size' zs hbx
        obtain ⟨⟨rfl, rfl⟩, hlen, rfl, rfl⟩ := hq
        obtain ⟨us, o1, o2, o3⟩ := own_of_ref hr' hbx hlen hv
        refine ⟨_, us, rfl, o1, o2.keep fun g off u hV hu => ⟨⟨hV.1, fun e => ?_⟩, hu⟩, hlen, hr'.bel⟩
        obtain ⟨c, hc⟩ := o3 g e
        exact hV.2 b c (by rw [hbx]; rfl) hc
      · exact hq.elim
    · rename_i htm
      rw [htm] at hv
      simp only [RepAV, RepCl] at hv
      obtain ⟨rfl, rfl⟩ := hq
      rw [hv]
      exact ⟨_, [], rfl, World.ownsRow_nil _ _ _ _, trivial, by simp, hr'.bel⟩
    · exact hq.elim
  cases ex with
  | normal => exact done hq
  | ret => exact done hq
  | exit id => exact hq.elim
end Go.Proofs.Ytoljdijpmnadpaa
