/-
  All operations: procedures among them.
-/
import Derived.Test.YtoljdijpmnadpaaAbR
namespace Go.Proofs.Ytoljdijpmnadpaa
open Go.RowKit
set_option linter.unusedVariables false
set_option linter.unusedSimpArgs false

def Cap.av : Cap → AV
  | .d v => .one (.d v)
  | .ptr b off => .one (.ptr b off)
def nextNames (dst : Option Nat) (bs : List Nat) (nnew : Nat) : List Nat :=
  let base := match dst with
    | some d => d
    | none => maxL bs
  (List.range nnew).map fun i => base + 1000 * (i + 1)
def innerNames (l1 : List Nat) (B1 : List Bx) : List Nat := (nubN (B1.flatMap Bx.names)).filter fun x => !l1.contains x
def procEff (P : Program) (Γ : Gam) (dst : Option Nat) (f : FuncId) (xs : List AV) : Option Eff2 :=
  match Γ.modes f, enters P f with
  | some (ms, pin, nnew), true =>
    let l0 := dataRefs ms xs
    let l1 := nubN (rawNames ms xs)
    some ⟨l0 ++ l1, fun bs1 => let l2 := innerNames l1 (bs1.drop l0.length); l2 ++ nextNames dst (l1 ++ l2) nnew, fun bs1 bs2 =>
      let l2 := innerNames l1 (bs1.drop l0.length)
      procOut P Γ f ms pin nnew xs l0 (l1 ++ l2) (nextNames dst (l1 ++ l2) nnew) (bs1.take l0.length) (bs1.drop l0.length ++ bs2.take l2.length) (bs2.drop l2.length)⟩
  | _, _ => none
/-- a call that hands back flat data, or what is new alone, writes nothing -/
def callQ (Γ : Gam) (f : FuncId) (xs : List AV) (bs : List Bx) : Bool :=
  match ownOf Γ f with
  | some _ => false
  | none => match newOf Γ f with
    | true => true
    | false => match AV.rvs (lookIn (xs.flatMap AV.refs) bs) xs with
      | some rs => match Γ f rs with
        | some r => r.flat
        | none => false
      | none => false
/-- what is frozen stays as it is: no write -/
def dropIce : List Nat → List Bx → List Bx → List (Nat × Bx)
  | b :: rs, B0 :: bs, B :: ws => match B0 with
    | .ice _ => dropIce rs bs ws
    | _ => (b, B) :: dropIce rs bs ws
  | _, _, _ => []
def Eff.upQ (q : List Bx → Bool) (e : Eff) : Eff2 := ⟨e.rds, fun _ => [], fun bs _ => (e.f bs).map fun r => (r.1, r.2.1, match q bs with | true => [] | false => dropIce e.wrs bs r.2.2)⟩
def KeptIce : List Bx → List Bx → Prop
  | .ice xs :: bs, B :: ws => B = .ice xs ∧ KeptIce bs ws
  | _ :: bs, _ :: ws => KeptIce bs ws
  | [], [] => True
  | _, _ => False
theorem keptIce_freeze : ∀ bs : List Bx, KeptIce bs (bs.map Bx.freeze)
  | [] => trivial
  | B :: bs => by
    have := keptIce_freeze bs
    cases B <;> simp only [List.map_cons, KeptIce, Bx.freeze, true_and] <;> exact this
theorem keptIce_self : ∀ bs : List Bx, KeptIce bs bs
  | [] => trivial
  | B :: bs => by
    have := keptIce_self bs
    cases B <;> simp only [KeptIce, true_and] <;> exact this
theorem keptIce_snoc : ∀ (bs ws : List Bx) (B : Bx), KeptIce bs ws → KeptIce (bs ++ [.fresh]) (ws ++ [B])
  | [], [], B, _ => by simp [KeptIce]
  | .ice xs :: bs, W :: ws, B, h => by
    simp only [List.cons_append, KeptIce] at h ⊢
    exact ⟨h.1, keptIce_snoc bs ws B h.2⟩
  | .fresh :: bs, W :: ws, B, h => by simp only [List.cons_append, KeptIce] at h ⊢; exact keptIce_snoc bs ws B h
  | .gone :: bs, W :: ws, B, h => by simp only [List.cons_append, KeptIce] at h ⊢; exact keptIce_snoc bs ws B h
  | .cells _ :: bs, W :: ws, B, h => by simp only [List.cons_append, KeptIce] at h ⊢; exact keptIce_snoc bs ws B h
  | .row _ _ _ :: bs, W :: ws, B, h => by simp only [List.cons_append, KeptIce] at h ⊢; exact keptIce_snoc bs ws B h
  | [], _ :: _, _, h => h.elim
  | B0 :: bs, [], B, h => by cases B0 <;> exact h.elim
theorem setBs_ice (s0 : AS) : ∀ (rs : List Nat) (ws : List Bx) (s : AS), (∀ b xs, s0.bx b = .ice xs → s.bx b = .ice xs) → KeptIce (rs.map s0.bx) ws → s.setBs ((dropIce rs (rs.map s0.bx) ws).map (·.1)) ((dropIce rs (rs.map s0.bx) ws).map (·.2)) = s.setBs rs ws
  | [], _, s, _, _ => by simp [dropIce, AS.setBs]
  | b :: rs, [], s, _, h => by
    simp only [List.map_cons] at h
    cases hB : s0.bx b <;> rw [hB] at h <;> exact h.elim
  | b :: rs, W :: ws, s, hs, h => by
    simp only [List.map_cons, dropIce, AS.setBs] at h ⊢
    cases hB : s0.bx b with
    | ice xs =>
      rw [hB] at h
      simp only [KeptIce] at h
      obtain ⟨rfl, h⟩ := h
      have e : s.setB b (.ice xs) = s := by
        refine AS.ext' rfl ?_
        funext b'
        simp only [AS.setB]
        split
        · rename_i e; subst e; exact (hs b' xs hB).symm
        · rfl
      rw [e]
      exact setBs_ice s0 rs ws s hs h
    | _ =>
      rw [hB] at h
      simp only [KeptIce] at h
      simp only [List.map_cons, AS.setBs]
      refine setBs_ice s0 rs ws _ (fun b' xs hb' => ?_) h
      simp only [AS.setB]
      rw [if_neg (fun e => by subst e; rw [hB] at hb'; cases hb')]
      exact hs b' xs hb'
theorem opCall_ice {P : Program} {Γ : Gam} {dst : Option Nat} {f : FuncId} {xs : List AV} {e0 : Eff} (he : opCall P Γ dst f xs = some e0) {bs bs' : List Bx} {vc : Prop} {v : AV} (hf : e0.f bs = some (vc, v, bs')) : KeptIce bs bs' ∧ e0.wrs = e0.rds := by
  unfold opCall at he
  cases h1 : ownOf Γ f with
  | some p =>
    rw [h1] at he
    simp only at he
    split at he
    · simp only [opCallO] at he
      split at he
      · simp only [Option.some.injEq] at he
        subst he
        simp only at hf ⊢
        split at hf
        · rename_i hl
          split at hf
          · split at hf
            · simp only [Option.some.injEq, Prod.mk.injEq] at hf
              obtain ⟨_, _, rfl⟩ := hf
              refine ⟨?_, trivial⟩
              have : bs = bs.dropLast ++ [.fresh] := by
                have hne : bs ≠ [] := fun e => by rw [e] at hl; cases hl
                rw [List.getLast?_eq_some_getLast hne] at hl
                injection hl with hl
                rw [← hl, List.dropLast_concat_getLast]
              have k := fun B => keptIce_snoc _ _ B (keptIce_freeze bs.dropLast)
              rw [← this] at k
              exact k _
            · cases hf
          · cases hf
        · cases hf
      · cases he
    · cases he
  | none =>
    rw [h1] at he
    simp only at he
    cases h2 : newOf Γ f with
    | true =>
      rw [h2] at he
      simp only [opCallN] at he
      split at he
      · simp only [Option.some.injEq] at he
        subst he
        simp only at hf ⊢
        split at hf
        · split at hf
          · simp only [Option.some.injEq, Prod.mk.injEq] at hf
            obtain ⟨_, _, rfl⟩ := hf
            exact ⟨keptIce_self _, trivial⟩
          · cases hf
        · cases hf
      · cases he
    | false =>
      rw [h2] at he
      simp only [opCallP] at he
      split at he
      · simp only [Option.some.injEq] at he
        subst he
        simp only at hf ⊢
        split at hf
        · split at hf
          · simp only [Option.some.injEq, Prod.mk.injEq] at hf
            obtain ⟨_, _, rfl⟩ := hf
            refine ⟨?_, trivial⟩
            split
            · exact keptIce_self _
            · exact keptIce_freeze _
          · cases hf
        · cases hf
      · cases he
theorem opCall_q {P : Program} {Γ : Gam} {dst : Option Nat} {f : FuncId} {xs : List AV} {e0 : Eff} (he : opCall P Γ dst f xs = some e0) {bs bs' : List Bx} {vc : Prop} {v : AV} (hq : callQ Γ f xs bs = true) (hf : e0.f bs = some (vc, v, bs')) : bs' = bs ∧ e0.wrs = e0.rds := by
  unfold callQ at hq
  unfold opCall at he
  cases h1 : ownOf Γ f with
  | some p => rw [h1] at hq; cases hq
  | none =>
    rw [h1] at hq he
    simp only at hq he
    cases h2 : newOf Γ f with
    | true =>
      rw [h2] at he
      simp only [opCallN] at he
      split at he
      · simp only [Option.some.injEq] at he
        subst he
        simp only at hf ⊢
        split at hf
        · split at hf
          · simp only [Option.some.injEq, Prod.mk.injEq] at hf
            exact ⟨hf.2.2.symm, trivial⟩
          · cases hf
        · cases hf
      · cases he
    | false =>
      rw [h2] at he hq
      simp only [opCallP] at he
      split at he
      · simp only [Option.some.injEq] at he
        subst he
        simp only at hf hq ⊢
        split at hf
        · rename_i rs hrs
          rw [hrs] at hq
          simp only at hq
          split at hf
          · rename_i r hr
            rw [hr] at hq
            simp only at hq
            simp only [Option.some.injEq, Prod.mk.injEq, if_pos hq] at hf
            exact ⟨hf.2.2.symm, trivial⟩
          · cases hf
        · cases hf
      · cases he
theorem right_upQ {P : Program} {Γ : Gam} {o : Oper} {s : AS} {f : FuncId} {xs : List AV} (h : Right P o s (prep P Γ o s.eval)) (hp : prep P Γ o s.eval = opCall P Γ o.dst f xs) : Right2 P o s ((prep P Γ o s.eval).map (Eff.upQ (callQ Γ f xs))) := by
  intro e' he vc v ws hf
  obtain ⟨e0, he0, rfl⟩ := Option.map_eq_some_iff.1 he
  simp only [Eff.upQ] at hf
  obtain ⟨⟨vc0, v0, bs0⟩, hf1, hf'⟩ := Option.map_eq_some_iff.1 hf
  simp only [Prod.mk.injEq] at hf'
  obtain ⟨rfl, rfl, rfl⟩ := hf'
  have hs := h e0 he0 vc0 v0 bs0 hf1
  cases hq : callQ Γ f xs (e0.rds.map s.bx) with
  | true =>
    obtain ⟨e1, e2⟩ := opCall_q (by rw [← hp, he0]) hq hf1
    subst e1
    intro w0 S n ι a w K Q hr hvc hK
    refine hs w0 S n ι a w K Q hr hvc fun ι' u w' h1 h2 => hK ι' u w' ?_ ?_
    · rw [e2, setBs_same] at h1; exact h1
    · rw [e2, setBs_same] at h2; exact h2
  | false =>
    obtain ⟨e1, e2⟩ := opCall_ice (by rw [← hp, he0]) hf1
    rw [← e2] at e1
    have e3 := setBs_ice s e0.wrs bs0 s (fun _ _ h => h) e1
    intro w0 S n ι a w K Q hr hvc hK
    refine hs w0 S n ι a w K Q hr hvc fun ι' u w' h1 h2 => hK ι' u w' ?_ ?_
    · simp only; rw [← e2, e3]; exact h1
    · simp only; rw [← e2, e3]; exact h2
def prep2 (P : Program) (Γ : Gam) (o : Oper) (ρ : Operand → AV) : Option Eff2 :=
  match o.op with
  | .call c => match c.callee with
    | .value (.func f) => match Γ.modes f with
      | some _ => procEff P Γ o.dst f (c.args.toList.map ρ)
      | none => (prep P Γ o ρ).map (Eff.upQ (callQ Γ f (c.args.toList.map ρ)))
    | .value (.tmp t) => match ρ (.tmp t) with
      | .one (.d (.fn f)) => match Γ.modes f with
        | some _ => procEff P Γ o.dst f (c.args.toList.map ρ)
        | none => (prep P Γ o ρ).map (Eff.upQ (callQ Γ f (c.args.toList.map ρ)))
      | .one (.clo f cs) => procEff P Γ o.dst f (c.args.toList.map ρ ++ cs.map Cap.av)
      | _ => none
    | _ => (prep P Γ o ρ).map Eff.up
  | _ => (prep P Γ o ρ).map Eff.up
def aop (P : Program) (Γ : Gam) (n : Dom) (o : Oper) (s : AS) : Option (Prop × AS) :=
  if dstIn n o then
    match prep2 P Γ o s.eval with
    | some e => match e.f (e.rds.map s.bx) ((e.more (e.rds.map s.bx)).map s.bx) with
      | some (vc, v, ws) => some (vc, (s.setL ws).put o.dst v)
      | none => none
    | none => none
  else none

section
variable {P : Program} {o : Oper} {s : AS}
theorem right_procEff {Γ : Gam} {f : FuncId} {xs : List AV}
    (hex : enters P f = true → ∀ (w0 : World) (S : Scope) (n : Dom) (ι : Names) (a : Act) (w : World), RepS w0 S n s ι a w → ∃ vs : Array Value, (execOp a.eval o).run P w = .ok (.enter f vs) w ∧
      ∀ ι2 s2, s2.tm = s.tm → RepS w0 S n s2 ι2 a w → RepAVs w (Seen S w0.heap.size s2.bx ι2) ι2 s2.bx xs vs.toList) : Right2 P o s (procEff P Γ o.dst f xs) := by
  unfold procEff
  split
  · rename_i ms pin nnew hm hen
    intro e' he vc v ws hf
    simp only [Option.some.injEq] at he
    subst he
    simp only at hf
    have e1 : ((dataRefs ms xs ++ nubN (rawNames ms xs)).map s.bx).take (dataRefs ms xs).length = (dataRefs ms xs).map s.bx := by
      rw [List.map_append, List.take_left' (by simp)]
    have e2 : ((dataRefs ms xs ++ nubN (rawNames ms xs)).map s.bx).drop (dataRefs ms xs).length = (nubN (rawNames ms xs)).map s.bx := by
      rw [List.map_append, List.drop_left' (by simp)]
    rw [e1, e2] at hf
    generalize hl2 : innerNames (nubN (rawNames ms xs)) ((nubN (rawNames ms xs)).map s.bx) = l2 at hf
    generalize nextNames o.dst (nubN (rawNames ms xs) ++ l2) nnew = news at hf
    have e3 : ((l2 ++ news).map s.bx).take l2.length = l2.map s.bx := by rw [List.map_append, List.take_left' (by simp)]
    have e4 : ((l2 ++ news).map s.bx).drop l2.length = news.map s.bx := by rw [List.map_append, List.drop_left' (by simp)]
    rw [e3, e4, ← List.map_append] at hf
    exact sound_proc (hex hen) (fun b hb => hb) (fun b hb => by rw [List.mem_append]; exact .inl (mem_nubN.2 hb)) hf
  · exact .none
theorem args_reps {w0 : World} {S : Scope} {n : Dom} {a : Act} {w : World} {ι2 : Names} {s2 : AS} (ht : s2.tm = s.tm) (hr : RepS w0 S n s2 ι2 a w) (args : List Operand) : RepAVs w (Seen S w0.heap.size s2.bx ι2) ι2 s2.bx (args.map s.eval) (args.map a.eval) := by
  have heval : s2.eval = s.eval := by funext x; cases x <;> simp [AS.eval, ht]
  induction args with
  | nil => simp only [List.map_nil, RepAVs]
  | cons x xs ih =>
    simp only [List.map_cons, RepAVs]
    exact ⟨by rw [← heval]; exact hr.eval x, ih⟩
theorem caps_reps {w : World} {V : Nat → Prop} {ι : Names} {bx : Nat → Bx} : ∀ {cs : List Cap} {vs : List Value}, RepCaps ι bx w V cs vs → RepAVs w V ι bx (cs.map Cap.av) vs
  | [], [], _ => by simp only [List.map_nil, RepAVs]
  | c :: cs, v :: vs, h => by
    simp only [List.map_cons, RepAVs]
    refine ⟨?_, caps_reps h.2⟩
    cases c <;> simp only [Cap.av, RepAV, RepCl] <;> exact h.1
  | [], _ :: _, h => h.elim
  | _ :: _, [], h => h.elim
theorem repAVs_app {w : World} {V : Nat → Prop} {ι : Names} {bx : Nat → Bx} : ∀ {xs : List AV} {us : List Value} {ys : List AV} {vs : List Value}, RepAVs w V ι bx xs us → RepAVs w V ι bx ys vs → RepAVs w V ι bx (xs ++ ys) (us ++ vs)
  | [], [], _, _, _, h => h
  | _ :: _, _ :: _, _, _, h, h' => by
    simp only [RepAVs, List.cons_append] at h ⊢
    exact ⟨h.1, repAVs_app h.2 h'⟩
  | [], _ :: _, _, _, h, _ => by simp only [RepAVs] at h
  | _ :: _, [], _, _, h, _ => by simp only [RepAVs] at h
theorem right_prep2 {Γ : Gam} (o : Oper) (s : AS) : Right2 P o s (prep2 P Γ o s.eval) := by
  unfold prep2
  split
  · rename_i c h
    obtain ⟨callee, args, ts⟩ := c
    simp only
    split
    · rename_i f
      split
      · exact right_procEff fun hen w0 S n ι a w hr => ⟨args.map a.eval, run_static h hen w0 S n ι a w hr, fun ι2 s2 ht hr2 => by simpa using args_reps ht hr2 args.toList⟩
      · exact right_upQ (right_prep o s) (by unfold prep; rw [h])
    · rename_i t
      split
      · rename_i f hx
        split
        · exact right_procEff fun hen w0 S n ι a w hr => ⟨args.map a.eval, run_dynamic h hx hen w0 S n ι a w hr, fun ι2 s2 ht hr2 => by simpa using args_reps ht hr2 args.toList⟩
        · exact right_upQ (right_prep o s) (by unfold prep; rw [h]; simp only [hx])
      · rename_i f cs hx
        refine right_procEff fun hen w0 S n ι a w hr => ?_
        have hv := hr.eval (.tmp t)
        rw [hx] at hv
        simp only [RepAV, RepCl] at hv
        obtain ⟨lb, hv, hc⟩ := hv
        refine ⟨args.map a.eval ++ lb, ?_, fun ι2 s2 ht hr2 => ?_⟩
        · simp [execOp, h, resolve, hv, Deferred.ofValue, invoke, run_enter hen]
        · have hv2 := hr2.eval (.tmp t)
          have hx2 : s2.eval (.tmp t) = .one (.clo f cs) := by rw [← hx]; simp [AS.eval, ht]
          rw [hx2, hv] at hv2
          simp only [RepAV, RepCl] at hv2
          obtain ⟨lb2, e, hc2⟩ := hv2
          injection e with _ _ e
          subst e
          have := repAVs_app (args_reps ht hr2 args.toList) (caps_reps hc2)
          simpa using this
      · exact .none
    · exact (right_prep o s).up
  · exact (right_prep o s).up
theorem aop_sound {Γ : Gam} {n : Dom} {o : Oper} {s s' : AS} {vc : Prop} (h : aop P Γ n o s = some (vc, s')) {w0 : World} {S : Scope} {ι : Names} {a : Act} {w : World} {K : Act → World → Prop} {Q : Exit → Act → World → Prop}
    (hr : RepS w0 S n s ι a w) (hvc : vc) (hK : ∀ ι' a' w', RepS w0 S n s' ι' a' w' → K a' w') : o.wp P a w K Q := by
  unfold aop at h
  split at h
  · rename_i hd
    split at h
    · rename_i e he
      split at h
      · rename_i vc' v ws hf
        simp only [Option.some.injEq, Prod.mk.injEq] at h
        obtain ⟨rfl, rfl⟩ := h
        refine right_prep2 (Γ := Γ) o s e he vc' v ws hf w0 S n ι a w K Q hr hvc fun ι' u w' h1 h2 => hK ι' _ w' (h1.put (fun k hk => ?_) h2)
        unfold dstIn at hd
        rw [hk] at hd
        simpa using hd
      · cases h
    · cases h
  · cases h
theorem aop_nodefer {Γ : Gam} {n : Dom} {o : Oper} {s s' : AS} {vc : Prop} (h : aop P Γ n o s = some (vc, s')) : ∀ c, o.op ≠ .defer c := by
  intro c hc
  unfold aop prep2 prep at h
  rw [hc] at h
  simp at h
end
theorem prep_congr {P : Program} {Γ : Gam} {o : Oper} {ρ ρ' : Operand → AV} (h : ∀ x ∈ o.op.operands, ρ x = ρ' x) : prep P Γ o ρ = prep P Γ o ρ' := by
  obtain ⟨dst, op, type, pos, after, guard⟩ := o
  have pairs : ∀ ps : Array (Nat × Operand), (∀ x ∈ (ps.toList.map (·.2)), ρ x = ρ' x) → (ps.toList.map fun p => (p.1, ρ p.2)) = ps.toList.map fun p => (p.1, ρ' p.2) := fun ps hp =>
    List.map_congr_left fun p hm => by
      simp only [hp p.2 (List.mem_map.2 ⟨p, hm, rfl⟩)]
  have bnd : ∀ (o : Option Operand) d, (∀ x, o = some x → ρ x = ρ' x) → boundOf ρ o d = boundOf ρ' o d := fun o d ho => by
    cases o with
    | none => rfl
    | some x => simp only [boundOf, ho x rfl]
  cases op <;> simp only [Op.operands] at h <;> simp only [prep]
  case move x => rw [h x (by simp)]
  case assign x => rw [h x (by simp)]
  case pick c a b => simp only [opPick, h c (by simp), h a (by simp), h b (by simp)]
  case box t x => simp only [opBox, h x (by simp)]
  case build t ps => simp only [opBuild, pairs ps (fun x hx => h x (by simpa using hx))]
  case buildSlice t n ps => simp only [opBuildSlice, pairs ps (fun x hx => h x (by simpa using hx))]
  case load t x => simp only [opLoad, h x (by simp)]
  case store t x y => simp only [opStore, h x (by simp), h y (by simp)]
  case nilCheck x => simp only [opNilCheck, h x (by simp)]
  case binOp op t x y t' => simp only [opBin, h x (by simp), h y (by simp)]
  case unOp op t x => simp only [opUn, h x (by simp)]
  case convert s d x => simp only [opConv, h x (by simp)]
  case makeSlice t l c => simp only [opMakeSlice, h l (by simp), h c (by simp)]
  case slice t x lo hi mx =>
    simp only [opSlice, h x (by simp), bnd lo _ (fun y e => h y (by subst e; simp)), bnd hi _ (fun y e => h y (by subst e; simp))]
  case fieldAddr t x f => simp only [opFieldAddr, h x (by simp)]
  case field t x f => simp only [opField, h x (by simp)]
  case indexAddr t x y => simp only [opIndexAddr, h x (by simp), h y (by simp)]
  case index t x y => simp only [opIndex, h x (by simp), h y (by simp)]
  case extract x i => simp only [opExtract, h x (by simp)]
  case makeFunc fn fs cs =>
    have h1 : fs.toList.map ρ = fs.toList.map ρ' := List.map_congr_left fun x hx => h x (by simp; left; simpa using hx)
    have h2 : cs.toList.map ρ = cs.toList.map ρ' := List.map_congr_left fun x hx => h x (by simp; right; simpa using hx)
    simp only [h1, h2]
  case call c =>
    obtain ⟨callee, args, ts⟩ := c
    have hargs : ∀ x ∈ args.toList, ρ x = ρ' x := fun x hx => h x (by simp [Call.operands]; right; simpa using hx)
    have hm : args.toList.map ρ = args.toList.map ρ' := List.map_congr_left hargs
    cases callee with
    | value f =>
      cases f with
      | tmp t => simp only [hm, h (.tmp t) (by simp [Call.operands])]
      | const v => rfl
      | global g => rfl
      | func f => simp only [hm]
    | invoke r m => rfl
    | builtin b =>
      simp only
      generalize args.toList = l at hargs
      match b, l with
      | .len, [x] => simp only [hargs x (by simp)]
      | .max, [x, y] => simp only [hargs x (by simp), hargs y (by simp)]
      | .min, [x, y] => simp only [hargs x (by simp), hargs y (by simp)]
      | .append, [x, y] => simp only [hargs x (by simp), hargs y (by simp)]
      | b, [] => cases b <;> rfl
      | b, [x] => cases b <;> first | rfl | simp only [hargs x (by simp)]
      | b, [x, y] => cases b <;> first | rfl | simp only [hargs x (by simp), hargs y (by simp)]
      | b, _ :: _ :: _ :: _ => cases b <;> rfl


theorem prep2_congr {P : Program} {Γ : Gam} {o : Oper} {ρ ρ' : Operand → AV} (h : ∀ x ∈ o.op.operands, ρ x = ρ' x) : prep2 P Γ o ρ = prep2 P Γ o ρ' := by
  have h1 := prep_congr (P := P) (Γ := Γ) h
  unfold prep2
  rw [h1]
  cases hop : o.op with
  | call c =>
    obtain ⟨callee, args, ts⟩ := c
    rw [hop] at h
    simp only [Op.operands] at h
    have hargs : ∀ x ∈ args.toList, ρ x = ρ' x := fun x hx => h x (by simp [Call.operands]; right; simpa using hx)
    have hm : args.toList.map ρ = args.toList.map ρ' := List.map_congr_left hargs
    cases callee with
    | value x =>
      cases x with
      | func f => simp only [hm]
      | tmp t => simp only [hm, h (.tmp t) (by simp [Call.operands])]
      | const v => rfl
      | global g => rfl
    | invoke r m => rfl
    | builtin b => rfl
  | _ => rfl

/-! ### fences that let everything in -/
def Wide (F : Fence) : Prop := F = Fence.wide ∨ ∃ l, F = Fence.wide.inRound l
theorem Wide.fn {F : Fence} (h : Wide F) (f : FuncId) : F.fn f := by
  rcases h with rfl | ⟨l, rfl⟩ <;> trivial
theorem Wide.depth {F : Fence} (h : Wide F) : F.depth = none := by
  rcases h with rfl | ⟨l, rfl⟩ <;> rfl
theorem Wide.room {F : Fence} (h : Wide F) (n : Nat) : F.room n := fun d hd => by rw [h.depth] at hd; cases hd
theorem Wide.calls {F : Fence} (h : Wide F) {n : Nat} {P : Program} {f : FuncId} {args : Array Value} {w : World} {R : Ending → World → Prop} (hc : Calls P f args w R) : CallsIn F n P f args w R := by
  have h1 : CallsIn Fence.wide n P f args w R := callsIn_wide.2 hc
  rcases h with rfl | ⟨l, rfl⟩
  · exact h1
  · exact h1
theorem Wide.rows {F : Fence} (h : Wide F) {n : Nat} {P : Program} {row : String} {args : Array Value} {w : World} {R : Value → World → Prop} (hc : Rows P row args w R) : RowsIn F n P row args w R := by
  have h1 : RowsIn Fence.wide n P row args w R := fun c cs _ => by
    obtain ⟨v, w', r, st⟩ := hc c cs
    exact ⟨v, w', r, stepsIn_wide.2 st⟩
  rcases h with rfl | ⟨l, rfl⟩
  · exact h1
  · exact h1
theorem Oper.wpIn_of_wp {F : Fence} (hF : Wide F) {m : Nat} {P : Program} {o : Oper} (hd : ∀ c, o.op ≠ .defer c) {a : Act} {w : World} {K : Act → World → Prop} {Q : Exit → Act → World → Prop} (h : o.wp P a w K Q) : o.wpIn F m P a w K Q := by
  refine ⟨fun f _ => hF.fn f, ?_⟩
  rw [Oper.semAt_eq _ _ _ hd]
  unfold Oper.wp at h
  revert h
  generalize (execOp a.eval o).run P w = r
  intro h
  cases r with
  | ok nx w' =>
    cases nx with
    | value v => exact h
    | skip => exact h
    | defer d => exact h
    | enter f args => exact ⟨fun hx => by (rw [hF.depth] at hx; cases hx), hF.calls h⟩
    | row row args => exact ⟨fun hx => by (rw [hF.depth] at hx; cases hx), hF.rows h⟩
    | _ => exact h.elim
  | halt s w' =>
    cases s with
    | panic v => exact h
    | _ => exact h.elim
end Go.Proofs.Ytoljdijpmnadpaa
