/-
  A procedure's statement suffices: it does with its caller's boxes as it says.
-/
import Derived.Test.YtoljdijpmnadpaaAbO
namespace Go.Proofs.Ytoljdijpmnadpaa
open Go.RowKit
set_option linter.unusedVariables false
set_option linter.unusedSimpArgs false

mutual
def AV.wf : AV → Prop
  | .one c => match c with
    | .d v => v.wf
    | _ => True
  | .agg cs => Cl.wfs cs
  | .tup _ => True
def Cl.wfs : List Cl → Prop
  | [] => True
  | c :: cs => (match c with
    | .d v => v.wf
    | _ => True) ∧ Cl.wfs cs
end
def AV.wfL : List AV → Prop
  | [] => True
  | x :: xs => x.wf ∧ AV.wfL xs
def Bx.wf : Bx → Prop
  | .cells cs => Cl.wfs cs
  | .row _ _ xs => DV.wfs xs
  | .ice xs => DV.wfs xs
  | _ => True
def Bx.wfL : List Bx → Prop
  | [] => True
  | x :: xs => x.wf ∧ Bx.wfL xs
section
variable {w : World} {V : Nat → Prop} {ι : Names} {bx : Nat → Bx}
theorem RepCls.wf : ∀ {cs : List Cl} {vs : List Value}, RepCls w V ι bx cs vs → Cl.wfs cs
  | [], [], _ => by simp only [Cl.wfs]
  | c :: cs, v :: vs, h => by
    simp only [Cl.wfs]
    refine ⟨?_, RepCls.wf h.2⟩
    cases c <;> first | exact RepD.wf h.1 | trivial
  | [], _ :: _, h => h.elim
  | _ :: _, [], h => h.elim
theorem RepAV.wf {x : AV} {v : Value} (h : RepAV w V ι bx x v) : x.wf := by
  cases x with
  | one c => simp only [RepAV] at h; cases c <;> simp only [AV.wf] <;> first | exact RepD.wf h | trivial
  | agg cs => simp only [RepAV] at h; obtain ⟨cur, _, h⟩ := h; simp only [AV.wf]; exact h.wf
  | tup vs => simp only [AV.wf]
theorem RepAVs.wf : ∀ {xs : List AV} {vs : List Value}, RepAVs w V ι bx xs vs → AV.wfL xs
  | [], [], _ => trivial
  | _ :: _, _ :: _, h => by simp only [RepAVs] at h; exact ⟨h.1.wf, RepAVs.wf h.2⟩
  | [], _ :: _, h => by simp only [RepAVs] at h
  | _ :: _, [], h => by simp only [RepAVs] at h
theorem RepBx.wf {b : Nat} {B : Bx} (h : RepBx w V ι bx b B) : B.wf := by
  cases B with
  | fresh => trivial
  | gone => trivial
  | cells cs => obtain ⟨_, _, _, _, _, _, h⟩ := h; exact h.wf
  | row e size xs =>
    rcases h with ⟨_, rfl⟩ | ⟨_, _, _, _, _, _, _, h⟩
    · simp only [Bx.wf, DV.wfs]
    · exact h.wf
  | ice xs =>
    rcases h with ⟨_, rfl⟩ | ⟨_, _, _, h, _⟩
    · simp only [Bx.wf, DV.wfs]
    · exact h.cells.wf
end
def startG (args : List AV) (ins : List Bx) : AS := ⟨fun t => (args[t]?).getD (.tup []), boxes ins⟩
def zipN {α : Type} : Nat → List α → List (Nat × α)
  | _, [] => []
  | n, x :: xs => (n, x) :: zipN (n + 1) xs
def Cl.flatV : Cl → Prop
  | .d v => v.flat = true
  | .vp _ _ => False
  | .clo _ _ => False
  | _ => True
def flatVs : List Cl → Prop
  | [] => True
  | c :: cs => c.flatV ∧ flatVs cs
mutual
def AV.flatV : AV → Prop
  | .one c => c.flatV
  | .agg cs => flatVs cs
  | .tup vs => AV.flatVL vs
def AV.flatVL : List AV → Prop
  | [] => True
  | x :: xs => x.flatV ∧ AV.flatVL xs
end
def Bx.flatV : Bx → Prop
  | .cells cs => flatVs cs
  | .row _ _ xs => ∀ d ∈ xs, d.flat = true
  | .ice _ => False
  | _ => True
def Bx.flatVL : List Bx → Prop
  | [] => True
  | x :: xs => x.flatV ∧ Bx.flatVL xs
def freshOK (r : Ret) : Prop := match r.fresh with
  | true => r.res.flatV ∧ Bx.flatVL r.outs
  | false => True
def oneOr : List AV → AV
  | [x] => x
  | xs => .tup xs
def postAS (x : AV) (bx : Nat → Bx) : AS := ⟨fun t => if t = 0 then x else .one .dead, bx⟩
def postG (P : Program) (n : Dom) (rs : List ResultVar) (r : Ret) : AExit → Kn → AS → Prop
  | .exit _, _, _ => False
  | _, _, s => match resAVs P s rs with
    | some xs => fits ⟨1, fun _ => false, n.pin, false⟩ (postAS (oneOr xs) s.bx) ⟨[(0, r.res)], zipN 0 r.outs⟩ ∧ freshOK r
    | none => False
section
variable {w : World} {V V' : Nat → Prop} {ι : Names} {bx : Nat → Bx}
theorem flat_cl {c : Cl} {v : Value} (hf : c.flatV) (h : RepCl w V ι bx c v) : RepCl w V' ι bx c v := by
  cases c with
  | d x => exact RepD.of_flat hf h
  | vp _ _ => exact hf.elim
  | clo _ _ => exact hf.elim
  | lit u => exact h
  | nil => exact h
  | ptr b off => exact h
  | ref b n => exact h
  | dead => trivial
theorem flat_cls : ∀ {cs : List Cl} {vs : List Value}, flatVs cs → RepCls w V ι bx cs vs → RepCls w V' ι bx cs vs
  | [], [], _, _ => trivial
  | _ :: _, _ :: _, hf, h => ⟨flat_cl hf.1 h.1, flat_cls hf.2 h.2⟩
  | [], _ :: _, _, h => h.elim
  | _ :: _, [], _, h => h.elim
mutual
theorem flat_av : ∀ {x : AV} {v : Value}, x.flatV → RepAV w V ι bx x v → RepAV w V' ι bx x v
  | .one c, v, hf, h => by simp only [RepAV, AV.flatV] at h hf ⊢; exact flat_cl hf h
  | .agg cs, v, hf, h => by
    simp only [RepAV, AV.flatV] at h hf ⊢
    obtain ⟨cur, e, h⟩ := h
    exact ⟨cur, e, flat_cls hf h⟩
  | .tup vs, v, hf, h => by
    simp only [RepAV, AV.flatV] at h hf ⊢
    obtain ⟨cur, e, h⟩ := h
    exact ⟨cur, e, flat_avs hf h⟩
theorem flat_avs : ∀ {xs : List AV} {vs : List Value}, AV.flatVL xs → RepAVs w V ι bx xs vs → RepAVs w V' ι bx xs vs
  | [], [], _, _ => by simp only [RepAVs]
  | _ :: _, _ :: _, hf, h => by simp only [RepAVs, AV.flatVL] at h hf ⊢; exact ⟨flat_av hf.1 h.1, flat_avs hf.2 h.2⟩
  | [], _ :: _, _, h => by simp only [RepAVs] at h
  | _ :: _, [], _, h => by simp only [RepAVs] at h
end
theorem flat_bx {b : Nat} {B : Bx} (hf : B.flatV) (h : RepBx w V ι bx b B) : RepBx w V' ι bx b B := by
  cases B with
  | fresh => trivial
  | gone => trivial
  | cells cs => obtain ⟨g, c, cur, T, h1, h2, h3⟩ := h; exact ⟨g, c, cur, T, h1, h2, flat_cls hf h3⟩
  | row e size xs =>
    rcases h with h | ⟨g, cap, cur, h1, h2, h3, h4, h5⟩
    · exact .inl h
    · exact .inr ⟨g, cap, cur, h1, h2, h3, h4, RepDs.of_flat (List.all_eq_true.2 hf) h5⟩
  | ice xs => exact hf.elim
theorem flatVL_at : ∀ {l : List Bx} {b : Nat}, Bx.flatVL l → (boxes l b).flatV
  | [], b, _ => by simp [boxes, Bx.flatV]
  | x :: l, 0, h => h.1
  | x :: l, b + 1, h => flatVL_at (b := b) h.2
end
theorem lookX_zipN : ∀ {l : List Bx} {k b : Nat}, lookX (zipN k l) (k + b) = boxes l b
  | [], _, _ => rfl
  | x :: l, k, 0 => by simp [zipN, lookX, boxes]
  | x :: l, k, b + 1 => by
    have := lookX_zipN (l := l) (k := k + 1) (b := b)
    simp only [zipN, lookX]
    rw [if_neg (by omega), show k + (b + 1) = k + 1 + b from by omega, this]
    rfl
theorem wfs_at : ∀ {l : List Bx}, (∀ b, (boxes l b).wf) → Bx.wfL l
  | [], _ => trivial
  | x :: l, h => ⟨h 0, wfs_at fun b => h (b + 1)⟩
theorem repAVs_len {w : World} {V : Nat → Prop} {ι : Names} {bx : Nat → Bx} : ∀ {xs : List AV} {vs : List Value}, RepAVs w V ι bx xs vs → xs.length = vs.length
  | [], [], _ => rfl
  | _ :: _, _ :: _, h => by simp only [RepAVs] at h; simp [repAVs_len h.2]
  | [], _ :: _, h => by simp only [RepAVs] at h
  | _ :: _, [], h => by simp only [RepAVs] at h

theorem ansG_of_vcg {P : Program} {Γ : Gam} {f : FuncId} {fn : Func} {pin : Nat} {args : List AV} {ins : List Bx} {r : Ret} (ann : Ann) (hm : P.follows .mixedOrders = true) (hf : P.funcs[f]? = some fn) (hb : fn.body.isSome = true) (hl : args.length ≤ fn.ntmps)
    (hp : (List.range pin).all (fun b => (boxes ins b).known) = true)
    (h : AV.wfL args → Bx.wfL ins → vcg P Γ ⟨fn.ntmps, fun _ => false, List.range pin, false⟩ (bodyOf fn) ann kn0 (startG args ins) (postG P ⟨fn.ntmps, fun _ => false, List.range pin, false⟩ fn.results.toList r)) : AnsG P f pin args ins r := by
  intro w S ι vs hh
  have hargs := hh.args
  have hlen := repAVs_len hargs
  have hk : Keeps w S w (Seen { see := S, lent := OwnB (boxes ins) ι, ref := w, nm := ι } w.heap.size (boxes ins) ι) := fun g off u hV hu => ⟨⟨.inl hV, fun b c hl e => (hh.own b g c hl e).1 hV⟩, hu⟩
  have hr : RepS w { see := S, lent := OwnB (boxes ins) ι, ref := w, nm := ι } ⟨fn.ntmps, fun _ => false, List.range pin, false⟩ (startG args ins) ι { tmps := vs ++ Array.replicate (fn.ntmps - vs.size) undef, defers := [] } w := by
    refine ⟨Bel.refl _ _, ⟨List.Pairwise.nil, fun d hd => by simp at hd⟩, KeepsOthers.refl w, ?_, fun t h => by (cases h), fun b hb => ⟨rfl, (List.all_eq_true.1 hp) b hb⟩, fun t => ?_, fun b => (hh.bx b).seen hk, fun b g c hl e => ⟨.inr ⟨b, c, hl, e⟩, (hh.own b g c hl e).2⟩, hh.dist⟩
    · show (vs ++ Array.replicate (fn.ntmps - vs.size) undef).size = fn.ntmps
      simp at hlen ⊢; omega
    · have h1 : RepAVs w (Seen { see := S, lent := OwnB (boxes ins) ι, ref := w, nm := ι } w.heap.size (boxes ins) ι) ι (boxes ins) args vs.toList := hargs.keep (fun b hb => ⟨hb, rfl⟩) hk
      have h2 := start_tm (k := fn.ntmps - vs.size) h1 t
      rw [← arr_getD] at h2
      exact h2
  have hv := h hargs.wf (wfs_at fun b => (hh.bx b).wf)
  refine calls_of_vcg ann hm hf hb (n := ⟨fn.ntmps, fun _ => false, List.range pin, false⟩) rfl hv hr rfl (fun e kn' s' ι' tmps w' hq hr' => ?_) (fun id kn' s' hq => hq)
  have done : postG P ⟨fn.ntmps, fun _ => false, List.range pin, false⟩ fn.results.toList r .ret kn' s' → ∃ v, (results fn tmps).run P w' = .ok v w' ∧ ∃ v2 ι', Ending.returned v = .returned v2 ∧ After w S ι pin ins r w' ι' v2 := by
    intro hq
    simp only [postG] at hq
    split at hq
    · rename_i xs hxs
      obtain ⟨hfit, hfresh⟩ := hq
      obtain ⟨us, hrun, hus⟩ := res_vals hr' hxs
      have hul := repAVs_len hus
      refine ⟨_, hrun, ?_⟩
      -- the result alone
      have hx : RepAV w' (Seen { see := S, lent := OwnB (boxes ins) ι, ref := w, nm := ι } w.heap.size s'.bx ι') ι' s'.bx (oneOr xs) (if h : us.toArray.size = 1 then us.toArray[0] else .tuple us.toArray) := by
        match xs, us, hus, hul with
        | [x], [u], hus, _ => simp only [RepAVs] at hus; simpa [oneOr] using hus.1
        | [], [], hus, _ => simp only [oneOr, RepAV]; exact ⟨_, rfl, hus⟩
        | x1 :: x2 :: xs, u1 :: u2 :: us, hus, _ => simp only [oneOr, RepAV]; exact ⟨(u1 :: u2 :: us).toArray, by simp, hus⟩
        | [_], [], _, hl => simp at hl
        | [], _ :: _, _, hl => simp at hl
        | [_], _ :: _ :: _, _, hl => simp at hl
        | _ :: _ :: _, [], _, hl => simp at hl
        | _ :: _ :: _, [_], _, hl => simp at hl
      generalize (if h : us.toArray.size = 1 then us.toArray[0] else .tuple us.toArray) = v at hx
      generalize oneOr xs = x at hx hfit
      have h1 : RepS w { see := S, lent := OwnB (boxes ins) ι, ref := w, nm := ι } ⟨1, fun _ => false, List.range pin, false⟩ (postAS x s'.bx) ι' { tmps := #[v], defers := [] } w' :=
        ⟨hr'.bel, ⟨List.Pairwise.nil, fun d hd => by simp at hd⟩, hr'.oth, rfl, fun t h => by (cases h), hr'.pin, fun t => by
          show RepAV _ _ _ _ (if t = 0 then x else .one .dead) _
          split
          · rename_i e; subst e; exact hx
          · simp only [RepAV, RepCl], hr'.bx, hr'.own, hr'.dist⟩
      obtain ⟨ι2, h2⟩ := h1.fit hfit
      have hbx : lookX (zipN 0 r.outs) = boxes r.outs := by
        funext b
        have := lookX_zipN (l := r.outs) (k := 0) (b := b)
        rwa [Nat.zero_add] at this
      have htm : RepAV w' (Seen { see := S, lent := OwnB (boxes ins) ι, ref := w, nm := ι } w.heap.size (boxes r.outs) ι2) ι2 (boxes r.outs) r.res v := by
        have := h2.tm 0
        rw [← hbx]
        exact this
      have hb2 : ∀ b, RepBx w' (Seen { see := S, lent := OwnB (boxes ins) ι, ref := w, nm := ι } w.heap.size (boxes r.outs) ι2) ι2 (boxes r.outs) b (boxes r.outs b) := fun b => by
        have := h2.bx b
        rw [← hbx]
        exact this
      have hown : ∀ b g c, (boxes r.outs b).live = true → ι2 b = some (g, c) → (w.heap.size ≤ g ∨ OwnB (boxes ins) ι g) ∧ g < w'.heap.size := fun b g c hl e => h2.own b g c (by rw [← hbx] at hl; exact hl) e
      have hdist : ∀ b b' g c c', (boxes r.outs b).live = true → (boxes r.outs b').live = true → b ≠ b' → ι2 b = some (g, c) → ι2 b' ≠ some (g, c') := fun b b' g c c' hl hl' => h2.dist b b' g c c' (by rw [← hbx] at hl; exact hl) (by rw [← hbx] at hl'; exact hl')
      have hpin : ∀ b, b < pin → ι2 b = ι b := fun b hb => (h2.pin b (List.mem_range.2 hb)).1
      refine ⟨v, ι2, rfl, ?_⟩
      cases hfr : r.fresh with
      | true =>
        unfold freshOK at hfresh
        rw [hfr] at hfresh
        exact ⟨flat_av hfresh.1 htm, fun b => flat_bx (flatVL_at hfresh.2) (hb2 b), hown, hdist, hpin, h2.bel⟩
      | false =>
        have hk2 : Keeps w' (Seen { see := S, lent := OwnB (boxes ins) ι, ref := w, nm := ι } w.heap.size (boxes r.outs) ι2) w' (Behind w S ι ins r ι2) := fun g off u hV hu => ⟨⟨by
          rcases hV.1 with h | h | h
          · exact .inl ⟨hfr, h⟩
          · exact .inr (.inl h)
          · exact .inr (.inr h), fun ⟨b, c, hl, e⟩ => hV.2 b c hl e⟩, hu⟩
        exact ⟨htm.keep (fun b hb => ⟨hb, rfl⟩) hk2, fun b => (hb2 b).seen hk2, hown, hdist, hpin, h2.bel⟩
    · exact hq.elim
  cases e with
  | normal => exact ⟨fun _ e => by (cases e), done hq⟩
  | ret => exact ⟨fun _ e => by (cases e), done hq⟩
  | exit id => exact hq.elim
end Go.Proofs.Ytoljdijpmnadpaa
