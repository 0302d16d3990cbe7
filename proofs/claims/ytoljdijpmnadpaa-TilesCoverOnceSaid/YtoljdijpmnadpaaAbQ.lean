/-
  Procedures: calls that are handed boxes of the caller's; function values.
-/
import Derived.Test.YtoljdijpmnadpaaAbK
import Derived.OrdersIn
namespace Go.Proofs.Ytoljdijpmnadpaa
open Go.RowKit
set_option linter.unusedVariables false
set_option linter.unusedSimpArgs false

/-! ### names turned -/
def Cap.names : Cap → List Nat
  | .ptr b _ => [b]
  | .d _ => []
def Cap.ren (ρ : Nat → Nat) : Cap → Cap
  | .ptr b off => .ptr (ρ b) off
  | .d v => .d v
def Cl.names : Cl → List Nat
  | .ptr b _ => [b]
  | .ref b _ => [b]
  | .clo _ cs => cs.flatMap Cap.names
  | _ => []
def Cl.ren (ρ : Nat → Nat) : Cl → Cl
  | .ptr b off => .ptr (ρ b) off
  | .ref b n => .ref (ρ b) n
  | .clo f cs => .clo f (cs.map (Cap.ren ρ))
  | .d v => .d v
  | .lit v => .lit v
  | .nil => .nil
  | .vp cs off => .vp cs off
  | .dead => .dead
mutual
def AV.names : AV → List Nat
  | .one c => c.names
  | .agg cs => cs.flatMap Cl.names
  | .tup vs => AV.namesL vs
def AV.namesL : List AV → List Nat
  | [] => []
  | x :: xs => x.names ++ AV.namesL xs
end
mutual
def AV.ren (ρ : Nat → Nat) : AV → AV
  | .one c => .one (c.ren ρ)
  | .agg cs => .agg (cs.map (Cl.ren ρ))
  | .tup vs => .tup (AV.renL ρ vs)
def AV.renL (ρ : Nat → Nat) : List AV → List AV
  | [] => []
  | x :: xs => x.ren ρ :: AV.renL ρ xs
end
def Bx.names : Bx → List Nat
  | .cells cs => cs.flatMap Cl.names
  | _ => []
def Bx.ren (ρ : Nat → Nat) : Bx → Bx
  | .cells cs => .cells (cs.map (Cl.ren ρ))
  | B => B

section
variable {w : World} {V : Nat → Prop} {ι ι' : Names} {bx bx' : Nat → Bx} {ρ : Nat → Nat}
def Turns (ι : Names) (bx : Nat → Bx) (ι' : Names) (bx' : Nat → Bx) (ρ : Nat → Nat) (b : Nat) : Prop := (bx b).known = true → ι' (ρ b) = ι b ∧ (bx' (ρ b)).known = true
theorem RepCap.turn {c : Cap} {v : Value} (h : RepCap ι bx w V c v) (hn : ∀ b ∈ c.names, Turns ι bx ι' bx' ρ b) : RepCap ι' bx' w V (c.ren ρ) v := by
  cases c with
  | d x => exact h
  | ptr b off =>
    obtain ⟨h1, g, c, h2, h3⟩ := h
    obtain ⟨e1, e2⟩ := hn b (by simp [Cap.names]) h1
    exact ⟨e2, g, c, by rw [e1]; exact h2, h3⟩
theorem RepCaps.turn : ∀ {cs : List Cap} {vs : List Value}, RepCaps ι bx w V cs vs → (∀ b ∈ cs.flatMap Cap.names, Turns ι bx ι' bx' ρ b) → RepCaps ι' bx' w V (cs.map (Cap.ren ρ)) vs
  | [], [], _, _ => trivial
  | _ :: _, _ :: _, h, hn => ⟨h.1.turn fun b hb => hn b (by simp [hb]), RepCaps.turn h.2 fun b hb => hn b (by rw [List.flatMap_cons, List.mem_append]; exact .inr hb)⟩
  | [], _ :: _, h, _ => h.elim
  | _ :: _, [], h, _ => h.elim
theorem RepCl.turn {c : Cl} {v : Value} (h : RepCl w V ι bx c v) (hn : ∀ b ∈ c.names, Turns ι bx ι' bx' ρ b) : RepCl w V ι' bx' (c.ren ρ) v := by
  cases c with
  | ptr b off =>
    obtain ⟨h1, g, c, h2, h3⟩ := h
    obtain ⟨e1, e2⟩ := hn b (by simp [Cl.names]) h1
    exact ⟨e2, g, c, by rw [e1]; exact h2, h3⟩
  | ref b n =>
    obtain ⟨h1, h2⟩ := h
    obtain ⟨e1, e2⟩ := hn b (by simp [Cl.names]) h1
    exact ⟨e2, by rw [e1]; exact h2⟩
  | clo f cs =>
    obtain ⟨lb, h1, h2⟩ := h
    exact ⟨lb, h1, h2.turn hn⟩
  | d x => exact h
  | lit u => exact h
  | nil => exact h
  | vp cs off => exact h
  | dead => trivial
theorem RepCls.turn : ∀ {cs : List Cl} {vs : List Value}, RepCls w V ι bx cs vs → (∀ b ∈ cs.flatMap Cl.names, Turns ι bx ι' bx' ρ b) → RepCls w V ι' bx' (cs.map (Cl.ren ρ)) vs
  | [], [], _, _ => trivial
  | _ :: _, _ :: _, h, hn => ⟨h.1.turn fun b hb => hn b (by simp [hb]), RepCls.turn h.2 fun b hb => hn b (by rw [List.flatMap_cons, List.mem_append]; exact .inr hb)⟩
  | [], _ :: _, h, _ => h.elim
  | _ :: _, [], h, _ => h.elim
mutual
theorem RepAV.turn : ∀ {x : AV} {v : Value}, RepAV w V ι bx x v → (∀ b ∈ x.names, Turns ι bx ι' bx' ρ b) → RepAV w V ι' bx' (x.ren ρ) v
  | .one c, v, h, hn => by simp only [RepAV, AV.ren] at h ⊢; simp only [AV.names] at hn; exact h.turn hn
  | .agg cs, v, h, hn => by
    simp only [RepAV, AV.ren] at h ⊢
    simp only [AV.names] at hn
    obtain ⟨cur, e, hc⟩ := h
    exact ⟨cur, e, hc.turn hn⟩
  | .tup vs, v, h, hn => by
    simp only [RepAV, AV.ren] at h ⊢
    simp only [AV.names] at hn
    obtain ⟨cur, e, hc⟩ := h
    exact ⟨cur, e, RepAVs.turn hc hn⟩
theorem RepAVs.turn : ∀ {xs : List AV} {vs : List Value}, RepAVs w V ι bx xs vs → (∀ b ∈ AV.namesL xs, Turns ι bx ι' bx' ρ b) → RepAVs w V ι' bx' (AV.renL ρ xs) vs
  | [], [], _, _ => by simp only [AV.renL, RepAVs]
  | x :: xs, v :: vs, h, hn => by
    simp only [RepAVs, AV.renL, AV.namesL] at h hn ⊢
    exact ⟨RepAV.turn h.1 fun b hb => hn b (by simp [hb]), RepAVs.turn h.2 fun b hb => hn b (by simp [hb])⟩
  | [], _ :: _, h, _ => by simp only [RepAVs] at h
  | _ :: _, [], h, _ => by simp only [RepAVs] at h
end
theorem RepBx.turn {b b' : Nat} {B : Bx} (h : RepBx w V ι bx b B) (hb : ι' b' = ι b) (hn : ∀ x ∈ B.names, Turns ι bx ι' bx' ρ x) : RepBx w V ι' bx' b' (B.ren ρ) := by
  cases B with
  | fresh => trivial
  | gone => trivial
  | cells cs =>
    obtain ⟨g, c, cur, T, h1, h2, h3⟩ := h
    exact ⟨g, c, cur, T, by rw [hb]; exact h1, h2, h3.turn hn⟩
  | row e size xs =>
    rcases h with ⟨h1, h2⟩ | ⟨g, cap, cur, h1, h2, h3, h4, h5⟩
    · exact .inl ⟨by rw [hb]; exact h1, h2⟩
    · exact .inr ⟨g, cap, cur, by rw [hb]; exact h1, h2, h3, h4, h5⟩
  | ice xs =>
    rcases h with ⟨h1, h2⟩ | ⟨g, cap, h1, h2, h3⟩
    · exact .inl ⟨by rw [hb]; exact h1, h2⟩
    · exact .inr ⟨g, cap, by rw [hb]; exact h1, h2, h3⟩
theorem Bx.ren_live (B : Bx) (ρ : Nat → Nat) : (B.ren ρ).live = B.live := by cases B <;> rfl
theorem Bx.ren_known (B : Bx) (ρ : Nat → Nat) : (B.ren ρ).known = B.known := by cases B <;> rfl
/-- what lies there lies there for who sees more -/
theorem RepBx.seen {V' : Nat → Prop} (hk : Keeps w V w V') {b : Nat} {B : Bx} (h : RepBx w V ι bx b B) : RepBx w V' ι bx b B := by
  cases B with
  | fresh => trivial
  | gone => trivial
  | cells cs =>
    obtain ⟨g, c, cur, T, h1, h2, h3⟩ := h
    exact ⟨g, c, cur, T, h1, h2, h3.keep (fun b hb => ⟨hb, rfl⟩) hk⟩
  | row e size xs =>
    rcases h with h1 | ⟨g, cap, cur, h1, h2, h3, h4, h5⟩
    · exact .inl h1
    · exact .inr ⟨g, cap, cur, h1, h2, h3, h4, h5.keep hk⟩
  | ice xs =>
    rcases h with h1 | ⟨g, cap, h1, h2, h3⟩
    · exact .inl h1
    · exact .inr ⟨g, cap, h1, h2.keep hk, h3⟩
end

/-! ### a procedure's contract -/
def boxes (l : List Bx) : Nat → Bx := fun b => l.getD b .fresh
def OwnB (bx : Nat → Bx) (ι : Names) (g : Nat) : Prop := ∃ b c, (bx b).live = true ∧ ι b = some (g, c)
/-- what a procedure's caller may see behind it -/
def Behind (w : World) (S : Nat → Prop) (ι : Names) (ins : List Bx) (r : Ret) (ι' : Names) : Nat → Prop :=
  fun g => ((r.fresh = false ∧ S g) ∨ w.heap.size ≤ g ∨ OwnB (boxes ins) ι g) ∧ ¬ OwnB (boxes r.outs) ι' g
structure After (w : World) (S : Nat → Prop) (ι : Names) (pin : Nat) (ins : List Bx) (r : Ret) (w' : World) (ι' : Names) (v : Value) : Prop where
  rep : RepAV w' (Behind w S ι ins r ι') ι' (boxes r.outs) r.res v
  bx : ∀ b, RepBx w' (Behind w S ι ins r ι') ι' (boxes r.outs) b (boxes r.outs b)
  own : ∀ b g c, (boxes r.outs b).live = true → ι' b = some (g, c) → (w.heap.size ≤ g ∨ OwnB (boxes ins) ι g) ∧ g < w'.heap.size
  dist : ∀ b b' g c c', (boxes r.outs b).live = true → (boxes r.outs b').live = true → b ≠ b' → ι' b = some (g, c) → ι' b' ≠ some (g, c')
  pin : ∀ b, b < pin → ι' b = ι b
  bel : Bel (OwnB (boxes ins) ι) w w'
/-- what a procedure is handed -/
structure Handed_ (w : World) (S : Nat → Prop) (ι : Names) (args : List AV) (ins : List Bx) (vs : List Value) : Prop where
  own : ∀ b g c, (boxes ins b).live = true → ι b = some (g, c) → ¬ S g ∧ g < w.heap.size
  dist : ∀ b b' g c c', (boxes ins b).live = true → (boxes ins b').live = true → b ≠ b' → ι b = some (g, c) → ι b' ≠ some (g, c')
  bx : ∀ b, RepBx w S ι (boxes ins) b (boxes ins b)
  args : RepAVs w S ι (boxes ins) args vs
def AnsG (P : Program) (f : FuncId) (pin : Nat) (args : List AV) (ins : List Bx) (r : Ret) : Prop :=
  ∀ (w : World) (S : Nat → Prop) (ι : Names) (vs : Array Value), Handed_ w S ι args ins vs.toList →
    Calls P f vs w fun ed w' => ∃ v ι', ed = .returned v ∧ After w S ι pin ins r w' ι' v

/-! ### effects of two levels -/
structure Eff2 where
  rds : List Nat
  more : List Bx → List Nat
  f : List Bx → List Bx → Option (Prop × AV × List (Nat × Bx))
def Eff.up (e : Eff) : Eff2 := ⟨e.rds, fun _ => [], fun bs _ => (e.f bs).map fun r => (r.1, r.2.1, e.wrs.zip r.2.2)⟩
def AS.setL (s : AS) (ws : List (Nat × Bx)) : AS := s.setBs (ws.map (·.1)) (ws.map (·.2))
def Eff2.touch (e : Eff2) (bx : Nat → Bx) : List Nat × List Nat :=
  (e.rds ++ e.more (e.rds.map bx), match e.f (e.rds.map bx) ((e.more (e.rds.map bx)).map bx) with
    | some (_, _, ws) => ws.map (·.1)
    | none => [])
theorem Eff2.agree (e : Eff2) {bx bx' : Nat → Bx} (h : ∀ b ∈ (e.touch bx).1, bx b = bx' b) : e.rds.map bx = e.rds.map bx' ∧ (e.more (e.rds.map bx)).map bx = (e.more (e.rds.map bx')).map bx' := by
  have h1 : e.rds.map bx = e.rds.map bx' := List.map_congr_left fun b hb => h b (by simp [Eff2.touch, hb])
  refine ⟨h1, ?_⟩
  rw [← h1]
  exact List.map_congr_left fun b hb => h b (by simp only [Eff2.touch, List.mem_append]; exact .inr hb)
theorem Eff2.touch_congr (e : Eff2) {bx bx' : Nat → Bx} (h : ∀ b ∈ (e.touch bx).1, bx b = bx' b) : e.touch bx = e.touch bx' := by
  obtain ⟨h1, h2⟩ := e.agree h
  unfold Eff2.touch
  rw [h2, h1]
theorem setBs_zip : ∀ (bs : List Nat) (Bs : List Bx) (s : AS), s.setBs ((bs.zip Bs).map (·.1)) ((bs.zip Bs).map (·.2)) = s.setBs bs Bs
  | [], _, _ => by simp [AS.setBs]
  | _ :: _, [], _ => by simp [AS.setBs]
  | b :: bs, B :: Bs, s => by simp only [List.zip_cons_cons, List.map_cons, AS.setBs]; exact setBs_zip bs Bs _

def Right2 (P : Program) (o : Oper) (s : AS) (e : Option Eff2) : Prop :=
  ∀ e', e = some e' → ∀ vc v ws, e'.f (e'.rds.map s.bx) ((e'.more (e'.rds.map s.bx)).map s.bx) = some (vc, v, ws) → Sound P o s vc v (ws.map (·.1)) (ws.map (·.2))
theorem Right2.none {P : Program} {o : Oper} {s : AS} : Right2 P o s none := fun _ h => by cases h
theorem Right.up {P : Program} {o : Oper} {s : AS} {e : Option Eff} (h : Right P o s e) : Right2 P o s (e.map Eff.up) := by
  intro e' he vc v ws hf
  obtain ⟨e0, he0, rfl⟩ := Option.map_eq_some_iff.1 he
  simp only [Eff.up] at hf
  obtain ⟨⟨vc0, v0, bs0⟩, hf1, hf'⟩ := Option.map_eq_some_iff.1 hf
  simp only [Prod.mk.injEq] at hf'
  obtain ⟨rfl, rfl, rfl⟩ := hf'
  have hs := h e0 he0 vc0 v0 bs0 hf1
  intro w0 S n ι a w K Q hr hvc hK
  refine hs w0 S n ι a w K Q hr hvc fun ι' u w' h1 h2 => hK ι' u w' ?_ ?_
  · rw [setBs_zip]; exact h1
  · rw [setBs_zip]; exact h2
end Go.Proofs.Ytoljdijpmnadpaa
