/-
  The operations upon abstract values are right: append.
-/
import Derived.Test.YtoljdijpmnadpaaAbI
import Derived.Maps.AppendAt
namespace Go.Proofs.Ytoljdijpmnadpaa
open Go.RowKit
set_option linter.unusedVariables false
set_option linter.unusedSimpArgs false

theorem rep_ds_app {w : World} {V : Nat → Prop} : ∀ {xs ys : List DV} {us vs : List Value}, RepDs w V xs us → RepDs w V ys vs → RepDs w V (xs ++ ys) (us ++ vs)
  | [], _, [], _, _, h => h
  | _ :: _, _, _ :: _, _, h, h' => ⟨h.1, rep_ds_app h.2 h'⟩
  | [], _, _ :: _, _, h, _ => h.elim
  | _ :: _, _, [], _, h, _ => h.elim
theorem rep_ds_one {w : World} {V : Nat → Prop} : ∀ {xs : List DV} {us : List Value}, RepDs w V xs us → ∀ u ∈ us, u.oneCell' = true
  | [], [], _, _, h => by simp at h
  | _ :: _, _ :: _, h, u, hu => by
    rcases List.mem_cons.1 hu with rfl | hu
    · exact h.1.one
    · exact rep_ds_one h.2 u hu
  | [], _ :: _, h, _, _ => h.elim
  | _ :: _, [], h, _, _ => h.elim
theorem vals_of_cells {w : World} {V : Nat → Prop} {g : Nat} : ∀ {ys : List DV} {off : Nat}, RepCells w V ys g off → ∃ us, RepDs w V ys us ∧ ∀ (j : Nat) u, us[j]? = some u → w.cell? ⟨g, off + j, none⟩ = some u
  | [], _, _ => ⟨[], trivial, fun j u h => by simp at h⟩
  | d :: ds, off, h => by
    simp only [RepCells] at h
    obtain ⟨⟨u, hu, hd⟩, hr⟩ := h
    obtain ⟨us, h1, h2⟩ := vals_of_cells hr
    refine ⟨u :: us, ⟨hd, h1⟩, fun j v hj => ?_⟩
    cases j with
    | zero => simp at hj; subst hj; exact hu
    | succ j =>
      have := h2 j v (by simpa using hj)
      rw [← this]; congr 2; omega

/-- where the cells that are appended lie -/
def Src (w : World) (yv : Value) (m : Nat) (us : List Value) : Prop :=
  (∃ c, yv = .slice none m c ∧ us = []) ∨ ∃ ad c, yv = .slice (some ad) m c ∧ ∀ (j : Nat) u, us[j]? = some u → w.cell? (ad.add j) = some u
theorem src_sl {w : World} {V : Nat → Prop} {m : Nat} {ys : List DV} {yv : Value} (h : RepD w V (.sl m ys) yv) : ∃ us, RepDs w V ys us ∧ Src w yv m us := by
  simp only [RepD] at h
  obtain ⟨A, cap, e, _, _, hl⟩ := h
  cases ys with
  | nil =>
    refine ⟨[], trivial, ?_⟩
    cases A with
    | none => exact .inl ⟨cap, e, rfl⟩
    | some ad => exact .inr ⟨ad, cap, e, fun j u h => by simp at h⟩
  | cons d ds =>
    obtain ⟨g, off, rfl, _, hc⟩ := hl (by simp)
    obtain ⟨us, h1, h2⟩ := vals_of_cells hc
    exact ⟨us, h1, .inr ⟨_, cap, e, fun j u h => by rw [addr_add]; exact h2 j u h⟩⟩
theorem src_ref {w : World} {V : Nat → Prop} {ι : Names} {bx : Nat → Bx} {b m : Nat} {yv : Value} (h : RepAV w V ι bx (.one (.ref b m)) yv) {B : Bx} (hB : RepBx w V ι bx b B) {ys : List DV} (hi : inside B = some ys) :
    ∃ us, RepDs w V ys us ∧ Src w yv m us := by
  simp only [RepAV, RepCl] at h
  obtain ⟨_, h⟩ := h
  cases B with
  | row e size xs =>
    simp only [inside, Option.some.injEq] at hi
    subst hi
    rcases hB with ⟨h1, h2⟩ | ⟨g, cap, cur, h1, h2, h3, h4, h5⟩
    · subst h2
      rcases h with ⟨_, rfl, rfl⟩ | ⟨g, cap, e, _⟩
      · exact ⟨[], trivial, .inl ⟨0, rfl, rfl⟩⟩
      · rw [h1] at e; cases e
    · rcases h with ⟨e, _⟩ | ⟨g', cap', e, rfl, _⟩
      · rw [h1] at e; cases e
      · rw [h1] at e
        simp only [Option.some.injEq, Prod.mk.injEq] at e
        obtain ⟨rfl, rfl⟩ := e
        refine ⟨_, h5, .inr ⟨_, _, rfl, fun j u hj => ?_⟩⟩
        rw [addr_add, Nat.zero_add, cell_of_row w g j cur _ (0, 0) h2]
        rw [List.getElem?_take] at hj
        split at hj
        · simpa using hj
        · cases hj
  | ice xs =>
    simp only [inside, Option.some.injEq] at hi
    subst hi
    rcases hB with ⟨h1, h2⟩ | ⟨g, cap, h1, h2, _⟩
    · subst h2
      rcases h with ⟨_, rfl, rfl⟩ | ⟨g, cap, e, _⟩
      · exact ⟨[], trivial, .inl ⟨0, rfl, rfl⟩⟩
      · rw [h1] at e; cases e
    · rcases h with ⟨e, _⟩ | ⟨g', cap', e, rfl, _⟩
      · rw [h1] at e; cases e
      · rw [h1] at e
        simp only [Option.some.injEq, Prod.mk.injEq] at e
        obtain ⟨rfl, rfl⟩ := e
        obtain ⟨us, u1, u2⟩ := vals_of_cells h2.cells
        exact ⟨us, u1, .inr ⟨_, _, rfl, fun j u hj => by rw [addr_add]; exact u2 j u hj⟩⟩
  | fresh => cases hi
  | gone => cases hi
  | cells _ => cases hi

theorem run_append_any {P : Program} (w : World) (base : Nat) (t ty e : TypeId) (i : TypeInfo) (ht : P.underlying t = some (.slice e)) (hi : P.info? e = some i) (hz : zeroFits i = true)
    (v : Value) (n : Nat) (xs : List Value) (hown : w.ownsRow base e i.size v n xs) (yv : Value) (m : Nat) (news : List Value) (hsrc : Src w yv m news) (hl : news.length = m * i.size) (h1 : ∀ u ∈ news, u.oneCell' = true)
    (h63 : n + m ≤ maxLen) (hbytes : (n + m) * i.bytes ≤ 140737488355328) (hbase : base ≤ w.heap.size) :
    ∃ v' w', (Builtin.append_ #[t, t] ty #[v, yv]).run P w = .ok v' w' ∧ w'.ownsRow base e i.size v' (n + m) (xs ++ news) ∧ w.grownBy w' v.ownBlock ∧ (v'.ownBlock = v.ownBlock ∨ v'.ownBlock = some w.heap.size) := by
  obtain ⟨z, hz, hz1, hz2⟩ : ∃ z, i.zero = some z ∧ 0 < i.size ∧ z.cells.size = i.size := by
    unfold zeroFits at hz
    split at hz
    · rename_i z hz'
      simp at hz
      exact ⟨z, hz', hz.1, hz.2⟩
    · cases hz
  rcases hsrc with ⟨c, rfl, rfl⟩ | ⟨ad, c, rfl, hc⟩
  · have hm : m = 0 := by
      have h0 : m * i.size = 0 := by rw [← hl]; rfl
      rcases Nat.mul_eq_zero.1 h0 with h | h <;> omega
    subst hm
    refine ⟨v, w, ?_, by simpa using hown, ⟨rfl, rfl, rfl, Nat.le_refl _, fun _ _ _ => rfl⟩, .inl rfl⟩
    rcases hown.2 with ⟨rfl, rfl⟩ | ⟨g, cap, cur, rfl, _, hg, hn, _⟩
    · simp [Builtin.append_, run_underlying ht, sizeOf, typeInfo, hi, Builtin.lenOf, Builtin.firstCells]
    · simp [Builtin.append_, run_underlying ht, sizeOf, typeInfo, hi, Builtin.lenOf, Builtin.firstCells, hn, storeCells]
  · obtain ⟨v', w', r1, r2, r3, _, r5⟩ := run_append_own_at (P := P) w base t ty e i z i.size i.bytes ht hi hz rfl rfl hz2 hz1 v n xs hown ad m c news hl hc h1 h63 hbytes hbase
    exact ⟨v', w', r1, r2, r3, r5⟩

theorem RepS.append {w0 : World} {S : Scope} {n : Dom} {s : AS} {ι : Names} {a : Act} {w : World} (h : RepS w0 S n s ι a w) {w' : World} {d b : Nat} (hf : s.bx d = .fresh) (hlb : (s.bx b).live = true) {row : Option Nat}
    (hgrow : w.grownBy w' row) (hrow : ∀ g, row = some g → ∃ c, ι b = some (g, c)) {B : Bx} (hlB : B.live = true) {p : Option (Nat × Nat)}
    (hp : ∀ g c, p = some (g, c) → ((∃ c', ι b = some (g, c')) ∨ w.heap.size ≤ g) ∧ g < w'.heap.size) :
    let bx' := ((s.setB d B).setB b .gone).bx
    let ι' : Names := fun x => if x = d then p else ι x
    Stays ι s.bx ι' bx' ∧ Keeps w (Seen S w0.heap.size s.bx ι) w' (Seen S w0.heap.size bx' ι') ∧ (bx' d).known = true ∧
    (RepBx w' (Seen S w0.heap.size bx' ι') ι' bx' d B → RepS w0 S n ((s.setB d B).setB b .gone) ι' a w') := by
  intro bx' ι'
  have hkl : ∀ X : Bx, X.live = true → X.known = true := fun X h => by cases X <;> simp_all [Bx.live, Bx.known]
  have hbd : b ≠ d := fun e => by subst e; rw [hf] at hlb; simp [Bx.live] at hlb
  have ed : bx' d = B := by simp [bx', AS.setB, Ne.symm hbd]
  have eb : bx' b = .gone := by simp [bx', AS.setB]
  have eo : ∀ x, x ≠ d → x ≠ b → bx' x = s.bx x := fun x h1 h2 => by simp [bx', AS.setB, h1, h2]
  have hne : ∀ x, (s.bx x).known = true → x ≠ d := fun x hk e => by subst e; rw [hf] at hk; simp [Bx.known] at hk
  have hstay : Stays ι s.bx ι' bx' := fun x hk => by
    have h1 := hne x hk
    refine ⟨?_, by simp [ι', h1]⟩
    by_cases h2 : x = b
    · subst h2; rw [eb]; rfl
    · rw [eo x h1 h2]; exact hk
  have hkeep : Keeps w (Seen S w0.heap.size s.bx ι) w' (Seen S w0.heap.size bx' ι') := by
    intro g off u hV hu
    have hlt : g < w.heap.size := World.block_lt_of_cell? w _ hu
    have hgr : some g ≠ row := fun e => by
      obtain ⟨c, hc⟩ := hrow g e.symm
      exact hV.2 b c hlb hc
    refine ⟨⟨hV.1, fun x c hl e => ?_⟩, by rw [← hu]; simp [World.cell?, hgrow.block g hlt hgr]⟩
    by_cases h1 : x = d
    · subst h1
      simp only [ι', if_true] at e
      rcases (hp g c e).1 with ⟨c', h2⟩ | h2
      · exact hV.2 b c' hlb h2
      · omega
    · simp only [ι', if_neg h1] at e
      by_cases h2 : x = b
      · subst h2; rw [eb] at hl; simp [Bx.live] at hl
      · rw [eo x h1 h2] at hl; exact hV.2 x c hl e
  refine ⟨hstay, hkeep, by rw [ed]; exact hkl B hlB, fun hB => ?_⟩
  have hle : w0.heap.size ≤ w.heap.size := h.bel.size
  refine h.move (bx' := bx') ⟨hgrow.os.trans h.bel.os, hgrow.tape.trans h.bel.tape, hgrow.output.trans h.bel.output, Nat.le_trans h.bel.size hgrow.size, fun k hk hl => (hgrow.block k (by omega) fun e => ?_).trans (h.bel.block k hk hl)⟩ (.of_grownBy hgrow fun j o ej hj => ?_) hstay hkeep (fun x => ?_) (fun x g c hl e => ?_) (fun x x' g c c' hl hl' hxx e => ?_)
  · obtain ⟨c, hc⟩ := hrow k e.symm
    rcases (h.own b k c hlb hc).1 with q | q
    · omega
    · exact hl q
  · obtain ⟨c, hc⟩ := hrow j ej
    obtain ⟨cur, T, i, hcur⟩ := h.live_cells hlb hc
    rw [hcur] at hj
    injection hj with hj
    subst hj
    rfl
  · by_cases h1 : x = d
    · subst h1; right; rw [ed]; exact hB
    · by_cases h2 : x = b
      · subst h2; right; rw [eb]; trivial
      · left
        refine ⟨eo x h1 h2, fun hl g c e => hgrow.block g (h.own x g c hl e).2 fun e' => ?_⟩
        obtain ⟨c', hc'⟩ := hrow g e'.symm
        exact h.dist x b g c c' hl hlb h2 e hc'
  · by_cases h1 : x = d
    · subst h1
      simp only [ι', if_true] at e
      have h3 := hp g c e
      rcases h3.1 with ⟨c', h2⟩ | h2
      · exact ⟨(h.own b g c' hlb h2).1, h3.2⟩
      · exact ⟨.inl (by omega), h3.2⟩
    · simp only [ι', if_neg h1] at e
      by_cases h2 : x = b
      · subst h2; rw [eb] at hl; simp [Bx.live] at hl
      · rw [eo x h1 h2] at hl
        have := h.own x g c hl e
        exact ⟨this.1, Nat.lt_of_lt_of_le this.2 hgrow.size⟩
  · have key : ∀ y gg cc, y ≠ d → (bx' y).live = true → ι y = some (gg, cc) → ∀ c1, p ≠ some (gg, c1) := by
      intro y gg cc h1 hly ey c1 ep
      by_cases h2 : y = b
      · subst h2; rw [eb] at hly; simp [Bx.live] at hly
      · rw [eo y h1 h2] at hly
        rcases (hp gg c1 ep).1 with ⟨c2, h3⟩ | h3
        · exact h.dist y b gg cc c2 hly hlb h2 ey h3
        · have := h.own y gg cc hly ey
          omega
    by_cases h1 : x = d
    · have h1' : x' ≠ d := fun e' => hxx (h1.trans e'.symm)
      simp only [ι', if_pos h1] at e
      simp only [ι', if_neg h1']
      intro e'
      exact key x' g c' h1' hl' e' c e
    · simp only [ι', if_neg h1] at e
      by_cases h1' : x' = d
      · simp only [ι', if_pos h1']
        exact key x g c h1 hl e c'
      · simp only [ι', if_neg h1']
        have g1 : x ≠ b := fun e2 => by rw [e2, eb] at hl; simp [Bx.live] at hl
        have g2 : x' ≠ b := fun e2 => by rw [e2, eb] at hl'; simp [Bx.live] at hl'
        rw [eo x h1 g1] at hl
        rw [eo x' h1' g2] at hl'
        exact h.dist x x' g c c' hl hl' hxx e

def nameOf : Value → Option (Nat × Nat)
  | .slice (some a) _ cap => some (a.block, cap)
  | _ => none
/-- what an append leaves -/
theorem rep_appended {w' : World} {V' : Nat → Prop} {ι' : Names} {bx' : Nat → Bx} {d base e size n : Nat} {v' : Value} {us : List Value} {zs : List DV} (hk : (bx' d).known = true) (hown : w'.ownsRow base e size v' n us) (hz : RepDs w' V' zs us) (hzl : zs.length = n * size)
    {p : Option (Nat × Nat)} (hp : p = nameOf v') (hd : ι' d = p) : RepBx w' V' ι' bx' d (.row e size zs) ∧ RepAV w' V' ι' bx' (.one (.ref d n)) v' := by
  simp only [RepAV, RepCl]
  rcases hown.2 with ⟨rfl, rfl⟩ | ⟨g, cap, cur, rfl, h1, h2, h3, h4, h5, h6⟩
  · simp only [nameOf] at hp
    subst hp
    exact ⟨.inl ⟨hd, List.eq_nil_of_length_eq_zero (by simpa using hzl)⟩, hk, .inl ⟨hd, rfl, rfl⟩⟩
  · simp only [nameOf] at hp
    subst hp
    refine ⟨.inr ⟨g, cap, cur, hd, h2, h4, h5, ?_⟩, hk, .inr ⟨g, cap, hd, rfl, h3⟩⟩
    rw [hzl, h6]
    exact hz
theorem own_value {w : World} {base e size n : Nat} {v : Value} {us : List Value} (h : w.ownsRow base e size v n us) : ∀ g c, nameOf v = some (g, c) → v.ownBlock = some g ∧ g < w.heap.size := by
  intro g c e
  rcases h.2 with ⟨rfl, rfl⟩ | ⟨g', cap, cur, rfl, h1, h2, h3, h4, h5, h6⟩
  · cases e
  · simp only [nameOf, Option.some.injEq, Prod.mk.injEq] at e
    obtain ⟨rfl, rfl⟩ := e
    exact ⟨rfl, (Array.getElem?_eq_some_iff.1 h2).1⟩
/-- the row that is appended to -/
theorem own_of_ref {w0 : World} {S : Scope} {m : Dom} {s : AS} {ι : Names} {a : Act} {w : World} (h : RepS w0 S m s ι a w) {b n e size : Nat} {xs : List DV} (hB : s.bx b = .row e size xs) (hn : xs.length = n * size) {v : Value} (hv : RepAV w (Seen S w0.heap.size s.bx ι) ι s.bx (.one (.ref b n)) v) :
    ∃ us, w.ownsRow 0 e size v n us ∧ RepDs w (Seen S w0.heap.size s.bx ι) xs us ∧ (∀ g, v.ownBlock = some g → ∃ c, ι b = some (g, c)) := by
  simp only [RepAV, RepCl] at hv
  obtain ⟨_, hv⟩ := hv
  have hb := h.bx b
  rw [hB] at hb
  rcases hb with ⟨h1, rfl⟩ | ⟨g, cap, cur, h1, h2, h3, h4, h5⟩
  · rcases hv with ⟨_, rfl, rfl⟩ | ⟨g, cap, e', _⟩
    · exact ⟨[], World.ownsRow_nil _ _ _ _, trivial, fun g h => by simp [Value.ownBlock] at h⟩
    · rw [h1] at e'; cases e'
  · rcases hv with ⟨e', _⟩ | ⟨g', cap', e', rfl, hle⟩
    · rw [h1] at e'; cases e'
    · rw [h1] at e'
      simp only [Option.some.injEq, Prod.mk.injEq] at e'
      obtain ⟨rfl, rfl⟩ := e'
      have ho := h.own b g cap (by rw [hB]; rfl) h1
      rw [hn] at h5
      refine ⟨_, ⟨?_, .inr ⟨g, cap, cur, rfl, Nat.zero_le _, h2, hle, h3, h4, rfl⟩⟩, h5, fun g' hg' => ?_⟩
      · rw [← rep_ds_len h5, hn]
      · simp only [Value.ownBlock, Option.some.injEq] at hg'
        subst hg'
        exact ⟨cap, h1⟩

section
variable {P : Program} {o : Oper} {s : AS}
theorem sound_append_row {t e d b n m : Nat} {x y : Operand} {i : TypeInfo} {xs ys : List DV} (ho : o.op = .call { callee := .builtin .append, args := #[x, y], argTypes := #[t, t] }) (hu : P.underlying t = some (.slice e)) (hi : P.info? e = some i) (hz : zeroFits i = true)
    (hf : s.bx d = .fresh) (hB : s.bx b = .row e i.size xs) (hx : s.eval x = .one (.ref b n))
    (hsrc : ∀ (w0 : World) (S : Scope) (k : Dom) (ι : Names) (a : Act) (w : World), RepS w0 S k s ι a w → ∃ us, RepDs w (Seen S w0.heap.size s.bx ι) ys us ∧ Src w (a.eval y) m us) :
    Sound P o s (appVc i.size i.bytes n m xs ys) (.one (.ref d (n + m))) [d, b] [.row e i.size (xs ++ ys), .gone] := by
  intro w0 S k ι a w K Q hr hvc hK
  obtain ⟨c1, c2, c3, c4⟩ := hvc
  have hv := hr.eval x
  rw [hx] at hv
  obtain ⟨us, hown, hus, hblk⟩ := own_of_ref hr hB c1 hv
  obtain ⟨news, hnews, hs⟩ := hsrc w0 S k ι a w hr
  obtain ⟨v', w', r1, r2, r3, r4⟩ := run_append_any w 0 t o.type e i hu hi hz (a.eval x) n us hown (a.eval y) m news hs (by rw [← rep_ds_len hnews, c2]) (rep_ds_one hnews) c3 c4 (Nat.zero_le _)
  have hlb : (s.bx b).live = true := by rw [hB]; rfl
  have hval := own_value r2
  obtain ⟨g1, g2, g3, g4⟩ := hr.append hf hlb r3 hblk (B := .row e i.size (xs ++ ys)) rfl (p := nameOf v') (fun g c hp => by
    have h1 := hval g c hp
    refine ⟨?_, h1.2⟩
    rcases r4 with h2 | h2
    · left; exact hblk g (by rw [← h2]; exact h1.1)
    · right
      rw [h2] at h1
      have := h1.1
      simp only [Option.some.injEq] at this
      omega)
  have hrep := rep_appended (d := d) (ι' := fun z => if z = d then nameOf v' else ι z) g3 r2 (rep_ds_app (hus.keep g2) (hnews.keep g2)) (by rw [List.length_append, c1, c2, Nat.add_mul]) rfl (by simp)
  unfold Oper.wp
  rw [right_call_op ho a w w' v' (fun cs => by simp [builtin, r1])]
  exact hK _ v' w' (g4 hrep.1) hrep.2
theorem sound_append_nil {t e d m : Nat} {x y : Operand} {i : TypeInfo} {ys : List DV} (ho : o.op = .call { callee := .builtin .append, args := #[x, y], argTypes := #[t, t] }) (hu : P.underlying t = some (.slice e)) (hi : P.info? e = some i) (hz : zeroFits i = true)
    (hf : s.bx d = .fresh) (hx : s.eval x = .one .nil)
    (hsrc : ∀ (w0 : World) (S : Scope) (k : Dom) (ι : Names) (a : Act) (w : World), RepS w0 S k s ι a w → ∃ us, RepDs w (Seen S w0.heap.size s.bx ι) ys us ∧ Src w (a.eval y) m us) :
    Sound P o s (appVc i.size i.bytes 0 m [] ys) (.one (.ref d m)) [d] [.row e i.size ys] := by
  intro w0 S k ι a w K Q hr hvc hK
  obtain ⟨c1, c2, c3, c4⟩ := hvc
  have hv := hr.eval x
  rw [hx] at hv
  simp only [RepAV, RepCl] at hv
  obtain ⟨news, hnews, hs⟩ := hsrc w0 S k ι a w hr
  obtain ⟨v', w', r1, r2, r3, r4⟩ := run_append_any w w0.heap.size t o.type e i hu hi hz (a.eval x) 0 [] (by rw [hv]; exact World.ownsRow_nil _ _ _ _) (a.eval y) m news hs (by rw [← rep_ds_len hnews, c2]) (rep_ds_one hnews) c3 c4 hr.bel.size
  rw [hv] at r3 r4
  simp only [Nat.zero_add, List.nil_append] at r2
  have hval := own_value r2
  have hbel : Below w.heap.size w w' := ⟨r3.os, r3.tape, r3.output, r3.size, fun k hk => r3.block k hk (by simp [Value.ownBlock])⟩
  have hp : ∀ g c, nameOf v' = some (g, c) → w.heap.size ≤ g ∧ g < w'.heap.size := fun g c hp => by
    have h1 := hval g c hp
    refine ⟨?_, h1.2⟩
    rcases r4 with h2 | h2
    · rw [h2] at h1; simp [Value.ownBlock] at h1
    · rw [h2] at h1
      have := h1.1
      simp only [Option.some.injEq] at this
      omega
  have g2 := new_keeps (S := S) (B0 := w0.heap.size) (bx := s.bx) (ι := ι) (b0 := d) (B := .row e i.size ys) hbel hp
  have hrep := rep_appended (d := d) (ι' := fun z => if z = d then nameOf v' else ι z) (bx' := (s.setB d (.row e i.size ys)).bx) (by simp [AS.setB, Bx.known]) r2 (hnews.keep g2) c2 rfl (by simp)
  unfold Oper.wp
  rw [right_call_op ho a w w' v' (fun cs => by simp [builtin, r1])]
  exact hK _ v' w' (hr.new_ hf hbel rfl hp hrep.1) hrep.2
theorem right_append {x y : Operand} {ts : Array TypeId} (ho : o.op = .call { callee := .builtin .append, args := #[x, y], argTypes := ts }) : Right P o s (opAppend P o.dst ts (s.eval x) (s.eval y)) := by
  unfold opAppend
  split
  · rename_i d t t' hd hts
    split
    · exact .none
    · rename_i htt
      have htt : t = t' := by simpa using htt
      subst htt
      have hts' : ts = #[t, t] := by rw [← Array.toArray_toList (xs := ts), hts]
      rw [hts'] at ho
      split
      · rename_i e hu
        split
        · rename_i i hi
          split
          · exact .none
          · rename_i hz
            have hz : zeroFits i = true := by simpa using hz
            split
            · rename_i b' m hx hy
              intro e' he vc v bs hf
              injection he with he; subst he
              simp only [List.map_cons, List.map_nil] at hf ⊢
              cases hfr : s.bx d <;> rw [hfr] at hf <;> simp only [reduceCtorEq] at hf
              cases hin : inside (s.bx b') with
              | none => rw [hin] at hf; cases hf
              | some ys =>
                rw [hin] at hf
                simp only [Option.map_some, Option.some.injEq, Prod.mk.injEq] at hf
                obtain ⟨rfl, rfl, rfl⟩ := hf
                exact sound_append_nil ho hu hi hz hfr hx fun w0 S k ι a w hr => src_ref (by have := hr.eval y; rwa [hy] at this) (hr.bx b') hin
            · rename_i b n b' m hx hy
              split
              · exact .none
              · intro e' he vc v bs hf
                injection he with he; subst he
                simp only [List.map_cons, List.map_nil] at hf ⊢
                cases hfr : s.bx d <;> rw [hfr] at hf <;> simp only [reduceCtorEq] at hf
                cases hB : s.bx b <;> rw [hB] at hf <;> simp only [rowOf, reduceCtorEq] at hf
                rename_i e2 size2 xs
                by_cases hc : e2 = e ∧ size2 = i.size
                · obtain ⟨rfl, rfl⟩ := hc
                  simp only [and_self, if_true] at hf
                  cases hin : inside (s.bx b') with
                  | none => rw [hin] at hf; cases hf
                  | some ys =>
                    rw [hin] at hf
                    simp only [Option.some.injEq, Prod.mk.injEq] at hf
                    obtain ⟨rfl, rfl, rfl⟩ := hf
                    exact sound_append_row ho hu hi hz hfr hB hx fun w0 S k ι a w hr => src_ref (by have := hr.eval y; rwa [hy] at this) (hr.bx b') hin
                · simp only [if_neg hc, reduceCtorEq] at hf
            · rename_i hx _
              split
              · rename_i m ys hy
                intro e' he vc v bs hf
                injection he with he; subst he
                simp only [Eff.new, List.map_cons, List.map_nil] at hf ⊢
                cases hfr : s.bx d <;> rw [hfr] at hf <;> simp only [Option.some.injEq, Prod.mk.injEq, reduceCtorEq] at hf
                obtain ⟨rfl, rfl, rfl⟩ := hf
                exact sound_append_nil ho hu hi hz hfr hx fun w0 S k ι a w hr => src_sl (rep_dv (hr.eval y) hy)
              · exact .none
            · rename_i b n hx hne
              split
              · rename_i m ys hy
                intro e' he vc v bs hf
                injection he with he; subst he
                simp only [List.map_cons, List.map_nil] at hf ⊢
                cases hfr : s.bx d <;> rw [hfr] at hf <;> simp only [reduceCtorEq] at hf
                cases hB : s.bx b <;> rw [hB] at hf <;> simp only [rowOf, Option.map_none, reduceCtorEq] at hf
                rename_i e2 size2 xs
                by_cases hc : e2 = e ∧ size2 = i.size
                · obtain ⟨rfl, rfl⟩ := hc
                  simp only [and_self, if_true, Option.map_some, Option.some.injEq, Prod.mk.injEq] at hf
                  obtain ⟨rfl, rfl, rfl⟩ := hf
                  exact sound_append_row ho hu hi hz hfr hB hx fun w0 S k ι a w hr => src_sl (rep_dv (hr.eval y) hy)
                · simp only [if_neg hc, Option.map_none, reduceCtorEq] at hf
              · exact .none
            · exact .none
        · exact .none
      · exact .none
  · exact .none
end
end Go.Proofs.Ytoljdijpmnadpaa
