/-
  A function's statement suffices: it answers as it says.
-/
import Derived.Test.YtoljdijpmnadpaaAbN
namespace Go.Proofs.Ytoljdijpmnadpaa
open Go.RowKit
set_option linter.unusedVariables false
set_option linter.unusedSimpArgs false

def AExit.exit_ : AExit → Exit
  | .normal => .normal
  | .exit id => .exit id
  | .ret => .ret

section
variable {P : Program} {Γ : Gam}
theorem kn0_ok (s : AS) : KnOK kn0 s := fun _ _ h => by cases h
/-- a block turned that is no cells -/
theorem RepS.turn {w0 : World} {S : Scope} {n : Dom} {s : AS} {ι : Names} {a : Act} {w w' : World} (h : RepS w0 S n s ι a w) {row : Option Nat} (hg : w.grownBy w' row)
    (hr : ∀ r, row = some r → w0.heap.size ≤ r ∧ ∃ o : Obj, w.heap[r]? = some o ∧ o.isCells = false) {ds : List Deferred} (hm : Marks w0 ds w') {ref : World} (ho : KeepsOthers ref w') :
    RepS w0 { S with ref := ref } n s ι { a with defers := ds } w' := by
  have hk : Keeps w (Seen S w0.heap.size s.bx ι) w' (Seen { S with ref := ref } w0.heap.size s.bx ι) := fun g off u hV hu => ⟨hV, cell_kept hu hg fun r e => (hr r e).2⟩
  have hl : ∀ b g c, (s.bx b).live = true → ι b = some (g, c) → w'.heap[g]? = w.heap[g]? := fun b g c hb hι => by
    refine hg.block g (h.own b g c hb hι).2 fun e => ?_
    obtain ⟨o, h1, h2⟩ := (hr g e.symm).2
    obtain ⟨cur, T, i, h3⟩ := h.live_cells hb hι
    rw [h3] at h1
    injection h1 with h1
    subst h1
    cases h2
  refine ⟨⟨hg.os.trans h.bel.os, hg.tape.trans h.bel.tape, hg.output.trans h.bel.output, Nat.le_trans h.bel.size hg.size, fun g h1 h2 => ?_⟩, hm, ho, h.size, h.fix, h.pin, fun t => (h.tm t).keep (fun b hb => ⟨hb, rfl⟩) hk, fun b => ?_,
    fun b g c hb hι => ⟨(h.own b g c hb hι).1, Nat.lt_of_lt_of_le (h.own b g c hb hι).2 hg.size⟩, h.dist⟩
  · refine (hg.block g (Nat.lt_of_lt_of_le h1 h.bel.size) fun e => ?_).trans (h.bel.block g h1 h2)
    have := (hr g e.symm).1
    omega
  · cases hkn : (s.bx b).known with
    | true => exact RepBx.keep (fun b hb => ⟨hb, rfl⟩) hk hkn hkn (fun hb g c hι => hl b g c hb hι) (h.bx b)
    | false => cases hB : s.bx b <;> rw [hB] at hkn <;> first | trivial | (simp [Bx.known] at hkn)
theorem keeps_turn {ref w w' : World} {row : Option Nat} {B : Nat} (h : KeepsOthers ref w) (hg : w.grownBy w' row) (hr : ∀ r, row = some r → B ≤ r) (hB : ref.heap.size ≤ B) : KeepsOthers ref w' :=
  ⟨Nat.le_trans h.size hg.size, fun k o hk ho => by
    have hlt : k < ref.heap.size := (Array.getElem?_eq_some_iff.1 hk).1
    refine (hg.block k (Nat.lt_of_lt_of_le hlt h.size) fun e => ?_).trans (h.same k o hk ho)
    have := hr k e.symm
    omega⟩
theorem marks_turn {w0 w w' : World} {ds : List Deferred} {row : Option Nat} {B : Nat} (h : Marks w0 ds w) (hg : w.grownBy w' row) (hr : ∀ r, row = some r → B ≤ r) (hB : ∀ d ∈ ds, ∀ D, d = { target := .collected D, args := #[] } → D < B) : Marks w0 ds w' :=
  ⟨h.1, fun d hd => by
    obtain ⟨D, e, h1, h2⟩ := h.2 d hd
    refine ⟨D, e, h1, (hg.block D (Array.getElem?_eq_some_iff.1 h2).1 fun e' => ?_).trans h2⟩
    have := hr D e'.symm
    have := hB d hd D e
    omega⟩
theorem vcRun_wp {n : Dom} {F : Fence} (hF : Wide F) {m id : Nat} {ops : Array Oper} {draw : Bool} {kn : Kn} {s : AS} {Q : AExit → Kn → AS → Prop} (hm : P.follows .mixedOrders = true) (h : vcRun P Γ n ops (List.range ops.size) kn s [] fun kn' s' acc => match draw with
    | true => regOK ops (fun i => acc.reverse.getD i ([], [])) = true ∧ Q .normal kn' s'
    | false => Q .normal kn' s') (hk : KnOK kn s) {w0 : World} {S : Scope} {ι : Names} {a : Act} {w : World} (hr : RepS w0 S n s ι a w) {Q' : Exit → Act → World → Prop}
    (hQ : ∀ e kn' s' ι' a' w', Q e kn' s' → KnOK kn' s' → RepS w0 S n s' ι' a' w' → Q' e.exit_ a' w') : (Code.region id ops draw).wpIn F m P Q' a w := by
  obtain ⟨kn', s', ts, h1, h2, h3, h4⟩ := vcRun_runs h hk
  have hτ : ∀ (k i : Nat), (List.range ops.size)[k]? = some i → (fun i => (ts.reverse ++ []).reverse.getD i ([], [])) i = ts.getD k ([], []) := fun k i hi => by
    have : k = i := by
      have hlt := (List.getElem?_eq_some_iff.1 hi).1
      simp at hlt
      simp [hlt] at hi
      exact hi
    subst this
    simp
  have hruns := h4 _ hτ
  cases draw with
  | false =>
    simp only at h1
    exact wpIn_region (runs_wpOps hF hruns hr fun ι' a' w' hr' => hQ .normal kn' s' ι' a' w' h1 h2 hr')
  | true =>
    simp only at h1
    obtain ⟨hok, h1⟩ := h1
    refine wpIn_region_any hm ?_
    have hleft : left ops (Array.replicate ops.size false) = List.range ops.size := by
      unfold left
      rw [List.filter_eq_self]
      intro i hi
      have : i < ops.size := List.mem_range.1 hi
      simp [Array.getD, this]
    have hr1 : RepS w0 S n s ι a { w with drawn := w.drawn + 1 } := hr.quiet ⟨hr.bel.os, hr.bel.tape, hr.bel.output, hr.bel.size, hr.bel.block⟩ rfl
    exact runs_any hF hok (fun ι' a' w' hr' => hQ .normal kn' s' ι' a' w' h1 h2 hr') ops.size _ s ι a _ (fun i o ho hl hs => by
      have : i < ops.size := by simpa using hs
      simp [Array.getD, this] at hl) (by simp) (by rw [hleft]; simp) (by rw [hleft]; exact hruns) hr1

theorem melt1_kn {kn : Kn} {s : AS} {t : Nat} (h : KnOK kn s) : KnOK kn (s.melt1 t) := fun t' b hb => by
  have h1 := h t' b hb
  unfold AS.melt1
  split
  · rename_i b' m ht
    split
    · simp only
      split
      · rename_i e
        subst e
        rw [ht] at h1
        cases h1
      · exact h1
    · exact h1
  · exact h1
theorem melts_kn {kn : Kn} : ∀ (ts : List Nat) {s : AS}, KnOK kn s → KnOK kn (melts s ts)
  | [], _, h => h
  | _ :: ts, _, h => melts_kn ts (melt1_kn h)
theorem RepS.melts {w0 : World} {S : Scope} {n : Dom} {ι : Names} {a : Act} {w : World} : ∀ (ts : List Nat) {s : AS}, RepS w0 S n s ι a w → RepS w0 S n (melts s ts) ι a w
  | [], _, h => h
  | t :: ts, _, h => RepS.melts ts (h.melt1 t)
theorem vcRun_mono {n : Dom} {ops : Array Oper} : ∀ {R : List Nat} {kn : Kn} {s : AS} {acc : List (List Nat × List Nat)} {Q Q' : Kn → AS → List (List Nat × List Nat) → Prop}, (∀ kn s acc, Q kn s acc → Q' kn s acc) → vcRun P Γ n ops R kn s acc Q → vcRun P Γ n ops R kn s acc Q'
  | [], kn, s, acc, Q, Q', hQ, h => hQ _ _ _ h
  | i :: R, kn, s, acc, Q, Q', hQ, h => by
    unfold vcRun at h ⊢
    split at h
    · exact h.elim
    · split at h
      · exact h.elim
      · split at h
        · exact ⟨h.1, vcRun_mono hQ h.2⟩
        · exact h.elim
      · split at h
        · exact vcRun_mono hQ h
        · exact h.elim
      · refine ⟨fun e => ?_, fun e => ?_⟩
        · have h := h.1 e
          split at h
          · exact ⟨h.1, vcRun_mono hQ h.2⟩
          · exact h.elim
        · have h := h.2 e
          split at h
          · exact vcRun_mono hQ h
          · exact h.elim
theorem vcRun_append {n : Dom} {ops : Array Oper} {B : List Nat} {Q : Kn → AS → List (List Nat × List Nat) → Prop} : ∀ {A : List Nat} {kn : Kn} {s : AS} {acc : List (List Nat × List Nat)}, vcRun P Γ n ops A kn s acc (fun kn' s' acc' => vcRun P Γ n ops B kn' s' acc' Q) → vcRun P Γ n ops (A ++ B) kn s acc Q
  | [], kn, s, acc, h => h
  | i :: A, kn, s, acc, h => by
    rw [List.cons_append]
    unfold vcRun at h ⊢
    split at h
    · exact h.elim
    · split at h
      · exact h.elim
      · split at h
        · exact ⟨h.1, vcRun_append h.2⟩
        · exact h.elim
      · split at h
        · exact vcRun_append h
        · exact h.elim
      · refine ⟨fun e => ?_, fun e => ?_⟩
        · have h := h.1 e
          split at h
          · exact ⟨h.1, vcRun_append h.2⟩
          · exact h.elim
        · have h := h.2 e
          split at h
          · exact vcRun_append h
          · exact h.elim
theorem andIs_pick {e : Int} {k : IntKind} {t : Nat} {s : AS} {K : AS → Prop} : ∀ {vs : List Int}, orIs e vs → andIs e k t s K vs → K (s.put (some t) (.one (.d (.int k e))))
  | v :: vs, h1, h2 => by
    simp only [orIs] at h1
    simp only [andIs] at h2
    rcases h1 with rfl | h1
    · exact h2.1 rfl
    · exact andIs_pick h1 h2.2
  | [], h1, _ => h1.elim
theorem splitVC_pick {vs : List Int} {t : Nat} {s : AS} {K : AS → Prop} (h : splitVC vs t s K) : K s := by
  unfold splitVC at h
  split at h
  · rename_i k e ht
    have := andIs_pick h.1 h.2
    have hs : s.put (some t) (.one (.d (.int k e))) = s := by
      refine AS.ext' ?_ rfl
      funext t'
      simp only [AS.put]
      split
      · rename_i e'; rw [e', ht]
      · rfl
    rwa [hs] at this
  · exact h.elim
theorem vcReg_run {n : Dom} {ops : Array Oper} {ann : Ann} {kn : Kn} {s : AS} {K : Kn → AS → List (List Nat × List Nat) → Prop} (h : vcReg P Γ n ops ann kn s K) : vcRun P Γ n ops (List.range ops.size) kn s [] K := by
  unfold vcReg at h
  split at h
  · rename_i i t vs
    have h2 := vcRun_append (vcRun_mono (fun _ _ _ h => splitVC_pick h) h)
    rwa [List.take_append_drop] at h2
  · exact h

def SoundC (P : Program) (f : VCF) (c : Code) : Prop :=
  ∀ (n : Dom) (ann : Ann) (kn : Kn) (s : AS) (Q : AExit → Kn → AS → Prop), f n ann kn s Q → KnOK kn s → ∀ (F : Fence), Wide F → (n.round = false → F = Fence.wide) →
    ∀ (w0 : World) (S : Scope) (ι : Names) (a : Act) (w : World), RepS w0 S n s ι a w → ∀ (m : Nat) (Q' : Exit → Act → World → Prop),
    (∀ e kn' s' ι' a' w', Q e kn' s' → KnOK kn' s' → RepS w0 S n s' ι' a' w' → Q' e.exit_ a' w') → c.wpIn F m P Q' a w

def linkLen : Ann → Nat
  | .link _ _ next => linkLen next + 1
  | _ => 0
theorem link_sound {f : VCF} {c : Code} (ih : SoundC P f c) {n : Dom} {ann : Ann} {s : AS} {Q : AExit → Kn → AS → Prop} (h1 : linkIn n ann s) (h2 : linkVC n (f n) Q ann) {F : Fence} (hF : Wide F) (hR : n.round = false → F = Fence.wide)
    {w0 : World} {S : Scope} {ι : Names} {a : Act} {w : World} (hr : RepS w0 S n s ι a w) {m : Nat} {Q' : Exit → Act → World → Prop}
    (hQ : ∀ e kn' s' ι' a' w', Q e kn' s' → KnOK kn' s' → RepS w0 S n s' ι' a' w' → Q' e.exit_ a' w') : (Code.loop c).wpIn F m P Q' a w := by
  refine wpIn_loop_ghost (fun k a w => ∃ ann s ι, linkLen ann = k ∧ linkIn n ann s ∧ linkVC n (f n) Q ann ∧ RepS w0 S n s ι a w) (linkLen ann) ⟨ann, s, ι, rfl, h1, h2, hr⟩ fun k a w hI => ?_
  obtain ⟨ann, s, ι, rfl, h1, h2, hr⟩ := hI
  cases ann <;> first | exact h1.elim | skip
  rename_i I b next
  obtain ⟨z, hz, hf⟩ := h1
  obtain ⟨ι2, hr2⟩ := hr.fit hf
  simp only [linkVC] at h2
  refine ih n (b z) kn0 _ _ (h2.1 z hz) (kn0_ok _) F hF hR w0 S ι2 a w hr2 m _ fun e kn' s' ι' a' w' hq hk' hr' => ?_
  cases e with
  | normal => exact ⟨linkLen next, by simp [linkLen], next, s', ι', rfl, hq, h2.2, hr'⟩
  | exit id => exact hQ (.exit id) kn' s' ι' a' w' hq hk' hr'
  | ret => exact hQ .ret kn' s' ι' a' w' hq hk' hr'

theorem opt_pick {f : Ann → Kn → AS → (AExit → Kn → AS → Prop) → Prop} {kn : Kn} {s : AS} {t : Nat} {Q : AExit → Kn → AS → Prop} {k : IntKind} {e : Int} (ht : s.tm t = .one (.d (.int k e))) :
    ∀ {bs : Ann}, optOr e bs → optAnd f k e kn s t Q bs → ∃ b, f b (knPut kn (some t) none) s Q
  | .opt v b next, h1, h2 => by
    simp only [optOr] at h1
    simp only [optAnd] at h2
    rcases h1 with h1 | h1
    · have hs : s.put (some t) (.one (.d (.int k v))) = s := by
        refine AS.ext' ?_ rfl
        funext t'
        simp only [AS.put]
        split
        · rename_i e'; rw [e', ht, h1]
        · rfl
      have := h2.1 h1
      rw [hs] at this
      exact ⟨b, this⟩
    · exact opt_pick ht h1 h2.2
  | .leaf, h1, _ => h1.elim
  | .seq _ _, h1, _ => h1.elim
  | .loop _ _, h1, _ => h1.elim
  | .cut _ _ _, h1, _ => h1.elim
  | .link _ _ _, h1, _ => h1.elim
  | .split _ _ _, h1, _ => h1.elim
  | .range _ _ _ _, h1, _ => h1.elim
  | .sure _ _, h1, _ => h1.elim
  | .ice _ _ _ _, h1, _ => h1.elim
  | .splitAt _ _ _, h1, _ => h1.elim
theorem ices_tm : ∀ (bs : List Nat) (s : AS), (ices s bs).tm = s.tm
  | [], _ => rfl
  | b :: bs, s => by simp only [ices]; rw [ices_tm bs]; rfl
theorem RepS.ices {w0 : World} {S : Scope} {n : Dom} {ι : Names} {a : Act} {w : World} : ∀ (bs : List Nat) {s : AS}, RepS w0 S n s ι a w → RepS w0 S n (ices s bs) ι a w
  | [], _, h => h
  | b :: bs, s, h => RepS.ices bs (h.freeze b)

/-! ### ranges over functions -/
theorem RepS.only {w0 : World} {S : Scope} {n : Dom} {s : AS} {ι : Names} {a : Act} {w : World} (h : RepS w0 S n s ι a w) (T : List Nat) : RepS w0 S n (s.only T) ι a w := by
  refine ⟨h.bel, h.marks, h.oth, h.size, h.fix, h.pin, fun t => ?_, h.bx, h.own, h.dist⟩
  show RepAV _ _ _ _ (if T.contains t then s.tm t else .one .dead) _
  split
  · exact h.tm t
  · simp only [RepAV, RepCl]
theorem plain_of_ok {d : DV} (h : plainOK d) : ∃ u, d.plain = some u ∧ ∀ (w : World) (V : Nat → Prop), RepD w V d u := by
  cases d with
  | int k n => exact ⟨_, rfl, fun w V => by simp only [RepD, true_and]; exact (inK_iff _ _).2 h⟩
  | bool b => exact ⟨_, rfl, fun w V => by simp only [RepD]⟩
  | str s => exact ⟨_, rfl, fun w V => by simp only [RepD, true_and]; exact h⟩
  | sl n cs => exact h.elim
  | fn f => exact h.elim
/-- the slots of a round -/
theorem RepS.putAll {w0 : World} {S : Scope} {n : Dom} {ι : Names} {w : World} : ∀ {ps : List Nat} {ds : List DV} {s : AS} {a : Act}, ds.length = ps.length → plainsOK ds → (∀ p ∈ ps, p < n.n ∧ n.keep p = false) → RepS w0 S n s ι a w →
    RepS w0 S n (s.putAll ps ds) ι { a with tmps := (ps.zip (ds.map fun d => d.plain.getD undef)).foldl (fun t (p, v) => t.setIfInBounds p v) a.tmps } w
  | [], [], _, _, _, _, _, h => h
  | p :: ps, d :: ds, s, a, hl, hd, hp, h => by
    obtain ⟨u, h1, h2⟩ := plain_of_ok hd.1
    have := h.put (d := some p) (x := .one (.d d)) (v := u) (fun k hk => by cases hk; exact hp p (by simp)) (by simp only [RepAV, RepCl]; exact h2 _ _)
    have := RepS.putAll (ps := ps) (ds := ds) (by simpa using hl) hd.2 (fun q hq => hp q (by simp [hq])) this
    simpa [AS.putAll, h1, Act.put] using this
  | [], _ :: _, _, _, hl, _, _, _ => by simp at hl
  | _ :: _, [], _, _, hl, _, _, _ => by simp at hl
theorem putAll_other : ∀ {ps : List Nat} {vs : List Value} {t : Nat} {tm : Array Value}, t ∉ ps → ((ps.zip vs).foldl (fun t (p, v) => t.setIfInBounds p v) tm).getD t undef = tm.getD t undef
  | [], _, _, _, _ => by simp
  | _ :: _, [], _, _, _ => by simp
  | p :: ps, v :: vs, t, tm, h => by
    simp only [List.zip_cons_cons, List.foldl_cons]
    rw [putAll_other (fun e => h (by simp [e]))]
    simp only [Array.getD_eq_getD_getElem?, Array.getElem?_setIfInBounds_ne (show p ≠ t from fun e => h (by simp [e]))]
theorem caps_hold {w0 : World} {S : Scope} {n : Dom} {s : AS} {ι : Names} {a : Act} {w : World} (h : RepS w0 S n s ι a w) {ι0 : Names} {bx0 : Nat → Bx} {w1 : World} {V1 : Nat → Prop} : ∀ {cs : List Cap} {lb : List Value} {caps : List (Bool × List DV)}, RepCaps ι0 bx0 w1 V1 cs lb →
    (∀ b ∈ cs.flatMap Cap.names, ι b = ι0 b) → capCells s.bx cs = some caps → HoldsL w caps lb
  | [], [], caps, _, _, hc => by simp only [capCells, Option.some.injEq] at hc; subst hc; trivial
  | c :: cs, v :: lb, caps, hr, hn, hc => by
    simp only [capCells] at hc
    cases h1 : capCell s.bx c with
    | none => rw [h1] at hc; cases hc
    | some x =>
      cases h2 : capCells s.bx cs with
      | none => rw [h1, h2] at hc; cases hc
      | some xs =>
        rw [h1, h2] at hc
        simp only [Option.some.injEq] at hc
        subst hc
        refine ⟨?_, caps_hold h hr.2 (fun b hb => hn b (by rw [List.flatMap_cons, List.mem_append]; exact .inr hb)) h2⟩
        have hv := hr.1
        cases c with
        | d x =>
          simp only [capCell] at h1
          split at h1
          · rename_i hp
            simp only [Option.some.injEq] at h1
            subst h1
            obtain ⟨u, hu⟩ := Option.isSome_iff_exists.1 hp
            exact ⟨x, rfl, by rw [RepD.plain hv hu]; exact hu⟩
          · cases h1
        | ptr b off =>
          simp only [capCell] at h1
          split at h1
          · rename_i ho
            subst ho
            split at h1
            · rename_i cells hB
              split at h1
              · rename_i ds hds
                split at h1
                · rename_i hall
                  simp only [Option.some.injEq] at h1
                  subst h1
                  obtain ⟨_, g, c, e1, e2⟩ := hv
                  have hb := h.bx b
                  rw [hB] at hb
                  obtain ⟨g', c', cur, T, q1, q2, q3⟩ := hb
                  rw [hn b (by simp [Cap.names]), e1] at q1
                  simp only [Option.some.injEq, Prod.mk.injEq] at q1
                  obtain ⟨rfl, rfl⟩ := q1
                  have q4 := rep_dvs q3 hds
                  refine ⟨g, e2, fun i d hi => ?_⟩
                  obtain ⟨u, hu, hd⟩ := rep_ds_at q4 i d hi
                  have hp : d.plain.isSome = true := (List.all_eq_true.1 hall) d (List.mem_of_getElem? hi)
                  obtain ⟨u', hu'⟩ := Option.isSome_iff_exists.1 hp
                  refine ⟨u', hu', ?_⟩
                  rw [cell_of_row w g i cur T (0, 0) q2, ← RepD.plain hd hu']
                  simpa using hu
                · cases h1
              · cases h1
            · cases h1
          · cases h1
  | [], _ :: _, _, h, _, _ => h.elim
  | _ :: _, [], _, h, _, _ => h.elim
theorem caps_known {w : World} {V : Nat → Prop} {ι : Names} {bx : Nat → Bx} : ∀ {cs : List Cap} {lb : List Value}, RepCaps ι bx w V cs lb → ∀ b ∈ cs.flatMap Cap.names, (bx b).known = true
  | [], [], _, b, hb => by simp at hb
  | c :: cs, v :: lb, h, b, hb => by
    rw [List.flatMap_cons, List.mem_append] at hb
    rcases hb with hb | hb
    · cases c with
      | d x => simp [Cap.names] at hb
      | ptr b' off => simp only [Cap.names, List.mem_singleton] at hb; subst hb; exact h.1.1
    · exact caps_known h.2 b hb
  | [], _ :: _, h, _, _ => h.elim
  | _ :: _, [], h, _, _ => h.elim

def exitCode : AExit → Option Code
  | .normal => none
  | .exit id => some (.exit id)
  | .ret => some .ret
theorem range_sound {fA fB : VCF} {x y : Code} (ihA : SoundC P fA x) (ihB : SoundC P fB y) {n : Dom} {g : Operand} {ps : Array Tmp} {I : Inv} {T : List Nat} {aa bb : I.α → Ann} {s : AS} {Q : AExit → Kn → AS → Prop}
    (h : rangeVC P Γ n fA fB g ps.toList I T aa bb s Q) {F : Fence} (hR : n.round = false → F = Fence.wide)
    {w0 : World} {S : Scope} {ι : Names} {a : Act} {w : World} (hr : RepS w0 S n s ι a w) {m : Nat} {Q' : Exit → Act → World → Prop}
    (hQ : ∀ e kn' s' ι' a' w', Q e kn' s' → KnOK kn' s' → RepS w0 S n s' ι' a' w' → Q' e.exit_ a' w') : (Code.rangeFunc g ps x y).wpIn F m P Q' a w := by
  unfold rangeVC at h
  split at h
  · rename_i f cs hs
    split at h
    · rename_i caps hcaps hflags
      split at h
      · rename_i N item hit
        obtain ⟨hans, hitems, ⟨z0, hz0, hμ0, hf0⟩, hrounds⟩ := h
        simp only [Bool.and_eq_true, Bool.not_eq_true'] at hflags
        obtain ⟨⟨hen, hrd⟩, hps⟩ := hflags
        have hFw := hR hrd
        subst hFw
        simp only [psOK, Bool.and_eq_true, List.all_eq_true, decide_eq_true_eq, Bool.not_eq_true'] at hps
        obtain ⟨hps1, hps2⟩ := hps
        have hv := hr.eval g
        rw [hs] at hv
        simp only [RepAV, RepCl] at hv
        obtain ⟨lb, hv, hlb⟩ := hv
        -- names that stay
        have hr1 : RepS w0 { S with nm := ι } (n.pinned (cs.flatMap Cap.names)) s ι a w :=
          ⟨hr.bel, hr.marks, hr.oth, hr.size, hr.fix, fun b hb => ⟨rfl, by
            simp only [Dom.pinned, List.mem_append] at hb
            rcases hb with hb | hb
            · exact (hr.pin b hb).2
            · exact caps_known hlb b hb⟩, hr.tm, hr.bx, hr.own, hr.dist⟩
        obtain ⟨ι1, hr2⟩ := hr1.fit hf0
        have hmk : ∀ d ∈ a.defers, ∀ D, d = { target := .collected D, args := #[] } → D < w.heap.size := fun d hd D e => by
          obtain ⟨D', e', _, h2⟩ := hr.marks.2 d hd
          rw [e'] at e
          simp only [Deferred.mk.injEq, Target.collected.injEq, and_true] at e
          subst e
          exact (Array.getElem?_eq_some_iff.1 h2).1
        have hturn : ∀ {s' : AS} {n' : Dom} {S' : Scope} {ι' : Names} {W W' : World} {row : Option Nat}, S'.ref.heap.size ≤ w.heap.size → RepS w0 S' n' s' ι' a W → W.grownBy W' row → (∀ r, row = some r → w.heap.size ≤ r ∧ ∃ o : Obj, W.heap[r]? = some o ∧ o.isCells = false) → RepS w0 S' n' s' ι' a W' := by
          intro s' n' S' ι' W W' row hs' h' hg hr'
          exact h'.turn hg (fun r e => ⟨Nat.le_trans hr.bel.size (hr' r e).1, (hr' r e).2⟩) (marks_turn h'.marks hg (fun r e => (hr' r e).1) hmk) (keeps_turn h'.oth hg (fun r e => (hr' r e).1) hs')
        have hkeepT : ∀ t, (T.contains t = true ∨ n.keep t = true) → t ∉ ps.toList := fun t ht hm => by
          obtain ⟨⟨_, h2⟩, h3⟩ := hps1 t hm
          rcases ht with ht | ht
          · rw [ht] at h2; cases h2
          · rw [ht] at h3; cases h3
        -- back from a round
        have hback : ∀ {s' : AS} {ι' : Names} {a3 : Act} {W W3 ref : World}, Marks w0 a.defers W → KeepsOthers S.ref W → KeepsOthers W W3 → RepS w0 { S with nm := ι, ref := ref, base := fun t => a.tmps.getD t undef } (n.inner T (cs.flatMap Cap.names)) s' ι' a3 W3 →
            RepS w0 { S with nm := ι } (n.pinned (cs.flatMap Cap.names)) (s'.only T) ι' a W3 := by
          intro s' ι' a3 W W3 ref hm1 ho1 hk h3
          refine ⟨h3.bel, hm1.keep hk, ho1.trans hk, hr.size, hr.fix, h3.pin, fun t => ?_, h3.bx, h3.own, h3.dist⟩
          show RepAV _ _ _ _ (if T.contains t then s'.tm t else .one .dead) _
          split
          · rename_i ht
            have hfx := h3.fix t (by show (n.keep t || T.contains t) = true; rw [ht, Bool.or_true])
            have := h3.tm t
            rw [hfx] at this
            exact this
          · simp only [RepAV, RepCl]
        have hout : ∀ {s' : AS} {ι' : Names} {W : World}, RepS w0 { S with nm := ι } (n.pinned (cs.flatMap Cap.names)) s' ι' a W → RepS w0 S n s' ι' a W := fun h' =>
          ⟨h'.bel, h'.marks, h'.oth, h'.size, h'.fix, fun b hb => by
            have := h'.pin b (by simp [Dom.pinned, hb])
            exact ⟨this.1.trans (hr.pin b hb).1, this.2⟩, h'.tm, h'.bx, h'.own, h'.dist⟩
        have hmark : ∀ {s' : AS} {ι' : Names} {W : World} {D : Nat}, w.heap.size ≤ D → W.heap[D]? = some (.deferred (some [])) → RepS w0 S n s' ι' a W → RepS w0 S n s' ι' { a with defers := { target := .collected D, args := #[] } :: a.defers } W := fun hD hW h' =>
          ⟨h'.bel, ⟨List.pairwise_cons.2 ⟨fun d hd e => by
              have := hmk d hd _ e.symm
              omega, h'.marks.1⟩, fun d hd => by
            rcases List.mem_cons.1 hd with rfl | hd
            · exact ⟨_, rfl, Nat.le_trans hr.bel.size hD, hW⟩
            · exact h'.marks.2 d hd⟩, h'.oth, h'.size, h'.fix, h'.pin, h'.tm, h'.bx, h'.own, h'.dist⟩
        refine range_law hv (run_enter hen) hans (fun k hk => by rw [(hitems k hk).1]; simp)
          (fun k W => ∃ z ι', I.ok z ∧ I.μ z = k ∧ RepS w0 { S with nm := ι } (n.pinned (cs.flatMap Cap.names)) ((I.st z).as.only T) ι' a W)
          (fun c W => ∃ e kn' s' ι', exitCode e = some c ∧ Q e kn' s' ∧ KnOK kn' s' ∧ RepS w0 { S with nm := ι } (n.pinned (cs.flatMap Cap.names)) s' ι' a W)
          (fun k W W' row ⟨z, ι', h1, h2, h3⟩ hg hrr => ⟨z, ι', h1, h2, hturn hr.oth.size h3 hg hrr⟩)
          (fun c W W' row ⟨e, kn', s', ι', h1, h2, h3, h4⟩ hg hrr => ⟨e, kn', s', ι', h1, h2, h3, hturn hr.oth.size h4 hg hrr⟩)
          (fun k W ⟨z, ι', h1, h2, h3⟩ => caps_hold h3 hlb (fun b hb => (h3.pin b (by simp only [Dom.pinned, List.mem_append]; exact .inr hb)).1) (hrounds z h1).1)
          ⟨z0, ι1, hz0, hμ0, hr2.only T⟩ ?_ ?_ ?_
        · -- a round
          rintro l k W hk ⟨z, ι', hz, rfl, h3⟩
          have hit := hitems (I.μ z) hk
          -- the round's own slots
          have hin : RepS w0 { S with nm := ι, ref := W, base := fun t => a.tmps.getD t undef } (n.inner T (cs.flatMap Cap.names)) ((I.st z).as.only T) ι' { tmps := a.tmps, defers := [] } W :=
            ⟨h3.bel, ⟨List.Pairwise.nil, fun d hd => by simp at hd⟩, KeepsOthers.refl W, h3.size, fun t _ => rfl, h3.pin, h3.tm, h3.bx, h3.own, h3.dist⟩
          have hin2 := hin.putAll (ps := ps.toList) (ds := item (I.μ z)) hit.1 hit.2 (fun p hp => by
            obtain ⟨⟨h1, h2⟩, h4⟩ := hps1 p hp
            refine ⟨h1, ?_⟩
            simp only [Dom.inner, h2, h4, Bool.or_self])
          have hloop : ∀ (f : Array Value → Tmp × Value → Array Value) (t0 : Array Value) (vs : List Value), (ps.zip vs.toArray).foldl f t0 = (ps.toList.zip vs).foldl f t0 := fun f t0 vs => by
            rw [← Array.foldl_toList, Array.toList_zip]
          show x.wpIn _ m P _ { tmps := (ps.zip (encsOf (item (I.μ z)))).foldl (fun t (p, v) => t.setIfInBounds p v) a.tmps, defers := [] } W
          rw [encsOf, hloop]
          refine ihA _ (aa z) kn0 _ _ ((hrounds z hz).2.1 hk) (kn0_ok _) _ (.inr ⟨l, rfl⟩) (fun h => by cases h) w0 _ ι' _ W hin2 m _ fun e kn' s' ι2 a1 W1 hq hk' h4 => ?_
          cases e with
          | ret => exact hq.elim
          | exit id => exact hq.elim
          | normal =>
            refine ⟨h4.oth, fun W2 hg hl hcell => ?_⟩
            obtain ⟨lr, hlr⟩ := hcell
            have h5 := h4.turn hg (fun r e => by cases e; exact ⟨Nat.le_trans hr.bel.size hl, _, hlr, rfl⟩) (ds := a1.defers) ⟨h4.marks.1, fun d hd => by
              obtain ⟨D, e1, e2, e3⟩ := h4.marks.2 d hd
              refine ⟨D, e1, e2, (hg.block D (Array.getElem?_eq_some_iff.1 e3).1 fun e' => ?_).trans e3⟩
              injection e' with e'
              subst e'
              rw [hlr] at e3
              injection e3 with e3
              cases e3⟩ (KeepsOthers.refl W2)
            have hm1 : Marks w0 a.defers W := h3.marks
            have hm2 : Marks w0 a.defers W2 := marks_turn (hm1.keep h4.oth) hg (fun r e => by cases e; exact hl) hmk
            have ho2 : KeepsOthers S.ref W2 := keeps_turn (h3.oth.trans h4.oth) hg (fun r e => by cases e; exact hl) hr.oth.size
            refine ihB _ (bb z) kn' _ _ hq hk' _ (.inr ⟨l, rfl⟩) (fun h => by cases h) w0 _ ι2 a1 W2 h5 m _ fun e kn2 s2 ι3 a3 W3 hq2 hk2 h6 => ?_
            cases e with
            | normal =>
              obtain ⟨y, hy, hμ, hf⟩ := hq2
              obtain ⟨ι4, h7⟩ := h6.fit hf
              exact ⟨h6.oth, y, ι4, hy, hμ, hback hm2 ho2 h6.oth h7⟩
            | ret => exact ⟨h6.oth, .ret, kn0, s2.only T, ι3, rfl, hq2, kn0_ok _, hback hm2 ho2 h6.oth h6⟩
            | exit id => exact ⟨h6.oth, .exit id, kn0, s2.only T, ι3, rfl, hq2, kn0_ok _, hback hm2 ho2 h6.oth h6⟩
        · -- all items done
          rintro Dk W hD ⟨z, ι', hz, hμ, h3⟩ hW
          exact hQ .normal kn0 _ ι' _ W ((hrounds z hz).2.2 hμ) (kn0_ok _) (hmark hD hW (hout h3))
        · rintro Dk c W hD ⟨e, kn', s', ι', he, hq, hk', h3⟩ hW
          cases e with
          | normal => cases he
          | ret =>
            simp only [exitCode, Option.some.injEq] at he
            subst he
            exact wpIn_ret (hQ .ret kn' s' ι' _ W hq hk' (hmark hD hW (hout h3)))
          | exit id =>
            simp only [exitCode, Option.some.injEq] at he
            subst he
            exact wpIn_exit (hQ (.exit id) kn' s' ι' _ W hq hk' (hmark hD hW (hout h3)))
      · exact h.elim
    · exact h.elim
  · exact h.elim
theorem vcg_sound (hm : P.follows .mixedOrders = true) : ∀ (c : Code), SoundC P (fun n => vcg P Γ n c) c
  | .skip, n, _, kn, s, Q, h, hk, F, hF, hR, w0, S, ι, a, w, hr, m, Q', hQ => wpIn_skip (hQ .normal kn s ι a w h hk hr)
  | .label _, n, _, kn, s, Q, h, hk, F, hF, hR, w0, S, ι, a, w, hr, m, Q', hQ => wpIn_label (hQ .normal kn s ι a w h hk hr)
  | .exit id, n, _, kn, s, Q, h, hk, F, hF, hR, w0, S, ι, a, w, hr, m, Q', hQ => wpIn_exit (hQ (.exit id) kn s ι a w h hk hr)
  | .ret, n, _, kn, s, Q, h, hk, F, hF, hR, w0, S, ι, a, w, hr, m, Q', hQ => wpIn_ret (hQ .ret kn s ι a w h hk hr)
  | .region id ops draw, n, _, kn, s, Q, h, hk, F, hF, hR, w0, S, ι, a, w, hr, m, Q', hQ => vcRun_wp hF hm (vcReg_run h) hk hr hQ
  | .seq x y, n, ann, kn, s, Q, h, hk, F, hF, hR, w0, S, ι, a, w, hr, m, Q', hQ => by
    simp only [vcg] at h
    refine wpIn_seq ?_
    split at h
    · rename_i I a' b
      obtain ⟨h1, h2⟩ := h
      refine vcg_sound hm x n a' kn s _ h1 hk F hF hR w0 S ι a w hr m _ fun e kn' s' ι' a' w' hq hk' hr' => ?_
      cases e with
      | normal =>
        obtain ⟨z, hz, hf⟩ := hq
        obtain ⟨ι2, hr2⟩ := hr'.fit hf
        exact vcg_sound hm y n (b z) kn0 _ Q (h2 z hz) (kn0_ok _) F hF hR w0 S ι2 a' w' hr2 m Q' hQ
      | exit id => exact hQ (.exit id) kn' s' ι' a' w' hq hk' hr'
      | ret => exact hQ .ret kn' s' ι' a' w' hq hk' hr'
    · rename_i bs ts a' b
      refine vcg_sound hm x n a' kn s _ h hk F hF hR w0 S ι a w hr m _ fun e kn' s' ι' a' w' hq hk' hr' => ?_
      cases e with
      | normal => exact vcg_sound hm y n b kn' (Go.Proofs.Ytoljdijpmnadpaa.melts (Go.Proofs.Ytoljdijpmnadpaa.ices s' bs) ts) Q hq (melts_kn ts fun t b hb => by rw [ices_tm]; exact hk' t b hb) F hF hR w0 S ι' a' w' ((hr'.ices bs).melts ts) m Q' hQ
      | exit id => exact hQ (.exit id) kn' s' ι' a' w' hq hk' hr'
      | ret => exact hQ .ret kn' s' ι' a' w' hq hk' hr'
    · rename_i a' t bs
      refine vcg_sound hm x n a' kn s _ h hk F hF hR w0 S ι a w hr m _ fun e kn' s' ι' a' w' hq hk' hr' => ?_
      cases e with
      | normal =>
        simp only at hq
        unfold optVC at hq
        split at hq
        · rename_i k e ht
          obtain ⟨b, hb⟩ := opt_pick ht hq.1 hq.2
          refine vcg_sound hm y n b _ s' Q hb (fun t' b' hb' => ?_) F hF hR w0 S ι' a' w' hr' m Q' hQ
          simp only [knPut] at hb'
          split at hb'
          · cases hb'
          · exact hk' _ _ hb'
        · exact hq.elim
      | exit id => exact hQ (.exit id) kn' s' ι' a' w' hq hk' hr'
      | ret => exact hQ .ret kn' s' ι' a' w' hq hk' hr'
    · refine vcg_sound hm x n ann.l kn s _ h hk F hF hR w0 S ι a w hr m _ fun e kn' s' ι' a' w' hq hk' hr' => ?_
      cases e with
      | normal => exact vcg_sound hm y n ann.r kn' s' Q hq hk' F hF hR w0 S ι' a' w' hr' m Q' hQ
      | exit id => exact hQ (.exit id) kn' s' ι' a' w' hq hk' hr'
      | ret => exact hQ .ret kn' s' ι' a' w' hq hk' hr'
  | .cond c x y, n, ann, kn, s, Q, h, hk, F, hF, hR, w0, S, ι, a, w, hr, m, Q', hQ => by
    simp only [vcg] at h
    split at h
    · rename_i b a'
      split at h
      · rename_i b' hc
        obtain ⟨rfl, h⟩ := h
        cases b' with
        | true => exact wpIn_cond_true (rep_bool (hr.eval c) hc) (vcg_sound hm x n a' kn s Q h hk F hF hR w0 S ι a w hr m Q' hQ)
        | false => exact wpIn_cond_false (rep_bool (hr.eval c) hc) (vcg_sound hm y n a' kn s Q h hk F hF hR w0 S ι a w hr m Q' hQ)
      · exact h.elim
    split at h
    · rename_i hc
      exact wpIn_cond_true (rep_bool (hr.eval c) (kx_ok hk hc)) (vcg_sound hm x n ann.l kn s Q h hk F hF hR w0 S ι a w hr m Q' hQ)
    · rename_i hc
      exact wpIn_cond_false (rep_bool (hr.eval c) (kx_ok hk hc)) (vcg_sound hm y n ann.r kn s Q h hk F hF hR w0 S ι a w hr m Q' hQ)
    · split at h
      · rename_i b hc
        exact wpIn_cond_split (rep_bool (hr.eval c) hc) (fun hb => vcg_sound hm x n ann.l kn s Q (h.1 hb) hk F hF hR w0 S ι a w hr m Q' hQ) (fun hb => vcg_sound hm y n ann.r kn s Q (h.2 hb) hk F hF hR w0 S ι a w hr m Q' hQ)
      · exact h.elim
  | .block id c, n, ann, kn, s, Q, h, hk, F, hF, hR, w0, S, ι, a, w, hr, m, Q', hQ => by
    simp only [vcg] at h
    refine wpIn_block (vcg_sound hm c n ann kn s _ h hk F hF hR w0 S ι a w hr m _ fun e kn' s' ι' a' w' hq hk' hr' => ?_)
    cases e with
    | normal => exact hQ .normal kn' s' ι' a' w' hq hk' hr'
    | exit id' =>
      simp only at hq
      simp only [AExit.exit_, Exit.inBlock]
      by_cases e : id' = id
      · rw [if_pos e]
        simp only [e, decide_true] at hq
        exact hQ .normal kn' s' ι' a' w' hq hk' hr'
      · rw [if_neg e]
        simp only [e, decide_false] at hq
        exact hQ (.exit id') kn' s' ι' a' w' hq hk' hr'
    | ret => exact hQ .ret kn' s' ι' a' w' hq hk' hr'
  | .loop c, n, ann, kn, s, Q, h, hk, F, hF, hR, w0, S, ι, a, w, hr, m, Q', hQ => by
    simp only [vcg] at h
    split at h
    · rename_i I a'
      obtain ⟨⟨z, hz, hf⟩, h2⟩ := h
      obtain ⟨ι2, hr2⟩ := hr.fit hf
      refine wpIn_loop_ghost (fun m a w => ∃ z ι, I.ok z ∧ I.μ z = m ∧ RepS w0 S n (I.st z).as ι a w) (I.μ z) ⟨z, ι2, hz, rfl, hr2⟩ fun k a w hI => ?_
      obtain ⟨z, ι, hz, rfl, hr⟩ := hI
      refine vcg_sound hm c n (a' z) kn0 _ _ (h2 z hz) (kn0_ok _) F hF hR w0 S ι a w hr m _ fun e kn' s' ι' a' w' hq hk' hr' => ?_
      cases e with
      | normal =>
        obtain ⟨y, hy, hlt, hf⟩ := hq
        obtain ⟨ι3, hr3⟩ := hr'.fit hf
        exact ⟨I.μ y, hlt, y, ι3, hy, rfl, hr3⟩
      | exit id => exact hQ (.exit id) kn' s' ι' a' w' hq hk' hr'
      | ret => exact hQ .ret kn' s' ι' a' w' hq hk' hr'
    · exact link_sound (f := fun n => vcg P Γ n c) (vcg_sound hm c) h.1 h.2 hF hR hr hQ
    · exact h.elim
  | .rangeFunc g ps x y, n, ann, kn, s, Q, h, hk, F, hF, hR, w0, S, ι, a, w, hr, m, Q', hQ => by
    simp only [vcg] at h
    split at h
    · exact range_sound (vcg_sound hm x) (vcg_sound hm y) h hR hr hQ
    · exact h.elim
  | .scope _, _, _, _, _, _, h, _, _, _, _, _, _, _, _, _, _, _, _, _ => by simp only [vcg] at h
  | .goto _, _, _, _, _, _, h, _, _, _, _, _, _, _, _, _, _, _, _, _ => by simp only [vcg] at h
  | .refuse _, _, _, _, _, _, h, _, _, _, _, _, _, _, _, _, _, _, _, _ => by simp only [vcg] at h
end

/-! ### what is returned -/
def resAV (P : Program) (s : AS) : ResultVar → Option AV
  | .tmp t => some (s.tm t)
  | .cell t ty => match s.tm t with
    | .one (.ptr b off) => match s.bx b, kindOf P ty with
      | .cells cs, some (g, k) => if off + k ≤ cs.length then aggOr g ((cs.drop off).take k) else none
      | _, _ => none
    | _ => none
def resAVs (P : Program) (s : AS) : List ResultVar → Option (List AV)
  | [] => some []
  | r :: rs => match resAV P s r, resAVs P s rs with
    | some v, some vs => some (v :: vs)
    | _, _ => none
/-- what a call returns, as data -/
def resRV (P : Program) (s : AS) (rs : List ResultVar) : Option RV :=
  match resAVs P s rs with
  | some xs => if xs.all AV.flat then match AV.rvs (fun b => inside (s.bx b)) xs with
    | some [r] => some r
    | some l => some (.tup l)
    | none => none else none
  | none => none
def post (P : Program) (rs : List ResultVar) (R : RV → Prop) : AExit → Kn → AS → Prop
  | .exit _, _, _ => False
  | _, _, s => match resRV P s rs with
    | some r => R r
    | none => False
def start (args : List RV) : AS := ⟨fun t => match args[t]? with
  | some r => r.av
  | none => .tup [], fun _ => .fresh⟩

mutual
def DV.wf : DV → Prop
  | .int k n => k.min ≤ n ∧ n ≤ k.max
  | .bool _ => True
  | .str s => s.size ≤ maxLen
  | .sl n xs => n ≤ maxLen ∧ DV.wfs xs
  | .fn _ => True
def DV.wfs : List DV → Prop
  | [] => True
  | x :: xs => x.wf ∧ DV.wfs xs
end
mutual
def RV.wf : RV → Prop
  | .d x => x.wf
  | .agg xs => DV.wfs xs
  | .tup xs => RV.wfs xs
def RV.wfs : List RV → Prop
  | [] => True
  | x :: xs => x.wf ∧ RV.wfs xs
end
section
variable {w : World} {V : Nat → Prop}
mutual
theorem RepD.wf : ∀ {d : DV} {v : Value}, RepD w V d v → d.wf
  | .int k n, v, h => by simp only [RepD] at h; simp only [DV.wf]; exact (inK_iff _ _).1 h.2
  | .bool _, _, _ => by simp only [DV.wf]
  | .str s, v, h => by simp only [RepD] at h; simp only [DV.wf]; exact h.2
  | .fn _, _, _ => by simp only [DV.wf]
  | .sl n xs, v, h => by
    simp only [RepD] at h
    obtain ⟨A, cap, _, h1, h2, h3⟩ := h
    simp only [DV.wf]
    refine ⟨Nat.le_trans h1 h2, ?_⟩
    cases xs with
    | nil => simp only [DV.wfs]
    | cons d ds =>
      obtain ⟨g, off, _, _, hc⟩ := h3 (by simp)
      exact RepCells.wf hc
theorem RepCells.wf : ∀ {xs : List DV} {g off : Nat}, RepCells w V xs g off → DV.wfs xs
  | [], _, _, _ => by simp only [DV.wfs]
  | d :: ds, g, off, h => by
    simp only [RepCells] at h
    obtain ⟨⟨u, _, hd⟩, hr⟩ := h
    simp only [DV.wfs]
    exact ⟨RepD.wf hd, RepCells.wf hr⟩
end
theorem RepDs.wf : ∀ {ds : List DV} {vs : List Value}, RepDs w V ds vs → DV.wfs ds
  | [], [], _ => by simp only [DV.wfs]
  | _ :: _, _ :: _, h => by simp only [DV.wfs]; exact ⟨h.1.wf, RepDs.wf h.2⟩
  | [], _ :: _, h => h.elim
  | _ :: _, [], h => h.elim
mutual
theorem RepR.wf : ∀ {r : RV} {v : Value}, RepR w V r v → r.wf
  | .d x, v, h => by simp only [RepR] at h; simp only [RV.wf]; exact h.wf
  | .agg xs, v, h => by simp only [RepR] at h; obtain ⟨cs, _, h⟩ := h; simp only [RV.wf]; exact h.wf
  | .tup xs, v, h => by simp only [RepR] at h; obtain ⟨vs, _, h⟩ := h; simp only [RV.wf]; exact RepRs.wf h
theorem RepRs.wf : ∀ {rs : List RV} {vs : List Value}, RepRs w V rs vs → RV.wfs rs
  | [], [], _ => by simp only [RV.wfs]
  | _ :: _, _ :: _, h => by simp only [RepRs] at h; simp only [RV.wfs]; exact ⟨RepR.wf h.1, RepRs.wf h.2⟩
  | [], _ :: _, h => by simp only [RepRs] at h
  | _ :: _, [], h => by simp only [RepRs] at h
end
end

theorem repRs_len {w : World} {V : Nat → Prop} : ∀ {rs : List RV} {vs : List Value}, RepRs w V rs vs → rs.length = vs.length
  | [], [], _ => rfl
  | _ :: _, _ :: _, h => by simp only [RepRs] at h; simp [repRs_len h.2]
  | [], _ :: _, h => by simp only [RepRs] at h
  | _ :: _, [], h => by simp only [RepRs] at h
theorem repRs_at {w : World} {V : Nat → Prop} : ∀ {rs : List RV} {vs : List Value}, RepRs w V rs vs → ∀ (i : Nat) r, rs[i]? = some r → ∃ v, vs[i]? = some v ∧ RepR w V r v
  | r :: rs, v :: vs, h, 0, r', hr => by simp only [RepRs] at h; simp at hr; subst hr; exact ⟨v, rfl, h.1⟩
  | r :: rs, v :: vs, h, i + 1, r', hr => by simp only [RepRs] at h; simpa using repRs_at h.2 i r' (by simpa using hr)
  | [], _, _, i, r, hr => by simp at hr
  | _ :: _, [], h, _, _, _ => by simp only [RepRs] at h

theorem run_mapM_opt {P : Program} {α β : Type} (f : α → Sem β) (w : World) : ∀ (l : List α) (us : List β), l.length = us.length → (∀ (i : Nat) x u, l[i]? = some x → us[i]? = some u → (f x).run P w = .ok u w) → (l.mapM f).run P w = .ok us w
  | [], [], _, _ => by simp
  | x :: l, u :: us, hl, h => by
    rw [List.mapM_cons]
    simp only [Sem.run_bind, h 0 x u rfl rfl, Result.andThen_ok, run_mapM_opt f w l us (by simpa using hl) (fun i x' u' h1 h2 => h (i + 1) x' u' (by simpa using h1) (by simpa using h2)), Sem.run_pure]
  | [], _ :: _, hl, _ => by simp at hl
  | _ :: _, [], hl, _ => by simp at hl

def resOne (tmps : Array Value) : ResultVar → Sem Value
  | .tmp t => pure (tmps.getD t undef)
  | .cell c t => do loadVar t (← asAddr (tmps.getD c undef))
theorem results_eq (fn : Func) (tmps : Array Value) : results fn tmps = (do let vs ← fn.results.mapM (resOne tmps); pure (if h : vs.size = 1 then vs[0] else .tuple vs)) := by
  unfold results
  refine congrArg (fun f : ResultVar → Sem Value => (do let vs ← fn.results.mapM f; pure (if h : vs.size = 1 then vs[0] else .tuple vs) : Sem Value)) ?_
  funext x
  cases x <;> rfl
theorem res_vals {P : Program} {fn : Func} {w0 : World} {S : Scope} {n : Dom} {s : AS} {ι : Names} {a : Act} {w : World} (h : RepS w0 S n s ι a w) {xs : List AV} (hxs : resAVs P s fn.results.toList = some xs) :
    ∃ us : List Value, (results fn a.tmps).run P w = .ok (if h : us.toArray.size = 1 then us.toArray[0] else .tuple us.toArray) w ∧ RepAVs w (Seen S w0.heap.size s.bx ι) ι s.bx xs us := by
  -- each result's value
  have key : ∀ (rs : List ResultVar) (xs : List AV), resAVs P s rs = some xs → ∃ us : List Value, rs.length = us.length ∧ (∀ (i : Nat) x u, rs[i]? = some x → us[i]? = some u → (resOne a.tmps x).run P w = .ok u w) ∧
      RepAVs w (Seen S w0.heap.size s.bx ι) ι s.bx xs us := by
    intro rs
    induction rs with
    | nil => intro xs h; simp only [resAVs, Option.some.injEq] at h; subst h; exact ⟨[], rfl, fun i x u h => by simp at h, by simp only [RepAVs]⟩
    | cons rv rs ih =>
      intro xs hx
      simp only [resAVs] at hx
      cases h1 : resAV P s rv with
      | none => rw [h1] at hx; cases hx
      | some v =>
        cases h2 : resAVs P s rs with
        | none => rw [h1, h2] at hx; cases hx
        | some vs =>
          rw [h1, h2] at hx
          simp only [Option.some.injEq] at hx
          subst hx
          obtain ⟨us, l1, l2, l3⟩ := ih vs h2
          have h0 : ∃ u, (resOne a.tmps rv).run P w = .ok u w ∧ RepAV w (Seen S w0.heap.size s.bx ι) ι s.bx v u := by
            cases rv with
            | tmp t =>
              simp only [resAV, Option.some.injEq] at h1
              subst h1
              exact ⟨_, rfl, h.tm t⟩
            | cell c ty =>
              simp only [resAV] at h1
              split at h1
              · rename_i b off hc
                split at h1
                · rename_i cs g k hB hk
                  split at h1
                  · rename_i hle
                    have hv := h.tm c
                    rw [hc] at hv
                    obtain ⟨_, g', c', hι, ev⟩ := known_of hv
                    have hb := h.bx b
                    rw [hB] at hb
                    obtain ⟨g2, c2, cur, T, e1, e2, e3⟩ := hb
                    rw [e1] at hι
                    simp only [Option.some.injEq, Prod.mk.injEq] at hι
                    obtain ⟨rfl, rfl⟩ := hι
                    have hp := rep_aggOr (rep_cls_part e3 off k) h1
                    have hlen := rep_cls_len e3
                    have hk' : kindOf P ty = some (g, ((cur.toList.drop off).take k).length) := by
                      rw [hk]; congr 2; simp at hlen ⊢; omega
                    have hrun := run_loadVar_of (P := P) hk' (w := w) (b := g2) (o := off) (fun j u hj => by
                      rw [cell_of_row w g2 (off + j) cur T (0, 0) e2]
                      rw [List.getElem?_take] at hj
                      split at hj
                      · simpa using hj
                      · cases hj)
                    refine ⟨_, ?_, hp.1⟩
                    simp only [resOne, ev, asAddr, Sem.run_bind, Sem.run_pure, Result.andThen_ok, hrun]
                  · cases h1
                · cases h1
              · cases h1
          obtain ⟨u, hu1, hu2⟩ := h0
          refine ⟨u :: us, by simp [l1], fun i x u' hx hu' => ?_, by simp only [RepAVs]; exact ⟨hu2, l3⟩⟩
          cases i with
          | zero => simp at hx hu'; subst hx hu'; exact hu1
          | succ i => exact l2 i x u' (by simpa using hx) (by simpa using hu')
  obtain ⟨us, l1, l2, l3⟩ := key _ _ hxs
  have hmap := run_mapM_opt (P := P) (resOne a.tmps) w fn.results.toList us l1 l2
  refine ⟨us, ?_, l3⟩
  rw [results_eq, Sem.run_bind, Array.mapM_eq_mapM_toList, Sem.run_map, hmap]
  simp only [Result.andThen_ok, Sem.run_pure]
theorem res_run {P : Program} {fn : Func} {w0 : World} {S : Scope} {n : Dom} {s : AS} {ι : Names} {a : Act} {w : World} (h : RepS w0 S n s ι a w) {r : RV} (hr : resRV P s fn.results.toList = some r) :
    ∃ v, (results fn a.tmps).run P w = .ok v w ∧ RepR w (fun g => S.see g ∨ w0.heap.size ≤ g ∨ S.lent g) r v := by
  unfold resRV at hr
  split at hr
  · rename_i xs hxs
    split at hr
    · rename_i hflat
      obtain ⟨us, hrun, l3⟩ := res_vals h hxs
      have hseen : Keeps w (Seen S w0.heap.size s.bx ι) w (fun g => S.see g ∨ w0.heap.size ≤ g ∨ S.lent g) := fun g off u hV hu => ⟨hV.1, hu⟩
      have hlook : ∀ x ∈ xs, ∀ b ∈ x.refs, ∀ ys, (fun b => inside (s.bx b)) b = some ys → Shows w (fun g => S.see g ∨ w0.heap.size ≤ g ∨ S.lent g) ι b ys ∧ (ι b = none → ys = []) := by
        intro x hx b hb ys hys
        simp only at hys
        have hb' := h.bx b
        cases hB : s.bx b <;> rw [hB] at hys hb' <;> simp only [inside, Option.some.injEq, reduceCtorEq] at hys <;> subst hys
        · rcases hb' with ⟨g1, g2⟩ | ⟨g, cap, cur, g1, g2, g3, g4, g5⟩
          · exact ⟨fun g c e => (by rw [g1] at e; cases e), fun _ => g2⟩
          · refine ⟨fun g' c e => ?_, fun e => (by rw [g1] at e; cases e)⟩
            rw [g1] at e
            simp only [Option.some.injEq, Prod.mk.injEq] at e
            obtain ⟨rfl, rfl⟩ := e
            exact ⟨g3, fun _ => ⟨.inr (h.own b g cap (by rw [hB]; rfl) g1).1, RepCells.of_row g2 (g5.keep hseen)⟩⟩
        · rcases hb' with ⟨g1, g2⟩ | ⟨g, cap, g1, g2, g3⟩
          · exact ⟨fun g c e => (by rw [g1] at e; cases e), fun _ => g2⟩
          · refine ⟨fun g' c e => ?_, fun e => (by rw [g1] at e; cases e)⟩
            rw [g1] at e
            simp only [Option.some.injEq, Prod.mk.injEq] at e
            obtain ⟨rfl, rfl⟩ := e
            exact ⟨g3, g2.keep hseen⟩
      cases hrv : AV.rvs (fun b => inside (s.bx b)) xs with
      | none => rw [hrv] at hr; cases hr
      | some rvs =>
        rw [hrv] at hr
        have hall := rv_avs hseen hflat l3 hlook hrv
        refine ⟨_, hrun, ?_⟩
        have hlen := repRs_len hall
        match rvs, us, hall, hlen, hr with
        | [r'], [u], hall, _, hr =>
          simp only [Option.some.injEq] at hr
          subst hr
          simp only [RepRs] at hall
          simpa using hall.1
        | [], [], hall, _, hr =>
          simp only [Option.some.injEq] at hr
          subst hr
          simp only [List.size_toArray, List.length_nil, Nat.zero_ne_one, dite_false, RepR]
          exact ⟨_, rfl, hall⟩
        | r1 :: r2 :: rs, u1 :: u2 :: us, hall, _, hr =>
          simp only [Option.some.injEq] at hr
          subst hr
          simp only [RepR]
          refine ⟨(u1 :: u2 :: us).toArray, by simp, hall⟩
        | [_], [], _, hl, _ => simp at hl
        | [], _ :: _, _, hl, _ => simp at hl
        | [_], _ :: _ :: _, _, hl, _ => simp at hl
        | _ :: _ :: _, [], _, hl, _ => simp at hl
        | _ :: _ :: _, [_], _, hl, _ => simp at hl
    · cases hr
  · cases hr


/-- the marks that ranges over functions have left are taken off -/
theorem leaves_of {F : Fence} {m : Nat} {P : Program} {fn : Func} {R : Ending → World → Prop} {w0 : World} {n : Dom} {s : AS} {ι : Names} {tmps : Array Value} : ∀ (ds : List Deferred) (S : Scope) (w : World), RepS w0 S n s ι { tmps := tmps, defers := ds } w → S.ref.heap.size ≤ w0.heap.size →
    (∀ w', RepS w0 S n s ι { tmps := tmps, defers := [] } w' → ∃ v, (results fn tmps).run P w' = .ok v w' ∧ R (.returned v) w') → LeavesInM F m P fn tmps R ds .returning w
  | [], S, w, h, _, hR => hR w h
  | d :: ds, S, w, h, href, hR => by
    obtain ⟨D, rfl, h1, h2⟩ := h.marks.2 d (by simp)
    have hlt : D < w.heap.size := (Array.getElem?_eq_some_iff.1 h2).1
    refine ⟨by simp, .inl ⟨D, w.putObj D (.deferred none), rfl, run_takeDeferred h2, leaves_of ds S _ ?_ href hR⟩⟩
    have hg := grownBy_putObj' w D (.deferred none)
    refine h.turn hg (fun r e => by cases e; exact ⟨h1, _, h2, rfl⟩) (ds := ds) ⟨(List.pairwise_cons.1 h.marks.1).2, fun d' hd' => ?_⟩ (ref := S.ref) (keeps_turn h.oth hg (fun r e => by cases e; exact h1) href)
    obtain ⟨D', rfl, q1, q2⟩ := h.marks.2 d' (by simp [hd'])
    have hne : D' ≠ D := fun e => (List.pairwise_cons.1 h.marks.1).1 _ hd' (by rw [e])
    exact ⟨D', rfl, q1, (World.putObj_heap_other hne).trans q2⟩
def bodyOf (fn : Func) : Code := fn.body.getD .skip
theorem bodyOf_eq {fn : Func} (hb : fn.body.isSome = true) : fn.body = some (bodyOf fn) := by
  unfold bodyOf
  cases h : fn.body with
  | none => rw [h] at hb; cases hb
  | some c => rfl
/-- a function answers as its text's statement says -/
theorem calls_of_vcg {P : Program} {Γ : Gam} {f : FuncId} {fn : Func} (ann : Ann) (hm : P.follows .mixedOrders = true) (hf : P.funcs[f]? = some fn) (hb : fn.body.isSome = true) {n : Dom} (hn : n.round = false) {s : AS} {Q : AExit → Kn → AS → Prop}
    (h : vcg P Γ n (bodyOf fn) ann kn0 s Q) {w : World} {S : Scope} {ι : Names} {vs : Array Value} {R : Ending → World → Prop} (hr : RepS w S n s ι { tmps := vs ++ Array.replicate (fn.ntmps - vs.size) undef, defers := [] } w) (href : S.ref = w)
    (hend : ∀ e kn' s' ι' tmps w', Q e kn' s' → RepS w S n s' ι' { tmps := tmps, defers := [] } w' → (∀ id, e ≠ .exit id) ∧ ∃ v, (results fn tmps).run P w' = .ok v w' ∧ R (.returned v) w')
    (hex : ∀ id kn' s', ¬ Q (.exit id) kn' s') : Calls P f vs w R := by
  refine callsIn_wide.1 (callsIn_of_wp_marks (F := Fence.wide) (n := 1) hf (bodyOf_eq hb) trivial ?_)
  refine vcg_sound hm (bodyOf fn) n ann kn0 s Q h (kn0_ok _) Fence.wide (.inl rfl) (fun _ => rfl) w S ι _ w hr 1 _ fun e kn' s' ι' a' w' hq hk' hr' => ?_
  have done : LeavesInM Fence.wide 1 P fn a'.tmps R a'.defers .returning w' :=
    leaves_of a'.defers S w' hr' (by rw [href]; exact Nat.le_refl _) fun w'' h'' => (hend e kn' s' ι' a'.tmps w'' hq h'').2
  cases e with
  | normal => exact done
  | ret => exact done
  | exit id => exact (hex id kn' s' hq).elim
theorem start_tm {w : World} {V : Nat → Prop} {ι : Names} {bx : Nat → Bx} {k : Nat} : ∀ {xs : List AV} {vs : List Value}, RepAVs w V ι bx xs vs → ∀ t, RepAV w V ι bx ((xs[t]?).getD (.tup [])) ((vs ++ List.replicate k undef).getD t undef)
  | [], [], _, t => by
    simp only [List.getElem?_nil, Option.getD_none, RepAV, List.nil_append]
    refine ⟨#[], ?_, by simp only [RepAVs]⟩
    rw [List.getD_eq_getElem?_getD, List.getElem?_replicate]
    split <;> rfl
  | x :: xs, v :: vs, h, 0 => by simp only [RepAVs] at h; simpa using h.1
  | x :: xs, v :: vs, h, t + 1 => by simp only [RepAVs] at h; simpa using start_tm h.2 t
  | [], _ :: _, h, _ => by simp only [RepAVs] at h
  | _ :: _, [], h, _ => by simp only [RepAVs] at h
theorem arr_getD (vs : Array Value) (k t : Nat) : (vs ++ Array.replicate k undef).getD t undef = (vs.toList ++ List.replicate k undef).getD t undef := by
  rw [Array.getD_eq_getD_getElem?, List.getD_eq_getElem?_getD, ← Array.getElem?_toList]
  simp
theorem rep_start {w : World} {S : Nat → Prop} {fn : Func} {args : List RV} {vs : Array Value} (hl : args.length ≤ fn.ntmps) (hvs : RepRs w S args vs.toList) :
    RepS w { see := S, ref := w } fn.ntmps (start args) (fun _ => none) { tmps := vs ++ Array.replicate (fn.ntmps - vs.size) undef, defers := [] } w := by
  have hlen := repRs_len hvs
  refine ⟨Bel.refl _ _, ⟨List.Pairwise.nil, fun d hd => by simp at hd⟩, KeepsOthers.refl w, ?_, fun t h => by (cases h), fun b h => by (cases h), fun t => ?_, fun b => trivial, fun b g c hl => by simp [start, Bx.live] at hl, fun b b' g c c' hl => by simp [start, Bx.live] at hl⟩
  · show (vs ++ Array.replicate (fn.ntmps - vs.size) undef).size = fn.ntmps
    simp at hlen ⊢; omega
  · have hk : Keeps w S w (Seen { see := S, ref := w } w.heap.size (start args).bx fun _ => none) := fun g off u hV hu => ⟨⟨.inl hV, fun b c hl => by simp [start, Bx.live] at hl⟩, hu⟩
    have h1 := rep_avs (ι := fun _ => none) (bx := (start args).bx) (RepRs.keep hk hvs)
    have h2 := start_tm (k := fn.ntmps - vs.size) h1 t
    rw [← arr_getD] at h2
    have e : (start args).tm t = ((RV.avs args)[t]?).getD (.tup []) := by
      have : ∀ (l : List RV) (t : Nat), (RV.avs l)[t]? = (l[t]?).map RV.av := by
        intro l
        induction l with
        | nil => intro t; simp [RV.avs]
        | cons x l ih => intro t; cases t <;> simp [RV.avs, ih]
      rw [this]
      simp only [start]
      cases args[t]? <;> rfl
    rw [e]
    exact h2
theorem ans_of_vcg {P : Program} {Γ : Gam} {f : FuncId} {fn : Func} {args : List RV} {res : RV} (ann : Ann) (hm : P.follows .mixedOrders = true) (hf : P.funcs[f]? = some fn) (hb : fn.body.isSome = true) (hl : args.length ≤ fn.ntmps)
    (h : RV.wfs args → vcg P Γ fn.ntmps (bodyOf fn) ann kn0 (start args) (post P fn.results.toList (· = res))) : Ans P f args res := by
  intro w S vs hvs
  refine calls_of_vcg ann hm hf hb (n := fn.ntmps) rfl (h (RepRs.wf hvs)) (rep_start hl hvs) rfl (fun e kn' s' ι' tmps w' hq hr' => ?_) (fun id kn' s' hq => hq)
  have done : post P fn.results.toList (· = res) .ret kn' s' → ∃ v, (results fn tmps).run P w' = .ok v w' ∧ (∃ u, Ending.returned v = .returned u ∧ RepR w' (fun g => S g ∨ w.heap.size ≤ g) res u ∧ Below w.heap.size w w') := by
    intro hq
    simp only [post] at hq
    split at hq
    · rename_i r hres
      subst hq
      obtain ⟨v, h1, h2⟩ := res_run hr' hres
      have hsee : ∀ g, (S g ∨ w.heap.size ≤ g ∨ False) → (S g ∨ w.heap.size ≤ g) := fun g hV => hV.imp id fun h => h.resolve_right id
      exact ⟨v, h1, v, rfl, h2.keep (fun g off u hV hu => ⟨hsee g hV, hu⟩), hr'.bel.below fun g h => h⟩
    · exact hq.elim
  cases e with
  | normal => exact ⟨fun _ e => by (cases e), done hq⟩
  | ret => exact ⟨fun _ e => by (cases e), done hq⟩
  | exit id => exact hq.elim
/-- what a function leaves that hands back a row of its own -/
def postO (t e size n : Nat) (ys : List DV) : AExit → Kn → AS → Prop
  | .exit _, _, _ => False
  | _, _, s => match s.tm t with
    | .one (.ref b m) => match s.bx b with
      | .row e' size' zs => (e' = e ∧ size' = size) ∧ ys.length = n * size ∧ m = n ∧ zs = ys
      | _ => False
    | .one .nil => n = 0 ∧ ys = []
    | _ => False
theorem own_new {w0 w : World} {S : Scope} {n : Dom} {s : AS} {ι : Names} {a : Act} (h : RepS w0 S n s ι a w) (hl : ∀ g, ¬ S.lent g) {b e size m : Nat} {v : Value} {us : List Value} (hb : (s.bx b).live = true) (ho : w.ownsRow 0 e size v m us) (hn : ∀ g, v.ownBlock = some g → ∃ c, ι b = some (g, c)) : w.ownsRow w0.heap.size e size v m us := by
  refine ⟨ho.1, ?_⟩
  rcases ho.2 with h1 | ⟨g, cap, cur, e1, h1, h2, h3⟩
  · exact .inl h1
  · refine .inr ⟨g, cap, cur, e1, ?_, h2, h3⟩
    obtain ⟨c, hc⟩ := hn g (by rw [e1]; rfl)
    exact (h.own b g c hb hc).1.resolve_right (hl g)
theorem ans_of_vcg_own {P : Program} {Γ : Gam} {f : FuncId} {fn : Func} {args : List RV} {t e size n : Nat} {ys : List DV} (ann : Ann) (hm : P.follows .mixedOrders = true) (hf : P.funcs[f]? = some fn) (hb : fn.body.isSome = true) (hl : args.length ≤ fn.ntmps) (hres : fn.results = #[.tmp t])
    (h : RV.wfs args → vcg P Γ fn.ntmps (bodyOf fn) ann kn0 (start args) (postO t e size n ys)) : AnsO P f args e size n ys := by
  intro w S vs hvs
  refine calls_of_vcg ann hm hf hb (n := fn.ntmps) rfl (h (RepRs.wf hvs)) (rep_start hl hvs) rfl (fun ex kn' s' ι' tmps w' hq hr' => ?_) (fun id kn' s' hq => hq)
  have hbel : Below w.heap.size w w' := hr'.bel.below fun g h => h
  have done : postO t e size n ys .ret kn' s' → ∃ v, (results fn tmps).run P w' = .ok v w' ∧ (∃ v2 us, Ending.returned v = .returned v2 ∧ w'.ownsRow w.heap.size e size v2 n us ∧ RepDs w' (fun g => (S g ∨ w.heap.size ≤ g) ∧ v2.ownBlock ≠ some g) ys us ∧ ys.length = n * size ∧ Below w.heap.size w w') := by
    intro hq
    have hsee : ∀ g, (S g ∨ w.heap.size ≤ g ∨ False) → (S g ∨ w.heap.size ≤ g) := fun g hV => hV.imp id fun h => h.resolve_right id
    refine ⟨_, results_tmp hres _ _ _, ?_⟩
    have hv := hr'.tm t
    simp only [postO] at hq
    split at hq
    · rename_i b m htm
      rw [htm] at hv
      split at hq
      · rename_i e' size' zs hbx
        obtain ⟨⟨rfl, rfl⟩, hlen, rfl, rfl⟩ := hq
        obtain ⟨us, o1, o2, o3⟩ := own_of_ref hr' hbx hlen hv
        refine ⟨_, us, rfl, own_new hr' (fun g h => h) (by rw [hbx]; rfl) o1 o3, o2.keep fun g off u hV hu => ⟨⟨hsee g hV.1, fun e => ?_⟩, hu⟩, hlen, hbel⟩
        obtain ⟨c, hc⟩ := o3 g e
        exact hV.2 b c (by rw [hbx]; rfl) hc
      · exact hq.elim
    · rename_i htm
      rw [htm] at hv
      simp only [RepAV, RepCl] at hv
      obtain ⟨rfl, rfl⟩ := hq
      exact ⟨_, [], rfl, by rw [hv]; exact World.ownsRow_nil _ _ _ _, trivial, by simp, hbel⟩
    · exact hq.elim
  cases ex with
  | normal => exact ⟨fun _ e => by (cases e), done hq⟩
  | ret => exact ⟨fun _ e => by (cases e), done hq⟩
  | exit id => exact hq.elim
end Go.Proofs.Ytoljdijpmnadpaa
