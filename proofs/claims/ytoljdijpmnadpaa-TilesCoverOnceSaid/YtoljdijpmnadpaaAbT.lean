/-
  A range over a function: by how often it calls its body and with what.
-/
import Derived.Test.YtoljdijpmnadpaaAbM
namespace Go.Proofs.Ytoljdijpmnadpaa
open Go.RowKit
set_option linter.unusedVariables false
set_option linter.unusedSimpArgs false

/-- what a closure's cell holds: data, or a box of data -/
def Holds1 (w : World) : Bool × List DV → Value → Prop
  | (false, ds), v => ∃ d, ds = [d] ∧ d.plain = some v
  | (true, ds), v => ∃ g, v = .pointer (some ⟨g, 0, none⟩) ∧ ∀ i d, ds[i]? = some d → ∃ u, d.plain = some u ∧ w.cell? ⟨g, i, none⟩ = some u
def HoldsL (w : World) : List (Bool × List DV) → List Value → Prop
  | [], [] => True
  | c :: cs, v :: vs => Holds1 w c v ∧ HoldsL w cs vs
  | _, _ => False
def encsOf (ds : List DV) : Array Value := (ds.map fun d => d.plain.getD undef).toArray
/-- AN ITERATOR: it calls its body N times, with the k-th item at the k-th time, until the body says stop -/
def AnsI (P : Program) (g : FuncId) (caps : List (Bool × List DV)) (N : Nat) (item : Nat → List DV) : Prop :=
  ∀ (lb : Array Value) (l m : Nat) (J : Nat → World → Prop) (Jx : World → Prop),
    (∀ k W, J k W → HoldsL W caps lb.toList) →
    (∀ k W d, J k W → J k { W with drawn := d }) → (∀ W d, Jx W → Jx { W with drawn := d }) →
    (∀ k W, k < N → J k W → YieldAt Fence.wide m P l (encsOf (item k)) W fun e W' => (e = .returned (.bool true) ∧ J (k + 1) W') ∨ (e = .returned (.bool false) ∧ Jx W')) →
    ∀ W, J 0 W → CallsIn Fence.wide m P g (#[.func (.yield l) #[] #[]] ++ lb) W fun e W' => (∃ v, e = .returned v) ∧ (J N W' ∨ Jx W')

/-- how a round may be left -/
def roundEnd (I : World → Prop) (Ix : Code → World → Prop) (W : World) : Exit → Act → World → Prop
  | .normal, _, W' => KeepsOthers W W' ∧ I W'
  | .ret, _, W' => KeepsOthers W W' ∧ Ix .ret W'
  | .exit id, _, W' => KeepsOthers W W' ∧ Ix (.exit id) W'
  | _, _, _ => False
def Stays_ (B : Nat) (I : World → Prop) : Prop :=
  ∀ W W' row, I W → W.grownBy W' row → (∀ r, row = some r → B ≤ r ∧ ∃ o : Obj, W.heap[r]? = some o ∧ o.isCells = false) → I W'
theorem Stays_.put {B : Nat} {I : World → Prop} (h : Stays_ B I) {W : World} {l : Nat} {o : Obj} (o' : Obj) (hs : I W) (hB : B ≤ l) (hl : W.heap[l]? = some o) (ho : o.isCells = false) : I (W.putObj l o') :=
  h W _ (some l) hs (grownBy_putObj' W l o') (fun r e => by cases e; exact ⟨hB, o, hl, ho⟩)
theorem Stays_.new_ {B : Nat} {I : World → Prop} (h : Stays_ B I) {W : World} (o : Obj) (hs : I W) : I (W.alloc o) :=
  h W _ none hs (World.grownBy_alloc W o none) (fun r e => by cases e)
theorem Stays_.drawn {B : Nat} {I : World → Prop} (h : Stays_ B I) {W : World} (d : Nat) (hs : I W) : I { W with drawn := d } :=
  h W _ none hs ⟨rfl, rfl, rfl, Nat.le_refl _, fun _ _ _ => rfl⟩ (fun r e => by cases e)

theorem range_law {P : Program} {g : Operand} {ps : Array Tmp} {assign body : Code} {Q : Exit → Act → World → Prop} {a : Act} {w : World} {m gf : Nat} {lb : Array Value}
    (hg : a.eval g = .func (.func gf) #[] lb) (eg : ∀ args w, (callFunc gf args).run P w = .ok (.enter gf args) w)
    {caps : List (Bool × List DV)} {N : Nat} {item : Nat → List DV} (hseq : AnsI P gf caps N item) (hps : ∀ k, k < N → (item k).length = ps.size)
    (I : Nat → World → Prop) (Ix : Code → World → Prop) (hI : ∀ k, Stays_ w.heap.size (I k)) (hIx : ∀ c, Stays_ w.heap.size (Ix c))
    (hcaps : ∀ k W, I k W → HoldsL W caps lb.toList) (h0 : I 0 w)
    (hround : ∀ l k W, k < N → I k W →
      assign.wpIn (Fence.wide.inRound l) m P (Exit.then (fun a1 W1 => KeepsOthers W W1 ∧ ∀ W2, W1.grownBy W2 (some l) → w.heap.size ≤ l → (∃ r : Loop, W1.heap[l]? = some (.loop r)) →
        body.wpIn (Fence.wide.inRound l) m P (roundEnd (I (k + 1)) Ix W2) a1 W2) (fun _ _ _ => False))
        { tmps := (ps.zip (encsOf (item k))).foldl (fun t (p, v) => t.setIfInBounds p v) a.tmps, defers := [] } W)
    (hdone : ∀ (D : Nat) (W : World), w.heap.size ≤ D → I N W → W.heap[D]? = some (.deferred (some [])) → Q .normal { a with defers := { target := .collected D, args := #[] } :: a.defers } W)
    (hstop : ∀ (D : Nat) (c : Code) (W : World), w.heap.size ≤ D → Ix c W → W.heap[D]? = some (.deferred (some [])) → c.wpIn Fence.wide m P Q { a with defers := { target := .collected D, args := #[] } :: a.defers } W) :
    (Code.rangeFunc g ps assign body).wpIn Fence.wide m P Q a w := by
  refine wpIn_rangeFunc ?_
  intro fn hfn
  show ∃ (l : Nat) (mark : List Deferred) (w₁ : World) (d : Deferred) (w₁' : World) (f : FuncId) (args : Array Value) (w₂ : World), (Instr.enterLoop fn a.tmps ps assign body none).run P w = _ ∧ _
  obtain ⟨rec, hrec⟩ : ∃ rec : LoopState → Option Code → Loop, rec = fun st pe => { state := st, pending := pe, fn, tmps := a.tmps, params := ps, assign, body, defers := w.heap.size } := ⟨_, rfl⟩
  obtain ⟨W1, hW1⟩ : ∃ W1, (w.alloc (.deferred (some []))).alloc (.loop (rec .ready none)) = W1 := ⟨_, rfl⟩
  have hL1 : W1.heap[w.heap.size + 1]? = some (.loop (rec .ready none)) := by
    rw [← hW1]; have := World.alloc_heap_new (w.alloc (.deferred (some []))) (.loop (rec .ready none)); rwa [World.size_alloc] at this
  have hK1 : W1.heap[w.heap.size]? = some (.deferred (some [])) := by
    rw [← hW1]; exact (Below.heap_alloc _ _ _ (by simp)).trans (World.alloc_heap_new w _)
  have hI1 : I 0 W1 := by rw [← hW1]; exact (hI 0).new_ _ ((hI 0).new_ _ h0)
  refine ⟨w.heap.size + 1, [{ target := .collected w.heap.size, args := #[] }], W1, { target := .fn (.func gf) lb, args := #[.func (.yield (w.heap.size + 1)) #[] #[]] }, W1, gf,
    #[.func (.yield (w.heap.size + 1)) #[] #[]] ++ lb, W1, ?_, ?_, ?_, ?_, fun h => by (cases h), ?_⟩
  · rw [← hW1, hrec]; exact run_enterLoop_outer _ _ _ _ _
  · simp only [resolve, hg]
    simp [go_sem]
  · intro f' hf'; trivial
  · simp [invoke, go_sem, eg]
  · refine CallsIn.mono (hseq lb (w.heap.size + 1) (m - 1)
      (fun k W => I k W ∧ W.heap[w.heap.size + 1]? = some (.loop (rec .ready none)) ∧ W.heap[w.heap.size]? = some (.deferred (some [])))
      (fun W => ∃ c, Ix c W ∧ W.heap[w.heap.size + 1]? = some (.loop (rec .done (some c))) ∧ W.heap[w.heap.size]? = some (.deferred (some [])))
      (fun k W h => hcaps k W h.1) (fun k W d h => ⟨(hI k).drawn d h.1, h.2.1, h.2.2⟩) (fun W d ⟨c, h1, h2, h3⟩ => ⟨c, (hIx c).drawn d h1, h2, h3⟩) ?_ W1 ⟨hI1, hL1, hK1⟩) ?_
    · -- one round
      rintro k W hk ⟨hi, hl, hkd⟩
      have hy := run_yield (P := P) (args := encsOf (item k)) hl (by rw [hrec]; simp only [encsOf, List.size_toArray, List.length_map]; exact hps k hk)
      rw [hrec] at hy
      refine ⟨fn, _, assign, body, hy, roundIn_of_wpIn trivial ?_⟩
      have hr := hround (w.heap.size + 1) k W hk hi
      have hr : assign.wpIn (Fence.wide.inRound (w.heap.size + 1)) (m - 1) P _ _ W := fun b k cs h1 h2 _ => hr b k cs h1 h2 (Wide.room (.inr ⟨_, rfl⟩) _)
      refine wpIn_mono hr ?_
      intro e a1 Wa hq
      cases e with
      | normal =>
        obtain ⟨hka, hq⟩ := hq
        have hla := hka.same _ _ hl rfl
        have hda := hka.same _ _ hkd rfl
        have hbr := run_beginRound (P := P) hla (by rw [hrec])
        refine ⟨_, hbr, ?_⟩
        have hlt : w.heap.size + 1 < Wa.heap.size := (Array.getElem?_eq_some_iff.1 hla).1
        have hl2 : (Wa.putObj (w.heap.size + 1) (.loop { rec .ready none with state := .busy })).heap[w.heap.size + 1]? = some (.loop { rec .ready none with state := .busy }) := World.putObj_heap_same hlt
        have hk2 : (Wa.putObj (w.heap.size + 1) (.loop { rec .ready none with state := .busy })).heap[w.heap.size]? = some (.deferred (some [])) := (World.putObj_heap_other (by omega)).trans hda
        have hb := hq _ (grownBy_putObj' Wa (w.heap.size + 1) (.loop { rec .ready none with state := .busy })) (by omega) ⟨_, hla⟩
        have hb : body.wpIn (Fence.wide.inRound (w.heap.size + 1)) (m - 1) P _ a1 _ := fun b k cs h1 h2 _ => hb b k cs h1 h2 (Wide.room (.inr ⟨_, rfl⟩) _)
        refine wpIn_mono hb ?_
        have fin : ∀ (jump : Option Code) (W3 : World), KeepsOthers (Wa.putObj (w.heap.size + 1) (.loop { rec .ready none with state := .busy })) W3 →
            (Instr.endRound (w.heap.size + 1) jump).run P W3 = .ok (.bool jump.isNone) (W3.putObj (w.heap.size + 1) (.loop (rec (if jump.isNone then .ready else .done) jump))) ∧
            W3.heap[w.heap.size + 1]? = some (.loop { rec .ready none with state := .busy }) ∧
            (W3.putObj (w.heap.size + 1) (.loop (rec (if jump.isNone then .ready else .done) jump))).heap[w.heap.size + 1]? = some (.loop (rec (if jump.isNone then .ready else .done) jump)) ∧
            (W3.putObj (w.heap.size + 1) (.loop (rec (if jump.isNone then .ready else .done) jump))).heap[w.heap.size]? = some (.deferred (some [])) := fun jump W3 hk3 => by
          have hl3 := hk3.same _ _ hl2 rfl
          have := run_endRound (P := P) jump hl3
          rw [hrec] at this ⊢
          exact ⟨this, by rw [hrec] at hl3; exact hl3, World.putObj_heap_same (Array.getElem?_eq_some_iff.1 hl3).1, (World.putObj_heap_other (by omega)).trans (hk3.same _ _ hk2 rfl)⟩
        intro e3 a3 W3 hp
        cases e3 with
        | normal =>
          obtain ⟨hk3, hi3⟩ := hp
          obtain ⟨hr, hl3, hl4, hk4⟩ := fin none W3 hk3
          exact ⟨_, _, hr, .inl ⟨rfl, (hI _).put _ hi3 (by omega) hl3 rfl, hl4, hk4⟩⟩
        | ret =>
          obtain ⟨hk3, hi3⟩ := hp
          obtain ⟨hr, hl3, hl4, hk4⟩ := fin (some .ret) W3 hk3
          exact ⟨_, _, hr, .inr ⟨rfl, .ret, (hIx _).put _ hi3 (by omega) hl3 rfl, hl4, hk4⟩⟩
        | exit id =>
          obtain ⟨hk3, hi3⟩ := hp
          obtain ⟨hr, hl3, hl4, hk4⟩ := fin (some (.exit id)) W3 hk3
          exact ⟨_, _, hr, .inr ⟨rfl, .exit id, (hIx _).put _ hi3 (by omega) hl3 rfl, hl4, hk4⟩⟩
        | goto t => exact hp.elim
        | panic ch => exact hp.elim
        | outgrown => exact hp.elim
      | ret => exact hq.elim
      | exit id => exact hq.elim
      | goto t => exact hq.elim
      | panic ch => exact hq.elim
      | outgrown => exact hq.elim
    · -- behind the iterator
      rintro e W2 ⟨⟨v, rfl⟩, (⟨hi, hl, hk⟩ | ⟨c, hi, hl, hk⟩)⟩
      · exact ⟨none, _, by have := run_endLoop (P := P) hl (by rw [hrec]; simp); rw [hrec] at this; exact this, hdone _ _ (Nat.le_refl _) ((hI _).put _ hi (by omega) hl rfl) ((World.putObj_heap_other (by omega)).trans hk)⟩
      · exact ⟨some c, _, by have := run_endLoop (P := P) hl (by rw [hrec]; simp); rw [hrec] at this; exact this, hstop _ c _ (Nat.le_refl _) ((hIx c).put _ hi (by omega) hl rfl) ((World.putObj_heap_other (by omega)).trans hk)⟩
end Go.Proofs.Ytoljdijpmnadpaa
