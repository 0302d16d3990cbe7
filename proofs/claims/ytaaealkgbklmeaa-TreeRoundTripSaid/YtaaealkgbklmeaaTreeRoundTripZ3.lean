/-
  Part 3 of what TreeRoundTrip rests on.
-/
import Derived.Test.YtaaealkgbklmeaaTreeRoundTripZ2
import Derived.Test.YtaaealkgbklmeaaProg
import Derived.WalkKit
import Derived.Deep.LoopGhost
import Derived.Deep.Light
import Derived.Deep.QuietTactic
import Derived.Tactics
import Derived.Tactics2
import Derived.Deep.RegionLaw
import Derived.BigQuiet
import Derived.Deep.OwnRows
import Derived.ProofKit
import Derived.SizedLaws
import Derived.OpenShut
import Derived.Deep.AppendLies
import Derived.RegionTactic
import Derived.OwnWalk
import Derived.Lib.SliceRun
/-
  A forest in memory: the steps of a walk.
-/
namespace Go.Proofs.Ytaaealkgbklmeaa
open Go.RowKit
set_option linter.unusedVariables false
set_option linter.unusedSimpArgs false
/-- what is known of a type -/
def InfoOk (P : Program) (t : TypeId) (sz : Nat) : Prop := ∃ i, P.info? t = some i ∧ zeroFits i = true ∧ i.size = sz ∧ i.bytes ≤ 1000
theorem InfoOk.of {P : Program} {t : TypeId} {sz : Nat} (h : (P.info? t).map (fun i => (zeroFits i, i.size, decide (i.bytes ≤ 1000))) = some (true, sz, true)) : InfoOk P t sz := by
  obtain ⟨i, hi, he⟩ := Option.map_eq_some_iff.1 h
  simp only [Prod.mk.injEq, decide_eq_true_eq] at he
  exact ⟨i, hi, he.1, he.2.1, he.2.2⟩
/-- what a walk looks at -/
structure TSee (w : World) (ex : List (Nat × Obj)) (bt : Nat) (vN vR : Value) : Prop where
  c0 : w.cell? ⟨bt, 0, none⟩ = some vN
  c1 : w.cell? ⟨bt, 1, none⟩ = some vR
  f0 : w.frozen? ⟨bt, 0, none⟩ = false
  f1 : w.frozen? ⟨bt, 1, none⟩ = false
  px : ∀ p ∈ ex, w.heap[p.1]? = some p.2
section
variable {tT tN tI : TypeId} {w0 w : World} {ex : List (Nat × Obj)} {bt : Nat} {vN vR vO : Value} {ns : List (Oq × List Int)} {kv : List Value} {rs os : List Int}
theorem Trees.see' (h : Trees tT tN tI w0 w ex bt vN vR vO ns kv rs os) {w' : World} (hb : w'.heap[bt]? = w.heap[bt]?) (hx : ∀ p ∈ ex, w'.heap[p.1]? = w.heap[p.1]?) : TSee w' ex bt vN vR := by
  have e := hb.trans h.box
  refine ⟨?_, ?_, ?_, ?_, fun p hp => (hx p hp).trans (h.pins p hp).2.1⟩ <;> simp [World.cell?, World.frozen?, e]
theorem Trees.see (h : Trees tT tN tI w0 w ex bt vN vR vO ns kv rs os) : TSee w ex bt vN vR := h.see' rfl fun _ _ => rfl
theorem Trees.seen (h : Trees tT tN tI w0 w ex bt vN vR vO ns kv rs os) {w' : World} {v : Value} (hg : w.grownBy w' v.ownBlock) (j : Nat) (hj0 : 0 ≠ j) (hj : blks bt vN vR vO kv j = v.ownBlock) : TSee w' ex bt vN vR :=
  h.see' (hg.block bt (h.blk 0 bt rfl).2 fun e => hj0 (h.apart 0 j bt rfl (by rw [hj]; exact e.symm))) fun p hp => hg.block p.1 (Array.getElem?_eq_some_iff.1 (h.pins p hp).2.1).1 fun e => (h.pins p hp).2.2 j (by rw [hj]; exact e.symm)
theorem Trees.pin (h : Trees tT tN tI w0 w ex bt vN vR vO ns kv rs os) (o : Obj) : Trees tT tN tI w0 (w.alloc o) ((w.heap.size, o) :: ex) bt vN vR vO ns kv rs os := by
  have h' := h.alloc o
  refine ⟨h'.bel, h'.box, h'.old, h'.klen, h'.nodes, h'.roots, h'.open_, h'.kids, h'.apart, fun p hp => ?_⟩
  rcases List.mem_cons.1 hp with rfl | hp
  · exact ⟨h.bel.size, heap_alloc_new w o, fun a e => Nat.lt_irrefl _ (h.blk a _ e).2⟩
  · exact h'.pins p hp
theorem Trees.res {t : TypeId} (h : Trees tT tN tI w0 w [(w0.heap.size, .cells #[.slice none 0 0, .slice none 0 0] t (0, 0))] bt vN vR vO ns kv rs os) : w.cell? ⟨w0.heap.size, 0, none⟩ = some (.slice none 0 0) ∧ w.cell? ⟨w0.heap.size, 1, none⟩ = some (.slice none 0 0) ∧ w.frozen? ⟨w0.heap.size, 0, none⟩ = false ∧ w.frozen? ⟨w0.heap.size, 1, none⟩ = false := by
  have e := (h.pins _ (List.mem_singleton.2 rfl)).2.1
  simp only at e
  refine ⟨?_, ?_, ?_, ?_⟩ <;> simp [World.cell?, World.frozen?, e]
theorem Trees.put_res {t : TypeId} {x y : Value} (h : Trees tT tN tI w0 w [(w0.heap.size, .cells #[x, y] t (0, 0))] bt vN vR vO ns kv rs os) (u v : Value) : Trees tT tN tI w0 ((w.setCell ⟨w0.heap.size, 0, none⟩ u).setCell ⟨w0.heap.size, 1, none⟩ v) [] bt vN vR vO ns kv rs os ∧ ((w.setCell ⟨w0.heap.size, 0, none⟩ u).setCell ⟨w0.heap.size, 1, none⟩ v).heap[w0.heap.size]? = some (.cells #[u, v] t (0, 0)) := by
  have hp := h.pins _ (List.mem_singleton.2 rfl)
  have e := hp.2.1
  have e3 := hp.2.2
  simp only at e e3
  have e1 : w.setCell ⟨w0.heap.size, 0, none⟩ u = w.setRow w0.heap.size #[u, y] := setCell_eq_setRow w _ 0 _ _ _ u e
  have e2 : (w.setRow w0.heap.size #[u, y]).heap[w0.heap.size]? = some (.cells #[u, y] t (0, 0)) := setRow_heap _ _ _ _ _ _ e
  have e4 : (w.setRow w0.heap.size #[u, y]).setCell ⟨w0.heap.size, 1, none⟩ v = (w.setRow w0.heap.size #[u, y]).setRow w0.heap.size #[u, v] := setCell_eq_setRow _ _ 1 _ _ _ v e2
  rw [e1, e4]
  have hk : ∀ a g, blks bt vN vR vO kv a = some g → ((w.setRow w0.heap.size #[u, y]).setRow w0.heap.size #[u, v]).heap[g]? = w.heap[g]? := fun a g hg => by
    have : g ≠ w0.heap.size := fun e => e3 a (by rw [hg, e])
    rw [setRow_other _ _ _ _ this, setRow_other _ _ _ _ this]
  refine ⟨⟨?_, ?_, h.old, h.klen, ?_, ?_, ?_, ?_, h.apart, fun p hp => by cases hp⟩, setRow_heap _ _ _ _ _ _ e2⟩
  · refine ⟨h.bel.os, h.bel.tape, h.bel.output, by have := h.bel.size; simp [World.setRow]; omega, fun k hk => ?_⟩
    rw [setRow_other _ _ _ _ (by omega), setRow_other _ _ _ _ (by omega)]
    exact h.bel.block k hk
  · exact (hk 0 bt rfl).trans h.box
  · exact h.nodes.keep fun g e => hk 1 g e
  · exact h.roots.keep fun g e => hk 2 g e
  · exact h.open_.keep fun g e => hk 3 g e
  · exact fun i v p hv hp => (h.kids i v p hv hp).keep fun g e => hk (i + 4) g (by simp only [blks, hv]; exact e)
theorem rep_none {w : World} {V : Nat → Prop} : RepDs w V (treeD [] []) [.slice none 0 0, .slice none 0 0] := by
  simp [treeD, nodesD, is, RepDs, RepD]
  exact ⟨none, 0, ⟨rfl, rfl⟩, Nat.zero_le _⟩
theorem Trees.unpin {p : Nat × Obj} (h : Trees tT tN tI w0 w (p :: ex) bt vN vR vO ns kv rs os) : Trees tT tN tI w0 w ex bt vN vR vO ns kv rs os :=
  ⟨h.bel, h.box, h.old, h.klen, h.nodes, h.roots, h.open_, h.kids, h.apart, fun q hq => h.pins q (List.mem_cons_of_mem _ hq)⟩
theorem src_new (w : World) (arr : Array Value) (t : TypeId) (m c : Nat) : Src (w.alloc (.cells arr t (0, 0))) (.slice (some ⟨w.heap.size, 0, none⟩) m c) m arr.toList := by
  refine .inr ⟨_, _, rfl, fun j u hu => ?_⟩
  have e : (w.alloc (.cells arr t (0, 0))).heap[w.heap.size]? = some (.cells arr t (0, 0)) := heap_alloc_new w _
  have hu' : arr[j]? = some u := by simpa using hu
  rw [addr_add]
  generalize w.alloc (.cells arr t (0, 0)) = wx at e ⊢
  simp [World.cell?, e, hu']
theorem oneCell_vals (o : Oq) (xs : List Value) (h : ∀ u ∈ xs, u.oneCell' = true) : ∀ u ∈ o.vals ++ xs, u.oneCell' = true := fun u hu => by
  rcases List.mem_append.1 hu with hu | hu
  · simp only [Oq.vals, List.mem_cons, List.not_mem_nil, or_false] at hu
    rcases hu with rfl | rfl | rfl | rfl | rfl | rfl | rfl | rfl | rfl | rfl | rfl | rfl <;> rfl
  · exact h u hu
theorem OwnsM.at_ {w : World} {base : Nat} {e : TypeId} {size : Nat} {A : Option Addr} {m c n : Nat} {xs : List Value} (h : OwnsM w base e size (.slice A m c) n xs) (hn : 0 < n) : ∃ g, A = some ⟨g, 0, none⟩ ∧ ∀ (j : Nat) v, xs[j]? = some v → w.cell? ⟨g, j, none⟩ = some v := by
  obtain ⟨g, cap, e1, e2, e3⟩ := h.cell hn
  injection e1 with e1
  refine ⟨g, e1, fun j v hv => ?_⟩
  obtain ⟨hj, rfl⟩ := List.getElem?_eq_some_iff.1 hv
  exact (e3 j hj).1
theorem OwnsM.at' {w : World} {base : Nat} {e : TypeId} {size : Nat} {g m c n : Nat} {xs : List Value} (h : OwnsM w base e size (.slice (some ⟨g, 0, none⟩) m c) n xs) {j : Nat} {v : Value} (hv : xs[j]? = some v) : w.cell? ⟨g, j, none⟩ = some v := by
  obtain ⟨hj, _⟩ := List.getElem?_eq_some_iff.1 hv
  have h1 := h.1
  obtain ⟨g', e1, e2⟩ := h.at_ (by
    rcases Nat.eq_zero_or_pos n with rfl | hn
    · rw [Nat.zero_mul] at h1; omega
    · exact hn)
  injection e1 with e1
  injection e1 with e1
  subst e1
  exact e2 j v hv
theorem Trees.kid_at {A : Option Addr} {n c : Nat} (h : Trees tT tN tI w0 w ex bt (.slice A n c) vR vO ns kv rs os) {i : Nat} {p : Oq × List Int} (hp : ns[i]? = some p) : ∃ g Ak ck, A = some ⟨g, 0, none⟩ ∧ kv[i]? = some (.slice Ak p.2.length ck) ∧ w.cell? ⟨g, i * 13 + 12, none⟩ = some (.slice Ak p.2.length ck) := by
  have hin : i < ns.length := (List.getElem?_eq_some_iff.1 hp).1
  have hik : i < kv.length := by rw [h.klen]; exact hin
  obtain ⟨g, e1, e2⟩ := h.nodes.at_ (by omega)
  have hv := List.getElem?_eq_getElem hik
  obtain ⟨Ak, ck, ek, _⟩ := (h.kids i _ p hv hp).shape
  refine ⟨g, Ak, ck, e1, by rw [hv, ek], ?_⟩
  rw [e2 _ _ (nodeVs_kid h.klen hik), ek]
section
variable {P : Program} {ops : Array Oper} {rest : List Oper} {op : Oper} {a : Act} {Q : Exit → Act → World → Prop}
theorem Trees.node_step (h : Trees tT tN tI w0 w ex bt vN vR vO ns kv rs os) (hgd : op.guard = none) (s x : Operand) (t : TypeId) (ho : op.op = .call { callee := .builtin .append, args := #[s, x], argTypes := #[t, t] })
    (ht : P.underlying t = some (.slice tN)) (hi : InfoOk P tN 13) (hs : a.eval s = vN) {g : Nat} (hx : a.eval x = .slice (some ⟨g, 0, none⟩) 1 1) (hgs : g = w.heap.size) (arr : Array Value) (o : Oq) (harr : arr.toList = o.vals ++ [.slice none 0 0]) (hn : ns.length ≤ 200000)
    (K : ∀ A1 c1 w1, ns.length + 1 ≤ c1 → Trees tT tN tI w0 (w1.setCell ⟨bt, 0, none⟩ (.slice A1 (ns.length + 1) c1)) ex bt (.slice A1 (ns.length + 1) c1) vR vO (ns ++ [(o, [])]) (kv ++ [.slice none 0 0]) rs os → TSee w1 ex bt vN vR → wpList P ops Q rest (a.put op.dst (.slice A1 (ns.length + 1) c1)) w1) :
    wpList P ops Q (op :: rest) a (w.alloc (.cells arr tN (0, 0))) := by
  obtain ⟨i, hi, hz, hsz, hb⟩ := hi
  subst hgs
  have h' := h.alloc (.cells arr tN (0, 0))
  refine wpList_append_m hgd s x t ho w0.heap.size tN i ht hi hz vN ns.length (nodeVs ns kv) hs (by rw [hsz]; exact h'.nodes) _ 1 arr.toList hx (src_new w arr tN 1 1) (by rw [harr, hsz]; simp [Oq.vals]) (by rw [harr]; exact oneCell_vals o _ (by simp [Value.oneCell'])) (by unfold maxLen; omega) ?_ h'.bel.size fun v' w' h2 h3 h4 => ?_
  · have := Nat.mul_le_mul (show ns.length + 1 ≤ 200001 by omega) hb
    omega
  · obtain ⟨A1, c1, rfl, hc1⟩ := h2.shape
    rw [hsz, harr] at h2
    exact K A1 c1 w' hc1 (h'.node o h2 h3 h4) (h'.seen h3 1 (by decide) rfl)
theorem Trees.ints_step (h : Trees tT tN tI w0 w ex bt vN vR vO ns kv rs os) (hgd : op.guard = none) (s x : Operand) (t : TypeId) (ho : op.op = .call { callee := .builtin .append, args := #[s, x], argTypes := #[t, t] })
    (ht : P.underlying t = some (.slice tI)) (hi : InfoOk P tI 1) {v : Value} (hs : a.eval s = v) {g : Nat} (hx : a.eval x = .slice (some ⟨g, 0, none⟩) 1 1) (hgs : g = w.heap.size) {n : Int} {l : List Int} (hv : OwnsM w w0.heap.size tI 1 v l.length (intVs l)) (hn : l.length ≤ 200000)
    (K : ∀ A1 c1 w1, l.length + 1 ≤ c1 → OwnsM w1 w0.heap.size tI 1 (.slice A1 (l.length + 1) c1) (l.length + 1) (intVs l ++ [.int .i64 n]) → (w.alloc (.cells #[.int .i64 n] tI (0, 0))).grownBy w1 v.ownBlock → ((Value.slice A1 (l.length + 1) c1).ownBlock = v.ownBlock ∨ (Value.slice A1 (l.length + 1) c1).ownBlock = some (w.alloc (.cells #[.int .i64 n] tI (0, 0))).heap.size) → wpList P ops Q rest (a.put op.dst (.slice A1 (l.length + 1) c1)) w1) :
    wpList P ops Q (op :: rest) a (w.alloc (.cells #[.int .i64 n] tI (0, 0))) := by
  obtain ⟨i, hi, hz, hsz, hb⟩ := hi
  subst hgs
  have h' := h.alloc (.cells #[.int .i64 n] tI (0, 0))
  have hv' : OwnsM (w.alloc (.cells #[.int .i64 n] tI (0, 0))) w0.heap.size tI 1 v l.length (intVs l) := hv.keep fun g e => heap_alloc_old w _ (hv.block e).2
  refine wpList_append_m hgd s x t ho w0.heap.size tI i ht hi hz v l.length (intVs l) hs (by rw [hsz]; exact hv') _ 1 [.int .i64 n] hx (src_new w #[.int .i64 n] tI 1 1) (by rw [hsz]; rfl) (by simp [Value.oneCell']) (by unfold maxLen; omega) ?_ h'.bel.size fun v' w' h2 h3 h4 => ?_
  · have := Nat.mul_le_mul (show l.length + 1 ≤ 200001 by omega) hb
    omega
  · obtain ⟨A1, c1, rfl, hc1⟩ := h2.shape
    rw [hsz] at h2
    exact K A1 c1 w' hc1 h2 h3 h4
theorem Trees.root_step (h : Trees tT tN tI w0 w ex bt vN vR vO ns kv rs os) (hgd : op.guard = none) (s x : Operand) (t : TypeId) (ho : op.op = .call { callee := .builtin .append, args := #[s, x], argTypes := #[t, t] })
    (ht : P.underlying t = some (.slice tI)) (hi : InfoOk P tI 1) (hs : a.eval s = vR) {g : Nat} (hx : a.eval x = .slice (some ⟨g, 0, none⟩) 1 1) (hgs : g = w.heap.size) {n : Int} (hn : rs.length ≤ 200000)
    (K : ∀ A1 c1 w1, rs.length + 1 ≤ c1 → Trees tT tN tI w0 (w1.setCell ⟨bt, 1, none⟩ (.slice A1 (rs.length + 1) c1)) ex bt vN (.slice A1 (rs.length + 1) c1) vO ns kv (rs ++ [n]) os → TSee w1 ex bt vN vR → wpList P ops Q rest (a.put op.dst (.slice A1 (rs.length + 1) c1)) w1) :
    wpList P ops Q (op :: rest) a (w.alloc (.cells #[.int .i64 n] tI (0, 0))) :=
  h.ints_step hgd s x t ho ht hi hs hx hgs h.roots hn fun A1 c1 w1 hc h2 h3 h4 => K A1 c1 w1 hc ((h.alloc _).root n h2 h3 h4) ((h.alloc _).seen h3 2 (by decide) rfl)
theorem Trees.push_step (h : Trees tT tN tI w0 w ex bt vN vR vO ns kv rs os) (hgd : op.guard = none) (s x : Operand) (t : TypeId) (ho : op.op = .call { callee := .builtin .append, args := #[s, x], argTypes := #[t, t] })
    (ht : P.underlying t = some (.slice tI)) (hi : InfoOk P tI 1) (hs : a.eval s = vO) {g : Nat} (hx : a.eval x = .slice (some ⟨g, 0, none⟩) 1 1) (hgs : g = w.heap.size) {n : Int} (hn : os.length ≤ 200000)
    (K : ∀ A1 c1 w1, os.length + 1 ≤ c1 → Trees tT tN tI w0 w1 ex bt vN vR (.slice A1 (os.length + 1) c1) ns kv rs (os ++ [n]) → TSee w1 ex bt vN vR → wpList P ops Q rest (a.put op.dst (.slice A1 (os.length + 1) c1)) w1) :
    wpList P ops Q (op :: rest) a (w.alloc (.cells #[.int .i64 n] tI (0, 0))) :=
  h.ints_step hgd s x t ho ht hi hs hx hgs h.open_ hn fun A1 c1 w1 hc h2 h3 h4 => K A1 c1 w1 hc ((h.alloc _).push n h2 h3 h4) ((h.alloc _).seen h3 3 (by decide) rfl)
theorem Trees.kid_step (h : Trees tT tN tI w0 w ex bt vN vR vO ns kv rs os) {i : Nat} {v : Value} (hv : kv[i]? = some v) {p : Oq × List Int} (hp : ns[i]? = some p) {gN capN : Nat} (hN : vN = .slice (some ⟨gN, 0, none⟩) ns.length capN) (hgd : op.guard = none) (s x : Operand) (t : TypeId) (ho : op.op = .call { callee := .builtin .append, args := #[s, x], argTypes := #[t, t] })
    (ht : P.underlying t = some (.slice tI)) (hi : InfoOk P tI 1) (hs : a.eval s = v) {g : Nat} (hx : a.eval x = .slice (some ⟨g, 0, none⟩) 1 1) (hgs : g = w.heap.size) {n : Int} (hn : p.2.length ≤ 200000)
    (K : ∀ A1 c1 w1, p.2.length + 1 ≤ c1 → Trees tT tN tI w0 (w1.setCell ⟨gN, i * 13 + 12, none⟩ (.slice A1 (p.2.length + 1) c1)) ex bt vN vR vO (ns.set i (p.1, p.2 ++ [n])) (kv.set i (.slice A1 (p.2.length + 1) c1)) rs os → TSee w1 ex bt vN vR →
      w1.cell? ⟨gN, i * 13 + 12, none⟩ = some v → w1.frozen? ⟨gN, i * 13 + 12, none⟩ = false → wpList P ops Q rest (a.put op.dst (.slice A1 (p.2.length + 1) c1)) w1) :
    wpList P ops Q (op :: rest) a (w.alloc (.cells #[.int .i64 n] tI (0, 0))) :=
  h.ints_step hgd s x t ho ht hi hs hx hgs (h.kids i v p hv hp) hn fun A1 c1 w1 hc h2 h3 h4 => by
    have hb : blks bt vN vR vO kv (i + 4) = v.ownBlock := by simp only [blks, hv]; rfl
    have hin : i < ns.length := (List.getElem?_eq_some_iff.1 hp).1
    have hik : i < kv.length := by rw [h.klen]; exact hin
    have h' := h.alloc (.cells #[.int .i64 n] tI (0, 0))
    obtain ⟨g, cap, e1, e2, e3⟩ := h'.nodes.cell (by omega)
    rw [hN] at e1
    injection e1 with e1 e1'
    injection e1 with e1
    injection e1 with e1
    subst e1
    have hk := nodeVs_kid h.klen hik
    obtain ⟨hj, hj2⟩ := List.getElem?_eq_some_iff.1 hk
    have hkv : kv[i] = v := (List.getElem?_eq_some_iff.1 hv).2
    have hbl : w1.heap[gN]? = (w.alloc (.cells #[.int .i64 n] tI (0, 0))).heap[gN]? := h3.block gN (h'.blk 1 gN (by rw [hN]; rfl)).2 fun e => by
      have := h'.apart 1 (i + 4) gN (by rw [hN]; rfl) (by rw [hb]; exact e.symm)
      omega
    obtain ⟨x1, x2⟩ := e3 (i * 13 + 12) hj
    refine K A1 c1 w1 hc (h'.kid hv hp n h2 h3 h4 hN) (h'.seen h3 (i + 4) (by omega) hb) ?_ ?_
    · rw [World.cell?_of_block (a := ⟨gN, i * 13 + 12, none⟩) hbl, x1, hj2, hkv]
    · rw [World.frozen?_of_block (a := ⟨gN, i * 13 + 12, none⟩) hbl, x2]
end
end
/-
  The forest of a list of operations, in plain words.
-/
abbrev Nodes := List (Oq × List Int)
def kidAdd (ns : Nodes) (i : Nat) (n : Int) : Nodes := match ns[i]? with
  | some p => ns.set i (p.1, p.2 ++ [n])
  | none => ns
/-- what is built: nodes, roots, and the groups that are open -/
structure BT where
  ns : Nodes
  rs : List Int
  os : List Int
def addT (o : Oq) (z : BT) : BT :=
  ⟨match z.os.getLast? with
    | none => z.ns ++ [(o, [])]
    | some t => kidAdd (z.ns ++ [(o, [])]) t.toNat (z.ns.length : Int),
   match z.os.getLast? with
    | none => z.rs ++ [(z.ns.length : Int)]
    | some _ => z.rs,
   if o.kind = 2 then z.os ++ [(z.ns.length : Int)] else z.os⟩
def runT : List Oq → BT → BT × Int
  | [], z => (z, 0)
  | o :: l, z =>
    if o.kind = 1 ∨ o.kind = 2 then runT l (addT o z)
    else if o.kind = 3 then (if z.os = [] then (z, 18) else runT l ⟨z.ns, z.rs, z.os.dropLast⟩)
    else (z, 9)
def buildT (l : List Oq) : Nodes × List Int × Int :=
  let r := runT l ⟨[], [], []⟩
  if r.2 ≠ 0 then ([], [], r.2) else if r.1.os = [] then (r.1.ns, r.1.rs, 0) else ([], [], 18)
theorem kidAdd_len (ns : Nodes) (i : Nat) (n : Int) : (kidAdd ns i n).length = ns.length := by
  unfold kidAdd
  split <;> simp
theorem kidAdd_mem {ns : Nodes} {i : Nat} {n : Int} {p : Oq × List Int} (h : p ∈ kidAdd ns i n) : (∃ q ∈ ns, q.1 = p.1) ∧ ∀ m ∈ p.2, m = n ∨ ∃ q ∈ ns, m ∈ q.2 := by
  unfold kidAdd at h
  split at h
  · rename_i q hq
    rcases List.mem_or_eq_of_mem_set h with h | h
    · exact ⟨⟨p, h, rfl⟩, fun m hm => .inr ⟨p, h, hm⟩⟩
    · subst h
      refine ⟨⟨q, List.mem_of_getElem? hq, rfl⟩, fun m hm => ?_⟩
      rcases List.mem_append.1 hm with hm | hm
      · exact .inr ⟨q, List.mem_of_getElem? hq, hm⟩
      · exact .inl (by simpa using hm)
  · exact ⟨⟨p, h, rfl⟩, fun m hm => .inr ⟨p, h, hm⟩⟩
/-- what holds of it ahead of operation k of a list -/
structure BT.ok (l : List Oq) (z : BT) (k : Nat) : Prop where
  few : z.ns.length ≤ k
  open_ : ∀ t ∈ z.os, 0 ≤ t ∧ t < (z.ns.length : Int)
  ofew : z.os.length ≤ z.ns.length
  roots : ∀ t ∈ z.rs, 0 ≤ t ∧ t < (z.ns.length : Int)
  rfew : z.rs.length ≤ z.ns.length
  kids : ∀ p ∈ z.ns, ∀ t ∈ p.2, 0 ≤ t ∧ t < (z.ns.length : Int)
  kfew : ∀ p ∈ z.ns, p.2.length ≤ z.ns.length
  from_ : ∀ p ∈ z.ns, p.1 ∈ l
theorem BT.ok_start (l : List Oq) : BT.ok l ⟨[], [], []⟩ 0 := ⟨Nat.le_refl _, fun t h => (by cases h), Nat.le_refl _, fun t h => (by cases h), Nat.le_refl _, fun p h => (by cases h), fun p h => (by cases h), fun p h => (by cases h)⟩
theorem addT_len (o : Oq) (z : BT) : (addT o z).ns.length = z.ns.length + 1 := by
  unfold addT
  simp only
  split <;> simp [kidAdd_len]
theorem BT.ok_add {l : List Oq} {z : BT} {k : Nat} (h : z.ok l k) {o : Oq} (ho : o ∈ l) : (addT o z).ok l (k + 1) := by
  have hl := addT_len o z
  have hlI : ((addT o z).ns.length : Int) = (z.ns.length : Int) + 1 := by omega
  have hf := h.few
  have hmem : ∀ p ∈ (addT o z).ns, (∃ q ∈ z.ns ++ [(o, [])], q.1 = p.1) ∧ ∀ m ∈ p.2, m = (z.ns.length : Int) ∨ ∃ q ∈ z.ns ++ [(o, [])], m ∈ q.2 := fun p hp => by
    unfold addT at hp
    simp only at hp
    split at hp
    · exact ⟨⟨p, hp, rfl⟩, fun m hm => .inr ⟨p, hp, hm⟩⟩
    · exact kidAdd_mem hp
  refine ⟨by omega, fun t ht => ?_, ?_, fun t ht => ?_, ?_, fun p hp t ht => ?_, fun p hp => ?_, fun p hp => ?_⟩
  · rw [hlI]
    unfold addT at ht
    simp only at ht
    split at ht
    · rcases List.mem_append.1 ht with ht | ht
      · have := h.open_ t ht; omega
      · have : t = (z.ns.length : Int) := by simpa using ht
        omega
    · have := h.open_ t ht; omega
  · rw [hl]
    have := h.ofew
    unfold addT
    simp only
    split <;> simp <;> omega
  · rw [hlI]
    unfold addT at ht
    simp only at ht
    split at ht
    · rcases List.mem_append.1 ht with ht | ht
      · have := h.roots t ht; omega
      · have : t = (z.ns.length : Int) := by simpa using ht
        omega
    · have := h.roots t ht; omega
  · rw [hl]
    have := h.rfew
    unfold addT
    simp only
    split <;> simp <;> omega
  · rw [hlI]
    rcases (hmem p hp).2 t ht with e | ⟨q, hq, hm⟩
    · omega
    · rcases List.mem_append.1 hq with hq | hq
      · have := h.kids q hq t hm; omega
      · have : q = (o, []) := by simpa using hq
        rw [this] at hm; cases hm
  · rw [hl]
    have hk : ∀ q ∈ z.ns ++ [(o, [])], q.2.length ≤ z.ns.length := fun q hq => by
      rcases List.mem_append.1 hq with hq | hq
      · exact h.kfew q hq
      · have : q = (o, []) := by simpa using hq
        rw [this]; exact Nat.zero_le _
    unfold addT at hp
    simp only at hp
    split at hp
    · have := hk p hp; omega
    · unfold kidAdd at hp
      split at hp
      · rename_i q hq
        rcases List.mem_or_eq_of_mem_set hp with hp | hp
        · have := hk p hp; omega
        · rw [hp]
          have := hk q (List.mem_of_getElem? hq)
          simp only [List.length_append, List.length_cons, List.length_nil]
          omega
      · have := hk p hp; omega
  · obtain ⟨⟨q, hq, e⟩, _⟩ := hmem p hp
    rw [← e]
    rcases List.mem_append.1 hq with hq | hq
    · exact h.from_ q hq
    · have : q = (o, []) := by simpa using hq
      rw [this]; exact ho
theorem BT.ok_pop {l : List Oq} {z : BT} {k : Nat} (h : z.ok l k) : BT.ok l ⟨z.ns, z.rs, z.os.dropLast⟩ (k + 1) :=
  ⟨by have := h.few; show z.ns.length ≤ k + 1; omega, fun t ht => h.open_ t ((List.dropLast_sublist _).subset ht), by have := h.ofew; simp; omega, h.roots, h.rfew, h.kids, h.kfew, h.from_⟩
theorem runT_app : ∀ (l m : List Oq) (z : BT), runT (l ++ m) z = if (runT l z).2 = 0 then runT m (runT l z).1 else runT l z
  | [], m, z => by simp [runT]
  | o :: l, m, z => by
    simp only [List.cons_append, runT]
    split
    · exact runT_app l m _
    · split
      · split
        · simp
        · exact runT_app l m _
      · simp
theorem runT_upto {l : List Oq} {k : Nat} {z y : BT} {o : Oq} (h : runT (l.take k) y = (z, 0)) (hk : k < l.length) (ho : l[k] = o) : runT (l.take (k + 1)) y = runT [o] z := by
  rw [List.take_add_one, List.getElem?_eq_getElem hk, ho, runT_app, h]
  simp
theorem runT_stop {l : List Oq} {k : Nat} {z y : BT} {o : Oq} (h : runT (l.take k) y = (z, 0)) (hk : k < l.length) (ho : l[k] = o) (hn : (runT [o] z).2 ≠ 0) : runT l y = runT [o] z := by
  have h1 := runT_upto h hk ho
  have h2 := runT_app (l.take (k + 1)) (l.drop (k + 1)) y
  rw [List.take_append_drop, h1, if_neg hn] at h2
  exact h2
theorem runT_add {o : Oq} {z : BT} (h : o.kind = 1 ∨ o.kind = 2) : runT [o] z = (addT o z, 0) := by simp [runT, h]
theorem runT_next {l : List Oq} {k : Nat} {z z' y : BT} {o : Oq} (h : runT (l.take k) y = (z, 0)) (hok : z.ok l k) (hk : k < l.length) (ho : l[k] = o) (hz : o.kind = 1 ∨ o.kind = 2) (e : addT o z = z') : runT (l.take (k + 1)) y = (z', 0) ∧ z'.ok l (k + 1) := by
  rw [runT_upto h hk ho, runT_add hz, e, ← e]
  exact ⟨rfl, BT.ok_add hok (by rw [← ho]; exact List.getElem_mem hk)⟩
theorem runT_pop {l : List Oq} {k : Nat} {z y : BT} {o : Oq} (h : runT (l.take k) y = (z, 0)) (hok : z.ok l k) (hk : k < l.length) (ho : l[k] = o) (h3 : o.kind = 3) (hz : z.os ≠ []) : runT (l.take (k + 1)) y = (⟨z.ns, z.rs, z.os.dropLast⟩, 0) ∧ BT.ok l ⟨z.ns, z.rs, z.os.dropLast⟩ (k + 1) := by
  rw [runT_upto h hk ho]
  exact ⟨by simp [runT, h3, hz], BT.ok_pop hok⟩
theorem addT_root1 {o : Oq} {z : BT} (h : z.os = []) (ho : o.kind = 1) : addT o z = ⟨z.ns ++ [(o, [])], z.rs ++ [(z.ns.length : Int)], z.os⟩ := by simp [addT, h, ho]
theorem addT_root2 {o : Oq} {z : BT} (h : z.os = []) (ho : o.kind = 2) : addT o z = ⟨z.ns ++ [(o, [])], z.rs ++ [(z.ns.length : Int)], z.os ++ [(z.ns.length : Int)]⟩ := by simp [addT, h, ho]
theorem addT_kid1 {o : Oq} {z : BT} {os : List Int} {t : Nat} {p : Oq × List Int} (h : z.os = os ++ [(t : Int)]) (hp : (z.ns ++ [(o, [])])[t]? = some p) (ho : o.kind = 1) : addT o z = ⟨(z.ns ++ [(o, [])]).set t (p.1, p.2 ++ [(z.ns.length : Int)]), z.rs, z.os⟩ := by simp [addT, h, ho, kidAdd, hp]
theorem addT_kid2 {o : Oq} {z : BT} {os : List Int} {t : Nat} {p : Oq × List Int} (h : z.os = os ++ [(t : Int)]) (hp : (z.ns ++ [(o, [])])[t]? = some p) (ho : o.kind = 2) : addT o z = ⟨(z.ns ++ [(o, [])]).set t (p.1, p.2 ++ [(z.ns.length : Int)]), z.rs, z.os ++ [(z.ns.length : Int)]⟩ := by simp [addT, h, ho, kidAdd, hp]
theorem buildT_err {l : List Oq} {c : Int} (h : (runT l ⟨[], [], []⟩).2 = c) (hc : c ≠ 0) : buildT l = ([], [], c) := by
  unfold buildT
  simp only [h, if_pos hc]
theorem buildT_open {l : List Oq} {z : BT} (h : runT l ⟨[], [], []⟩ = (z, 0)) (hz : z.os ≠ []) : buildT l = ([], [], 18) := by
  unfold buildT
  simp [h, hz]
theorem buildT_fine {l : List Oq} {z : BT} (h : runT l ⟨[], [], []⟩ = (z, 0)) (hz : z.os = []) : buildT l = (z.ns, z.rs, 0) := by
  unfold buildT
  simp [h, hz]
theorem runT_bad {l : List Oq} {k : Nat} {z y : BT} {o : Oq} (h : runT (l.take k) y = (z, 0)) (hk : k < l.length) (ho : l[k] = o) (h1 : ¬o.kind = 1) (h2 : ¬o.kind = 2) (h3 : ¬o.kind = 3) : (runT l y).2 = 9 := by
  rw [runT_stop h hk ho (by simp [runT, h1, h2, h3])]
  simp [runT, h1, h2, h3]
theorem runT_shut {l : List Oq} {k : Nat} {z y : BT} {o : Oq} (h : runT (l.take k) y = (z, 0)) (hk : k < l.length) (ho : l[k] = o) (h3 : o.kind = 3) (hz : z.os = []) : (runT l y).2 = 18 := by
  rw [runT_stop h hk ho (by simp [runT, h3, hz])]
  simp [runT, h3, hz]
theorem BT.last {l : List Oq} {z : BT} {k : Nat} (h : z.ok l k) (hz : z.os ≠ []) : ∃ (os : List Int) (t : Nat), z.os = os ++ [(t : Int)] ∧ t < z.ns.length := by
  have e := List.dropLast_concat_getLast hz
  have hb := h.open_ (z.os.getLast hz) (List.getLast_mem hz)
  refine ⟨z.os.dropLast, (z.os.getLast hz).toNat, ?_, by omega⟩
  rw [Int.toNat_of_nonneg hb.1, e]
/-
  What every seat of this program has: gen.Mod.
-/
theorem mixed_ : Try.prog.follows .mixedOrders = true := by kernel_rfl
def gamM : Gam where
 pure := fun f xs =>
  if f = 19 then (match xs with | [.d (.int _ n), .d (.int _ k)] => some (RV.d (DV.int .i64 (modS n k))) | _ => none) else
  none
 modes := fun f =>
  none
 proc := fun f xs bs =>
  none
 iter := fun f cs =>
  none
def G_Mod_ann (n : Int) (k : Int) : Ann := Ann.leaf
theorem G_Mod_vc (n : Int) (k : Int) : vcg Try.prog gamM 14 (bodyOf Try.f19) (G_Mod_ann n k) kn0 (start [RV.d (DV.int .i64 n), RV.d (DV.int .i64 k)]) (post Try.prog Try.f19.results.toList (· = RV.d (DV.int .i64 (modS n k)))) =
  ((True) ∧ (True) ∧ (True) ∧ (((decide (k < (1 : Int))) = true → (True) ∧ RV.d (DV.int .i64 (0 : Int)) = RV.d (DV.int .i64 (modS n k))) ∧ ((decide (k < (1 : Int))) = false → (True) ∧ (True) ∧ (k ≠ 0) ∧ (True) ∧ (True) ∧ (True) ∧ (k ≠ 0) ∧ (True) ∧ RV.d (DV.int .i64 (Int.tmod (IntKind.wrap .i64 ((Int.tmod n k) + k)) k)) = RV.d (DV.int .i64 (modS n k))))) := by kernel_rfl
theorem G_Mod_ans (n : Int) (k : Int) : Ans Try.prog 19 [RV.d (DV.int .i64 n), RV.d (DV.int .i64 k)] (RV.d (DV.int .i64 (modS n k))) :=
  ans_of_vcg (Γ := gamM) (G_Mod_ann n k) mixed_ Try.func19 rfl (Nat.le_of_ble_eq_true rfl) fun hwf => by
    refine Eq.mpr (G_Mod_vc n k) ?_
    simp only [true_and, and_true, RV.d.injEq, DV.int.injEq, forall_const, Bool.not_false, Bool.not_true]
    unfold modS; grind
/-
  Build of the program: the walk.
-/
theorem info_node : (Try.prog.info? 49).map (fun i => (zeroFits i, i.size, decide (i.bytes ≤ 1000))) = some (true, 13, true) := by kernel_rfl
theorem info_int : (Try.prog.info? 3).map (fun i => (zeroFits i, i.size, decide (i.bytes ≤ 1000))) = some (true, 1, true) := by kernel_rfl
theorem trees_start (tT tN tI : TypeId) (w : World) : Trees tT tN tI w ((w.alloc (.cells #[.slice none 0 0, .slice none 0 0] tT)).alloc (.cells #[.slice none 0 0, .slice none 0 0] tT)) [(w.heap.size, .cells #[.slice none 0 0, .slice none 0 0] tT (0, 0))] (w.heap.size + 1) (.slice none 0 0) (.slice none 0 0) (.slice none 0 0) [] [] [] [] where
  bel := ⟨rfl, rfl, rfl, by simp; omega, fun k hk => by rw [heap_alloc_old _ _ (by simp; omega), heap_alloc_old _ _ hk]⟩
  box := by
    have := heap_alloc_new (w.alloc (.cells #[.slice none 0 0, .slice none 0 0] tT)) (.cells #[.slice none 0 0, .slice none 0 0] tT)
    rw [show (w.alloc (.cells #[.slice none 0 0, .slice none 0 0] tT)).heap.size = w.heap.size + 1 by simp] at this
    exact this
  old := Nat.le_succ _
  klen := rfl
  nodes := ⟨rfl, .inl ⟨rfl, rfl⟩⟩
  roots := ⟨rfl, .inl ⟨rfl, rfl⟩⟩
  open_ := ⟨rfl, .inl ⟨rfl, rfl⟩⟩
  kids := fun i v p h => by simp at h
  apart := fun a b g ha hb => by
    have e : ∀ a g, blks (w.heap.size + 1) (.slice none 0 0) (.slice none 0 0) (.slice none 0 0) [] a = some g → a = 0 := fun a g h => by
      match a with
      | 0 => rfl
      | 1 | 2 | 3 => cases h
      | a + 4 => simp [blks] at h
    rw [e a g ha, e b g hb]
  pins := fun p hp => by
    rw [List.mem_singleton] at hp
    subst hp
    refine ⟨Nat.le_refl _, ?_, fun a h => ?_⟩
    · rw [heap_alloc_old _ _ (by simp)]
      exact heap_alloc_new w _
    · match a with
      | 0 => simp [blks] at h
      | 1 | 2 | 3 => cases h
      | a + 4 => simp [blks] at h
theorem under_nodes : Try.prog.underlying 25 = some (.slice 49) := by kernel_rfl
theorem under_ints : Try.prog.underlying 22 = some (.slice 3) := by kernel_rfl
theorem Trees.drewN {tT tN tI : TypeId} {w0 w : World} {ex : List (Nat × Obj)} {bt : Nat} {vN vR vO : Value} {ns : List (Oq × List Int)} {kv : List Value} {rs os : List Int} (h : Trees tT tN tI w0 w ex bt vN vR vO ns kv rs os) (n : Nat) : Trees tT tN tI w0 (w.drewN n) ex bt vN vR vO ns kv rs os :=
  h.frame ⟨h.bel.os, h.bel.tape, h.bel.output, h.bel.size, h.bel.block⟩ (fun _ _ _ => rfl) fun _ _ => rfl
theorem TSee.head {w : World} {g : Nat} {arr : Array Value} {t : TypeId} {ex : List (Nat × Obj)} {bt : Nat} {vN vR : Value} (h : TSee w ((g, .cells arr t (0, 0)) :: ex) bt vN vR) (j : Nat) (v : Value) (hv : arr[j]? = some v) : w.cell? ⟨g, j, none⟩ = some v := by
  have e := h.px _ (List.mem_cons_self ..)
  simp only at e
  simp [World.cell?, e, hv]
/-- what Build hands back -/
def BuildPost (l : List Oq) (w : World) (e : Ending) (w' : World) : Prop :=
  ∃ v, e = .returned v ∧ RepR w' (fun g => w.heap.size ≤ g) (RV.tup [RV.agg (treeD (buildT l).1 (buildT l).2.1), RV.d (.int .i64 (buildT l).2.2)]) v ∧ Below w.heap.size w w'
theorem build_err {l : List Oq} {c : Int} (h : buildT l = ([], [], c)) (hi : inK .i64 c) {w w' : World} (hb : Below w.heap.size w w') : BuildPost l w (.returned (.tuple #[.agg #[.slice none 0 0, .slice none 0 0], .int .i64 c])) w' := by
  refine ⟨_, rfl, ?_, hb⟩
  rw [h]
  exact ⟨_, rfl, ⟨_, rfl, rep_none⟩, ⟨rfl, hi⟩, trivial⟩
theorem build_fine {l : List Oq} {z : BT} {tT tN tI : TypeId} {w w' : World} {ex : List (Nat × Obj)} {bt : Nat} {vN vR vO : Value} {kv : List Value} (h : buildT l = (z.ns, z.rs, 0)) (hT : Trees tT tN tI w w' ex bt vN vR vO z.ns kv z.rs z.os) (hok : z.ok l l.length) (hl : l.length ≤ 100000) (hwf : ∀ o ∈ l, DV.wfs o.cells) : BuildPost l w (.returned (.tuple #[.agg #[vN, vR], .int .i64 0])) w' := by
  refine ⟨_, rfl, ?_, hT.bel⟩
  rw [h]
  have hf := hok.few
  have hi0 : inK .i64 (0 : Int) := rfl
  have hi : ∀ n : Int, 0 ≤ n ∧ n < (z.ns.length : Int) → inK .i64 n := fun n hn => by
    rw [inK_iff]
    have h1 : IntKind.min .i64 = -9223372036854775808 := by decide
    have h2 : IntKind.max .i64 = 9223372036854775807 := by decide
    omega
  exact ⟨_, rfl, ⟨_, rfl, hT.rep (fun g hg => hg) (fun p hp => hwf _ (hok.from_ p hp)) (fun p hp n hn => hi n (hok.kids p hp n hn)) (fun n hn => hi n (hok.roots n hn))⟩, ⟨rfl, hi0⟩, trivial⟩
set_option maxHeartbeats 3200000 in
set_option maxRecDepth 100000 in
theorem tree_Build_walk (l : List Oq) (hl : l.length ≤ 100000) (hwf : ∀ o ∈ l, DV.wfs o.cells) (A : Option Addr) (cap : Nat) (w : World) (gb go : Nat) (hA : 0 < l.length → A = some ⟨gb, go, none⟩)
    (hc : ∀ k (h : k < l.length) j (hj : j < 12), w.cell? ⟨gb, go + (k * 12 + j), none⟩ = some (l[k].vals[j]'(by simp [Oq.vals]; omega))) :
    Calls Try.prog 8 #[.slice A l.length cap] w fun e w' => BuildPost l w e w' := by
  go_enter Try.func8, Try.ntmps8
  go_wp2
  go_loopg [5, 12] l.length (fun g s5 s12 wx => ∃ (k : Nat) (z : BT) (vN vR : Value) (kv : List Value), g = l.length - k ∧ k ≤ l.length ∧ s12 = .int .i64 k ∧ Trees 27 49 3 w wx [(w.heap.size, .cells #[.slice none 0 0, .slice none 0 0] 27 (0, 0))] (w.heap.size + 1) vN vR s5 z.ns kv z.rs z.os ∧ runT (l.take k) ⟨[], [], []⟩ = (z, 0) ∧ z.ok l k)
  case atStart => exact ⟨0, ⟨[], [], []⟩, .slice none 0 0, .slice none 0 0, [], rfl, Nat.zero_le _, rfl, trees_start _ _ _ w, rfl, BT.ok_start l⟩
  case round =>
    obtain ⟨k, z, vN, vR, kv, hg, hk, rfl, hT, hrun, hok⟩ := hrel
    have AS1 : Aside (gk = l.length - k ∧ runT (l.take k) ⟨[], [], []⟩ = (z, 0) ∧ z.ok l k) := ⟨hg, hrun, hok⟩
    clear hg hrun hok
    by_cases hkl : k < l.length
    · obtain rfl := hA (by omega)
      have hkz : (k : Int) < (l.length : Int) := by omega
      have hgb : gb < w.heap.size := block_lt_of_cell (hc k hkl 0 (by omega))
      obtain ⟨o, hok'⟩ : ∃ o, l[k] = o := ⟨_, rfl⟩
      have hca : ∀ j (hj : j < 12), wr.cell? ⟨gb, go + k * 12 + j, none⟩ = some (o.vals[j]'(by simp [Oq.vals]; omega)) := fun j hj => by
        subst hok'
        rw [Nat.add_assoc, ← hc k hkl j hj]
        simp only [World.cell?, hT.bel.block gb hgb]
      have hc0 : wr.cell? ⟨gb, go + k * 12, none⟩ = some (.int .i64 o.kind) := hca 0 (by decide)
      have hc1 : wr.cell? ⟨gb, go + k * 12 + 1, none⟩ = some (.int .i64 o.image) := hca 1 (by decide)
      have hc2 : wr.cell? ⟨gb, go + k * 12 + 2, none⟩ = some (.int .i64 o.x) := hca 2 (by decide)
      have hc3 : wr.cell? ⟨gb, go + k * 12 + 3, none⟩ = some (.int .i64 o.y) := hca 3 (by decide)
      have hc4 : wr.cell? ⟨gb, go + k * 12 + 4, none⟩ = some (.int .i64 o.mask) := hca 4 (by decide)
      have hc5 : wr.cell? ⟨gb, go + k * 12 + 5, none⟩ = some (.int .i64 o.mx) := hca 5 (by decide)
      have hc6 : wr.cell? ⟨gb, go + k * 12 + 6, none⟩ = some (.int .i64 o.my) := hca 6 (by decide)
      have hc7 : wr.cell? ⟨gb, go + k * 12 + 7, none⟩ = some (.int .u16 o.opac) := hca 7 (by decide)
      have hc8 : wr.cell? ⟨gb, go + k * 12 + 8, none⟩ = some (.int .i64 o.oper) := hca 8 (by decide)
      have hc9 : wr.cell? ⟨gb, go + k * 12 + 9, none⟩ = some (.int .i64 o.mode) := hca 9 (by decide)
      have hc10 : wr.cell? ⟨gb, go + k * 12 + 10, none⟩ = some (.bool o.iso) := hca 10 (by decide)
      have hc11 : wr.cell? ⟨gb, go + k * 12 + 11, none⟩ = some (.bool o.kno) := hca 11 (by decide)
      have AS2 : Aside (l[k] = o) := hok'
      clear hc hca hok'
      obtain ⟨hof, hrf, hnf⟩ : z.os.length ≤ 100000 ∧ z.rs.length ≤ 100000 ∧ z.ns.length ≤ 100000 := by
        have h := AS1.2.2
        have h1 := h.ofew
        have h2 := h.rfew
        have h3 := h.few
        omega
      obtain ⟨An, cn, rfl, hcn⟩ := hT.nodes.shape
      obtain ⟨Ar, cr, rfl, hcr⟩ := hT.roots.shape
      have hbn : ∀ ob, (wr.alloc ob).cell? ⟨w.heap.size + 1, 0, none⟩ = some (.slice An z.ns.length cn) := fun ob => (hT.alloc ob).see.c0
      have hnr : w.heap.size + 1 < wr.heap.size := (hT.blk 0 _ rfl).2
      have hr0 : ∀ ob, (wr.alloc ob).cell? ⟨w.heap.size, 0, none⟩ = some (.slice none 0 0) := fun ob => (hT.alloc ob).res.1
      have hr1 : ∀ ob, (wr.alloc ob).cell? ⟨w.heap.size, 1, none⟩ = some (.slice none 0 0) := fun ob => (hT.alloc ob).res.2.1
      have hr2 : ∀ ob, (wr.alloc ob).frozen? ⟨w.heap.size, 0, none⟩ = false := fun ob => (hT.alloc ob).res.2.2.1
      have hr3 : ∀ ob, (wr.alloc ob).frozen? ⟨w.heap.size, 1, none⟩ = false := fun ob => (hT.alloc ob).res.2.2.2
      by_cases hz : z.os = []
      · obtain ⟨Ao, co, rfl, hco⟩ := hT.open_.shape
        have hz0 : (z.os.length : Int) = 0 := by rw [hz]; rfl
        have AS3 : Aside (z.os = []) := hz
        clear hz
        by_cases e1 : o.kind = 1
        · go_wp2_with (at_builtin; first | (refine (hT.pin _).node_step rfl (.tmp 26) (.tmp 29) 25 rfl under_nodes (InfoOk.of info_node) rfl rfl (by simp) _ o (by simp [Oq.vals, e1]) (by omega) ?_; intro A1 c1 w1 hc1 hT2 hs2; have g0 := hs2.c0; have g1 := hs2.c1; have g2 := hs2.f0; have g3 := hs2.f1; have gp : w1.cell? ⟨wr.heap.size, 0, none⟩ = some (.int .i64 1) := hs2.head 0 _ rfl) | (refine hT2.root_step rfl (.tmp 36) (.tmp 38) 22 rfl under_ints (InfoOk.of info_int) rfl rfl (by simp) (by omega) ?_; intro A2 c2 w2 hc2 hT3 hs3; have k0 := hs3.c0; have k1 := hs3.c1; have k2 := hs3.f0; have k3 := hs3.f1; have kp : w2.cell? ⟨wr.heap.size, 0, none⟩ = some (.int .i64 1) := hs3.head 0 _ rfl))
          go_roundg (l.length - (k + 1))
          case measure => have := AS1.1; omega
          case rel => exact ⟨k + 1, ⟨z.ns ++ [(o, [])], z.rs ++ [(z.ns.length : Int)], z.os⟩, _, _, _, rfl, by omega, by simp, hT3.unpin, runT_next AS1.2.1 AS1.2.2 hkl AS2 (.inl e1) (addT_root1 AS3 e1)⟩
        · by_cases e2 : o.kind = 2
          · go_wp2_with (at_builtin; first | (refine (hT.pin _).node_step rfl (.tmp 26) (.tmp 29) 25 rfl under_nodes (InfoOk.of info_node) rfl rfl (by simp) _ o (by simp [Oq.vals, e2]) (by omega) ?_; intro A1 c1 w1 hc1 hT2 hs2; have g0 := hs2.c0; have g1 := hs2.c1; have g2 := hs2.f0; have g3 := hs2.f1; have gp : w1.cell? ⟨wr.heap.size, 0, none⟩ = some (.int .i64 2) := hs2.head 0 _ rfl) | (refine hT2.root_step rfl (.tmp 36) (.tmp 38) 22 rfl under_ints (InfoOk.of info_int) rfl rfl (by simp) (by omega) ?_; intro A2 c2 w2 hc2 hT3 hs3; have k0 := hs3.c0; have k1 := hs3.c1; have k2 := hs3.f0; have k3 := hs3.f1; have kp : w2.cell? ⟨wr.heap.size, 0, none⟩ = some (.int .i64 2) := hs3.head 0 _ rfl) | (refine hT3.push_step rfl (.tmp 63) (.tmp 65) 22 rfl under_ints (InfoOk.of info_int) rfl rfl (by simp) (by omega) ?_; intro A4 c4 w4 hc4 hT4 hs4))
            go_roundg (l.length - (k + 1))
            case measure => have := AS1.1; omega
            case rel => exact ⟨k + 1, ⟨z.ns ++ [(o, [])], z.rs ++ [(z.ns.length : Int)], z.os ++ [(z.ns.length : Int)]⟩, _, _, _, rfl, by omega, by simp, hT4.unpin, runT_next AS1.2.1 AS1.2.2 hkl AS2 (.inr e2) (addT_root2 AS3 e2)⟩
          · by_cases e3 : o.kind = 3
            · go_wp2
              refine bodyPost_ret (v := .tuple #[.agg #[.slice none 0 0, .slice none 0 0], .int .i64 18]) (by simp [results, Try.results8, go_sem, *]) rfl ?_
              exact build_err (buildT_err (runT_shut AS1.2.1 hkl AS2 e3 AS3) (by decide)) rfl ((hT.alloc _).put_res _ _).1.bel
            · go_wp2
              refine bodyPost_ret (v := .tuple #[.agg #[.slice none 0 0, .slice none 0 0], .int .i64 9]) (by simp [results, Try.results8, go_sem, *]) rfl ?_
              exact build_err (buildT_err (runT_bad AS1.2.1 hkl AS2 e1 e2 e3) (by decide)) rfl ((hT.alloc _).put_res _ _).1.bel
      · obtain ⟨os', tn, hos, htn⟩ := BT.last AS1.2.2 hz
        obtain ⟨m, hm⟩ : ∃ m, z.os.length = m + 1 := ⟨os'.length, by rw [hos]; simp⟩
        have hlast : (intVs z.os)[m]? = some (.int .i64 tn) := by
          have : m = os'.length := by rw [hos] at hm; simp at hm; omega
          rw [hos, this]; simp [intVs]
        obtain ⟨p, hp⟩ : ∃ p, z.ns[tn]? = some p := ⟨_, List.getElem?_eq_getElem htn⟩
        have hp' : (z.ns ++ [(o, [])])[tn]? = some p := by rw [List.getElem?_append_left htn]; exact hp
        have hpl : p.2.length ≤ 100000 := Nat.le_trans (AS1.2.2.kfew p (List.mem_of_getElem? hp)) hnf
        have hwm : IntKind.i64.wrap (m : Int) = (m : Int) := by rw [IntKind.wrap_i64]; omega
        have hmlt : (m : Int) < (m : Int) + 1 := by omega
        have htI : (tn : Int) < (z.ns.length : Int) + 1 := by omega
        obtain ⟨Ao, co, rfl, hco⟩ := hT.open_.shape
        rw [hm] at hT
        obtain ⟨gO, rfl, _⟩ := hT.open_.at_ (by omega)
        have AS3 : Aside (z.os = os' ++ [(tn : Int)]) := hos
        have AS4 : Aside (z.os ≠ []) := hz
        clear hz hos hp
        by_cases e1 : o.kind = 1
        · go_wp2_with (at_builtin; first | (refine (hT.pin _).node_step rfl (.tmp 26) (.tmp 29) 25 rfl under_nodes (InfoOk.of info_node) rfl rfl (by simp) _ o (by simp [Oq.vals, e1]) (by omega) ?_; intro A1 c1 w1 hc1 hT2 hs2; have hOc : (w1.setCell ⟨w.heap.size + 1, 0, none⟩ (.slice A1 (z.ns.length + 1) c1)).cell? ⟨gO, m, none⟩ = some (.int .i64 tn) := hT2.open_.at' hlast; obtain ⟨gN, Ak, ck, rfl, hkv, hkc⟩ := hT2.kid_at hp'; have g0 := hs2.c0; have g1 := hs2.c1; have g2 := hs2.f0; have g3 := hs2.f1; have gp : w1.cell? ⟨wr.heap.size, 0, none⟩ = some (.int .i64 1) := hs2.head 0 _ rfl))
          go_quiet (fail)
          go_wp2_with (at_builtin; first | (refine (hT2.drewN nq).kid_step hkv hp' (by rw [List.length_append]; rfl) rfl (.tmp 54) (.tmp 56) 22 rfl under_ints (InfoOk.of info_int) rfl rfl (by simp) (by omega) ?_; intro A3 c3 w3 hc3 hT3 hs3 hk1 hk2; have kp : (w3.setCell ⟨gN, tn * 13 + 12, none⟩ (.slice A3 (p.2.length + 1) c3)).cell? ⟨wr.heap.size, 0, none⟩ = some (.int .i64 1) := hT3.see.head 0 _ rfl))
          go_roundg (l.length - (k + 1))
          case measure => have := AS1.1; omega
          case rel => exact ⟨k + 1, ⟨(z.ns ++ [(o, [])]).set tn (p.1, p.2 ++ [(z.ns.length : Int)]), z.rs, z.os⟩, _, _, _, rfl, by omega, by simp, hT3.unpin, runT_next AS1.2.1 AS1.2.2 hkl AS2 (.inl e1) (addT_kid1 AS3 hp' e1)⟩
        · by_cases e2 : o.kind = 2
          · go_wp2_with (at_builtin; first | (refine (hT.pin _).node_step rfl (.tmp 26) (.tmp 29) 25 rfl under_nodes (InfoOk.of info_node) rfl rfl (by simp) _ o (by simp [Oq.vals, e2]) (by omega) ?_; intro A1 c1 w1 hc1 hT2 hs2; have hOc : (w1.setCell ⟨w.heap.size + 1, 0, none⟩ (.slice A1 (z.ns.length + 1) c1)).cell? ⟨gO, m, none⟩ = some (.int .i64 tn) := hT2.open_.at' hlast; obtain ⟨gN, Ak, ck, rfl, hkv, hkc⟩ := hT2.kid_at hp'; have g0 := hs2.c0; have g1 := hs2.c1; have g2 := hs2.f0; have g3 := hs2.f1; have gp : w1.cell? ⟨wr.heap.size, 0, none⟩ = some (.int .i64 2) := hs2.head 0 _ rfl))
            go_quiet (fail)
            go_wp2_with (at_builtin; first | (refine (hT2.drewN nq).kid_step hkv hp' (by rw [List.length_append]; rfl) rfl (.tmp 54) (.tmp 56) 22 rfl under_ints (InfoOk.of info_int) rfl rfl (by simp) (by omega) ?_; intro A3 c3 w3 hc3 hT3 hs3 hk1 hk2; have kp : (w3.setCell ⟨gN, tn * 13 + 12, none⟩ (.slice A3 (p.2.length + 1) c3)).cell? ⟨wr.heap.size, 0, none⟩ = some (.int .i64 2) := hT3.see.head 0 _ rfl) | (refine hT3.push_step rfl (.tmp 63) (.tmp 65) 22 rfl under_ints (InfoOk.of info_int) rfl rfl (by simp) (by omega) ?_; intro A4 c4 w4 hc4 hT4 hs4))
            go_roundg (l.length - (k + 1))
            case measure => have := AS1.1; omega
            case rel =>
              rw [hm] at hT4
              exact ⟨k + 1, ⟨(z.ns ++ [(o, [])]).set tn (p.1, p.2 ++ [(z.ns.length : Int)]), z.rs, z.os ++ [(z.ns.length : Int)]⟩, _, _, _, rfl, by omega, by simp, hT4.unpin, runT_next AS1.2.1 AS1.2.2 hkl AS2 (.inr e2) (addT_kid2 AS3 hp' e2)⟩
          · by_cases e3 : o.kind = 3
            · go_wp2
              go_roundg (l.length - (k + 1))
              case measure => have := AS1.1; omega
              case rel =>
                have hp2 := hT.pop (by omega)
                rw [hm, Nat.add_sub_cancel] at hp2
                exact ⟨k + 1, ⟨z.ns, z.rs, z.os.dropLast⟩, _, _, _, rfl, by omega, by simp, hp2.alloc _, runT_pop AS1.2.1 AS1.2.2 hkl AS2 e3 AS4⟩
            · go_wp2
              refine bodyPost_ret (v := .tuple #[.agg #[.slice none 0 0, .slice none 0 0], .int .i64 9]) (by simp [results, Try.results8, go_sem, *]) rfl ?_
              exact build_err (buildT_err (runT_bad AS1.2.1 hkl AS2 e1 e2 e3) (by decide)) rfl ((hT.alloc _).put_res _ _).1.bel
    · have : k = l.length := by omega
      subst this
      clear hc
      obtain ⟨An, cn, rfl, hcn⟩ := hT.nodes.shape
      obtain ⟨Ar, cr, rfl, hcr⟩ := hT.roots.shape
      obtain ⟨Ao, co, rfl, hco⟩ := hT.open_.shape
      have hs := hT.see
      have x0 := hs.c0
      have x1 := hs.c1
      have y0 := hT.res.1
      have y1 := hT.res.2.1
      have y2 := hT.res.2.2.1
      have y3 := hT.res.2.2.2
      have AS0 : Aside (∀ o ∈ l, DV.wfs o.cells) := hwf
      clear hwf
      have hrun := AS1.2.1
      rw [List.take_length] at hrun
      have AS2 : Aside (runT l ⟨[], [], []⟩ = (z, 0)) := hrun
      clear hrun
      by_cases hz : z.os = []
      · have hz0 : (z.os.length : Int) = 0 := by rw [hz]; rfl
        have AS3 : Aside (z.os = []) := hz
        clear hz
        go_wp2
        refine bodyPost_ret (v := .tuple #[.agg #[.slice An z.ns.length cn, .slice Ar z.rs.length cr], .int .i64 0]) (by simp [results, Try.results8, go_sem, *]) rfl ?_
        exact build_fine (buildT_fine AS2 AS3) (hT.put_res _ _).1 AS1.2.2 hl AS0
      · have hz0 : 0 < (z.os.length : Int) := by
          have := List.length_pos_iff.2 hz
          omega
        have AS3 : Aside (z.os ≠ []) := hz
        clear hz
        go_wp2
        refine bodyPost_ret (v := .tuple #[.agg #[.slice none 0 0, .slice none 0 0], .int .i64 18]) (by simp [results, Try.results8, go_sem, *]) rfl ?_
        exact build_err (buildT_open AS2 AS3) rfl (hT.put_res _ _).1.bel
/-
  Build of the program: what it answers.
-/
theorem cell_val {w : World} {V : Nat → Prop} {o : Oq} {u : Value} : ∀ (j : Nat) (hj : j < 12), RepD w V (o.cells[j]'(by simp [Oq.cells]; omega)) u → u = o.vals[j]'(by simp [Oq.vals]; omega)
  | 0, _, h | 1, _, h | 2, _, h | 3, _, h | 4, _, h | 5, _, h | 6, _, h | 7, _, h | 8, _, h | 9, _, h => by simp only [Oq.cells, List.getElem_cons_zero, List.getElem_cons_succ, RepD] at h; exact h.1
  | 10, _, h | 11, _, h => by simp only [Oq.cells, List.getElem_cons_zero, List.getElem_cons_succ, RepD] at h; exact h
  | j + 12, hj, _ => absurd hj (by omega)
theorem wfs_left : ∀ {xs ys : List DV}, DV.wfs (xs ++ ys) → DV.wfs xs ∧ DV.wfs ys
  | [], _, h => ⟨trivial, h⟩
  | _ :: _, _, h => by
    simp only [List.cons_append, DV.wfs] at h ⊢
    exact ⟨⟨h.1, (wfs_left h.2).1⟩, (wfs_left h.2).2⟩
theorem ops_wfs : ∀ {l : List Oq}, DV.wfs (ops l) → ∀ o ∈ l, DV.wfs o.cells
  | o :: l, h, p, hp => by
    have e : ops (o :: l) = o.cells ++ ops l := by simp [ops]
    rw [e] at h
    rcases List.mem_cons.1 hp with rfl | hp
    · exact (wfs_left h).1
    · exact ops_wfs (wfs_left h).2 p hp
/-- a list of operations in memory -/
theorem ops_arg {w : World} {S : Nat → Prop} {l : List Oq} {v : Value} (h : RepD w S (.sl l.length (ops l)) v) : ∃ A cap gb go, v = .slice A l.length cap ∧ (0 < l.length → A = some ⟨gb, go, none⟩) ∧ (∀ k (h : k < l.length) j (hj : j < 12), w.cell? ⟨gb, go + (k * 12 + j), none⟩ = some (l[k].vals[j]'(by simp [Oq.vals]; omega))) ∧ ∀ o ∈ l, DV.wfs o.cells := by
  have hwf := h.wf
  simp only [DV.wf] at hwf
  simp only [RepD] at h
  obtain ⟨A, cap, rfl, _, _, hc⟩ := h
  by_cases hl : l = []
  · subst hl
    exact ⟨A, cap, 0, 0, rfl, fun h => absurd h (by simp), fun k h => absurd h (by simp), fun o h => by cases h⟩
  · obtain ⟨g, off, hA, _, hr⟩ := hc fun e => hl (List.eq_nil_of_length_eq_zero (by have := ops_length l; rw [e] at this; simp only [List.length_nil] at this; omega))
    refine ⟨A, cap, g, off, rfl, fun _ => hA, fun k hk j hj => ?_, ops_wfs hwf.2⟩
    obtain ⟨u, hu, hd⟩ := hr.at_ (k * 12 + j) _ ((ops_get hk j hj).trans (List.getElem?_eq_getElem (by simp [Oq.cells]; omega)))
    rw [hu, cell_val j hj hd]
theorem BuildPost.ans {l : List Oq} {w w' : World} {e : Ending} (h : BuildPost l w e w') (S : Nat → Prop) : ∃ v, e = .returned v ∧ RepR w' (fun g => S g ∨ w.heap.size ≤ g) (RV.tup [RV.agg (treeD (buildT l).1 (buildT l).2.1), RV.d (.int .i64 (buildT l).2.2)]) v ∧ Below w.heap.size w w' := by
  obtain ⟨v, h1, h2, h3⟩ := h
  exact ⟨v, h1, h2.keep fun g off u hg hu => ⟨.inr hg, hu⟩, h3⟩
theorem tree_Build_ans (l : List Oq) (hl : l.length ≤ 100000) : Ans Try.prog 8 [RV.d (.sl l.length (ops l))] (RV.tup [RV.agg (treeD (buildT l).1 (buildT l).2.1), RV.d (.int .i64 (buildT l).2.2)]) := by
  intro w S vs hG hR
  obtain ⟨vs⟩ := vs
  match vs, hR with
  | [v], hR =>
    simp only [RepRs, RepR] at hR
    obtain ⟨A, cap, gb, go, rfl, hA, hc, hwf⟩ := ops_arg hR.1
    exact (tree_Build_walk l hl hwf A cap w gb go hA hc).mono fun e w' h => h.ans S
/-
  The ends of operations, in plain words; and where they are in a forest.
-/
inductive Fo where
  | nil
  | draw (o : Oq) (r : Fo)
  | grp (o : Oq) (k r : Fo)
def Fo.flat : Fo → List Oq
  | .nil => []
  | .draw o r => o :: r.flat
  | .grp o k r => o :: (k.flat ++ popO :: r.flat)
def Fo.ok : Fo → Prop
  | .nil => True
  | .draw o r => o.kind = 1 ∧ r.ok
  | .grp o k r => o.kind = 2 ∧ k.ok ∧ r.ok
def Fo.size : Fo → Nat
  | .nil => 0
  | .draw _ r => r.size + 1
  | .grp _ k r => k.size + r.size + 2
theorem Fo.flat_len : ∀ f : Fo, f.flat.length = f.size
  | .nil => rfl
  | .draw o r => by simp [Fo.flat, Fo.size, r.flat_len]
  | .grp o k r => by simp [Fo.flat, Fo.size, k.flat_len, r.flat_len]; omega
def unfl : Fo → List Fo → List Oq
  | f, [] => f.flat
  | f, g :: fs => f.flat ++ popO :: unfl g fs
theorem unfl_draw (o : Oq) (f : Fo) (fs : List Fo) : unfl (.draw o f) fs = o :: unfl f fs := by
  cases fs <;> simp [unfl, Fo.flat]
theorem unfl_grp (o : Oq) (f g : Fo) (fs : List Fo) : unfl (.grp o f g) fs = o :: (f.flat ++ popO :: unfl g fs) := by
  cases fs <;> simp [unfl, Fo.flat]
/-! ### the ends, as both programs find them: ahead of operation i, with what was written and the open groups -/
def runE : List Oq → Nat → List Int → List Int → List Int × Int
  | [], _, out, op => if op = [] then (out, 0) else ([], 18)
  | o :: l, i, out, op =>
    if o.kind = 1 then runE l (i + 1) (out.set i i) op
    else if o.kind = 2 then runE l (i + 1) (out.set i i) (op ++ [(i : Int)])
    else if o.kind = 3 then (if op = [] then ([], 18) else runE l (i + 1) ((out.set i i).set ((op[op.length - 1]?).getD 0).toNat i) op.dropLast)
    else ([], 9)
def endsS (l : List Oq) : List Int × Int := runE l 0 (List.replicate l.length 0) []
/-! ### in a forest -/
end Go.Proofs.Ytaaealkgbklmeaa
/-
  The ends of operations, as the program and the reference find them.
-/
namespace Go.Proofs.Ytaaealkgbklmeaa
open Go.RowKit
set_option linter.unusedVariables false
set_option linter.unusedSimpArgs false
attribute [local irreducible] Ans AnsO AnsG AnsN AnsI
set_option maxRecDepth 4000
end Go.Proofs.Ytaaealkgbklmeaa
/-
  Build of the reference: the walk.
-/
namespace Go.Proofs.Ytaaealkgbklmeaa
open Go.RowKit
set_option linter.unusedVariables false
set_option linter.unusedSimpArgs false
theorem runE_runT : ∀ (l : List Oq) (i : Nat) (out op : List Int) (z : BT), op.length = z.os.length → (runE l i out op).2 = (if (runT l z).2 ≠ 0 then (runT l z).2 else if (runT l z).1.os = [] then 0 else 18)
  | [], i, out, op, z, h => by
    have : op = [] ↔ z.os = [] := by rw [← List.length_eq_zero_iff, ← List.length_eq_zero_iff, h]
    simp only [runE, runT, this]
    by_cases hz : z.os = [] <;> simp [hz]
  | o :: l, i, out, op, z, h => by
    have he : op = [] ↔ z.os = [] := by rw [← List.length_eq_zero_iff, ← List.length_eq_zero_iff, h]
    simp only [runE, runT]
    by_cases h1 : o.kind = 1
    · simp only [h1, true_or, if_true]
      exact runE_runT l _ _ _ _ (by simp [addT, h1, h])
    · by_cases h2 : o.kind = 2
      · simp only [h2, or_true, if_true]
        rw [if_neg (by decide)]
        exact runE_runT l _ _ _ _ (by simp [addT, h2, h])
      · simp only [h1, h2, or_self, if_false]
        by_cases h3 : o.kind = 3
        · simp only [h3, if_true]
          by_cases hz : z.os = []
          · simp [he.2 hz, hz]
          · rw [if_neg fun e => hz (he.1 e), if_neg hz]
            exact runE_runT l _ _ _ _ (by simp [h])
        · simp [h3]
theorem ends_err (l : List Oq) : (endsS l).2 = (buildT l).2.2 := by
  unfold endsS buildT
  rw [runE_runT l 0 _ [] ⟨[], [], []⟩ rfl]
  simp only
  split
  · rfl
  · split <;> rfl
theorem Trees.drew {tT tN tI : TypeId} {w0 w : World} {ex : List (Nat × Obj)} {bt : Nat} {vN vR vO : Value} {ns : List (Oq × List Int)} {kv : List Value} {rs os : List Int} (h : Trees tT tN tI w0 w ex bt vN vR vO ns kv rs os) : Trees tT tN tI w0 w.drew ex bt vN vR vO ns kv rs os :=
  h.frame ⟨h.bel.os, h.bel.tape, h.bel.output, h.bel.size, h.bel.block⟩ (fun _ _ _ => rfl) fun _ _ => rfl
/-
  Build of the reference: what it answers.
-/
/-
  Nodes of a forest, read by their cells.
-/
def nodeD (p : Oq × List Int) : List DV := p.1.cells ++ [DV.sl p.2.length (is p.2)]
theorem nodeD_len (p : Oq × List Int) : (nodeD p).length = 13 := rfl
theorem nodesD_cons (p : Oq × List Int) (l : Nodes) : nodesD (p :: l) = nodeD p ++ nodesD l := by simp [nodesD, nodeD]
theorem nodesD_len : ∀ l : Nodes, (nodesD l).length = l.length * 13
  | [] => rfl
  | p :: l => by rw [nodesD_cons, List.length_append, nodesD_len l, nodeD_len, List.length_cons]; omega
theorem nodesD_get {l : Nodes} {k : Nat} (h : k < l.length) (j : Nat) (hj : j < 13) : (nodesD l)[k * 13 + j]? = (nodeD l[k])[j]? := by
  induction l generalizing k with
  | nil => simp at h
  | cons o l ih =>
    rw [nodesD_cons]
    cases k with
    | zero => simp only [List.getElem_cons_zero]; rw [List.getElem?_append_left (by rw [nodeD_len]; omega)]; simp
    | succ k =>
      rw [List.getElem?_append_right (by rw [nodeD_len]; omega)]
      have := ih (k := k) (by simpa using h)
      simp only [List.getElem_cons_succ]
      rw [← this]
      congr 1
      rw [nodeD_len]; omega
theorem nodes_rd {l : Nodes} {k : Nat} (h : k < l.length) : (nodesD l)[k * 13]? = some (.int .i64 l[k].1.kind) ∧ (nodesD l)[k * 13 + 1]? = some (.int .i64 l[k].1.image) ∧ (nodesD l)[k * 13 + 1 + 1]? = some (.int .i64 l[k].1.x) ∧ (nodesD l)[k * 13 + 1 + 1 + 1]? = some (.int .i64 l[k].1.y) ∧ (nodesD l)[k * 13 + 1 + 1 + 1 + 1]? = some (.int .i64 l[k].1.mask) ∧ (nodesD l)[k * 13 + 1 + 1 + 1 + 1 + 1]? = some (.int .i64 l[k].1.mx) ∧ (nodesD l)[k * 13 + 1 + 1 + 1 + 1 + 1 + 1]? = some (.int .i64 l[k].1.my) ∧ (nodesD l)[k * 13 + 1 + 1 + 1 + 1 + 1 + 1 + 1]? = some (.int .u16 l[k].1.opac) ∧ (nodesD l)[k * 13 + 1 + 1 + 1 + 1 + 1 + 1 + 1 + 1]? = some (.int .i64 l[k].1.oper) ∧ (nodesD l)[k * 13 + 1 + 1 + 1 + 1 + 1 + 1 + 1 + 1 + 1]? = some (.int .i64 l[k].1.mode) ∧ (nodesD l)[k * 13 + 1 + 1 + 1 + 1 + 1 + 1 + 1 + 1 + 1 + 1]? = some (.bool l[k].1.iso) ∧ (nodesD l)[k * 13 + 1 + 1 + 1 + 1 + 1 + 1 + 1 + 1 + 1 + 1 + 1]? = some (.bool l[k].1.kno) ∧ (nodesD l)[k * 13 + 1 + 1 + 1 + 1 + 1 + 1 + 1 + 1 + 1 + 1 + 1 + 1]? = some (.sl l[k].2.length (is l[k].2)) := by
  have g := fun j hj => nodesD_get h j hj
  exact ⟨g 0 (by omega), g 1 (by omega), g 2 (by omega), g 3 (by omega), g 4 (by omega), g 5 (by omega), g 6 (by omega), g 7 (by omega), g 8 (by omega), g 9 (by omega), g 10 (by omega), g 11 (by omega), g 12 (by omega)⟩
theorem nodes_at {l : Nodes} {k : Nat} (h : k < l.length) : nAt (nodesD l) (k * 13) = l[k].1.kind ∧ nAt (nodesD l) (k * 13 + 1) = l[k].1.image ∧ nAt (nodesD l) (k * 13 + 1 + 1) = l[k].1.x ∧ nAt (nodesD l) (k * 13 + 1 + 1 + 1) = l[k].1.y ∧ nAt (nodesD l) (k * 13 + 1 + 1 + 1 + 1) = l[k].1.mask ∧ nAt (nodesD l) (k * 13 + 1 + 1 + 1 + 1 + 1) = l[k].1.mx ∧ nAt (nodesD l) (k * 13 + 1 + 1 + 1 + 1 + 1 + 1) = l[k].1.my ∧ nAt (nodesD l) (k * 13 + 1 + 1 + 1 + 1 + 1 + 1 + 1) = l[k].1.opac ∧ nAt (nodesD l) (k * 13 + 1 + 1 + 1 + 1 + 1 + 1 + 1 + 1) = l[k].1.oper ∧ nAt (nodesD l) (k * 13 + 1 + 1 + 1 + 1 + 1 + 1 + 1 + 1 + 1) = l[k].1.mode ∧ bAt (nodesD l) (k * 13 + 1 + 1 + 1 + 1 + 1 + 1 + 1 + 1 + 1 + 1) = l[k].1.iso ∧ bAt (nodesD l) (k * 13 + 1 + 1 + 1 + 1 + 1 + 1 + 1 + 1 + 1 + 1 + 1) = l[k].1.kno ∧ lAt (nodesD l) (k * 13 + 1 + 1 + 1 + 1 + 1 + 1 + 1 + 1 + 1 + 1 + 1 + 1) = l[k].2.length ∧ cAt (nodesD l) (k * 13 + 1 + 1 + 1 + 1 + 1 + 1 + 1 + 1 + 1 + 1 + 1 + 1) = is l[k].2 := by
  obtain ⟨e0, e1, e2, e3, e4, e5, e6, e7, e8, e9, e10, e11, e12⟩ := nodes_rd h
  simp only [nAt, bAt, lAt, cAt, e0, e1, e2, e3, e4, e5, e6, e7, e8, e9, e10, e11, e12, and_self]
def toNodes (xs : List DV) : Nodes := (List.range (xs.length / 13)).map fun k => (oqAt xs (k * 13), ints (cAt xs (k * 13 + 12)))
theorem toNodes_nodesD (l : Nodes) : toNodes (nodesD l) = l := by
  have e : (nodesD l).length / 13 = l.length := by rw [nodesD_len]; omega
  unfold toNodes
  rw [e]
  refine List.ext_getElem (by simp) fun k h1 h2 => ?_
  simp only [List.getElem_map, List.getElem_range]
  obtain ⟨e0, e1, e2, e3, e4, e5, e6, e7, e8, e9, e10, e11, e12, e13⟩ := nodes_at h2
  simp only [oqAt, show k * 13 + 2 = k * 13 + 1 + 1 from rfl, show k * 13 + 3 = k * 13 + 1 + 1 + 1 from rfl, show k * 13 + 4 = k * 13 + 1 + 1 + 1 + 1 from rfl, show k * 13 + 5 = k * 13 + 1 + 1 + 1 + 1 + 1 from rfl, show k * 13 + 6 = k * 13 + 1 + 1 + 1 + 1 + 1 + 1 from rfl, show k * 13 + 7 = k * 13 + 1 + 1 + 1 + 1 + 1 + 1 + 1 from rfl, show k * 13 + 8 = k * 13 + 1 + 1 + 1 + 1 + 1 + 1 + 1 + 1 from rfl, show k * 13 + 9 = k * 13 + 1 + 1 + 1 + 1 + 1 + 1 + 1 + 1 + 1 from rfl, show k * 13 + 10 = k * 13 + 1 + 1 + 1 + 1 + 1 + 1 + 1 + 1 + 1 + 1 from rfl, show k * 13 + 11 = k * 13 + 1 + 1 + 1 + 1 + 1 + 1 + 1 + 1 + 1 + 1 + 1 from rfl, show k * 13 + 12 = k * 13 + 1 + 1 + 1 + 1 + 1 + 1 + 1 + 1 + 1 + 1 + 1 + 1 from rfl, e0, e1, e2, e3, e4, e5, e6, e7, e8, e9, e10, e11, e12, e13, ints_is]
end Go.Proofs.Ytaaealkgbklmeaa
/-
  Equality of forests.
-/
namespace Go.Proofs.Ytaaealkgbklmeaa
open Go.RowKit
set_option linter.unusedVariables false
set_option linter.unusedSimpArgs false
attribute [local irreducible] Ans AnsO AnsG AnsN AnsI
set_option maxRecDepth 4000
theorem is_rd {l : List Int} {k : Nat} (h : k < l.length) : (is l)[k]? = some (.int .i64 l[k]) ∧ nAt (is l) k = l[k] := by
  have : (is l)[k]? = some (.int .i64 l[k]) := by simp [is, List.getElem?_eq_getElem h]
  exact ⟨this, by simp [nAt, this]⟩
theorem oq_beq (o p : Oq) : (o.kind == p.kind && (o.image == p.image && (o.x == p.x && (o.y == p.y && (o.mask == p.mask && (o.mx == p.mx && (o.my == p.my && (o.opac == p.opac && (o.oper == p.oper && (o.mode == p.mode && (o.iso == p.iso && (o.kno == p.kno && true)))))))))))) = decide (o = p) := by
  obtain ⟨_, _, _, _, _, _, _, _, _, _, _, _⟩ := o
  obtain ⟨_, _, _, _, _, _, _, _, _, _, _, _⟩ := p
  rw [Bool.eq_iff_iff]
  simp only [Oq.mk.injEq, Bool.and_eq_true, beq_iff_eq, decide_eq_true_eq, and_true]
theorem tk_succ {α : Type} {a b : List α} {k : Nat} (h : k < a.length) (h2 : k < b.length) (e : a.take k = b.take k) (ek : a[k] = b[k]) : a.take (k + 1) = b.take (k + 1) := by
  rw [List.take_succ_eq_append_getElem h, List.take_succ_eq_append_getElem h2, e, ek]
theorem tk_ne {α : Type} {a b : List α} {k : Nat} (h : k < a.length) (h2 : k < b.length) (hn : a[k] ≠ b[k]) : a ≠ b := by
  intro e; subst e; exact hn rfl
theorem tk_all {α : Type} {a b : List α} (he : a.length = b.length) (e : a.take a.length = b.take a.length) : a = b := by
  rw [List.take_length, he, List.take_length] at e
  exact e
def gamTf : Gam where
 pure := fun f xs =>
  if f = 18 then (match xs with | [.d (.sl n xs), .d (.sl m ys)] => some (RV.d (DV.bool (decide (ints (xs) = ints (ys))))) | _ => none) else
  if f = 12 then (match xs with | [.d (.sl n xs), .d (.sl m ys)] => some (RV.d (DV.bool (decide (toOps (xs) = toOps (ys))))) | _ => none) else
  none
 modes := fun f =>
  none
 proc := fun f xs bs =>
  none
 iter := fun f cs =>
  none
def R18_SameInts_ann (a : List Int) (b : List Int) : Ann := (Ann.seq Ann.leaf (Ann.seq Ann.leaf (Ann.seq (Ann.seq Ann.leaf (Ann.loop ⟨Nat, fun k => k ≤ a.length ∧ a.take k = b.take k, fun k => ⟨[(0, AV.one (Cl.d (DV.sl a.length (is a)))), (1, AV.one (Cl.d (DV.sl b.length (is b)))), (5, AV.one (Cl.d (DV.int .i64 ((k : Nat) : Int))))], []⟩, fun k => a.length - k⟩ fun k => Ann.leaf)) Ann.leaf)))
theorem R18_SameInts_vc (a : List Int) (b : List Int) : vcg Try.prog gamTf 26 (bodyOf Try.f18) (R18_SameInts_ann a b) kn0 (start [RV.d (DV.sl a.length (is a)), RV.d (DV.sl b.length (is b))]) (post Try.prog Try.f18.results.toList (· = RV.d (DV.bool (decide (ints (is a) = ints (is b)))))) =
  (let zz0 := (DV.bool (decide (ints (is a) = ints (is b)))); let zz1 := fun (k : Nat) => (k ≤ a.length ∧ a.take k = b.take k); let zz2 := (DV.sl a.length (is a) = DV.sl a.length (is a)); let zz3 := (DV.sl b.length (is b) = DV.sl b.length (is b)); True ∧ True ∧ True ∧ True ∧ True ∧ True ∧ (((((a.length : Nat) : Int) != ((b.length : Nat) : Int)) = true → True ∧ RV.d (DV.bool false) = RV.d zz0) ∧ ((((a.length : Nat) : Int) != ((b.length : Nat) : Int)) = false → True ∧ ((∃ k : Nat, (zz1 k) ∧ ((zz2 ∧ zz3 ∧ (DV.int .i64 0 = DV.int .i64 ((k : Nat) : Int)) ∧ True) ∧ (True))) ∧ ∀ k : Nat, (zz1 k) → True ∧ True ∧ True ∧ True ∧ (((decide (((k : Nat) : Int) < ((a.length : Nat) : Int))) = true → True ∧ True ∧ (0 ≤ ((k : Nat) : Int) ∧ ((k : Nat) : Int) < ((a.length : Nat) : Int) ∧ ((k : Nat) : Int).toNat * 1 < (is a).length) ∧ (((is a)[((k : Nat) : Int).toNat * 1]? = some (DV.int .i64 (nAt (is a) (((k : Nat) : Int).toNat * 1)))) ∧ True) ∧ True ∧ True ∧ (0 ≤ ((k : Nat) : Int) ∧ ((k : Nat) : Int) < ((b.length : Nat) : Int) ∧ ((k : Nat) : Int).toNat * 1 < (is b).length) ∧ (((is b)[((k : Nat) : Int).toNat * 1]? = some (DV.int .i64 (nAt (is b) (((k : Nat) : Int).toNat * 1)))) ∧ True) ∧ True ∧ (true = true) ∧ ((((nAt (is a) (((k : Nat) : Int).toNat * 1)) != (nAt (is b) (((k : Nat) : Int).toNat * 1))) = true → True ∧ RV.d (DV.bool false) = RV.d zz0) ∧ (((nAt (is a) (((k : Nat) : Int).toNat * 1)) != (nAt (is b) (((k : Nat) : Int).toNat * 1))) = false → True ∧ True ∧ True ∧ ∃ k' : Nat, (k' ≤ a.length ∧ a.take k' = b.take k') ∧ (a.length - k' < a.length - k) ∧ ((zz2 ∧ zz3 ∧ (DV.int .i64 (IntKind.wrap .i64 (((k : Nat) : Int) + (1 : Int))) = DV.int .i64 ((k' : Nat) : Int)) ∧ True) ∧ (True))))) ∧ ((decide (((k : Nat) : Int) < ((a.length : Nat) : Int))) = false → True ∧ RV.d (DV.bool true) = RV.d zz0)))))) := by kernel_rfl
theorem R18_SameInts_ans (a : List Int) (b : List Int) : Ans Try.prog 18 [RV.d (DV.sl a.length (is a)), RV.d (DV.sl b.length (is b))] (RV.d (DV.bool (decide (ints (is a) = ints (is b))))) :=
  ans_of_vcg (Γ := gamTf) (R18_SameInts_ann a b) mixed_ Try.func18 rfl (Nat.le_of_ble_eq_true rfl) fun hwf => by
    refine Eq.mpr (R18_SameInts_vc a b) ?_
    simp only [true_and, and_true, RV.d.injEq, RV.agg.injEq, RV.tup.injEq, DV.bool.injEq, DV.int.injEq, DV.sl.injEq, List.cons.injEq, forall_const, Bool.not_false, Bool.not_true, Bool.not_eq_true', Bool.not_eq_false', decide_eq_true_eq, decide_eq_false_iff_not, Int.toNat_natCast]
    have hil : a.length ≤ 9223372036854775807 ∧ b.length ≤ 9223372036854775807 := by
      simp only [RV.wfs, RV.wf, DV.wf, maxLen] at hwf
      omega
    clear hwf
    simp only [ints_is]
    refine ⟨fun h => ?_, fun h => ⟨⟨0, ⟨Nat.zero_le _, by simp⟩, rfl⟩, fun k hk => ⟨fun hlt => ?_, fun hge => ?_⟩⟩⟩
    · have h : a.length ≠ b.length := by simp at h; omega
      exact (decide_eq_false (fun e => h (congrArg List.length e))).symm
    · obtain ⟨k1, k2⟩ := hk
      have hl : a.length = b.length := by simp at h; omega
      have ha : k < a.length := by omega
      have hb : k < b.length := by omega
      obtain ⟨q1, q2⟩ := is_rd ha
      obtain ⟨r1, r2⟩ := is_rd hb
      have w1 : IntKind.wrap .i64 ((k : Int) + 1) = ((k + 1 : Nat) : Int) := by rw [IntWalk.i64_in _ ⟨by omega, by omega⟩]; omega
      simp only [Nat.mul_one, q2, r2, w1]
      refine ⟨⟨by omega, by omega, by rw [is_length]; omega⟩, q1, ⟨by omega, by omega, by rw [is_length]; omega⟩, r1, fun e => ?_, fun e => ⟨k + 1, ⟨by omega, tk_succ ha hb k2 (by simpa using e)⟩, by omega, rfl⟩⟩
      exact (decide_eq_false (tk_ne ha hb (by simpa using e))).symm
    · obtain ⟨k1, k2⟩ := hk
      have hl : a.length = b.length := by simp at h; omega
      have : k = a.length := by omega
      subst this
      exact (decide_eq_true (tk_all hl k2)).symm
def R18_SameOps_ann (a : List Oq) (b : List Oq) : Ann := (Ann.seq Ann.leaf (Ann.seq Ann.leaf (Ann.seq (Ann.seq Ann.leaf (Ann.loop ⟨Nat, fun k => k ≤ a.length ∧ a.take k = b.take k, fun k => ⟨[(0, AV.one (Cl.d (DV.sl a.length (ops a)))), (1, AV.one (Cl.d (DV.sl b.length (ops b)))), (5, AV.one (Cl.d (DV.int .i64 ((k : Nat) : Int))))], []⟩, fun k => a.length - k⟩ fun k => Ann.leaf)) Ann.leaf)))
theorem R18_SameOps_vc (a : List Oq) (b : List Oq) : vcg Try.prog gamTf 26 (bodyOf Try.f12) (R18_SameOps_ann a b) kn0 (start [RV.d (DV.sl a.length (ops a)), RV.d (DV.sl b.length (ops b))]) (post Try.prog Try.f12.results.toList (· = RV.d (DV.bool (decide (toOps (ops a) = toOps (ops b)))))) =
  (let zz0 := (DV.bool (decide (toOps (ops a) = toOps (ops b)))); let zz1 := fun (k : Nat) => (k ≤ a.length ∧ a.take k = b.take k); let zz2 := (DV.sl a.length (ops a) = DV.sl a.length (ops a)); let zz3 := (DV.sl b.length (ops b) = DV.sl b.length (ops b)); True ∧ True ∧ True ∧ True ∧ True ∧ True ∧ (((((a.length : Nat) : Int) != ((b.length : Nat) : Int)) = true → True ∧ RV.d (DV.bool false) = RV.d zz0) ∧ ((((a.length : Nat) : Int) != ((b.length : Nat) : Int)) = false → True ∧ ((∃ k : Nat, (zz1 k) ∧ ((zz2 ∧ zz3 ∧ (DV.int .i64 0 = DV.int .i64 ((k : Nat) : Int)) ∧ True) ∧ (True))) ∧ ∀ k : Nat, (zz1 k) → True ∧ True ∧ True ∧ True ∧ (((decide (((k : Nat) : Int) < ((a.length : Nat) : Int))) = true → True ∧ True ∧ (0 ≤ ((k : Nat) : Int) ∧ ((k : Nat) : Int) < ((a.length : Nat) : Int) ∧ ((k : Nat) : Int).toNat * 12 < (ops a).length) ∧ (((ops a)[((k : Nat) : Int).toNat * 12]? = some (DV.int .i64 (nAt (ops a) (((k : Nat) : Int).toNat * 12)))) ∧ ((ops a)[((k : Nat) : Int).toNat * 12 + 1]? = some (DV.int .i64 (nAt (ops a) (((k : Nat) : Int).toNat * 12 + 1)))) ∧ ((ops a)[((k : Nat) : Int).toNat * 12 + 1 + 1]? = some (DV.int .i64 (nAt (ops a) (((k : Nat) : Int).toNat * 12 + 1 + 1)))) ∧ ((ops a)[((k : Nat) : Int).toNat * 12 + 1 + 1 + 1]? = some (DV.int .i64 (nAt (ops a) (((k : Nat) : Int).toNat * 12 + 1 + 1 + 1)))) ∧ ((ops a)[((k : Nat) : Int).toNat * 12 + 1 + 1 + 1 + 1]? = some (DV.int .i64 (nAt (ops a) (((k : Nat) : Int).toNat * 12 + 1 + 1 + 1 + 1)))) ∧ ((ops a)[((k : Nat) : Int).toNat * 12 + 1 + 1 + 1 + 1 + 1]? = some (DV.int .i64 (nAt (ops a) (((k : Nat) : Int).toNat * 12 + 1 + 1 + 1 + 1 + 1)))) ∧ ((ops a)[((k : Nat) : Int).toNat * 12 + 1 + 1 + 1 + 1 + 1 + 1]? = some (DV.int .i64 (nAt (ops a) (((k : Nat) : Int).toNat * 12 + 1 + 1 + 1 + 1 + 1 + 1)))) ∧ ((ops a)[((k : Nat) : Int).toNat * 12 + 1 + 1 + 1 + 1 + 1 + 1 + 1]? = some (DV.int .u16 (nAt (ops a) (((k : Nat) : Int).toNat * 12 + 1 + 1 + 1 + 1 + 1 + 1 + 1)))) ∧ ((ops a)[((k : Nat) : Int).toNat * 12 + 1 + 1 + 1 + 1 + 1 + 1 + 1 + 1]? = some (DV.int .i64 (nAt (ops a) (((k : Nat) : Int).toNat * 12 + 1 + 1 + 1 + 1 + 1 + 1 + 1 + 1)))) ∧ ((ops a)[((k : Nat) : Int).toNat * 12 + 1 + 1 + 1 + 1 + 1 + 1 + 1 + 1 + 1]? = some (DV.int .i64 (nAt (ops a) (((k : Nat) : Int).toNat * 12 + 1 + 1 + 1 + 1 + 1 + 1 + 1 + 1 + 1)))) ∧ ((ops a)[((k : Nat) : Int).toNat * 12 + 1 + 1 + 1 + 1 + 1 + 1 + 1 + 1 + 1 + 1]? = some (DV.bool (bAt (ops a) (((k : Nat) : Int).toNat * 12 + 1 + 1 + 1 + 1 + 1 + 1 + 1 + 1 + 1 + 1)))) ∧ ((ops a)[((k : Nat) : Int).toNat * 12 + 1 + 1 + 1 + 1 + 1 + 1 + 1 + 1 + 1 + 1 + 1]? = some (DV.bool (bAt (ops a) (((k : Nat) : Int).toNat * 12 + 1 + 1 + 1 + 1 + 1 + 1 + 1 + 1 + 1 + 1 + 1)))) ∧ True) ∧ True ∧ True ∧ (0 ≤ ((k : Nat) : Int) ∧ ((k : Nat) : Int) < ((b.length : Nat) : Int) ∧ ((k : Nat) : Int).toNat * 12 < (ops b).length) ∧ (((ops b)[((k : Nat) : Int).toNat * 12]? = some (DV.int .i64 (nAt (ops b) (((k : Nat) : Int).toNat * 12)))) ∧ ((ops b)[((k : Nat) : Int).toNat * 12 + 1]? = some (DV.int .i64 (nAt (ops b) (((k : Nat) : Int).toNat * 12 + 1)))) ∧ ((ops b)[((k : Nat) : Int).toNat * 12 + 1 + 1]? = some (DV.int .i64 (nAt (ops b) (((k : Nat) : Int).toNat * 12 + 1 + 1)))) ∧ ((ops b)[((k : Nat) : Int).toNat * 12 + 1 + 1 + 1]? = some (DV.int .i64 (nAt (ops b) (((k : Nat) : Int).toNat * 12 + 1 + 1 + 1)))) ∧ ((ops b)[((k : Nat) : Int).toNat * 12 + 1 + 1 + 1 + 1]? = some (DV.int .i64 (nAt (ops b) (((k : Nat) : Int).toNat * 12 + 1 + 1 + 1 + 1)))) ∧ ((ops b)[((k : Nat) : Int).toNat * 12 + 1 + 1 + 1 + 1 + 1]? = some (DV.int .i64 (nAt (ops b) (((k : Nat) : Int).toNat * 12 + 1 + 1 + 1 + 1 + 1)))) ∧ ((ops b)[((k : Nat) : Int).toNat * 12 + 1 + 1 + 1 + 1 + 1 + 1]? = some (DV.int .i64 (nAt (ops b) (((k : Nat) : Int).toNat * 12 + 1 + 1 + 1 + 1 + 1 + 1)))) ∧ ((ops b)[((k : Nat) : Int).toNat * 12 + 1 + 1 + 1 + 1 + 1 + 1 + 1]? = some (DV.int .u16 (nAt (ops b) (((k : Nat) : Int).toNat * 12 + 1 + 1 + 1 + 1 + 1 + 1 + 1)))) ∧ ((ops b)[((k : Nat) : Int).toNat * 12 + 1 + 1 + 1 + 1 + 1 + 1 + 1 + 1]? = some (DV.int .i64 (nAt (ops b) (((k : Nat) : Int).toNat * 12 + 1 + 1 + 1 + 1 + 1 + 1 + 1 + 1)))) ∧ ((ops b)[((k : Nat) : Int).toNat * 12 + 1 + 1 + 1 + 1 + 1 + 1 + 1 + 1 + 1]? = some (DV.int .i64 (nAt (ops b) (((k : Nat) : Int).toNat * 12 + 1 + 1 + 1 + 1 + 1 + 1 + 1 + 1 + 1)))) ∧ ((ops b)[((k : Nat) : Int).toNat * 12 + 1 + 1 + 1 + 1 + 1 + 1 + 1 + 1 + 1 + 1]? = some (DV.bool (bAt (ops b) (((k : Nat) : Int).toNat * 12 + 1 + 1 + 1 + 1 + 1 + 1 + 1 + 1 + 1 + 1)))) ∧ ((ops b)[((k : Nat) : Int).toNat * 12 + 1 + 1 + 1 + 1 + 1 + 1 + 1 + 1 + 1 + 1 + 1]? = some (DV.bool (bAt (ops b) (((k : Nat) : Int).toNat * 12 + 1 + 1 + 1 + 1 + 1 + 1 + 1 + 1 + 1 + 1 + 1)))) ∧ True) ∧ True ∧ (true = true) ∧ (((!(((nAt (ops a) (((k : Nat) : Int).toNat * 12)) == (nAt (ops b) (((k : Nat) : Int).toNat * 12))) && (((nAt (ops a) (((k : Nat) : Int).toNat * 12 + 1)) == (nAt (ops b) (((k : Nat) : Int).toNat * 12 + 1))) && (((nAt (ops a) (((k : Nat) : Int).toNat * 12 + 1 + 1)) == (nAt (ops b) (((k : Nat) : Int).toNat * 12 + 1 + 1))) && (((nAt (ops a) (((k : Nat) : Int).toNat * 12 + 1 + 1 + 1)) == (nAt (ops b) (((k : Nat) : Int).toNat * 12 + 1 + 1 + 1))) && (((nAt (ops a) (((k : Nat) : Int).toNat * 12 + 1 + 1 + 1 + 1)) == (nAt (ops b) (((k : Nat) : Int).toNat * 12 + 1 + 1 + 1 + 1))) && (((nAt (ops a) (((k : Nat) : Int).toNat * 12 + 1 + 1 + 1 + 1 + 1)) == (nAt (ops b) (((k : Nat) : Int).toNat * 12 + 1 + 1 + 1 + 1 + 1))) && (((nAt (ops a) (((k : Nat) : Int).toNat * 12 + 1 + 1 + 1 + 1 + 1 + 1)) == (nAt (ops b) (((k : Nat) : Int).toNat * 12 + 1 + 1 + 1 + 1 + 1 + 1))) && (((nAt (ops a) (((k : Nat) : Int).toNat * 12 + 1 + 1 + 1 + 1 + 1 + 1 + 1)) == (nAt (ops b) (((k : Nat) : Int).toNat * 12 + 1 + 1 + 1 + 1 + 1 + 1 + 1))) && (((nAt (ops a) (((k : Nat) : Int).toNat * 12 + 1 + 1 + 1 + 1 + 1 + 1 + 1 + 1)) == (nAt (ops b) (((k : Nat) : Int).toNat * 12 + 1 + 1 + 1 + 1 + 1 + 1 + 1 + 1))) && (((nAt (ops a) (((k : Nat) : Int).toNat * 12 + 1 + 1 + 1 + 1 + 1 + 1 + 1 + 1 + 1)) == (nAt (ops b) (((k : Nat) : Int).toNat * 12 + 1 + 1 + 1 + 1 + 1 + 1 + 1 + 1 + 1))) && (((bAt (ops a) (((k : Nat) : Int).toNat * 12 + 1 + 1 + 1 + 1 + 1 + 1 + 1 + 1 + 1 + 1)) == (bAt (ops b) (((k : Nat) : Int).toNat * 12 + 1 + 1 + 1 + 1 + 1 + 1 + 1 + 1 + 1 + 1))) && (((bAt (ops a) (((k : Nat) : Int).toNat * 12 + 1 + 1 + 1 + 1 + 1 + 1 + 1 + 1 + 1 + 1 + 1)) == (bAt (ops b) (((k : Nat) : Int).toNat * 12 + 1 + 1 + 1 + 1 + 1 + 1 + 1 + 1 + 1 + 1 + 1))) && true))))))))))))) = true → True ∧ RV.d (DV.bool false) = RV.d zz0) ∧ ((!(((nAt (ops a) (((k : Nat) : Int).toNat * 12)) == (nAt (ops b) (((k : Nat) : Int).toNat * 12))) && (((nAt (ops a) (((k : Nat) : Int).toNat * 12 + 1)) == (nAt (ops b) (((k : Nat) : Int).toNat * 12 + 1))) && (((nAt (ops a) (((k : Nat) : Int).toNat * 12 + 1 + 1)) == (nAt (ops b) (((k : Nat) : Int).toNat * 12 + 1 + 1))) && (((nAt (ops a) (((k : Nat) : Int).toNat * 12 + 1 + 1 + 1)) == (nAt (ops b) (((k : Nat) : Int).toNat * 12 + 1 + 1 + 1))) && (((nAt (ops a) (((k : Nat) : Int).toNat * 12 + 1 + 1 + 1 + 1)) == (nAt (ops b) (((k : Nat) : Int).toNat * 12 + 1 + 1 + 1 + 1))) && (((nAt (ops a) (((k : Nat) : Int).toNat * 12 + 1 + 1 + 1 + 1 + 1)) == (nAt (ops b) (((k : Nat) : Int).toNat * 12 + 1 + 1 + 1 + 1 + 1))) && (((nAt (ops a) (((k : Nat) : Int).toNat * 12 + 1 + 1 + 1 + 1 + 1 + 1)) == (nAt (ops b) (((k : Nat) : Int).toNat * 12 + 1 + 1 + 1 + 1 + 1 + 1))) && (((nAt (ops a) (((k : Nat) : Int).toNat * 12 + 1 + 1 + 1 + 1 + 1 + 1 + 1)) == (nAt (ops b) (((k : Nat) : Int).toNat * 12 + 1 + 1 + 1 + 1 + 1 + 1 + 1))) && (((nAt (ops a) (((k : Nat) : Int).toNat * 12 + 1 + 1 + 1 + 1 + 1 + 1 + 1 + 1)) == (nAt (ops b) (((k : Nat) : Int).toNat * 12 + 1 + 1 + 1 + 1 + 1 + 1 + 1 + 1))) && (((nAt (ops a) (((k : Nat) : Int).toNat * 12 + 1 + 1 + 1 + 1 + 1 + 1 + 1 + 1 + 1)) == (nAt (ops b) (((k : Nat) : Int).toNat * 12 + 1 + 1 + 1 + 1 + 1 + 1 + 1 + 1 + 1))) && (((bAt (ops a) (((k : Nat) : Int).toNat * 12 + 1 + 1 + 1 + 1 + 1 + 1 + 1 + 1 + 1 + 1)) == (bAt (ops b) (((k : Nat) : Int).toNat * 12 + 1 + 1 + 1 + 1 + 1 + 1 + 1 + 1 + 1 + 1))) && (((bAt (ops a) (((k : Nat) : Int).toNat * 12 + 1 + 1 + 1 + 1 + 1 + 1 + 1 + 1 + 1 + 1 + 1)) == (bAt (ops b) (((k : Nat) : Int).toNat * 12 + 1 + 1 + 1 + 1 + 1 + 1 + 1 + 1 + 1 + 1 + 1))) && true))))))))))))) = false → True ∧ True ∧ True ∧ ∃ k' : Nat, (k' ≤ a.length ∧ a.take k' = b.take k') ∧ (a.length - k' < a.length - k) ∧ ((zz2 ∧ zz3 ∧ (DV.int .i64 (IntKind.wrap .i64 (((k : Nat) : Int) + (1 : Int))) = DV.int .i64 ((k' : Nat) : Int)) ∧ True) ∧ (True))))) ∧ ((decide (((k : Nat) : Int) < ((a.length : Nat) : Int))) = false → True ∧ RV.d (DV.bool true) = RV.d zz0)))))) := by kernel_rfl
theorem R18_SameOps_ans (a : List Oq) (b : List Oq) : Ans Try.prog 12 [RV.d (DV.sl a.length (ops a)), RV.d (DV.sl b.length (ops b))] (RV.d (DV.bool (decide (toOps (ops a) = toOps (ops b))))) :=
  ans_of_vcg (Γ := gamTf) (R18_SameOps_ann a b) mixed_ Try.func12 rfl (Nat.le_of_ble_eq_true rfl) fun hwf => by
    refine Eq.mpr (R18_SameOps_vc a b) ?_
    simp only [true_and, and_true, RV.d.injEq, RV.agg.injEq, RV.tup.injEq, DV.bool.injEq, DV.int.injEq, DV.sl.injEq, List.cons.injEq, forall_const, Bool.not_false, Bool.not_true, Bool.not_eq_true', Bool.not_eq_false', decide_eq_true_eq, decide_eq_false_iff_not, Int.toNat_natCast]
    have hil : a.length ≤ 9223372036854775807 ∧ b.length ≤ 9223372036854775807 := by
      simp only [RV.wfs, RV.wf, DV.wf, maxLen] at hwf
      omega
    clear hwf
    simp only [toOps_ops]
    refine ⟨fun h => ?_, fun h => ⟨⟨0, ⟨Nat.zero_le _, by simp⟩, rfl⟩, fun k hk => ⟨fun hlt => ?_, fun hge => ?_⟩⟩⟩
    · have h : a.length ≠ b.length := by simp at h; omega
      exact (decide_eq_false (fun e => h (congrArg List.length e))).symm
    · obtain ⟨k1, k2⟩ := hk
      have hl : a.length = b.length := by simp at h; omega
      have ha : k < a.length := by omega
      have hb : k < b.length := by omega
      have q1 := ops_rd ha
      have q2 := ops_at ha
      have r1 := ops_rd hb
      have r2 := ops_at hb
      have w1 : IntKind.wrap .i64 ((k : Int) + 1) = ((k + 1 : Nat) : Int) := by rw [IntWalk.i64_in _ ⟨by omega, by omega⟩]; omega
      simp only [q2, r2, w1]
      simp only [oq_beq]
      refine ⟨⟨by omega, by omega, by rw [ops_length]; omega⟩, q1, ⟨by omega, by omega, by rw [ops_length]; omega⟩, r1, fun e => ?_, fun e => ⟨k + 1, ⟨by omega, tk_succ ha hb k2 (by simpa using e)⟩, by omega, rfl⟩⟩
      exact (decide_eq_false (tk_ne ha hb (by simpa using e))).symm
    · obtain ⟨k1, k2⟩ := hk
      have hl : a.length = b.length := by simp at h; omega
      have : k = a.length := by omega
      subst this
      exact (decide_eq_true (tk_all hl k2)).symm
def R18_SameTree_ann (a : Nodes) (p : List Int) (b : Nodes) (q : List Int) : Ann := (Ann.seq Ann.leaf (Ann.seq Ann.leaf (Ann.seq (Ann.seq Ann.leaf (Ann.loop ⟨Nat, fun k => k ≤ a.length ∧ a.take k = b.take k, fun k => ⟨[(2, AV.one (Cl.ptr 2 0)), (3, AV.one (Cl.ptr 3 0)), (5, AV.one (Cl.d (DV.int .i64 ((k : Nat) : Int))))], [(2, Bx.cells [Cl.d (DV.sl a.length (nodesD a)), Cl.d (DV.sl p.length (is p))]), (3, Bx.cells [Cl.d (DV.sl b.length (nodesD b)), Cl.d (DV.sl q.length (is q))])]⟩, fun k => a.length - k⟩ fun k => Ann.leaf)) Ann.leaf)))
theorem R18_SameTree_vc (a : Nodes) (p : List Int) (b : Nodes) (q : List Int) : vcg Try.prog gamTf 57 (bodyOf Try.f13) (R18_SameTree_ann a p b q) kn0 (start [RV.agg [DV.sl a.length (nodesD a), DV.sl p.length (is p)], RV.agg [DV.sl b.length (nodesD b), DV.sl q.length (is q)]]) (post Try.prog Try.f13.results.toList (· = RV.d (DV.bool (decide (ints (is p) = ints (is q)) && decide (toNodes (nodesD a) = toNodes (nodesD b)))))) =
  (let zz0 := (DV.bool (decide (ints (is p) = ints (is q)) && decide (toNodes (nodesD a) = toNodes (nodesD b)))); let zz1 := fun (k : Nat) => (k ≤ a.length ∧ a.take k = b.take k); let zz2 := [DV.sl a.length (nodesD a), DV.sl p.length (is p)]; let zz3 := [DV.sl b.length (nodesD b), DV.sl q.length (is q)]; let zz4 := ((zz2 = zz2) ∧ (zz3 = zz3) ∧ True); let zz5 := fun (k : Nat) => (0 ≤ ((k : Nat) : Int) ∧ ((k : Nat) : Int) < ((a.length : Nat) : Int) ∧ ((k : Nat) : Int).toNat * 13 < (nodesD a).length); let zz6 := fun (k : Nat) => (0 ≤ ((k : Nat) : Int) ∧ ((k : Nat) : Int) < ((b.length : Nat) : Int) ∧ ((k : Nat) : Int).toNat * 13 < (nodesD b).length); True ∧ True ∧ True ∧ True ∧ True ∧ True ∧ True ∧ (Ans Try.prog 18 [RV.d (DV.sl p.length (is p)), RV.d (DV.sl q.length (is q))] (RV.d (DV.bool (decide (ints ((is p)) = ints ((is q))))))) ∧ True ∧ True ∧ (((!(decide (ints ((is p)) = ints ((is q))))) = false → True ∧ True ∧ True ∧ True ∧ True ∧ True ∧ True ∧ True ∧ (((((a.length : Nat) : Int) != ((b.length : Nat) : Int)) = true → True ∧ RV.d (DV.bool false) = RV.d zz0) ∧ ((((a.length : Nat) : Int) != ((b.length : Nat) : Int)) = false → True ∧ ((∃ k : Nat, (zz1 k) ∧ (((0 = 0) ∧ (0 = 0) ∧ (DV.int .i64 0 = DV.int .i64 ((k : Nat) : Int)) ∧ True) ∧ zz4)) ∧ ∀ k : Nat, (zz1 k) → True ∧ True ∧ True ∧ True ∧ True ∧ (((decide (((k : Nat) : Int) < ((a.length : Nat) : Int))) = true → True ∧ True ∧ True ∧ (zz5 k) ∧ True ∧ (((nodesD a)[((k : Nat) : Int).toNat * 13 + 0]? = some (DV.int .i64 (nAt (nodesD a) (((k : Nat) : Int).toNat * 13 + 0)))) ∧ ((nodesD a)[((k : Nat) : Int).toNat * 13 + 0 + 1]? = some (DV.int .i64 (nAt (nodesD a) (((k : Nat) : Int).toNat * 13 + 0 + 1)))) ∧ ((nodesD a)[((k : Nat) : Int).toNat * 13 + 0 + 1 + 1]? = some (DV.int .i64 (nAt (nodesD a) (((k : Nat) : Int).toNat * 13 + 0 + 1 + 1)))) ∧ ((nodesD a)[((k : Nat) : Int).toNat * 13 + 0 + 1 + 1 + 1]? = some (DV.int .i64 (nAt (nodesD a) (((k : Nat) : Int).toNat * 13 + 0 + 1 + 1 + 1)))) ∧ ((nodesD a)[((k : Nat) : Int).toNat * 13 + 0 + 1 + 1 + 1 + 1]? = some (DV.int .i64 (nAt (nodesD a) (((k : Nat) : Int).toNat * 13 + 0 + 1 + 1 + 1 + 1)))) ∧ ((nodesD a)[((k : Nat) : Int).toNat * 13 + 0 + 1 + 1 + 1 + 1 + 1]? = some (DV.int .i64 (nAt (nodesD a) (((k : Nat) : Int).toNat * 13 + 0 + 1 + 1 + 1 + 1 + 1)))) ∧ ((nodesD a)[((k : Nat) : Int).toNat * 13 + 0 + 1 + 1 + 1 + 1 + 1 + 1]? = some (DV.int .i64 (nAt (nodesD a) (((k : Nat) : Int).toNat * 13 + 0 + 1 + 1 + 1 + 1 + 1 + 1)))) ∧ ((nodesD a)[((k : Nat) : Int).toNat * 13 + 0 + 1 + 1 + 1 + 1 + 1 + 1 + 1]? = some (DV.int .u16 (nAt (nodesD a) (((k : Nat) : Int).toNat * 13 + 0 + 1 + 1 + 1 + 1 + 1 + 1 + 1)))) ∧ ((nodesD a)[((k : Nat) : Int).toNat * 13 + 0 + 1 + 1 + 1 + 1 + 1 + 1 + 1 + 1]? = some (DV.int .i64 (nAt (nodesD a) (((k : Nat) : Int).toNat * 13 + 0 + 1 + 1 + 1 + 1 + 1 + 1 + 1 + 1)))) ∧ ((nodesD a)[((k : Nat) : Int).toNat * 13 + 0 + 1 + 1 + 1 + 1 + 1 + 1 + 1 + 1 + 1]? = some (DV.int .i64 (nAt (nodesD a) (((k : Nat) : Int).toNat * 13 + 0 + 1 + 1 + 1 + 1 + 1 + 1 + 1 + 1 + 1)))) ∧ ((nodesD a)[((k : Nat) : Int).toNat * 13 + 0 + 1 + 1 + 1 + 1 + 1 + 1 + 1 + 1 + 1 + 1]? = some (DV.bool (bAt (nodesD a) (((k : Nat) : Int).toNat * 13 + 0 + 1 + 1 + 1 + 1 + 1 + 1 + 1 + 1 + 1 + 1)))) ∧ ((nodesD a)[((k : Nat) : Int).toNat * 13 + 0 + 1 + 1 + 1 + 1 + 1 + 1 + 1 + 1 + 1 + 1 + 1]? = some (DV.bool (bAt (nodesD a) (((k : Nat) : Int).toNat * 13 + 0 + 1 + 1 + 1 + 1 + 1 + 1 + 1 + 1 + 1 + 1 + 1)))) ∧ True) ∧ True ∧ True ∧ True ∧ (zz6 k) ∧ True ∧ (((nodesD b)[((k : Nat) : Int).toNat * 13 + 0]? = some (DV.int .i64 (nAt (nodesD b) (((k : Nat) : Int).toNat * 13 + 0)))) ∧ ((nodesD b)[((k : Nat) : Int).toNat * 13 + 0 + 1]? = some (DV.int .i64 (nAt (nodesD b) (((k : Nat) : Int).toNat * 13 + 0 + 1)))) ∧ ((nodesD b)[((k : Nat) : Int).toNat * 13 + 0 + 1 + 1]? = some (DV.int .i64 (nAt (nodesD b) (((k : Nat) : Int).toNat * 13 + 0 + 1 + 1)))) ∧ ((nodesD b)[((k : Nat) : Int).toNat * 13 + 0 + 1 + 1 + 1]? = some (DV.int .i64 (nAt (nodesD b) (((k : Nat) : Int).toNat * 13 + 0 + 1 + 1 + 1)))) ∧ ((nodesD b)[((k : Nat) : Int).toNat * 13 + 0 + 1 + 1 + 1 + 1]? = some (DV.int .i64 (nAt (nodesD b) (((k : Nat) : Int).toNat * 13 + 0 + 1 + 1 + 1 + 1)))) ∧ ((nodesD b)[((k : Nat) : Int).toNat * 13 + 0 + 1 + 1 + 1 + 1 + 1]? = some (DV.int .i64 (nAt (nodesD b) (((k : Nat) : Int).toNat * 13 + 0 + 1 + 1 + 1 + 1 + 1)))) ∧ ((nodesD b)[((k : Nat) : Int).toNat * 13 + 0 + 1 + 1 + 1 + 1 + 1 + 1]? = some (DV.int .i64 (nAt (nodesD b) (((k : Nat) : Int).toNat * 13 + 0 + 1 + 1 + 1 + 1 + 1 + 1)))) ∧ ((nodesD b)[((k : Nat) : Int).toNat * 13 + 0 + 1 + 1 + 1 + 1 + 1 + 1 + 1]? = some (DV.int .u16 (nAt (nodesD b) (((k : Nat) : Int).toNat * 13 + 0 + 1 + 1 + 1 + 1 + 1 + 1 + 1)))) ∧ ((nodesD b)[((k : Nat) : Int).toNat * 13 + 0 + 1 + 1 + 1 + 1 + 1 + 1 + 1 + 1]? = some (DV.int .i64 (nAt (nodesD b) (((k : Nat) : Int).toNat * 13 + 0 + 1 + 1 + 1 + 1 + 1 + 1 + 1 + 1)))) ∧ ((nodesD b)[((k : Nat) : Int).toNat * 13 + 0 + 1 + 1 + 1 + 1 + 1 + 1 + 1 + 1 + 1]? = some (DV.int .i64 (nAt (nodesD b) (((k : Nat) : Int).toNat * 13 + 0 + 1 + 1 + 1 + 1 + 1 + 1 + 1 + 1 + 1)))) ∧ ((nodesD b)[((k : Nat) : Int).toNat * 13 + 0 + 1 + 1 + 1 + 1 + 1 + 1 + 1 + 1 + 1 + 1]? = some (DV.bool (bAt (nodesD b) (((k : Nat) : Int).toNat * 13 + 0 + 1 + 1 + 1 + 1 + 1 + 1 + 1 + 1 + 1 + 1)))) ∧ ((nodesD b)[((k : Nat) : Int).toNat * 13 + 0 + 1 + 1 + 1 + 1 + 1 + 1 + 1 + 1 + 1 + 1 + 1]? = some (DV.bool (bAt (nodesD b) (((k : Nat) : Int).toNat * 13 + 0 + 1 + 1 + 1 + 1 + 1 + 1 + 1 + 1 + 1 + 1 + 1)))) ∧ True) ∧ True ∧ True ∧ (((!(((nAt (nodesD a) (((k : Nat) : Int).toNat * 13 + 0)) == (nAt (nodesD b) (((k : Nat) : Int).toNat * 13 + 0))) && (((nAt (nodesD a) (((k : Nat) : Int).toNat * 13 + 0 + 1)) == (nAt (nodesD b) (((k : Nat) : Int).toNat * 13 + 0 + 1))) && (((nAt (nodesD a) (((k : Nat) : Int).toNat * 13 + 0 + 1 + 1)) == (nAt (nodesD b) (((k : Nat) : Int).toNat * 13 + 0 + 1 + 1))) && (((nAt (nodesD a) (((k : Nat) : Int).toNat * 13 + 0 + 1 + 1 + 1)) == (nAt (nodesD b) (((k : Nat) : Int).toNat * 13 + 0 + 1 + 1 + 1))) && (((nAt (nodesD a) (((k : Nat) : Int).toNat * 13 + 0 + 1 + 1 + 1 + 1)) == (nAt (nodesD b) (((k : Nat) : Int).toNat * 13 + 0 + 1 + 1 + 1 + 1))) && (((nAt (nodesD a) (((k : Nat) : Int).toNat * 13 + 0 + 1 + 1 + 1 + 1 + 1)) == (nAt (nodesD b) (((k : Nat) : Int).toNat * 13 + 0 + 1 + 1 + 1 + 1 + 1))) && (((nAt (nodesD a) (((k : Nat) : Int).toNat * 13 + 0 + 1 + 1 + 1 + 1 + 1 + 1)) == (nAt (nodesD b) (((k : Nat) : Int).toNat * 13 + 0 + 1 + 1 + 1 + 1 + 1 + 1))) && (((nAt (nodesD a) (((k : Nat) : Int).toNat * 13 + 0 + 1 + 1 + 1 + 1 + 1 + 1 + 1)) == (nAt (nodesD b) (((k : Nat) : Int).toNat * 13 + 0 + 1 + 1 + 1 + 1 + 1 + 1 + 1))) && (((nAt (nodesD a) (((k : Nat) : Int).toNat * 13 + 0 + 1 + 1 + 1 + 1 + 1 + 1 + 1 + 1)) == (nAt (nodesD b) (((k : Nat) : Int).toNat * 13 + 0 + 1 + 1 + 1 + 1 + 1 + 1 + 1 + 1))) && (((nAt (nodesD a) (((k : Nat) : Int).toNat * 13 + 0 + 1 + 1 + 1 + 1 + 1 + 1 + 1 + 1 + 1)) == (nAt (nodesD b) (((k : Nat) : Int).toNat * 13 + 0 + 1 + 1 + 1 + 1 + 1 + 1 + 1 + 1 + 1))) && (((bAt (nodesD a) (((k : Nat) : Int).toNat * 13 + 0 + 1 + 1 + 1 + 1 + 1 + 1 + 1 + 1 + 1 + 1)) == (bAt (nodesD b) (((k : Nat) : Int).toNat * 13 + 0 + 1 + 1 + 1 + 1 + 1 + 1 + 1 + 1 + 1 + 1))) && (((bAt (nodesD a) (((k : Nat) : Int).toNat * 13 + 0 + 1 + 1 + 1 + 1 + 1 + 1 + 1 + 1 + 1 + 1 + 1)) == (bAt (nodesD b) (((k : Nat) : Int).toNat * 13 + 0 + 1 + 1 + 1 + 1 + 1 + 1 + 1 + 1 + 1 + 1 + 1))) && true))))))))))))) = false → True ∧ True ∧ True ∧ (zz5 k) ∧ True ∧ (((nodesD a)[((k : Nat) : Int).toNat * 13 + 12]? = some (DV.sl (lAt (nodesD a) (((k : Nat) : Int).toNat * 13 + 12)) (cAt (nodesD a) (((k : Nat) : Int).toNat * 13 + 12)))) ∧ True) ∧ True ∧ True ∧ True ∧ (zz6 k) ∧ True ∧ (((nodesD b)[((k : Nat) : Int).toNat * 13 + 12]? = some (DV.sl (lAt (nodesD b) (((k : Nat) : Int).toNat * 13 + 12)) (cAt (nodesD b) (((k : Nat) : Int).toNat * 13 + 12)))) ∧ True) ∧ (Ans Try.prog 18 [RV.d (DV.sl (lAt (nodesD a) (((k : Nat) : Int).toNat * 13 + 12)) (cAt (nodesD a) (((k : Nat) : Int).toNat * 13 + 12))), RV.d (DV.sl (lAt (nodesD b) (((k : Nat) : Int).toNat * 13 + 12)) (cAt (nodesD b) (((k : Nat) : Int).toNat * 13 + 12)))] (RV.d (DV.bool (decide (ints ((cAt (nodesD a) (((k : Nat) : Int).toNat * 13 + 12))) = ints ((cAt (nodesD b) (((k : Nat) : Int).toNat * 13 + 12)))))))) ∧ True ∧ True ∧ (true = true) ∧ (((!(decide (ints ((cAt (nodesD a) (((k : Nat) : Int).toNat * 13 + 12))) = ints ((cAt (nodesD b) (((k : Nat) : Int).toNat * 13 + 12)))))) = true → True ∧ RV.d (DV.bool false) = RV.d zz0) ∧ ((!(decide (ints ((cAt (nodesD a) (((k : Nat) : Int).toNat * 13 + 12))) = ints ((cAt (nodesD b) (((k : Nat) : Int).toNat * 13 + 12)))))) = false → True ∧ True ∧ True ∧ ∃ k' : Nat, (k' ≤ a.length ∧ a.take k' = b.take k') ∧ (a.length - k' < a.length - k) ∧ (((0 = 0) ∧ (0 = 0) ∧ (DV.int .i64 (IntKind.wrap .i64 (((k : Nat) : Int) + (1 : Int))) = DV.int .i64 ((k' : Nat) : Int)) ∧ True) ∧ zz4)))) ∧ ((!(((nAt (nodesD a) (((k : Nat) : Int).toNat * 13 + 0)) == (nAt (nodesD b) (((k : Nat) : Int).toNat * 13 + 0))) && (((nAt (nodesD a) (((k : Nat) : Int).toNat * 13 + 0 + 1)) == (nAt (nodesD b) (((k : Nat) : Int).toNat * 13 + 0 + 1))) && (((nAt (nodesD a) (((k : Nat) : Int).toNat * 13 + 0 + 1 + 1)) == (nAt (nodesD b) (((k : Nat) : Int).toNat * 13 + 0 + 1 + 1))) && (((nAt (nodesD a) (((k : Nat) : Int).toNat * 13 + 0 + 1 + 1 + 1)) == (nAt (nodesD b) (((k : Nat) : Int).toNat * 13 + 0 + 1 + 1 + 1))) && (((nAt (nodesD a) (((k : Nat) : Int).toNat * 13 + 0 + 1 + 1 + 1 + 1)) == (nAt (nodesD b) (((k : Nat) : Int).toNat * 13 + 0 + 1 + 1 + 1 + 1))) && (((nAt (nodesD a) (((k : Nat) : Int).toNat * 13 + 0 + 1 + 1 + 1 + 1 + 1)) == (nAt (nodesD b) (((k : Nat) : Int).toNat * 13 + 0 + 1 + 1 + 1 + 1 + 1))) && (((nAt (nodesD a) (((k : Nat) : Int).toNat * 13 + 0 + 1 + 1 + 1 + 1 + 1 + 1)) == (nAt (nodesD b) (((k : Nat) : Int).toNat * 13 + 0 + 1 + 1 + 1 + 1 + 1 + 1))) && (((nAt (nodesD a) (((k : Nat) : Int).toNat * 13 + 0 + 1 + 1 + 1 + 1 + 1 + 1 + 1)) == (nAt (nodesD b) (((k : Nat) : Int).toNat * 13 + 0 + 1 + 1 + 1 + 1 + 1 + 1 + 1))) && (((nAt (nodesD a) (((k : Nat) : Int).toNat * 13 + 0 + 1 + 1 + 1 + 1 + 1 + 1 + 1 + 1)) == (nAt (nodesD b) (((k : Nat) : Int).toNat * 13 + 0 + 1 + 1 + 1 + 1 + 1 + 1 + 1 + 1))) && (((nAt (nodesD a) (((k : Nat) : Int).toNat * 13 + 0 + 1 + 1 + 1 + 1 + 1 + 1 + 1 + 1 + 1)) == (nAt (nodesD b) (((k : Nat) : Int).toNat * 13 + 0 + 1 + 1 + 1 + 1 + 1 + 1 + 1 + 1 + 1))) && (((bAt (nodesD a) (((k : Nat) : Int).toNat * 13 + 0 + 1 + 1 + 1 + 1 + 1 + 1 + 1 + 1 + 1 + 1)) == (bAt (nodesD b) (((k : Nat) : Int).toNat * 13 + 0 + 1 + 1 + 1 + 1 + 1 + 1 + 1 + 1 + 1 + 1))) && (((bAt (nodesD a) (((k : Nat) : Int).toNat * 13 + 0 + 1 + 1 + 1 + 1 + 1 + 1 + 1 + 1 + 1 + 1 + 1)) == (bAt (nodesD b) (((k : Nat) : Int).toNat * 13 + 0 + 1 + 1 + 1 + 1 + 1 + 1 + 1 + 1 + 1 + 1 + 1))) && true))))))))))))) = (!false) → True ∧ (true = true) ∧ True ∧ RV.d (DV.bool false) = RV.d zz0))) ∧ ((decide (((k : Nat) : Int) < ((a.length : Nat) : Int))) = false → True ∧ RV.d (DV.bool true) = RV.d zz0)))))) ∧ ((!(decide (ints ((is p)) = ints ((is q))))) = (!false) → True ∧ True ∧ RV.d (DV.bool false) = RV.d zz0))) := by kernel_rfl
theorem R18_SameTree_ans (a : Nodes) (p : List Int) (b : Nodes) (q : List Int) : Ans Try.prog 13 [RV.agg [DV.sl a.length (nodesD a), DV.sl p.length (is p)], RV.agg [DV.sl b.length (nodesD b), DV.sl q.length (is q)]] (RV.d (DV.bool (decide (ints (is p) = ints (is q)) && decide (toNodes (nodesD a) = toNodes (nodesD b))))) :=
  ans_of_vcg (Γ := gamTf) (R18_SameTree_ann a p b q) mixed_ Try.func13 rfl (Nat.le_of_ble_eq_true rfl) fun hwf => by
    refine Eq.mpr (R18_SameTree_vc a p b q) ?_
    simp only [true_and, and_true, RV.d.injEq, RV.agg.injEq, RV.tup.injEq, DV.bool.injEq, DV.int.injEq, DV.sl.injEq, List.cons.injEq, forall_const, Bool.not_false, Bool.not_true, Bool.not_eq_true', Bool.not_eq_false', decide_eq_true_eq, decide_eq_false_iff_not, Int.toNat_natCast]
    have hil : a.length ≤ 9223372036854775807 ∧ b.length ≤ 9223372036854775807 ∧ p.length ≤ 9223372036854775807 ∧ q.length ≤ 9223372036854775807 := by
      simp only [RV.wfs, RV.wf, DV.wfs, DV.wf, maxLen] at hwf
      omega
    clear hwf
    simp only [ints_is, toNodes_nodesD]
    refine ⟨by simpa only [ints_is] using R18_SameInts_ans p q, fun hpq => ⟨fun h => ?_, fun h => ⟨⟨0, ⟨Nat.zero_le _, by simp⟩, rfl⟩, fun k hk => ⟨fun hlt => ?_, fun hge => ?_⟩⟩⟩, fun hpq => ?_⟩
    · have h : a.length ≠ b.length := by simp at h; omega
      rw [decide_eq_false (fun e : a = b => h (congrArg List.length e)), Bool.and_false]
    · obtain ⟨k1, k2⟩ := hk
      have hl : a.length = b.length := by simp at h; omega
      have ha : k < a.length := by omega
      have hb : k < b.length := by omega
      obtain ⟨p0, p1, p2, p3, p4, p5, p6, p7, p8, p9, p10, p11, p12⟩ := nodes_rd ha
      obtain ⟨r0, r1, r2, r3, r4, r5, r6, r7, r8, r9, r10, r11, r12⟩ := nodes_rd hb
      have q2 := nodes_at ha
      have s2 := nodes_at hb
      have w1 : IntKind.wrap .i64 ((k : Int) + 1) = ((k + 1 : Nat) : Int) := by rw [IntWalk.i64_in _ ⟨by omega, by omega⟩]; omega
      simp only [Nat.add_zero, show k * 13 + 12 = k * 13 + 1 + 1 + 1 + 1 + 1 + 1 + 1 + 1 + 1 + 1 + 1 + 1 from rfl, q2, s2, w1, ints_is, oq_beq, decide_eq_true_eq, decide_eq_false_iff_not]
      have hno : ¬a[k] = b[k] → false = (decide (p = q) && decide (a = b)) := fun e => by rw [decide_eq_false (tk_ne ha hb e), Bool.and_false]
      refine ⟨⟨by omega, by omega, by rw [nodesD_len]; omega⟩, ⟨p0, p1, p2, p3, p4, p5, p6, p7, p8, p9, p10, p11⟩, ⟨by omega, by omega, by rw [nodesD_len]; omega⟩, ⟨r0, r1, r2, r3, r4, r5, r6, r7, r8, r9, r10, r11⟩, fun e => ⟨⟨by omega, by omega, by rw [nodesD_len]; omega⟩, p12, ⟨by omega, by omega, by rw [nodesD_len]; omega⟩, r12, by simpa only [ints_is] using R18_SameInts_ans a[k].2 b[k].2, fun e2 => hno fun e3 => e2 (congrArg Prod.snd e3), fun e2 => ⟨k + 1, ⟨by omega, tk_succ ha hb k2 (Prod.ext e e2)⟩, by omega, rfl⟩⟩, fun e => hno fun e3 => e (congrArg Prod.fst e3)⟩
    · obtain ⟨k1, k2⟩ := hk
      have hl : a.length = b.length := by simp at h; omega
      have : k = a.length := by omega
      subst this
      rw [decide_eq_true hpq, decide_eq_true (tk_all hl k2)]; rfl
    · rw [decide_eq_false hpq, Bool.false_and]
end Go.Proofs.Ytaaealkgbklmeaa
/-
  The statements' own lists of operations.
-/
namespace Go.Proofs.Ytaaealkgbklmeaa
open Go.RowKit
set_option linter.unusedVariables false
set_option linter.unusedSimpArgs false
attribute [local irreducible] Ans AnsO AnsG AnsN AnsI
set_option maxRecDepth 4000
def kindL (n op : Int) : Int := if (if modS n 50 = 49 then 4 else IntKind.wrap .i64 (1 + modS n 3)) = 3 ∧ op = 0 ∧ modS n 20 > 0 then 2 else if modS n 50 = 49 then 4 else IntKind.wrap .i64 (1 + modS n 3)
def opL (n op : Int) : Oq := ⟨kindL n op, if kindL n op = 3 then 0 else modS (IntKind.wrap .i64 (Int.tdiv n 3)) 200, 0, 0, 0, 0, 0, 0, 0, 0, false, false⟩
def stepL (n op : Int) : Int := if kindL n op = 2 then op + 1 else if kindL n op = 3 then op - 1 else op
def genL : List Int → Int → List Oq × Int
  | [], op => ([], op)
  | n :: l, op => (opL n op :: (genL l (stepL n op)).1, (genL l (stepL n op)).2)
def listL (l : List Int) (c : Bool) : List Oq := (genL (l.take 40) 0).1 ++ (if c = true then List.replicate (genL (l.take 40) 0).2.toNat popO else [])
def gamTg : Gam where
 pure := fun f xs =>
  if f = 19 then (match xs with | [.d (.int _ n), .d (.int _ k)] => some (RV.d (DV.int .i64 (modS n k))) | _ => none) else
  none
 modes := fun f =>
  none
 proc := fun f xs bs =>
  none
 iter := fun f cs =>
  none
def L21_list_ann (l : List Int) (c : Bool) : Ann := let zz0 := (1, AV.one (Cl.d (DV.bool c))); (Ann.seq Ann.leaf (Ann.seq Ann.leaf (Ann.seq Ann.leaf (Ann.seq (Ann.seq Ann.leaf (Ann.loop ⟨Nat × List Oq × Int, fun z : Nat × List Oq × Int => z.1 ≤ l.length ∧ z.1 ≤ 40 ∧ z.2.1.length = z.1 ∧ -(z.1 : Int) ≤ z.2.2 ∧ z.2.2 ≤ (z.1 : Int) ∧ z.2.1 ++ (genL ((l.take 40).drop z.1) z.2.2).1 = (genL (l.take 40) 0).1 ∧ (genL ((l.take 40).drop z.1) z.2.2).2 = (genL (l.take 40) 0).2, fun z : Nat × List Oq × Int => ⟨[(0, AV.one (Cl.d (DV.sl l.length (is l)))), zz0, (5, AV.one (Cl.ref 9005 z.2.1.length)), (6, AV.one (Cl.d (DV.int .i64 z.2.2))), (7, AV.one (Cl.d (DV.int .i64 ((z.1 : Nat) : Int))))], [(9005, Bx.row 35 12 (ops z.2.1))]⟩, fun z : Nat × List Oq × Int => l.length - z.1⟩ fun z => Ann.leaf)) (Ann.seq (Ann.loop ⟨List Oq × Int, fun y : List Oq × Int => y.1.length ≤ 80 ∧ y.2 ≤ 80 ∧ -80 ≤ y.2 ∧ y.1.length + y.2.toNat ≤ 80 ∧ y.1 ++ (if c = true then List.replicate y.2.toNat popO else []) = listL l c, fun y : List Oq × Int => ⟨[zz0, (5, AV.one (Cl.ref 9005 y.1.length)), (6, AV.one (Cl.d (DV.int .i64 y.2)))], [(9005, Bx.row 35 12 (ops y.1))]⟩, fun y : List Oq × Int => y.2.toNat⟩ fun y => Ann.leaf) Ann.leaf)))))
theorem L21_list_vc (l : List Int) (c : Bool) : vcg Try.prog gamTg 79 (bodyOf Try.f7) (L21_list_ann l c) kn0 (start [RV.d (DV.sl l.length (is l)), RV.d (DV.bool c)]) (post Try.prog Try.f7.results.toList (· = RV.d (DV.sl ((listL (ints (is l)) c).length) (ops (listL (ints (is l)) c))))) =
  (let zz0 := fun (z : Nat × List Oq × Int) => (z.1 ≤ l.length ∧ z.1 ≤ 40 ∧ z.2.1.length = z.1 ∧ -(z.1 : Int) ≤ z.2.2 ∧ z.2.2 ≤ (z.1 : Int) ∧ z.2.1 ++ (genL ((l.take 40).drop z.1) z.2.2).1 = (genL (l.take 40) 0).1 ∧ (genL ((l.take 40).drop z.1) z.2.2).2 = (genL (l.take 40) 0).2); let zz1 := (DV.sl l.length (is l) = DV.sl l.length (is l)); let zz2 := fun (z : Nat × List Oq × Int) => (0 ≤ ((z.1 : Nat) : Int) ∧ ((z.1 : Nat) : Int) < ((l.length : Nat) : Int) ∧ ((z.1 : Nat) : Int).toNat * 1 < (is l).length); let zz3 := fun (z : Nat × List Oq × Int) => (((is l)[((z.1 : Nat) : Int).toNat * 1]? = some (DV.int .i64 (nAt (is l) (((z.1 : Nat) : Int).toNat * 1)))) ∧ True); let zz4 := fun (z' : Nat × List Oq × Int) => (z'.1 ≤ l.length ∧ z'.1 ≤ 40 ∧ z'.2.1.length = z'.1 ∧ -(z'.1 : Int) ≤ z'.2.2 ∧ z'.2.2 ≤ (z'.1 : Int) ∧ z'.2.1 ++ (genL ((l.take 40).drop z'.1) z'.2.2).1 = (genL (l.take 40) 0).1 ∧ (genL ((l.take 40).drop z'.1) z'.2.2).2 = (genL (l.take 40) 0).2); let zz5 := fun (z : Nat × List Oq × Int) => fun (z' : Nat × List Oq × Int) => (l.length - z'.1 < l.length - z.1); let zz6 := fun (z : Nat × List Oq × Int) => fun (z' : Nat × List Oq × Int) => (z.2.1.length + 1 = z'.2.1.length); let zz7 := fun (z : Nat × List Oq × Int) => (IntKind.wrap .i64 (z.2.2 + (1 : Int))); let zz8 := fun (z : Nat × List Oq × Int) => fun (z' : Nat × List Oq × Int) => (DV.int .i64 (IntKind.wrap .i64 (((z.1 : Nat) : Int) + (1 : Int))) = DV.int .i64 ((z'.1 : Nat) : Int)); let zz9 := fun (z : Nat × List Oq × Int) => fun (z' : Nat × List Oq × Int) => (zz1 ∧ (DV.bool c = DV.bool c) ∧ (zz6 z z') ∧ (DV.int .i64 (IntKind.wrap .i64 ((zz7 z) - (1 : Int))) = DV.int .i64 z'.2.2) ∧ (zz8 z z') ∧ True); let zz10 := fun (z : Nat × List Oq × Int) => fun (z' : Nat × List Oq × Int) => (((ops z.2.1) ++ ([DV.int .i64 2, DV.int .i64 0, DV.int .i64 0, DV.int .i64 0, DV.int .i64 0, DV.int .i64 0, DV.int .i64 0, DV.int .u16 0, DV.int .i64 0, DV.int .i64 0, DV.bool false, DV.bool false]) = ops z'.2.1) ∧ True); let zz11 := fun (z : Nat × List Oq × Int) => fun (z' : Nat × List Oq × Int) => (zz1 ∧ (DV.bool c = DV.bool c) ∧ (zz6 z z') ∧ (DV.int .i64 (zz7 z) = DV.int .i64 z'.2.2) ∧ (zz8 z z') ∧ True); let zz12 := fun (z : Nat × List Oq × Int) => fun (z' : Nat × List Oq × Int) => (((ops z.2.1) ++ ([DV.int .i64 2, DV.int .i64 (modS (IntKind.wrap .i64 (Int.tdiv (nAt (is l) (((z.1 : Nat) : Int).toNat * 1)) (3 : Int))) (200 : Int)), DV.int .i64 0, DV.int .i64 0, DV.int .i64 0, DV.int .i64 0, DV.int .i64 0, DV.int .u16 0, DV.int .i64 0, DV.int .i64 0, DV.bool false, DV.bool false]) = ops z'.2.1) ∧ True); let zz13 := fun (z : Nat × List Oq × Int) => fun (z' : Nat × List Oq × Int) => (zz1 ∧ (DV.bool c = DV.bool c) ∧ (zz6 z z') ∧ (DV.int .i64 (IntKind.wrap .i64 (z.2.2 - (1 : Int))) = DV.int .i64 z'.2.2) ∧ (zz8 z z') ∧ True); let zz14 := fun (z : Nat × List Oq × Int) => fun (z' : Nat × List Oq × Int) => (zz1 ∧ (DV.bool c = DV.bool c) ∧ (zz6 z z') ∧ (DV.int .i64 z.2.2 = DV.int .i64 z'.2.2) ∧ (zz8 z z') ∧ True); let zz15 := fun (z : Nat × List Oq × Int) => fun (z' : Nat × List Oq × Int) => (((ops z.2.1) ++ ([DV.int .i64 4, DV.int .i64 0, DV.int .i64 0, DV.int .i64 0, DV.int .i64 0, DV.int .i64 0, DV.int .i64 0, DV.int .u16 0, DV.int .i64 0, DV.int .i64 0, DV.bool false, DV.bool false]) = ops z'.2.1) ∧ True); let zz16 := fun (z : Nat × List Oq × Int) => fun (z' : Nat × List Oq × Int) => (((ops z.2.1) ++ ([DV.int .i64 4, DV.int .i64 (modS (IntKind.wrap .i64 (Int.tdiv (nAt (is l) (((z.1 : Nat) : Int).toNat * 1)) (3 : Int))) (200 : Int)), DV.int .i64 0, DV.int .i64 0, DV.int .i64 0, DV.int .i64 0, DV.int .i64 0, DV.int .u16 0, DV.int .i64 0, DV.int .i64 0, DV.bool false, DV.bool false]) = ops z'.2.1) ∧ True); let zz17 := fun (z : Nat × List Oq × Int) => fun (z' : Nat × List Oq × Int) => (((ops z.2.1) ++ ([DV.int .i64 (IntKind.wrap .i64 ((1 : Int) + (modS (nAt (is l) (((z.1 : Nat) : Int).toNat * 1)) (3 : Int)))), DV.int .i64 0, DV.int .i64 0, DV.int .i64 0, DV.int .i64 0, DV.int .i64 0, DV.int .i64 0, DV.int .u16 0, DV.int .i64 0, DV.int .i64 0, DV.bool false, DV.bool false]) = ops z'.2.1) ∧ True); let zz18 := fun (z : Nat × List Oq × Int) => fun (z' : Nat × List Oq × Int) => (((ops z.2.1) ++ ([DV.int .i64 (IntKind.wrap .i64 ((1 : Int) + (modS (nAt (is l) (((z.1 : Nat) : Int).toNat * 1)) (3 : Int)))), DV.int .i64 (modS (IntKind.wrap .i64 (Int.tdiv (nAt (is l) (((z.1 : Nat) : Int).toNat * 1)) (3 : Int))) (200 : Int)), DV.int .i64 0, DV.int .i64 0, DV.int .i64 0, DV.int .i64 0, DV.int .i64 0, DV.int .u16 0, DV.int .i64 0, DV.int .i64 0, DV.bool false, DV.bool false]) = ops z'.2.1) ∧ True); let zz19 := fun (y : List Oq × Int) => (y.1.length ≤ 80 ∧ y.2 ≤ 80 ∧ -80 ≤ y.2 ∧ y.1.length + y.2.toNat ≤ 80 ∧ y.1 ++ (if c = true then List.replicate y.2.toNat popO else []) = listL l c); let zz20 := fun (y : List Oq × Int) => (DV.sl y.1.length (ops y.1)); let zz21 := (DV.sl ((listL (ints (is l)) c).length) (ops (listL (ints (is l)) c))); True ∧ True ∧ True ∧ True ∧ ((∃ z : Nat × List Oq × Int, (zz0 z) ∧ ((zz1 ∧ (DV.bool c = DV.bool c) ∧ (0 = z.2.1.length) ∧ (DV.int .i64 0 = DV.int .i64 z.2.2) ∧ (DV.int .i64 0 = DV.int .i64 ((z.1 : Nat) : Int)) ∧ True) ∧ (([] = ops z.2.1) ∧ True))) ∧ ∀ z : Nat × List Oq × Int, (zz0 z) → True ∧ True ∧ True ∧ True ∧ True ∧ (((decide (((z.1 : Nat) : Int) < ((l.length : Nat) : Int))) = true → True ∧ True ∧ True ∧ (((decide (((z.1 : Nat) : Int) < (40 : Int))) = true → True ∧ True ∧ (zz2 z) ∧ (zz3 z) ∧ (Ans Try.prog 19 [RV.d (DV.int .i64 (nAt (is l) (((z.1 : Nat) : Int).toNat * 1))), RV.d (DV.int .i64 3)] (RV.d (DV.int .i64 (modS (nAt (is l) (((z.1 : Nat) : Int).toNat * 1)) (3 : Int))))) ∧ True ∧ True ∧ True ∧ True ∧ (zz2 z) ∧ (zz3 z) ∧ (Ans Try.prog 19 [RV.d (DV.int .i64 (nAt (is l) (((z.1 : Nat) : Int).toNat * 1))), RV.d (DV.int .i64 50)] (RV.d (DV.int .i64 (modS (nAt (is l) (((z.1 : Nat) : Int).toNat * 1)) (50 : Int))))) ∧ True ∧ ((((modS (nAt (is l) (((z.1 : Nat) : Int).toNat * 1)) (50 : Int)) == (49 : Int)) = true → True ∧ True ∧ True ∧ True ∧ ((((4 : Int) == (3 : Int)) = true → True ∧ True ∧ True ∧ True ∧ (((z.2.2 == (0 : Int)) = true → True ∧ True ∧ (zz2 z) ∧ (zz3 z) ∧ (Ans Try.prog 19 [RV.d (DV.int .i64 (nAt (is l) (((z.1 : Nat) : Int).toNat * 1))), RV.d (DV.int .i64 20)] (RV.d (DV.int .i64 (modS (nAt (is l) (((z.1 : Nat) : Int).toNat * 1)) (20 : Int))))) ∧ True ∧ True ∧ (((decide ((modS (nAt (is l) (((z.1 : Nat) : Int).toNat * 1)) (20 : Int)) > (0 : Int))) = true → True ∧ True ∧ True ∧ True ∧ (zz2 z) ∧ (zz3 z) ∧ ((3 : Int) ≠ 0) ∧ (Ans Try.prog 19 [RV.d (DV.int .i64 (IntKind.wrap .i64 (Int.tdiv (nAt (is l) (((z.1 : Nat) : Int).toNat * 1)) (3 : Int)))), RV.d (DV.int .i64 200)] (RV.d (DV.int .i64 (modS (IntKind.wrap .i64 (Int.tdiv (nAt (is l) (((z.1 : Nat) : Int).toNat * 1)) (3 : Int))) (200 : Int))))) ∧ True ∧ True ∧ True ∧ True ∧ True ∧ ((((2 : Int) == (2 : Int)) = true → True ∧ True ∧ True ∧ True ∧ True ∧ ((((2 : Int) == (3 : Int)) = true → True ∧ True ∧ True ∧ True ∧ True ∧ True ∧ True ∧ True ∧ (appVc 12 88 z.2.1.length 1 (ops z.2.1) ([DV.int .i64 2, DV.int .i64 0, DV.int .i64 0, DV.int .i64 0, DV.int .i64 0, DV.int .i64 0, DV.int .i64 0, DV.int .u16 0, DV.int .i64 0, DV.int .i64 0, DV.bool false, DV.bool false])) ∧ True ∧ True ∧ True ∧ True ∧ ∃ z' : Nat × List Oq × Int, (zz4 z') ∧ (zz5 z z') ∧ ((zz9 z z') ∧ (zz10 z z'))) ∧ (((2 : Int) == (3 : Int)) = false → True ∧ True ∧ True ∧ (appVc 12 88 z.2.1.length 1 (ops z.2.1) ([DV.int .i64 2, DV.int .i64 (modS (IntKind.wrap .i64 (Int.tdiv (nAt (is l) (((z.1 : Nat) : Int).toNat * 1)) (3 : Int))) (200 : Int)), DV.int .i64 0, DV.int .i64 0, DV.int .i64 0, DV.int .i64 0, DV.int .i64 0, DV.int .u16 0, DV.int .i64 0, DV.int .i64 0, DV.bool false, DV.bool false])) ∧ True ∧ True ∧ True ∧ True ∧ ∃ z' : Nat × List Oq × Int, (zz4 z') ∧ (zz5 z z') ∧ ((zz11 z z') ∧ (zz12 z z'))))) ∧ (((2 : Int) == (2 : Int)) = false → True ∧ True ∧ ((((2 : Int) == (3 : Int)) = true → True ∧ True ∧ True ∧ True ∧ True ∧ True ∧ True ∧ True ∧ (appVc 12 88 z.2.1.length 1 (ops z.2.1) ([DV.int .i64 2, DV.int .i64 0, DV.int .i64 0, DV.int .i64 0, DV.int .i64 0, DV.int .i64 0, DV.int .i64 0, DV.int .u16 0, DV.int .i64 0, DV.int .i64 0, DV.bool false, DV.bool false])) ∧ True ∧ True ∧ True ∧ True ∧ ∃ z' : Nat × List Oq × Int, (zz4 z') ∧ (zz5 z z') ∧ ((zz13 z z') ∧ (zz10 z z'))) ∧ (((2 : Int) == (3 : Int)) = false → True ∧ True ∧ True ∧ (appVc 12 88 z.2.1.length 1 (ops z.2.1) ([DV.int .i64 2, DV.int .i64 (modS (IntKind.wrap .i64 (Int.tdiv (nAt (is l) (((z.1 : Nat) : Int).toNat * 1)) (3 : Int))) (200 : Int)), DV.int .i64 0, DV.int .i64 0, DV.int .i64 0, DV.int .i64 0, DV.int .i64 0, DV.int .u16 0, DV.int .i64 0, DV.int .i64 0, DV.bool false, DV.bool false])) ∧ True ∧ True ∧ True ∧ True ∧ ∃ z' : Nat × List Oq × Int, (zz4 z') ∧ (zz5 z z') ∧ ((zz14 z z') ∧ (zz12 z z'))))))) ∧ ((decide ((modS (nAt (is l) (((z.1 : Nat) : Int).toNat * 1)) (20 : Int)) > (0 : Int))) = false → True ∧ True ∧ True ∧ (zz2 z) ∧ (zz3 z) ∧ ((3 : Int) ≠ 0) ∧ (Ans Try.prog 19 [RV.d (DV.int .i64 (IntKind.wrap .i64 (Int.tdiv (nAt (is l) (((z.1 : Nat) : Int).toNat * 1)) (3 : Int)))), RV.d (DV.int .i64 200)] (RV.d (DV.int .i64 (modS (IntKind.wrap .i64 (Int.tdiv (nAt (is l) (((z.1 : Nat) : Int).toNat * 1)) (3 : Int))) (200 : Int))))) ∧ True ∧ True ∧ True ∧ True ∧ True ∧ ((((4 : Int) == (2 : Int)) = true → True ∧ True ∧ True ∧ True ∧ True ∧ ((((4 : Int) == (3 : Int)) = true → True ∧ True ∧ True ∧ True ∧ True ∧ True ∧ True ∧ True ∧ (appVc 12 88 z.2.1.length 1 (ops z.2.1) ([DV.int .i64 4, DV.int .i64 0, DV.int .i64 0, DV.int .i64 0, DV.int .i64 0, DV.int .i64 0, DV.int .i64 0, DV.int .u16 0, DV.int .i64 0, DV.int .i64 0, DV.bool false, DV.bool false])) ∧ True ∧ True ∧ True ∧ True ∧ ∃ z' : Nat × List Oq × Int, (zz4 z') ∧ (zz5 z z') ∧ ((zz9 z z') ∧ (zz15 z z'))) ∧ (((4 : Int) == (3 : Int)) = false → True ∧ True ∧ True ∧ (appVc 12 88 z.2.1.length 1 (ops z.2.1) ([DV.int .i64 4, DV.int .i64 (modS (IntKind.wrap .i64 (Int.tdiv (nAt (is l) (((z.1 : Nat) : Int).toNat * 1)) (3 : Int))) (200 : Int)), DV.int .i64 0, DV.int .i64 0, DV.int .i64 0, DV.int .i64 0, DV.int .i64 0, DV.int .u16 0, DV.int .i64 0, DV.int .i64 0, DV.bool false, DV.bool false])) ∧ True ∧ True ∧ True ∧ True ∧ ∃ z' : Nat × List Oq × Int, (zz4 z') ∧ (zz5 z z') ∧ ((zz11 z z') ∧ (zz16 z z'))))) ∧ (((4 : Int) == (2 : Int)) = false → True ∧ True ∧ ((((4 : Int) == (3 : Int)) = true → True ∧ True ∧ True ∧ True ∧ True ∧ True ∧ True ∧ True ∧ (appVc 12 88 z.2.1.length 1 (ops z.2.1) ([DV.int .i64 4, DV.int .i64 0, DV.int .i64 0, DV.int .i64 0, DV.int .i64 0, DV.int .i64 0, DV.int .i64 0, DV.int .u16 0, DV.int .i64 0, DV.int .i64 0, DV.bool false, DV.bool false])) ∧ True ∧ True ∧ True ∧ True ∧ ∃ z' : Nat × List Oq × Int, (zz4 z') ∧ (zz5 z z') ∧ ((zz13 z z') ∧ (zz15 z z'))) ∧ (((4 : Int) == (3 : Int)) = false → True ∧ True ∧ True ∧ (appVc 12 88 z.2.1.length 1 (ops z.2.1) ([DV.int .i64 4, DV.int .i64 (modS (IntKind.wrap .i64 (Int.tdiv (nAt (is l) (((z.1 : Nat) : Int).toNat * 1)) (3 : Int))) (200 : Int)), DV.int .i64 0, DV.int .i64 0, DV.int .i64 0, DV.int .i64 0, DV.int .i64 0, DV.int .u16 0, DV.int .i64 0, DV.int .i64 0, DV.bool false, DV.bool false])) ∧ True ∧ True ∧ True ∧ True ∧ ∃ z' : Nat × List Oq × Int, (zz4 z') ∧ (zz5 z z') ∧ ((zz14 z z') ∧ (zz16 z z'))))))))) ∧ ((z.2.2 == (0 : Int)) = (!true) → True ∧ True ∧ True ∧ True ∧ (zz2 z) ∧ (zz3 z) ∧ ((3 : Int) ≠ 0) ∧ (Ans Try.prog 19 [RV.d (DV.int .i64 (IntKind.wrap .i64 (Int.tdiv (nAt (is l) (((z.1 : Nat) : Int).toNat * 1)) (3 : Int)))), RV.d (DV.int .i64 200)] (RV.d (DV.int .i64 (modS (IntKind.wrap .i64 (Int.tdiv (nAt (is l) (((z.1 : Nat) : Int).toNat * 1)) (3 : Int))) (200 : Int))))) ∧ True ∧ True ∧ True ∧ True ∧ True ∧ ((((4 : Int) == (2 : Int)) = true → True ∧ True ∧ True ∧ True ∧ True ∧ ((((4 : Int) == (3 : Int)) = true → True ∧ True ∧ True ∧ True ∧ True ∧ True ∧ True ∧ True ∧ (appVc 12 88 z.2.1.length 1 (ops z.2.1) ([DV.int .i64 4, DV.int .i64 0, DV.int .i64 0, DV.int .i64 0, DV.int .i64 0, DV.int .i64 0, DV.int .i64 0, DV.int .u16 0, DV.int .i64 0, DV.int .i64 0, DV.bool false, DV.bool false])) ∧ True ∧ True ∧ True ∧ True ∧ ∃ z' : Nat × List Oq × Int, (zz4 z') ∧ (zz5 z z') ∧ ((zz9 z z') ∧ (zz15 z z'))) ∧ (((4 : Int) == (3 : Int)) = false → True ∧ True ∧ True ∧ (appVc 12 88 z.2.1.length 1 (ops z.2.1) ([DV.int .i64 4, DV.int .i64 (modS (IntKind.wrap .i64 (Int.tdiv (nAt (is l) (((z.1 : Nat) : Int).toNat * 1)) (3 : Int))) (200 : Int)), DV.int .i64 0, DV.int .i64 0, DV.int .i64 0, DV.int .i64 0, DV.int .i64 0, DV.int .u16 0, DV.int .i64 0, DV.int .i64 0, DV.bool false, DV.bool false])) ∧ True ∧ True ∧ True ∧ True ∧ ∃ z' : Nat × List Oq × Int, (zz4 z') ∧ (zz5 z z') ∧ ((zz11 z z') ∧ (zz16 z z'))))) ∧ (((4 : Int) == (2 : Int)) = false → True ∧ True ∧ ((((4 : Int) == (3 : Int)) = true → True ∧ True ∧ True ∧ True ∧ True ∧ True ∧ True ∧ True ∧ (appVc 12 88 z.2.1.length 1 (ops z.2.1) ([DV.int .i64 4, DV.int .i64 0, DV.int .i64 0, DV.int .i64 0, DV.int .i64 0, DV.int .i64 0, DV.int .i64 0, DV.int .u16 0, DV.int .i64 0, DV.int .i64 0, DV.bool false, DV.bool false])) ∧ True ∧ True ∧ True ∧ True ∧ ∃ z' : Nat × List Oq × Int, (zz4 z') ∧ (zz5 z z') ∧ ((zz13 z z') ∧ (zz15 z z'))) ∧ (((4 : Int) == (3 : Int)) = false → True ∧ True ∧ True ∧ (appVc 12 88 z.2.1.length 1 (ops z.2.1) ([DV.int .i64 4, DV.int .i64 (modS (IntKind.wrap .i64 (Int.tdiv (nAt (is l) (((z.1 : Nat) : Int).toNat * 1)) (3 : Int))) (200 : Int)), DV.int .i64 0, DV.int .i64 0, DV.int .i64 0, DV.int .i64 0, DV.int .i64 0, DV.int .u16 0, DV.int .i64 0, DV.int .i64 0, DV.bool false, DV.bool false])) ∧ True ∧ True ∧ True ∧ True ∧ ∃ z' : Nat × List Oq × Int, (zz4 z') ∧ (zz5 z z') ∧ ((zz14 z z') ∧ (zz16 z z'))))))))) ∧ (((4 : Int) == (3 : Int)) = (!true) → True ∧ True ∧ True ∧ True ∧ True ∧ True ∧ (zz2 z) ∧ (zz3 z) ∧ ((3 : Int) ≠ 0) ∧ (Ans Try.prog 19 [RV.d (DV.int .i64 (IntKind.wrap .i64 (Int.tdiv (nAt (is l) (((z.1 : Nat) : Int).toNat * 1)) (3 : Int)))), RV.d (DV.int .i64 200)] (RV.d (DV.int .i64 (modS (IntKind.wrap .i64 (Int.tdiv (nAt (is l) (((z.1 : Nat) : Int).toNat * 1)) (3 : Int))) (200 : Int))))) ∧ True ∧ True ∧ True ∧ True ∧ True ∧ ((((4 : Int) == (2 : Int)) = true → True ∧ True ∧ True ∧ True ∧ True ∧ ((((4 : Int) == (3 : Int)) = true → True ∧ True ∧ True ∧ True ∧ True ∧ True ∧ True ∧ True ∧ (appVc 12 88 z.2.1.length 1 (ops z.2.1) ([DV.int .i64 4, DV.int .i64 0, DV.int .i64 0, DV.int .i64 0, DV.int .i64 0, DV.int .i64 0, DV.int .i64 0, DV.int .u16 0, DV.int .i64 0, DV.int .i64 0, DV.bool false, DV.bool false])) ∧ True ∧ True ∧ True ∧ True ∧ ∃ z' : Nat × List Oq × Int, (zz4 z') ∧ (zz5 z z') ∧ ((zz9 z z') ∧ (zz15 z z'))) ∧ (((4 : Int) == (3 : Int)) = false → True ∧ True ∧ True ∧ (appVc 12 88 z.2.1.length 1 (ops z.2.1) ([DV.int .i64 4, DV.int .i64 (modS (IntKind.wrap .i64 (Int.tdiv (nAt (is l) (((z.1 : Nat) : Int).toNat * 1)) (3 : Int))) (200 : Int)), DV.int .i64 0, DV.int .i64 0, DV.int .i64 0, DV.int .i64 0, DV.int .i64 0, DV.int .u16 0, DV.int .i64 0, DV.int .i64 0, DV.bool false, DV.bool false])) ∧ True ∧ True ∧ True ∧ True ∧ ∃ z' : Nat × List Oq × Int, (zz4 z') ∧ (zz5 z z') ∧ ((zz11 z z') ∧ (zz16 z z'))))) ∧ (((4 : Int) == (2 : Int)) = false → True ∧ True ∧ ((((4 : Int) == (3 : Int)) = true → True ∧ True ∧ True ∧ True ∧ True ∧ True ∧ True ∧ True ∧ (appVc 12 88 z.2.1.length 1 (ops z.2.1) ([DV.int .i64 4, DV.int .i64 0, DV.int .i64 0, DV.int .i64 0, DV.int .i64 0, DV.int .i64 0, DV.int .i64 0, DV.int .u16 0, DV.int .i64 0, DV.int .i64 0, DV.bool false, DV.bool false])) ∧ True ∧ True ∧ True ∧ True ∧ ∃ z' : Nat × List Oq × Int, (zz4 z') ∧ (zz5 z z') ∧ ((zz13 z z') ∧ (zz15 z z'))) ∧ (((4 : Int) == (3 : Int)) = false → True ∧ True ∧ True ∧ (appVc 12 88 z.2.1.length 1 (ops z.2.1) ([DV.int .i64 4, DV.int .i64 (modS (IntKind.wrap .i64 (Int.tdiv (nAt (is l) (((z.1 : Nat) : Int).toNat * 1)) (3 : Int))) (200 : Int)), DV.int .i64 0, DV.int .i64 0, DV.int .i64 0, DV.int .i64 0, DV.int .i64 0, DV.int .u16 0, DV.int .i64 0, DV.int .i64 0, DV.bool false, DV.bool false])) ∧ True ∧ True ∧ True ∧ True ∧ ∃ z' : Nat × List Oq × Int, (zz4 z') ∧ (zz5 z z') ∧ ((zz14 z z') ∧ (zz16 z z'))))))))) ∧ (((modS (nAt (is l) (((z.1 : Nat) : Int).toNat * 1)) (50 : Int)) == (49 : Int)) = false → True ∧ True ∧ True ∧ ((((IntKind.wrap .i64 ((1 : Int) + (modS (nAt (is l) (((z.1 : Nat) : Int).toNat * 1)) (3 : Int)))) == (3 : Int)) = true → True ∧ True ∧ True ∧ True ∧ (((z.2.2 == (0 : Int)) = true → True ∧ True ∧ (zz2 z) ∧ (zz3 z) ∧ (Ans Try.prog 19 [RV.d (DV.int .i64 (nAt (is l) (((z.1 : Nat) : Int).toNat * 1))), RV.d (DV.int .i64 20)] (RV.d (DV.int .i64 (modS (nAt (is l) (((z.1 : Nat) : Int).toNat * 1)) (20 : Int))))) ∧ True ∧ True ∧ (((decide ((modS (nAt (is l) (((z.1 : Nat) : Int).toNat * 1)) (20 : Int)) > (0 : Int))) = true → True ∧ True ∧ True ∧ True ∧ (zz2 z) ∧ (zz3 z) ∧ ((3 : Int) ≠ 0) ∧ (Ans Try.prog 19 [RV.d (DV.int .i64 (IntKind.wrap .i64 (Int.tdiv (nAt (is l) (((z.1 : Nat) : Int).toNat * 1)) (3 : Int)))), RV.d (DV.int .i64 200)] (RV.d (DV.int .i64 (modS (IntKind.wrap .i64 (Int.tdiv (nAt (is l) (((z.1 : Nat) : Int).toNat * 1)) (3 : Int))) (200 : Int))))) ∧ True ∧ True ∧ True ∧ True ∧ True ∧ ((((2 : Int) == (2 : Int)) = true → True ∧ True ∧ True ∧ True ∧ True ∧ ((((2 : Int) == (3 : Int)) = true → True ∧ True ∧ True ∧ True ∧ True ∧ True ∧ True ∧ True ∧ (appVc 12 88 z.2.1.length 1 (ops z.2.1) ([DV.int .i64 2, DV.int .i64 0, DV.int .i64 0, DV.int .i64 0, DV.int .i64 0, DV.int .i64 0, DV.int .i64 0, DV.int .u16 0, DV.int .i64 0, DV.int .i64 0, DV.bool false, DV.bool false])) ∧ True ∧ True ∧ True ∧ True ∧ ∃ z' : Nat × List Oq × Int, (zz4 z') ∧ (zz5 z z') ∧ ((zz9 z z') ∧ (zz10 z z'))) ∧ (((2 : Int) == (3 : Int)) = false → True ∧ True ∧ True ∧ (appVc 12 88 z.2.1.length 1 (ops z.2.1) ([DV.int .i64 2, DV.int .i64 (modS (IntKind.wrap .i64 (Int.tdiv (nAt (is l) (((z.1 : Nat) : Int).toNat * 1)) (3 : Int))) (200 : Int)), DV.int .i64 0, DV.int .i64 0, DV.int .i64 0, DV.int .i64 0, DV.int .i64 0, DV.int .u16 0, DV.int .i64 0, DV.int .i64 0, DV.bool false, DV.bool false])) ∧ True ∧ True ∧ True ∧ True ∧ ∃ z' : Nat × List Oq × Int, (zz4 z') ∧ (zz5 z z') ∧ ((zz11 z z') ∧ (zz12 z z'))))) ∧ (((2 : Int) == (2 : Int)) = false → True ∧ True ∧ ((((2 : Int) == (3 : Int)) = true → True ∧ True ∧ True ∧ True ∧ True ∧ True ∧ True ∧ True ∧ (appVc 12 88 z.2.1.length 1 (ops z.2.1) ([DV.int .i64 2, DV.int .i64 0, DV.int .i64 0, DV.int .i64 0, DV.int .i64 0, DV.int .i64 0, DV.int .i64 0, DV.int .u16 0, DV.int .i64 0, DV.int .i64 0, DV.bool false, DV.bool false])) ∧ True ∧ True ∧ True ∧ True ∧ ∃ z' : Nat × List Oq × Int, (zz4 z') ∧ (zz5 z z') ∧ ((zz13 z z') ∧ (zz10 z z'))) ∧ (((2 : Int) == (3 : Int)) = false → True ∧ True ∧ True ∧ (appVc 12 88 z.2.1.length 1 (ops z.2.1) ([DV.int .i64 2, DV.int .i64 (modS (IntKind.wrap .i64 (Int.tdiv (nAt (is l) (((z.1 : Nat) : Int).toNat * 1)) (3 : Int))) (200 : Int)), DV.int .i64 0, DV.int .i64 0, DV.int .i64 0, DV.int .i64 0, DV.int .i64 0, DV.int .u16 0, DV.int .i64 0, DV.int .i64 0, DV.bool false, DV.bool false])) ∧ True ∧ True ∧ True ∧ True ∧ ∃ z' : Nat × List Oq × Int, (zz4 z') ∧ (zz5 z z') ∧ ((zz14 z z') ∧ (zz12 z z'))))))) ∧ ((decide ((modS (nAt (is l) (((z.1 : Nat) : Int).toNat * 1)) (20 : Int)) > (0 : Int))) = false → True ∧ True ∧ True ∧ (zz2 z) ∧ (zz3 z) ∧ ((3 : Int) ≠ 0) ∧ (Ans Try.prog 19 [RV.d (DV.int .i64 (IntKind.wrap .i64 (Int.tdiv (nAt (is l) (((z.1 : Nat) : Int).toNat * 1)) (3 : Int)))), RV.d (DV.int .i64 200)] (RV.d (DV.int .i64 (modS (IntKind.wrap .i64 (Int.tdiv (nAt (is l) (((z.1 : Nat) : Int).toNat * 1)) (3 : Int))) (200 : Int))))) ∧ True ∧ True ∧ True ∧ True ∧ True ∧ ((((IntKind.wrap .i64 ((1 : Int) + (modS (nAt (is l) (((z.1 : Nat) : Int).toNat * 1)) (3 : Int)))) == (2 : Int)) = true → True ∧ True ∧ True ∧ True ∧ True ∧ ((((IntKind.wrap .i64 ((1 : Int) + (modS (nAt (is l) (((z.1 : Nat) : Int).toNat * 1)) (3 : Int)))) == (3 : Int)) = true → True ∧ True ∧ True ∧ True ∧ True ∧ True ∧ True ∧ True ∧ (appVc 12 88 z.2.1.length 1 (ops z.2.1) ([DV.int .i64 (IntKind.wrap .i64 ((1 : Int) + (modS (nAt (is l) (((z.1 : Nat) : Int).toNat * 1)) (3 : Int)))), DV.int .i64 0, DV.int .i64 0, DV.int .i64 0, DV.int .i64 0, DV.int .i64 0, DV.int .i64 0, DV.int .u16 0, DV.int .i64 0, DV.int .i64 0, DV.bool false, DV.bool false])) ∧ True ∧ True ∧ True ∧ True ∧ ∃ z' : Nat × List Oq × Int, (zz4 z') ∧ (zz5 z z') ∧ ((zz9 z z') ∧ (zz17 z z'))) ∧ (((IntKind.wrap .i64 ((1 : Int) + (modS (nAt (is l) (((z.1 : Nat) : Int).toNat * 1)) (3 : Int)))) == (3 : Int)) = false → True ∧ True ∧ True ∧ (appVc 12 88 z.2.1.length 1 (ops z.2.1) ([DV.int .i64 (IntKind.wrap .i64 ((1 : Int) + (modS (nAt (is l) (((z.1 : Nat) : Int).toNat * 1)) (3 : Int)))), DV.int .i64 (modS (IntKind.wrap .i64 (Int.tdiv (nAt (is l) (((z.1 : Nat) : Int).toNat * 1)) (3 : Int))) (200 : Int)), DV.int .i64 0, DV.int .i64 0, DV.int .i64 0, DV.int .i64 0, DV.int .i64 0, DV.int .u16 0, DV.int .i64 0, DV.int .i64 0, DV.bool false, DV.bool false])) ∧ True ∧ True ∧ True ∧ True ∧ ∃ z' : Nat × List Oq × Int, (zz4 z') ∧ (zz5 z z') ∧ ((zz11 z z') ∧ (zz18 z z'))))) ∧ (((IntKind.wrap .i64 ((1 : Int) + (modS (nAt (is l) (((z.1 : Nat) : Int).toNat * 1)) (3 : Int)))) == (2 : Int)) = false → True ∧ True ∧ ((((IntKind.wrap .i64 ((1 : Int) + (modS (nAt (is l) (((z.1 : Nat) : Int).toNat * 1)) (3 : Int)))) == (3 : Int)) = true → True ∧ True ∧ True ∧ True ∧ True ∧ True ∧ True ∧ True ∧ (appVc 12 88 z.2.1.length 1 (ops z.2.1) ([DV.int .i64 (IntKind.wrap .i64 ((1 : Int) + (modS (nAt (is l) (((z.1 : Nat) : Int).toNat * 1)) (3 : Int)))), DV.int .i64 0, DV.int .i64 0, DV.int .i64 0, DV.int .i64 0, DV.int .i64 0, DV.int .i64 0, DV.int .u16 0, DV.int .i64 0, DV.int .i64 0, DV.bool false, DV.bool false])) ∧ True ∧ True ∧ True ∧ True ∧ ∃ z' : Nat × List Oq × Int, (zz4 z') ∧ (zz5 z z') ∧ ((zz13 z z') ∧ (zz17 z z'))) ∧ (((IntKind.wrap .i64 ((1 : Int) + (modS (nAt (is l) (((z.1 : Nat) : Int).toNat * 1)) (3 : Int)))) == (3 : Int)) = false → True ∧ True ∧ True ∧ (appVc 12 88 z.2.1.length 1 (ops z.2.1) ([DV.int .i64 (IntKind.wrap .i64 ((1 : Int) + (modS (nAt (is l) (((z.1 : Nat) : Int).toNat * 1)) (3 : Int)))), DV.int .i64 (modS (IntKind.wrap .i64 (Int.tdiv (nAt (is l) (((z.1 : Nat) : Int).toNat * 1)) (3 : Int))) (200 : Int)), DV.int .i64 0, DV.int .i64 0, DV.int .i64 0, DV.int .i64 0, DV.int .i64 0, DV.int .u16 0, DV.int .i64 0, DV.int .i64 0, DV.bool false, DV.bool false])) ∧ True ∧ True ∧ True ∧ True ∧ ∃ z' : Nat × List Oq × Int, (zz4 z') ∧ (zz5 z z') ∧ ((zz14 z z') ∧ (zz18 z z'))))))))) ∧ ((z.2.2 == (0 : Int)) = (!true) → True ∧ True ∧ True ∧ True ∧ (zz2 z) ∧ (zz3 z) ∧ ((3 : Int) ≠ 0) ∧ (Ans Try.prog 19 [RV.d (DV.int .i64 (IntKind.wrap .i64 (Int.tdiv (nAt (is l) (((z.1 : Nat) : Int).toNat * 1)) (3 : Int)))), RV.d (DV.int .i64 200)] (RV.d (DV.int .i64 (modS (IntKind.wrap .i64 (Int.tdiv (nAt (is l) (((z.1 : Nat) : Int).toNat * 1)) (3 : Int))) (200 : Int))))) ∧ True ∧ True ∧ True ∧ True ∧ True ∧ ((((IntKind.wrap .i64 ((1 : Int) + (modS (nAt (is l) (((z.1 : Nat) : Int).toNat * 1)) (3 : Int)))) == (2 : Int)) = true → True ∧ True ∧ True ∧ True ∧ True ∧ ((((IntKind.wrap .i64 ((1 : Int) + (modS (nAt (is l) (((z.1 : Nat) : Int).toNat * 1)) (3 : Int)))) == (3 : Int)) = true → True ∧ True ∧ True ∧ True ∧ True ∧ True ∧ True ∧ True ∧ (appVc 12 88 z.2.1.length 1 (ops z.2.1) ([DV.int .i64 (IntKind.wrap .i64 ((1 : Int) + (modS (nAt (is l) (((z.1 : Nat) : Int).toNat * 1)) (3 : Int)))), DV.int .i64 0, DV.int .i64 0, DV.int .i64 0, DV.int .i64 0, DV.int .i64 0, DV.int .i64 0, DV.int .u16 0, DV.int .i64 0, DV.int .i64 0, DV.bool false, DV.bool false])) ∧ True ∧ True ∧ True ∧ True ∧ ∃ z' : Nat × List Oq × Int, (zz4 z') ∧ (zz5 z z') ∧ ((zz9 z z') ∧ (zz17 z z'))) ∧ (((IntKind.wrap .i64 ((1 : Int) + (modS (nAt (is l) (((z.1 : Nat) : Int).toNat * 1)) (3 : Int)))) == (3 : Int)) = false → True ∧ True ∧ True ∧ (appVc 12 88 z.2.1.length 1 (ops z.2.1) ([DV.int .i64 (IntKind.wrap .i64 ((1 : Int) + (modS (nAt (is l) (((z.1 : Nat) : Int).toNat * 1)) (3 : Int)))), DV.int .i64 (modS (IntKind.wrap .i64 (Int.tdiv (nAt (is l) (((z.1 : Nat) : Int).toNat * 1)) (3 : Int))) (200 : Int)), DV.int .i64 0, DV.int .i64 0, DV.int .i64 0, DV.int .i64 0, DV.int .i64 0, DV.int .u16 0, DV.int .i64 0, DV.int .i64 0, DV.bool false, DV.bool false])) ∧ True ∧ True ∧ True ∧ True ∧ ∃ z' : Nat × List Oq × Int, (zz4 z') ∧ (zz5 z z') ∧ ((zz11 z z') ∧ (zz18 z z'))))) ∧ (((IntKind.wrap .i64 ((1 : Int) + (modS (nAt (is l) (((z.1 : Nat) : Int).toNat * 1)) (3 : Int)))) == (2 : Int)) = false → True ∧ True ∧ ((((IntKind.wrap .i64 ((1 : Int) + (modS (nAt (is l) (((z.1 : Nat) : Int).toNat * 1)) (3 : Int)))) == (3 : Int)) = true → True ∧ True ∧ True ∧ True ∧ True ∧ True ∧ True ∧ True ∧ (appVc 12 88 z.2.1.length 1 (ops z.2.1) ([DV.int .i64 (IntKind.wrap .i64 ((1 : Int) + (modS (nAt (is l) (((z.1 : Nat) : Int).toNat * 1)) (3 : Int)))), DV.int .i64 0, DV.int .i64 0, DV.int .i64 0, DV.int .i64 0, DV.int .i64 0, DV.int .i64 0, DV.int .u16 0, DV.int .i64 0, DV.int .i64 0, DV.bool false, DV.bool false])) ∧ True ∧ True ∧ True ∧ True ∧ ∃ z' : Nat × List Oq × Int, (zz4 z') ∧ (zz5 z z') ∧ ((zz13 z z') ∧ (zz17 z z'))) ∧ (((IntKind.wrap .i64 ((1 : Int) + (modS (nAt (is l) (((z.1 : Nat) : Int).toNat * 1)) (3 : Int)))) == (3 : Int)) = false → True ∧ True ∧ True ∧ (appVc 12 88 z.2.1.length 1 (ops z.2.1) ([DV.int .i64 (IntKind.wrap .i64 ((1 : Int) + (modS (nAt (is l) (((z.1 : Nat) : Int).toNat * 1)) (3 : Int)))), DV.int .i64 (modS (IntKind.wrap .i64 (Int.tdiv (nAt (is l) (((z.1 : Nat) : Int).toNat * 1)) (3 : Int))) (200 : Int)), DV.int .i64 0, DV.int .i64 0, DV.int .i64 0, DV.int .i64 0, DV.int .i64 0, DV.int .u16 0, DV.int .i64 0, DV.int .i64 0, DV.bool false, DV.bool false])) ∧ True ∧ True ∧ True ∧ True ∧ ∃ z' : Nat × List Oq × Int, (zz4 z') ∧ (zz5 z z') ∧ ((zz14 z z') ∧ (zz18 z z'))))))))) ∧ (((IntKind.wrap .i64 ((1 : Int) + (modS (nAt (is l) (((z.1 : Nat) : Int).toNat * 1)) (3 : Int)))) == (3 : Int)) = (!true) → True ∧ True ∧ True ∧ True ∧ True ∧ True ∧ (zz2 z) ∧ (zz3 z) ∧ ((3 : Int) ≠ 0) ∧ (Ans Try.prog 19 [RV.d (DV.int .i64 (IntKind.wrap .i64 (Int.tdiv (nAt (is l) (((z.1 : Nat) : Int).toNat * 1)) (3 : Int)))), RV.d (DV.int .i64 200)] (RV.d (DV.int .i64 (modS (IntKind.wrap .i64 (Int.tdiv (nAt (is l) (((z.1 : Nat) : Int).toNat * 1)) (3 : Int))) (200 : Int))))) ∧ True ∧ True ∧ True ∧ True ∧ True ∧ ((((IntKind.wrap .i64 ((1 : Int) + (modS (nAt (is l) (((z.1 : Nat) : Int).toNat * 1)) (3 : Int)))) == (2 : Int)) = true → True ∧ True ∧ True ∧ True ∧ True ∧ ((((IntKind.wrap .i64 ((1 : Int) + (modS (nAt (is l) (((z.1 : Nat) : Int).toNat * 1)) (3 : Int)))) == (3 : Int)) = true → True ∧ True ∧ True ∧ True ∧ True ∧ True ∧ True ∧ True ∧ (appVc 12 88 z.2.1.length 1 (ops z.2.1) ([DV.int .i64 (IntKind.wrap .i64 ((1 : Int) + (modS (nAt (is l) (((z.1 : Nat) : Int).toNat * 1)) (3 : Int)))), DV.int .i64 0, DV.int .i64 0, DV.int .i64 0, DV.int .i64 0, DV.int .i64 0, DV.int .i64 0, DV.int .u16 0, DV.int .i64 0, DV.int .i64 0, DV.bool false, DV.bool false])) ∧ True ∧ True ∧ True ∧ True ∧ ∃ z' : Nat × List Oq × Int, (zz4 z') ∧ (zz5 z z') ∧ ((zz9 z z') ∧ (zz17 z z'))) ∧ (((IntKind.wrap .i64 ((1 : Int) + (modS (nAt (is l) (((z.1 : Nat) : Int).toNat * 1)) (3 : Int)))) == (3 : Int)) = false → True ∧ True ∧ True ∧ (appVc 12 88 z.2.1.length 1 (ops z.2.1) ([DV.int .i64 (IntKind.wrap .i64 ((1 : Int) + (modS (nAt (is l) (((z.1 : Nat) : Int).toNat * 1)) (3 : Int)))), DV.int .i64 (modS (IntKind.wrap .i64 (Int.tdiv (nAt (is l) (((z.1 : Nat) : Int).toNat * 1)) (3 : Int))) (200 : Int)), DV.int .i64 0, DV.int .i64 0, DV.int .i64 0, DV.int .i64 0, DV.int .i64 0, DV.int .u16 0, DV.int .i64 0, DV.int .i64 0, DV.bool false, DV.bool false])) ∧ True ∧ True ∧ True ∧ True ∧ ∃ z' : Nat × List Oq × Int, (zz4 z') ∧ (zz5 z z') ∧ ((zz11 z z') ∧ (zz18 z z'))))) ∧ (((IntKind.wrap .i64 ((1 : Int) + (modS (nAt (is l) (((z.1 : Nat) : Int).toNat * 1)) (3 : Int)))) == (2 : Int)) = false → True ∧ True ∧ ((((IntKind.wrap .i64 ((1 : Int) + (modS (nAt (is l) (((z.1 : Nat) : Int).toNat * 1)) (3 : Int)))) == (3 : Int)) = true → True ∧ True ∧ True ∧ True ∧ True ∧ True ∧ True ∧ True ∧ (appVc 12 88 z.2.1.length 1 (ops z.2.1) ([DV.int .i64 (IntKind.wrap .i64 ((1 : Int) + (modS (nAt (is l) (((z.1 : Nat) : Int).toNat * 1)) (3 : Int)))), DV.int .i64 0, DV.int .i64 0, DV.int .i64 0, DV.int .i64 0, DV.int .i64 0, DV.int .i64 0, DV.int .u16 0, DV.int .i64 0, DV.int .i64 0, DV.bool false, DV.bool false])) ∧ True ∧ True ∧ True ∧ True ∧ ∃ z' : Nat × List Oq × Int, (zz4 z') ∧ (zz5 z z') ∧ ((zz13 z z') ∧ (zz17 z z'))) ∧ (((IntKind.wrap .i64 ((1 : Int) + (modS (nAt (is l) (((z.1 : Nat) : Int).toNat * 1)) (3 : Int)))) == (3 : Int)) = false → True ∧ True ∧ True ∧ (appVc 12 88 z.2.1.length 1 (ops z.2.1) ([DV.int .i64 (IntKind.wrap .i64 ((1 : Int) + (modS (nAt (is l) (((z.1 : Nat) : Int).toNat * 1)) (3 : Int)))), DV.int .i64 (modS (IntKind.wrap .i64 (Int.tdiv (nAt (is l) (((z.1 : Nat) : Int).toNat * 1)) (3 : Int))) (200 : Int)), DV.int .i64 0, DV.int .i64 0, DV.int .i64 0, DV.int .i64 0, DV.int .i64 0, DV.int .u16 0, DV.int .i64 0, DV.int .i64 0, DV.bool false, DV.bool false])) ∧ True ∧ True ∧ True ∧ True ∧ ∃ z' : Nat × List Oq × Int, (zz4 z') ∧ (zz5 z z') ∧ ((zz14 z z') ∧ (zz18 z z'))))))))))) ∧ ((decide (((z.1 : Nat) : Int) < (40 : Int))) = false → ((∃ y : List Oq × Int, (zz19 y) ∧ (((DV.bool c = DV.bool c) ∧ (z.2.1.length = y.1.length) ∧ (DV.int .i64 z.2.2 = DV.int .i64 y.2) ∧ True) ∧ ((ops z.2.1 = ops y.1) ∧ True))) ∧ ∀ y : List Oq × Int, (zz19 y) → True ∧ True ∧ ((c = true → True ∧ True ∧ True ∧ (((decide (y.2 > (0 : Int))) = true → True ∧ True ∧ True ∧ (appVc 12 88 y.1.length 1 (ops y.1) ([DV.int .i64 3, DV.int .i64 0, DV.int .i64 0, DV.int .i64 0, DV.int .i64 0, DV.int .i64 0, DV.int .i64 0, DV.int .u16 0, DV.int .i64 0, DV.int .i64 0, DV.bool false, DV.bool false])) ∧ True ∧ True ∧ True ∧ True ∧ ∃ y' : List Oq × Int, (y'.1.length ≤ 80 ∧ y'.2 ≤ 80 ∧ -80 ≤ y'.2 ∧ y'.1.length + y'.2.toNat ≤ 80 ∧ y'.1 ++ (if c = true then List.replicate y'.2.toNat popO else []) = listL l c) ∧ (y'.2.toNat < y.2.toNat) ∧ (((DV.bool c = DV.bool c) ∧ (y.1.length + 1 = y'.1.length) ∧ (DV.int .i64 (IntKind.wrap .i64 (y.2 - (1 : Int))) = DV.int .i64 y'.2) ∧ True) ∧ (((ops y.1) ++ ([DV.int .i64 3, DV.int .i64 0, DV.int .i64 0, DV.int .i64 0, DV.int .i64 0, DV.int .i64 0, DV.int .i64 0, DV.int .u16 0, DV.int .i64 0, DV.int .i64 0, DV.bool false, DV.bool false]) = ops y'.1) ∧ True))) ∧ ((decide (y.2 > (0 : Int))) = false → True ∧ True ∧ RV.d (zz20 y) = RV.d zz21))) ∧ (c = (!true) → True ∧ True ∧ True ∧ RV.d (zz20 y) = RV.d zz21)))))) ∧ ((decide (((z.1 : Nat) : Int) < ((l.length : Nat) : Int))) = (!true) → True ∧ ((∃ y : List Oq × Int, (zz19 y) ∧ (((DV.bool c = DV.bool c) ∧ (z.2.1.length = y.1.length) ∧ (DV.int .i64 z.2.2 = DV.int .i64 y.2) ∧ True) ∧ ((ops z.2.1 = ops y.1) ∧ True))) ∧ ∀ y : List Oq × Int, (zz19 y) → True ∧ True ∧ ((c = true → True ∧ True ∧ True ∧ (((decide (y.2 > (0 : Int))) = true → True ∧ True ∧ True ∧ (appVc 12 88 y.1.length 1 (ops y.1) ([DV.int .i64 3, DV.int .i64 0, DV.int .i64 0, DV.int .i64 0, DV.int .i64 0, DV.int .i64 0, DV.int .i64 0, DV.int .u16 0, DV.int .i64 0, DV.int .i64 0, DV.bool false, DV.bool false])) ∧ True ∧ True ∧ True ∧ True ∧ ∃ y' : List Oq × Int, (y'.1.length ≤ 80 ∧ y'.2 ≤ 80 ∧ -80 ≤ y'.2 ∧ y'.1.length + y'.2.toNat ≤ 80 ∧ y'.1 ++ (if c = true then List.replicate y'.2.toNat popO else []) = listL l c) ∧ (y'.2.toNat < y.2.toNat) ∧ (((DV.bool c = DV.bool c) ∧ (y.1.length + 1 = y'.1.length) ∧ (DV.int .i64 (IntKind.wrap .i64 (y.2 - (1 : Int))) = DV.int .i64 y'.2) ∧ True) ∧ (((ops y.1) ++ ([DV.int .i64 3, DV.int .i64 0, DV.int .i64 0, DV.int .i64 0, DV.int .i64 0, DV.int .i64 0, DV.int .i64 0, DV.int .u16 0, DV.int .i64 0, DV.int .i64 0, DV.bool false, DV.bool false]) = ops y'.1) ∧ True))) ∧ ((decide (y.2 > (0 : Int))) = false → True ∧ True ∧ RV.d (zz20 y) = RV.d zz21))) ∧ (c = (!true) → True ∧ True ∧ True ∧ RV.d (zz20 y) = RV.d zz21))))))) := by kernel_rfl
theorem L21_list_ans (l : List Int) (c : Bool) : Ans Try.prog 7 [RV.d (DV.sl l.length (is l)), RV.d (DV.bool c)] (RV.d (DV.sl ((listL (ints (is l)) c).length) (ops (listL (ints (is l)) c)))) :=
  ans_of_vcg (Γ := gamTg) (L21_list_ann l c) mixed_ Try.func7 rfl (Nat.le_of_ble_eq_true rfl) fun hwf => by
    refine Eq.mpr (L21_list_vc l c) ?_
    simp only [true_and, and_true, RV.d.injEq, RV.agg.injEq, RV.tup.injEq, DV.bool.injEq, DV.int.injEq, DV.sl.injEq, List.cons.injEq, forall_const, Bool.not_false, Bool.not_true, Bool.not_eq_true', Bool.not_eq_false', decide_eq_true_eq, decide_eq_false_iff_not, Int.toNat_natCast]
    simp only [ints_is]
    have hM : ∀ n : Nat, n ≤ 100000 → n ≤ maxLen := fun n h => by unfold maxLen; omega
    refine ⟨⟨(0, [], 0), ⟨Nat.zero_le _, Nat.zero_le _, rfl, by simp, by simp, by simp, by simp⟩, ⟨rfl, rfl, rfl⟩, rfl⟩, fun z hz => ⟨fun h1 => ⟨fun h2 => ?_, fun h2 => ?_⟩, fun h1 => ?_⟩⟩
    · obtain ⟨k, out, op⟩ := z
      obtain ⟨z1, z2, z3, z4, z5, z6, z7⟩ := hz
      simp only at *
      have hk : k < l.length := by omega
      obtain ⟨q1, q2⟩ := is_rd hk
      have hd : (l.take 40).drop k = l[k] :: (l.take 40).drop (k + 1) := by
        have h40 : k < (l.take 40).length := by rw [List.length_take]; omega
        rw [List.drop_eq_getElem_cons h40, List.getElem_take]
      rw [hd] at z6 z7
      simp only [genL] at z6 z7
      have w1 : IntKind.wrap .i64 ((k : Int) + 1) = ((k + 1 : Nat) : Int) := by rw [IntWalk.i64_in _ ⟨by omega, by omega⟩]; omega
      have wp : IntKind.wrap .i64 (op + 1) = op + 1 := by rw [IntWalk.i64_in _ ⟨by omega, by omega⟩]
      have wm : IntKind.wrap .i64 (op - 1) = op - 1 := by rw [IntWalk.i64_in _ ⟨by omega, by omega⟩]
      have hb : (k : Int) * 1 = k := by omega
      have q0 : (is l)[k]? = some (.int .i64 l[k]) := q1
      have hil : k < (is l).length := by rw [is_length]; exact hk
      simp only [Nat.mul_one, q2, wp, wm]
      generalize l[k] = n at *
      have hs1 : -((k + 1 : Nat) : Int) ≤ stepL n op ∧ stepL n op ≤ ((k + 1 : Nat) : Int) := by
        unfold stepL
        split <;> (try split) <;> omega
      have leaf : ∀ (cs : List DV) (e : Int), cs = (opL n op).cells → e = stepL n op → (appVc 12 88 out.length 1 (ops out) cs ∧ ∃ z' : Nat × List Oq × Int, (z'.1 ≤ l.length ∧ z'.1 ≤ 40 ∧ z'.2.1.length = z'.1 ∧ -(z'.1 : Int) ≤ z'.2.2 ∧ z'.2.2 ≤ (z'.1 : Int) ∧ z'.2.1 ++ (genL ((l.take 40).drop z'.1) z'.2.2).1 = (genL (l.take 40) 0).1 ∧ (genL ((l.take 40).drop z'.1) z'.2.2).2 = (genL (l.take 40) 0).2) ∧ l.length - z'.1 < l.length - k ∧ (out.length + 1 = z'.2.1.length ∧ e = z'.2.2 ∧ IntKind.wrap .i64 ((k : Int) + 1) = ((z'.1 : Nat) : Int)) ∧ ops out ++ cs = ops z'.2.1) := by
        intro cs e hcs he
        subst hcs he
        refine ⟨⟨by rw [ops_length], rfl, by unfold maxLen; omega, by omega⟩, (k + 1, out ++ [opL n op], stepL n op), ⟨by simp only; omega, by simp only; omega, by simp [z3], hs1.1, hs1.2, by simpa using z6, z7⟩, by simp only; omega, ⟨by simp, rfl, w1⟩, by simp [ops]⟩
      repeat' first
        | exact leaf _ _ (by clear leaf z6 z7 hs1 hd q1 q2 q0 hil w1 wp wm hM hwf; simp_all [opL, kindL, Oq.cells]) (by clear leaf z6 z7 hs1 hd q1 q2 q0 hil w1 wp wm hM hwf; simp_all [stepL, kindL])
        | exact ⟨by omega, by omega, by omega⟩
        | exact q0
        | exact G_Mod_ans _ _
        | exact (by decide : (3 : Int) ≠ 0)
        | (intro h; first | exact absurd h (by decide) | skip)
        | refine And.intro ?_ ?_
    · obtain ⟨k, out, op⟩ := z
      obtain ⟨z1, z2, z3, z4, z5, z6, z7⟩ := hz
      simp only at *
      have hend : (l.take 40).drop k = [] := List.drop_eq_nil_of_le (by rw [List.length_take]; omega)
      rw [hend] at z6 z7
      simp only [genL, List.append_nil] at z6 z7
      clear hwf
      refine ⟨⟨(out, op), ⟨by simp only; omega, by simp only; omega, by simp only; omega, by simp only; omega, by unfold listL; rw [← z6, ← z7]⟩, ⟨rfl, rfl⟩, rfl⟩, fun y hy => ⟨fun hc => ⟨fun hp => ?_, fun hp => ?_⟩, fun hc => ?_⟩⟩
      · obtain ⟨o, p⟩ := y
        obtain ⟨y1, y2, y3, y4, y5⟩ := hy
        simp only at *
        have w1 : IntKind.wrap .i64 (p - 1) = p - 1 := by rw [IntWalk.i64_in _ ⟨by omega, by omega⟩]
        obtain ⟨m, hm⟩ : ∃ m : Nat, p.toNat = m + 1 := ⟨p.toNat - 1, by omega⟩
        have hm2 : (p - 1).toNat = m := by omega
        refine ⟨⟨by rw [ops_length], rfl, by unfold maxLen; omega, by omega⟩, (o ++ [popO], p - 1), ⟨by simp only [List.length_append, List.length_cons, List.length_nil]; omega, by simp only; omega, by simp only; omega, by simp only [List.length_append, List.length_cons, List.length_nil]; omega, ?_⟩, by simp only; omega, ⟨by simp, w1⟩, by simp [ops, popO, Oq.cells]⟩
        simp only
        rw [← y5, if_pos hc, if_pos hc, hm, hm2, List.replicate_succ]
        simp
      · obtain ⟨o, p⟩ := y
        obtain ⟨y1, y2, y3, y4, y5⟩ := hy
        simp only at *
        rw [if_pos hc, show p.toNat = 0 by omega, List.replicate_zero, List.append_nil] at y5
        rw [y5]
        exact ⟨rfl, rfl⟩
      · obtain ⟨o, p⟩ := y
        obtain ⟨y1, y2, y3, y4, y5⟩ := hy
        simp only at *
        rw [if_neg (by rw [hc]; decide), List.append_nil] at y5
        rw [y5]
        exact ⟨rfl, rfl⟩
    · obtain ⟨k, out, op⟩ := z
      obtain ⟨z1, z2, z3, z4, z5, z6, z7⟩ := hz
      simp only at *
      have hend : (l.take 40).drop k = [] := List.drop_eq_nil_of_le (by rw [List.length_take]; omega)
      rw [hend] at z6 z7
      simp only [genL, List.append_nil] at z6 z7
      clear hwf
      refine ⟨⟨(out, op), ⟨by simp only; omega, by simp only; omega, by simp only; omega, by simp only; omega, by unfold listL; rw [← z6, ← z7]⟩, ⟨rfl, rfl⟩, rfl⟩, fun y hy => ⟨fun hc => ⟨fun hp => ?_, fun hp => ?_⟩, fun hc => ?_⟩⟩
      · obtain ⟨o, p⟩ := y
        obtain ⟨y1, y2, y3, y4, y5⟩ := hy
        simp only at *
        have w1 : IntKind.wrap .i64 (p - 1) = p - 1 := by rw [IntWalk.i64_in _ ⟨by omega, by omega⟩]
        obtain ⟨m, hm⟩ : ∃ m : Nat, p.toNat = m + 1 := ⟨p.toNat - 1, by omega⟩
        have hm2 : (p - 1).toNat = m := by omega
        refine ⟨⟨by rw [ops_length], rfl, by unfold maxLen; omega, by omega⟩, (o ++ [popO], p - 1), ⟨by simp only [List.length_append, List.length_cons, List.length_nil]; omega, by simp only; omega, by simp only; omega, by simp only [List.length_append, List.length_cons, List.length_nil]; omega, ?_⟩, by simp only; omega, ⟨by simp, w1⟩, by simp [ops, popO, Oq.cells]⟩
        simp only
        rw [← y5, if_pos hc, if_pos hc, hm, hm2, List.replicate_succ]
        simp
      · obtain ⟨o, p⟩ := y
        obtain ⟨y1, y2, y3, y4, y5⟩ := hy
        simp only at *
        rw [if_pos hc, show p.toNat = 0 by omega, List.replicate_zero, List.append_nil] at y5
        rw [y5]
        exact ⟨rfl, rfl⟩
      · obtain ⟨o, p⟩ := y
        obtain ⟨y1, y2, y3, y4, y5⟩ := hy
        simp only at *
        rw [if_neg (by rw [hc]; decide), List.append_nil] at y5
        rw [y5]
        exact ⟨rfl, rfl⟩
end Go.Proofs.Ytaaealkgbklmeaa
/-
  The parents of nodes: the closure's walk.
-/
namespace Go.Proofs.Ytaaealkgbklmeaa
open Go.RowKit
set_option linter.unusedVariables false
set_option linter.unusedSimpArgs false
/-- the closure in plain words: which are seen, and the parents -/
def addP : List Int → Int → List Bool → List Int → Bool × List Bool × List Int
  | [], _, s, o => (true, s, o)
  | x :: l, p, s, o => if x < 0 ∨ (o.length : Int) ≤ x ∨ s[x.toNat]? = some true then (false, s, o) else addP l p (s.set x.toNat true) (o.set x.toNat p)
def boolVs (l : List Bool) : List Value := l.map Value.bool
/-- two boxes, and the rows that they hold -/
structure SeenAt (w : World) (bo bs go gs n : Nat) (o : List Int) (s : List Bool) : Prop where
  co : w.heap[bo]? = some (.cells #[.slice (some ⟨go, 0, none⟩) n n] 22 (0, 0))
  cs : w.heap[bs]? = some (.cells #[.slice (some ⟨gs, 0, none⟩) n n] 56 (0, 0))
  ro : w.heap[go]? = some (.cells (intVs o).toArray 3 (0, 0))
  rs : w.heap[gs]? = some (.cells (boolVs s).toArray 4 (0, 0))
  lo : o.length = n
  ls : s.length = n
  ne : bo ≠ go ∧ bo ≠ gs ∧ bs ≠ go ∧ bs ≠ gs ∧ go ≠ gs ∧ bo ≠ bs
theorem SeenAt.see {w : World} {bo bs go gs n : Nat} {o : List Int} {s : List Bool} (h : SeenAt w bo bs go gs n o s) : w.cell? ⟨bo, 0, none⟩ = some (.slice (some ⟨go, 0, none⟩) n n) ∧ w.cell? ⟨bs, 0, none⟩ = some (.slice (some ⟨gs, 0, none⟩) n n) ∧ ∀ k : Nat, (∀ v, o[k]? = some v → w.cell? ⟨go, k, none⟩ = some (.int .i64 v) ∧ w.frozen? ⟨go, k, none⟩ = false) ∧ ∀ v, s[k]? = some v → w.cell? ⟨gs, k, none⟩ = some (.bool v) ∧ w.frozen? ⟨gs, k, none⟩ = false := by
  have h1 := h.co
  have h2 := h.cs
  have h3 := h.ro
  have h4 := h.rs
  refine ⟨by simp [World.cell?, h1], by simp [World.cell?, h2], fun k => ⟨fun v hv => ?_, fun v hv => ?_⟩⟩
  · simp [World.cell?, World.frozen?, h3, intVs, hv]
  · simp [World.cell?, World.frozen?, h4, boolVs, hv]
theorem SeenAt.put {w : World} {bo bs go gs n : Nat} {o : List Int} {s : List Bool} (h : SeenAt w bo bs go gs n o s) {k : Nat} (hk : k < n) (p : Int) : SeenAt ((w.setCell ⟨gs, k, none⟩ (.bool true)).setCell ⟨go, k, none⟩ (.int .i64 p)) bo bs go gs n (o.set k p) (s.set k true) ∧ ∀ g, g ≠ go → g ≠ gs → ((w.setCell ⟨gs, k, none⟩ (.bool true)).setCell ⟨go, k, none⟩ (.int .i64 p)).heap[g]? = w.heap[g]? := by
  obtain ⟨n1, n2, n3, n4, n5, n6⟩ := h.ne
  have e1 : w.setCell ⟨gs, k, none⟩ (.bool true) = w.setRow gs ((boolVs s).toArray.setIfInBounds k (.bool true)) := setCell_eq_setRow w gs k _ _ _ _ h.rs
  have e2 : (w.setRow gs ((boolVs s).toArray.setIfInBounds k (.bool true))).heap[go]? = some (.cells (intVs o).toArray 3 (0, 0)) := by rw [setRow_other _ _ _ _ n5]; exact h.ro
  have e3 := setCell_eq_setRow (w.setRow gs ((boolVs s).toArray.setIfInBounds k (.bool true))) go k _ _ _ (.int .i64 p) e2
  rw [e1, e3]
  refine ⟨⟨?_, ?_, ?_, ?_, by simp [h.lo], by simp [h.ls], h.ne⟩, fun g h1 h2 => by rw [setRow_other _ _ _ _ h1, setRow_other _ _ _ _ h2]⟩
  · rw [setRow_other _ _ _ _ n1, setRow_other _ _ _ _ n2]; exact h.co
  · rw [setRow_other _ _ _ _ n3, setRow_other _ _ _ _ n4]; exact h.cs
  · rw [setRow_heap _ _ _ _ _ _ e2]; simp [intVs, List.map_set]
  · rw [setRow_other _ _ _ _ (Ne.symm n5), setRow_heap _ _ _ _ _ _ h.rs]; simp [boolVs, List.map_set]
/-- all but two blocks is as it was -/
structure But (go gs : Nat) (w w' : World) : Prop where
  os : w'.os = w.os
  tape : w'.tape = w.tape
  output : w'.output = w.output
  size : w'.heap.size = w.heap.size
  block : ∀ g, g ≠ go → g ≠ gs → w'.heap[g]? = w.heap[g]?
theorem But.refl (go gs : Nat) (w : World) : But go gs w w := ⟨rfl, rfl, rfl, rfl, fun _ _ _ => rfl⟩
set_option maxHeartbeats 1600000 in
set_option maxRecDepth 100000 in
theorem add_walk (xs : List Int) (hl : xs.length ≤ 9223372036854775807) (p : Int) (A : Option Addr) (cap : Nat) (w : World) (ga off : Nat) (hA : 0 < xs.length → A = some ⟨ga, off, none⟩) (hc : ∀ k (h : k < xs.length), w.cell? ⟨ga, off + k, none⟩ = some (.int .i64 xs[k])) (bo bs go gs n : Nat) (o : List Int) (s : List Bool) (hS : SeenAt w bo bs go gs n o s) (hn : n ≤ 9223372036854775807) (h1 : ga ≠ go) (h2 : ga ≠ gs) :
    Calls Try.prog 25 #[.slice A xs.length cap, .int .i64 p, .pointer (some ⟨bo, 0, none⟩), .pointer (some ⟨bs, 0, none⟩)] w fun e w' => e = .returned (.bool (addP xs p s o).1) ∧ SeenAt w' bo bs go gs n (addP xs p s o).2.2 (addP xs p s o).2.1 ∧ But go gs w w' := by
  go_enter Try.func25, Try.ntmps25
  go_wp2
  go_loopg [11] xs.length (fun g s11 wx => ∃ (k : Nat) (o' : List Int) (s' : List Bool), g = xs.length - k ∧ k ≤ xs.length ∧ s11 = .int .i64 k ∧ SeenAt wx bo bs go gs n o' s' ∧ But go gs w wx ∧ addP (xs.drop k) p s' o' = addP xs p s o)
  case atStart => exact ⟨0, o, s, rfl, Nat.zero_le _, rfl, hS, But.refl _ _ _, rfl⟩
  case round =>
    obtain ⟨k, o', s', hg, hk, rfl, hT, hB, he⟩ := hrel
    have hAG : Aside (gk = xs.length - k) := hg
    clear hS hg
    by_cases hkl : k < xs.length
    · obtain rfl := hA (by omega)
      obtain ⟨x, hx⟩ : ∃ x, xs[k] = x := ⟨_, rfl⟩
      have hxc : wr.cell? ⟨ga, off + k, none⟩ = some (.int .i64 x) := by
        rw [← hx, ← hc k hkl]
        exact World.cell?_of_block (a := ⟨ga, off + k, none⟩) (hB.block ga h1 h2)
      have hkz : (k : Int) < (xs.length : Int) := by omega
      obtain ⟨c0, c1, hcell⟩ := hT.see
      have hst : Aside (addP xs p s o = if x < 0 ∨ (o'.length : Int) ≤ x ∨ s'[x.toNat]? = some true then (false, s', o') else addP (xs.drop (k + 1)) p (s'.set x.toNat true) (o'.set x.toNat p)) := by
        show _ = _
        rw [← he, List.drop_eq_getElem_cons hkl, hx]
        rfl
      have hon := hT.lo
      have hAS : Aside (o'.length = n ∧ xs[k] = x) := ⟨hon, hx⟩
      clear hc he hx hon
      by_cases hx0 : x < 0
      · have hc2 := hcell
        clear hcell
        go_wp2
        go_ret
        have hst' := hst.out
        rw [if_pos (.inl hx0)] at hst'
        rw [hst']
        exact ⟨rfl, hT, hB⟩
      · by_cases hxn : (n : Int) ≤ x
        · have hc2 := hcell
          clear hcell
          go_wp2
          go_ret
          have hst' := hst.out
          rw [if_pos (.inr (.inl (by rw [hAS.1]; exact hxn)))] at hst'
          rw [hst']
          exact ⟨rfl, hT, hB⟩
        · obtain ⟨m, rfl⟩ : ∃ m : Nat, x = m := ⟨x.toNat, by omega⟩
          have hmn : (m : Int) < (n : Int) := by omega
          have hm0 : m < s'.length := by rw [hT.ls]; omega
          obtain ⟨b, hb⟩ : ∃ b, s'[m]? = some b := ⟨_, List.getElem?_eq_getElem hm0⟩
          obtain ⟨y, hy⟩ : ∃ y, o'[m]? = some y := ⟨_, List.getElem?_eq_getElem (show m < o'.length by rw [hT.lo]; omega)⟩
          obtain ⟨f1, f2⟩ := (hcell m).2 b hb
          obtain ⟨g1, g2⟩ := (hcell m).1 y hy
          have hsb : Aside (s'[m]? = some b) := hb
          have hon : Aside (¬(m : Int) < 0 ∧ ¬(n : Int) ≤ (m : Int)) := ⟨hx0, hxn⟩
          clear hcell hb hy hxn hx0 hm0
          cases b with
          | true =>
            go_wp2
            go_ret
            have hst' := hst.out
            rw [if_pos (.inr (.inr hsb))] at hst'
            rw [hst']
            exact ⟨rfl, hT, hB⟩
          | false =>
            obtain ⟨j1, j2, j3, j4, j5, j6⟩ := hT.ne
            go_wp2_with fail
            go_region
            go_wp2
            go_roundg (xs.length - (k + 1))
            case measure => have := hAG.out; omega
            case rel =>
              obtain ⟨u1, u2⟩ := hT.put (k := m) (by omega) p
              refine ⟨k + 1, o'.set m p, s'.set m true, rfl, by omega, by simp, ⟨u1.co, u1.cs, u1.ro, u1.rs, u1.lo, u1.ls, u1.ne⟩, ⟨hB.os, hB.tape, hB.output, by rw [← hB.size]; simp [World.setCell], fun g h1 h2 => (u2 g h1 h2).trans (hB.block g h1 h2)⟩, ?_⟩
              have hst' := hst.out
              have h1 := hon.out
              have h2 := hsb.out
              rw [if_neg (by rw [hAS.1]; simp only [Int.toNat_natCast, h2]; simp; omega)] at hst'
              rw [hst']
              rfl
    · have : k = xs.length := by omega
      subst this
      rw [List.drop_length] at he
      have he' : Aside ((true, s', o') = addP xs p s o) := he
      clear hc he hA
      go_wp2
      go_ret
      rw [← he'.out]
      exact ⟨rfl, hT, hB⟩
/-
  Parents in plain words.
-/
/-- the nodes from number i on -/
def parNs : Nodes → Nat → List Bool → List Int → Bool × List Bool × List Int
  | [], _, s, o => (true, s, o)
  | p :: ns, i, s, o =>
    if ¬(p.1.kind = 1) ∧ ¬(p.1.kind = 2) ∨ p.1.kind = 1 ∧ 0 < p.2.length then (false, s, o)
    else match addP p.2 i s o with
      | (true, s', o') => parNs ns (i + 1) s' o'
      | (false, s', o') => (false, s', o')
def parP (ns : Nodes) (rs : List Int) : List Int × Bool :=
  match addP rs (-1) (List.replicate ns.length false) (List.replicate ns.length 0) with
  | (true, s, o) => match parNs ns 0 s o with
    | (true, s', o') => (o', !s'.contains false)
    | (false, _, _) => ([], false)
  | (false, _, _) => ([], false)
/-
  The levels of nodes in plain words.
-/
/-- every number of a node stands at most once, and there is a node for it -/
structure Good (ns : Nodes) (rs : List Int) : Prop where
  inr : ∀ x ∈ rs ++ ns.flatMap (·.2), 0 ≤ x ∧ x < (ns.length : Int)
  nd : (rs ++ ns.flatMap (·.2)).Nodup
def kidsAt (ns : Nodes) (k : Int) : List Int := (ns[k.toNat]?.map (·.2)).getD []
def outAt (o : List Int) (a : Int) : Int := (o[a.toNat]?).getD 0
def levK (a : Int) : List Int → List Int → List Int
  | [], o => o
  | k :: l, o => levK a l (o.set k.toNat (IntKind.wrap .i64 (outAt o a + 1)))
def lev1 : List Int → List Int → List Int
  | [], o => o
  | k :: l, o => lev1 l (o.set k.toNat 1)
def levGo (ns : Nodes) : Nat → Nat → List Int → List Int → List Int × List Int
  | 0, i, at_, o => (at_, o)
  | f + 1, i, at_, o => match at_[i]? with
    | none => (at_, o)
    | some a => levGo ns f (i + 1) (at_ ++ kidsAt ns a) (levK a (kidsAt ns a) o)
def levR (ns : Nodes) (rs : List Int) : List Int × List Int := levGo ns ns.length 0 rs (lev1 rs (List.replicate ns.length 0))
def levP (ns : Nodes) (rs : List Int) : List Int × Bool := if (parP ns rs).2 = true then ((levR ns rs).2, decide ((levR ns rs).1.length = ns.length)) else ([], false)
theorem kidsAt_of {ns : Nodes} {k : Nat} (h : k < ns.length) : kidsAt ns (k : Int) = ns[k].2 := by simp [kidsAt, List.getElem?_eq_getElem h]
theorem kidsAt_mem {ns : Nodes} {k x : Int} (h : x ∈ kidsAt ns k) : x ∈ ns.flatMap (·.2) := by
  unfold kidsAt at h
  cases e : ns[k.toNat]? with
  | none => rw [e] at h; cases h
  | some p =>
    rw [e] at h
    exact List.mem_flatMap.2 ⟨p, List.mem_of_getElem? e, h⟩
theorem flat_apart {α β : Type} {f : α → List β} : ∀ {l : List α}, (l.flatMap f).Nodup → ∀ {i j : Nat} {a b : α} {y : β}, l[i]? = some a → l[j]? = some b → y ∈ f a → y ∈ f b → i = j
  | [], _, i, j, a, b, y, h1, h2, h3, h4 => by simp at h1
  | c :: l, h, i, j, a, b, y, h1, h2, h3, h4 => by
    rw [List.flatMap_cons, List.nodup_append] at h
    obtain ⟨n1, n2, n3⟩ := h
    cases i with
    | zero =>
      cases j with
      | zero => rfl
      | succ j =>
        simp only [List.getElem?_cons_zero, Option.some.injEq] at h1
        subst h1
        exact absurd rfl (n3 y h3 y (List.mem_flatMap.2 ⟨b, List.mem_of_getElem? (by simpa using h2), h4⟩))
    | succ i =>
      cases j with
      | zero =>
        simp only [List.getElem?_cons_zero, Option.some.injEq] at h2
        subst h2
        exact absurd rfl (n3 y h4 y (List.mem_flatMap.2 ⟨a, List.mem_of_getElem? (by simpa using h1), h3⟩))
      | succ j => rw [flat_apart (l := l) n2 (i := i) (j := j) (by simpa using h1) (by simpa using h2) h3 h4]
theorem flat_one {α β : Type} {f : α → List β} : ∀ {l : List α}, (l.flatMap f).Nodup → ∀ {a : α}, a ∈ l → (f a).Nodup
  | [], _, a, h => by cases h
  | c :: l, h, a, ha => by
    rw [List.flatMap_cons, List.nodup_append] at h
    rcases List.mem_cons.1 ha with rfl | ha
    · exact h.1
    · exact flat_one h.2.1 ha
/-- what holds of the list of nodes that are met -/
structure LevOK (ns : Nodes) (rs : List Int) (i : Nat) (L : List Int) : Prop where
  nd : L.Nodup
  inr : ∀ x ∈ L, 0 ≤ x ∧ x < (ns.length : Int)
  eq : L = rs ++ (L.take i).flatMap (kidsAt ns)
theorem LevOK.start {ns : Nodes} {rs : List Int} (h : Good ns rs) : LevOK ns rs 0 rs :=
  ⟨(List.nodup_append.1 h.nd).1, fun x hx => h.inr x (List.mem_append_left _ hx), by simp⟩
theorem LevOK.few {ns : Nodes} {rs : List Int} {i : Nat} {L : List Int} (h : LevOK ns rs i L) : L.length ≤ ns.length := by
  have := h.nd.length_le_of_subset (l₂ := (List.range ns.length).map fun (k : Nat) => (k : Int)) fun x hx => by
    have := h.inr x hx
    exact List.mem_map.2 ⟨x.toNat, List.mem_range.2 (by omega), by omega⟩
  simpa using this
theorem LevOK.next {ns : Nodes} {rs : List Int} {i : Nat} {L : List Int} (h : LevOK ns rs i L) (hg : Good ns rs) {a : Int} (ha : L[i]? = some a) : LevOK ns rs (i + 1) (L ++ kidsAt ns a) := by
  have hi : i < L.length := (List.getElem?_eq_some_iff.1 ha).1
  obtain ⟨g1, g2, g3⟩ := List.nodup_append.1 hg.nd
  have hin := h.inr a (List.mem_of_getElem? ha)
  obtain ⟨m, rfl⟩ : ∃ m : Nat, a = m := ⟨a.toNat, by omega⟩
  have hm : m < ns.length := by omega
  refine ⟨List.nodup_append.2 ⟨h.nd, ?_, fun y hy z hz e => ?_⟩, fun x hx => ?_, ?_⟩
  · rw [kidsAt_of hm]
    exact flat_one g2 (List.getElem_mem hm)
  · subst e
    have hyk := kidsAt_mem hz
    rw [h.eq] at hy
    rcases List.mem_append.1 hy with hy | hy
    · exact g3 y hy y hyk rfl
    · obtain ⟨b, hb, hyb⟩ := List.mem_flatMap.1 hy
      obtain ⟨j, hj, hjb⟩ := List.getElem_of_mem hb
      rw [List.length_take] at hj
      have hjb' : L[j]? = some b := by rw [← hjb, List.getElem_take, List.getElem?_eq_getElem]
      have hbin := h.inr b (List.mem_of_getElem? hjb')
      obtain ⟨q, rfl⟩ : ∃ q : Nat, b = q := ⟨b.toNat, by omega⟩
      have hq : q < ns.length := by omega
      rw [kidsAt_of hm] at hz
      rw [kidsAt_of hq] at hyb
      have := flat_apart g2 (List.getElem?_eq_getElem hm) (List.getElem?_eq_getElem hq) hz hyb
      subst this
      have e1 := (List.getElem?_inj hi h.nd).1 (ha.trans hjb'.symm)
      omega
  · rcases List.mem_append.1 hx with hx | hx
    · exact h.inr x hx
    · exact hg.inr x (List.mem_append_right _ (kidsAt_mem hx))
  · rw [List.take_append_of_le_length (by omega), List.take_add_one, ha]
    simp only [Option.toList_some, List.flatMap_append, List.flatMap_cons, List.flatMap_nil, List.append_nil]
    rw [← List.append_assoc, ← h.eq]
theorem levGo_step {ns : Nodes} {i : Nat} {at_ o : List Int} {f : Nat} {a : Int} (h : at_[i]? = some a) : levGo ns (f + 1) i at_ o = levGo ns f (i + 1) (at_ ++ kidsAt ns a) (levK a (kidsAt ns a) o) := by
  rw [levGo, h]
theorem levGo_end {ns : Nodes} {i : Nat} {at_ o : List Int} {f : Nat} (h : at_.length ≤ i) : levGo ns f i at_ o = (at_, o) := by
  cases f with
  | zero => rfl
  | succ f => rw [levGo, List.getElem?_eq_none h]
theorem levK_len (a : Int) : ∀ (l o : List Int), (levK a l o).length = o.length
  | [], o => rfl
  | k :: l, o => by rw [levK, levK_len]; simp
/-- from a root or a smaller number to each node: all nodes are met -/
theorem levGo_all {ns : Nodes} {rs : List Int} (hg : Good ns rs) : ∀ (f i : Nat) (L o : List Int), LevOK ns rs i L → i ≤ L.length → ns.length ≤ f + i → (levGo ns f i L o).1.Nodup ∧ (∀ x ∈ rs, x ∈ (levGo ns f i L o).1) ∧ ∀ a ∈ (levGo ns f i L o).1, ∀ x ∈ kidsAt ns a, x ∈ (levGo ns f i L o).1
  | f, i, L, o, h, hi, hf => by
    have hfew := h.few
    by_cases he : i < L.length
    · cases f with
      | zero => omega
      | succ f =>
        rw [levGo_step (List.getElem?_eq_getElem he)]
        have hn := h.next hg (List.getElem?_eq_getElem he)
        exact levGo_all hg f (i + 1) _ _ hn (by rw [List.length_append]; omega) (by omega)
    · have hiL : i = L.length := by omega
      rw [levGo_end (by omega)]
      refine ⟨h.nd, fun x hx => ?_, fun a ha x hx => ?_⟩
      · simp only
        rw [h.eq]; exact List.mem_append_left _ hx
      · simp only
        rw [h.eq, hiL, List.take_length]
        exact List.mem_append_right _ (List.mem_flatMap.2 ⟨a, ha, hx⟩)
theorem lev_full {ns : Nodes} {rs : List Int} (hg : Good ns rs) (hall : ∀ k : Nat, k < ns.length → (k : Int) ∈ rs ∨ ∃ i : Nat, i < k ∧ (k : Int) ∈ kidsAt ns (i : Int)) : (levR ns rs).1.length = ns.length := by
  obtain ⟨h1, h2, h3⟩ := levGo_all hg ns.length 0 rs (lev1 rs (List.replicate ns.length 0)) (LevOK.start hg) (Nat.zero_le _) (by omega)
  have hin : ∀ k : Nat, k < ns.length → (k : Int) ∈ (levR ns rs).1 := by
    intro k
    induction k using Nat.strongRecOn with
    | _ k ih =>
      intro hk
      rcases hall k hk with h | ⟨i, hi, h⟩
      · exact h2 _ h
      · exact h3 _ (ih i hi (by omega)) _ h
  have hle : (levR ns rs).1.length ≤ ns.length := by
    have : ∀ (f i : Nat) (L o : List Int), LevOK ns rs i L → i ≤ L.length → (levGo ns f i L o).1.length ≤ ns.length := by
      intro f
      induction f with
      | zero => intro i L o h _; exact h.few
      | succ f ih =>
        intro i L o h hi
        by_cases he : i < L.length
        · rw [levGo_step (List.getElem?_eq_getElem he)]
          exact ih (i + 1) _ _ (h.next hg (List.getElem?_eq_getElem he)) (by rw [List.length_append]; omega)
        · rw [levGo_end (by omega)]; exact h.few
    exact this _ _ _ _ (LevOK.start hg) (Nat.zero_le _)
  have hge : ns.length ≤ (levR ns rs).1.length := by
    have hnd : ((List.range ns.length).map fun (k : Nat) => (k : Int)).Nodup := by
      rw [List.nodup_iff_pairwise_ne, List.pairwise_map]
      exact (List.nodup_range (n := ns.length)).imp fun h e => h (by omega)
    have := hnd.length_le_of_subset (l₂ := (levR ns rs).1) fun x hx => by
      obtain ⟨k, hk, rfl⟩ := List.mem_map.1 hx
      exact hin k (List.mem_range.1 hk)
    simpa using this
  omega
/-
  Contains over booleans: the walk.
-/
theorem below_cell_old {w w' : World} {S : Nat} (h : Below S w w') {g i : Nat} (hg : g < S) : w'.cell? ⟨g, i, none⟩ = w.cell? ⟨g, i, none⟩ := World.cell?_of_block (a := ⟨g, i, none⟩) (h.block g hg)
/-- a row of booleans -/
def BoolsAt (w : World) (g f : Nat) (l : List Bool) : Prop := ∀ k (h : k < l.length), w.cell? ⟨g, f + k, none⟩ = some (.bool l[k])
theorem index_walk (xs : List Bool) (hl : xs.length ≤ 9223372036854775807) (b : Bool) (A : Option Addr) (cap : Nat) (w : World) (ga off : Nat) (hA : 0 < xs.length → A = some ⟨ga, off, none⟩) (hc : BoolsAt w ga off xs) (n : Int) (hn : n = (match xs.findIdx? (fun x => b == x) with | some k => (k : Int) | none => -1)) :
    Calls Try.prog 28 #[.slice A xs.length cap, .bool b] w fun e w' => e = .returned (.int .i64 n) ∧ w' = w := by
  have hcU := PLift.up hc
  have hnU := PLift.up hn
  clear hc hn
  go_enter Try.func28, Try.ntmps28
  go_wp2
  go_loopg [8] xs.length (fun g s8 wx => ∃ (k : Nat), g = xs.length - k ∧ k ≤ xs.length ∧ s8 = .int .i64 k ∧ wx = w ∧ ∀ j (h : j < xs.length), j < k → (b == xs[j]) = false)
  case atStart => exact ⟨0, rfl, Nat.zero_le _, rfl, rfl, fun j h h0 => absurd h0 (Nat.not_lt_zero j)⟩
  case round =>
    obtain ⟨k, hg, hk, rfl, rfl, hf⟩ := hrel
    have hAG : Aside (gk = xs.length - k) := hg
    have hfU := PLift.up hf
    clear hg hf
    by_cases hkl : k < xs.length
    · obtain rfl := hA (by omega)
      obtain ⟨x, hx⟩ : ∃ x, xs[k] = x := ⟨_, rfl⟩
      have hxc : wr.cell? ⟨ga, off + k, none⟩ = some (.bool x) := by rw [← hx]; exact hcU.down k hkl
      have hkz : (k : Int) < (xs.length : Int) := by omega
      have hxA : Aside (xs[k] = x) := hx
      clear hx
      by_cases hb : (b == x) = true
      · go_wp2
        go_ret
        rw [hnU.down]
        have hi : xs.findIdx? (fun x => b == x) = some k := by
          rw [List.findIdx?_eq_some_iff_getElem]
          refine ⟨hkl, ?_, fun j hj => ?_⟩
          · simp only [hxA.out]; exact hb
          · have := hfU.down j (by omega) hj
            simp only [this]; decide
        rw [hi]
        exact ⟨rfl, rfl⟩
      · have hb : (b == x) = false := by simpa using hb
        go_wp2
        go_roundg (xs.length - (k + 1))
        case measure => have := hAG.out; omega
        case rel =>
          refine ⟨k + 1, rfl, by omega, by simp, rfl, fun j h hj => ?_⟩
          rcases Nat.lt_or_ge j k with h1 | h1
          · exact hfU.down j h h1
          · have : j = k := by omega
            subst this
            rw [hxA.out]; exact hb
    · have : k = xs.length := by omega
      subst this
      clear hA
      go_wp2
      go_ret
      rw [hnU.down]
      have hi : xs.findIdx? (fun x => b == x) = none := by
        rw [List.findIdx?_eq_none_iff]
        intro x hx
        obtain ⟨j, hj, rfl⟩ := List.getElem_of_mem hx
        exact hfU.down j hj hj
      rw [hi]
      exact ⟨rfl, rfl⟩
theorem contains_walk (xs : List Bool) (hl : xs.length ≤ 9223372036854775807) (b : Bool) (A : Option Addr) (cap : Nat) (w : World) (ga off : Nat) (hA : 0 < xs.length → A = some ⟨ga, off, none⟩) (hc : BoolsAt w ga off xs) :
    Calls Try.prog 26 #[.slice A xs.length cap, .bool b] w fun e w' => e = .returned (.bool (xs.contains b)) ∧ w' = w := by
  obtain ⟨n, hn⟩ : ∃ n : Int, n = (match xs.findIdx? (fun x => b == x) with | some k => (k : Int) | none => -1) := ⟨_, rfl⟩
  have hcb : xs.contains b = decide (0 ≤ n) := by
    rw [hn]
    cases h : xs.findIdx? (fun x => b == x) with
    | none =>
      rw [List.findIdx?_eq_none_iff] at h
      simp only
      rw [show decide (0 ≤ (-1 : Int)) = false from rfl]
      rw [List.contains_eq_any_beq, List.any_eq_false]
      intro x hx
      simp [h x hx]
    | some k =>
      rw [List.findIdx?_eq_some_iff_getElem] at h
      obtain ⟨h1, h2, _⟩ := h
      simp only
      rw [decide_eq_true (Int.natCast_nonneg k), List.contains_eq_any_beq, List.any_eq_true]
      exact ⟨_, List.getElem_mem h1, h2⟩
  rw [hcb]
  have hcU := PLift.up hc
  have hnU := PLift.up hn
  clear hc hn hcb
  by_cases h0 : 0 ≤ n
  all_goals
    go_enter Try.func26, Try.ntmps26
    go_wp2_with (go_at_call 28; refine (index_walk xs hl b A cap w ga off hA hcU.down n hnU.down).mono ?_; rintro e w1 ⟨rfl, rfl⟩)
    go_ret
    simp [h0]
/-
  The parents of nodes: the walk.
-/
theorem zinfo_int : (Try.prog.info? 3).map (fun i => (i.zero, i.size, i.bytes)) = some (some (.int .i64 0), 1, 8) := by kernel_rfl
theorem zinfo_bool : (Try.prog.info? 4).map (fun i => (i.zero, i.size, i.bytes)) = some (some (.bool false), 1, 1) := by kernel_rfl
theorem under_bools : Try.prog.underlying 56 = some (.slice 4) := by kernel_rfl
theorem made_ints (n : Nat) : madeCells #[.int .i64 0] n = (intVs (List.replicate n 0)).toArray := by
  apply Array.ext
  · simp [madeCells, intVs]
  · intro i h1 h2
    simp [madeCells, intVs, Nat.mod_one]
theorem made_bools (n : Nat) : madeCells #[.bool false] n = (boolVs (List.replicate n false)).toArray := by
  apply Array.ext
  · simp [madeCells, boolVs]
  · intro i h1 h2
    simp [madeCells, boolVs, Nat.mod_one]
theorem seen_start (w : World) (o : Obj) (n : Nat) : SeenAt (((((w.alloc o).alloc (.cells (madeCells #[.int .i64 0] n) 3)).alloc (.cells #[.slice (some ⟨w.heap.size + 1, 0, none⟩) n n] 22)).alloc (.cells (madeCells #[.bool false] n) 4)).alloc (.cells #[.slice (some ⟨w.heap.size + 1 + 1 + 1, 0, none⟩) n n] 56)) (w.heap.size + 1 + 1) (w.heap.size + 1 + 1 + 1 + 1) (w.heap.size + 1) (w.heap.size + 1 + 1 + 1) n (List.replicate n 0) (List.replicate n false) where
  co := by
    rw [heap_alloc_old _ _ (by simp), heap_alloc_old _ _ (by simp)]
    have := heap_alloc_new ((w.alloc o).alloc (.cells (madeCells #[.int .i64 0] n) 3)) (.cells #[.slice (some ⟨w.heap.size + 1, 0, none⟩) n n] 22)
    simpa using this
  cs := by
    have := heap_alloc_new ((((w.alloc o).alloc (.cells (madeCells #[.int .i64 0] n) 3)).alloc (.cells #[.slice (some ⟨w.heap.size + 1, 0, none⟩) n n] 22)).alloc (.cells (madeCells #[.bool false] n) 4)) (.cells #[.slice (some ⟨w.heap.size + 1 + 1 + 1, 0, none⟩) n n] 56)
    simpa using this
  ro := by
    rw [heap_alloc_old _ _ (by simp), heap_alloc_old _ _ (by simp), heap_alloc_old _ _ (by simp), made_ints]
    have := heap_alloc_new (w.alloc o) (.cells (intVs (List.replicate n 0)).toArray 3)
    simpa using this
  rs := by
    rw [heap_alloc_old _ _ (by simp), made_bools]
    have := heap_alloc_new (((w.alloc o).alloc (.cells (madeCells #[.int .i64 0] n) 3)).alloc (.cells #[.slice (some ⟨w.heap.size + 1, 0, none⟩) n n] 22)) (.cells (boolVs (List.replicate n false)).toArray 4)
    simpa using this
  lo := by simp
  ls := by simp
  ne := by omega
/-- a slice of numbers in old blocks -/
def IntsAt (w : World) (v : Value) (l : List Int) : Prop := ∃ A c g f, v = .slice A l.length c ∧ (0 < l.length → A = some ⟨g, f, none⟩) ∧ g ≤ w.heap.size ∧ (∀ k (h : k < l.length), w.cell? ⟨g, f + k, none⟩ = some (.int .i64 l[k])) ∧ l.length ≤ 9223372036854775807
/-- old blocks but two are as they were -/
structure Kept (S go gs : Nat) (w w' : World) : Prop where
  os : w'.os = w.os
  tape : w'.tape = w.tape
  output : w'.output = w.output
  size : w.heap.size ≤ w'.heap.size
  block : ∀ g, g < S → g ≠ go → g ≠ gs → w'.heap[g]? = w.heap[g]?
theorem box_first (w : World) (o1 o2 o3 o4 o5 : Obj) : (((((w.alloc o1).alloc o2).alloc o3).alloc o4).alloc o5).heap[w.heap.size]? = some o1 := by
  rw [heap_alloc_old _ _ (by simp; omega), heap_alloc_old _ _ (by simp; omega), heap_alloc_old _ _ (by simp; omega), heap_alloc_old _ _ (by simp)]
  exact heap_alloc_new w o1
theorem below_but {w w1 : World} {o1 o2 o3 o4 o5 : Obj} (h : But (w.heap.size + 1) (w.heap.size + 1 + 1 + 1) (((((w.alloc o1).alloc o2).alloc o3).alloc o4).alloc o5) w1) : Below w.heap.size w w1 ∧ w.heap.size + 5 ≤ w1.heap.size := by
  have hs := h.size
  simp only [World.size_alloc] at hs
  refine ⟨⟨h.os, h.tape, h.output, by omega, fun k hk => ?_⟩, by omega⟩
  rw [h.block k (by omega) (by omega), heap_alloc_old _ _ (by simp; omega), heap_alloc_old _ _ (by simp; omega), heap_alloc_old _ _ (by simp; omega), heap_alloc_old _ _ (by simp; omega), heap_alloc_old _ _ hk]
theorem SeenAt.alloc {w : World} {bo bs go gs n : Nat} {o : List Int} {s : List Bool} (h : SeenAt w bo bs go gs n o s) (ob : Obj) : SeenAt (w.alloc ob) bo bs go gs n o s where
  co := (heap_alloc_old w ob (Array.getElem?_eq_some_iff.1 h.co).1).trans h.co
  cs := (heap_alloc_old w ob (Array.getElem?_eq_some_iff.1 h.cs).1).trans h.cs
  ro := (heap_alloc_old w ob (Array.getElem?_eq_some_iff.1 h.ro).1).trans h.ro
  rs := (heap_alloc_old w ob (Array.getElem?_eq_some_iff.1 h.rs).1).trans h.rs
  lo := h.lo
  ls := h.ls
  ne := h.ne
theorem below_but2 {w wr w2 : World} {o : Obj} (hB : Below w.heap.size w wr) (h5 : w.heap.size + 5 ≤ wr.heap.size) (h : But (w.heap.size + 1) (w.heap.size + 1 + 1 + 1) (wr.alloc o) w2) : Below w.heap.size w w2 ∧ w.heap.size + 5 ≤ w2.heap.size := by
  have hs := h.size
  simp only [World.size_alloc] at hs
  refine ⟨⟨h.os.trans hB.os, h.tape.trans hB.tape, h.output.trans hB.output, by omega, fun k hk => ?_⟩, by omega⟩
  rw [h.block k (by omega) (by omega), heap_alloc_old _ _ (by omega)]
  exact hB.block k hk
theorem addP_in : ∀ (l : List Int) (p : Int) (s : List Bool) (o : List Int), ∀ x ∈ (addP l p s o).2.2, x = p ∨ x ∈ o
  | [], p, s, o, x, h => .inr h
  | y :: l, p, s, o, x, h => by
    unfold addP at h
    split at h
    · exact .inr h
    · rcases addP_in l p _ _ x h with h | h
      · exact .inl h
      · rcases List.mem_or_eq_of_mem_set h with h | h
        · exact .inr h
        · exact .inl h
theorem parNs_in : ∀ (ns : Nodes) (i : Nat) (s : List Bool) (o : List Int), ∀ x ∈ (parNs ns i s o).2.2, ((i : Int) ≤ x ∧ x < (i : Int) + ns.length) ∨ x ∈ o
  | [], i, s, o, x, h => .inr h
  | p :: ns, i, s, o, x, h => by
    unfold parNs at h
    split at h
    · exact .inr h
    · have ha := addP_in p.2 i s o
      generalize addP p.2 i s o = t at h ha
      obtain ⟨b, s', o'⟩ := t
      simp only at ha
      have hin : ∀ x ∈ o', ((i : Int) ≤ x ∧ x < (i : Int) + (p :: ns).length) ∨ x ∈ o := fun x hx => by
        rcases ha x hx with h | h
        · refine .inl ⟨by omega, ?_⟩
          rw [List.length_cons]; omega
        · exact .inr h
      cases b with
      | true =>
        simp only at h
        rcases parNs_in ns (i + 1) s' o' x h with h | h
        · refine .inl ?_
          rw [List.length_cons]; omega
        · exact hin x h
      | false =>
        simp only at h
        exact hin x h
/-- what parents hands back -/
def ParPost (ns : Nodes) (rs : List Int) (w : World) (e : Ending) (w' : World) : Prop :=
  ∃ v, e = .returned v ∧ RepR w' (fun g => w.heap.size ≤ g) (RV.tup [RV.d (.sl (parP ns rs).1.length (is (parP ns rs).1)), RV.d (.bool (parP ns rs).2)]) v ∧ Below w.heap.size w w'
theorem par_yes {ns : Nodes} {rs : List Int} {w w' : World} {bo bs go gs : Nat} {o' : List Int} {s' : List Bool} (h : parP ns rs = (o', !s'.contains false)) (hT : SeenAt w' bo bs go gs ns.length o' s') (hb : Below w.heap.size w w') (hg : w.heap.size ≤ go) (hn : ns.length ≤ 100000) (hi : ∀ x ∈ o', inK .i64 x) : ParPost ns rs w (.returned (.tuple #[.slice (some ⟨go, 0, none⟩) ns.length ns.length, .bool (!decide (false ∈ s'))])) w' := by
  refine ⟨_, rfl, ?_, hb⟩
  rw [h]
  refine ⟨_, rfl, ?_, ?_, trivial⟩
  · simp only [RepR, RepD]
    refine ⟨some ⟨go, 0, none⟩, ns.length, by rw [hT.lo], by rw [hT.lo]; exact Nat.le_refl _, by unfold maxLen; omega, fun _ => ⟨go, 0, rfl, hg, ?_⟩⟩
    refine RepCells.of_at fun i d hd => ?_
    have hio : i < o'.length := by
      have := (List.getElem?_eq_some_iff.1 hd).1
      rw [is_length] at this; exact this
    have hd2 : d = .int .i64 o'[i] := by
      simp [is, List.getElem?_map, List.getElem?_eq_getElem hio] at hd
      exact hd.symm
    subst hd2
    refine ⟨.int .i64 o'[i], ?_, ?_⟩
    · rw [Nat.zero_add]
      exact ((hT.see.2.2 i).1 _ (List.getElem?_eq_getElem hio)).1
    · simp only [RepD, true_and]
      exact hi _ (List.getElem_mem hio)
  · simp [RepR, RepD]
theorem par_none {ns : Nodes} {rs : List Int} (h : parP ns rs = ([], false)) {w w' : World} (hb : Below w.heap.size w w') : ParPost ns rs w (.returned (.tuple #[.slice none 0 0, .bool false])) w' := by
  refine ⟨_, rfl, ?_, hb⟩
  rw [h]
  refine ⟨_, rfl, ?_, ?_, trivial⟩
  · simp [RepR, RepD, is]
    exact ⟨none, 0, ⟨rfl, rfl⟩, Nat.zero_le _⟩
  · simp [RepR, RepD]
set_option maxHeartbeats 3200000 in
set_option maxRecDepth 100000 in
theorem tree_parents_walk (ns : Nodes) (hn : ns.length ≤ 100000) (rs : List Int) (hr : rs.length ≤ 9223372036854775807) (An Ar : Option Addr) (cn cr : Nat) (w : World) (gr fr gn fn : Nat) (hAr : 0 < rs.length → Ar = some ⟨gr, fr, none⟩) (hgr : gr ≤ w.heap.size) (hcr : ∀ k (h : k < rs.length), w.cell? ⟨gr, fr + k, none⟩ = some (.int .i64 rs[k]))
    (hAn : 0 < ns.length → An = some ⟨gn, fn, none⟩) (hcn : ∀ k (h : k < ns.length) j (hj : j < 12), w.cell? ⟨gn, fn + (k * 13 + j), none⟩ = some (ns[k].1.vals[j]'(by simp [Oq.vals]; omega)))
    (hkn : ∀ k (h : k < ns.length), ∃ v, w.cell? ⟨gn, fn + (k * 13 + 12), none⟩ = some v ∧ IntsAt w v ns[k].2) :
    Calls Try.prog 21 #[.agg #[.slice An ns.length cn, .slice Ar rs.length cr]] w fun e w' => ParPost ns rs w e w' := by
  go_enter Try.func21, Try.ntmps21
  have mk1 : ∀ W : World, (Instr.makeSlice 22 (.int .i64 ((ns.length : Nat) : Int)) (.int .i64 ((ns.length : Nat) : Int))).run Try.prog W = .ok (.slice (some ⟨W.heap.size, 0, none⟩) ns.length ns.length) (W.alloc (.cells (madeCells #[.int .i64 0] ns.length) 3)) :=
    fun W => run_make_row' _ _ _ 8 under_ints zinfo_int rfl .i64 .i64 ns.length (by omega) (by omega) W
  have mk2 : ∀ W : World, (Instr.makeSlice 56 (.int .i64 ((ns.length : Nat) : Int)) (.int .i64 ((ns.length : Nat) : Int))).run Try.prog W = .ok (.slice (some ⟨W.heap.size, 0, none⟩) ns.length ns.length) (W.alloc (.cells (madeCells #[.bool false] ns.length) 4)) :=
    fun W => run_make_row' _ _ _ 1 under_bools zinfo_bool rfl .i64 .i64 ns.length (by omega) (by omega) W
  have hold : ∀ (o1 o2 o3 o4 o5 : Obj) (k : Nat) (h : k < rs.length), (((((w.alloc o1).alloc o2).alloc o3).alloc o4).alloc o5).cell? ⟨gr, fr + k, none⟩ = some (.int .i64 rs[k]) := fun o1 o2 o3 o4 o5 k h => by
    have hgr := World.block_lt_of_cell? w _ (hcr k h)
    simp only at hgr
    rw [← hcr k h]
    refine World.cell?_of_block (a := ⟨gr, fr + k, none⟩) ?_
    simp only
    rw [heap_alloc_old _ _ (by simp; omega), heap_alloc_old _ _ (by simp; omega), heap_alloc_old _ _ (by simp; omega), heap_alloc_old _ _ (by simp; omega), heap_alloc_old _ _ hgr]
  have hcnU := PLift.up hcn
  have hknU := PLift.up hkn
  clear hcn hkn
  by_cases ha : (addP rs (-1) (List.replicate ns.length false) (List.replicate ns.length 0)).1 = true
  · go_wp2_with (go_at_call 25; refine (add_walk rs hr (-1) Ar cr _ gr fr hAr (hold _ _ _ _ _) _ _ _ _ ns.length _ _ (seen_start w _ ns.length) (by omega) (by omega) (by omega)).mono ?_; rintro e w1 ⟨rfl, hs1, hb1⟩; have tb := (hb1.block w.heap.size (by omega) (by omega)).trans (box_first w _ _ _ _ _); have t0 : w1.cell? ⟨w.heap.size, 0, none⟩ = some (.slice An ns.length cn) := (by simp [World.cell?, tb]); have hb2 := below_but hb1)
    obtain ⟨s1, hs1e⟩ : ∃ s1, (addP rs (-1) (List.replicate ns.length false) (List.replicate ns.length 0)).2.1 = s1 := ⟨_, rfl⟩
    obtain ⟨o1, ho1e⟩ : ∃ o1, (addP rs (-1) (List.replicate ns.length false) (List.replicate ns.length 0)).2.2 = o1 := ⟨_, rfl⟩
    rw [hs1e, ho1e] at hs1
    have hA1 : Aside (addP rs (-1) (List.replicate ns.length false) (List.replicate ns.length 0) = (true, s1, o1)) := by
      show _ = _
      rw [← ha, ← hs1e, ← ho1e]
    clear hs1e ho1e ha
    clear hcr hold
    go_loopg [26] ns.length (fun g s26 wx => ∃ (k : Nat) (o' : List Int) (s' : List Bool), g = ns.length - k ∧ k ≤ ns.length ∧ s26 = .int .i64 k ∧ SeenAt wx (w.heap.size + 1 + 1) (w.heap.size + 1 + 1 + 1 + 1) (w.heap.size + 1) (w.heap.size + 1 + 1 + 1) ns.length o' s' ∧ Below w.heap.size w wx ∧ w.heap.size + 5 ≤ wx.heap.size ∧ parNs (ns.drop k) k s' o' = parNs ns 0 s1 o1)
    case atStart => exact ⟨0, _, _, rfl, Nat.zero_le _, rfl, hs1, hb2.1, hb2.2, rfl⟩
    case round =>
      obtain ⟨k, o', s', hg, hk, rfl, hT, hB, hB5, he⟩ := hrel
      have hAG : Aside (gk = ns.length - k) := hg
      clear hs1 hg hb1 hb2 tb
      by_cases hkl : k < ns.length
      · obtain rfl := hAn (by omega)
        obtain ⟨⟨op, kids⟩, hx⟩ : ∃ x, ns[k] = x := ⟨_, rfl⟩
        have hkz : (k : Int) < (ns.length : Int) := by omega
        have hgb : gn < w.heap.size := block_lt_of_cell (hcnU.down k hkl 0 (by omega))
        have hca : ∀ j (hj : j < 12), wr.cell? ⟨gn, fn + k * 13 + j, none⟩ = some (op.vals[j]'(by simp [Oq.vals]; omega)) := fun j hj => by
          have h2 := hcnU.down k hkl j hj
          simp only [hx] at h2
          rw [Nat.add_assoc, ← h2]
          simp only [World.cell?, hB.block gn hgb]
        have hc0 : wr.cell? ⟨gn, fn + k * 13, none⟩ = some (.int .i64 op.kind) := hca 0 (by decide)
        have hc1 : wr.cell? ⟨gn, fn + k * 13 + 1, none⟩ = some (.int .i64 op.image) := hca 1 (by decide)
        have hc2 : wr.cell? ⟨gn, fn + k * 13 + 2, none⟩ = some (.int .i64 op.x) := hca 2 (by decide)
        have hc3 : wr.cell? ⟨gn, fn + k * 13 + 3, none⟩ = some (.int .i64 op.y) := hca 3 (by decide)
        have hc4 : wr.cell? ⟨gn, fn + k * 13 + 4, none⟩ = some (.int .i64 op.mask) := hca 4 (by decide)
        have hc5 : wr.cell? ⟨gn, fn + k * 13 + 5, none⟩ = some (.int .i64 op.mx) := hca 5 (by decide)
        have hc6 : wr.cell? ⟨gn, fn + k * 13 + 6, none⟩ = some (.int .i64 op.my) := hca 6 (by decide)
        have hc7 : wr.cell? ⟨gn, fn + k * 13 + 7, none⟩ = some (.int .u16 op.opac) := hca 7 (by decide)
        have hc8 : wr.cell? ⟨gn, fn + k * 13 + 8, none⟩ = some (.int .i64 op.oper) := hca 8 (by decide)
        have hc9 : wr.cell? ⟨gn, fn + k * 13 + 9, none⟩ = some (.int .i64 op.mode) := hca 9 (by decide)
        have hc10 : wr.cell? ⟨gn, fn + k * 13 + 10, none⟩ = some (.bool op.iso) := hca 10 (by decide)
        have hc11 : wr.cell? ⟨gn, fn + k * 13 + 11, none⟩ = some (.bool op.kno) := hca 11 (by decide)
        have hk0 := hknU.down k hkl
        rw [hx] at hk0
        simp only at hk0
        obtain ⟨v, hv, Ak, ck, gk', fk, rfl, hAk, hgk, hck, hlk⟩ := hk0
        have hc12 : wr.cell? ⟨gn, fn + k * 13 + 12, none⟩ = some (.slice Ak kids.length ck) := by
          rw [Nat.add_assoc, ← hv]
          simp only [World.cell?, hB.block gn hgb]
        have hxA : Aside (ns[k] = (op, kids)) := hx
        have hckU : ∀ ob, PLift (∀ j (h : j < kids.length), (wr.alloc ob).cell? ⟨gk', fk + j, none⟩ = some (.int .i64 kids[j])) := fun ob => ⟨fun j h => by
          have hgk := World.block_lt_of_cell? w _ (hck j h)
          simp only at hgk
          rw [← hck j h, ← below_cell_old hB hgk]
          exact World.cell?_of_block (a := ⟨gk', fk + j, none⟩) (heap_alloc_old wr ob (show gk' < wr.heap.size by omega))⟩
        clear hck
        have hst : Aside (parNs ns 0 s1 o1 = if ¬(op.kind = 1) ∧ ¬(op.kind = 2) ∨ op.kind = 1 ∧ 0 < kids.length then (false, s', o') else match addP kids k s' o' with
            | (true, s', o') => parNs (ns.drop (k + 1)) (k + 1) s' o'
            | (false, s', o') => (false, s', o')) := by
          show _ = _
          rw [← he, List.drop_eq_getElem_cons hkl, hx]
          rfl
        clear hca he hx hv hAn hAr
        by_cases e1 : op.kind = 1
        · by_cases hkk : 0 < kids.length
          · have hkI : (0 : Int) < (kids.length : Int) := by omega
            go_wp2
            refine bodyPost_ret (v := .tuple #[.slice none 0 0, .bool false]) (by simp [results, Try.results21, go_sem, *]) rfl ?_
            refine par_none ?_ (hB.alloc (by omega) _)
            have := hst.out
            rw [if_pos (.inr ⟨e1, hkk⟩)] at this
            simp only [parP, hA1.out, this]
          · have hkI : ¬(0 : Int) < (kids.length : Int) := by omega
            have hcond : Aside (¬(¬(op.kind = 1) ∧ ¬(op.kind = 2) ∨ op.kind = 1 ∧ 0 < kids.length)) := fun h => by
              rcases h with h | h
              · exact h.1 e1
              · exact hkk h.2
            by_cases hadd : (addP kids k s' o').1 = true
            · go_wp2_with (go_at_call 25; refine (add_walk kids hlk k Ak ck _ gk' fk hAk (hckU _).down _ _ _ _ ns.length _ _ (hT.alloc _) (by omega) (by omega) (by omega)).mono ?_; rintro e w2 ⟨rfl, hs2, hb2⟩)
              go_roundg (ns.length - (k + 1))
              case measure => have := hAG.out; omega
              case rel =>
                obtain ⟨b1, b2⟩ := below_but2 hB hB5 hb2
                refine ⟨k + 1, _, _, rfl, by omega, by simp, hs2, b1, b2, ?_⟩
                rw [hst.out, if_neg hcond.out]
                generalize addP kids k s' o' = t at hadd
                obtain ⟨t1, t2, t3⟩ := t
                simp only at hadd
                subst hadd
                rfl
            · have hadd : (addP kids k s' o').1 = false := by simpa using hadd
              go_wp2_with (go_at_call 25; refine (add_walk kids hlk k Ak ck _ gk' fk hAk (hckU _).down _ _ _ _ ns.length _ _ (hT.alloc _) (by omega) (by omega) (by omega)).mono ?_; rintro e w2 ⟨rfl, hs2, hb2⟩)
              refine bodyPost_ret (v := .tuple #[.slice none 0 0, .bool false]) (by simp [results, Try.results21, go_sem, *]) rfl ?_
              refine par_none ?_ (below_but2 hB hB5 hb2).1
              have := hst.out
              rw [if_neg hcond.out] at this
              generalize addP kids k s' o' = t at hadd this
              obtain ⟨t1, t2, t3⟩ := t
              simp only at hadd
              subst hadd
              simp only at this
              simp only [parP, hA1.out, this]
        · by_cases e2 : op.kind = 2
          · have hcond : Aside (¬(¬(op.kind = 1) ∧ ¬(op.kind = 2) ∨ op.kind = 1 ∧ 0 < kids.length)) := fun h => by
              rcases h with h | h
              · exact h.2 e2
              · exact e1 h.1
            by_cases hadd : (addP kids k s' o').1 = true
            · go_wp2_with (go_at_call 25; refine (add_walk kids hlk k Ak ck _ gk' fk hAk (hckU _).down _ _ _ _ ns.length _ _ (hT.alloc _) (by omega) (by omega) (by omega)).mono ?_; rintro e w2 ⟨rfl, hs2, hb2⟩)
              go_roundg (ns.length - (k + 1))
              case measure => have := hAG.out; omega
              case rel =>
                obtain ⟨b1, b2⟩ := below_but2 hB hB5 hb2
                refine ⟨k + 1, _, _, rfl, by omega, by simp, hs2, b1, b2, ?_⟩
                rw [hst.out, if_neg hcond.out]
                generalize addP kids k s' o' = t at hadd
                obtain ⟨t1, t2, t3⟩ := t
                simp only at hadd
                subst hadd
                rfl
            · have hadd : (addP kids k s' o').1 = false := by simpa using hadd
              go_wp2_with (go_at_call 25; refine (add_walk kids hlk k Ak ck _ gk' fk hAk (hckU _).down _ _ _ _ ns.length _ _ (hT.alloc _) (by omega) (by omega) (by omega)).mono ?_; rintro e w2 ⟨rfl, hs2, hb2⟩)
              refine bodyPost_ret (v := .tuple #[.slice none 0 0, .bool false]) (by simp [results, Try.results21, go_sem, *]) rfl ?_
              refine par_none ?_ (below_but2 hB hB5 hb2).1
              have := hst.out
              rw [if_neg hcond.out] at this
              generalize addP kids k s' o' = t at hadd this
              obtain ⟨t1, t2, t3⟩ := t
              simp only at hadd
              subst hadd
              simp only at this
              simp only [parP, hA1.out, this]
          · have he1 : ¬ (op.kind = 1) := e1
            go_wp2
            refine bodyPost_ret (v := .tuple #[.slice none 0 0, .bool false]) (by simp [results, Try.results21, go_sem, *]) rfl ?_
            refine par_none ?_ (hB.alloc (by omega) _)
            have := hst.out
            rw [if_pos (.inl ⟨e1, e2⟩)] at this
            simp only [parP, hA1.out, this]
      · have : k = ns.length := by omega
        subst this
        rw [List.drop_length] at he
        have heA : Aside ((true, s', o') = parNs ns 0 s1 o1) := he
        have hgs : Aside (∀ n, BoolsAt (wr.drewN n) (w.heap.size + 1 + 1 + 1) 0 s') := fun n j h => by
          have := ((hT.see.2.2 j).2 s'[j] (List.getElem?_eq_getElem h)).1
          rw [Nat.zero_add]
          exact this
        obtain ⟨c0, c1, _⟩ := hT.see
        have hls := hT.ls
        have hlsn : s'.length ≤ 9223372036854775807 := by omega
        have hcon : ∀ n, Calls Try.prog 26 #[.slice (some ⟨w.heap.size + 1 + 1 + 1, 0, none⟩) ns.length ns.length, .bool false] (wr.drewN n) fun e w' => e = .returned (.bool (s'.contains false)) ∧ w' = wr.drewN n := fun n => by
          have := contains_walk s' hlsn false (some ⟨w.heap.size + 1 + 1 + 1, 0, none⟩) ns.length (wr.drewN n) (w.heap.size + 1 + 1 + 1) 0 (fun _ => rfl) (hgs.out n)
          rw [hls] at this
          exact this
        have hconU := PLift.up hcon
        clear hcon he hls hcnU hknU
        go_wp2
        go_quiet ((go_at_call 26; exact Calls.quiet_of_same (hconU.down _)))
        go_wp2
        refine bodyPost_ret (v := .tuple #[.slice (some ⟨w.heap.size + 1, 0, none⟩) ns.length ns.length, .bool (!decide (false ∈ s'))]) (by simp [results, Try.results21, go_sem, *]) rfl ?_
        refine par_yes (s' := s') ?_ ⟨hT.co, hT.cs, hT.ro, hT.rs, hT.lo, hT.ls, hT.ne⟩ ⟨hB.os, hB.tape, hB.output, hB.size, hB.block⟩ (by omega) hn (fun x hx => ?_)
        · simp only [parP, hA1.out, ← heA.out]
        · have h1 := parNs_in ns 0 s1 o1 x (by rw [← heA.out]; exact hx)
          have h2 := addP_in rs (-1) (List.replicate ns.length false) (List.replicate ns.length 0)
          rw [hA1.out] at h2
          have h3 : -1 ≤ x ∧ x < 100001 := by
            rcases h1 with h1 | h1
            · omega
            · rcases h2 x h1 with h2 | h2
              · omega
              · have := List.eq_of_mem_replicate h2
                omega
          rw [inK_iff]
          have h4 : IntKind.min .i64 = -9223372036854775808 := by decide
          have h5 : IntKind.max .i64 = 9223372036854775807 := by decide
          omega
  · have ha : (addP rs (-1) (List.replicate ns.length false) (List.replicate ns.length 0)).1 = false := by simpa using ha
    go_wp2_with (go_at_call 25; refine (add_walk rs hr (-1) Ar cr _ gr fr hAr (hold _ _ _ _ _) _ _ _ _ ns.length _ _ (seen_start w _ ns.length) (by omega) (by omega) (by omega)).mono ?_; rintro e w1 ⟨rfl, hs1, hb1⟩; have tb := (hb1.block w.heap.size (by omega) (by omega)).trans (box_first w _ _ _ _ _); have t0 : w1.cell? ⟨w.heap.size, 0, none⟩ = some (.slice An ns.length cn) := (by simp [World.cell?, tb]); have hb2 := below_but hb1)
    refine bodyPost_ret (v := .tuple #[.slice none 0 0, .bool false]) (by simp [results, Try.results21, go_sem, *]) rfl ?_
    refine par_none ?_ hb2.1
    unfold parP
    generalize addP rs (-1) (List.replicate ns.length false) (List.replicate ns.length 0) = t at ha
    obtain ⟨t1, t2, t3⟩ := t
    simp only at ha
    subst ha
    rfl
/-
  Parents of a forest: what they answer.
-/
theorem ints_arg {w : World} {S : Nat → Prop} {l : List Int} {v : Value} (h : RepD w S (.sl l.length (is l)) v) : ∃ A cap g f, v = .slice A l.length cap ∧ (0 < l.length → A = some ⟨g, f, none⟩ ∧ g < w.heap.size) ∧ (∀ k (h : k < l.length), w.cell? ⟨g, f + k, none⟩ = some (.int .i64 l[k])) ∧ l.length ≤ 9223372036854775807 := by
  simp only [RepD] at h
  obtain ⟨A, cap, rfl, h1, h2, hc⟩ := h
  have hl : l.length ≤ 9223372036854775807 := by unfold maxLen at h2; omega
  by_cases hl0 : l = []
  · subst hl0
    exact ⟨A, cap, 0, 0, rfl, fun h => absurd h (by simp), fun k h => absurd h (by simp), by simp⟩
  · obtain ⟨g, off, hA, _, hr⟩ := hc fun e => hl0 (List.eq_nil_of_length_eq_zero (by have := is_length l; rw [e] at this; simpa using this.symm))
    have hcell : ∀ k (h : k < l.length), w.cell? ⟨g, off + k, none⟩ = some (.int .i64 l[k]) := fun k hk => by
      obtain ⟨u, hu, hd⟩ := hr.at_ k (.int .i64 l[k]) (by simp [is, List.getElem?_map, List.getElem?_eq_getElem hk])
      simp only [RepD] at hd
      rw [hu, hd.1]
    refine ⟨A, cap, g, off, rfl, fun h => ⟨hA, ?_⟩, hcell, hl⟩
    exact World.block_lt_of_cell? w _ (hcell 0 h)
theorem nodes_arg {w : World} {S : Nat → Prop} {ns : Nodes} {v : Value} (h : RepD w S (.sl ns.length (nodesD ns)) v) : ∃ A cap g f, v = .slice A ns.length cap ∧ (0 < ns.length → A = some ⟨g, f, none⟩) ∧ (∀ k (h : k < ns.length) j (hj : j < 12), w.cell? ⟨g, f + (k * 13 + j), none⟩ = some (ns[k].1.vals[j]'(by simp [Oq.vals]; omega))) ∧ ∀ k (h : k < ns.length), ∃ v, w.cell? ⟨g, f + (k * 13 + 12), none⟩ = some v ∧ RepD w S (.sl ns[k].2.length (is ns[k].2)) v := by
  simp only [RepD] at h
  obtain ⟨A, cap, rfl, _, _, hc⟩ := h
  by_cases hl : ns = []
  · subst hl
    exact ⟨A, cap, 0, 0, rfl, fun h => absurd h (by simp), fun k h => absurd h (by simp), fun k h => absurd h (by simp)⟩
  · obtain ⟨g, off, hA, _, hr⟩ := hc fun e => hl (List.eq_nil_of_length_eq_zero (by have := nodesD_len ns; rw [e] at this; simp only [List.length_nil] at this; omega))
    refine ⟨A, cap, g, off, rfl, fun _ => hA, fun k hk j hj => ?_, fun k hk => ?_⟩
    · have e : (nodesD ns)[k * 13 + j]? = some (ns[k].1.cells[j]'(by simp [Oq.cells]; omega)) := by
        rw [nodesD_get hk j (by omega), nodeD, List.getElem?_append_left (by simp [Oq.cells]; omega), List.getElem?_eq_getElem]
      obtain ⟨u, hu, hd⟩ := hr.at_ _ _ e
      rw [hu, cell_val j hj hd]
    · have e : (nodesD ns)[k * 13 + 12]? = some (DV.sl ns[k].2.length (is ns[k].2)) := by
        rw [nodesD_get hk 12 (by omega), nodeD, List.getElem?_append_right (by simp [Oq.cells])]
        rfl
      obtain ⟨u, hu, hd⟩ := hr.at_ _ _ e
      exact ⟨u, hu, hd⟩
theorem tree_parents_ans (ns : Nodes) (rs : List Int) (hn : ns.length ≤ 100000) : Ans Try.prog 21 [RV.agg (treeD ns rs)] (RV.tup [RV.d (.sl (parP ns rs).1.length (is (parP ns rs).1)), RV.d (.bool (parP ns rs).2)]) := by
  intro w S vs hG hR
  obtain ⟨vs⟩ := vs
  match vs, hR with
  | [v], hR =>
    simp only [RepRs, RepR, treeD] at hR
    obtain ⟨⟨us, rfl, hu⟩, _⟩ := hR
    obtain ⟨us⟩ := us
    match us, hu with
    | [a, b], hu =>
      simp only [RepDs] at hu
      obtain ⟨An, cn, gn, fn, rfl, hAn, hcn, hkn⟩ := nodes_arg hu.1
      obtain ⟨Ar, cr, gr, fr, rfl, hAr, hcr, hlr⟩ := ints_arg hu.2.1
      obtain ⟨gr', fr', hAr', hgr', hcr'⟩ : ∃ g f, (0 < rs.length → Ar = some ⟨g, f, none⟩) ∧ g ≤ w.heap.size ∧ ∀ k (h : k < rs.length), w.cell? ⟨g, f + k, none⟩ = some (.int .i64 rs[k]) := by
        by_cases h0 : 0 < rs.length
        · exact ⟨gr, fr, fun h => (hAr h).1, Nat.le_of_lt (hAr h0).2, hcr⟩
        · exact ⟨w.heap.size, 0, fun h => absurd h h0, Nat.le_refl _, fun k h => absurd h (by omega)⟩
      refine (tree_parents_walk ns hn rs hlr An Ar cn cr w gr' fr' gn fn hAr' hgr' hcr' hAn hcn fun k hk => ?_).mono fun e w' h => ?_
      · obtain ⟨v, hv, hd⟩ := hkn k hk
        obtain ⟨A, c, g, f, rfl, h1, h2, h3⟩ := ints_arg hd
        refine ⟨_, hv, ?_⟩
        by_cases h0 : 0 < ns[k].2.length
        · exact ⟨A, c, g, f, rfl, fun h => (h1 h).1, Nat.le_of_lt (h1 h0).2, h2, h3⟩
        · exact ⟨A, c, w.heap.size, 0, rfl, fun h => absurd h h0, Nat.le_refl _, fun k h => absurd h (by omega), h3⟩
      · obtain ⟨v, h1, h2, h3⟩ := h
        exact ⟨v, h1, h2.keep fun g off u hg hu => ⟨.inr hg, hu⟩, h3⟩
/-
  How an argument lies in memory, said of its cells by its type: what reading it as data tells (no program is named).
-/
open Go.RowKit Go.ChangeShapes Go.WideShapes
def Rd (P : Program) (w : World) : Nat → TypeId → List Value → Prop
  | 0, _, _ => False
  | fuel + 1, t, cs =>
    match P.underlying t with
    | some .bool => ∃ b, cs = [.bool b]
    | some (.int k) => ∃ n, cs = [.int k n] ∧ (Lit.int k n).wf = true
    | some .string => ∃ s, cs = [.string s] ∧ s.size ≤ reachBytes
    | some (.slice e) => cs = [.slice none 0 0] ∨ ∃ a len cap, cs = [.slice (some a) len cap] ∧ len ≤ cap ∧ cap ≤ maxLen ∧ cap * P.bytesOf e ≤ reachBytes ∧
        ∀ i, i < cap → ∃ cs', w.cells? 0 (a.add (i * P.cellsOf e)) (P.cellsOf e) = some cs' ∧ Rd P w fuel e cs'
    | some (.struct fs) => cs.length = P.cellsOf t ∧ ∀ f ∈ fs.toList, Rd P w fuel f.type ((cs.drop f.offset).take (P.cellsOf f.type))
    | some (.array n e) => cs.length = P.cellsOf t ∧ ∀ i, i < n → Rd P w fuel e ((cs.drop (i * P.cellsOf e)).take (P.cellsOf e))
    | _ => True
section
variable {H : Type} {enc : TypeId × Value → H} {P : Program} {w : World}
theorem weightsAll_of {e : TypeId} {n : Nat} : ∀ {l : List (DataW H)} {d : DataW H}, d ∈ l → n ∈ d.weights P e → n ∈ DataW.weightsAll P e l
  | x :: r, d, hd, hn => by
    simp only [DataW.weightsAll, List.mem_append]
    rcases List.mem_cons.1 hd with rfl | h
    · exact .inl hn
    · exact .inr (weightsAll_of h hn)
theorem weightsEach_of {n : Nat} : ∀ {ts : List TypeId} {ds : List (DataW H)} {i : Nat} {t : TypeId} {d : DataW H}, ts[i]? = some t → ds[i]? = some d → n ∈ d.weights P t → n ∈ DataW.weightsEach P ts ds
  | t :: ts, d :: ds, 0, _, _, ht, hd, hn => by
    simp at ht hd; subst ht hd
    simp only [DataW.weightsEach, List.mem_append]
    exact .inl hn
  | t :: ts, d :: ds, i + 1, _, _, ht, hd, hn => by
    simp only [DataW.weightsEach, List.mem_append]
    exact .inr (weightsEach_of (by simpa using ht) (by simpa using hd) hn)
  | [], _, _, _, _, ht, _, _ => by simp at ht
  | _ :: _, [], _, _, _, _, hd, _ => by simp at hd
theorem rd_of_trod : ∀ (fuel : Nat) (t : TypeId) (cs : List Value) (d : DataW H) (ps : List MemPlace),
    DataW.trod enc P w 0 (fun _ => true) true fuel t cs = some (d, ps) → (∀ n ∈ d.weights P t, n ≤ reachBytes) → Rd P w fuel t cs := by
  intro fuel
  induction fuel with
  | zero => intro t cs d ps h; simp [DataW.trod] at h
  | succ fuel ih =>
    intro t cs d ps h hw
    unfold DataW.trod at h
    unfold Rd
    split at h
    · rename_i b hu; simp only [hu]; exact ⟨_, rfl⟩
    · rename_i k k' n hu
      simp only [hu]
      split at h
      · rename_i hk; obtain ⟨rfl, hwf⟩ := hk; exact ⟨_, rfl, hwf⟩
      · cases h
    · rename_i hu; simp only [hu]
    · rename_i s hu
      simp only [hu]
      split at h
      · simp only [Option.some.injEq, Prod.mk.injEq] at h
        obtain ⟨rfl, _⟩ := h
        exact ⟨_, rfl, by have := hw s.data.toList.length (List.mem_singleton.2 rfl); rw [Array.length_toList] at this; exact this⟩
      · cases h
    · rename_i hu; simp only [hu]
    · rename_i hu; simp only [hu]
    · rename_i hu; simp only [hu]; exact .inl trivial
    · rename_i e a len cap hu
      simp only [hu]
      split at h
      · rename_i hc
        obtain ⟨_, hl, hm⟩ := hc
        simp only [if_true] at h
        obtain ⟨elems, he, h⟩ := Option.bind_eq_some_iff.1 h
        obtain ⟨rest, hr, h⟩ := Option.map_eq_some_iff.1 h
        simp only [Prod.mk.injEq] at h
        obtain ⟨rfl, _⟩ := h
        have le := mapM_some_length he
        have lr := mapM_some_length hr
        simp only [List.length_range] at le lr
        have hwt : DataW.weights P t (.slice (elems.map (·.1)) (rest.map (·.1))) = ((elems.map (·.1)).length + (rest.map (·.1)).length) * P.bytesOf e :: (DataW.weightsAll P e (elems.map (·.1)) ++ DataW.weightsAll P e (rest.map (·.1))) := by
          simp only [DataW.weights, hu]
        rw [hwt] at hw
        refine .inr ⟨a, len, cap, rfl, hl, hm, ?_, ?_⟩
        · have := hw _ (.head _)
          simp only [List.length_map, le, lr] at this
          rwa [show len + (cap - len) = cap from by omega] at this
        · have key : ∀ (i : Nat) (x : DataW H × List MemPlace), ((w.cells? 0 (a.add (i * P.cellsOf e)) (P.cellsOf e)).bind (DataW.trod enc P w 0 (fun _ => true) true fuel e)) = some x → (∀ n ∈ x.1.weights P e, n ≤ reachBytes) →
              ∃ cs', w.cells? 0 (a.add (i * P.cellsOf e)) (P.cellsOf e) = some cs' ∧ Rd P w fuel e cs' := by
            intro i x hx hxw
            obtain ⟨cs', h1, h2⟩ := Option.bind_eq_some_iff.1 hx
            exact ⟨cs', h1, ih e cs' x.1 x.2 h2 hxw⟩
          intro i hi
          rcases Nat.lt_or_ge i len with hlt | hge
          · have hx : elems[i]? = some (elems[i]'(by omega)) := List.getElem?_eq_getElem (by omega)
            have h1 := mapM_some_get he i i (by simp [hlt])
            rw [hx] at h1
            refine key i _ h1 fun n hn => hw n (.tail _ (List.mem_append.2 (.inl (weightsAll_of (List.mem_map.2 ⟨_, List.getElem_mem (by omega), rfl⟩) hn))))
          · have hx : rest[i - len]? = some (rest[i - len]'(by omega)) := List.getElem?_eq_getElem (by omega)
            have h1 := mapM_some_get hr (i - len) (i - len) (List.getElem?_range (by omega))
            rw [hx, show len + (i - len) = i from by omega] at h1
            refine key i _ h1 fun n hn => hw n (.tail _ (List.mem_append.2 (.inr (weightsAll_of (List.mem_map.2 ⟨_, List.getElem_mem (by omega), rfl⟩) hn))))
      · cases h
    · rename_i fs hu
      simp only [hu]
      split at h
      · rename_i hlen
        obtain ⟨xs, hxs, h⟩ := Option.map_eq_some_iff.1 h
        simp only [Prod.mk.injEq] at h
        obtain ⟨rfl, _⟩ := h
        refine ⟨hlen, fun f hf => ?_⟩
        obtain ⟨i, hi, rfl⟩ := List.getElem_of_mem hf
        have hl := mapM_some_length hxs
        have hx : xs[i]? = some (xs[i]'(by omega)) := List.getElem?_eq_getElem (by omega)
        have h1 := mapM_some_get hxs i _ (List.getElem?_eq_getElem hi)
        rw [hx] at h1
        refine ih _ _ _ _ h1 fun n hn => hw n ?_
        simp only [DataW.weights, hu]
        exact weightsEach_of (i := i) (by rw [List.getElem?_map, List.getElem?_eq_getElem hi]; rfl) (by rw [List.getElem?_map, hx]; rfl) hn
      · cases h
    · rename_i n e hu
      simp only [hu]
      split at h
      · rename_i hlen
        obtain ⟨xs, hxs, h⟩ := Option.map_eq_some_iff.1 h
        simp only [Prod.mk.injEq] at h
        obtain ⟨rfl, _⟩ := h
        refine ⟨hlen, fun i hi => ?_⟩
        have hl := mapM_some_length hxs
        simp only [List.length_range] at hl
        have hx : xs[i]? = some (xs[i]'(by omega)) := List.getElem?_eq_getElem (by omega)
        have h1 := mapM_some_get hxs i i (by simp [hi])
        rw [hx] at h1
        refine ih _ _ _ _ h1 fun n hn => hw n ?_
        simp only [DataW.weights, hu]
        exact weightsAll_of (List.mem_map.2 ⟨_, List.getElem_mem (by omega), rfl⟩) hn
      · cases h
    all_goals first | (cases h; done) | (rename_i hu; simp only [hu])
end
/-! ### what a law's walk is told of its arguments -/
def Arg (P : Program) (w : World) (t : TypeId) (v : Value) : Prop :=
  (∃ fuel, Rd P w fuel t v.cells.toList) ∧
    match P.underlying t with
    | some (.struct _) | some (.array _ _) => ∃ cs, v = .agg cs
    | _ => v.cells = #[v]
def Args (P : Program) (w : World) : List TypeId → List Value → Prop
  | [], [] => True
  | t :: ts, v :: vs => Arg P w t v ∧ Args P w ts vs
  | _, _ => False
theorem cells_of_okWide {P : Program} {w : World} {r : Reach} {base : Nat} {t : TypeId} {v : Value} (h : Value.okWide P w r base t v) :
    match P.underlying t with
    | some (.struct _) | some (.array _ _) => ∃ cs, v = .agg cs
    | _ => v.cells = #[v] := by
  unfold Value.okWide at h
  split
  · rename_i hu
    simp only [hu] at h
    obtain ⟨cs, rfl, _⟩ := h
    exact ⟨_, rfl⟩
  · rename_i hu
    simp only [hu] at h
    obtain ⟨cs, rfl, _⟩ := h
    exact ⟨_, rfl⟩
  · rename_i h1 h2
    have h' : Cell.okWide P w r base t v := by
      split at h
      · rename_i hu; exact absurd hu (by intro e; exact h1 _ e)
      · rename_i hu; exact absurd hu (by intro e; exact h2 _ _ e)
      · exact h
    cases v with
    | agg cs =>
      exfalso
      unfold Cell.okWide at h'
      split at h' <;> first | (rename_i hv; cases hv; done) | skip
      unfold Cell.ok at h'
      split at h' <;> first | (rename_i hv; cases hv; done) | exact h'
    | _ => rfl
section
variable {H : Type} {enc : TypeId × Value → H}
theorem args_of_trodAll {P : Program} {w : World} : ∀ {ts : List TypeId} {vs : List Value} {ds : List (DataW H)} {ps : List MemPlace}, DataW.TrodAll enc P w 0 (fun _ => true) true ts vs ds ps →
    (∀ n ∈ DataW.weightsEach P ts ds, n ≤ reachBytes) →
    (∀ (j : Nat) t v, ts[j]? = some t → vs[j]? = some v → match P.underlying t with | some (.struct _) | some (.array _ _) => ∃ cs, v = .agg cs | _ => v.cells = #[v]) → Args P w ts vs ∧ ds.length = ts.length
  | [], [], [], _, _, _, _ => ⟨trivial, rfl⟩
  | t :: ts, v :: vs, d :: ds, _, h, hw, hv => by
    obtain ⟨p, q, ⟨fuel, hf⟩, hr, _⟩ := h
    have hrest := args_of_trodAll hr (fun n hn => hw n (by simp only [DataW.weightsEach, List.mem_append]; exact .inr hn)) (fun j t v ht hv' => hv (j + 1) t v (by simpa using ht) (by simpa using hv'))
    exact ⟨⟨⟨⟨fuel, rd_of_trod fuel t _ d p hf (fun n hn => hw n (by simp only [DataW.weightsEach, List.mem_append]; exact .inl hn))⟩, hv 0 t v rfl rfl⟩, hrest.1⟩, by simp [hrest.2]⟩
  | [], [], _ :: _, _, h, _, _ => h.elim
  | [], _ :: _, _, _, h, _, _ => h.elim
  | _ :: _, [], _, _, h, _, _ => h.elim
  | _ :: _, _ :: _, [], _, h, _, _ => h.elim
theorem trodAll_below {P : Program} (laid : laidOutB P = true) {W W' : World} (hb : Below W.heap.size W W') : ∀ {ts : List TypeId} {vs : List Value} {ds : List (DataW H)} {ps : List MemPlace},
    (∀ t ∈ ts, P.readableRec t = true ∧ t < P.types.size) → DataW.TrodAll enc P W 0 (fun _ => true) true ts vs ds ps → DataW.TrodAll enc P W' 0 (fun b => decide (b < W.heap.size)) true ts vs ds ps
  | [], [], [], _, _, h => h
  | t :: ts, v :: vs, d :: ds, _, hr, h => by
    obtain ⟨p, q, hd, hrest, rfl⟩ := h
    have hlt : ∀ x ∈ p, x.block < W.heap.size := by obtain ⟨m, hm⟩ := hd; exact DataW.trod_lt m _ _ _ hm
    exact ⟨p, q, Below.trod laid (hr t (.head _)).1 (hr t (.head _)).2 hd hb hlt, trodAll_below laid hb (fun t' ht' => hr t' (.tail _ ht')) hrest, rfl⟩
  | [], [], _ :: _, _, _, h => h.elim
  | [], _ :: _, _, _, _, h => h.elim
  | _ :: _, [], _, _, _, h => h.elim
  | _ :: _, _ :: _, [], _, _, h => h.elim
/-- FROM A LAW's WALK TO ITS ROW: whatever the parameters are. -/
theorem law_lift {C : Checked} {os : Os} {f : FuncId} {fn : Func} {s : ChangeSpec} {tb : TypeId}
    (own : ownKnob C.prog.godebug = none) (started : os.Started) (noInit : C.prog.inits.idxOf? f = none) (hfn : C.prog.funcs[f]? = some fn)
    (witness : ∃ (w : World) (tape : Tape) (i : Input), w.os = os ∧ (w.forCall tape i).Shaped C.prog ∧ i.vars = [] ∧ Input.okWide C.prog (w.forCall tape i) .any w.heap.size f i ∧
      s.pre6 enc C.prog fn [] false (w.forCall tape i).memory i.args ∧ ({} : Assume).holds C.prog (lone (Frame.enter C.prog f i.args .normal) [] (w.forCall tape i)))
    (hspec : ∀ ds : List (DataW H), ds.length = fn.params.toList.length → s.fn H ds = { results := [.lit (.bool true)], args := ds }) (hvars : s.vars = [])
    (hres : fn.resultTypes = #[tb]) (hb : C.prog.underlying tb = some .bool) (laid : laidOutB C.prog = true)
    (hread : ∀ t ∈ fn.params.toList, C.prog.readableRec t = true ∧ t < C.prog.types.size)
    (walk : ∀ (W : World) (args : Array Value), Args C.prog W fn.params.toList args.toList → Calls C.prog f args W fun e W' => e = .returned (.bool true) ∧ Below W.heap.size W W') :
    ReturnsInHanded {} C os f .any (s.pre6 enc C.prog fn [] false) (s.post enc C.prog fn false true false false) := by
  refine returnsInHanded_of_change_sized own started noInit hfn witness ?_
  intro W base args ds gs before hval hW _ hsz _
  have hW' := hW
  obtain ⟨p, q, hA, hV, rfl, _, _⟩ := hW
  rw [hvars] at hV
  obtain ⟨rfl, rfl⟩ := trodVars_none hV
  have hvt : s.plain.varTypes C.prog = [] := by simp [ChangeSpec.plain, DataSpec.varTypes, hvars]
  rw [hvt, List.append_nil, List.append_nil] at hsz
  obtain ⟨ha, hlen⟩ := args_of_trodAll hA (fun n hn => by simpa using List.all_eq_true.1 hsz n hn) (fun j t v ht hv => cells_of_okWide (hval j t v (by simpa using ht) (by simpa using hv)))
  refine (walk W args ha).mono fun e W' ⟨he, bel⟩ => ?_
  subst he
  have hs := hspec ds hlen
  refine ⟨_, rfl, ds, [], p ++ [], [], p, [], hW', ?_, ?_, ?_, bel.frame _, fun h => by cases h⟩
  · rw [List.append_nil, hs, hres]
    exact trodAll_mk1 (shut_bool hb _)
  · rw [List.append_nil, hs]
    exact trodAll_below laid bel hread hA
  · rw [List.append_nil, hs, hvars]
    rfl
end
/-! ### opening by the type -/
section
variable {P : Program} {w : World} {fuel : Nat} {t : TypeId} {cs : List Value}
theorem Rd.int {k : IntKind} (hu : P.underlying t = some (.int k)) (h : Rd P w fuel t cs) : ∃ n, cs = [.int k n] ∧ (Lit.int k n).wf = true := by
  cases fuel with
  | zero => exact h.elim
  | succ fuel => unfold Rd at h; simp only [hu] at h; exact h
theorem Rd.bool (hu : P.underlying t = some .bool) (h : Rd P w fuel t cs) : ∃ b, cs = [.bool b] := by
  cases fuel with
  | zero => exact h.elim
  | succ fuel => unfold Rd at h; simp only [hu] at h; exact h
theorem Rd.str (hu : P.underlying t = some .string) (h : Rd P w fuel t cs) : ∃ s, cs = [.string s] ∧ s.size ≤ reachBytes := by
  cases fuel with
  | zero => exact h.elim
  | succ fuel => unfold Rd at h; simp only [hu] at h; exact h
theorem Rd.slice {e : TypeId} (hu : P.underlying t = some (.slice e)) (h : Rd P w fuel t cs) :
    cs = [.slice none 0 0] ∨ ∃ a len cap, cs = [.slice (some a) len cap] ∧ len ≤ cap ∧ cap ≤ maxLen ∧ cap * P.bytesOf e ≤ reachBytes ∧
        ∀ i, i < cap → ∃ cs', w.cells? 0 (a.add (i * P.cellsOf e)) (P.cellsOf e) = some cs' ∧ ∃ fuel, Rd P w fuel e cs' := by
  cases fuel with
  | zero => exact h.elim
  | succ fuel =>
    unfold Rd at h; simp only [hu] at h
    rcases h with h | ⟨a, len, cap, h1, h2, h3, h4, h5⟩
    · exact .inl h
    · exact .inr ⟨a, len, cap, h1, h2, h3, h4, fun i hi => let ⟨cs', a1, a2⟩ := h5 i hi; ⟨cs', a1, fuel, a2⟩⟩
theorem Rd.struct {fs : Array Field} (hu : P.underlying t = some (.struct fs)) (h : Rd P w fuel t cs) :
    cs.length = P.cellsOf t ∧ ∀ f ∈ fs.toList, ∃ fuel, Rd P w fuel f.type ((cs.drop f.offset).take (P.cellsOf f.type)) := by
  cases fuel with
  | zero => exact h.elim
  | succ fuel =>
    unfold Rd at h; simp only [hu] at h
    exact ⟨h.1, fun f hf => ⟨fuel, h.2 f hf⟩⟩
theorem Rd.array {e : TypeId} {n : Nat} (hu : P.underlying t = some (.array n e)) (h : Rd P w fuel t cs) :
    cs.length = P.cellsOf t ∧ ∀ i, i < n → ∃ fuel, Rd P w fuel e ((cs.drop (i * P.cellsOf e)).take (P.cellsOf e)) := by
  cases fuel with
  | zero => exact h.elim
  | succ fuel =>
    unfold Rd at h; simp only [hu] at h
    exact ⟨h.1, fun i hi => ⟨fuel, h.2 i hi⟩⟩
end
/-! ### a struct's or an array's cells, one by one -/
def leavesOf (P : Program) (f : TypeId → Option (List TypeId)) : List Field → Nat → Option (List TypeId)
  | [], _ => some []
  | fd :: r, off => (f fd.type).bind fun l => if fd.offset = off ∧ P.cellsOf fd.type = l.length then (leavesOf P f r (off + l.length)).map (l ++ ·) else none
def leaves (P : Program) : Nat → TypeId → Option (List TypeId)
  | 0, _ => none
  | k + 1, t =>
    match P.underlying t with
    | some (.struct fs) => leavesOf P (leaves P k) fs.toList 0
    | some (.array n e) => (leaves P k e).bind fun l => if P.cellsOf e = l.length then some (List.replicate n l).flatten else none
    | some .bool | some (.int _) | some .string | some (.slice _) => some [t]
    | _ => none
section
variable {P : Program} {w : World}
theorem leavesOf_at {f : TypeId → Option (List TypeId)} {cs : List Value}
    (hf : ∀ (t : TypeId) (ts : List TypeId) (fuel : Nat) (cs : List Value), f t = some ts → Rd P w fuel t cs → ∀ (i : Nat) (t' : TypeId), ts[i]? = some t' → ∃ c g, cs[i]? = some c ∧ Rd P w g t' [c]) :
    ∀ (fs : List Field) (off : Nat) (ts : List TypeId), leavesOf P f fs off = some ts → (∀ fd ∈ fs, ∃ fuel, Rd P w fuel fd.type ((cs.drop fd.offset).take (P.cellsOf fd.type))) →
    ∀ (i : Nat) (t' : TypeId), ts[i]? = some t' → ∃ c g, cs[off + i]? = some c ∧ Rd P w g t' [c]
  | [], _, ts, h, _, i, t', hi => by simp [leavesOf] at h; subst h; simp at hi
  | fd :: r, off, ts, h, hr, i, t', hi => by
    unfold leavesOf at h
    obtain ⟨l, hl, h⟩ := Option.bind_eq_some_iff.1 h
    split at h
    · rename_i hc
      obtain ⟨ho, hn⟩ := hc
      obtain ⟨ts', hts, h⟩ := Option.map_eq_some_iff.1 h
      subst h
      rcases Nat.lt_or_ge i l.length with hlt | hge
      · rw [List.getElem?_append_left hlt] at hi
        obtain ⟨fuel, hrd⟩ := hr fd (.head _)
        obtain ⟨c, g, h1, h2⟩ := hf fd.type l fuel _ hl hrd i t' hi
        refine ⟨c, g, ?_, h2⟩
        rw [List.getElem?_take, if_pos (by omega), List.getElem?_drop, ho] at h1
        exact h1
      · rw [List.getElem?_append_right hge] at hi
        obtain ⟨c, g, h1, h2⟩ := leavesOf_at hf r (off + l.length) ts' hts (fun fd' h' => hr fd' (.tail _ h')) (i - l.length) t' hi
        exact ⟨c, g, by rw [← h1]; congr 1; omega, h2⟩
    · cases h
theorem flatten_at {l : List TypeId} (hl : 0 < l.length) : ∀ (n i : Nat) (t : TypeId), (List.replicate n l).flatten[i]? = some t → i / l.length < n ∧ l[i % l.length]? = some t
  | 0, i, t, h => by simp at h
  | n + 1, i, t, h => by
    rw [List.replicate_succ, List.flatten_cons] at h
    rcases Nat.lt_or_ge i l.length with hlt | hge
    · rw [List.getElem?_append_left hlt] at h
      rw [Nat.div_eq_of_lt hlt, Nat.mod_eq_of_lt hlt]
      exact ⟨by omega, h⟩
    · rw [List.getElem?_append_right hge] at h
      obtain ⟨h1, h2⟩ := flatten_at hl n (i - l.length) t h
      have e : i = (i - l.length) + l.length := by omega
      rw [e, Nat.add_div_right _ hl, Nat.add_mod_right]
      exact ⟨by omega, h2⟩
theorem rd_leaves : ∀ (k : Nat) (t : TypeId) (ts : List TypeId) (fuel : Nat) (cs : List Value), leaves P k t = some ts → Rd P w fuel t cs →
    ∀ (i : Nat) (t' : TypeId), ts[i]? = some t' → ∃ c g, cs[i]? = some c ∧ Rd P w g t' [c]
  | 0, _, _, _, _, h, _, _, _, _ => by simp [leaves] at h
  | k + 1, t, ts, fuel, cs, h, hr, i, t', hi => by
    unfold leaves at h
    split at h
    · rename_i fs hu
      obtain ⟨_, hfs⟩ := hr.struct hu
      have := leavesOf_at (fun t ts fuel cs h hr => rd_leaves k t ts fuel cs h hr) fs.toList 0 ts h hfs i t' hi
      simpa using this
    · rename_i n e hu
      obtain ⟨l, hl, h⟩ := Option.bind_eq_some_iff.1 h
      split at h
      · rename_i hc
        simp only [Option.some.injEq] at h
        subst h
        obtain ⟨_, hel⟩ := hr.array hu
        rcases Nat.eq_zero_or_pos l.length with h0 | hpos
        · have : l = [] := List.eq_nil_of_length_eq_zero h0
          subst this; simp at hi
        · obtain ⟨h1, h2⟩ := flatten_at hpos n i t' hi
          obtain ⟨fuel', hrd⟩ := hel (i / l.length) h1
          obtain ⟨c, g, h3, h4⟩ := rd_leaves k e l fuel' _ hl hrd (i % l.length) t' h2
          refine ⟨c, g, ?_, h4⟩
          rw [List.getElem?_take, if_pos (by rw [hc]; exact Nat.mod_lt _ hpos), List.getElem?_drop, hc, Nat.mul_comm, Nat.div_add_mod] at h3
          exact h3
      · cases h
    all_goals first | (cases h; done) | skip
    all_goals
      rename_i hu
      simp only [Option.some.injEq] at h
      subst h
      match i, hi with
      | 0, hi =>
        simp only [List.getElem?_cons_zero, Option.some.injEq] at hi
        subst hi
        first
        | (obtain ⟨b, rfl⟩ := hr.bool hu; exact ⟨_, fuel, rfl, hr⟩)
        | (obtain ⟨b, rfl, _⟩ := hr.int hu; exact ⟨_, fuel, rfl, hr⟩)
        | (obtain ⟨b, rfl, _⟩ := hr.str hu; exact ⟨_, fuel, rfl, hr⟩)
        | (rcases hr.slice hu with h | ⟨a, len, cap, h, _⟩
           · subst h; exact ⟨_, fuel, rfl, hr⟩
           · subst h; exact ⟨_, fuel, rfl, hr⟩)
      | i + 1, hi => simp at hi
theorem Rd.leaf {k : Nat} {t : TypeId} {ts : List TypeId} {fuel : Nat} {cs : List Value} (h : Rd P w fuel t cs) (hl : leaves P k t = some ts) (i : Nat) {t' : TypeId} (ht : ts[i]? = some t') {c : Value} (hc : cs[i]? = some c) :
    ∃ g, Rd P w g t' [c] := by
  obtain ⟨c', g, h1, h2⟩ := rd_leaves k t ts fuel cs hl h i t' ht
  rw [hc] at h1
  cases h1
  exact ⟨g, h2⟩
theorem Args.cons {t : TypeId} {ts : List TypeId} {vs : List Value} (h : Args P w (t :: ts) vs) : ∃ v vs', vs = v :: vs' ∧ Arg P w t v ∧ Args P w ts vs' := by
  cases vs with
  | nil => exact h.elim
  | cons v vs => exact ⟨v, vs, rfl, h.1, h.2⟩
theorem Args.nil {vs : List Value} (h : Args P w [] vs) : vs = [] := by
  cases vs with
  | nil => rfl
  | cons v vs => exact h.elim
/-- a parameter that is one cell -/
theorem Arg.one {t : TypeId} {v : Value} (h : Arg P w t v) (hu : ∀ fs, P.underlying t ≠ some (.struct fs)) (ha : ∀ n e, P.underlying t ≠ some (.array n e)) : ∃ g, Rd P w g t [v] := by
  obtain ⟨⟨g, hr⟩, hv⟩ := h
  split at hv
  · rename_i fs he; exact absurd he (hu fs)
  · rename_i n e he; exact absurd he (ha n e)
  · rw [hv] at hr; exact ⟨g, hr⟩
theorem Arg.int {t : TypeId} {v : Value} {k : IntKind} (h : Arg P w t v) (hu : P.underlying t = some (.int k)) : ∃ n, v = .int k n ∧ (Lit.int k n).wf = true := by
  obtain ⟨g, hr⟩ := h.one (by rw [hu]; simp) (by rw [hu]; simp)
  obtain ⟨n, hn, hw⟩ := hr.int hu
  simp only [List.cons.injEq, and_true] at hn
  exact ⟨n, hn, hw⟩
/-- a parameter that is a struct or an array: its cells -/
theorem Arg.many {t : TypeId} {v : Value} {n : Nat} (h : Arg P w t v) (hu : (∃ fs, P.underlying t = some (.struct fs)) ∨ ∃ n e, P.underlying t = some (.array n e)) (hn : P.cellsOf t = n) :
    ∃ cs : List Value, v = .agg cs.toArray ∧ cs.length = n ∧ ∃ g, Rd P w g t cs := by
  obtain ⟨⟨g, hr⟩, hv⟩ := h
  rcases hu with ⟨fs, hu⟩ | ⟨m, e, hu⟩
  · simp only [hu] at hv
    obtain ⟨⟨l⟩, rfl⟩ := hv
    exact ⟨l, rfl, by rw [← hn]; exact (hr.struct hu).1, g, hr⟩
  · simp only [hu] at hv
    obtain ⟨⟨l⟩, rfl⟩ := hv
    exact ⟨l, rfl, by rw [← hn]; exact (hr.array hu).1, g, hr⟩
end
/-
  What a law is handed, as data by its types; and from a law's answer to its row.
-/
open Go.RowKit Go.ChangeShapes Go.WideShapes
def lv (P : Program) (e : TypeId) : Option (List TypeId) :=
  match leaves P 8 e with
  | some ls => if ls.length = P.cellsOf e ∧ 0 < ls.length then some ls else none
  | none => none
/-- what a cell of a type is -/
def LeafD (P : Program) : Nat → TypeId → DV → Prop
  | 0, _, _ => False
  | k + 1, t, d =>
    match P.underlying t with
    | some .bool => ∃ b, d = .bool b
    | some (.int q) => ∃ n, d = .int q n
    | some .string => ∃ s, d = .str s
    | some (.slice e) => ∃ n xs, d = .sl n xs ∧ n * P.bytesOf e ≤ reachBytes ∧ match lv P e with
      | some ls => xs.length = n * ls.length ∧ ∀ (j : Nat) d', xs[j]? = some d' → ∃ t', ls[j % ls.length]? = some t' ∧ LeafD P k t' d'
      | none => xs = []
    | _ => False
def deepT (P : Program) : Nat → TypeId → Bool
  | 0, _ => false
  | k + 1, t =>
    match P.underlying t with
    | some .bool | some (.int _) | some .string => true
    | some (.slice e) => match lv P e with
      | some ls => ls.all (deepT P k)
      | none => true
    | _ => false
theorem pick_list {α : Type} {Q : Nat → α → Prop} : ∀ n : Nat, (∀ j, j < n → ∃ d, Q j d) → ∃ xs : List α, xs.length = n ∧ ∀ (j : Nat) d, xs[j]? = some d → Q j d
  | 0, _ => ⟨[], rfl, fun j d h => by simp at h⟩
  | n + 1, h => by
    obtain ⟨xs, h1, h2⟩ := pick_list n fun j hj => h j (by omega)
    obtain ⟨d, hd⟩ := h n (by omega)
    refine ⟨xs ++ [d], by simp [h1], fun j d' hj => ?_⟩
    by_cases hlt : j < n
    · rw [List.getElem?_append_left (by omega)] at hj; exact h2 j d' hj
    · rw [List.getElem?_append_right (by omega)] at hj
      have : j - xs.length = 0 := by
        have := (List.getElem?_eq_some_iff.1 hj).1
        simp at this; omega
      rw [this] at hj
      simp at hj
      subst hj
      have : j = n := by omega
      subst this; exact hd
section
variable {P : Program} {w : World}
theorem lv_leaves {P : Program} {e : TypeId} {ls : List TypeId} (h : lv P e = some ls) : leaves P 8 e = some ls ∧ ls.length = P.cellsOf e ∧ 0 < ls.length := by
  unfold lv at h
  split at h
  · rename_i l hl
    split at h
    · rename_i hc; injection h with h; subst h; exact ⟨hl, hc.1, hc.2⟩
    · cases h
  · cases h
theorem addr_add' (a : Addr) (i j : Nat) (h : a.spot = none) : (a.add i).add j = ⟨a.block, a.off + (i + j), none⟩ := by
  obtain ⟨b, o, sp⟩ := a
  simp only at h
  subst h
  rw [addr_add, addr_add, Nat.add_assoc]
theorem rep_leaf : ∀ (k : Nat) (t : TypeId), deepT P k t = true → ∀ (fuel : Nat) (v : Value), Rd P w fuel t [v] → ∃ d, RepD w (fun _ => True) d v ∧ LeafD P k t d
  | 0, _, h, _, _, _ => by cases h
  | k + 1, t, ho, fuel, v, h => by
    unfold deepT at ho
    unfold LeafD
    split at ho
    · rename_i hu
      obtain ⟨b, hb⟩ := h.bool hu
      simp only [List.cons.injEq, and_true] at hb
      subst hb
      exact ⟨.bool b, by simp only [RepD], b, rfl⟩
    · rename_i q hu
      obtain ⟨n, hn, hw⟩ := h.int hu
      simp only [List.cons.injEq, and_true] at hn
      subst hn
      exact ⟨.int q n, by simp only [RepD]; exact ⟨trivial, hw⟩, n, rfl⟩
    · rename_i hu
      obtain ⟨s, hs, hw⟩ := h.str hu
      simp only [List.cons.injEq, and_true] at hs
      subst hs
      refine ⟨.str s, by simp only [RepD, true_and]; unfold reachBytes at hw; unfold maxLen; omega, s, rfl⟩
    · rename_i e hu
      rcases h.slice hu with h | ⟨a, len, cap, h1, h2, h3, h4, h5⟩
      · simp only [List.cons.injEq, and_true] at h
        subst h
        refine ⟨.sl 0 [], by simp only [RepD]; exact ⟨none, 0, rfl, Nat.le_refl _, Nat.zero_le _, fun e => absurd rfl e⟩, 0, [], rfl, by simp, ?_⟩
        split
        · exact ⟨by simp, fun j d h => by simp at h⟩
        · rfl
      · simp only [List.cons.injEq, and_true] at h1
        subst h1
        have hby : len * P.bytesOf e ≤ reachBytes := Nat.le_trans (Nat.mul_le_mul_right _ h2) h4
        cases hl : lv P e with
        | none => exact ⟨.sl len [], by simp only [RepD]; exact ⟨some a, cap, rfl, h2, h3, fun e => absurd rfl e⟩, len, [], rfl, hby, rfl⟩
        | some ls =>
          rw [hl] at ho
          simp only [List.all_eq_true] at ho
          obtain ⟨g1, g2, g3⟩ := lv_leaves hl
          have hcell : ∀ j, j < len * ls.length → ∃ d, a.spot = none ∧ (∃ u, w.cell? ⟨a.block, a.off + j, none⟩ = some u ∧ RepD w (fun _ => True) d u) ∧ ∃ t', ls[j % ls.length]? = some t' ∧ LeafD P k t' d := by
            intro j hj
            have hi : j / ls.length < len := by rw [Nat.div_lt_iff_lt_mul g3]; exact hj
            obtain ⟨cs', c1, fuel', c2⟩ := h5 (j / ls.length) (by omega)
            have hm : j % ls.length < ls.length := Nat.mod_lt _ g3
            obtain ⟨c, g, e1, e2⟩ := rd_leaves 8 e ls fuel' cs' g1 c2 (j % ls.length) (ls[j % ls.length]) (by simp [hm])
            obtain ⟨d, f1, f2⟩ := rep_leaf k ls[j % ls.length] (ho _ (List.getElem_mem hm)) g c e2
            obtain ⟨_, c3, c4⟩ := World.cells?_some c1
            have hc := c4 (j % ls.length) (by omega)
            rw [e1] at hc
            have hpos : 0 < cap := Nat.lt_of_lt_of_le (Nat.lt_of_le_of_lt (Nat.zero_le _) hi) h2
            have hcp : 0 < P.cellsOf e := by omega
            have hs : a.spot = none := by
              cases hsp : a.spot with
              | none => rfl
              | some x =>
                exfalso
                obtain ⟨cs0, d0, _⟩ := h5 0 hpos
                obtain ⟨_, hlen, d1⟩ := World.cells?_some d0
                have c0 := d1 0 hcp
                rw [Nat.zero_mul, show a.add 0 = a from by simp [Addr.add], show a.add 0 = a from by simp [Addr.add]] at c0
                have : w.cell? a = none := by
                  unfold World.cell?
                  split
                  · simp [hsp]
                  · rfl
                rw [this] at c0
                have := List.getElem?_eq_none_iff.1 c0.symm
                omega
            refine ⟨d, hs, ⟨c, ?_, f1⟩, _, by simp [hm], f2⟩
            rw [addr_add' _ _ _ hs, ← g2, Nat.mul_comm, Nat.div_add_mod] at hc
            exact hc
          obtain ⟨xs, x1, x2⟩ := pick_list (len * ls.length) hcell
          refine ⟨.sl len xs, ?_, len, xs, rfl, hby, x1, fun j d' hj => (x2 j d' hj).2.2⟩
          simp only [RepD]
          refine ⟨some a, cap, rfl, h2, h3, fun hne => ⟨a.block, a.off, ?_, trivial, .of_at fun i d hi => (x2 i d hi).2.1⟩⟩
          cases xs with
          | nil => exact absurd rfl hne
          | cons d ds =>
            have hs := (x2 0 d rfl).1
            obtain ⟨b, o, sp⟩ := a
            simp only at hs
            subst hs
            rfl
    · cases ho
/-- a parameter, as data -/
def ParamR (P : Program) (t : TypeId) (r : RV) : Prop :=
  match P.underlying t with
  | some (.struct _) | some (.array _ _) => ∃ ds ls, r = .agg ds ∧ lv P t = some ls ∧ ds.length = ls.length ∧ ∀ (i : Nat) d, ds[i]? = some d → ∃ t', ls[i]? = some t' ∧ LeafD P 6 t' d
  | _ => ∃ d, r = .d d ∧ LeafD P 6 t d
def ParamRs (P : Program) : List TypeId → List RV → Prop
  | [], [] => True
  | t :: ts, r :: rs => ParamR P t r ∧ ParamRs P ts rs
  | _, _ => False
def okT (P : Program) (t : TypeId) : Bool :=
  match P.underlying t with
  | some (.struct _) | some (.array _ _) => match lv P t with
    | some ls => ls.all (deepT P 6)
    | none => false
  | _ => deepT P 6 t
theorem param_rep {t : TypeId} {v : Value} (ho : okT P t = true) (h : Arg P w t v) : ∃ r, RepR w (fun _ => True) r v ∧ ParamR P t r := by
  have many : ((∃ fs, P.underlying t = some (.struct fs)) ∨ ∃ n e, P.underlying t = some (.array n e)) → (match lv P t with | some ls => ls.all (deepT P 6) | none => false) = true → ∃ ds ls, RepR w (fun _ => True) (.agg ds) v ∧ lv P t = some ls ∧ ds.length = ls.length ∧ ∀ (i : Nat) d, ds[i]? = some d → ∃ t', ls[i]? = some t' ∧ LeafD P 6 t' d := by
    intro hu hl
    obtain ⟨cs, rfl, hlen, g, hr⟩ := h.many hu (n := P.cellsOf t) rfl
    cases hlv : lv P t with
    | none => rw [hlv] at hl; cases hl
    | some ls =>
      rw [hlv] at hl
      simp only [List.all_eq_true] at hl
      obtain ⟨g1, g2, g3⟩ := lv_leaves hlv
      have hcell : ∀ i, i < ls.length → ∃ d, (∃ c, cs[i]? = some c ∧ RepD w (fun _ => True) d c) ∧ ∃ t', ls[i]? = some t' ∧ LeafD P 6 t' d := by
        intro i hi
        obtain ⟨c, g', e1, e2⟩ := rd_leaves 8 t ls g cs g1 hr i ls[i] (by simp [hi])
        obtain ⟨d, f1, f2⟩ := rep_leaf 6 ls[i] (hl _ (List.getElem_mem hi)) g' c e2
        exact ⟨d, ⟨c, e1, f1⟩, _, by simp [hi], f2⟩
      obtain ⟨ds, x1, x2⟩ := pick_list ls.length hcell
      refine ⟨ds, ls, ?_, rfl, x1, fun i d hi => (x2 i d hi).2⟩
      simp only [RepR]
      refine ⟨_, rfl, ?_⟩
      rw [rep_ds_iff]
      refine ⟨by simp; omega, fun i d v hd hv => ?_⟩
      obtain ⟨⟨c, e1, e2⟩, _⟩ := x2 i d hd
      have : cs[i]? = some v := by simpa using hv
      rw [e1] at this
      injection this with this
      subst this
      exact e2
  unfold okT at ho
  unfold ParamR
  split at ho
  · rename_i fs hu
    obtain ⟨ds, ls, h1, h2⟩ := many (.inl ⟨_, hu⟩) ho
    exact ⟨.agg ds, h1, ds, ls, rfl, h2⟩
  · rename_i n e hu
    obtain ⟨ds, ls, h1, h2⟩ := many (.inr ⟨_, _, hu⟩) ho
    exact ⟨.agg ds, h1, ds, ls, rfl, h2⟩
  · rename_i h1 h2
    obtain ⟨g, hr⟩ := h.one (fun fs e => h1 fs e) (fun n e e' => h2 n e e')
    obtain ⟨d, f1, f2⟩ := rep_leaf 6 t ho g v hr
    exact ⟨.d d, by simp only [RepR]; exact f1, ⟨d, rfl, f2⟩⟩
theorem params_rep : ∀ {ts : List TypeId} {vs : List Value}, ts.all (okT P) = true → Args P w ts vs → ∃ rs, RepRs w (fun _ => True) rs vs ∧ ParamRs P ts rs
  | [], [], _, _ => ⟨[], by simp only [RepRs], trivial⟩
  | t :: ts, v :: vs, ho, h => by
    simp only [List.all_cons, Bool.and_eq_true] at ho
    obtain ⟨r, h1, h2⟩ := param_rep ho.1 h.1
    obtain ⟨rs, h3, h4⟩ := params_rep ho.2 h.2
    exact ⟨r :: rs, by simp only [RepRs]; exact ⟨h1, h3⟩, h2, h4⟩
  | [], _ :: _, _, h => h.elim
  | _ :: _, [], _, h => h.elim
/-- from a law's answer to what its row asks -/
theorem told_of {f : FuncId} {ts : List TypeId} (hok : ts.all (okT P) = true) (h : ∀ rs, ParamRs P ts rs → RV.wfs rs → Ans P f rs (.d (.bool true))) (W : World) (args : Array Value) (hg : GlobOK W fun _ => True) (ha : Args P W ts args.toList) :
    Calls P f args W fun e W' => e = .returned (.bool true) ∧ Below W.heap.size W W' := by
  obtain ⟨rs, h1, h2⟩ := params_rep hok ha
  refine (h rs h2 (RepRs.wf h1) W _ args hg h1).mono fun e w' ⟨v, he, hv, hb⟩ => ?_
  simp only [RepR, RepD] at hv
  subst hv
  exact ⟨he, hb⟩
end
/-! ### opening -/
theorem ParamRs.cons {P : Program} {t : TypeId} {ts : List TypeId} {rs : List RV} (h : ParamRs P (t :: ts) rs) : ∃ r rs', rs = r :: rs' ∧ ParamR P t r ∧ ParamRs P ts rs' := by
  cases rs with
  | nil => exact h.elim
  | cons r rs => exact ⟨r, rs, rfl, h.1, h.2⟩
theorem ParamRs.nil {P : Program} {rs : List RV} (h : ParamRs P [] rs) : rs = [] := by
  cases rs with
  | nil => rfl
  | cons r rs => exact h.elim
theorem ParamR.one {P : Program} {t : TypeId} {r : RV} {k : IntKind} (h : ParamR P t r) (hu : P.underlying t = some (.int k)) : ∃ n, r = .d (.int k n) := by
  unfold ParamR at h
  simp only [hu] at h
  obtain ⟨d, rfl, h⟩ := h
  unfold LeafD at h
  simp only [hu] at h
  obtain ⟨n, rfl⟩ := h
  exact ⟨n, rfl⟩
theorem ParamR.many {P : Program} {t : TypeId} {r : RV} {ls : List TypeId} (h : ParamR P t r) (hu : (match P.underlying t with | some (.struct _) | some (.array _ _) => true | _ => false) = true) (hl : lv P t = some ls) :
    ∃ ds, r = .agg ds ∧ ds.length = ls.length ∧ ∀ (i : Nat) d, ds[i]? = some d → ∃ t', ls[i]? = some t' ∧ LeafD P 6 t' d := by
  unfold ParamR at h
  split at hu
  · rename_i fs he
    simp only [he] at h
    obtain ⟨ds, ls', h1, h2, h3⟩ := h
    rw [hl] at h2; injection h2 with h2; subst h2
    exact ⟨ds, h1, h3⟩
  · rename_i n e he
    simp only [he] at h
    obtain ⟨ds, ls', h1, h2, h3⟩ := h
    rw [hl] at h2; injection h2 with h2; subst h2
    exact ⟨ds, h1, h3⟩
  · cases hu
/-- the cells of a thing of many leaves -/
def LeavesD (P : Program) (q : Nat) (ls : List TypeId) (ds : List DV) : Prop := ds.length = ls.length ∧ ∀ (i : Nat) d, ds[i]? = some d → ∃ t', ls[i]? = some t' ∧ LeafD P q t' d
theorem LeavesD.cons {P : Program} {q : Nat} {t : TypeId} {ts : List TypeId} {ds : List DV} (h : LeavesD P q (t :: ts) ds) : ∃ d ds', ds = d :: ds' ∧ LeafD P q t d ∧ LeavesD P q ts ds' := by
  obtain ⟨h1, h2⟩ := h
  cases ds with
  | nil => simp at h1
  | cons d ds =>
    refine ⟨d, ds, rfl, ?_, by simpa using h1, fun i d' hd => ?_⟩
    · obtain ⟨t', e, h⟩ := h2 0 d rfl
      simp at e; subst e; exact h
    · obtain ⟨t', e, h⟩ := h2 (i + 1) d' (by simpa using hd)
      exact ⟨t', by simpa using e, h⟩
theorem LeavesD.nil {P : Program} {q : Nat} {ds : List DV} (h : LeavesD P q [] ds) : ds = [] := by
  have := h.1
  simpa using this
theorem LeafD.int {P : Program} {q : Nat} {t : TypeId} {d : DV} {k : IntKind} (h : LeafD P q t d) (hu : P.underlying t = some (.int k)) : ∃ n, d = .int k n := by
  cases q with
  | zero => exact h.elim
  | succ q => unfold LeafD at h; simp only [hu] at h; exact h
theorem LeafD.bool {P : Program} {q : Nat} {t : TypeId} {d : DV} (h : LeafD P q t d) (hu : P.underlying t = some .bool) : ∃ n, d = .bool n := by
  cases q with
  | zero => exact h.elim
  | succ q => unfold LeafD at h; simp only [hu] at h; exact h
theorem LeafD.slice {P : Program} {q : Nat} {t e : TypeId} {d : DV} {ls : List TypeId} (h : LeafD P q t d) (hu : P.underlying t = some (.slice e)) (hl : lv P e = some ls) :
    ∃ n xs, d = .sl n xs ∧ n * P.bytesOf e ≤ reachBytes ∧ xs.length = n * ls.length ∧ ∀ (j : Nat) d', xs[j]? = some d' → ∃ t', ls[j % ls.length]? = some t' ∧ ∃ q, LeafD P q t' d' := by
  cases q with
  | zero => exact h.elim
  | succ q =>
    unfold LeafD at h; simp only [hu, hl] at h
    obtain ⟨n, xs, h1, h2, h3, h4⟩ := h
    exact ⟨n, xs, h1, h2, h3, fun j d' hj => let ⟨t', a, b⟩ := h4 j d' hj; ⟨t', a, q, b⟩⟩
theorem LeafD.str {P : Program} {q : Nat} {t : TypeId} {d : DV} (h : LeafD P q t d) (hu : P.underlying t = some .string) : ∃ n, d = .str n := by
  cases q with
  | zero => exact h.elim
  | succ q => unfold LeafD at h; simp only [hu] at h; exact h
theorem ParamR.slice {P : Program} {t e : TypeId} {r : RV} {ls : List TypeId} (h : ParamR P t r) (hu : P.underlying t = some (.slice e)) (hl : lv P e = some ls) :
    ∃ n xs, r = .d (.sl n xs) ∧ n * P.bytesOf e ≤ reachBytes ∧ xs.length = n * ls.length ∧ ∀ (j : Nat) d', xs[j]? = some d' → ∃ t', ls[j % ls.length]? = some t' ∧ ∃ q, LeafD P q t' d' := by
  unfold ParamR at h
  simp only [hu] at h
  obtain ⟨d, rfl, h⟩ := h
  obtain ⟨n, xs, rfl, h2⟩ := LeafD.slice h hu hl
  exact ⟨n, xs, rfl, h2⟩
theorem intLeaf1 {P : Program} {t t' : TypeId} {q j : Nat} {d : DV} {k : IntKind} (hu : P.underlying t = some (.int k)) (a : [t][j % [t].length]? = some t') (b : LeafD P q t' d) : ∃ n, d = .int k n := by
  have : t' = t := by
    have h := List.mem_of_getElem? a
    simpa using h
  subst this
  exact b.int hu
/-
  slices.Clone of numbers: the same list.
-/
theorem CloneI_own (n : Nat) (xs : List DV) (hl : xs.length = n) (hb : n * 8 ≤ 140737488355328) : AnsO Try.prog 27 [RV.d (.sl n xs)] 3 1 n xs := by
  intro w S vs hG hvs
  obtain ⟨v, rfl, hv⟩ : ∃ v, vs = #[v] ∧ RepD w S (.sl n xs) v := by
    obtain ⟨l⟩ := vs
    match l, hvs with
    | [v], h => simp only [RepRs, RepR] at h; exact ⟨v, rfl, h.1⟩
    | [], h => simp only [RepRs] at h
    | _ :: _ :: _, h => simp only [RepRs] at h; exact h.2.elim
  have hv' := hv
  simp only [RepD] at hv
  obtain ⟨A, cap, rfl, h1, h2, h3⟩ := hv
  cases A with
  | none =>
    have : xs = [] := by
      cases xs with
      | nil => rfl
      | cons x xs => obtain ⟨g, off, e, _⟩ := h3 (by simp); cases e
    subst this
    simp at hl
    subst hl
    have hq := fun w' => Go.Lib.run_eql_slice_nil (P := Try.prog) w' 22 3 none 0 cap 0 0 Try.underlying22
    go_enter Try.func27, Try.ntmps27
    go_wp2
    go_ret
    exact ⟨_, rfl, [], ⟨rfl, .inl ⟨rfl, rfl⟩⟩, trivial, Below.refl _ _⟩
  | some a =>
    have hq := fun w' => Go.Lib.run_eql_slice_nil (P := Try.prog) w' 22 3 (some a) n cap 0 0 Try.underlying22
    by_cases hn : n = 0
    · subst hn
      have : xs = [] := List.eq_nil_of_length_eq_zero hl
      subst this
      go_enter Try.func27, Try.ntmps27
      go_wp2
      refine bodyPost_ret (v := .slice (some ⟨w.heap.size, 0, none⟩) 0 0) (by simp [results, Try.results27, go_sem, *]) rfl ?_
      exact ⟨_, rfl, [], ⟨rfl, .inr ⟨w.heap.size, 0, #[], rfl, Nat.le_refl _, .plain (heap_alloc_new w _), Nat.le_refl _, Nat.zero_le _, rfl, rfl⟩⟩, trivial, (Below.refl _ _).alloc (Nat.le_refl _) _⟩
    · obtain ⟨g, off, hA, hg, hc⟩ := h3 (by intro h; subst h; exact hn (by simpa using hl.symm))
      injection hA with hA
      subst hA
      obtain ⟨us, u1, u2⟩ := vals_of_cells hc
      have hul : us.length = n := by rw [← rep_ds_len u1, hl]
      have hown : (w.alloc (.cells #[] 3)).ownsRow w.heap.size 3 1 (.slice (some ⟨w.heap.size, 0, none⟩) 0 0) 0 [] :=
        ⟨rfl, .inr ⟨w.heap.size, 0, #[], rfl, Nat.le_refl _, heap_alloc_new w _, Nat.le_refl _, Nat.zero_le _, rfl, rfl⟩⟩
      go_enter Try.func27, Try.ntmps27
      have hi0 : Try.prog.info? 3 = some Try.t3 := by kernel_rfl
      have hi1 : Try.t3.zero = some (.int .i64 0) := by kernel_rfl
      have hi2 : Try.t3.size = 1 := by kernel_rfl
      have hi3 : Try.t3.bytes = 8 := by kernel_rfl
      go_wp2_with (at_builtin; refine wpList_append_lies _ rfl (.tmp 5) (.tmp 6) 22 rfl w.heap.size 3 Try.t3 (.int .i64 0) 1 8 Try.underlying22 hi0 hi1 hi2 hi3 rfl (by omega) _ 0 [] rfl hown ⟨g, off, none⟩ n cap us rfl (by rw [hul]; omega) (fun j u hj => by rw [addr_add]; exact (Go.Lib.cell?_alloc_some _ (u2 j u hj))) (rep_ds_one u1) (by omega) (by omega) (by omega) (by simp) _ rfl ?_; intro g2 c2 w2 hown2 hgrow hat hgl)
      have hob : w.heap.size ≤ w2.heap.size ∧ Below w.heap.size w w2 := by
        have hb1 : Below w.heap.size w (w.alloc (.cells #[] 3)) := (Below.refl _ _).alloc (Nat.le_refl _) _
        have hb2 := hb1.grown hgrow (by simp) (fun x hx => by
          simp [Act.eval, Value.ownBlock] at hx
          omega)
        exact ⟨hb2.size, hb2⟩
      refine bodyPost_ret (v := .slice (some ⟨g2, 0, none⟩) (0 + n) c2) (by simp [results, Try.results27, go_sem, *]) rfl ?_
      rw [Nat.zero_add, List.nil_append] at hown2
      rw [Nat.zero_add]
      have hge : w.heap.size ≤ g2 := by
        rcases hown2.2 with ⟨e, _⟩ | ⟨g', cap', cur, e, q1, _⟩
        · cases e
        · simp only [Value.slice.injEq, Option.some.injEq, Addr.mk.injEq, and_true, true_and] at e
          obtain ⟨rfl, rfl⟩ := e
          exact q1
      refine ⟨_, rfl, us, ownsM_of hown2, u1.keep fun g o u hV hu => ?_, hob.2⟩
      have hlt : g < w.heap.size := World.block_lt_of_cell? w _ hu
      refine ⟨⟨.inl hV, fun e => ?_⟩, (hob.2.cell (p := ⟨g, o, none⟩) hlt).trans hu⟩
      simp only [Value.ownBlock, Option.some.injEq] at e
      omega
end Go.Proofs.Ytaaealkgbklmeaa
/-
  The levels of the nodes of a forest.
-/
namespace Go.Proofs.Ytaaealkgbklmeaa
open Go.RowKit
set_option linter.unusedVariables false
set_option linter.unusedSimpArgs false
attribute [local irreducible] Ans AnsO AnsG AnsN AnsI
set_option maxRecDepth 4000
theorem kid_rd {l : Nodes} {k : Nat} (h : k < l.length) : (nodesD l)[k * 13 + 12]? = some (DV.sl l[k].2.length (is l[k].2)) := by rw [nodesD_get h 12 (by omega)]; rfl
theorem kid_l {l : Nodes} {k : Nat} (h : k < l.length) : lAt (nodesD l) (k * 13 + 12) = l[k].2.length := by simp only [lAt, kid_rd h]
theorem kid_c {l : Nodes} {k : Nat} (h : k < l.length) : cAt (nodesD l) (k * 13 + 12) = is l[k].2 := by simp only [cAt, kid_rd h]
def gamTv : Gam where
 pure := fun f xs =>
  if f = 21 then (match xs with | [.agg [.sl an axs, .sl ar ars]] => some (RV.tup [RV.d (DV.sl ((parP (toNodes (axs)) (ints (ars))).1.length) (is (parP (toNodes (axs)) (ints (ars))).1)), RV.d (DV.bool ((parP (toNodes (axs)) (ints (ars))).2))]) | _ => none) else
  if f = 27 then (match xs with | [] => some (RV.tup [RV.tup [RV.d (DV.int .i64 3), RV.d (DV.int .i64 1)]]) | [.d (.sl n xs)] => some (RV.d (DV.sl n xs)) | _ => none) else
  none
 modes := fun f =>
  none
 proc := fun f xs bs =>
  none
 iter := fun f cs =>
  none
def tree_levels_ann (ns : Nodes) (rs : List Int) : Ann := let zz0 := (6, AV.one (Cl.ref 23 ns.length)); let zz1 := (1, Bx.cells [Cl.d (DV.sl ns.length (nodesD ns)), Cl.d (DV.sl rs.length (is rs))]); let zz2 := fun (y : Nat × List Int × List Int) => (10, AV.one (Cl.d (DV.int .i64 ((y.1 : Nat) : Int)))); (Ann.seq Ann.leaf (Ann.seq Ann.leaf (Ann.seq Ann.leaf (Ann.seq Ann.leaf (Ann.seq (Ann.seq Ann.leaf (Ann.loop ⟨Nat × List Int, fun z : Nat × List Int => z.1 ≤ rs.length ∧ z.2.length = ns.length ∧ lev1 (rs.drop z.1) z.2 = lev1 rs (List.replicate ns.length 0), fun z : Nat × List Int => ⟨[(1, AV.one (Cl.ptr 1 0)), zz0, (7, AV.one (Cl.ref 26 rs.length)), (27, AV.one (Cl.ref 26 rs.length)), (28, AV.one (Cl.d (DV.int .i64 ((rs.length : Nat) : Int)))), (29, AV.one (Cl.d (DV.int .i64 ((z.1 : Nat) : Int))))], [zz1, (23, Bx.row 3 1 (is z.2)), (26, Bx.row 3 1 (is rs))]⟩, fun z : Nat × List Int => rs.length - z.1⟩ fun z => Ann.leaf)) (Ann.seq (Ann.seq Ann.leaf (Ann.loop ⟨Nat × List Int × List Int, fun y : Nat × List Int × List Int => y.1 ≤ y.2.1.length ∧ y.2.2.length = ns.length ∧ LevOK ns rs y.1 y.2.1 ∧ levGo ns (ns.length - y.1) y.1 y.2.1 y.2.2 = levR ns rs, fun y : Nat × List Int × List Int => ⟨[(1, AV.one (Cl.ptr 1 0)), zz0, (7, AV.one (Cl.ref 9007 y.2.1.length)), (zz2 y)], [zz1, (23, Bx.row 3 1 (is y.2.2)), (9007, Bx.row 3 1 (is y.2.1))]⟩, fun y : Nat × List Int × List Int => ns.length - y.1⟩ fun y => (Ann.seq Ann.leaf (Ann.seq (Ann.seq Ann.leaf (Ann.loop ⟨Nat × List Int × List Int, fun x : Nat × List Int × List Int => x.1 ≤ (kidsAt ns (outAt y.2.1 (y.1 : Int))).length ∧ x.2.2.length = ns.length ∧ x.2.1 = y.2.1 ++ (kidsAt ns (outAt y.2.1 (y.1 : Int))).take x.1 ∧ levK (outAt y.2.1 (y.1 : Int)) ((kidsAt ns (outAt y.2.1 (y.1 : Int))).drop x.1) x.2.2 = levK (outAt y.2.1 (y.1 : Int)) (kidsAt ns (outAt y.2.1 (y.1 : Int))) y.2.2, fun x : Nat × List Int × List Int => ⟨[(1, AV.one (Cl.ptr 1 0)), zz0, (7, AV.one (Cl.ref 9008 x.2.1.length)), (zz2 y), (51, AV.one (Cl.d (DV.sl (lAt (nodesD ns) ((nAt (is y.2.1) (((y.1 : Nat) : Int).toNat * 1)).toNat * 13 + 12)) (cAt (nodesD ns) ((nAt (is y.2.1) (((y.1 : Nat) : Int).toNat * 1)).toNat * 13 + 12))))), (52, AV.one (Cl.d (DV.int .i64 ((lAt (nodesD ns) ((nAt (is y.2.1) (((y.1 : Nat) : Int).toNat * 1)).toNat * 13 + 12) : Nat) : Int)))), (53, AV.one (Cl.d (DV.int .i64 ((x.1 : Nat) : Int))))], [zz1, (23, Bx.row 3 1 (is x.2.2)), (9008, Bx.row 3 1 (is x.2.1))]⟩, fun x : Nat × List Int × List Int => (kidsAt ns (outAt y.2.1 (y.1 : Int))).length - x.1⟩ fun x => Ann.leaf)) Ann.leaf)))) Ann.leaf))))))
theorem tree_levels_vc (ns : Nodes) (rs : List Int) : vcg Try.prog gamTv 80 (bodyOf Try.f23) (tree_levels_ann ns rs) kn0 (start [RV.agg [DV.sl ns.length (nodesD ns), DV.sl rs.length (is rs)]]) (post Try.prog Try.f23.results.toList (· = RV.tup [RV.d (DV.sl ((levP (toNodes (nodesD ns)) (ints (is rs))).1.length) (is (levP (toNodes (nodesD ns)) (ints (is rs))).1)), RV.d (DV.bool ((levP (toNodes (nodesD ns)) (ints (is rs))).2))])) =
  (let zz0 := [DV.sl ns.length (nodesD ns), DV.sl rs.length (is rs)]; let zz1 := [RV.d (DV.sl ((levP (toNodes (nodesD ns)) (ints (is rs))).1.length) (is (levP (toNodes (nodesD ns)) (ints (is rs))).1)), RV.d (DV.bool ((levP (toNodes (nodesD ns)) (ints (is rs))).2))]; let zz2 := (List.replicate ns.length 0); let zz3 := fun (z : Nat × List Int) => (z.1 ≤ rs.length ∧ z.2.length = ns.length ∧ lev1 (rs.drop z.1) z.2 = lev1 rs zz2); let zz4 := (DV.int .i64 ((rs.length : Nat) : Int) = DV.int .i64 ((rs.length : Nat) : Int)); let zz5 := (zz0 = zz0); let zz6 := fun (y : Nat × List Int × List Int) => (y.1 ≤ y.2.1.length ∧ y.2.2.length = ns.length ∧ LevOK ns rs y.1 y.2.1 ∧ levGo ns (ns.length - y.1) y.1 y.2.1 y.2.2 = levR ns rs); let zz7 := fun (y : Nat × List Int × List Int) => fun (x : Nat × List Int × List Int) => (x.1 ≤ (kidsAt ns (outAt y.2.1 (y.1 : Int))).length ∧ x.2.2.length = ns.length ∧ x.2.1 = y.2.1 ++ (kidsAt ns (outAt y.2.1 (y.1 : Int))).take x.1 ∧ levK (outAt y.2.1 (y.1 : Int)) ((kidsAt ns (outAt y.2.1 (y.1 : Int))).drop x.1) x.2.2 = levK (outAt y.2.1 (y.1 : Int)) (kidsAt ns (outAt y.2.1 (y.1 : Int))) y.2.2); let zz8 := fun (y : Nat × List Int × List Int) => (DV.int .i64 ((y.1 : Nat) : Int) = DV.int .i64 ((y.1 : Nat) : Int)); let zz9 := fun (y : Nat × List Int × List Int) => (DV.sl (lAt (nodesD ns) ((nAt (is y.2.1) (((y.1 : Nat) : Int).toNat * 1)).toNat * 13 + 12)) (cAt (nodesD ns) ((nAt (is y.2.1) (((y.1 : Nat) : Int).toNat * 1)).toNat * 13 + 12)) = DV.sl (lAt (nodesD ns) ((nAt (is y.2.1) (((y.1 : Nat) : Int).toNat * 1)).toNat * 13 + 12)) (cAt (nodesD ns) ((nAt (is y.2.1) (((y.1 : Nat) : Int).toNat * 1)).toNat * 13 + 12))); let zz10 := fun (y : Nat × List Int × List Int) => (DV.int .i64 ((lAt (nodesD ns) ((nAt (is y.2.1) (((y.1 : Nat) : Int).toNat * 1)).toNat * 13 + 12) : Nat) : Int) = DV.int .i64 ((lAt (nodesD ns) ((nAt (is y.2.1) (((y.1 : Nat) : Int).toNat * 1)).toNat * 13 + 12) : Nat) : Int)); True ∧ True ∧ True ∧ True ∧ (Ans Try.prog 21 [RV.agg zz0] (RV.tup [RV.d (DV.sl ((parP (toNodes ((nodesD ns))) (ints ((is rs)))).1.length) (is (parP (toNodes ((nodesD ns))) (ints ((is rs)))).1)), RV.d (DV.bool ((parP (toNodes ((nodesD ns))) (ints ((is rs)))).2))])) ∧ True ∧ True ∧ True ∧ True ∧ True ∧ True ∧ True ∧ (((!((parP (toNodes ((nodesD ns))) (ints ((is rs)))).2)) = true → True ∧ True ∧ RV.tup [RV.d (DV.sl 0 ([])), RV.d (DV.bool false)] = RV.tup zz1) ∧ ((!((parP (toNodes ((nodesD ns))) (ints ((is rs)))).2)) = false → True ∧ True ∧ True ∧ (0 ≤ ((ns.length : Nat) : Int) ∧ ((ns.length : Nat) : Int) ≤ ((ns.length : Nat) : Int) ∧ ((ns.length : Nat) : Int) ≤ ((maxLen : Nat) : Int) ∧ ((8 : Nat) : Int) * ((ns.length : Nat) : Int) ≤ 281474976710656) ∧ True ∧ True ∧ True ∧ (AnsO Try.prog 27 [RV.d (DV.sl rs.length (is rs))] 3 1 rs.length (is rs)) ∧ True ∧ True ∧ (rs.length ≤ maxLen) ∧ True ∧ ((∃ z : Nat × List Int, (zz3 z) ∧ (((0 = 0) ∧ (((ns.length : Nat) : Int).toNat = ns.length) ∧ (rs.length = rs.length) ∧ (rs.length = rs.length) ∧ zz4 ∧ (DV.int .i64 0 = DV.int .i64 ((z.1 : Nat) : Int)) ∧ True) ∧ (zz5 ∧ (List.replicate ((ns.length : Nat) : Int).toNat (DV.int .i64 0) = is z.2) ∧ ((is rs) = (is rs)) ∧ True))) ∧ ∀ z : Nat × List Int, (zz3 z) → True ∧ (((decide (((z.1 : Nat) : Int) < ((rs.length : Nat) : Int))) = true → (0 ≤ ((z.1 : Nat) : Int) ∧ ((z.1 : Nat) : Int) < ((rs.length : Nat) : Int)) ∧ (((is rs)[((z.1 : Nat) : Int).toNat * 1]? = some (DV.int .i64 (nAt (is rs) (((z.1 : Nat) : Int).toNat * 1)))) ∧ True) ∧ True ∧ True ∧ True ∧ (0 ≤ nAt (is rs) (((z.1 : Nat) : Int).toNat * 1) ∧ nAt (is rs) (((z.1 : Nat) : Int).toNat * 1) < ((ns.length : Nat) : Int)) ∧ ((nAt (is rs) (((z.1 : Nat) : Int).toNat * 1)).toNat * 1 + 1 ≤ (is z.2).length) ∧ True ∧ True ∧ ∃ z' : Nat × List Int, (z'.1 ≤ rs.length ∧ z'.2.length = ns.length ∧ lev1 (rs.drop z'.1) z'.2 = lev1 rs zz2) ∧ (rs.length - z'.1 < rs.length - z.1) ∧ (((0 = 0) ∧ (ns.length = ns.length) ∧ (rs.length = rs.length) ∧ (rs.length = rs.length) ∧ zz4 ∧ (DV.int .i64 (IntKind.wrap .i64 (((z.1 : Nat) : Int) + (1 : Int))) = DV.int .i64 ((z'.1 : Nat) : Int)) ∧ True) ∧ (zz5 ∧ (List.set (is z.2) ((nAt (is rs) (((z.1 : Nat) : Int).toNat * 1)).toNat * 1) (DV.int .i64 1) = is z'.2) ∧ ((is rs) = (is rs)) ∧ True))) ∧ ((decide (((z.1 : Nat) : Int) < ((rs.length : Nat) : Int))) = false → True ∧ ((∃ y : Nat × List Int × List Int, (zz6 y) ∧ (((0 = 0) ∧ (ns.length = ns.length) ∧ (rs.length = y.2.1.length) ∧ (DV.int .i64 0 = DV.int .i64 ((y.1 : Nat) : Int)) ∧ True) ∧ (zz5 ∧ (is z.2 = is y.2.2) ∧ ((is rs) = is y.2.1) ∧ True))) ∧ ∀ y : Nat × List Int × List Int, (zz6 y) → True ∧ True ∧ (y.2.1.length ≤ maxLen) ∧ True ∧ (((decide (((y.1 : Nat) : Int) < ((y.2.1.length : Nat) : Int))) = true → True ∧ True ∧ True ∧ True ∧ (0 ≤ ((y.1 : Nat) : Int) ∧ ((y.1 : Nat) : Int) < ((y.2.1.length : Nat) : Int)) ∧ (((is y.2.1)[((y.1 : Nat) : Int).toNat * 1]? = some (DV.int .i64 (nAt (is y.2.1) (((y.1 : Nat) : Int).toNat * 1)))) ∧ True) ∧ (0 ≤ nAt (is y.2.1) (((y.1 : Nat) : Int).toNat * 1) ∧ nAt (is y.2.1) (((y.1 : Nat) : Int).toNat * 1) < ((ns.length : Nat) : Int) ∧ (nAt (is y.2.1) (((y.1 : Nat) : Int).toNat * 1)).toNat * 13 < (nodesD ns).length) ∧ True ∧ (((nodesD ns)[(nAt (is y.2.1) (((y.1 : Nat) : Int).toNat * 1)).toNat * 13 + 12]? = some (DV.sl (lAt (nodesD ns) ((nAt (is y.2.1) (((y.1 : Nat) : Int).toNat * 1)).toNat * 13 + 12)) (cAt (nodesD ns) ((nAt (is y.2.1) (((y.1 : Nat) : Int).toNat * 1)).toNat * 13 + 12)))) ∧ True) ∧ True ∧ True ∧ (true = true) ∧ ((∃ x : Nat × List Int × List Int, (zz7 y x) ∧ (((0 = 0) ∧ (ns.length = ns.length) ∧ (y.2.1.length = x.2.1.length) ∧ (zz8 y) ∧ (zz9 y) ∧ (zz10 y) ∧ (DV.int .i64 0 = DV.int .i64 ((x.1 : Nat) : Int)) ∧ True) ∧ (zz5 ∧ (is y.2.2 = is x.2.2) ∧ (is y.2.1 = is x.2.1) ∧ True))) ∧ ∀ x : Nat × List Int × List Int, (zz7 y x) → True ∧ (((decide (((x.1 : Nat) : Int) < ((lAt (nodesD ns) ((nAt (is y.2.1) (((y.1 : Nat) : Int).toNat * 1)).toNat * 13 + 12) : Nat) : Int))) = true → (0 ≤ ((x.1 : Nat) : Int) ∧ ((x.1 : Nat) : Int) < ((lAt (nodesD ns) ((nAt (is y.2.1) (((y.1 : Nat) : Int).toNat * 1)).toNat * 13 + 12) : Nat) : Int) ∧ ((x.1 : Nat) : Int).toNat * 1 < (cAt (nodesD ns) ((nAt (is y.2.1) (((y.1 : Nat) : Int).toNat * 1)).toNat * 13 + 12)).length) ∧ (((cAt (nodesD ns) ((nAt (is y.2.1) (((y.1 : Nat) : Int).toNat * 1)).toNat * 13 + 12))[((x.1 : Nat) : Int).toNat * 1]? = some (DV.int .i64 (nAt (cAt (nodesD ns) ((nAt (is y.2.1) (((y.1 : Nat) : Int).toNat * 1)).toNat * 13 + 12)) (((x.1 : Nat) : Int).toNat * 1)))) ∧ True) ∧ True ∧ True ∧ True ∧ True ∧ True ∧ True ∧ (0 ≤ ((y.1 : Nat) : Int) ∧ ((y.1 : Nat) : Int) < ((x.2.1.length : Nat) : Int)) ∧ (((is x.2.1)[((y.1 : Nat) : Int).toNat * 1]? = some (DV.int .i64 (nAt (is x.2.1) (((y.1 : Nat) : Int).toNat * 1)))) ∧ True) ∧ (0 ≤ nAt (is x.2.1) (((y.1 : Nat) : Int).toNat * 1) ∧ nAt (is x.2.1) (((y.1 : Nat) : Int).toNat * 1) < ((ns.length : Nat) : Int)) ∧ (((is x.2.2)[(nAt (is x.2.1) (((y.1 : Nat) : Int).toNat * 1)).toNat * 1]? = some (DV.int .i64 (nAt (is x.2.2) ((nAt (is x.2.1) (((y.1 : Nat) : Int).toNat * 1)).toNat * 1)))) ∧ True) ∧ True ∧ (0 ≤ nAt (cAt (nodesD ns) ((nAt (is y.2.1) (((y.1 : Nat) : Int).toNat * 1)).toNat * 13 + 12)) (((x.1 : Nat) : Int).toNat * 1) ∧ nAt (cAt (nodesD ns) ((nAt (is y.2.1) (((y.1 : Nat) : Int).toNat * 1)).toNat * 13 + 12)) (((x.1 : Nat) : Int).toNat * 1) < ((ns.length : Nat) : Int)) ∧ ((nAt (cAt (nodesD ns) ((nAt (is y.2.1) (((y.1 : Nat) : Int).toNat * 1)).toNat * 13 + 12)) (((x.1 : Nat) : Int).toNat * 1)).toNat * 1 + 1 ≤ (is x.2.2).length) ∧ True ∧ True ∧ True ∧ (appVc 1 8 x.2.1.length 1 (is x.2.1) ([DV.int .i64 (nAt (cAt (nodesD ns) ((nAt (is y.2.1) (((y.1 : Nat) : Int).toNat * 1)).toNat * 13 + 12)) (((x.1 : Nat) : Int).toNat * 1))])) ∧ True ∧ True ∧ True ∧ ∃ x' : Nat × List Int × List Int, (x'.1 ≤ (kidsAt ns (outAt y.2.1 (y.1 : Int))).length ∧ x'.2.2.length = ns.length ∧ x'.2.1 = y.2.1 ++ (kidsAt ns (outAt y.2.1 (y.1 : Int))).take x'.1 ∧ levK (outAt y.2.1 (y.1 : Int)) ((kidsAt ns (outAt y.2.1 (y.1 : Int))).drop x'.1) x'.2.2 = levK (outAt y.2.1 (y.1 : Int)) (kidsAt ns (outAt y.2.1 (y.1 : Int))) y.2.2) ∧ ((kidsAt ns (outAt y.2.1 (y.1 : Int))).length - x'.1 < (kidsAt ns (outAt y.2.1 (y.1 : Int))).length - x.1) ∧ (((0 = 0) ∧ (ns.length = ns.length) ∧ (x.2.1.length + 1 = x'.2.1.length) ∧ (zz8 y) ∧ (zz9 y) ∧ (zz10 y) ∧ (DV.int .i64 (IntKind.wrap .i64 (((x.1 : Nat) : Int) + (1 : Int))) = DV.int .i64 ((x'.1 : Nat) : Int)) ∧ True) ∧ (zz5 ∧ (List.set (is x.2.2) ((nAt (cAt (nodesD ns) ((nAt (is y.2.1) (((y.1 : Nat) : Int).toNat * 1)).toNat * 13 + 12)) (((x.1 : Nat) : Int).toNat * 1)).toNat * 1) (DV.int .i64 (IntKind.wrap .i64 ((nAt (is x.2.2) ((nAt (is x.2.1) (((y.1 : Nat) : Int).toNat * 1)).toNat * 1)) + (1 : Int)))) = is x'.2.2) ∧ ((is x.2.1) ++ ([DV.int .i64 (nAt (cAt (nodesD ns) ((nAt (is y.2.1) (((y.1 : Nat) : Int).toNat * 1)).toNat * 13 + 12)) (((x.1 : Nat) : Int).toNat * 1))]) = is x'.2.1) ∧ True))) ∧ ((decide (((x.1 : Nat) : Int) < ((lAt (nodesD ns) ((nAt (is y.2.1) (((y.1 : Nat) : Int).toNat * 1)).toNat * 13 + 12) : Nat) : Int))) = false → True ∧ True ∧ True ∧ ∃ y' : Nat × List Int × List Int, (y'.1 ≤ y'.2.1.length ∧ y'.2.2.length = ns.length ∧ LevOK ns rs y'.1 y'.2.1 ∧ levGo ns (ns.length - y'.1) y'.1 y'.2.1 y'.2.2 = levR ns rs) ∧ (ns.length - y'.1 < ns.length - y.1) ∧ (((0 = 0) ∧ (ns.length = ns.length) ∧ (x.2.1.length = y'.2.1.length) ∧ (DV.int .i64 (IntKind.wrap .i64 (((y.1 : Nat) : Int) + (1 : Int))) = DV.int .i64 ((y'.1 : Nat) : Int)) ∧ True) ∧ (zz5 ∧ (is x.2.2 = is y'.2.2) ∧ (is x.2.1 = is y'.2.1) ∧ True)))))) ∧ ((decide (((y.1 : Nat) : Int) < ((y.2.1.length : Nat) : Int))) = false → True ∧ True ∧ (y.2.1.length ≤ maxLen) ∧ True ∧ True ∧ True ∧ True ∧ True ∧ True ∧ (true = true) ∧ RV.tup [RV.d (DV.sl ns.length (is y.2.2)), RV.d (DV.bool (((y.2.1.length : Nat) : Int) == ((ns.length : Nat) : Int)))] = RV.tup zz1))))))))) := by kernel_rfl
theorem tree_levels_ans (ns : Nodes) (rs : List Int) (hl : ns.length ≤ 100000) (hg : Good ns rs) : Ans Try.prog 23 [RV.agg [DV.sl ns.length (nodesD ns), DV.sl rs.length (is rs)]] (RV.tup [RV.d (DV.sl ((levP (toNodes (nodesD ns)) (ints (is rs))).1.length) (is (levP (toNodes (nodesD ns)) (ints (is rs))).1)), RV.d (DV.bool ((levP (toNodes (nodesD ns)) (ints (is rs))).2))]) :=
  ans_of_vcg (Γ := gamTv) (tree_levels_ann ns rs) mixed_ Try.func23 rfl (Nat.le_of_ble_eq_true rfl) fun hwf => by
    refine Eq.mpr (tree_levels_vc ns rs) ?_
    simp only [true_and, and_true, RV.d.injEq, RV.agg.injEq, RV.tup.injEq, DV.bool.injEq, DV.int.injEq, DV.sl.injEq, List.cons.injEq, forall_const, Bool.not_false, Bool.not_true, Bool.not_eq_true', Bool.not_eq_false', decide_eq_true_eq, decide_eq_false_iff_not, Int.toNat_natCast]
    have aP := tree_parents_ans ns rs hl
    have hrs : rs.length ≤ ns.length := (LevOK.start hg).few
    have hM : ∀ n : Nat, n ≤ 100000 → n ≤ maxLen := fun n h => by unfold maxLen; omega
    have is_s : ∀ (L : List Int) (j : Nat) (v : Int), (is L).set j (.int .i64 v) = is (L.set j v) := fun L j v => by simp [is]
    clear hwf
    simp only [toNodes_nodesD, ints_is] at aP ⊢
    refine ⟨aP, fun hp => ?_, fun hp => ?_⟩
    · unfold levP
      rw [if_neg (by rw [hp]; decide)]
      exact ⟨⟨rfl, rfl⟩, rfl⟩
    · have hm := hM _ hl
      refine ⟨⟨by omega, by omega, by omega, by omega⟩, CloneI_own _ _ (is_length _) (by omega), hM _ (by omega), ⟨(0, List.replicate ns.length 0), ⟨Nat.zero_le _, by simp, rfl⟩, rfl, by simp [is]⟩, fun z hz => ⟨fun hlt => ?_, fun hge => ?_⟩⟩
      · obtain ⟨k, out⟩ := z
        obtain ⟨z1, z2, z3⟩ := hz
        simp only at *
        have hk : k < rs.length := by omega
        obtain ⟨q1, q2⟩ := is_rd hk
        have hin := hg.inr rs[k] (List.mem_append_left _ (List.getElem_mem hk))
        have w1 : IntKind.wrap .i64 ((k : Int) + 1) = ((k + 1 : Nat) : Int) := by rw [IntWalk.i64_in _ ⟨by omega, by omega⟩]; omega
        rw [List.drop_eq_getElem_cons hk, lev1] at z3
        simp only [Nat.mul_one, q2, is_s, w1]
        generalize rs[k] = a at *
        refine ⟨⟨by omega, by omega⟩, q1, hin, by rw [is_length, z2]; omega, (k + 1, out.set a.toNat 1), ⟨by simp only; omega, by simp only [List.length_set]; exact z2, z3⟩, by simp only; omega, rfl, rfl⟩
      · obtain ⟨k, out⟩ := z
        obtain ⟨z1, z2, z3⟩ := hz
        simp only at *
        have hk : k = rs.length := by omega
        subst hk
        rw [List.drop_length, lev1] at z3
        refine ⟨⟨(0, rs, out), ⟨Nat.zero_le _, z2, LevOK.start hg, by simp only [Nat.sub_zero]; rw [z3]; rfl⟩, ⟨rfl, rfl⟩, rfl, rfl⟩, fun y hy => ?_⟩
        obtain ⟨i, L, o⟩ := y
        obtain ⟨y1, y2, y3, y4⟩ := hy
        simp only at *
        have hfew := y3.few
        refine ⟨hM _ (by omega), fun hlt => ?_, fun hge => ?_⟩
        · have hi : i < L.length := by omega
          obtain ⟨q1, q2⟩ := is_rd hi
          obtain ⟨a, ha⟩ : ∃ a, L[i] = a := ⟨_, rfl⟩
          have haL : L[i]? = some a := by rw [← ha]; exact List.getElem?_eq_getElem hi
          have hain := y3.inr a (List.mem_of_getElem? haL)
          obtain ⟨m, rfl⟩ : ∃ m : Nat, a = m := ⟨a.toNat, by omega⟩
          have hmn : m < ns.length := by omega
          have hoa : outAt L (i : Int) = (m : Int) := by simp [outAt, haL]
          have hok := y3.next hg haL
          have e12 := kid_rd hmn
          have l12 := kid_l hmn
          have c12 := kid_c hmn
          have w1 : IntKind.wrap .i64 ((i : Int) + 1) = ((i + 1 : Nat) : Int) := by rw [IntWalk.i64_in _ ⟨by omega, by omega⟩]; omega
          rw [show ns.length - i = (ns.length - (i + 1)) + 1 by omega, levGo_step haL] at y4
          have hnd : m * 13 < (nodesD ns).length := by rw [nodesD_len]; omega
          have hKf : L.length + (kidsAt ns (m : Int)).length ≤ ns.length := by
            have := hok.few
            rw [List.length_append] at this
            exact this
          have hKin : ∀ x ∈ kidsAt ns (m : Int), 0 ≤ x ∧ x < (ns.length : Int) := fun x hx => hok.inr x (List.mem_append_right _ hx)
          simp only [Nat.mul_one, q2, ha, Int.toNat_natCast, l12, c12, hoa, w1, kidsAt_of hmn, is_s] at *
          generalize ns[m].2 = K at *
          refine ⟨⟨by omega, by omega⟩, q1, ⟨by omega, by omega, hnd⟩, e12, ⟨(0, L, o), ⟨Nat.zero_le _, y2, by simp, rfl⟩, ⟨rfl, rfl⟩, rfl, rfl⟩, fun x hx => ?_⟩
          obtain ⟨j, M, p⟩ := x
          obtain ⟨x1, x2, x3, x4⟩ := hx
          simp only at *
          have hMl : M.length = L.length + j := by rw [x3, List.length_append, List.length_take]; omega
          refine ⟨fun hlt => ?_, fun hge => ?_⟩
          · have hj : j < K.length := by omega
            obtain ⟨r1, r2⟩ := is_rd hj
            have hMi : M[i]? = some (m : Int) := by rw [x3, List.getElem?_append_left hi, haL]
            have hMi2 : (is M)[i]? = some (.int .i64 (m : Int)) := by simp [is, hMi]
            have hMi3 : nAt (is M) i = (m : Int) := by simp [nAt, hMi2]
            have hpm : (is p)[m]? = some (.int .i64 (outAt p (m : Int))) := by
              simp [is, outAt, List.getElem?_eq_getElem (show m < p.length by omega)]
            have hpm2 : nAt (is p) m = outAt p (m : Int) := by simp [nAt, hpm]
            have hKj := hKin K[j] (List.getElem_mem hj)
            have w2 : IntKind.wrap .i64 ((j : Int) + 1) = ((j + 1 : Nat) : Int) := by rw [IntWalk.i64_in _ ⟨by omega, by omega⟩]; omega
            rw [List.drop_eq_getElem_cons hj, levK] at x4
            have htk : L ++ K.take (j + 1) = M ++ [K[j]] := by rw [x3, List.append_assoc, List.take_add_one, List.getElem?_eq_getElem hj]; rfl
            simp only [r2, hMi3, hpm2, w2, Int.toNat_natCast]
            generalize K[j] = b at *
            refine ⟨⟨by omega, by omega, by rw [is_length]; omega⟩, r1, ⟨by omega, by omega⟩, hMi2, ⟨by omega, by omega⟩, hpm, hKj, by rw [is_length]; omega, ⟨by rw [is_length]; omega, rfl, hM _ (by omega), by omega⟩, (j + 1, M ++ [b], p.set b.toNat (IntKind.wrap .i64 (outAt p (m : Int) + 1))), ⟨by simp only; omega, by simp only [List.length_set]; exact x2, htk.symm, x4⟩, by simp only; omega, ⟨by simp, rfl⟩, rfl, by simp [is]⟩
          · have hj : j = K.length := by omega
            subst hj
            rw [List.take_length] at x3
            rw [List.drop_length, levK] at x4
            subst x3 x4
            exact ⟨(i + 1, _, _), ⟨by simp only [List.length_append]; omega, by simp only [levK_len]; exact y2, hok, y4⟩, by simp only; omega, ⟨rfl, rfl⟩, rfl, rfl⟩
        · have hi : L.length ≤ i := by omega
          rw [levGo_end hi] at y4
          unfold levP
          rw [if_pos hp, ← y4]
          refine ⟨hM _ (by omega), ⟨y2.symm, rfl⟩, ?_⟩
          rw [Bool.eq_iff_iff]
          simp
          omega
end Go.Proofs.Ytaaealkgbklmeaa
/-
  Max over numbers: the walk.
-/
namespace Go.Proofs.Ytaaealkgbklmeaa
open Go.RowKit
set_option linter.unusedVariables false
set_option linter.unusedSimpArgs false
def maxLI : List Int → Int
  | [] => 0
  | a :: l => l.foldl max a
theorem maxLI_take {l : List Int} {k : Nat} (h1 : 1 ≤ k) (hk : k < l.length) : maxLI (l.take (k + 1)) = max (maxLI (l.take k)) l[k] := by
  cases l with
  | nil => simp at hk
  | cons a l =>
    obtain ⟨m, rfl⟩ : ∃ m, k = m + 1 := ⟨k - 1, by omega⟩
    have hm : m < l.length := by simpa using hk
    simp only [List.take_succ_cons, maxLI, List.getElem_cons_succ]
    rw [List.take_add_one, List.getElem?_eq_getElem hm, Option.toList_some, List.foldl_append]
    rfl
theorem run_max_two {P : Program} (w : World) (ts : Array TypeId) (t : TypeId) (k k' : IntKind) (x y : Int) : (Builtin.max_ ts t #[.int k x, .int k' y]).run P w = .ok (.int k (max x y)) w := by
  rw [run_max_int2, show (if y > x then y else x) = max x y from by omega]
theorem max_walk (xs : List Int) (hl : xs.length ≤ 9223372036854775807) (h0 : 0 < xs.length) (cap : Nat) (w : World) (ga off : Nat) (hc : ∀ k (h : k < xs.length), w.cell? ⟨ga, off + k, none⟩ = some (.int .i64 xs[k])) :
    Calls Try.prog 24 #[.slice (some ⟨ga, off, none⟩) xs.length cap] w fun e w' => e = .returned (.int .i64 (maxLI xs)) ∧ w' = w := by
  have hcU := PLift.up hc
  obtain ⟨x0, hx0⟩ : ∃ x, xs[0] = x := ⟨_, rfl⟩
  have hc0 : w.cell? ⟨ga, off, none⟩ = some (.int .i64 x0) := by rw [← hx0]; exact hc 0 h0
  have hm0 : Aside (maxLI (xs.take 1) = x0) := by
    show _ = _
    cases xs with
    | nil => simp at h0
    | cons a l => simpa [maxLI] using hx0
  clear hc hx0
  have hn1 : ¬ (xs.length : Int) < 1 := by omega
  have hn0 : (0 : Int) < (xs.length : Int) := by omega
  have hmx := fun w => @run_max_two Try.prog w
  go_enter Try.func24, Try.ntmps24
  go_wp2
  go_loopg [3, 4] xs.length (fun g s3 s4 wx => ∃ (k : Nat), g = xs.length + 1 - k ∧ 1 ≤ k ∧ k ≤ xs.length ∧ s4 = .int .i64 k ∧ wx = w ∧ s3 = .int .i64 (maxLI (xs.take k)))
  case atStart => exact ⟨1, by omega, Nat.le_refl _, h0, rfl, rfl, by rw [hm0.out]⟩
  case round =>
    obtain ⟨k, hg, h1, hk, rfl, rfl, rfl⟩ := hrel
    have hAG : Aside (gk = xs.length + 1 - k) := hg
    clear hg
    obtain ⟨m, hm⟩ : ∃ m, maxLI (xs.take k) = m := ⟨_, rfl⟩
    rw [hm]
    have hmA : Aside (maxLI (xs.take k) = m) := hm
    clear hm
    by_cases hkl : k < xs.length
    · obtain ⟨x, hx⟩ : ∃ x, xs[k] = x := ⟨_, rfl⟩
      have hxc : wr.cell? ⟨ga, off + k, none⟩ = some (.int .i64 x) := by rw [← hx]; exact hcU.down k hkl
      have hkz : (k : Int) < (xs.length : Int) := by omega
      have hxA : Aside (xs[k] = x) := hx
      clear hx
      go_wp2
      go_roundg (xs.length + 1 - (k + 1))
      case measure => have := hAG.out; omega
      case rel =>
        refine ⟨k + 1, rfl, by omega, by omega, by simp, rfl, ?_⟩
        rw [maxLI_take h1 hkl, hmA.out, hxA.out]
    · have : k = xs.length := by omega
      subst this
      go_wp2
      go_ret
      rw [← hmA.out, List.take_length]
      exact ⟨rfl, rfl⟩
theorem MaxI_ans (l : List Int) (h0 : 0 < l.length) : Ans Try.prog 24 [RV.d (.sl l.length (is l))] (RV.d (.int .i64 (maxLI l))) := by
  intro w S vs hG hR
  obtain ⟨vs⟩ := vs
  match vs, hR with
  | [v], hR =>
    simp only [RepRs, RepR] at hR
    have hwf := hR.1.wf
    obtain ⟨A, cap, g, f, rfl, h1, h2, h3⟩ := ints_arg hR.1
    obtain ⟨rfl, h4⟩ := h1 h0
    refine (max_walk l h3 h0 cap w g f h2).mono fun e w' h => ?_
    obtain ⟨rfl, rfl⟩ := h
    refine ⟨_, rfl, ?_, Below.refl _ _⟩
    simp only [RepR, RepD, true_and]
    have hmem : ∀ (l : List Int) (a : Int), l.foldl max a = a ∨ l.foldl max a ∈ l := by
      intro l
      induction l with
      | nil => intro a; exact .inl rfl
      | cons b l ih =>
        intro a
        rw [List.foldl_cons]
        rcases ih (max a b) with e | e
        · rw [e]
          rcases Int.le_total a b with h | h
          · rw [Int.max_eq_right h]; exact .inr (List.mem_cons_self ..)
          · rw [Int.max_eq_left h]; exact .inl rfl
        · exact .inr (List.mem_cons_of_mem _ e)
    have hin : maxLI l ∈ l := by
      cases l with
      | nil => simp at h0
      | cons a l =>
        rcases hmem l a with e | e
        · rw [maxLI, e]; exact List.mem_cons_self ..
        · exact List.mem_cons_of_mem _ e
    simp only [DV.wf] at hwf
    have hds : ∀ {l : List Int}, DV.wfs (is l) → ∀ n ∈ l, inK .i64 n := by
      intro l
      induction l with
      | nil => intro _ n h; cases h
      | cons a l ih =>
        intro h n hn
        simp only [is, List.map_cons, DV.wfs, DV.wf] at h
        rcases List.mem_cons.1 hn with rfl | hn
        · exact (inK_iff _ _).2 h.1
        · exact ih h.2 n hn
    exact hds hwf.2 _ hin
end Go.Proofs.Ytaaealkgbklmeaa
/-
  The depth of a forest, its parents, and whether it is valid.
-/
namespace Go.Proofs.Ytaaealkgbklmeaa
open Go.RowKit
set_option linter.unusedVariables false
set_option linter.unusedSimpArgs false
attribute [local irreducible] Ans AnsO AnsG AnsN AnsI
set_option maxRecDepth 4000
def depthP (ns : Nodes) (rs : List Int) : Int := if (levP ns rs).2 = true ∧ 0 < (levP ns rs).1.length then maxLI (levP ns rs).1 else 0
def gamTx : Gam where
 pure := fun f xs =>
  if f = 23 then (match xs with | [.agg [.sl an axs, .sl ar ars]] => some (RV.tup [RV.d (DV.sl ((levP (toNodes (axs)) (ints (ars))).1.length) (is (levP (toNodes (axs)) (ints (ars))).1)), RV.d (DV.bool ((levP (toNodes (axs)) (ints (ars))).2))]) | _ => none) else
  if f = 14 then (match xs with | [.agg [.sl an axs, .sl ar ars]] => some (RV.d (DV.bool ((levP (toNodes (axs)) (ints (ars))).2))) | _ => none) else
  if f = 24 then (match xs with | [.d (.sl n xs)] => some (RV.d (DV.int .i64 (maxLI (ints (xs))))) | _ => none) else
  none
 modes := fun f =>
  none
 proc := fun f xs bs =>
  none
 iter := fun f cs =>
  none
def tree_Valid_ann (ns : Nodes) (rs : List Int) : Ann := Ann.leaf
theorem tree_Valid_vc (ns : Nodes) (rs : List Int) : vcg Try.prog gamTx 11 (bodyOf Try.f14) (tree_Valid_ann ns rs) kn0 (start [RV.agg [DV.sl ns.length (nodesD ns), DV.sl rs.length (is rs)]]) (post Try.prog Try.f14.results.toList (· = RV.d (DV.bool ((levP (toNodes (nodesD ns)) (ints (is rs))).2)))) =
  (let zz0 := (DV.bool ((levP (toNodes ((nodesD ns))) (ints ((is rs)))).2)); True ∧ True ∧ True ∧ (Ans Try.prog 23 [RV.agg [DV.sl ns.length (nodesD ns), DV.sl rs.length (is rs)]] (RV.tup [RV.d (DV.sl ((levP (toNodes ((nodesD ns))) (ints ((is rs)))).1.length) (is (levP (toNodes ((nodesD ns))) (ints ((is rs)))).1)), RV.d zz0])) ∧ True ∧ True ∧ True ∧ True ∧ True ∧ True ∧ True ∧ RV.d zz0 = RV.d (DV.bool ((levP (toNodes (nodesD ns)) (ints (is rs))).2))) := by kernel_rfl
theorem tree_Valid_ans (ns : Nodes) (rs : List Int) (hl : ns.length ≤ 100000) (hg : Good ns rs) : Ans Try.prog 14 [RV.agg [DV.sl ns.length (nodesD ns), DV.sl rs.length (is rs)]] (RV.d (DV.bool ((levP (toNodes (nodesD ns)) (ints (is rs))).2))) :=
  ans_of_vcg (Γ := gamTx) (tree_Valid_ann ns rs) mixed_ Try.func14 rfl (Nat.le_of_ble_eq_true rfl) fun hwf => by
    refine Eq.mpr (tree_Valid_vc ns rs) ?_
    simp only [true_and, and_true, RV.d.injEq, RV.agg.injEq, RV.tup.injEq, DV.bool.injEq, DV.int.injEq, DV.sl.injEq, List.cons.injEq, forall_const, Bool.not_false, Bool.not_true, Bool.not_eq_true', Bool.not_eq_false', decide_eq_true_eq, decide_eq_false_iff_not, Int.toNat_natCast]
    exact tree_levels_ans ns rs hl hg
def tree_Depth_ann (ns : Nodes) (rs : List Int) : Ann := Ann.leaf
theorem tree_Depth_vc (ns : Nodes) (rs : List Int) : vcg Try.prog gamTx 19 (bodyOf Try.f20) (tree_Depth_ann ns rs) kn0 (start [RV.agg [DV.sl ns.length (nodesD ns), DV.sl rs.length (is rs)]]) (post Try.prog Try.f20.results.toList (· = RV.d (DV.int .i64 (depthP (toNodes (nodesD ns)) (ints (is rs)))))) =
  (let zz0 := (DV.sl ((levP (toNodes ((nodesD ns))) (ints ((is rs)))).1.length) (is (levP (toNodes ((nodesD ns))) (ints ((is rs)))).1)); let zz1 := (DV.int .i64 (depthP (toNodes (nodesD ns)) (ints (is rs)))); let zz2 := (DV.int .i64 (maxLI (ints ((is (levP (toNodes ((nodesD ns))) (ints ((is rs)))).1))))); True ∧ True ∧ True ∧ (Ans Try.prog 23 [RV.agg [DV.sl ns.length (nodesD ns), DV.sl rs.length (is rs)]] (RV.tup [RV.d zz0, RV.d (DV.bool ((levP (toNodes ((nodesD ns))) (ints ((is rs)))).2))])) ∧ True ∧ True ∧ True ∧ True ∧ True ∧ True ∧ True ∧ True ∧ (((!((levP (toNodes ((nodesD ns))) (ints ((is rs)))).2)) = false → True ∧ True ∧ True ∧ True ∧ ((((((levP (toNodes ((nodesD ns))) (ints ((is rs)))).1.length : Nat) : Int) == (0 : Int)) = true → True ∧ RV.d (DV.int .i64 0) = RV.d zz1) ∧ (((((levP (toNodes ((nodesD ns))) (ints ((is rs)))).1.length : Nat) : Int) == (0 : Int)) = false → True ∧ (Ans Try.prog 24 [RV.d zz0] (RV.d zz2)) ∧ True ∧ RV.d zz2 = RV.d zz1))) ∧ ((!((levP (toNodes ((nodesD ns))) (ints ((is rs)))).2)) = (!false) → True ∧ True ∧ RV.d (DV.int .i64 0) = RV.d zz1))) := by kernel_rfl
theorem tree_Depth_ans (ns : Nodes) (rs : List Int) (hl : ns.length ≤ 100000) (hg : Good ns rs) : Ans Try.prog 20 [RV.agg [DV.sl ns.length (nodesD ns), DV.sl rs.length (is rs)]] (RV.d (DV.int .i64 (depthP (toNodes (nodesD ns)) (ints (is rs))))) :=
  ans_of_vcg (Γ := gamTx) (tree_Depth_ann ns rs) mixed_ Try.func20 rfl (Nat.le_of_ble_eq_true rfl) fun hwf => by
    refine Eq.mpr (tree_Depth_vc ns rs) ?_
    simp only [true_and, and_true, RV.d.injEq, RV.agg.injEq, RV.tup.injEq, DV.bool.injEq, DV.int.injEq, DV.sl.injEq, List.cons.injEq, forall_const, Bool.not_false, Bool.not_true, Bool.not_eq_true', Bool.not_eq_false', decide_eq_true_eq, decide_eq_false_iff_not, Int.toNat_natCast]
    have aL := tree_levels_ans ns rs hl hg
    clear hwf
    simp only [toNodes_nodesD, ints_is] at aL ⊢
    unfold depthP
    refine ⟨aL, fun h => ⟨fun h0 => ?_, fun h0 => ?_⟩, fun h => ?_⟩
    · rw [if_neg (by simp at h0; rw [h0]; simp)]
    · have h1 : 0 < (levP ns rs).1.length := by
        rcases Nat.eq_zero_or_pos (levP ns rs).1.length with e | e
        · rw [e] at h0; simp at h0
        · exact e
      rw [if_pos ⟨h, h1⟩]
      exact ⟨MaxI_ans _ h1, rfl⟩
    · rw [if_neg (by rw [h]; simp)]
end Go.Proofs.Ytaaealkgbklmeaa
/-
  The example that the statements begin with.
-/
namespace Go.Proofs.Ytaaealkgbklmeaa
open Go.RowKit
set_option linter.unusedVariables false
set_option linter.unusedSimpArgs false
def opK (k : Int) : Oq := ⟨k, 0, 0, 0, 0, 0, 0, 0, 0, 0, false, false⟩
def awL : List Oq := [opK 1, opK 2, opK 1, opK 3]
def awN : Nodes := [(opK 1, []), (opK 2, [2]), (opK 1, [])]
theorem aw_build : buildT awL = (awN, [0, 1], 0) := rfl
end Go.Proofs.Ytaaealkgbklmeaa
