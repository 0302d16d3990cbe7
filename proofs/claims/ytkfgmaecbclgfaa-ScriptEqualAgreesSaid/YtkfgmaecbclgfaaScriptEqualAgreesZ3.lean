/-
  Part 3 of what ScriptEqualAgrees rests on.
-/
import Derived.WalkKit
import Derived.ProofKit
import Derived.SizedLaws
import Derived.OpenShut
import Derived.Test.YtkfgmaecbclgfaaScriptEqualAgreesZ2
import Derived.Test.YtkfgmaecbclgfaaProg
/-
  How an argument lies in memory, said of its cells by its type: what reading it as data tells (no program is named).
-/
namespace Go.Proofs.Ytkfgmaecbclgfaa
open Go.RowKit Go.ChangeShapes Go.WideShapes
set_option linter.unusedVariables false
set_option linter.unusedSimpArgs false

def Rd (P : Program) (w : World) : Nat → TypeId → List Value → Prop
  | 0, _, _ => False
  | fuel + 1, t, cs =>
    match P.underlying t with
    | some .bool => ∃ b, cs = [.bool b]
    | some (.int k) => ∃ n, cs = [.int k n] ∧ (Lit.int k n).wf = true
    | some .string => ∃ s, cs = [.string s] ∧ s.size ≤ reachBytes
    | some (.slice e) => cs = [.slice none 0 0] ∨ ∃ a len cap, cs = [.slice (some a) len cap] ∧ len ≤ cap ∧ cap ≤ maxLen ∧ cap * P.bytesOf e ≤ reachBytes ∧
        ∀ i, i < cap → ∃ cs', w.cells? 0 (a.add (i * P.cellsOf e)) (P.cellsOf e) = some cs' ∧ Rd P w fuel e cs'
    | some (.struct fs) => cs.length = P.cellsOf t ∧ ∀ f ∈ fs.toList, Rd P w fuel f.type ((cs.drop f.offset).take (P.cellsOf f.type))
    | some (.array n e) => cs.length = P.cellsOf t ∧ ∀ i, i < n → Rd P w fuel e ((cs.drop (i * P.cellsOf e)).take (P.cellsOf e))
    | _ => True

section
variable {H : Type} {enc : TypeId × Value → H} {P : Program} {w : World}

theorem weightsAll_of {e : TypeId} {n : Nat} : ∀ {l : List (DataW H)} {d : DataW H}, d ∈ l → n ∈ d.weights P e → n ∈ DataW.weightsAll P e l
  | x :: r, d, hd, hn => by
    simp only [DataW.weightsAll, List.mem_append]
    rcases List.mem_cons.1 hd with rfl | h
    · exact .inl hn
    · exact .inr (weightsAll_of h hn)
theorem weightsEach_of {n : Nat} : ∀ {ts : List TypeId} {ds : List (DataW H)} {i : Nat} {t : TypeId} {d : DataW H}, ts[i]? = some t → ds[i]? = some d → n ∈ d.weights P t → n ∈ DataW.weightsEach P ts ds
  | t :: ts, d :: ds, 0, _, _, ht, hd, hn => by
    simp at ht hd; subst ht hd
    simp only [DataW.weightsEach, List.mem_append]
    exact .inl hn
  | t :: ts, d :: ds, i + 1, _, _, ht, hd, hn => by
    simp only [DataW.weightsEach, List.mem_append]
    exact .inr (weightsEach_of (by simpa using ht) (by simpa using hd) hn)
  | [], _, _, _, _, ht, _, _ => by simp at ht
  | _ :: _, [], _, _, _, _, hd, _ => by simp at hd

theorem rd_of_trod : ∀ (fuel : Nat) (t : TypeId) (cs : List Value) (d : DataW H) (ps : List MemPlace),
    DataW.trod enc P w 0 (fun _ => true) true fuel t cs = some (d, ps) → (∀ n ∈ d.weights P t, n ≤ reachBytes) → Rd P w fuel t cs := by
  intro fuel
  induction fuel with
  | zero => intro t cs d ps h; simp [DataW.trod] at h
  | succ fuel ih =>
    intro t cs d ps h hw
    unfold DataW.trod at h
    unfold Rd
    split at h
    · rename_i b hu; simp only [hu]; exact ⟨_, rfl⟩
    · rename_i k k' n hu
      simp only [hu]
      split at h
      · rename_i hk; obtain ⟨rfl, hwf⟩ := hk; exact ⟨_, rfl, hwf⟩
      · cases h
    · rename_i hu; simp only [hu]
    · rename_i s hu
      simp only [hu]
      split at h
      · simp only [Option.some.injEq, Prod.mk.injEq] at h
        obtain ⟨rfl, _⟩ := h
        exact ⟨_, rfl, by have := hw s.data.toList.length (List.mem_singleton.2 rfl); rw [Array.length_toList] at this; exact this⟩
      · cases h
    · rename_i hu; simp only [hu]
    · rename_i hu; simp only [hu]
    · rename_i hu; simp only [hu]; exact .inl trivial
    · rename_i e a len cap hu
      simp only [hu]
      split at h
      · rename_i hc
        obtain ⟨_, hl, hm⟩ := hc
        simp only [if_true] at h
        obtain ⟨elems, he, h⟩ := Option.bind_eq_some_iff.1 h
        obtain ⟨rest, hr, h⟩ := Option.map_eq_some_iff.1 h
        simp only [Prod.mk.injEq] at h
        obtain ⟨rfl, _⟩ := h
        have le := mapM_some_length he
        have lr := mapM_some_length hr
        simp only [List.length_range] at le lr
        have hwt : DataW.weights P t (.slice (elems.map (·.1)) (rest.map (·.1))) = ((elems.map (·.1)).length + (rest.map (·.1)).length) * P.bytesOf e :: (DataW.weightsAll P e (elems.map (·.1)) ++ DataW.weightsAll P e (rest.map (·.1))) := by
          simp only [DataW.weights, hu]
        rw [hwt] at hw
        refine .inr ⟨a, len, cap, rfl, hl, hm, ?_, ?_⟩
        · have := hw _ (.head _)
          simp only [List.length_map, le, lr] at this
          rwa [show len + (cap - len) = cap from by omega] at this
        · have key : ∀ (i : Nat) (x : DataW H × List MemPlace), ((w.cells? 0 (a.add (i * P.cellsOf e)) (P.cellsOf e)).bind (DataW.trod enc P w 0 (fun _ => true) true fuel e)) = some x → (∀ n ∈ x.1.weights P e, n ≤ reachBytes) →
              ∃ cs', w.cells? 0 (a.add (i * P.cellsOf e)) (P.cellsOf e) = some cs' ∧ Rd P w fuel e cs' := by
            intro i x hx hxw
            obtain ⟨cs', h1, h2⟩ := Option.bind_eq_some_iff.1 hx
            exact ⟨cs', h1, ih e cs' x.1 x.2 h2 hxw⟩
          intro i hi
          rcases Nat.lt_or_ge i len with hlt | hge
          · have hx : elems[i]? = some (elems[i]'(by omega)) := List.getElem?_eq_getElem (by omega)
            have h1 := mapM_some_get he i i (by simp [hlt])
            rw [hx] at h1
            refine key i _ h1 fun n hn => hw n (.tail _ (List.mem_append.2 (.inl (weightsAll_of (List.mem_map.2 ⟨_, List.getElem_mem (by omega), rfl⟩) hn))))
          · have hx : rest[i - len]? = some (rest[i - len]'(by omega)) := List.getElem?_eq_getElem (by omega)
            have h1 := mapM_some_get hr (i - len) (i - len) (List.getElem?_range (by omega))
            rw [hx, show len + (i - len) = i from by omega] at h1
            refine key i _ h1 fun n hn => hw n (.tail _ (List.mem_append.2 (.inr (weightsAll_of (List.mem_map.2 ⟨_, List.getElem_mem (by omega), rfl⟩) hn))))
      · cases h
    · rename_i fs hu
      simp only [hu]
      split at h
      · rename_i hlen
        obtain ⟨xs, hxs, h⟩ := Option.map_eq_some_iff.1 h
        simp only [Prod.mk.injEq] at h
        obtain ⟨rfl, _⟩ := h
        refine ⟨hlen, fun f hf => ?_⟩
        obtain ⟨i, hi, rfl⟩ := List.getElem_of_mem hf
        have hl := mapM_some_length hxs
        have hx : xs[i]? = some (xs[i]'(by omega)) := List.getElem?_eq_getElem (by omega)
        have h1 := mapM_some_get hxs i _ (List.getElem?_eq_getElem hi)
        rw [hx] at h1
        refine ih _ _ _ _ h1 fun n hn => hw n ?_
        simp only [DataW.weights, hu]
        exact weightsEach_of (i := i) (by rw [List.getElem?_map, List.getElem?_eq_getElem hi]; rfl) (by rw [List.getElem?_map, hx]; rfl) hn
      · cases h
    · rename_i n e hu
      simp only [hu]
      split at h
      · rename_i hlen
        obtain ⟨xs, hxs, h⟩ := Option.map_eq_some_iff.1 h
        simp only [Prod.mk.injEq] at h
        obtain ⟨rfl, _⟩ := h
        refine ⟨hlen, fun i hi => ?_⟩
        have hl := mapM_some_length hxs
        simp only [List.length_range] at hl
        have hx : xs[i]? = some (xs[i]'(by omega)) := List.getElem?_eq_getElem (by omega)
        have h1 := mapM_some_get hxs i i (by simp [hi])
        rw [hx] at h1
        refine ih _ _ _ _ h1 fun n hn => hw n ?_
        simp only [DataW.weights, hu]
        exact weightsAll_of (List.mem_map.2 ⟨_, List.getElem_mem (by omega), rfl⟩) hn
      · cases h
    all_goals first | (cases h; done) | (rename_i hu; simp only [hu])
end

/-! ### what a law's walk is told of its arguments -/
def Arg (P : Program) (w : World) (t : TypeId) (v : Value) : Prop :=
  (∃ fuel, Rd P w fuel t v.cells.toList) ∧
    match P.underlying t with
    | some (.struct _) | some (.array _ _) => ∃ cs, v = .agg cs
    | _ => v.cells = #[v]

def Args (P : Program) (w : World) : List TypeId → List Value → Prop
  | [], [] => True
  | t :: ts, v :: vs => Arg P w t v ∧ Args P w ts vs
  | _, _ => False

theorem cells_of_okWide {P : Program} {w : World} {r : Reach} {base : Nat} {t : TypeId} {v : Value} (h : Value.okWide P w r base t v) :
    match P.underlying t with
    | some (.struct _) | some (.array _ _) => ∃ cs, v = .agg cs
    | _ => v.cells = #[v] := by
  unfold Value.okWide at h
  split
  · rename_i hu
    simp only [hu] at h
    obtain ⟨cs, rfl, _⟩ := h
    exact ⟨_, rfl⟩
  · rename_i hu
    simp only [hu] at h
    obtain ⟨cs, rfl, _⟩ := h
    exact ⟨_, rfl⟩
  · rename_i h1 h2
    have h' : Cell.okWide P w r base t v := by
      split at h
      · rename_i hu; exact absurd hu (by intro e; exact h1 _ e)
      · rename_i hu; exact absurd hu (by intro e; exact h2 _ _ e)
      · exact h
    cases v with
    | agg cs =>
      exfalso
      unfold Cell.okWide at h'
      split at h' <;> first | (rename_i hv; cases hv; done) | skip
      unfold Cell.ok at h'
      split at h' <;> first | (rename_i hv; cases hv; done) | exact h'
    | _ => rfl

section
variable {H : Type} {enc : TypeId × Value → H}
theorem args_of_trodAll {P : Program} {w : World} : ∀ {ts : List TypeId} {vs : List Value} {ds : List (DataW H)} {ps : List MemPlace}, DataW.TrodAll enc P w 0 (fun _ => true) true ts vs ds ps →
    (∀ n ∈ DataW.weightsEach P ts ds, n ≤ reachBytes) →
    (∀ (j : Nat) t v, ts[j]? = some t → vs[j]? = some v → match P.underlying t with | some (.struct _) | some (.array _ _) => ∃ cs, v = .agg cs | _ => v.cells = #[v]) → Args P w ts vs ∧ ds.length = ts.length
  | [], [], [], _, _, _, _ => ⟨trivial, rfl⟩
  | t :: ts, v :: vs, d :: ds, _, h, hw, hv => by
    obtain ⟨p, q, ⟨fuel, hf⟩, hr, _⟩ := h
    have hrest := args_of_trodAll hr (fun n hn => hw n (by simp only [DataW.weightsEach, List.mem_append]; exact .inr hn)) (fun j t v ht hv' => hv (j + 1) t v (by simpa using ht) (by simpa using hv'))
    exact ⟨⟨⟨⟨fuel, rd_of_trod fuel t _ d p hf (fun n hn => hw n (by simp only [DataW.weightsEach, List.mem_append]; exact .inl hn))⟩, hv 0 t v rfl rfl⟩, hrest.1⟩, by simp [hrest.2]⟩
  | [], [], _ :: _, _, h, _, _ => h.elim
  | [], _ :: _, _, _, h, _, _ => h.elim
  | _ :: _, [], _, _, h, _, _ => h.elim
  | _ :: _, _ :: _, [], _, h, _, _ => h.elim

theorem trodAll_below {P : Program} (laid : laidOutB P = true) {W W' : World} (hb : Below W.heap.size W W') : ∀ {ts : List TypeId} {vs : List Value} {ds : List (DataW H)} {ps : List MemPlace},
    (∀ t ∈ ts, P.readableRec t = true ∧ t < P.types.size) → DataW.TrodAll enc P W 0 (fun _ => true) true ts vs ds ps → DataW.TrodAll enc P W' 0 (fun b => decide (b < W.heap.size)) true ts vs ds ps
  | [], [], [], _, _, h => h
  | t :: ts, v :: vs, d :: ds, _, hr, h => by
    obtain ⟨p, q, hd, hrest, rfl⟩ := h
    have hlt : ∀ x ∈ p, x.block < W.heap.size := by obtain ⟨m, hm⟩ := hd; exact DataW.trod_lt m _ _ _ hm
    exact ⟨p, q, Below.trod laid (hr t (.head _)).1 (hr t (.head _)).2 hd hb hlt, trodAll_below laid hb (fun t' ht' => hr t' (.tail _ ht')) hrest, rfl⟩
  | [], [], _ :: _, _, _, h => h.elim
  | [], _ :: _, _, _, _, h => h.elim
  | _ :: _, [], _, _, _, h => h.elim
  | _ :: _, _ :: _, [], _, _, h => h.elim

/-- FROM A LAW's WALK TO ITS ROW: whatever the parameters are. -/
theorem law_lift {C : Checked} {os : Os} {f : FuncId} {fn : Func} {s : ChangeSpec} {tb : TypeId}
    (own : ownKnob C.prog.godebug = none) (started : os.Started) (noInit : C.prog.inits.idxOf? f = none) (hfn : C.prog.funcs[f]? = some fn)
    (witness : ∃ (w : World) (tape : Tape) (i : Input), w.os = os ∧ (w.forCall tape i).Shaped C.prog ∧ i.vars = [] ∧ Input.okWide C.prog (w.forCall tape i) .any w.heap.size f i ∧
      s.pre6 enc C.prog fn [] false (w.forCall tape i).memory i.args ∧ ({} : Assume).holds C.prog (lone (Frame.enter C.prog f i.args .normal) [] (w.forCall tape i)))
    (hspec : ∀ ds : List (DataW H), ds.length = fn.params.toList.length → s.fn H ds = { results := [.lit (.bool true)], args := ds }) (hvars : s.vars = [])
    (hres : fn.resultTypes = #[tb]) (hb : C.prog.underlying tb = some .bool) (laid : laidOutB C.prog = true)
    (hread : ∀ t ∈ fn.params.toList, C.prog.readableRec t = true ∧ t < C.prog.types.size)
    (walk : ∀ (W : World) (args : Array Value), Args C.prog W fn.params.toList args.toList → Calls C.prog f args W fun e W' => e = .returned (.bool true) ∧ Below W.heap.size W W') :
    ReturnsInHanded {} C os f .any (s.pre6 enc C.prog fn [] false) (s.post enc C.prog fn false true false false) := by
  refine returnsInHanded_of_change_sized own started noInit hfn witness ?_
  intro W base args ds gs before hval hW _ hsz _
  have hW' := hW
  obtain ⟨p, q, hA, hV, rfl, _, _⟩ := hW
  rw [hvars] at hV
  obtain ⟨rfl, rfl⟩ := trodVars_none hV
  have hvt : s.plain.varTypes C.prog = [] := by simp [ChangeSpec.plain, DataSpec.varTypes, hvars]
  rw [hvt, List.append_nil, List.append_nil] at hsz
  obtain ⟨ha, hlen⟩ := args_of_trodAll hA (fun n hn => by simpa using List.all_eq_true.1 hsz n hn) (fun j t v ht hv => cells_of_okWide (hval j t v (by simpa using ht) (by simpa using hv)))
  refine (walk W args ha).mono fun e W' ⟨he, bel⟩ => ?_
  subst he
  have hs := hspec ds hlen
  refine ⟨_, rfl, ds, [], p ++ [], [], p, [], hW', ?_, ?_, ?_, bel.frame _, fun h => by cases h⟩
  · rw [List.append_nil, hs, hres]
    exact trodAll_mk1 (shut_bool hb _)
  · rw [List.append_nil, hs]
    exact trodAll_below laid bel hread hA
  · rw [List.append_nil, hs, hvars]
    rfl
end

/-! ### opening by the type -/
section
variable {P : Program} {w : World} {fuel : Nat} {t : TypeId} {cs : List Value}
theorem Rd.int {k : IntKind} (hu : P.underlying t = some (.int k)) (h : Rd P w fuel t cs) : ∃ n, cs = [.int k n] ∧ (Lit.int k n).wf = true := by
  cases fuel with
  | zero => exact h.elim
  | succ fuel => unfold Rd at h; simp only [hu] at h; exact h
theorem Rd.bool (hu : P.underlying t = some .bool) (h : Rd P w fuel t cs) : ∃ b, cs = [.bool b] := by
  cases fuel with
  | zero => exact h.elim
  | succ fuel => unfold Rd at h; simp only [hu] at h; exact h
theorem Rd.str (hu : P.underlying t = some .string) (h : Rd P w fuel t cs) : ∃ s, cs = [.string s] ∧ s.size ≤ reachBytes := by
  cases fuel with
  | zero => exact h.elim
  | succ fuel => unfold Rd at h; simp only [hu] at h; exact h
theorem Rd.slice {e : TypeId} (hu : P.underlying t = some (.slice e)) (h : Rd P w fuel t cs) :
    cs = [.slice none 0 0] ∨ ∃ a len cap, cs = [.slice (some a) len cap] ∧ len ≤ cap ∧ cap ≤ maxLen ∧ cap * P.bytesOf e ≤ reachBytes ∧
        ∀ i, i < cap → ∃ cs', w.cells? 0 (a.add (i * P.cellsOf e)) (P.cellsOf e) = some cs' ∧ ∃ fuel, Rd P w fuel e cs' := by
  cases fuel with
  | zero => exact h.elim
  | succ fuel =>
    unfold Rd at h; simp only [hu] at h
    rcases h with h | ⟨a, len, cap, h1, h2, h3, h4, h5⟩
    · exact .inl h
    · exact .inr ⟨a, len, cap, h1, h2, h3, h4, fun i hi => let ⟨cs', a1, a2⟩ := h5 i hi; ⟨cs', a1, fuel, a2⟩⟩
theorem Rd.struct {fs : Array Field} (hu : P.underlying t = some (.struct fs)) (h : Rd P w fuel t cs) :
    cs.length = P.cellsOf t ∧ ∀ f ∈ fs.toList, ∃ fuel, Rd P w fuel f.type ((cs.drop f.offset).take (P.cellsOf f.type)) := by
  cases fuel with
  | zero => exact h.elim
  | succ fuel =>
    unfold Rd at h; simp only [hu] at h
    exact ⟨h.1, fun f hf => ⟨fuel, h.2 f hf⟩⟩
theorem Rd.array {e : TypeId} {n : Nat} (hu : P.underlying t = some (.array n e)) (h : Rd P w fuel t cs) :
    cs.length = P.cellsOf t ∧ ∀ i, i < n → ∃ fuel, Rd P w fuel e ((cs.drop (i * P.cellsOf e)).take (P.cellsOf e)) := by
  cases fuel with
  | zero => exact h.elim
  | succ fuel =>
    unfold Rd at h; simp only [hu] at h
    exact ⟨h.1, fun i hi => ⟨fuel, h.2 i hi⟩⟩
end
/-! ### a struct's or an array's cells, one by one -/
def leavesOf (P : Program) (f : TypeId → Option (List TypeId)) : List Field → Nat → Option (List TypeId)
  | [], _ => some []
  | fd :: r, off => (f fd.type).bind fun l => if fd.offset = off ∧ P.cellsOf fd.type = l.length then (leavesOf P f r (off + l.length)).map (l ++ ·) else none

def leaves (P : Program) : Nat → TypeId → Option (List TypeId)
  | 0, _ => none
  | k + 1, t =>
    match P.underlying t with
    | some (.struct fs) => leavesOf P (leaves P k) fs.toList 0
    | some (.array n e) => (leaves P k e).bind fun l => if P.cellsOf e = l.length then some (List.replicate n l).flatten else none
    | some .bool | some (.int _) | some .string | some (.slice _) => some [t]
    | _ => none

section
variable {P : Program} {w : World}
theorem leavesOf_at {f : TypeId → Option (List TypeId)} {cs : List Value}
    (hf : ∀ (t : TypeId) (ts : List TypeId) (fuel : Nat) (cs : List Value), f t = some ts → Rd P w fuel t cs → ∀ (i : Nat) (t' : TypeId), ts[i]? = some t' → ∃ c g, cs[i]? = some c ∧ Rd P w g t' [c]) :
    ∀ (fs : List Field) (off : Nat) (ts : List TypeId), leavesOf P f fs off = some ts → (∀ fd ∈ fs, ∃ fuel, Rd P w fuel fd.type ((cs.drop fd.offset).take (P.cellsOf fd.type))) →
    ∀ (i : Nat) (t' : TypeId), ts[i]? = some t' → ∃ c g, cs[off + i]? = some c ∧ Rd P w g t' [c]
  | [], _, ts, h, _, i, t', hi => by simp [leavesOf] at h; subst h; simp at hi
  | fd :: r, off, ts, h, hr, i, t', hi => by
    unfold leavesOf at h
    obtain ⟨l, hl, h⟩ := Option.bind_eq_some_iff.1 h
    split at h
    · rename_i hc
      obtain ⟨ho, hn⟩ := hc
      obtain ⟨ts', hts, h⟩ := Option.map_eq_some_iff.1 h
      subst h
      rcases Nat.lt_or_ge i l.length with hlt | hge
      · rw [List.getElem?_append_left hlt] at hi
        obtain ⟨fuel, hrd⟩ := hr fd (.head _)
        obtain ⟨c, g, h1, h2⟩ := hf fd.type l fuel _ hl hrd i t' hi
        refine ⟨c, g, ?_, h2⟩
        rw [List.getElem?_take, if_pos (by omega), List.getElem?_drop, ho] at h1
        exact h1
      · rw [List.getElem?_append_right hge] at hi
        obtain ⟨c, g, h1, h2⟩ := leavesOf_at hf r (off + l.length) ts' hts (fun fd' h' => hr fd' (.tail _ h')) (i - l.length) t' hi
        exact ⟨c, g, by rw [← h1]; congr 1; omega, h2⟩
    · cases h

theorem flatten_at {l : List TypeId} (hl : 0 < l.length) : ∀ (n i : Nat) (t : TypeId), (List.replicate n l).flatten[i]? = some t → i / l.length < n ∧ l[i % l.length]? = some t
  | 0, i, t, h => by simp at h
  | n + 1, i, t, h => by
    rw [List.replicate_succ, List.flatten_cons] at h
    rcases Nat.lt_or_ge i l.length with hlt | hge
    · rw [List.getElem?_append_left hlt] at h
      rw [Nat.div_eq_of_lt hlt, Nat.mod_eq_of_lt hlt]
      exact ⟨by omega, h⟩
    · rw [List.getElem?_append_right hge] at h
      obtain ⟨h1, h2⟩ := flatten_at hl n (i - l.length) t h
      have e : i = (i - l.length) + l.length := by omega
      rw [e, Nat.add_div_right _ hl, Nat.add_mod_right]
      exact ⟨by omega, h2⟩

theorem rd_leaves : ∀ (k : Nat) (t : TypeId) (ts : List TypeId) (fuel : Nat) (cs : List Value), leaves P k t = some ts → Rd P w fuel t cs →
    ∀ (i : Nat) (t' : TypeId), ts[i]? = some t' → ∃ c g, cs[i]? = some c ∧ Rd P w g t' [c]
  | 0, _, _, _, _, h, _, _, _, _ => by simp [leaves] at h
  | k + 1, t, ts, fuel, cs, h, hr, i, t', hi => by
    unfold leaves at h
    split at h
    · rename_i fs hu
      obtain ⟨_, hfs⟩ := hr.struct hu
      have := leavesOf_at (fun t ts fuel cs h hr => rd_leaves k t ts fuel cs h hr) fs.toList 0 ts h hfs i t' hi
      simpa using this
    · rename_i n e hu
      obtain ⟨l, hl, h⟩ := Option.bind_eq_some_iff.1 h
      split at h
      · rename_i hc
        simp only [Option.some.injEq] at h
        subst h
        obtain ⟨_, hel⟩ := hr.array hu
        rcases Nat.eq_zero_or_pos l.length with h0 | hpos
        · have : l = [] := List.eq_nil_of_length_eq_zero h0
          subst this; simp at hi
        · obtain ⟨h1, h2⟩ := flatten_at hpos n i t' hi
          obtain ⟨fuel', hrd⟩ := hel (i / l.length) h1
          obtain ⟨c, g, h3, h4⟩ := rd_leaves k e l fuel' _ hl hrd (i % l.length) t' h2
          refine ⟨c, g, ?_, h4⟩
          rw [List.getElem?_take, if_pos (by rw [hc]; exact Nat.mod_lt _ hpos), List.getElem?_drop, hc, Nat.mul_comm, Nat.div_add_mod] at h3
          exact h3
      · cases h
    all_goals first | (cases h; done) | skip
    all_goals
      rename_i hu
      simp only [Option.some.injEq] at h
      subst h
      match i, hi with
      | 0, hi =>
        simp only [List.getElem?_cons_zero, Option.some.injEq] at hi
        subst hi
        first
        | (obtain ⟨b, rfl⟩ := hr.bool hu; exact ⟨_, fuel, rfl, hr⟩)
        | (obtain ⟨b, rfl, _⟩ := hr.int hu; exact ⟨_, fuel, rfl, hr⟩)
        | (obtain ⟨b, rfl, _⟩ := hr.str hu; exact ⟨_, fuel, rfl, hr⟩)
        | (rcases hr.slice hu with h | ⟨a, len, cap, h, _⟩
           · subst h; exact ⟨_, fuel, rfl, hr⟩
           · subst h; exact ⟨_, fuel, rfl, hr⟩)
      | i + 1, hi => simp at hi

theorem Rd.leaf {k : Nat} {t : TypeId} {ts : List TypeId} {fuel : Nat} {cs : List Value} (h : Rd P w fuel t cs) (hl : leaves P k t = some ts) (i : Nat) {t' : TypeId} (ht : ts[i]? = some t') {c : Value} (hc : cs[i]? = some c) :
    ∃ g, Rd P w g t' [c] := by
  obtain ⟨c', g, h1, h2⟩ := rd_leaves k t ts fuel cs hl h i t' ht
  rw [hc] at h1
  cases h1
  exact ⟨g, h2⟩
theorem Args.cons {t : TypeId} {ts : List TypeId} {vs : List Value} (h : Args P w (t :: ts) vs) : ∃ v vs', vs = v :: vs' ∧ Arg P w t v ∧ Args P w ts vs' := by
  cases vs with
  | nil => exact h.elim
  | cons v vs => exact ⟨v, vs, rfl, h.1, h.2⟩
theorem Args.nil {vs : List Value} (h : Args P w [] vs) : vs = [] := by
  cases vs with
  | nil => rfl
  | cons v vs => exact h.elim
/-- a parameter that is one cell -/
theorem Arg.one {t : TypeId} {v : Value} (h : Arg P w t v) (hu : ∀ fs, P.underlying t ≠ some (.struct fs)) (ha : ∀ n e, P.underlying t ≠ some (.array n e)) : ∃ g, Rd P w g t [v] := by
  obtain ⟨⟨g, hr⟩, hv⟩ := h
  split at hv
  · rename_i fs he; exact absurd he (hu fs)
  · rename_i n e he; exact absurd he (ha n e)
  · rw [hv] at hr; exact ⟨g, hr⟩
theorem Arg.int {t : TypeId} {v : Value} {k : IntKind} (h : Arg P w t v) (hu : P.underlying t = some (.int k)) : ∃ n, v = .int k n ∧ (Lit.int k n).wf = true := by
  obtain ⟨g, hr⟩ := h.one (by rw [hu]; simp) (by rw [hu]; simp)
  obtain ⟨n, hn, hw⟩ := hr.int hu
  simp only [List.cons.injEq, and_true] at hn
  exact ⟨n, hn, hw⟩
/-- a parameter that is a struct or an array: its cells -/
theorem Arg.many {t : TypeId} {v : Value} {n : Nat} (h : Arg P w t v) (hu : (∃ fs, P.underlying t = some (.struct fs)) ∨ ∃ n e, P.underlying t = some (.array n e)) (hn : P.cellsOf t = n) :
    ∃ cs : List Value, v = .agg cs.toArray ∧ cs.length = n ∧ ∃ g, Rd P w g t cs := by
  obtain ⟨⟨g, hr⟩, hv⟩ := h
  rcases hu with ⟨fs, hu⟩ | ⟨m, e, hu⟩
  · simp only [hu] at hv
    obtain ⟨⟨l⟩, rfl⟩ := hv
    exact ⟨l, rfl, by rw [← hn]; exact (hr.struct hu).1, g, hr⟩
  · simp only [hu] at hv
    obtain ⟨⟨l⟩, rfl⟩ := hv
    exact ⟨l, rfl, by rw [← hn]; exact (hr.array hu).1, g, hr⟩
end

end Go.Proofs.Ytkfgmaecbclgfaa

/-
  What a law is handed, as data by its types; and from a law's answer to its row.
-/
namespace Go.Proofs.Ytkfgmaecbclgfaa
open Go.RowKit Go.ChangeShapes Go.WideShapes
set_option linter.unusedVariables false
set_option linter.unusedSimpArgs false

def lv (P : Program) (e : TypeId) : Option (List TypeId) :=
  match leaves P 8 e with
  | some ls => if ls.length = P.cellsOf e ∧ 0 < ls.length then some ls else none
  | none => none
/-- what a cell of a type is -/
def LeafD (P : Program) : Nat → TypeId → DV → Prop
  | 0, _, _ => False
  | k + 1, t, d =>
    match P.underlying t with
    | some .bool => ∃ b, d = .bool b
    | some (.int q) => ∃ n, d = .int q n
    | some .string => ∃ s, d = .str s
    | some (.slice e) => ∃ n xs, d = .sl n xs ∧ n * P.bytesOf e ≤ reachBytes ∧ match lv P e with
      | some ls => xs.length = n * ls.length ∧ ∀ (j : Nat) d', xs[j]? = some d' → ∃ t', ls[j % ls.length]? = some t' ∧ LeafD P k t' d'
      | none => xs = []
    | _ => False
def deepT (P : Program) : Nat → TypeId → Bool
  | 0, _ => false
  | k + 1, t =>
    match P.underlying t with
    | some .bool | some (.int _) | some .string => true
    | some (.slice e) => match lv P e with
      | some ls => ls.all (deepT P k)
      | none => true
    | _ => false
theorem pick_list {α : Type} {Q : Nat → α → Prop} : ∀ n : Nat, (∀ j, j < n → ∃ d, Q j d) → ∃ xs : List α, xs.length = n ∧ ∀ (j : Nat) d, xs[j]? = some d → Q j d
  | 0, _ => ⟨[], rfl, fun j d h => by simp at h⟩
  | n + 1, h => by
    obtain ⟨xs, h1, h2⟩ := pick_list n fun j hj => h j (by omega)
    obtain ⟨d, hd⟩ := h n (by omega)
    refine ⟨xs ++ [d], by simp [h1], fun j d' hj => ?_⟩
    by_cases hlt : j < n
    · rw [List.getElem?_append_left (by omega)] at hj; exact h2 j d' hj
    · rw [List.getElem?_append_right (by omega)] at hj
      have : j - xs.length = 0 := by
        have := (List.getElem?_eq_some_iff.1 hj).1
        simp at this; omega
      rw [this] at hj
      simp at hj
      subst hj
      have : j = n := by omega
      subst this; exact hd
section
variable {P : Program} {w : World}
theorem lv_leaves {P : Program} {e : TypeId} {ls : List TypeId} (h : lv P e = some ls) : leaves P 8 e = some ls ∧ ls.length = P.cellsOf e ∧ 0 < ls.length := by
  unfold lv at h
  split at h
  · rename_i l hl
    split at h
    · rename_i hc; injection h with h; subst h; exact ⟨hl, hc.1, hc.2⟩
    · cases h
  · cases h
theorem addr_add' (a : Addr) (i j : Nat) (h : a.spot = none) : (a.add i).add j = ⟨a.block, a.off + (i + j), none⟩ := by
  obtain ⟨b, o, sp⟩ := a
  simp only at h
  subst h
  rw [addr_add, addr_add, Nat.add_assoc]
theorem rep_leaf : ∀ (k : Nat) (t : TypeId), deepT P k t = true → ∀ (fuel : Nat) (v : Value), Rd P w fuel t [v] → ∃ d, RepD w (fun _ => True) d v ∧ LeafD P k t d
  | 0, _, h, _, _, _ => by cases h
  | k + 1, t, ho, fuel, v, h => by
    unfold deepT at ho
    unfold LeafD
    split at ho
    · rename_i hu
      obtain ⟨b, hb⟩ := h.bool hu
      simp only [List.cons.injEq, and_true] at hb
      subst hb
      exact ⟨.bool b, by simp only [RepD], b, rfl⟩
    · rename_i q hu
      obtain ⟨n, hn, hw⟩ := h.int hu
      simp only [List.cons.injEq, and_true] at hn
      subst hn
      exact ⟨.int q n, by simp only [RepD]; exact ⟨trivial, hw⟩, n, rfl⟩
    · rename_i hu
      obtain ⟨s, hs, hw⟩ := h.str hu
      simp only [List.cons.injEq, and_true] at hs
      subst hs
      refine ⟨.str s, by simp only [RepD, true_and]; unfold reachBytes at hw; unfold maxLen; omega, s, rfl⟩
    · rename_i e hu
      rcases h.slice hu with h | ⟨a, len, cap, h1, h2, h3, h4, h5⟩
      · simp only [List.cons.injEq, and_true] at h
        subst h
        refine ⟨.sl 0 [], by simp only [RepD]; exact ⟨none, 0, rfl, Nat.le_refl _, Nat.zero_le _, fun e => absurd rfl e⟩, 0, [], rfl, by simp, ?_⟩
        split
        · exact ⟨by simp, fun j d h => by simp at h⟩
        · rfl
      · simp only [List.cons.injEq, and_true] at h1
        subst h1
        have hby : len * P.bytesOf e ≤ reachBytes := Nat.le_trans (Nat.mul_le_mul_right _ h2) h4
        cases hl : lv P e with
        | none => exact ⟨.sl len [], by simp only [RepD]; exact ⟨some a, cap, rfl, h2, h3, fun e => absurd rfl e⟩, len, [], rfl, hby, rfl⟩
        | some ls =>
          rw [hl] at ho
          simp only [List.all_eq_true] at ho
          obtain ⟨g1, g2, g3⟩ := lv_leaves hl
          have hcell : ∀ j, j < len * ls.length → ∃ d, a.spot = none ∧ (∃ u, w.cell? ⟨a.block, a.off + j, none⟩ = some u ∧ RepD w (fun _ => True) d u) ∧ ∃ t', ls[j % ls.length]? = some t' ∧ LeafD P k t' d := by
            intro j hj
            have hi : j / ls.length < len := by rw [Nat.div_lt_iff_lt_mul g3]; exact hj
            obtain ⟨cs', c1, fuel', c2⟩ := h5 (j / ls.length) (by omega)
            have hm : j % ls.length < ls.length := Nat.mod_lt _ g3
            obtain ⟨c, g, e1, e2⟩ := rd_leaves 8 e ls fuel' cs' g1 c2 (j % ls.length) (ls[j % ls.length]) (by simp [hm])
            obtain ⟨d, f1, f2⟩ := rep_leaf k ls[j % ls.length] (ho _ (List.getElem_mem hm)) g c e2
            obtain ⟨_, c3, c4⟩ := World.cells?_some c1
            have hc := c4 (j % ls.length) (by omega)
            rw [e1] at hc
            have hpos : 0 < cap := Nat.lt_of_lt_of_le (Nat.lt_of_le_of_lt (Nat.zero_le _) hi) h2
            have hcp : 0 < P.cellsOf e := by omega
            have hs : a.spot = none := by
              cases hsp : a.spot with
              | none => rfl
              | some x =>
                exfalso
                obtain ⟨cs0, d0, _⟩ := h5 0 hpos
                obtain ⟨_, hlen, d1⟩ := World.cells?_some d0
                have c0 := d1 0 hcp
                rw [Nat.zero_mul, show a.add 0 = a from by simp [Addr.add], show a.add 0 = a from by simp [Addr.add]] at c0
                have : w.cell? a = none := by
                  unfold World.cell?
                  split
                  · simp [hsp]
                  · rfl
                rw [this] at c0
                have := List.getElem?_eq_none_iff.1 c0.symm
                omega
            refine ⟨d, hs, ⟨c, ?_, f1⟩, _, by simp [hm], f2⟩
            rw [addr_add' _ _ _ hs, ← g2, Nat.mul_comm, Nat.div_add_mod] at hc
            exact hc
          obtain ⟨xs, x1, x2⟩ := pick_list (len * ls.length) hcell
          refine ⟨.sl len xs, ?_, len, xs, rfl, hby, x1, fun j d' hj => (x2 j d' hj).2.2⟩
          simp only [RepD]
          refine ⟨some a, cap, rfl, h2, h3, fun hne => ⟨a.block, a.off, ?_, trivial, .of_at fun i d hi => (x2 i d hi).2.1⟩⟩
          cases xs with
          | nil => exact absurd rfl hne
          | cons d ds =>
            have hs := (x2 0 d rfl).1
            obtain ⟨b, o, sp⟩ := a
            simp only at hs
            subst hs
            rfl
    · cases ho

/-- a parameter, as data -/
def ParamR (P : Program) (t : TypeId) (r : RV) : Prop :=
  match P.underlying t with
  | some (.struct _) | some (.array _ _) => ∃ ds ls, r = .agg ds ∧ lv P t = some ls ∧ ds.length = ls.length ∧ ∀ (i : Nat) d, ds[i]? = some d → ∃ t', ls[i]? = some t' ∧ LeafD P 6 t' d
  | _ => ∃ d, r = .d d ∧ LeafD P 6 t d
def ParamRs (P : Program) : List TypeId → List RV → Prop
  | [], [] => True
  | t :: ts, r :: rs => ParamR P t r ∧ ParamRs P ts rs
  | _, _ => False
def okT (P : Program) (t : TypeId) : Bool :=
  match P.underlying t with
  | some (.struct _) | some (.array _ _) => match lv P t with
    | some ls => ls.all (deepT P 6)
    | none => false
  | _ => deepT P 6 t
theorem param_rep {t : TypeId} {v : Value} (ho : okT P t = true) (h : Arg P w t v) : ∃ r, RepR w (fun _ => True) r v ∧ ParamR P t r := by
  have many : ((∃ fs, P.underlying t = some (.struct fs)) ∨ ∃ n e, P.underlying t = some (.array n e)) → (match lv P t with | some ls => ls.all (deepT P 6) | none => false) = true → ∃ ds ls, RepR w (fun _ => True) (.agg ds) v ∧ lv P t = some ls ∧ ds.length = ls.length ∧ ∀ (i : Nat) d, ds[i]? = some d → ∃ t', ls[i]? = some t' ∧ LeafD P 6 t' d := by
    intro hu hl
    obtain ⟨cs, rfl, hlen, g, hr⟩ := h.many hu (n := P.cellsOf t) rfl
    cases hlv : lv P t with
    | none => rw [hlv] at hl; cases hl
    | some ls =>
      rw [hlv] at hl
      simp only [List.all_eq_true] at hl
      obtain ⟨g1, g2, g3⟩ := lv_leaves hlv
      have hcell : ∀ i, i < ls.length → ∃ d, (∃ c, cs[i]? = some c ∧ RepD w (fun _ => True) d c) ∧ ∃ t', ls[i]? = some t' ∧ LeafD P 6 t' d := by
        intro i hi
        obtain ⟨c, g', e1, e2⟩ := rd_leaves 8 t ls g cs g1 hr i ls[i] (by simp [hi])
        obtain ⟨d, f1, f2⟩ := rep_leaf 6 ls[i] (hl _ (List.getElem_mem hi)) g' c e2
        exact ⟨d, ⟨c, e1, f1⟩, _, by simp [hi], f2⟩
      obtain ⟨ds, x1, x2⟩ := pick_list ls.length hcell
      refine ⟨ds, ls, ?_, rfl, x1, fun i d hi => (x2 i d hi).2⟩
      simp only [RepR]
      refine ⟨_, rfl, ?_⟩
      rw [rep_ds_iff]
      refine ⟨by simp; omega, fun i d v hd hv => ?_⟩
      obtain ⟨⟨c, e1, e2⟩, _⟩ := x2 i d hd
      have : cs[i]? = some v := by simpa using hv
      rw [e1] at this
      injection this with this
      subst this
      exact e2
  unfold okT at ho
  unfold ParamR
  split at ho
  · rename_i fs hu
    obtain ⟨ds, ls, h1, h2⟩ := many (.inl ⟨_, hu⟩) ho
    exact ⟨.agg ds, h1, ds, ls, rfl, h2⟩
  · rename_i n e hu
    obtain ⟨ds, ls, h1, h2⟩ := many (.inr ⟨_, _, hu⟩) ho
    exact ⟨.agg ds, h1, ds, ls, rfl, h2⟩
  · rename_i h1 h2
    obtain ⟨g, hr⟩ := h.one (fun fs e => h1 fs e) (fun n e e' => h2 n e e')
    obtain ⟨d, f1, f2⟩ := rep_leaf 6 t ho g v hr
    exact ⟨.d d, by simp only [RepR]; exact f1, ⟨d, rfl, f2⟩⟩
theorem params_rep : ∀ {ts : List TypeId} {vs : List Value}, ts.all (okT P) = true → Args P w ts vs → ∃ rs, RepRs w (fun _ => True) rs vs ∧ ParamRs P ts rs
  | [], [], _, _ => ⟨[], by simp only [RepRs], trivial⟩
  | t :: ts, v :: vs, ho, h => by
    simp only [List.all_cons, Bool.and_eq_true] at ho
    obtain ⟨r, h1, h2⟩ := param_rep ho.1 h.1
    obtain ⟨rs, h3, h4⟩ := params_rep ho.2 h.2
    exact ⟨r :: rs, by simp only [RepRs]; exact ⟨h1, h3⟩, h2, h4⟩
  | [], _ :: _, _, h => h.elim
  | _ :: _, [], _, h => h.elim
/-- from a law's answer to what its row asks -/
theorem told_of {f : FuncId} {ts : List TypeId} (hok : ts.all (okT P) = true) (h : ∀ rs, ParamRs P ts rs → RV.wfs rs → Ans P f rs (.d (.bool true))) (W : World) (args : Array Value) (hg : GlobOK W fun _ => True) (ha : Args P W ts args.toList) :
    Calls P f args W fun e W' => e = .returned (.bool true) ∧ Below W.heap.size W W' := by
  obtain ⟨rs, h1, h2⟩ := params_rep hok ha
  refine (h rs h2 (RepRs.wf h1) W _ args hg h1).mono fun e w' ⟨v, he, hv, hb⟩ => ?_
  simp only [RepR, RepD] at hv
  subst hv
  exact ⟨he, hb⟩
end

/-! ### opening -/
theorem ParamRs.cons {P : Program} {t : TypeId} {ts : List TypeId} {rs : List RV} (h : ParamRs P (t :: ts) rs) : ∃ r rs', rs = r :: rs' ∧ ParamR P t r ∧ ParamRs P ts rs' := by
  cases rs with
  | nil => exact h.elim
  | cons r rs => exact ⟨r, rs, rfl, h.1, h.2⟩
theorem ParamRs.nil {P : Program} {rs : List RV} (h : ParamRs P [] rs) : rs = [] := by
  cases rs with
  | nil => rfl
  | cons r rs => exact h.elim
theorem ParamR.one {P : Program} {t : TypeId} {r : RV} {k : IntKind} (h : ParamR P t r) (hu : P.underlying t = some (.int k)) : ∃ n, r = .d (.int k n) := by
  unfold ParamR at h
  simp only [hu] at h
  obtain ⟨d, rfl, h⟩ := h
  unfold LeafD at h
  simp only [hu] at h
  obtain ⟨n, rfl⟩ := h
  exact ⟨n, rfl⟩
theorem ParamR.many {P : Program} {t : TypeId} {r : RV} {ls : List TypeId} (h : ParamR P t r) (hu : (match P.underlying t with | some (.struct _) | some (.array _ _) => true | _ => false) = true) (hl : lv P t = some ls) :
    ∃ ds, r = .agg ds ∧ ds.length = ls.length ∧ ∀ (i : Nat) d, ds[i]? = some d → ∃ t', ls[i]? = some t' ∧ LeafD P 6 t' d := by
  unfold ParamR at h
  split at hu
  · rename_i fs he
    simp only [he] at h
    obtain ⟨ds, ls', h1, h2, h3⟩ := h
    rw [hl] at h2; injection h2 with h2; subst h2
    exact ⟨ds, h1, h3⟩
  · rename_i n e he
    simp only [he] at h
    obtain ⟨ds, ls', h1, h2, h3⟩ := h
    rw [hl] at h2; injection h2 with h2; subst h2
    exact ⟨ds, h1, h3⟩
  · cases hu
/-- the cells of a thing of many leaves -/
def LeavesD (P : Program) (q : Nat) (ls : List TypeId) (ds : List DV) : Prop := ds.length = ls.length ∧ ∀ (i : Nat) d, ds[i]? = some d → ∃ t', ls[i]? = some t' ∧ LeafD P q t' d
theorem LeavesD.cons {P : Program} {q : Nat} {t : TypeId} {ts : List TypeId} {ds : List DV} (h : LeavesD P q (t :: ts) ds) : ∃ d ds', ds = d :: ds' ∧ LeafD P q t d ∧ LeavesD P q ts ds' := by
  obtain ⟨h1, h2⟩ := h
  cases ds with
  | nil => simp at h1
  | cons d ds =>
    refine ⟨d, ds, rfl, ?_, by simpa using h1, fun i d' hd => ?_⟩
    · obtain ⟨t', e, h⟩ := h2 0 d rfl
      simp at e; subst e; exact h
    · obtain ⟨t', e, h⟩ := h2 (i + 1) d' (by simpa using hd)
      exact ⟨t', by simpa using e, h⟩
theorem LeavesD.nil {P : Program} {q : Nat} {ds : List DV} (h : LeavesD P q [] ds) : ds = [] := by
  have := h.1
  simpa using this
theorem LeafD.int {P : Program} {q : Nat} {t : TypeId} {d : DV} {k : IntKind} (h : LeafD P q t d) (hu : P.underlying t = some (.int k)) : ∃ n, d = .int k n := by
  cases q with
  | zero => exact h.elim
  | succ q => unfold LeafD at h; simp only [hu] at h; exact h
theorem LeafD.bool {P : Program} {q : Nat} {t : TypeId} {d : DV} (h : LeafD P q t d) (hu : P.underlying t = some .bool) : ∃ n, d = .bool n := by
  cases q with
  | zero => exact h.elim
  | succ q => unfold LeafD at h; simp only [hu] at h; exact h
theorem LeafD.slice {P : Program} {q : Nat} {t e : TypeId} {d : DV} {ls : List TypeId} (h : LeafD P q t d) (hu : P.underlying t = some (.slice e)) (hl : lv P e = some ls) :
    ∃ n xs, d = .sl n xs ∧ n * P.bytesOf e ≤ reachBytes ∧ xs.length = n * ls.length ∧ ∀ (j : Nat) d', xs[j]? = some d' → ∃ t', ls[j % ls.length]? = some t' ∧ ∃ q, LeafD P q t' d' := by
  cases q with
  | zero => exact h.elim
  | succ q =>
    unfold LeafD at h; simp only [hu, hl] at h
    obtain ⟨n, xs, h1, h2, h3, h4⟩ := h
    exact ⟨n, xs, h1, h2, h3, fun j d' hj => let ⟨t', a, b⟩ := h4 j d' hj; ⟨t', a, q, b⟩⟩
theorem LeafD.str {P : Program} {q : Nat} {t : TypeId} {d : DV} (h : LeafD P q t d) (hu : P.underlying t = some .string) : ∃ n, d = .str n := by
  cases q with
  | zero => exact h.elim
  | succ q => unfold LeafD at h; simp only [hu] at h; exact h
theorem ParamR.slice {P : Program} {t e : TypeId} {r : RV} {ls : List TypeId} (h : ParamR P t r) (hu : P.underlying t = some (.slice e)) (hl : lv P e = some ls) :
    ∃ n xs, r = .d (.sl n xs) ∧ n * P.bytesOf e ≤ reachBytes ∧ xs.length = n * ls.length ∧ ∀ (j : Nat) d', xs[j]? = some d' → ∃ t', ls[j % ls.length]? = some t' ∧ ∃ q, LeafD P q t' d' := by
  unfold ParamR at h
  simp only [hu] at h
  obtain ⟨d, rfl, h⟩ := h
  obtain ⟨n, xs, rfl, h2⟩ := LeafD.slice h hu hl
  exact ⟨n, xs, rfl, h2⟩
theorem intLeaf1 {P : Program} {t t' : TypeId} {q j : Nat} {d : DV} {k : IntKind} (hu : P.underlying t = some (.int k)) (a : [t][j % [t].length]? = some t') (b : LeafD P q t' d) : ∃ n, d = .int k n := by
  have : t' = t := by
    have h := List.mem_of_getElem? a
    simpa using h
  subst this
  exact b.int hu
end Go.Proofs.Ytkfgmaecbclgfaa

/-
  Images in plain words: what the laws ask.
-/
namespace Go.Proofs.Ytkfgmaecbclgfaa
open Go.RowKit
set_option linter.unusedVariables false
set_option linter.unusedSimpArgs false

theorem isU_us_ (l : List Int) {n : Nat} (h : n = l.length) : IsU n (us l) := by
  subst h
  exact isU_of (us_length l) fun j d hj => by
    simp only [us, List.getElem?_map] at hj
    obtain ⟨v, _, rfl⟩ := Option.map_eq_some_iff.1 hj
    exact ⟨v, rfl⟩
theorem isU_nil : IsU 0 [] := isU_of rfl fun j d hj => by simp at hj
theorem zeroIm_isU : Im.zero.isU := ⟨isU_nil, isU_nil, isU_nil, isU_nil, isU_nil⟩
theorem solidIm_isU (w h : Int) (c : Px) : (solidIm w h c).isU := ⟨isU_nil, isU_nil, isU_nil, isU_nil, isU_nil⟩
theorem imOf_isU (w h : Int) (l : List Px) : (imOf w h l).isU := by
  cases hk : ofOk w h l.length with
  | true =>
    rw [imOf_ok hk]
    refine ⟨isU_us_ _ ?_, isU_us_ _ ?_, isU_us_ _ ?_, isU_us_ _ ?_, isU_us_ _ ?_⟩ <;> exact (List.length_map _).symm
  | false => rw [imOf_no hk]; exact zeroIm_isU
theorem is5_of {n : Nat} {xs : List DV} (hn : xs.length = n * 5) (hx : ∀ (j : Nat) d, xs[j]? = some d → ∃ v, d = .int .i64 v) : Is5 n xs :=
  ⟨hn, fun i hi => by
    have hl : i < xs.length := by omega
    obtain ⟨v, e⟩ := hx i _ (List.getElem?_eq_getElem hl)
    rw [List.getElem?_eq_getElem hl, e]
    simp [nAt, List.getElem?_eq_getElem hl, e]⟩
theorem intLeaf5 {P : Program} {t t' : TypeId} {q j : Nat} {d : DV} {k : IntKind} (hu : P.underlying t = some (.int k)) (a : [t, t, t, t, t][j % [t, t, t, t, t].length]? = some t') (b : LeafD P q t' d) : ∃ n, d = .int k n := by
  have : t' = t := by
    have h := List.mem_of_getElem? a
    simpa using h
  subst this
  exact b.int hu
theorem gPixels_is (mood : Int) (L : Nat) (xs : List DV) (most : Int) {n k : Nat} (h : k = n) : IsPxs k (pxs (gPixels mood L xs most n)) := by
  subst h
  have := isPxs_pxs (gPixels mood L xs most k)
  rwa [gPixels_len] at this
theorem modS_in {n k : Int} (h1 : 1 ≤ k) (h2 : k ≤ 4611686018427387904) : 0 ≤ modS n k ∧ modS n k < k := by
  rw [modS_eq h1 h2]
  exact ⟨Int.emod_nonneg _ (by omega), Int.emod_lt_of_pos _ (by omega)⟩
def imR (m : Im) : RV := RV.agg [DV.int .i64 m.w, DV.int .i64 m.h, DV.bool m.so, DV.int .u16 m.c.a, DV.int .u16 m.c.b, DV.int .u16 m.c.c, DV.int .u16 m.c.al, DV.int .u16 m.c.f, DV.int .i64 m.p0.w, DV.int .i64 m.p0.h, DV.int .i64 m.p0.s, DV.sl m.p0.n m.p0.xs, DV.int .i64 m.p1.w, DV.int .i64 m.p1.h, DV.int .i64 m.p1.s, DV.sl m.p1.n m.p1.xs, DV.int .i64 m.p2.w, DV.int .i64 m.p2.h, DV.int .i64 m.p2.s, DV.sl m.p2.n m.p2.xs, DV.int .i64 m.p3.w, DV.int .i64 m.p3.h, DV.int .i64 m.p3.s, DV.sl m.p3.n m.p3.xs, DV.int .i64 m.p4.w, DV.int .i64 m.p4.h, DV.int .i64 m.p4.s, DV.sl m.p4.n m.p4.xs]
def imD (m : Im) : AV := AV.agg [Cl.d (DV.int .i64 m.w), Cl.d (DV.int .i64 m.h), Cl.d (DV.bool m.so), Cl.d (DV.int .u16 m.c.a), Cl.d (DV.int .u16 m.c.b), Cl.d (DV.int .u16 m.c.c), Cl.d (DV.int .u16 m.c.al), Cl.d (DV.int .u16 m.c.f), Cl.d (DV.int .i64 m.p0.w), Cl.d (DV.int .i64 m.p0.h), Cl.d (DV.int .i64 m.p0.s), Cl.d (DV.sl m.p0.n m.p0.xs), Cl.d (DV.int .i64 m.p1.w), Cl.d (DV.int .i64 m.p1.h), Cl.d (DV.int .i64 m.p1.s), Cl.d (DV.sl m.p1.n m.p1.xs), Cl.d (DV.int .i64 m.p2.w), Cl.d (DV.int .i64 m.p2.h), Cl.d (DV.int .i64 m.p2.s), Cl.d (DV.sl m.p2.n m.p2.xs), Cl.d (DV.int .i64 m.p3.w), Cl.d (DV.int .i64 m.p3.h), Cl.d (DV.int .i64 m.p3.s), Cl.d (DV.sl m.p3.n m.p3.xs), Cl.d (DV.int .i64 m.p4.w), Cl.d (DV.int .i64 m.p4.h), Cl.d (DV.int .i64 m.p4.s), Cl.d (DV.sl m.p4.n m.p4.xs)]
def imV (b : Nat) (m : Im) : AV := AV.agg [Cl.d (DV.int .i64 m.w), Cl.d (DV.int .i64 m.h), Cl.d (DV.bool m.so), Cl.d (DV.int .u16 m.c.a), Cl.d (DV.int .u16 m.c.b), Cl.d (DV.int .u16 m.c.c), Cl.d (DV.int .u16 m.c.al), Cl.d (DV.int .u16 m.c.f), Cl.d (DV.int .i64 m.p0.w), Cl.d (DV.int .i64 m.p0.h), Cl.d (DV.int .i64 m.p0.s), Cl.ref (b + 0) m.p0.n, Cl.d (DV.int .i64 m.p1.w), Cl.d (DV.int .i64 m.p1.h), Cl.d (DV.int .i64 m.p1.s), Cl.ref (b + 1) m.p1.n, Cl.d (DV.int .i64 m.p2.w), Cl.d (DV.int .i64 m.p2.h), Cl.d (DV.int .i64 m.p2.s), Cl.ref (b + 2) m.p2.n, Cl.d (DV.int .i64 m.p3.w), Cl.d (DV.int .i64 m.p3.h), Cl.d (DV.int .i64 m.p3.s), Cl.ref (b + 3) m.p3.n, Cl.d (DV.int .i64 m.p4.w), Cl.d (DV.int .i64 m.p4.h), Cl.d (DV.int .i64 m.p4.s), Cl.ref (b + 4) m.p4.n]
def imB (e : Nat) (m : Im) : List Bx := [Bx.row e 1 m.p0.xs, Bx.row e 1 m.p1.xs, Bx.row e 1 m.p2.xs, Bx.row e 1 m.p3.xs, Bx.row e 1 m.p4.xs]
end Go.Proofs.Ytkfgmaecbclgfaa

/-
  What the generators make, in plain words: images.
-/
namespace Go.Proofs.Ytkfgmaecbclgfaa
open Go.RowKit
set_option linter.unusedVariables false
set_option linter.unusedSimpArgs false

def gSide (p k a b : Int) (often : Int) : Int := if modS (IntKind.wrap .i64 (Int.tdiv often 5)) 3 = 0 then IntKind.wrap .i64 (b - a) else IntKind.wrap .i64 (1 + modS p k)
def gImage (pw ph so mood : Int) (L : Nat) (xs : List DV) (x0 y0 x1 y1 most : Int) : Im :=
  let w := gSide pw 5 x0 x1 pw
  let h := gSide ph 4 y0 y1 pw
  let l := gPixels mood L xs most (IntKind.wrap .i64 (w * h)).toNat
  if modS so 2 = 0 then solidIm w h (gPx mood L xs most 0) else imOf w h l
theorem gPixels_head {mood : Int} {L : Nat} {xs : List DV} {most : Int} {n : Nat} (hn : 0 < n) : nAt (pxs (gPixels mood L xs most n)) 0 = (gPx mood L xs most 0).a ∧ nAt (pxs (gPixels mood L xs most n)) 1 = (gPx mood L xs most 0).b ∧ nAt (pxs (gPixels mood L xs most n)) 2 = (gPx mood L xs most 0).c ∧ nAt (pxs (gPixels mood L xs most n)) 3 = (gPx mood L xs most 0).al ∧ nAt (pxs (gPixels mood L xs most n)) 4 = (gPx mood L xs most 0).f := by
  have h : 0 < (gPixels mood L xs most n).length := by rw [gPixels_len]; exact hn
  have e : (gPixels mood L xs most n)[0] = gPx mood L xs most 0 := by simp [gPixels]
  have := pxs_nAt h
  rw [e] at this
  simpa only [Nat.zero_mul, Nat.zero_add] using this
theorem gImage_isU (pw ph so mood : Int) (L : Nat) (xs : List DV) (x0 y0 x1 y1 most : Int) : (gImage pw ph so mood L xs x0 y0 x1 y1 most).isU := by
  unfold gImage
  simp only
  split
  · exact solidIm_isU _ _ _
  · exact imOf_isU _ _ _
theorem gImage_is (pw ph so mood : Int) (L : Nat) (xs : List DV) (x0 y0 x1 y1 most : Int) (W H : Int) (hW : gSide pw 5 x0 x1 pw = W) (hH : gSide ph 4 y0 y1 pw = H) : gImage pw ph so mood L xs x0 y0 x1 y1 most = if modS so 2 = 0 then solidIm W H (gPx mood L xs most 0) else imOf W H (gPixels mood L xs most (IntKind.wrap .i64 (W * H)).toNat) := by
  unfold gImage
  simp only [hW, hH]
theorem wrap_area {W H : Int} (hW : 1 ≤ W ∧ W ≤ 100) (hH : 1 ≤ H ∧ H ≤ 100) : 1 ≤ IntKind.wrap .i64 (W * H) ∧ IntKind.wrap .i64 (W * H) ≤ 10000 := by
  have a := Int.mul_le_mul hW.2 hH.2 (by omega) (by omega)
  have b := Int.mul_le_mul hW.1 hH.1 (by omega) (by omega)
  rw [IntWalk.i64_in _ ⟨by omega, by omega⟩]
  omega
/-- a plane with longer rows -/
def strS (p : Pl) (more : Int) (k : Int) : Int := IntKind.wrap .i64 (p.w + modS (IntKind.wrap .i64 (more + k)) 4)
def strV (p : Pl) (s : Int) (i : Nat) : Int :=
  if Int.tmod (i : Int) s < p.w then nAt p.xs (IntKind.wrap .i64 (IntKind.wrap .i64 (IntKind.wrap .i64 (Int.tdiv (i : Int) s) * p.s) + Int.tmod (i : Int) s)).toNat else IntKind.wrap .u16 (IntKind.wrap .i64 (40000 + (i : Int)))
def strRow (p : Pl) (s : Int) (n : Nat) : List DV := us ((List.range n).map (strV p s))
def strN (p : Pl) (s : Int) : Nat := (IntKind.wrap .i64 (s * p.h)).toNat
def strP (p : Pl) (more : Int) (k : Int) : Pl := ⟨p.w, p.h, strS p more k, strN p (strS p more k), strRow p (strS p more k) (strN p (strS p more k))⟩
def gStrided (m : Im) (more : Int) : Im := if m.so then m else ⟨m.w, m.h, m.so, m.c, strP m.p0 more 0, strP m.p1 more 1, strP m.p2 more 2, strP m.p3 more 3, strP m.p4 more 4⟩
end Go.Proofs.Ytkfgmaecbclgfaa

/-
  Planes with longer rows, in plain words: what a round does.
-/
namespace Go.Proofs.Ytkfgmaecbclgfaa
open Go.RowKit
set_option linter.unusedVariables false
set_option linter.unusedSimpArgs false

theorem strS_is {p : Pl} {more k : Int} (hw : 1 ≤ p.w ∧ p.w ≤ 100) : p.w ≤ strS p more k ∧ strS p more k ≤ 103 := by
  have b := @modS_in (IntKind.wrap .i64 (more + k)) 4 (by omega) (by omega)
  unfold strS
  rw [IntWalk.i64_in _ ⟨by omega, by omega⟩]
  omega
theorem strN_is {p : Pl} {s : Int} (hs : 1 ≤ s ∧ s ≤ 103) (hh : 1 ≤ p.h ∧ p.h ≤ 100) : IntKind.wrap .i64 (s * p.h) = (strN p s : Int) ∧ strN p s ≤ 10300 ∧ ((strN p s : Nat) : Int) = s * p.h := by
  have a := Int.mul_le_mul hs.2 hh.2 (by omega) (by omega)
  have b := Int.mul_nonneg (show 0 ≤ s by omega) (show 0 ≤ p.h by omega)
  unfold strN
  rw [IntWalk.i64_in _ ⟨by omega, by omega⟩]
  omega
end Go.Proofs.Ytkfgmaecbclgfaa

/-
  Planes with longer rows and made images, in plain words: what the laws ask of them.
-/
namespace Go.Proofs.Ytkfgmaecbclgfaa
open Go.RowKit
set_option linter.unusedVariables false
set_option linter.unusedSimpArgs false

theorem strRow_nAt (p : Pl) (s : Int) {n i : Nat} (h : i < n) : nAt (strRow p s n) i = strV p s i := by
  unfold strRow
  rw [us_nAt (by simpa using h)]
  simp
theorem strP_valid {p : Pl} {more k : Int} (hv : validP p.w p.h p.s p.n = true) (hw : p.w ≤ 100) (hh : p.h ≤ 100) : validP (strP p more k).w (strP p more k).h (strP p more k).s (strP p more k).n = true := by
  have hf : fitsP p.w p.h = true := by unfold validP at hv; simp at hv; exact hv.1.1.1
  obtain ⟨f1, f2, f3, f4, f5⟩ := fits_le hf
  have S := @strS_is p more k ⟨f1, hw⟩
  have N := @strN_is p (strS p more k) ⟨by omega, by omega⟩ ⟨f2, hh⟩
  have L := lenW_eq hf S.1 (by omega)
  show validP p.w p.h (strS p more k) (strN p (strS p more k)) = true
  unfold validP
  have e : (p.h - 1) * strS p more k = strS p more k * p.h - strS p more k := by rw [Int.sub_mul, Int.mul_comm]; omega
  simp only [hf, Bool.true_and, Bool.and_eq_true, decide_eq_true_eq]
  exact ⟨⟨S.1, by omega⟩, by omega⟩
theorem strP_at {p : Pl} {more k : Int} (hv : validP p.w p.h p.s p.n = true) (hw : p.w ≤ 100) (hh : p.h ≤ 100) {x y : Int} (hx : 0 ≤ x ∧ x < p.w) (hy : 0 ≤ y ∧ y < p.h) : (strP p more k).at_ x y = p.at_ x y := by
  have hf : fitsP p.w p.h = true := by unfold validP at hv; simp at hv; exact hv.1.1.1
  obtain ⟨f1, f2, f3, f4, f5⟩ := fits_le hf
  obtain ⟨q1, q2, q3, q4, q5⟩ := place hv hx.1 hx.2 hy.1 hy.2
  obtain ⟨v1, v2, v3, v4, v5, v6, v7, v8, v9⟩ := valid_facts hv
  have S := @strS_is p more k ⟨f1, hw⟩
  have N := @strN_is p (strS p more k) ⟨by omega, by omega⟩ ⟨f2, hh⟩
  show nAt (strRow p (strS p more k) (strN p (strS p more k))) (y * strS p more k + x).toNat = nAt p.xs (y * p.s + x).toNat
  generalize strS p more k = s at *
  have a1 : 0 ≤ y * s := Int.mul_nonneg hy.1 (by omega)
  have a2 : (y + 1) * s ≤ p.h * s := Int.mul_le_mul_of_nonneg_right (by omega) (by omega)
  have a3 : (y + 1) * s = y * s + s := by rw [Int.add_mul, Int.one_mul]
  have a4 : p.h * s = s * p.h := Int.mul_comm _ _
  have hi : (y * s + x).toNat < strN p s := by omega
  rw [strRow_nAt _ _ hi]
  have ei : ((y * s + x).toNat : Int) = y * s + x := by omega
  unfold strV
  rw [ei, Int.tmod_eq_emod_of_nonneg (by omega), Int.tdiv_eq_ediv_of_nonneg (by omega)]
  have m1 : (y * s + x) % s = x := by rw [Int.add_comm, Int.add_mul_emod_self_right]; exact Int.emod_eq_of_lt hx.1 (by omega)
  have m2 : (y * s + x) / s = y := by rw [Int.add_comm, Int.add_mul_ediv_right _ _ (by omega), Int.ediv_eq_zero_of_lt hx.1 (by omega)]; omega
  rw [m1, m2, if_pos hx.2]
  rw [IntWalk.i64_in y ⟨by omega, by omega⟩, q5.1, q5.2]
theorem gStrided_so (m : Im) (more : Int) : (gStrided m more).so = m.so ∧ (gStrided m more).w = m.w ∧ (gStrided m more).h = m.h ∧ (gStrided m more).c = m.c := by
  unfold gStrided
  split <;> simp
theorem gStrided_formed {m : Im} (hf : m.formed = true) (hm : m.w ≤ 100 ∧ m.h ≤ 100) (more : Int) : (gStrided m more).formed = true := by
  unfold gStrided
  split
  · exact hf
  · rename_i hs
    have hs : m.so = false := by simpa using hs
    obtain ⟨qf, qi⟩ := Im.formed_of hf
    obtain ⟨qc, z0, z1, z2, z3, z4⟩ := Im.inner_planes qi hs
    have p0 := strP_valid (more := more) (k := 0) z0.1 (by omega) (by omega)
    have p1 := strP_valid (more := more) (k := 1) z1.1 (by omega) (by omega)
    have p2 := strP_valid (more := more) (k := 2) z2.1 (by omega) (by omega)
    have p3 := strP_valid (more := more) (k := 3) z3.1 (by omega) (by omega)
    have p4 := strP_valid (more := more) (k := 4) z4.1 (by omega) (by omega)
    have e : ∀ (p : Pl) k, (strP p more k).w = p.w ∧ (strP p more k).h = p.h := fun p k => ⟨rfl, rfl⟩
    simp only [(e _ _).1, (e _ _).2, z0.2, z1.2, z2.2, z3.2, z4.2] at p0 p1 p2 p3 p4
    simp [Im.formed, Im.inner, okPl, hs, qf, qc, p0, p1, p2, p3, p4, e, z0.2, z1.2, z2.2, z3.2, z4.2]
theorem gStrided_px {m : Im} (hf : m.formed = true) (hm : m.w ≤ 100 ∧ m.h ≤ 100) (more : Int) {x y : Int} (hx : 0 ≤ x ∧ x < m.w) (hy : 0 ≤ y ∧ y < m.h) : (gStrided m more).px x y = m.px x y := by
  unfold gStrided
  split
  · rfl
  · rename_i hs
    have hs : m.so = false := by simpa using hs
    obtain ⟨qf, qi⟩ := Im.formed_of hf
    obtain ⟨qc, z0, z1, z2, z3, z4⟩ := Im.inner_planes qi hs
    unfold Im.px
    simp only [hs]
    rw [strP_at z0.1 (by omega) (by omega) (by omega) (by omega), strP_at z1.1 (by omega) (by omega) (by omega) (by omega), strP_at z2.1 (by omega) (by omega) (by omega) (by omega), strP_at z3.1 (by omega) (by omega) (by omega) (by omega), strP_at z4.1 (by omega) (by omega) (by omega) (by omega)]
theorem Im.pixels_ext {m r : Im} (hm : m.formed = true) (hr : r.formed = true) (hw : r.w = m.w) (hh : r.h = m.h) (h : ∀ x y : Int, (0 ≤ x ∧ x < m.w) → (0 ≤ y ∧ y < m.h) → r.px x y = m.px x y) : r.pixels = m.pixels := by
  rw [Im.pixels_of hm, Im.pixels_of hr, hw, hh]
  unfold Im.list
  refine List.map_congr_left fun k hk => ?_
  have hk := List.mem_range.1 hk
  obtain ⟨a, b⟩ := Im.nth_in (Im.formed_of hm).1 hk
  unfold Im.nth
  rw [hw]
  exact h _ _ a b
theorem gStrided_pixels {m : Im} (hf : m.formed = true) (hm : m.w ≤ 100 ∧ m.h ≤ 100) (more : Int) : (gStrided m more).pixels = m.pixels :=
  have g := gStrided_so m more
  Im.pixels_ext hf (gStrided_formed hf hm more) g.2.1 g.2.2.1 (fun x y hx hy => gStrided_px hf hm more hx hy)
theorem solidIm_formed {w h : Int} (c : Px) (hf : fitsP w h = true) : (solidIm w h c).formed = true := by
  simp [Im.formed, Im.inner, okPl, solidIm, hf, zeroPl, Pl.none]
theorem ofIm_formed {w h : Int} {l : List Px} (hk : ofOk w h l.length = true) : (ofIm w h l).formed = true := by
  unfold ofOk at hk
  simp at hk
  obtain ⟨hf, hl⟩ := hk
  obtain ⟨f1, f2, f3, f4, f5⟩ := fits_le hf
  have L := lenW_eq hf (Int.le_refl w) f3
  have e : (h - 1) * w = w * h - w := by rw [Int.sub_mul, Int.mul_comm]; omega
  have hv : validP w h w l.length = true := by
    unfold validP
    simp only [hf, Bool.true_and, Bool.and_eq_true, decide_eq_true_eq]
    exact ⟨⟨Int.le_refl _, f3⟩, by omega⟩
  simp [Im.formed, Im.inner, okPl, ofIm, hf, hv]
theorem gImage_facts (pw ph so mood : Int) (L : Nat) (xs : List DV) (x0 y0 x1 y1 most : Int) (hc : 1 ≤ x1 - x0 ∧ x1 - x0 ≤ 100 ∧ 1 ≤ y1 - y0 ∧ y1 - y0 ≤ 100) :
    (gImage pw ph so mood L xs x0 y0 x1 y1 most).formed = true ∧ 1 ≤ (gImage pw ph so mood L xs x0 y0 x1 y1 most).w ∧ (gImage pw ph so mood L xs x0 y0 x1 y1 most).w ≤ 100 ∧ 1 ≤ (gImage pw ph so mood L xs x0 y0 x1 y1 most).h ∧ (gImage pw ph so mood L xs x0 y0 x1 y1 most).h ≤ 100 := by
  have b5 := @modS_in pw 5 (by omega) (by omega)
  have b4 := @modS_in ph 4 (by omega) (by omega)
  have hW : 1 ≤ gSide pw 5 x0 x1 pw ∧ gSide pw 5 x0 x1 pw ≤ 100 := by
    unfold gSide
    split <;> rw [IntWalk.i64_in _ ⟨by omega, by omega⟩] <;> omega
  have hH : 1 ≤ gSide ph 4 y0 y1 pw ∧ gSide ph 4 y0 y1 pw ≤ 100 := by
    unfold gSide
    split <;> rw [IntWalk.i64_in _ ⟨by omega, by omega⟩] <;> omega
  rw [gImage_is pw ph so mood L xs x0 y0 x1 y1 most _ _ rfl rfl]
  generalize gSide pw 5 x0 x1 pw = W at *
  generalize gSide ph 4 y0 y1 pw = H at *
  have wa := wrap_area hW hH
  have hf : fitsP W H = true := by
    have := Int.mul_le_mul hW.2 hH.2 (by omega) (by omega)
    simp [fitsP]; omega
  have hwm : IntKind.wrap .i64 (W * H) = W * H := IntWalk.i64_in _ (by
    have := Int.mul_le_mul hW.2 hH.2 (by omega) (by omega)
    have := Int.mul_nonneg (a := W) (b := H) (by omega) (by omega)
    omega)
  split
  · exact ⟨solidIm_formed _ hf, hW.1, hW.2, hH.1, hH.2⟩
  · have hk : ofOk W H (gPixels mood L xs most (IntKind.wrap .i64 (W * H)).toNat).length = true := by
      simp only [ofOk, hf, Bool.true_and, decide_eq_true_eq, gPixels_len]
      omega
    rw [imOf_ok hk]
    exact ⟨ofIm_formed hk, hW.1, hW.2, hH.1, hH.2⟩
end Go.Proofs.Ytkfgmaecbclgfaa

/-
  An image that is made of another one's pixels, in plain words.
-/
namespace Go.Proofs.Ytkfgmaecbclgfaa
open Go.RowKit
set_option linter.unusedVariables false
set_option linter.unusedSimpArgs false

theorem chan_at {l : List Px} {g : Px → Int} {k : Nat} (h : k < l.length) : nAt (chan l g) k = g l[k] := by
  unfold chan
  rw [us_nAt (by simpa using h)]
  simp
theorem ofIm_px {w h : Int} {l : List Px} {x y : Int} (hk : (y * w + x).toNat < l.length) : (ofIm w h l).px x y = l[(y * w + x).toNat] := by
  simp [Im.px, ofIm, Pl.at_, chan_at hk]
theorem Im.list_at {m : Im} {n k : Nat} (h : k < n) : (m.list n)[k]'(by rw [Im.list_len]; exact h) = m.nth k := by simp [Im.list]
theorem Im.pixels_len {m : Im} (hf : m.formed = true) : (m.pixels.length : Int) = m.w * m.h := by
  rw [Im.pixels_of hf, Im.list_len]
  exact (Im.count_le (Im.formed_of hf).1).2
theorem imOf_pixels {w h : Int} {l : List Px} (hk : ofOk w h l.length = true) : (imOf w h l).formed = true ∧ (imOf w h l).pixels = l := by
  rw [imOf_ok hk]
  have hf := ofIm_formed hk
  refine ⟨hf, ?_⟩
  rw [Im.pixels_of hf]
  obtain ⟨f1, f2, f3, f4, f5⟩ := fits_le (Im.formed_of hf).1
  have hl : l.length = w.toNat * h.toNat := by
    have := (Im.count_le (Im.formed_of hf).1).2
    simp [ofOk] at hk
    change ((w.toNat * h.toNat : Nat) : Int) = w * h at this
    omega
  refine List.ext_getElem (by rw [Im.list_len]; exact hl.symm) fun i h1 h2 => ?_
  rw [Im.list_len] at h1
  rw [Im.list_at h1]
  have hw : 0 < w.toNat := by change 1 ≤ w at f1; omega
  have e : i / w.toNat * w.toNat + i % w.toNat = i := by rw [Nat.mul_comm]; exact Nat.div_add_mod i w.toNat
  have e2 : (((i / w.toNat : Nat) : Int) * w + ((i % w.toNat : Nat) : Int)).toNat = i := by
    rw [idx (by change 1 ≤ w at f1; omega)]; exact e
  show (ofIm w h l).px ((i % w.toNat : Nat) : Int) ((i / w.toNat : Nat) : Int) = l[i]
  rw [ofIm_px (by rw [e2]; exact h2)]
  simp only [e2]
end Go.Proofs.Ytkfgmaecbclgfaa

/-
  What every seat of this program has: gen.Mod.
-/
namespace Go.Proofs.Ytkfgmaecbclgfaa
open Go.RowKit
set_option linter.unusedVariables false
set_option linter.unusedSimpArgs false

theorem mixed_ : Try.prog.follows .mixedOrders = true := by kernel_rfl
def gamM : Gam where
 pure := fun f xs =>
  if f = 16 then (match xs with | [.d (.int _ n), .d (.int _ k)] => some (RV.d (DV.int .i64 (modS n k))) | _ => none) else
  none
 modes := fun f =>
  none
 proc := fun f xs bs =>
  none
 iter := fun f cs =>
  none

def G_Mod_ann (n : Int) (k : Int) : Ann := Ann.leaf
theorem G_Mod_vc (n : Int) (k : Int) : vcg Try.prog gamM 14 (bodyOf Try.f16) (G_Mod_ann n k) kn0 (start [RV.d (DV.int .i64 n), RV.d (DV.int .i64 k)]) (post Try.prog Try.f16.results.toList (· = RV.d (DV.int .i64 (modS n k)))) =
  ((True) ∧ (True) ∧ (True) ∧ (((decide (k < (1 : Int))) = true → (True) ∧ RV.d (DV.int .i64 (0 : Int)) = RV.d (DV.int .i64 (modS n k))) ∧ ((decide (k < (1 : Int))) = false → (True) ∧ (True) ∧ (k ≠ 0) ∧ (True) ∧ (True) ∧ (True) ∧ (k ≠ 0) ∧ (True) ∧ RV.d (DV.int .i64 (Int.tmod (IntKind.wrap .i64 ((Int.tmod n k) + k)) k)) = RV.d (DV.int .i64 (modS n k))))) := by kernel_rfl
theorem G_Mod_ans (n : Int) (k : Int) : Ans Try.prog 16 [RV.d (DV.int .i64 n), RV.d (DV.int .i64 k)] (RV.d (DV.int .i64 (modS n k))) :=
  ans_of_vcg (Γ := gamM) (G_Mod_ann n k) mixed_ Try.func16 rfl (Nat.le_of_ble_eq_true rfl) fun hwf => by
    refine Eq.mpr (G_Mod_vc n k) ?_
    simp only [true_and, and_true, RV.d.injEq, DV.int.injEq, forall_const, Bool.not_false, Bool.not_true]
    unfold modS; grind

end Go.Proofs.Ytkfgmaecbclgfaa

/-
  Lists of numbers: an element, sameness, permutations.
-/
namespace Go.Proofs.Ytkfgmaecbclgfaa
open Go.RowKit
set_option linter.unusedVariables false
set_option linter.unusedSimpArgs false
attribute [local irreducible] Ans AnsO AnsG AnsN AnsI

def gamO : Gam where
 pure := fun f xs =>
  if f = 16 then (match xs with | [.d (.int _ n), .d (.int _ k)] => some (RV.d (DV.int .i64 (modS n k))) | _ => none) else
  if f = 59 then (match xs with | [.d (.sl n xs), .d (.int _ i)] => some (RV.d (DV.int .i64 (atS (ints xs) i))) | _ => none) else
  if f = 50 then (match xs with | [.d (.sl n xs), .d (.sl m ys)] => some (RV.d (DV.bool (decide (ints xs = ints ys)))) | _ => none) else
  if f = 25 then (match xs with | [] => some (RV.tup [RV.tup [RV.d (DV.int .i64 3), RV.d (DV.int .i64 1)]]) | [.d (.sl n xs), .d (.int _ m)] => some (RV.d (DV.sl ((permL (ints xs) m).length) (is (permL (ints xs) m)))) | _ => none) else
  none
 modes := fun f =>
  none
 proc := fun f xs bs =>
  none
 iter := fun f cs =>
  none

def G_At_ann (n : Nat) (xs : List DV) (i : Int) : Ann := Ann.leaf
theorem G_At_vc (n : Nat) (xs : List DV) (i : Int) : vcg Try.prog gamO 17 (bodyOf Try.f59) (G_At_ann n xs i) kn0 (start [RV.d (DV.sl n xs), RV.d (DV.int .i64 i)]) (post Try.prog Try.f59.results.toList (· = RV.d (DV.int .i64 (atS (ints xs) i)))) =
  (let zz0 := (DV.int .i64 (atS (ints xs) i)); let zz1 := (DV.int .i64 (nAt xs (i.toNat * 1))); True ∧ True ∧ True ∧ True ∧ (((decide (i < (0 : Int))) = false → True ∧ True ∧ True ∧ True ∧ True ∧ (((decide (i ≥ ((n : Nat) : Int))) = true → True ∧ RV.d (DV.int .i64 0) = RV.d zz0) ∧ ((decide (i ≥ ((n : Nat) : Int))) = false → True ∧ True ∧ (0 ≤ i ∧ i < ((n : Nat) : Int) ∧ i.toNat * 1 < xs.length) ∧ ((xs[i.toNat * 1]? = some zz1) ∧ True) ∧ True ∧ RV.d zz1 = RV.d zz0))) ∧ ((decide (i < (0 : Int))) = (!false) → True ∧ True ∧ RV.d (DV.int .i64 0) = RV.d zz0))) := by kernel_rfl
theorem G_At_ans (n : Nat) (xs : List DV) (i : Int) (hx : xs = is (ints xs) ∧ n = xs.length) : Ans Try.prog 59 [RV.d (DV.sl n xs), RV.d (DV.int .i64 i)] (RV.d (DV.int .i64 (atS (ints xs) i))) :=
  ans_of_vcg (Γ := gamO) (G_At_ann n xs i) mixed_ Try.func59 rfl (Nat.le_of_ble_eq_true rfl) fun hwf => by
    refine Eq.mpr (G_At_vc n xs i) ?_
    simp only [true_and, and_true, RV.d.injEq, RV.agg.injEq, RV.tup.injEq, DV.bool.injEq, DV.int.injEq, DV.sl.injEq, List.cons.injEq, forall_const, Bool.not_false, Bool.not_true, Bool.not_eq_true', Bool.not_eq_false', decide_eq_true_eq, decide_eq_false_iff_not, Int.toNat_natCast, G_Mod_ans]
    obtain ⟨hx, rfl⟩ := hx
    generalize hl : ints xs = l at *
    subst hx
    simp only [is_length, Nat.mul_one]
    refine ⟨fun h1 => ⟨fun h2 => ?_, fun h2 => ?_⟩, fun h1 => by simp [atS, h1]⟩
    · have : l[i.toNat]? = none := List.getElem?_eq_none (by omega)
      simp [atS, h1, this]
    · have h : i.toNat < l.length := by omega
      refine ⟨by omega, ?_, ?_⟩
      · rw [nAt_is h]; exact is_at h
      · rw [nAt_is h]; simp [atS, h1, List.getElem?_eq_getElem h]

def G_Permutation_ann (n : Nat) (xs : List DV) (m : Int) : Ann := let zz0 := (0, AV.one (Cl.d (DV.sl n xs))); let zz1 := (1, AV.one (Cl.d (DV.int .i64 m))); (Ann.seq Ann.leaf (Ann.seq Ann.leaf (Ann.seq Ann.leaf (Ann.seq (Ann.seq Ann.leaf (Ann.loop ⟨Nat, fun k => k ≤ m.toNat, fun k => ⟨[zz0, zz1, (5, AV.one (Cl.ref 1005 m.toNat)), (6, AV.one (Cl.d (DV.int .i64 ((k : Nat) : Int))))], [(1005, Bx.row 3 1 (is (upto k) ++ List.replicate (m.toNat - k) (DV.int .i64 0)))]⟩, fun k => m.toNat - k⟩ fun k => Ann.leaf)) (Ann.seq Ann.leaf (Ann.seq (Ann.seq Ann.leaf (Ann.loop ⟨Nat, fun j => j ≤ m.toNat, fun j => ⟨[zz0, zz1, (5, AV.one (Cl.d (DV.sl (m.toNat - j) (is (stp (ints xs) m.toNat j).1)))), (7, AV.one (Cl.ref 1007 j)), (8, AV.one (Cl.d (DV.int .i64 ((j : Nat) : Int))))], [(1007, Bx.row 3 1 (is (stp (ints xs) m.toNat j).2))]⟩, fun j => m.toNat - j⟩ fun j => Ann.leaf)) Ann.leaf))))))
theorem G_Permutation_vc (n : Nat) (xs : List DV) (m : Int) : vcg Try.prog gamO 56 (bodyOf Try.f25) (G_Permutation_ann n xs m) kn0 (start [RV.d (DV.sl n xs), RV.d (DV.int .i64 m)]) (postO 4 3 1 ((permL (ints xs) m).length) (is (permL (ints xs) m))) =
  (let zz0 := (DV.int .i64 m = DV.int .i64 m); True ∧ True ∧ True ∧ True ∧ True ∧ (((((n : Nat) : Int) == (0 : Int)) = false → True ∧ True ∧ True ∧ (((decide (m > (64 : Int))) = true → True ∧ (permL (ints xs) m).length = 0 ∧ is (permL (ints xs) m) = []) ∧ ((decide (m > (64 : Int))) = false → True ∧ (0 ≤ m ∧ m ≤ m ∧ m ≤ ((maxLen : Nat) : Int) ∧ ((8 : Nat) : Int) * m ≤ 281474976710656) ∧ True ∧ True ∧ ((∃ k : Nat, (k ≤ m.toNat) ∧ (((DV.sl n xs = DV.sl n xs) ∧ zz0 ∧ (m.toNat = m.toNat) ∧ (DV.int .i64 0 = DV.int .i64 ((k : Nat) : Int)) ∧ True) ∧ ((List.replicate m.toNat (DV.int .i64 0) = is (upto k) ++ List.replicate (m.toNat - k) (DV.int .i64 0)) ∧ True))) ∧ ∀ k : Nat, (k ≤ m.toNat) → True ∧ True ∧ True ∧ (((decide (((k : Nat) : Int) < m)) = true → True ∧ True ∧ True ∧ (0 ≤ ((k : Nat) : Int) ∧ ((k : Nat) : Int) < ((m.toNat : Nat) : Int)) ∧ (((k : Nat) : Int).toNat * 1 + 1 ≤ (is (upto k) ++ List.replicate (m.toNat - k) (DV.int .i64 0)).length) ∧ True ∧ True ∧ True ∧ ∃ k' : Nat, (k' ≤ m.toNat) ∧ (m.toNat - k' < m.toNat - k) ∧ (((DV.sl n xs = DV.sl n xs) ∧ zz0 ∧ (m.toNat = m.toNat) ∧ (DV.int .i64 (IntKind.wrap .i64 (((k : Nat) : Int) + (1 : Int))) = DV.int .i64 ((k' : Nat) : Int)) ∧ True) ∧ ((List.set (is (upto k) ++ List.replicate (m.toNat - k) (DV.int .i64 0)) (((k : Nat) : Int).toNat * 1) (DV.int .i64 ((k : Nat) : Int)) = is (upto k') ++ List.replicate (m.toNat - k') (DV.int .i64 0)) ∧ True))) ∧ ((decide (((k : Nat) : Int) < m)) = false → True ∧ True ∧ ((∃ j : Nat, (j ≤ m.toNat) ∧ (((DV.sl n xs = DV.sl n xs) ∧ zz0 ∧ (DV.sl m.toNat (is (upto k) ++ List.replicate (m.toNat - k) (DV.int .i64 0)) = DV.sl (m.toNat - j) (is (stp (ints xs) m.toNat j).1)) ∧ (0 = j) ∧ (DV.int .i64 0 = DV.int .i64 ((j : Nat) : Int)) ∧ True) ∧ (([] = is (stp (ints xs) m.toNat j).2) ∧ True))) ∧ ∀ j : Nat, (j ≤ m.toNat) → True ∧ True ∧ True ∧ (((decide ((((m.toNat - j) : Nat) : Int) > (0 : Int))) = true → True ∧ True ∧ (Ans Try.prog 59 [RV.d (DV.sl n xs), RV.d (DV.int .i64 ((j : Nat) : Int))] (RV.d (DV.int .i64 (atS (ints xs) ((j : Nat) : Int))))) ∧ True ∧ True ∧ (Ans Try.prog 16 [RV.d (DV.int .i64 (atS (ints xs) ((j : Nat) : Int))), RV.d (DV.int .i64 (((m.toNat - j) : Nat) : Int))] (RV.d (DV.int .i64 (modS (atS (ints xs) ((j : Nat) : Int)) (((m.toNat - j) : Nat) : Int))))) ∧ True ∧ True ∧ True ∧ True ∧ (0 ≤ modS (atS (ints xs) ((j : Nat) : Int)) (((m.toNat - j) : Nat) : Int) ∧ modS (atS (ints xs) ((j : Nat) : Int)) (((m.toNat - j) : Nat) : Int) < (((m.toNat - j) : Nat) : Int) ∧ (modS (atS (ints xs) ((j : Nat) : Int)) (((m.toNat - j) : Nat) : Int)).toNat * 1 < (is (stp (ints xs) m.toNat j).1).length) ∧ (((is (stp (ints xs) m.toNat j).1)[(modS (atS (ints xs) ((j : Nat) : Int)) (((m.toNat - j) : Nat) : Int)).toNat * 1]? = some (DV.int .i64 (nAt (is (stp (ints xs) m.toNat j).1) ((modS (atS (ints xs) ((j : Nat) : Int)) (((m.toNat - j) : Nat) : Int)).toNat * 1)))) ∧ True) ∧ True ∧ (appVc 1 8 j 1 (is (stp (ints xs) m.toNat j).2) ([DV.int .i64 (nAt (is (stp (ints xs) m.toNat j).1) ((modS (atS (ints xs) ((j : Nat) : Int)) (((m.toNat - j) : Nat) : Int)).toNat * 1))])) ∧ True ∧ True ∧ True ∧ (0 ≤ (0 : Int) ∧ (0 : Int) ≤ modS (atS (ints xs) ((j : Nat) : Int)) (((m.toNat - j) : Nat) : Int) ∧ modS (atS (ints xs) ((j : Nat) : Int)) (((m.toNat - j) : Nat) : Int) ≤ (((m.toNat - j) : Nat) : Int)) ∧ (appVc 1 8 0 ((modS (atS (ints xs) ((j : Nat) : Int)) (((m.toNat - j) : Nat) : Int) - (0 : Int)).toNat) ([]) (List.take ((modS (atS (ints xs) ((j : Nat) : Int)) (((m.toNat - j) : Nat) : Int) - (0 : Int)).toNat * 1) (List.drop ((0 : Int).toNat * 1) (is (stp (ints xs) m.toNat j).1)))) ∧ True ∧ True ∧ True ∧ (0 ≤ IntKind.wrap .i64 ((modS (atS (ints xs) ((j : Nat) : Int)) (((m.toNat - j) : Nat) : Int)) + (1 : Int)) ∧ IntKind.wrap .i64 ((modS (atS (ints xs) ((j : Nat) : Int)) (((m.toNat - j) : Nat) : Int)) + (1 : Int)) ≤ (((m.toNat - j) : Nat) : Int) ∧ (((m.toNat - j) : Nat) : Int) ≤ (((m.toNat - j) : Nat) : Int)) ∧ (appVc 1 8 ((modS (atS (ints xs) ((j : Nat) : Int)) (((m.toNat - j) : Nat) : Int) - (0 : Int)).toNat) (((((m.toNat - j) : Nat) : Int) - IntKind.wrap .i64 ((modS (atS (ints xs) ((j : Nat) : Int)) (((m.toNat - j) : Nat) : Int)) + (1 : Int))).toNat) (List.take ((modS (atS (ints xs) ((j : Nat) : Int)) (((m.toNat - j) : Nat) : Int) - (0 : Int)).toNat * 1) (List.drop ((0 : Int).toNat * 1) (is (stp (ints xs) m.toNat j).1))) (List.take (((((m.toNat - j) : Nat) : Int) - IntKind.wrap .i64 ((modS (atS (ints xs) ((j : Nat) : Int)) (((m.toNat - j) : Nat) : Int)) + (1 : Int))).toNat * 1) (List.drop ((IntKind.wrap .i64 ((modS (atS (ints xs) ((j : Nat) : Int)) (((m.toNat - j) : Nat) : Int)) + (1 : Int))).toNat * 1) (is (stp (ints xs) m.toNat j).1)))) ∧ True ∧ (true = true) ∧ True ∧ True ∧ True ∧ ∃ j' : Nat, (j' ≤ m.toNat) ∧ (m.toNat - j' < m.toNat - j) ∧ (((DV.sl n xs = DV.sl n xs) ∧ zz0 ∧ (DV.sl (((modS (atS (ints xs) ((j : Nat) : Int)) (((m.toNat - j) : Nat) : Int) - (0 : Int)).toNat) + (((((m.toNat - j) : Nat) : Int) - IntKind.wrap .i64 ((modS (atS (ints xs) ((j : Nat) : Int)) (((m.toNat - j) : Nat) : Int)) + (1 : Int))).toNat)) ((List.take ((modS (atS (ints xs) ((j : Nat) : Int)) (((m.toNat - j) : Nat) : Int) - (0 : Int)).toNat * 1) (List.drop ((0 : Int).toNat * 1) (is (stp (ints xs) m.toNat j).1))) ++ (List.take (((((m.toNat - j) : Nat) : Int) - IntKind.wrap .i64 ((modS (atS (ints xs) ((j : Nat) : Int)) (((m.toNat - j) : Nat) : Int)) + (1 : Int))).toNat * 1) (List.drop ((IntKind.wrap .i64 ((modS (atS (ints xs) ((j : Nat) : Int)) (((m.toNat - j) : Nat) : Int)) + (1 : Int))).toNat * 1) (is (stp (ints xs) m.toNat j).1)))) = DV.sl (m.toNat - j') (is (stp (ints xs) m.toNat j').1)) ∧ (j + 1 = j') ∧ (DV.int .i64 (IntKind.wrap .i64 (((j : Nat) : Int) + (1 : Int))) = DV.int .i64 ((j' : Nat) : Int)) ∧ True) ∧ (((is (stp (ints xs) m.toNat j).2) ++ ([DV.int .i64 (nAt (is (stp (ints xs) m.toNat j).1) ((modS (atS (ints xs) ((j : Nat) : Int)) (((m.toNat - j) : Nat) : Int)).toNat * 1))]) = is (stp (ints xs) m.toNat j').2) ∧ True))) ∧ ((decide ((((m.toNat - j) : Nat) : Int) > (0 : Int))) = false → True ∧ True ∧ (3 = 3 ∧ 1 = 1) ∧ (is (permL (ints xs) m)).length = ((permL (ints xs) m).length) * 1 ∧ j = (permL (ints xs) m).length ∧ is (stp (ints xs) m.toNat j).2 = is (permL (ints xs) m)))))))))) ∧ ((((n : Nat) : Int) == (0 : Int)) = (!false) → True ∧ True ∧ (permL (ints xs) m).length = 0 ∧ is (permL (ints xs) m) = []))) := by kernel_rfl
theorem G_Permutation_ans (n : Nat) (xs : List DV) (m : Int) (hx : xs = is (ints xs) ∧ n = xs.length) (hm : 0 ≤ m) : AnsO Try.prog 25 [RV.d (DV.sl n xs), RV.d (DV.int .i64 m)] 3 1 ((permL (ints xs) m).length) (is (permL (ints xs) m)) :=
  ans_of_vcg_own (t := 4) (Γ := gamO) (G_Permutation_ann n xs m) mixed_ Try.func25 rfl (Nat.le_of_ble_eq_true rfl) rfl fun hwf => by
    refine Eq.mpr (G_Permutation_vc n xs m) ?_
    simp only [true_and, and_true, RV.d.injEq, RV.agg.injEq, RV.tup.injEq, DV.bool.injEq, DV.int.injEq, DV.sl.injEq, List.cons.injEq, forall_const, Bool.not_false, Bool.not_true, Bool.not_eq_true', Bool.not_eq_false', decide_eq_true_eq, decide_eq_false_iff_not, Int.toNat_natCast, G_Mod_ans]
    obtain ⟨hx, rfl⟩ := hx
    generalize hl : ints xs = l at *
    subst hx
    have z0 : l.length = 0 → permL l m = [] := fun h => by simp [permL, h]
    have z1 : 64 < m → permL l m = [] := fun h => by simp [permL, h]
    refine ⟨fun hne => ⟨fun hbig => by rw [z1 hbig]; exact ⟨rfl, rfl⟩, fun hsm => ?_⟩, fun he => by rw [z0 (by simpa [is_length] using he)]; exact ⟨rfl, rfl⟩⟩
    have hll : l.length ≠ 0 := by simpa [is_length] using hne
    have hp : permL l m = (stp l m.toNat m.toNat).2 := by unfold permL; rw [if_neg (by omega)]
    obtain ⟨N, rfl⟩ : ∃ N : Nat, m = (N : Int) := ⟨m.toNat, by omega⟩
    rw [hp]
    simp only [Int.toNat_natCast, Nat.mul_one, maxLen]
    have hN : N ≤ 64 := by omega
    have wr : ∀ n : Int, -1000000 ≤ n → n ≤ 1000000 → IntKind.wrap .i64 n = n := fun n h h' => by rw [IntKind.wrap_i64]; omega
    refine ⟨by omega, ⟨0, Nat.zero_le _, rfl, by simp [upto, is]⟩, fun k hk => ⟨fun hlt => ?_, fun hge => ⟨⟨0, Nat.zero_le _, ⟨⟨rfl, ?_⟩, rfl, rfl⟩, rfl⟩, fun j hj => ⟨fun hlt => ?_, fun hge => ?_⟩⟩⟩⟩
    · refine ⟨by omega, by rw [List.length_append, is_length, upto_len, List.length_replicate]; omega, k + 1, by omega, by omega, by rw [wr _ (by omega) (by omega)]; omega, fill_step (by omega)⟩
    · have : k = N := by omega
      subst this
      simp [stp]
    · obtain ⟨h1, h2⟩ := stp_len l hN j (by omega)
      have hK := modS_lt (v := atS l j) (m := (stp l N j).1.length) (by omega) (by omega)
      have e1 : (stp l N (j + 1)).1 = (stp l N j).1.take (modS (atS l j) (stp l N j).1.length).toNat ++ (stp l N j).1.drop ((modS (atS l j) (stp l N j).1.length).toNat + 1) := rfl
      have e2 : (stp l N (j + 1)).2 = (stp l N j).2 ++ [((stp l N j).1[(modS (atS l j) (stp l N j).1.length).toNat]?).getD 0] := rfl
      have ha := G_At_ans l.length (is l) (j : Int) ⟨by rw [ints_is], by rw [is_length]⟩
      rw [ints_is] at ha
      generalize (stp l N j).1 = r at *
      generalize (stp l N j).2 = o at *
      subst h2
      rw [h1] at hK e1 e2
      generalize hg : modS (atS l (o.length : Int)) ((N - o.length : Nat) : Int) = g at *
      obtain ⟨K, rfl⟩ : ∃ K : Nat, g = (K : Int) := ⟨g.toNat, by omega⟩
      simp only [Int.toNat_natCast] at hK e1 e2 ⊢
      have w1 : IntKind.wrap .i64 ((K : Int) + 1) = ((K + 1 : Nat) : Int) := by rw [wr _ (by omega) (by omega)]; omega
      have t1 : ((K : Int) - 0).toNat = K := by omega
      have t2 : (((N - o.length : Nat) : Int) - ((K + 1 : Nat) : Int)).toNat = N - o.length - (K + 1) := by omega
      have t3 : Int.toNat 0 = 0 := rfl
      have hKr : K < r.length := by omega
      have d1 : List.take (N - o.length - (K + 1)) (List.drop (K + 1) (is r)) = is (r.drop (K + 1)) := by rw [is_drop, List.take_of_length_le (by rw [is_length, List.length_drop]; omega)]
      simp only [w1, t1, t2, t3, Int.toNat_natCast, List.drop_zero, d1, is_take, is_length, appVc, Nat.mul_one, is_append, nAt_is hKr, List.getElem?_eq_getElem hKr, Option.getD_some, maxLen] at e2 ⊢
      refine ⟨ha, ⟨by omega, by omega, hKr⟩, is_at hKr, ⟨trivial, rfl, by omega, by omega⟩, by omega, ⟨rfl, ?_, by omega, by omega⟩, by omega, ⟨?_, ?_, by omega, by omega⟩, o.length + 1, by omega, by omega, ⟨⟨by omega, by rw [e1]⟩, rfl, by rw [wr _ (by omega) (by omega)]; omega⟩, by rw [e2, ← is_append]; rfl⟩
      all_goals simp
      all_goals omega
    · have : j = N := by omega
      subst this
      have h2 := (stp_len l hN j (Nat.le_refl _)).2
      rw [is_length, h2]
      exact ⟨rfl, rfl, rfl⟩

def R18_SameInts_ann (n : Nat) (xs : List DV) (m : Nat) (ys : List DV) : Ann := (Ann.seq Ann.leaf (Ann.seq Ann.leaf (Ann.seq (Ann.seq Ann.leaf (Ann.loop ⟨Nat, fun k => k ≤ n ∧ (ints xs).take k = (ints ys).take k, fun k => ⟨[(0, AV.one (Cl.d (DV.sl n xs))), (1, AV.one (Cl.d (DV.sl m ys))), (5, AV.one (Cl.d (DV.int .i64 ((k : Nat) : Int)))), (6, AV.one (Cl.d (DV.sl n xs))), (7, AV.one (Cl.d (DV.int .i64 ((n : Nat) : Int)))), (8, AV.one (Cl.d (DV.sl m ys))), (9, AV.one (Cl.d (DV.int .i64 ((m : Nat) : Int)))), (10, AV.one (Cl.d (DV.bool (((n : Nat) : Int) != ((m : Nat) : Int)))))], []⟩, fun k => n - k⟩ fun k => Ann.leaf)) Ann.leaf)))
theorem R18_SameInts_vc (n : Nat) (xs : List DV) (m : Nat) (ys : List DV) : vcg Try.prog gamO 26 (bodyOf Try.f50) (R18_SameInts_ann n xs m ys) kn0 (start [RV.d (DV.sl n xs), RV.d (DV.sl m ys)]) (post Try.prog Try.f50.results.toList (· = RV.d (DV.bool (decide (ints xs = ints ys))))) =
  (let zz0 := (DV.bool (decide (ints xs = ints ys))); let zz1 := fun (k : Nat) => (k ≤ n ∧ (ints xs).take k = (ints ys).take k); let zz2 := (DV.int .i64 ((n : Nat) : Int) = DV.int .i64 ((n : Nat) : Int)); let zz3 := (DV.int .i64 ((m : Nat) : Int) = DV.int .i64 ((m : Nat) : Int)); let zz4 := (DV.bool (((n : Nat) : Int) != ((m : Nat) : Int)) = DV.bool (((n : Nat) : Int) != ((m : Nat) : Int))); True ∧ True ∧ True ∧ True ∧ True ∧ True ∧ (((((n : Nat) : Int) != ((m : Nat) : Int)) = true → True ∧ RV.d (DV.bool false) = RV.d zz0) ∧ ((((n : Nat) : Int) != ((m : Nat) : Int)) = false → True ∧ ((∃ k : Nat, (zz1 k) ∧ (((DV.sl n xs = DV.sl n xs) ∧ (DV.sl m ys = DV.sl m ys) ∧ (DV.int .i64 0 = DV.int .i64 ((k : Nat) : Int)) ∧ (DV.sl n xs = DV.sl n xs) ∧ zz2 ∧ (DV.sl m ys = DV.sl m ys) ∧ zz3 ∧ zz4 ∧ True) ∧ (True))) ∧ ∀ k : Nat, (zz1 k) → True ∧ True ∧ True ∧ True ∧ (((decide (((k : Nat) : Int) < ((n : Nat) : Int))) = true → True ∧ True ∧ (0 ≤ ((k : Nat) : Int) ∧ ((k : Nat) : Int) < ((n : Nat) : Int) ∧ ((k : Nat) : Int).toNat * 1 < xs.length) ∧ ((xs[((k : Nat) : Int).toNat * 1]? = some (DV.int .i64 (nAt xs (((k : Nat) : Int).toNat * 1)))) ∧ True) ∧ True ∧ True ∧ (0 ≤ ((k : Nat) : Int) ∧ ((k : Nat) : Int) < ((m : Nat) : Int) ∧ ((k : Nat) : Int).toNat * 1 < ys.length) ∧ ((ys[((k : Nat) : Int).toNat * 1]? = some (DV.int .i64 (nAt ys (((k : Nat) : Int).toNat * 1)))) ∧ True) ∧ True ∧ (true = true) ∧ ((((nAt xs (((k : Nat) : Int).toNat * 1)) != (nAt ys (((k : Nat) : Int).toNat * 1))) = true → True ∧ RV.d (DV.bool false) = RV.d zz0) ∧ (((nAt xs (((k : Nat) : Int).toNat * 1)) != (nAt ys (((k : Nat) : Int).toNat * 1))) = false → True ∧ True ∧ True ∧ ∃ k' : Nat, (k' ≤ n ∧ (ints xs).take k' = (ints ys).take k') ∧ (n - k' < n - k) ∧ (((DV.sl n xs = DV.sl n xs) ∧ (DV.sl m ys = DV.sl m ys) ∧ (DV.int .i64 (IntKind.wrap .i64 (((k : Nat) : Int) + (1 : Int))) = DV.int .i64 ((k' : Nat) : Int)) ∧ (DV.sl n xs = DV.sl n xs) ∧ zz2 ∧ (DV.sl m ys = DV.sl m ys) ∧ zz3 ∧ zz4 ∧ True) ∧ (True))))) ∧ ((decide (((k : Nat) : Int) < ((n : Nat) : Int))) = false → True ∧ RV.d (DV.bool true) = RV.d zz0)))))) := by kernel_rfl
theorem R18_SameInts_ans (n : Nat) (xs : List DV) (m : Nat) (ys : List DV) (hx : xs = is (ints xs) ∧ n = xs.length) (hy : ys = is (ints ys) ∧ m = ys.length) : Ans Try.prog 50 [RV.d (DV.sl n xs), RV.d (DV.sl m ys)] (RV.d (DV.bool (decide (ints xs = ints ys)))) :=
  ans_of_vcg (Γ := gamO) (R18_SameInts_ann n xs m ys) mixed_ Try.func50 rfl (Nat.le_of_ble_eq_true rfl) fun hwf => by
    refine Eq.mpr (R18_SameInts_vc n xs m ys) ?_
    simp only [true_and, and_true, RV.d.injEq, RV.agg.injEq, RV.tup.injEq, DV.bool.injEq, DV.int.injEq, DV.sl.injEq, List.cons.injEq, forall_const, Bool.not_false, Bool.not_true, Bool.not_eq_true', Bool.not_eq_false', decide_eq_true_eq, decide_eq_false_iff_not, Int.toNat_natCast, G_Mod_ans]
    obtain ⟨hx, rfl⟩ := hx
    obtain ⟨hy, rfl⟩ := hy
    generalize ints xs = l at *
    generalize ints ys = l' at *
    subst hx
    subst hy
    simp only [RV.wfs, RV.wf, DV.wf, maxLen, is_length] at hwf
    simp only [is_length]
    refine ⟨fun hne => ?_, fun he => eq_loopI (by simp at he; omega) (by omega) rfl⟩
    have : l ≠ l' := fun h => by rw [h] at hne; simp at hne
    simp [this]

end Go.Proofs.Ytkfgmaecbclgfaa

/-
  The functions of package rect and of its reference answer as the plain words say.
-/
namespace Go.Proofs.Ytkfgmaecbclgfaa
open Go.RowKit
set_option linter.unusedVariables false
set_option linter.unusedSimpArgs false

def gam : Gam where
 pure := fun f xs =>
  if f = 16 then (match xs with | [.d (.int _ n), .d (.int _ k)] => some (RV.d (DV.int .i64 (modS n k))) | _ => none) else
  if f = 82 then (match xs with | [.agg [.int _ a, .int _ b, .int _ c, .int _ d]] => some (RV.d (DV.bool (Rc.valid ⟨a, b, c, d⟩))) | _ => none) else
  if f = 58 then (match xs with | [.agg [.int _ a, .int _ b, .int _ c, .int _ d]] => some (RV.d (DV.bool (Rc.empty ⟨a, b, c, d⟩))) | _ => none) else
  none
 modes := fun f =>
  none
 proc := fun f xs bs =>
  none
 iter := fun f cs =>
  none

def R13_ValidRect_ann (a : Int) (b : Int) (c : Int) (d : Int) : Ann := Ann.leaf
theorem R13_ValidRect_vc (a : Int) (b : Int) (c : Int) (d : Int) : vcg Try.prog gam 41 (bodyOf Try.f82) (R13_ValidRect_ann a b c d) kn0 (start [RV.agg [DV.int .i64 a, DV.int .i64 b, DV.int .i64 c, DV.int .i64 d]]) (post Try.prog Try.f82.results.toList (· = RV.d (DV.bool (Rc.valid ⟨a, b, c, d⟩)))) =
  (let zz0 := (DV.bool (Rc.valid ⟨a, b, c, d⟩)); (True) ∧ (True) ∧ (True) ∧ (True) ∧ (True) ∧ (True) ∧ (((decide (a ≥ (-1073741824 : Int))) = true → (True) ∧ (True) ∧ (True) ∧ (True) ∧ (True) ∧ (((decide (a ≤ (1073741824 : Int))) = true → (True) ∧ (True) ∧ (True) ∧ (True) ∧ (True) ∧ (((decide (b ≥ (-1073741824 : Int))) = true → (True) ∧ (True) ∧ (True) ∧ (True) ∧ (True) ∧ (((decide (b ≤ (1073741824 : Int))) = true → (True) ∧ (True) ∧ (True) ∧ (True) ∧ (True) ∧ (((decide (c ≥ (-1073741824 : Int))) = true → (True) ∧ (True) ∧ (True) ∧ (True) ∧ (True) ∧ (((decide (c ≤ (1073741824 : Int))) = true → (True) ∧ (True) ∧ (True) ∧ (True) ∧ (True) ∧ (((decide (d ≥ (-1073741824 : Int))) = true → (True) ∧ (True) ∧ (True) ∧ (True) ∧ (True) ∧ RV.d (DV.bool (decide (d ≤ (1073741824 : Int)))) = RV.d zz0) ∧ ((decide (d ≥ (-1073741824 : Int))) = (!true) → (True) ∧ (True) ∧ RV.d (DV.bool false) = RV.d zz0))) ∧ ((decide (c ≤ (1073741824 : Int))) = (!true) → (True) ∧ (True) ∧ (True) ∧ (True) ∧ RV.d (DV.bool false) = RV.d zz0))) ∧ ((decide (c ≥ (-1073741824 : Int))) = (!true) → (True) ∧ (True) ∧ (True) ∧ (True) ∧ (True) ∧ (True) ∧ RV.d (DV.bool false) = RV.d zz0))) ∧ ((decide (b ≤ (1073741824 : Int))) = (!true) → (True) ∧ (True) ∧ (True) ∧ (True) ∧ (True) ∧ (True) ∧ (True) ∧ (True) ∧ RV.d (DV.bool false) = RV.d zz0))) ∧ ((decide (b ≥ (-1073741824 : Int))) = (!true) → (True) ∧ (True) ∧ (True) ∧ (True) ∧ (True) ∧ (True) ∧ (True) ∧ (True) ∧ (True) ∧ (True) ∧ RV.d (DV.bool false) = RV.d zz0))) ∧ ((decide (a ≤ (1073741824 : Int))) = (!true) → (True) ∧ (True) ∧ (True) ∧ (True) ∧ (True) ∧ (True) ∧ (True) ∧ (True) ∧ (True) ∧ (True) ∧ (True) ∧ (True) ∧ RV.d (DV.bool false) = RV.d zz0))) ∧ ((decide (a ≥ (-1073741824 : Int))) = (!true) → (True) ∧ (True) ∧ (True) ∧ (True) ∧ (True) ∧ (True) ∧ (True) ∧ (True) ∧ (True) ∧ (True) ∧ (True) ∧ (True) ∧ (True) ∧ (True) ∧ RV.d (DV.bool false) = RV.d zz0))) := by kernel_rfl
theorem R13_ValidRect_ans (a : Int) (b : Int) (c : Int) (d : Int) : Ans Try.prog 82 [RV.agg [DV.int .i64 a, DV.int .i64 b, DV.int .i64 c, DV.int .i64 d]] (RV.d (DV.bool (Rc.valid ⟨a, b, c, d⟩))) :=
  ans_of_vcg (Γ := gam) (R13_ValidRect_ann a b c d) mixed_ Try.func82 rfl (Nat.le_of_ble_eq_true rfl) fun hwf => by
    refine Eq.mpr (R13_ValidRect_vc a b c d) ?_
    simp only [true_and, and_true, RV.d.injEq, RV.agg.injEq, RV.tup.injEq, DV.bool.injEq, DV.int.injEq, List.cons.injEq, forall_const, Bool.not_false, Bool.not_true, Bool.not_eq_true', Bool.not_eq_false']
    grind [Rc.valid, okC]

def R13_Empty_ann (a : Int) (b : Int) (c : Int) (d : Int) : Ann := Ann.leaf
theorem R13_Empty_vc (a : Int) (b : Int) (c : Int) (d : Int) : vcg Try.prog gam 20 (bodyOf Try.f58) (R13_Empty_ann a b c d) kn0 (start [RV.agg [DV.int .i64 a, DV.int .i64 b, DV.int .i64 c, DV.int .i64 d]]) (post Try.prog Try.f58.results.toList (· = RV.d (DV.bool (Rc.empty ⟨a, b, c, d⟩)))) =
  (let zz0 := (DV.bool (Rc.empty ⟨a, b, c, d⟩)); (True) ∧ (True) ∧ (True) ∧ (Ans Try.prog 82 [RV.agg [DV.int .i64 a, DV.int .i64 b, DV.int .i64 c, DV.int .i64 d]] (RV.d (DV.bool (Rc.valid ⟨a, b, c, d⟩)))) ∧ (True) ∧ (True) ∧ (((!(Rc.valid ⟨a, b, c, d⟩)) = false → (True) ∧ (True) ∧ (True) ∧ (True) ∧ (True) ∧ (True) ∧ (True) ∧ (((decide (a ≥ c)) = false → (True) ∧ (True) ∧ (True) ∧ (True) ∧ (True) ∧ (True) ∧ (True) ∧ RV.d (DV.bool (decide (b ≥ d))) = RV.d zz0) ∧ ((decide (a ≥ c)) = (!false) → (True) ∧ (True) ∧ RV.d (DV.bool true) = RV.d zz0))) ∧ ((!(Rc.valid ⟨a, b, c, d⟩)) = (!false) → (True) ∧ (True) ∧ (True) ∧ (True) ∧ RV.d (DV.bool true) = RV.d zz0))) := by kernel_rfl
theorem R13_Empty_ans (a : Int) (b : Int) (c : Int) (d : Int) : Ans Try.prog 58 [RV.agg [DV.int .i64 a, DV.int .i64 b, DV.int .i64 c, DV.int .i64 d]] (RV.d (DV.bool (Rc.empty ⟨a, b, c, d⟩))) :=
  ans_of_vcg (Γ := gam) (R13_Empty_ann a b c d) mixed_ Try.func58 rfl (Nat.le_of_ble_eq_true rfl) fun hwf => by
    refine Eq.mpr (R13_Empty_vc a b c d) ?_
    simp only [true_and, and_true, RV.d.injEq, RV.agg.injEq, RV.tup.injEq, DV.bool.injEq, DV.int.injEq, List.cons.injEq, forall_const, Bool.not_false, Bool.not_true, Bool.not_eq_true', Bool.not_eq_false', R13_ValidRect_ans, G_Mod_ans]
    grind [Rc.empty]

end Go.Proofs.Ytkfgmaecbclgfaa

/-
  Count and Rect of package tile as they reckon; awake.
-/
namespace Go.Proofs.Ytkfgmaecbclgfaa
open Go.RowKit
set_option linter.unusedVariables false
set_option linter.unusedSimpArgs false
attribute [local irreducible] Ans AnsO AnsG AnsN AnsI

def cntS (r : Rc) (w h : Int) : Int × Int × Bool :=
  if r.empty then (0, 0, false)
  else if w < 1 ∨ IntKind.wrap .i64 (r.c - r.a) < w ∨ h < 1 ∨ IntKind.wrap .i64 (r.d - r.b) < h then (0, 0, false)
  else (IntKind.wrap .i64 (Int.tdiv (IntKind.wrap .i64 (IntKind.wrap .i64 (IntKind.wrap .i64 (r.c - r.a) + w) - 1)) w), IntKind.wrap .i64 (Int.tdiv (IntKind.wrap .i64 (IntKind.wrap .i64 (IntKind.wrap .i64 (r.d - r.b) + h) - 1)) h), true)
end Go.Proofs.Ytkfgmaecbclgfaa

/-
  Lists of images, and scripts, in plain words.
-/
namespace Go.Proofs.Ytkfgmaecbclgfaa
open Go.RowKit
set_option linter.unusedVariables false
set_option linter.unusedSimpArgs false
set_option maxRecDepth 4000

/-- the cells of an image -/
def Im.ds (m : Im) : List DV := [.int .i64 m.w, .int .i64 m.h, .bool m.so, .int .u16 m.c.a, .int .u16 m.c.b, .int .u16 m.c.c, .int .u16 m.c.al, .int .u16 m.c.f, .int .i64 m.p0.w, .int .i64 m.p0.h, .int .i64 m.p0.s, .sl m.p0.n m.p0.xs, .int .i64 m.p1.w, .int .i64 m.p1.h, .int .i64 m.p1.s, .sl m.p1.n m.p1.xs, .int .i64 m.p2.w, .int .i64 m.p2.h, .int .i64 m.p2.s, .sl m.p2.n m.p2.xs, .int .i64 m.p3.w, .int .i64 m.p3.h, .int .i64 m.p3.s, .sl m.p3.n m.p3.xs, .int .i64 m.p4.w, .int .i64 m.p4.h, .int .i64 m.p4.s, .sl m.p4.n m.p4.xs]
theorem Im.ds_len (m : Im) : m.ds.length = 28 := rfl
def ims (l : List Im) : List DV := l.flatMap Im.ds
theorem ims_length (l : List Im) : (ims l).length = l.length * 28 := by
  induction l with
  | nil => rfl
  | cons o l ih => simp only [ims, List.flatMap_cons, List.length_append, List.length_cons] at ih ⊢; rw [ih, Im.ds_len]; omega
theorem ims_append (l m : List Im) : ims (l ++ m) = ims l ++ ims m := by simp [ims]
theorem ims_cons (m : Im) (l : List Im) : ims (m :: l) = m.ds ++ ims l := by simp [ims]
theorem ims_one (m : Im) : ims [m] = m.ds := by simp [ims]
theorem ims_get {l : List Im} {k : Nat} (h : k < l.length) (j : Nat) (hj : j < 28) : (ims l)[k * 28 + j]? = l[k].ds[j]? := by
  induction l generalizing k with
  | nil => simp at h
  | cons o l ih =>
    rw [ims_cons]
    cases k with
    | zero => simp only [List.getElem_cons_zero]; rw [List.getElem?_append_left (by rw [Im.ds_len]; omega)]; simp
    | succ k =>
      rw [List.getElem?_append_right (by rw [Im.ds_len]; omega)]
      have := ih (k := k) (by simpa using h)
      simp only [List.getElem_cons_succ]
      rw [← this]
      congr 1
      rw [Im.ds_len]; omega
theorem ims_rd {l : List Im} {k : Nat} (h : k < l.length) : (ims l)[k * 28]? = some (.int .i64 l[k].w) ∧ (ims l)[k * 28 + 1]? = some (.int .i64 l[k].h) ∧ (ims l)[k * 28 + 1 + 1]? = some (.bool l[k].so) ∧ (ims l)[k * 28 + 1 + 1 + 1]? = some (.int .u16 l[k].c.a) ∧ (ims l)[k * 28 + 1 + 1 + 1 + 1]? = some (.int .u16 l[k].c.b) ∧ (ims l)[k * 28 + 1 + 1 + 1 + 1 + 1]? = some (.int .u16 l[k].c.c) ∧ (ims l)[k * 28 + 1 + 1 + 1 + 1 + 1 + 1]? = some (.int .u16 l[k].c.al) ∧ (ims l)[k * 28 + 1 + 1 + 1 + 1 + 1 + 1 + 1]? = some (.int .u16 l[k].c.f) ∧ (ims l)[k * 28 + 1 + 1 + 1 + 1 + 1 + 1 + 1 + 1]? = some (.int .i64 l[k].p0.w) ∧ (ims l)[k * 28 + 1 + 1 + 1 + 1 + 1 + 1 + 1 + 1 + 1]? = some (.int .i64 l[k].p0.h) ∧ (ims l)[k * 28 + 1 + 1 + 1 + 1 + 1 + 1 + 1 + 1 + 1 + 1]? = some (.int .i64 l[k].p0.s) ∧ (ims l)[k * 28 + 1 + 1 + 1 + 1 + 1 + 1 + 1 + 1 + 1 + 1 + 1]? = some (.sl l[k].p0.n l[k].p0.xs) ∧ (ims l)[k * 28 + 1 + 1 + 1 + 1 + 1 + 1 + 1 + 1 + 1 + 1 + 1 + 1]? = some (.int .i64 l[k].p1.w) ∧ (ims l)[k * 28 + 1 + 1 + 1 + 1 + 1 + 1 + 1 + 1 + 1 + 1 + 1 + 1 + 1]? = some (.int .i64 l[k].p1.h) ∧ (ims l)[k * 28 + 1 + 1 + 1 + 1 + 1 + 1 + 1 + 1 + 1 + 1 + 1 + 1 + 1 + 1]? = some (.int .i64 l[k].p1.s) ∧ (ims l)[k * 28 + 1 + 1 + 1 + 1 + 1 + 1 + 1 + 1 + 1 + 1 + 1 + 1 + 1 + 1 + 1]? = some (.sl l[k].p1.n l[k].p1.xs) ∧ (ims l)[k * 28 + 1 + 1 + 1 + 1 + 1 + 1 + 1 + 1 + 1 + 1 + 1 + 1 + 1 + 1 + 1 + 1]? = some (.int .i64 l[k].p2.w) ∧ (ims l)[k * 28 + 1 + 1 + 1 + 1 + 1 + 1 + 1 + 1 + 1 + 1 + 1 + 1 + 1 + 1 + 1 + 1 + 1]? = some (.int .i64 l[k].p2.h) ∧ (ims l)[k * 28 + 1 + 1 + 1 + 1 + 1 + 1 + 1 + 1 + 1 + 1 + 1 + 1 + 1 + 1 + 1 + 1 + 1 + 1]? = some (.int .i64 l[k].p2.s) ∧ (ims l)[k * 28 + 1 + 1 + 1 + 1 + 1 + 1 + 1 + 1 + 1 + 1 + 1 + 1 + 1 + 1 + 1 + 1 + 1 + 1 + 1]? = some (.sl l[k].p2.n l[k].p2.xs) ∧ (ims l)[k * 28 + 1 + 1 + 1 + 1 + 1 + 1 + 1 + 1 + 1 + 1 + 1 + 1 + 1 + 1 + 1 + 1 + 1 + 1 + 1 + 1]? = some (.int .i64 l[k].p3.w) ∧ (ims l)[k * 28 + 1 + 1 + 1 + 1 + 1 + 1 + 1 + 1 + 1 + 1 + 1 + 1 + 1 + 1 + 1 + 1 + 1 + 1 + 1 + 1 + 1]? = some (.int .i64 l[k].p3.h) ∧ (ims l)[k * 28 + 1 + 1 + 1 + 1 + 1 + 1 + 1 + 1 + 1 + 1 + 1 + 1 + 1 + 1 + 1 + 1 + 1 + 1 + 1 + 1 + 1 + 1]? = some (.int .i64 l[k].p3.s) ∧ (ims l)[k * 28 + 1 + 1 + 1 + 1 + 1 + 1 + 1 + 1 + 1 + 1 + 1 + 1 + 1 + 1 + 1 + 1 + 1 + 1 + 1 + 1 + 1 + 1 + 1]? = some (.sl l[k].p3.n l[k].p3.xs) ∧ (ims l)[k * 28 + 1 + 1 + 1 + 1 + 1 + 1 + 1 + 1 + 1 + 1 + 1 + 1 + 1 + 1 + 1 + 1 + 1 + 1 + 1 + 1 + 1 + 1 + 1 + 1]? = some (.int .i64 l[k].p4.w) ∧ (ims l)[k * 28 + 1 + 1 + 1 + 1 + 1 + 1 + 1 + 1 + 1 + 1 + 1 + 1 + 1 + 1 + 1 + 1 + 1 + 1 + 1 + 1 + 1 + 1 + 1 + 1 + 1]? = some (.int .i64 l[k].p4.h) ∧ (ims l)[k * 28 + 1 + 1 + 1 + 1 + 1 + 1 + 1 + 1 + 1 + 1 + 1 + 1 + 1 + 1 + 1 + 1 + 1 + 1 + 1 + 1 + 1 + 1 + 1 + 1 + 1 + 1]? = some (.int .i64 l[k].p4.s) ∧ (ims l)[k * 28 + 1 + 1 + 1 + 1 + 1 + 1 + 1 + 1 + 1 + 1 + 1 + 1 + 1 + 1 + 1 + 1 + 1 + 1 + 1 + 1 + 1 + 1 + 1 + 1 + 1 + 1 + 1]? = some (.sl l[k].p4.n l[k].p4.xs) := by
  have g := fun j hj => ims_get h j hj
  exact ⟨g 0 (by omega), g 1 (by omega), g 2 (by omega), g 3 (by omega), g 4 (by omega), g 5 (by omega), g 6 (by omega), g 7 (by omega), g 8 (by omega), g 9 (by omega), g 10 (by omega), g 11 (by omega), g 12 (by omega), g 13 (by omega), g 14 (by omega), g 15 (by omega), g 16 (by omega), g 17 (by omega), g 18 (by omega), g 19 (by omega), g 20 (by omega), g 21 (by omega), g 22 (by omega), g 23 (by omega), g 24 (by omega), g 25 (by omega), g 26 (by omega), g 27 (by omega)⟩
theorem ims_at {l : List Im} {k : Nat} (h : k < l.length) : nAt (ims l) (k * 28) = l[k].w ∧ nAt (ims l) (k * 28 + 1) = l[k].h ∧ bAt (ims l) (k * 28 + 1 + 1) = l[k].so ∧ nAt (ims l) (k * 28 + 1 + 1 + 1) = l[k].c.a ∧ nAt (ims l) (k * 28 + 1 + 1 + 1 + 1) = l[k].c.b ∧ nAt (ims l) (k * 28 + 1 + 1 + 1 + 1 + 1) = l[k].c.c ∧ nAt (ims l) (k * 28 + 1 + 1 + 1 + 1 + 1 + 1) = l[k].c.al ∧ nAt (ims l) (k * 28 + 1 + 1 + 1 + 1 + 1 + 1 + 1) = l[k].c.f ∧ nAt (ims l) (k * 28 + 1 + 1 + 1 + 1 + 1 + 1 + 1 + 1) = l[k].p0.w ∧ nAt (ims l) (k * 28 + 1 + 1 + 1 + 1 + 1 + 1 + 1 + 1 + 1) = l[k].p0.h ∧ nAt (ims l) (k * 28 + 1 + 1 + 1 + 1 + 1 + 1 + 1 + 1 + 1 + 1) = l[k].p0.s ∧ lAt (ims l) (k * 28 + 1 + 1 + 1 + 1 + 1 + 1 + 1 + 1 + 1 + 1 + 1) = l[k].p0.n ∧ cAt (ims l) (k * 28 + 1 + 1 + 1 + 1 + 1 + 1 + 1 + 1 + 1 + 1 + 1) = l[k].p0.xs ∧ nAt (ims l) (k * 28 + 1 + 1 + 1 + 1 + 1 + 1 + 1 + 1 + 1 + 1 + 1 + 1) = l[k].p1.w ∧ nAt (ims l) (k * 28 + 1 + 1 + 1 + 1 + 1 + 1 + 1 + 1 + 1 + 1 + 1 + 1 + 1) = l[k].p1.h ∧ nAt (ims l) (k * 28 + 1 + 1 + 1 + 1 + 1 + 1 + 1 + 1 + 1 + 1 + 1 + 1 + 1 + 1) = l[k].p1.s ∧ lAt (ims l) (k * 28 + 1 + 1 + 1 + 1 + 1 + 1 + 1 + 1 + 1 + 1 + 1 + 1 + 1 + 1 + 1) = l[k].p1.n ∧ cAt (ims l) (k * 28 + 1 + 1 + 1 + 1 + 1 + 1 + 1 + 1 + 1 + 1 + 1 + 1 + 1 + 1 + 1) = l[k].p1.xs ∧ nAt (ims l) (k * 28 + 1 + 1 + 1 + 1 + 1 + 1 + 1 + 1 + 1 + 1 + 1 + 1 + 1 + 1 + 1 + 1) = l[k].p2.w ∧ nAt (ims l) (k * 28 + 1 + 1 + 1 + 1 + 1 + 1 + 1 + 1 + 1 + 1 + 1 + 1 + 1 + 1 + 1 + 1 + 1) = l[k].p2.h ∧ nAt (ims l) (k * 28 + 1 + 1 + 1 + 1 + 1 + 1 + 1 + 1 + 1 + 1 + 1 + 1 + 1 + 1 + 1 + 1 + 1 + 1) = l[k].p2.s ∧ lAt (ims l) (k * 28 + 1 + 1 + 1 + 1 + 1 + 1 + 1 + 1 + 1 + 1 + 1 + 1 + 1 + 1 + 1 + 1 + 1 + 1 + 1) = l[k].p2.n ∧ cAt (ims l) (k * 28 + 1 + 1 + 1 + 1 + 1 + 1 + 1 + 1 + 1 + 1 + 1 + 1 + 1 + 1 + 1 + 1 + 1 + 1 + 1) = l[k].p2.xs ∧ nAt (ims l) (k * 28 + 1 + 1 + 1 + 1 + 1 + 1 + 1 + 1 + 1 + 1 + 1 + 1 + 1 + 1 + 1 + 1 + 1 + 1 + 1 + 1) = l[k].p3.w ∧ nAt (ims l) (k * 28 + 1 + 1 + 1 + 1 + 1 + 1 + 1 + 1 + 1 + 1 + 1 + 1 + 1 + 1 + 1 + 1 + 1 + 1 + 1 + 1 + 1) = l[k].p3.h ∧ nAt (ims l) (k * 28 + 1 + 1 + 1 + 1 + 1 + 1 + 1 + 1 + 1 + 1 + 1 + 1 + 1 + 1 + 1 + 1 + 1 + 1 + 1 + 1 + 1 + 1) = l[k].p3.s ∧ lAt (ims l) (k * 28 + 1 + 1 + 1 + 1 + 1 + 1 + 1 + 1 + 1 + 1 + 1 + 1 + 1 + 1 + 1 + 1 + 1 + 1 + 1 + 1 + 1 + 1 + 1) = l[k].p3.n ∧ cAt (ims l) (k * 28 + 1 + 1 + 1 + 1 + 1 + 1 + 1 + 1 + 1 + 1 + 1 + 1 + 1 + 1 + 1 + 1 + 1 + 1 + 1 + 1 + 1 + 1 + 1) = l[k].p3.xs ∧ nAt (ims l) (k * 28 + 1 + 1 + 1 + 1 + 1 + 1 + 1 + 1 + 1 + 1 + 1 + 1 + 1 + 1 + 1 + 1 + 1 + 1 + 1 + 1 + 1 + 1 + 1 + 1) = l[k].p4.w ∧ nAt (ims l) (k * 28 + 1 + 1 + 1 + 1 + 1 + 1 + 1 + 1 + 1 + 1 + 1 + 1 + 1 + 1 + 1 + 1 + 1 + 1 + 1 + 1 + 1 + 1 + 1 + 1 + 1) = l[k].p4.h ∧ nAt (ims l) (k * 28 + 1 + 1 + 1 + 1 + 1 + 1 + 1 + 1 + 1 + 1 + 1 + 1 + 1 + 1 + 1 + 1 + 1 + 1 + 1 + 1 + 1 + 1 + 1 + 1 + 1 + 1) = l[k].p4.s ∧ lAt (ims l) (k * 28 + 1 + 1 + 1 + 1 + 1 + 1 + 1 + 1 + 1 + 1 + 1 + 1 + 1 + 1 + 1 + 1 + 1 + 1 + 1 + 1 + 1 + 1 + 1 + 1 + 1 + 1 + 1) = l[k].p4.n ∧ cAt (ims l) (k * 28 + 1 + 1 + 1 + 1 + 1 + 1 + 1 + 1 + 1 + 1 + 1 + 1 + 1 + 1 + 1 + 1 + 1 + 1 + 1 + 1 + 1 + 1 + 1 + 1 + 1 + 1 + 1) = l[k].p4.xs := by
  obtain ⟨e0, e1, e2, e3, e4, e5, e6, e7, e8, e9, e10, e11, e12, e13, e14, e15, e16, e17, e18, e19, e20, e21, e22, e23, e24, e25, e26, e27⟩ := ims_rd h
  simp only [nAt, bAt, lAt, cAt, e0, e1, e2, e3, e4, e5, e6, e7, e8, e9, e10, e11, e12, e13, e14, e15, e16, e17, e18, e19, e20, e21, e22, e23, e24, e25, e26, e27, and_self]
def imAt (xs : List DV) (i : Nat) : Im := ⟨nAt xs i, nAt xs (i + 1), bAt xs (i + 2), ⟨nAt xs (i + 3), nAt xs (i + 4), nAt xs (i + 5), nAt xs (i + 6), nAt xs (i + 7)⟩, ⟨nAt xs (i + 8), nAt xs (i + 9), nAt xs (i + 10), lAt xs (i + 11), cAt xs (i + 11)⟩, ⟨nAt xs (i + 12), nAt xs (i + 13), nAt xs (i + 14), lAt xs (i + 15), cAt xs (i + 15)⟩, ⟨nAt xs (i + 16), nAt xs (i + 17), nAt xs (i + 18), lAt xs (i + 19), cAt xs (i + 19)⟩, ⟨nAt xs (i + 20), nAt xs (i + 21), nAt xs (i + 22), lAt xs (i + 23), cAt xs (i + 23)⟩, ⟨nAt xs (i + 24), nAt xs (i + 25), nAt xs (i + 26), lAt xs (i + 27), cAt xs (i + 27)⟩⟩
theorem imAt_ims {l : List Im} {k : Nat} (h : k < l.length) : imAt (ims l) (k * 28) = l[k] := by
  have e := ims_at h
  simp only [imAt, show k * 28 + 2 = k * 28 + 1 + 1 from rfl, show k * 28 + 3 = k * 28 + 1 + 1 + 1 from rfl, show k * 28 + 4 = k * 28 + 1 + 1 + 1 + 1 from rfl, show k * 28 + 5 = k * 28 + 1 + 1 + 1 + 1 + 1 from rfl, show k * 28 + 6 = k * 28 + 1 + 1 + 1 + 1 + 1 + 1 from rfl, show k * 28 + 7 = k * 28 + 1 + 1 + 1 + 1 + 1 + 1 + 1 from rfl, show k * 28 + 8 = k * 28 + 1 + 1 + 1 + 1 + 1 + 1 + 1 + 1 from rfl, show k * 28 + 9 = k * 28 + 1 + 1 + 1 + 1 + 1 + 1 + 1 + 1 + 1 from rfl, show k * 28 + 10 = k * 28 + 1 + 1 + 1 + 1 + 1 + 1 + 1 + 1 + 1 + 1 from rfl, show k * 28 + 11 = k * 28 + 1 + 1 + 1 + 1 + 1 + 1 + 1 + 1 + 1 + 1 + 1 from rfl, show k * 28 + 12 = k * 28 + 1 + 1 + 1 + 1 + 1 + 1 + 1 + 1 + 1 + 1 + 1 + 1 from rfl, show k * 28 + 13 = k * 28 + 1 + 1 + 1 + 1 + 1 + 1 + 1 + 1 + 1 + 1 + 1 + 1 + 1 from rfl, show k * 28 + 14 = k * 28 + 1 + 1 + 1 + 1 + 1 + 1 + 1 + 1 + 1 + 1 + 1 + 1 + 1 + 1 from rfl, show k * 28 + 15 = k * 28 + 1 + 1 + 1 + 1 + 1 + 1 + 1 + 1 + 1 + 1 + 1 + 1 + 1 + 1 + 1 from rfl, show k * 28 + 16 = k * 28 + 1 + 1 + 1 + 1 + 1 + 1 + 1 + 1 + 1 + 1 + 1 + 1 + 1 + 1 + 1 + 1 from rfl, show k * 28 + 17 = k * 28 + 1 + 1 + 1 + 1 + 1 + 1 + 1 + 1 + 1 + 1 + 1 + 1 + 1 + 1 + 1 + 1 + 1 from rfl, show k * 28 + 18 = k * 28 + 1 + 1 + 1 + 1 + 1 + 1 + 1 + 1 + 1 + 1 + 1 + 1 + 1 + 1 + 1 + 1 + 1 + 1 from rfl, show k * 28 + 19 = k * 28 + 1 + 1 + 1 + 1 + 1 + 1 + 1 + 1 + 1 + 1 + 1 + 1 + 1 + 1 + 1 + 1 + 1 + 1 + 1 from rfl, show k * 28 + 20 = k * 28 + 1 + 1 + 1 + 1 + 1 + 1 + 1 + 1 + 1 + 1 + 1 + 1 + 1 + 1 + 1 + 1 + 1 + 1 + 1 + 1 from rfl, show k * 28 + 21 = k * 28 + 1 + 1 + 1 + 1 + 1 + 1 + 1 + 1 + 1 + 1 + 1 + 1 + 1 + 1 + 1 + 1 + 1 + 1 + 1 + 1 + 1 from rfl, show k * 28 + 22 = k * 28 + 1 + 1 + 1 + 1 + 1 + 1 + 1 + 1 + 1 + 1 + 1 + 1 + 1 + 1 + 1 + 1 + 1 + 1 + 1 + 1 + 1 + 1 from rfl, show k * 28 + 23 = k * 28 + 1 + 1 + 1 + 1 + 1 + 1 + 1 + 1 + 1 + 1 + 1 + 1 + 1 + 1 + 1 + 1 + 1 + 1 + 1 + 1 + 1 + 1 + 1 from rfl, show k * 28 + 24 = k * 28 + 1 + 1 + 1 + 1 + 1 + 1 + 1 + 1 + 1 + 1 + 1 + 1 + 1 + 1 + 1 + 1 + 1 + 1 + 1 + 1 + 1 + 1 + 1 + 1 from rfl, show k * 28 + 25 = k * 28 + 1 + 1 + 1 + 1 + 1 + 1 + 1 + 1 + 1 + 1 + 1 + 1 + 1 + 1 + 1 + 1 + 1 + 1 + 1 + 1 + 1 + 1 + 1 + 1 + 1 from rfl, show k * 28 + 26 = k * 28 + 1 + 1 + 1 + 1 + 1 + 1 + 1 + 1 + 1 + 1 + 1 + 1 + 1 + 1 + 1 + 1 + 1 + 1 + 1 + 1 + 1 + 1 + 1 + 1 + 1 + 1 from rfl, show k * 28 + 27 = k * 28 + 1 + 1 + 1 + 1 + 1 + 1 + 1 + 1 + 1 + 1 + 1 + 1 + 1 + 1 + 1 + 1 + 1 + 1 + 1 + 1 + 1 + 1 + 1 + 1 + 1 + 1 + 1 from rfl, e]
def toIms (xs : List DV) : List Im := (List.range (xs.length / 28)).map fun k => imAt xs (k * 28)
theorem toIms_ims (l : List Im) : toIms (ims l) = l := by
  have e : (ims l).length / 28 = l.length := by rw [ims_length]; omega
  unfold toIms
  rw [e]
  refine List.ext_getElem (by simp) fun i h1 h2 => ?_
  simp only [List.getElem_map, List.getElem_range]
  exact imAt_ims h2
def IsIms (n : Nat) (xs : List DV) : Prop := (xs = ims (toIms xs) ∧ n = (toIms xs).length) ∧ ∀ m ∈ toIms xs, m.isU
theorem IsIms.of {n : Nat} {xs : List DV} (h : IsIms n xs) : ∃ l : List Im, (∀ m ∈ l, m.isU) ∧ xs = ims l ∧ n = l.length := ⟨toIms xs, h.2, h.1.1, h.1.2⟩
def IsOps (n : Nat) (xs : List DV) : Prop := xs = ops (toOps xs) ∧ n = (toOps xs).length
theorem ops_one (o : Oq) : ops [o] = o.cells := by simp [ops]

/-! ### what the generator makes -/
def gOff (n c : Int) : Int := if modS n 3 = 0 then c else c + modS (IntKind.wrap .i64 (Int.tdiv n 3)) 9 - 4
/-- numbers of an operation -/
structure Rw where
  k : Int
  im : Int
  x : Int
  y : Int
  ma : Int
  mx : Int
  my : Int
  op : Int
  ope : Int
  mo : Int
  fl : Int
def gOp (r : Rw) (push : Bool) (n : Int) (c : Rc) (free : Bool) (most : Int) : Oq :=
  let m := decide (modS r.ma 4 = 0)
  ⟨if push then 2 else 1, if push then 0 else modS r.im n, if push then 0 else gOff r.x c.a, if push then 0 else gOff r.y c.b,
    if m then 1 + modS (IntKind.wrap .i64 (Int.tdiv r.ma 4)) n else 0, if m then gOff r.mx c.a else 0, if m then gOff r.my c.b else 0,
    if modS r.op 2 = 0 then gSample (IntKind.wrap .i64 (Int.tdiv r.op 2)) most else most,
    if free && decide (modS r.ope 2 = 0) then 1 + modS (IntKind.wrap .i64 (Int.tdiv r.ope 2)) 12 else 4,
    if modS r.mo 2 = 0 then 1 + modS (IntKind.wrap .i64 (Int.tdiv r.mo 2)) 12 else 1,
    push && decide (modS r.fl 2 = 0), push && decide (modS (IntKind.wrap .i64 (Int.tdiv r.fl 2)) 3 = 0)⟩
def rwAt (xs : List DV) (i : Nat) : Rw := ⟨nAt xs i, nAt xs (i + 1), nAt xs (i + 2), nAt xs (i + 3), nAt xs (i + 4), nAt xs (i + 5), nAt xs (i + 6), nAt xs (i + 7), nAt xs (i + 8), nAt xs (i + 9), nAt xs (i + 10)⟩
structure Scn where
  b : Int
  x : Int
  y : Int
  w : Int
  h : Int
  tw : Int
  th : Int
  on : Nat
  oxs : List DV
  pn : Nat
  pxs : List DV
  rn : Nat
  rxs : List DV
def Scn.c (s : Scn) : Rc := ⟨modS s.x 13 - 6, modS s.y 13 - 6, modS s.x 13 - 6 + (1 + modS s.w 5), modS s.y 13 - 6 + (1 + modS s.h 4)⟩
def Scn.gw (s : Scn) : Int := 1 + modS s.w 5
def Scn.gh (s : Scn) : Int := 1 + modS s.h 4
def Scn.gtw (s : Scn) : Int := 1 + modS s.tw s.gw
def Scn.gth (s : Scn) : Int := 1 + modS s.th s.gh
def Scn.most (s : Scn) : Int := gMax s.b
def Scn.bits (s : Scn) : Int := if s.most > 255 then 16 else 8
def Scn.tiles (s : Scn) : Int := IntKind.wrap .i64 ((cntS s.c s.gtw s.gth).1 * (cntS s.c s.gtw s.gth).2.1)
def Scn.ord (s : Scn) : List Int := permL (ints s.oxs) s.tiles
def Scn.pic (s : Scn) (k : Nat) : Im := gImage (nAt s.pxs (k * 5)) (nAt s.pxs (k * 5 + 1)) (nAt s.pxs (k * 5 + 2)) (nAt s.pxs (k * 5 + 3)) (lAt s.pxs (k * 5 + 4)) (cAt s.pxs (k * 5 + 4)) s.c.a s.c.b s.c.c s.c.d s.most
def Scn.pics (s : Scn) (k : Nat) : List Im := (List.range k).map s.pic
def Scn.solo (s : Scn) : Im := solidIm s.gw s.gh ⟨s.most, 0, 0, s.most, s.most⟩
def Scn.ims (s : Scn) : List Im := if min s.pn 4 = 0 then [s.solo] else s.pics (min s.pn 4)
/-- operations, and the open groups -/
def Scn.step (s : Scn) (r : Rw) (z : List Oq × List Oq) : List Oq × List Oq :=
  if modS r.k 8 = 0 ∧ 0 < z.2.length then (z.1 ++ [popO], z.2.dropLast)
  else
    let o := gOp r (decide (modS r.k 8 < 3)) s.ims.length s.c (ctxB z.2) s.most
    (z.1 ++ [o], if modS r.k 8 < 3 then z.2 ++ [o] else z.2)
def Scn.run (s : Scn) : Nat → List Oq × List Oq
  | 0 => ([], [])
  | k + 1 => s.step (rwAt s.rxs (k * 11)) (s.run k)
def Scn.ops (s : Scn) : List Oq := (s.run (min s.rn 9)).1 ++ List.replicate (s.run (min s.rn 9)).2.length popO
def IsPics (n : Nat) (xs : List DV) : Prop := xs.length = n * 5 ∧ ∀ k, k < n → xs[k * 5]? = some (.int .i64 (nAt xs (k * 5))) ∧ xs[k * 5 + 1]? = some (.int .i64 (nAt xs (k * 5 + 1))) ∧ xs[k * 5 + 1 + 1]? = some (.int .i64 (nAt xs (k * 5 + 1 + 1))) ∧ xs[k * 5 + 1 + 1 + 1]? = some (.int .i64 (nAt xs (k * 5 + 1 + 1 + 1))) ∧ xs[k * 5 + 1 + 1 + 1 + 1]? = some (.sl (lAt xs (k * 5 + 1 + 1 + 1 + 1)) (cAt xs (k * 5 + 1 + 1 + 1 + 1))) ∧ Is5 (lAt xs (k * 5 + 1 + 1 + 1 + 1)) (cAt xs (k * 5 + 1 + 1 + 1 + 1))
def IsRws (n : Nat) (xs : List DV) : Prop := xs.length = n * 11 ∧ ∀ i, i < n * 11 → xs[i]? = some (.int .i64 (nAt xs i))
def Scn.ok (s : Scn) : Prop := (s.oxs = is (ints s.oxs) ∧ s.on = s.oxs.length) ∧ IsPics s.pn s.pxs ∧ IsRws s.rn s.rxs
theorem Scn.facts (s : Scn) : (0 ≤ modS s.x 13 ∧ modS s.x 13 < 13) ∧ (0 ≤ modS s.y 13 ∧ modS s.y 13 < 13) ∧ (1 ≤ s.gw ∧ s.gw ≤ 5) ∧ (1 ≤ s.gh ∧ s.gh ≤ 4) ∧ (1 ≤ s.gtw ∧ s.gtw ≤ s.gw) ∧ (1 ≤ s.gth ∧ s.gth ≤ s.gh) := by
  have a := @modS_in s.x 13 (by omega) (by omega)
  have b := @modS_in s.y 13 (by omega) (by omega)
  have c := @modS_in s.w 5 (by omega) (by omega)
  have d := @modS_in s.h 4 (by omega) (by omega)
  have e : 1 ≤ s.gw ∧ s.gw ≤ 5 := by unfold Scn.gw; omega
  have f : 1 ≤ s.gh ∧ s.gh ≤ 4 := by unfold Scn.gh; omega
  have g := @modS_in s.tw s.gw (by omega) (by omega)
  have h := @modS_in s.th s.gh (by omega) (by omega)
  exact ⟨a, b, e, f, by unfold Scn.gtw; omega, by unfold Scn.gth; omega⟩
theorem Scn.pics_succ (s : Scn) (k : Nat) : s.pics (k + 1) = s.pics k ++ [s.pic k] := by simp [Scn.pics, List.range_succ]
theorem Scn.pics_len (s : Scn) (k : Nat) : (s.pics k).length = k := by simp [Scn.pics]
theorem Scn.ims_len (s : Scn) : 1 ≤ s.ims.length ∧ s.ims.length ≤ 4 := by
  unfold Scn.ims
  split
  · simp
  · rw [Scn.pics_len]; omega
theorem Scn.run_len (s : Scn) (k : Nat) : (s.run k).1.length = k ∧ (s.run k).2.length ≤ k := by
  induction k with
  | zero => simp [Scn.run]
  | succ k ih =>
    simp only [Scn.run, Scn.step]
    split
    · simp; omega
    · simp only []
      split <;> simp <;> omega
theorem Scn.most_in (s : Scn) : s.most = 255 ∨ s.most = 65535 := by
  unfold Scn.most gMax
  split <;> simp
theorem Scn.ims_isU (s : Scn) : ∀ m ∈ s.ims, m.isU := by
  intro m hm
  unfold Scn.ims at hm
  split at hm
  · rw [List.mem_singleton] at hm; subst hm; exact solidIm_isU _ _ _
  · simp only [Scn.pics, List.mem_map] at hm
    obtain ⟨k, _, rfl⟩ := hm
    exact gImage_isU _ _ _ _ _ _ _ _ _ _ _
theorem Scn.c_facts (s : Scn) : s.c.c - s.c.a = s.gw ∧ s.c.d - s.c.b = s.gh ∧ -6 ≤ s.c.a ∧ s.c.a ≤ 6 ∧ -6 ≤ s.c.b ∧ s.c.b ≤ 6 := by
  have := s.facts
  simp only [Scn.c, Scn.gw, Scn.gh] at this ⊢
  omega
theorem Scn.bits_of (s : Scn) : (gMax s.b > 255 → 16 = s.bits) ∧ (¬ gMax s.b > 255 → 8 = s.bits) := by
  unfold Scn.bits Scn.most
  exact ⟨fun h => by rw [if_pos h], fun h => by rw [if_neg h]⟩
theorem cnt1 {n w : Int} (h : 1 ≤ w) (hw : w ≤ n) (hn : n ≤ 5) : 1 ≤ IntKind.wrap .i64 (Int.tdiv (IntKind.wrap .i64 (IntKind.wrap .i64 (IntKind.wrap .i64 n + w) - 1)) w) ∧ IntKind.wrap .i64 (Int.tdiv (IntKind.wrap .i64 (IntKind.wrap .i64 (IntKind.wrap .i64 n + w) - 1)) w) ≤ n := by
  rw [IntWalk.i64_in n ⟨by omega, by omega⟩, IntWalk.i64_in (n + w) ⟨by omega, by omega⟩, IntWalk.i64_in (n + w - 1) ⟨by omega, by omega⟩, Int.tdiv_eq_ediv_of_nonneg (by omega)]
  have : 1 ≤ (n + w - 1) / w ∧ (n + w - 1) / w ≤ n := by
    rcases (show w = 1 ∨ w = 2 ∨ w = 3 ∨ w = 4 ∨ w = 5 by omega) with rfl | rfl | rfl | rfl | rfl <;> omega
  rw [IntWalk.i64_in _ ⟨by omega, by omega⟩]
  exact this
theorem Scn.cnt (s : Scn) : (cntS s.c s.gtw s.gth).2.2 = true ∧ (1 ≤ (cntS s.c s.gtw s.gth).1 ∧ (cntS s.c s.gtw s.gth).1 ≤ 5) ∧ 1 ≤ (cntS s.c s.gtw s.gth).2.1 ∧ (cntS s.c s.gtw s.gth).2.1 ≤ 4 := by
  obtain ⟨f1, f2, f3, f4, f5, f6⟩ := s.facts
  have CF := s.c_facts
  have he : Rc.empty s.c = false := by
    rw [Rc.empty_iff]; omega
  unfold cntS
  rw [he, if_neg (by simp), CF.1, CF.2.1, if_neg (by rw [IntWalk.i64_in _ ⟨by omega, by omega⟩, IntWalk.i64_in _ ⟨by omega, by omega⟩]; omega)]
  have a := cnt1 f5.1 f5.2 (by omega)
  have b := cnt1 f6.1 f6.2 (by omega)
  exact ⟨rfl, ⟨a.1, Int.le_trans a.2 (by omega)⟩, b.1, Int.le_trans b.2 (by omega)⟩
theorem Scn.tiles_in (s : Scn) : 0 ≤ s.tiles ∧ s.tiles ≤ 20 := by
  obtain ⟨_, a, b⟩ := s.cnt
  unfold Scn.tiles
  generalize (cntS s.c s.gtw s.gth).1 = x at *
  generalize (cntS s.c s.gtw s.gth).2.1 = y at *
  have h1 : 0 ≤ x * y := Int.mul_nonneg (by omega) (by omega)
  have h2 : x * y ≤ 5 * 4 := Int.mul_le_mul a.2 b.2 (by omega) (by omega)
  rw [IntWalk.i64_in _ ⟨by omega, by omega⟩]
  omega
theorem Scn.run_pop {s : Scn} {k : Nat} (h : modS (rwAt s.rxs (k * 11)).k 8 = 0 ∧ 0 < (s.run k).2.length) : s.run (k + 1) = ((s.run k).1 ++ [popO], (s.run k).2.dropLast) := by
  simp only [Scn.run, Scn.step]
  rw [if_pos h]
theorem Scn.run_op {s : Scn} {k : Nat} (h : ¬ (modS (rwAt s.rxs (k * 11)).k 8 = 0 ∧ 0 < (s.run k).2.length)) {o : Oq} (ho : o = gOp (rwAt s.rxs (k * 11)) (decide (modS (rwAt s.rxs (k * 11)).k 8 < 3)) s.ims.length s.c (ctxB (s.run k).2) s.most) :
    (o.kind = 2 → s.run (k + 1) = ((s.run k).1 ++ [o], (s.run k).2 ++ [o])) ∧ (o.kind ≠ 2 → s.run (k + 1) = ((s.run k).1 ++ [o], (s.run k).2)) := by
  have e : s.run (k + 1) = ((s.run k).1 ++ [o], if modS (rwAt s.rxs (k * 11)).k 8 < 3 then (s.run k).2 ++ [o] else (s.run k).2) := by
    simp only [Scn.run, Scn.step]
    rw [if_neg h, ← ho]
  have hk : o.kind = if modS (rwAt s.rxs (k * 11)).k 8 < 3 then 2 else 1 := by
    rw [ho]
    simp [gOp]
  rw [e, hk]
  split <;> simp
theorem ctxB_last {l : List Oq} (h : 0 < l.length) : ctxB l = (l[l.length - 1].iso && !l[l.length - 1].kno) := by
  unfold ctxB
  rw [List.getLast?_eq_getElem?, List.getElem?_eq_getElem (by omega)]
end Go.Proofs.Ytkfgmaecbclgfaa

/-
  The contracts of images, all in one place.
-/
namespace Go.Proofs.Ytkfgmaecbclgfaa
open Go.RowKit
set_option linter.unusedVariables false
set_option linter.unusedSimpArgs false

def gamI : Gam where
 pure := fun f xs =>
  if f = 16 then (match xs with | [.d (.int _ n), .d (.int _ k)] => some (RV.d (DV.int .i64 (modS n k))) | _ => none) else
  if f = 82 then (match xs with | [.agg [.int _ a, .int _ b, .int _ c, .int _ d]] => some (RV.d (DV.bool (Rc.valid ⟨a, b, c, d⟩))) | _ => none) else
  if f = 58 then (match xs with | [.agg [.int _ a, .int _ b, .int _ c, .int _ d]] => some (RV.d (DV.bool (Rc.empty ⟨a, b, c, d⟩))) | _ => none) else
  if f = 90 then (match xs with | [.d (.int _ w), .d (.int _ h)] => some (RV.d (DV.bool (fitsP w h))) | _ => none) else
  if f = 70 then (match xs with | [.d (.int _ w), .d (.int _ h)] => some (RV.d (DV.bool (fitsP w h))) | _ => none) else
  if f = 94 then (match xs with | [.d (.int _ w), .d (.int _ h)] => some (RV.d (DV.bool (fitsP w h))) | _ => none) else
  if f = 91 then (match xs with | [.agg [.int _ w, .int _ h, .int _ s, .sl n xs]] => some (RV.d (DV.bool (zeroPl ⟨w, h, s, n, xs⟩))) | _ => none) else
  if f = 95 then (match xs with | [.d (.int _ w), .d (.int _ h), .d (.int _ s)] => some (RV.d (DV.int .i64 (lenW w h s))) | _ => none) else
  if f = 92 then (match xs with | [.agg [.int _ w, .int _ h, .int _ s, .sl n xs]] => some (RV.d (DV.bool (validP w h s n))) | _ => none) else
  if f = 86 then (match xs with | [.agg [.int _ w, .int _ h, .int _ s, .sl n xs]] => some (RV.d (DV.bool (validP w h s n))) | _ => none) else
  if f = 85 then (match xs with | [.agg [.int _ c0, .int _ c1, .int _ c2, .int _ ca, .int _ cf], .d (.int _ most)] => some (RV.d (DV.bool (Px.ok ⟨c0, c1, c2, ca, cf⟩ most))) | _ => none) else
  if f = 79 then (match xs with | [.agg [.int _ w, .int _ h, .bool so, .int _ c0, .int _ c1, .int _ c2, .int _ ca, .int _ cf, .int _ w0, .int _ h0, .int _ s0, .sl n0 xs0, .int _ w1, .int _ h1, .int _ s1, .sl n1 xs1, .int _ w2, .int _ h2, .int _ s2, .sl n2 xs2, .int _ w3, .int _ h3, .int _ s3, .sl n3 xs3, .int _ w4, .int _ h4, .int _ s4, .sl n4 xs4]] => some (RV.d (DV.bool (Im.formed ⟨w, h, so, ⟨c0, c1, c2, ca, cf⟩, ⟨w0, h0, s0, n0, xs0⟩, ⟨w1, h1, s1, n1, xs1⟩, ⟨w2, h2, s2, n2, xs2⟩, ⟨w3, h3, s3, n3, xs3⟩, ⟨w4, h4, s4, n4, xs4⟩⟩))) | _ => none) else
  if f = 71 then (match xs with | [.agg [.int _ w, .int _ h, .bool so, .int _ c0, .int _ c1, .int _ c2, .int _ ca, .int _ cf, .int _ w0, .int _ h0, .int _ s0, .sl n0 xs0, .int _ w1, .int _ h1, .int _ s1, .sl n1 xs1, .int _ w2, .int _ h2, .int _ s2, .sl n2 xs2, .int _ w3, .int _ h3, .int _ s3, .sl n3 xs3, .int _ w4, .int _ h4, .int _ s4, .sl n4 xs4]] => some (RV.d (DV.bool (Im.inner ⟨w, h, so, ⟨c0, c1, c2, ca, cf⟩, ⟨w0, h0, s0, n0, xs0⟩, ⟨w1, h1, s1, n1, xs1⟩, ⟨w2, h2, s2, n2, xs2⟩, ⟨w3, h3, s3, n3, xs3⟩, ⟨w4, h4, s4, n4, xs4⟩⟩))) | _ => none) else
  if f = 42 then (match xs with | [.agg [.int _ w, .int _ h, .bool so, .int _ c0, .int _ c1, .int _ c2, .int _ ca, .int _ cf, .int _ w0, .int _ h0, .int _ s0, .sl n0 xs0, .int _ w1, .int _ h1, .int _ s1, .sl n1 xs1, .int _ w2, .int _ h2, .int _ s2, .sl n2 xs2, .int _ w3, .int _ h3, .int _ s3, .sl n3 xs3, .int _ w4, .int _ h4, .int _ s4, .sl n4 xs4]] => some (RV.d (DV.bool (Im.formed ⟨w, h, so, ⟨c0, c1, c2, ca, cf⟩, ⟨w0, h0, s0, n0, xs0⟩, ⟨w1, h1, s1, n1, xs1⟩, ⟨w2, h2, s2, n2, xs2⟩, ⟨w3, h3, s3, n3, xs3⟩, ⟨w4, h4, s4, n4, xs4⟩⟩))) | _ => none) else
  if f = 81 then (match xs with | [.agg [.int _ w, .int _ h, .bool so, .int _ c0, .int _ c1, .int _ c2, .int _ ca, .int _ cf, .int _ w0, .int _ h0, .int _ s0, .sl n0 xs0, .int _ w1, .int _ h1, .int _ s1, .sl n1 xs1, .int _ w2, .int _ h2, .int _ s2, .sl n2 xs2, .int _ w3, .int _ h3, .int _ s3, .sl n3 xs3, .int _ w4, .int _ h4, .int _ s4, .sl n4 xs4], .d (.int _ x), .d (.int _ y)] => some (RV.agg [DV.int .u16 ((Im.px ⟨w, h, so, ⟨c0, c1, c2, ca, cf⟩, ⟨w0, h0, s0, n0, xs0⟩, ⟨w1, h1, s1, n1, xs1⟩, ⟨w2, h2, s2, n2, xs2⟩, ⟨w3, h3, s3, n3, xs3⟩, ⟨w4, h4, s4, n4, xs4⟩⟩ x y).a), DV.int .u16 ((Im.px ⟨w, h, so, ⟨c0, c1, c2, ca, cf⟩, ⟨w0, h0, s0, n0, xs0⟩, ⟨w1, h1, s1, n1, xs1⟩, ⟨w2, h2, s2, n2, xs2⟩, ⟨w3, h3, s3, n3, xs3⟩, ⟨w4, h4, s4, n4, xs4⟩⟩ x y).b), DV.int .u16 ((Im.px ⟨w, h, so, ⟨c0, c1, c2, ca, cf⟩, ⟨w0, h0, s0, n0, xs0⟩, ⟨w1, h1, s1, n1, xs1⟩, ⟨w2, h2, s2, n2, xs2⟩, ⟨w3, h3, s3, n3, xs3⟩, ⟨w4, h4, s4, n4, xs4⟩⟩ x y).c), DV.int .u16 ((Im.px ⟨w, h, so, ⟨c0, c1, c2, ca, cf⟩, ⟨w0, h0, s0, n0, xs0⟩, ⟨w1, h1, s1, n1, xs1⟩, ⟨w2, h2, s2, n2, xs2⟩, ⟨w3, h3, s3, n3, xs3⟩, ⟨w4, h4, s4, n4, xs4⟩⟩ x y).al), DV.int .u16 ((Im.px ⟨w, h, so, ⟨c0, c1, c2, ca, cf⟩, ⟨w0, h0, s0, n0, xs0⟩, ⟨w1, h1, s1, n1, xs1⟩, ⟨w2, h2, s2, n2, xs2⟩, ⟨w3, h3, s3, n3, xs3⟩, ⟨w4, h4, s4, n4, xs4⟩⟩ x y).f)]) | _ => none) else
  if f = 67 then (match xs with | [.agg [.int _ w, .int _ h, .bool so, .int _ c0, .int _ c1, .int _ c2, .int _ ca, .int _ cf, .int _ w0, .int _ h0, .int _ s0, .sl n0 xs0, .int _ w1, .int _ h1, .int _ s1, .sl n1 xs1, .int _ w2, .int _ h2, .int _ s2, .sl n2 xs2, .int _ w3, .int _ h3, .int _ s3, .sl n3 xs3, .int _ w4, .int _ h4, .int _ s4, .sl n4 xs4], .d (.int _ x), .d (.int _ y)] => some (RV.agg [DV.int .u16 ((Im.px ⟨w, h, so, ⟨c0, c1, c2, ca, cf⟩, ⟨w0, h0, s0, n0, xs0⟩, ⟨w1, h1, s1, n1, xs1⟩, ⟨w2, h2, s2, n2, xs2⟩, ⟨w3, h3, s3, n3, xs3⟩, ⟨w4, h4, s4, n4, xs4⟩⟩ x y).a), DV.int .u16 ((Im.px ⟨w, h, so, ⟨c0, c1, c2, ca, cf⟩, ⟨w0, h0, s0, n0, xs0⟩, ⟨w1, h1, s1, n1, xs1⟩, ⟨w2, h2, s2, n2, xs2⟩, ⟨w3, h3, s3, n3, xs3⟩, ⟨w4, h4, s4, n4, xs4⟩⟩ x y).b), DV.int .u16 ((Im.px ⟨w, h, so, ⟨c0, c1, c2, ca, cf⟩, ⟨w0, h0, s0, n0, xs0⟩, ⟨w1, h1, s1, n1, xs1⟩, ⟨w2, h2, s2, n2, xs2⟩, ⟨w3, h3, s3, n3, xs3⟩, ⟨w4, h4, s4, n4, xs4⟩⟩ x y).c), DV.int .u16 ((Im.px ⟨w, h, so, ⟨c0, c1, c2, ca, cf⟩, ⟨w0, h0, s0, n0, xs0⟩, ⟨w1, h1, s1, n1, xs1⟩, ⟨w2, h2, s2, n2, xs2⟩, ⟨w3, h3, s3, n3, xs3⟩, ⟨w4, h4, s4, n4, xs4⟩⟩ x y).al), DV.int .u16 ((Im.px ⟨w, h, so, ⟨c0, c1, c2, ca, cf⟩, ⟨w0, h0, s0, n0, xs0⟩, ⟨w1, h1, s1, n1, xs1⟩, ⟨w2, h2, s2, n2, xs2⟩, ⟨w3, h3, s3, n3, xs3⟩, ⟨w4, h4, s4, n4, xs4⟩⟩ x y).f)]) | _ => none) else
  if f = 84 then (match xs with | [.agg [.int _ w, .int _ h, .bool so, .int _ c0, .int _ c1, .int _ c2, .int _ ca, .int _ cf, .int _ w0, .int _ h0, .int _ s0, .sl n0 xs0, .int _ w1, .int _ h1, .int _ s1, .sl n1 xs1, .int _ w2, .int _ h2, .int _ s2, .sl n2 xs2, .int _ w3, .int _ h3, .int _ s3, .sl n3 xs3, .int _ w4, .int _ h4, .int _ s4, .sl n4 xs4]] => some (RV.d (DV.int .i64 (Im.shape ⟨w, h, so, ⟨c0, c1, c2, ca, cf⟩, ⟨w0, h0, s0, n0, xs0⟩, ⟨w1, h1, s1, n1, xs1⟩, ⟨w2, h2, s2, n2, xs2⟩, ⟨w3, h3, s3, n3, xs3⟩, ⟨w4, h4, s4, n4, xs4⟩⟩))) | _ => none) else
  if f = 87 then (match xs with | [.d (.int _ w), .d (.int _ h), .agg [.int _ c0, .int _ c1, .int _ c2, .int _ ca, .int _ cf]] => some (RV.agg [DV.int .i64 ((solidIm w h ⟨c0, c1, c2, ca, cf⟩).w), DV.int .i64 ((solidIm w h ⟨c0, c1, c2, ca, cf⟩).h), DV.bool ((solidIm w h ⟨c0, c1, c2, ca, cf⟩).so), DV.int .u16 (((solidIm w h ⟨c0, c1, c2, ca, cf⟩).c).a), DV.int .u16 (((solidIm w h ⟨c0, c1, c2, ca, cf⟩).c).b), DV.int .u16 (((solidIm w h ⟨c0, c1, c2, ca, cf⟩).c).c), DV.int .u16 (((solidIm w h ⟨c0, c1, c2, ca, cf⟩).c).al), DV.int .u16 (((solidIm w h ⟨c0, c1, c2, ca, cf⟩).c).f), DV.int .i64 (((solidIm w h ⟨c0, c1, c2, ca, cf⟩).p0).w), DV.int .i64 (((solidIm w h ⟨c0, c1, c2, ca, cf⟩).p0).h), DV.int .i64 (((solidIm w h ⟨c0, c1, c2, ca, cf⟩).p0).s), DV.sl (((solidIm w h ⟨c0, c1, c2, ca, cf⟩).p0).n) (((solidIm w h ⟨c0, c1, c2, ca, cf⟩).p0).xs), DV.int .i64 (((solidIm w h ⟨c0, c1, c2, ca, cf⟩).p1).w), DV.int .i64 (((solidIm w h ⟨c0, c1, c2, ca, cf⟩).p1).h), DV.int .i64 (((solidIm w h ⟨c0, c1, c2, ca, cf⟩).p1).s), DV.sl (((solidIm w h ⟨c0, c1, c2, ca, cf⟩).p1).n) (((solidIm w h ⟨c0, c1, c2, ca, cf⟩).p1).xs), DV.int .i64 (((solidIm w h ⟨c0, c1, c2, ca, cf⟩).p2).w), DV.int .i64 (((solidIm w h ⟨c0, c1, c2, ca, cf⟩).p2).h), DV.int .i64 (((solidIm w h ⟨c0, c1, c2, ca, cf⟩).p2).s), DV.sl (((solidIm w h ⟨c0, c1, c2, ca, cf⟩).p2).n) (((solidIm w h ⟨c0, c1, c2, ca, cf⟩).p2).xs), DV.int .i64 (((solidIm w h ⟨c0, c1, c2, ca, cf⟩).p3).w), DV.int .i64 (((solidIm w h ⟨c0, c1, c2, ca, cf⟩).p3).h), DV.int .i64 (((solidIm w h ⟨c0, c1, c2, ca, cf⟩).p3).s), DV.sl (((solidIm w h ⟨c0, c1, c2, ca, cf⟩).p3).n) (((solidIm w h ⟨c0, c1, c2, ca, cf⟩).p3).xs), DV.int .i64 (((solidIm w h ⟨c0, c1, c2, ca, cf⟩).p4).w), DV.int .i64 (((solidIm w h ⟨c0, c1, c2, ca, cf⟩).p4).h), DV.int .i64 (((solidIm w h ⟨c0, c1, c2, ca, cf⟩).p4).s), DV.sl (((solidIm w h ⟨c0, c1, c2, ca, cf⟩).p4).n) (((solidIm w h ⟨c0, c1, c2, ca, cf⟩).p4).xs)]) | _ => none) else
  if f = 27 then (match xs with | [.d (.int _ w), .d (.int _ h), .agg [.int _ c0, .int _ c1, .int _ c2, .int _ ca, .int _ cf]] => some (RV.agg [DV.int .i64 ((solidIm w h ⟨c0, c1, c2, ca, cf⟩).w), DV.int .i64 ((solidIm w h ⟨c0, c1, c2, ca, cf⟩).h), DV.bool ((solidIm w h ⟨c0, c1, c2, ca, cf⟩).so), DV.int .u16 (((solidIm w h ⟨c0, c1, c2, ca, cf⟩).c).a), DV.int .u16 (((solidIm w h ⟨c0, c1, c2, ca, cf⟩).c).b), DV.int .u16 (((solidIm w h ⟨c0, c1, c2, ca, cf⟩).c).c), DV.int .u16 (((solidIm w h ⟨c0, c1, c2, ca, cf⟩).c).al), DV.int .u16 (((solidIm w h ⟨c0, c1, c2, ca, cf⟩).c).f), DV.int .i64 (((solidIm w h ⟨c0, c1, c2, ca, cf⟩).p0).w), DV.int .i64 (((solidIm w h ⟨c0, c1, c2, ca, cf⟩).p0).h), DV.int .i64 (((solidIm w h ⟨c0, c1, c2, ca, cf⟩).p0).s), DV.sl (((solidIm w h ⟨c0, c1, c2, ca, cf⟩).p0).n) (((solidIm w h ⟨c0, c1, c2, ca, cf⟩).p0).xs), DV.int .i64 (((solidIm w h ⟨c0, c1, c2, ca, cf⟩).p1).w), DV.int .i64 (((solidIm w h ⟨c0, c1, c2, ca, cf⟩).p1).h), DV.int .i64 (((solidIm w h ⟨c0, c1, c2, ca, cf⟩).p1).s), DV.sl (((solidIm w h ⟨c0, c1, c2, ca, cf⟩).p1).n) (((solidIm w h ⟨c0, c1, c2, ca, cf⟩).p1).xs), DV.int .i64 (((solidIm w h ⟨c0, c1, c2, ca, cf⟩).p2).w), DV.int .i64 (((solidIm w h ⟨c0, c1, c2, ca, cf⟩).p2).h), DV.int .i64 (((solidIm w h ⟨c0, c1, c2, ca, cf⟩).p2).s), DV.sl (((solidIm w h ⟨c0, c1, c2, ca, cf⟩).p2).n) (((solidIm w h ⟨c0, c1, c2, ca, cf⟩).p2).xs), DV.int .i64 (((solidIm w h ⟨c0, c1, c2, ca, cf⟩).p3).w), DV.int .i64 (((solidIm w h ⟨c0, c1, c2, ca, cf⟩).p3).h), DV.int .i64 (((solidIm w h ⟨c0, c1, c2, ca, cf⟩).p3).s), DV.sl (((solidIm w h ⟨c0, c1, c2, ca, cf⟩).p3).n) (((solidIm w h ⟨c0, c1, c2, ca, cf⟩).p3).xs), DV.int .i64 (((solidIm w h ⟨c0, c1, c2, ca, cf⟩).p4).w), DV.int .i64 (((solidIm w h ⟨c0, c1, c2, ca, cf⟩).p4).h), DV.int .i64 (((solidIm w h ⟨c0, c1, c2, ca, cf⟩).p4).s), DV.sl (((solidIm w h ⟨c0, c1, c2, ca, cf⟩).p4).n) (((solidIm w h ⟨c0, c1, c2, ca, cf⟩).p4).xs)]) | _ => none) else
  if f = 69 then (match xs with | [.agg [.int _ w, .int _ h, .bool so, .int _ c0, .int _ c1, .int _ c2, .int _ ca, .int _ cf, .int _ w0, .int _ h0, .int _ s0, .sl n0 xs0, .int _ w1, .int _ h1, .int _ s1, .sl n1 xs1, .int _ w2, .int _ h2, .int _ s2, .sl n2 xs2, .int _ w3, .int _ h3, .int _ s3, .sl n3 xs3, .int _ w4, .int _ h4, .int _ s4, .sl n4 xs4], .d (.int _ most)] => some (RV.d (DV.int .i64 (Im.valid ⟨w, h, so, ⟨c0, c1, c2, ca, cf⟩, ⟨w0, h0, s0, n0, xs0⟩, ⟨w1, h1, s1, n1, xs1⟩, ⟨w2, h2, s2, n2, xs2⟩, ⟨w3, h3, s3, n3, xs3⟩, ⟨w4, h4, s4, n4, xs4⟩⟩ most))) | _ => none) else
  if f = 65 then (match xs with | [] => some (RV.tup [RV.tup [RV.d (DV.int .i64 37), RV.d (DV.int .i64 5)]]) | [.agg [.int _ w, .int _ h, .bool so, .int _ c0, .int _ c1, .int _ c2, .int _ ca, .int _ cf, .int _ w0, .int _ h0, .int _ s0, .sl n0 xs0, .int _ w1, .int _ h1, .int _ s1, .sl n1 xs1, .int _ w2, .int _ h2, .int _ s2, .sl n2 xs2, .int _ w3, .int _ h3, .int _ s3, .sl n3 xs3, .int _ w4, .int _ h4, .int _ s4, .sl n4 xs4]] => some (RV.d (DV.sl ((Im.pixels ⟨w, h, so, ⟨c0, c1, c2, ca, cf⟩, ⟨w0, h0, s0, n0, xs0⟩, ⟨w1, h1, s1, n1, xs1⟩, ⟨w2, h2, s2, n2, xs2⟩, ⟨w3, h3, s3, n3, xs3⟩, ⟨w4, h4, s4, n4, xs4⟩⟩).length) (pxs (Im.pixels ⟨w, h, so, ⟨c0, c1, c2, ca, cf⟩, ⟨w0, h0, s0, n0, xs0⟩, ⟨w1, h1, s1, n1, xs1⟩, ⟨w2, h2, s2, n2, xs2⟩, ⟨w3, h3, s3, n3, xs3⟩, ⟨w4, h4, s4, n4, xs4⟩⟩)))) | _ => none) else
  if f = 34 then (match xs with | [] => some (RV.tup [RV.tup [RV.d (DV.int .i64 37), RV.d (DV.int .i64 5)]]) | [.agg [.int _ w, .int _ h, .bool so, .int _ c0, .int _ c1, .int _ c2, .int _ ca, .int _ cf, .int _ w0, .int _ h0, .int _ s0, .sl n0 xs0, .int _ w1, .int _ h1, .int _ s1, .sl n1 xs1, .int _ w2, .int _ h2, .int _ s2, .sl n2 xs2, .int _ w3, .int _ h3, .int _ s3, .sl n3 xs3, .int _ w4, .int _ h4, .int _ s4, .sl n4 xs4]] => some (RV.d (DV.sl ((Im.pixels ⟨w, h, so, ⟨c0, c1, c2, ca, cf⟩, ⟨w0, h0, s0, n0, xs0⟩, ⟨w1, h1, s1, n1, xs1⟩, ⟨w2, h2, s2, n2, xs2⟩, ⟨w3, h3, s3, n3, xs3⟩, ⟨w4, h4, s4, n4, xs4⟩⟩).length) (pxs (Im.pixels ⟨w, h, so, ⟨c0, c1, c2, ca, cf⟩, ⟨w0, h0, s0, n0, xs0⟩, ⟨w1, h1, s1, n1, xs1⟩, ⟨w2, h2, s2, n2, xs2⟩, ⟨w3, h3, s3, n3, xs3⟩, ⟨w4, h4, s4, n4, xs4⟩⟩)))) | _ => none) else
  if f = 54 then (match xs with | [.agg [.int _ w, .int _ h, .bool so, .int _ c0, .int _ c1, .int _ c2, .int _ ca, .int _ cf, .int _ w0, .int _ h0, .int _ s0, .sl n0 xs0, .int _ w1, .int _ h1, .int _ s1, .sl n1 xs1, .int _ w2, .int _ h2, .int _ s2, .sl n2 xs2, .int _ w3, .int _ h3, .int _ s3, .sl n3 xs3, .int _ w4, .int _ h4, .int _ s4, .sl n4 xs4], .agg [.int _ w', .int _ h', .bool so', .int _ c0', .int _ c1', .int _ c2', .int _ ca', .int _ cf', .int _ w0', .int _ h0', .int _ s0', .sl n0' xs0', .int _ w1', .int _ h1', .int _ s1', .sl n1' xs1', .int _ w2', .int _ h2', .int _ s2', .sl n2' xs2', .int _ w3', .int _ h3', .int _ s3', .sl n3' xs3', .int _ w4', .int _ h4', .int _ s4', .sl n4' xs4']] => some (RV.d (DV.bool (Im.equal ⟨w, h, so, ⟨c0, c1, c2, ca, cf⟩, ⟨w0, h0, s0, n0, xs0⟩, ⟨w1, h1, s1, n1, xs1⟩, ⟨w2, h2, s2, n2, xs2⟩, ⟨w3, h3, s3, n3, xs3⟩, ⟨w4, h4, s4, n4, xs4⟩⟩ ⟨w', h', so', ⟨c0', c1', c2', ca', cf'⟩, ⟨w0', h0', s0', n0', xs0'⟩, ⟨w1', h1', s1', n1', xs1'⟩, ⟨w2', h2', s2', n2', xs2'⟩, ⟨w3', h3', s3', n3', xs3'⟩, ⟨w4', h4', s4', n4', xs4'⟩⟩))) | _ => none) else
  if f = 52 then (match xs with | [.agg [.int _ w, .int _ h, .bool so, .int _ c0, .int _ c1, .int _ c2, .int _ ca, .int _ cf, .int _ w0, .int _ h0, .int _ s0, .sl n0 xs0, .int _ w1, .int _ h1, .int _ s1, .sl n1 xs1, .int _ w2, .int _ h2, .int _ s2, .sl n2 xs2, .int _ w3, .int _ h3, .int _ s3, .sl n3 xs3, .int _ w4, .int _ h4, .int _ s4, .sl n4 xs4], .agg [.int _ w', .int _ h', .bool so', .int _ c0', .int _ c1', .int _ c2', .int _ ca', .int _ cf', .int _ w0', .int _ h0', .int _ s0', .sl n0' xs0', .int _ w1', .int _ h1', .int _ s1', .sl n1' xs1', .int _ w2', .int _ h2', .int _ s2', .sl n2' xs2', .int _ w3', .int _ h3', .int _ s3', .sl n3' xs3', .int _ w4', .int _ h4', .int _ s4', .sl n4' xs4']] => some (RV.d (DV.bool (Im.equal ⟨w, h, so, ⟨c0, c1, c2, ca, cf⟩, ⟨w0, h0, s0, n0, xs0⟩, ⟨w1, h1, s1, n1, xs1⟩, ⟨w2, h2, s2, n2, xs2⟩, ⟨w3, h3, s3, n3, xs3⟩, ⟨w4, h4, s4, n4, xs4⟩⟩ ⟨w', h', so', ⟨c0', c1', c2', ca', cf'⟩, ⟨w0', h0', s0', n0', xs0'⟩, ⟨w1', h1', s1', n1', xs1'⟩, ⟨w2', h2', s2', n2', xs2'⟩, ⟨w3', h3', s3', n3', xs3'⟩, ⟨w4', h4', s4', n4', xs4'⟩⟩))) | _ => none) else
  if f = 78 then (match xs with | [.d (.sl n xs), .d (.sl m ys)] => some (RV.d (DV.bool (decide (toPxs xs = toPxs ys)))) | _ => none) else
  if f = 23 then (match xs with | [.d (.int _ n)] => some (RV.d (DV.int .u16 (gMax n))) | _ => none) else
  if f = 63 then (match xs with | [.d (.int _ n), .d (.int _ most)] => some (RV.d (DV.int .u16 (gSample n most))) | _ => none) else
  if f = 83 then (match xs with | [.agg [.int _ n0, .int _ n1, .int _ n2, .int _ n3, .int _ n4], .d (.int _ most)] => some (RV.agg [DV.int .u16 ((gPixel n0 n1 n2 n3 n4 most).a), DV.int .u16 ((gPixel n0 n1 n2 n3 n4 most).b), DV.int .u16 ((gPixel n0 n1 n2 n3 n4 most).c), DV.int .u16 ((gPixel n0 n1 n2 n3 n4 most).al), DV.int .u16 ((gPixel n0 n1 n2 n3 n4 most).f)]) | _ => none) else
  if f = 60 then (match xs with | [] => some (RV.tup [RV.tup [RV.d (DV.int .i64 37), RV.d (DV.int .i64 5)]]) | [.agg [.int _ mood, .sl L xs], .d (.int _ n), .d (.int _ most)] => some (RV.d (DV.sl n.toNat (pxs (gPixels mood L xs most n.toNat)))) | _ => none) else
  none
 modes := fun f =>
  if f = 80 then some ([true, true], 0, 2) else
  if f = 89 then some ([true, true, true], 0, 5) else
  if f = 61 then some ([true, true, true], 0, 5) else
  none
 proc := fun f xs bs =>
  if f = 80 then (match xs, bs with | [AV.one (Cl.d (DV.int _ w)), AV.one (Cl.d (DV.int _ h))], [] => some ⟨AV.one (Cl.clo 93 [Cap.ptr 0 0, Cap.ptr 1 0]), [Bx.cells [Cl.d (DV.int .i64 h)], Bx.cells [Cl.d (DV.int .i64 w)]], false⟩ | _, _ => none) else
  if f = 89 then (match xs, bs with | [AV.one (Cl.d (DV.int _ w)), AV.one (Cl.d (DV.int _ h)), AV.one (Cl.d (DV.sl n xs))], [] => some ⟨AV.tup [AV.agg [Cl.d (DV.int .i64 ((imOf w h (toPxs xs)).w)), Cl.d (DV.int .i64 ((imOf w h (toPxs xs)).h)), Cl.d (DV.bool ((imOf w h (toPxs xs)).so)), Cl.d (DV.int .u16 ((imOf w h (toPxs xs)).c.a)), Cl.d (DV.int .u16 ((imOf w h (toPxs xs)).c.b)), Cl.d (DV.int .u16 ((imOf w h (toPxs xs)).c.c)), Cl.d (DV.int .u16 ((imOf w h (toPxs xs)).c.al)), Cl.d (DV.int .u16 ((imOf w h (toPxs xs)).c.f)), Cl.d (DV.int .i64 ((imOf w h (toPxs xs)).p0.w)), Cl.d (DV.int .i64 ((imOf w h (toPxs xs)).p0.h)), Cl.d (DV.int .i64 ((imOf w h (toPxs xs)).p0.s)), Cl.ref 0 ((imOf w h (toPxs xs)).p0.n), Cl.d (DV.int .i64 ((imOf w h (toPxs xs)).p1.w)), Cl.d (DV.int .i64 ((imOf w h (toPxs xs)).p1.h)), Cl.d (DV.int .i64 ((imOf w h (toPxs xs)).p1.s)), Cl.ref 1 ((imOf w h (toPxs xs)).p1.n), Cl.d (DV.int .i64 ((imOf w h (toPxs xs)).p2.w)), Cl.d (DV.int .i64 ((imOf w h (toPxs xs)).p2.h)), Cl.d (DV.int .i64 ((imOf w h (toPxs xs)).p2.s)), Cl.ref 2 ((imOf w h (toPxs xs)).p2.n), Cl.d (DV.int .i64 ((imOf w h (toPxs xs)).p3.w)), Cl.d (DV.int .i64 ((imOf w h (toPxs xs)).p3.h)), Cl.d (DV.int .i64 ((imOf w h (toPxs xs)).p3.s)), Cl.ref 3 ((imOf w h (toPxs xs)).p3.n), Cl.d (DV.int .i64 ((imOf w h (toPxs xs)).p4.w)), Cl.d (DV.int .i64 ((imOf w h (toPxs xs)).p4.h)), Cl.d (DV.int .i64 ((imOf w h (toPxs xs)).p4.s)), Cl.ref 4 ((imOf w h (toPxs xs)).p4.n)], AV.one (Cl.d (DV.bool (ofOk w h n)))], [Bx.row 34 1 ((imOf w h (toPxs xs)).p0.xs), Bx.row 34 1 ((imOf w h (toPxs xs)).p1.xs), Bx.row 34 1 ((imOf w h (toPxs xs)).p2.xs), Bx.row 34 1 ((imOf w h (toPxs xs)).p3.xs), Bx.row 34 1 ((imOf w h (toPxs xs)).p4.xs)], true⟩ | _, _ => none) else
  if f = 61 then (match xs, bs with | [AV.one (Cl.d (DV.int _ w)), AV.one (Cl.d (DV.int _ h)), AV.one (Cl.d (DV.sl n xs))], [] => some ⟨AV.tup [AV.agg [Cl.d (DV.int .i64 ((imOf w h (toPxs xs)).w)), Cl.d (DV.int .i64 ((imOf w h (toPxs xs)).h)), Cl.d (DV.bool ((imOf w h (toPxs xs)).so)), Cl.d (DV.int .u16 ((imOf w h (toPxs xs)).c.a)), Cl.d (DV.int .u16 ((imOf w h (toPxs xs)).c.b)), Cl.d (DV.int .u16 ((imOf w h (toPxs xs)).c.c)), Cl.d (DV.int .u16 ((imOf w h (toPxs xs)).c.al)), Cl.d (DV.int .u16 ((imOf w h (toPxs xs)).c.f)), Cl.d (DV.int .i64 ((imOf w h (toPxs xs)).p0.w)), Cl.d (DV.int .i64 ((imOf w h (toPxs xs)).p0.h)), Cl.d (DV.int .i64 ((imOf w h (toPxs xs)).p0.s)), Cl.ref 0 ((imOf w h (toPxs xs)).p0.n), Cl.d (DV.int .i64 ((imOf w h (toPxs xs)).p1.w)), Cl.d (DV.int .i64 ((imOf w h (toPxs xs)).p1.h)), Cl.d (DV.int .i64 ((imOf w h (toPxs xs)).p1.s)), Cl.ref 1 ((imOf w h (toPxs xs)).p1.n), Cl.d (DV.int .i64 ((imOf w h (toPxs xs)).p2.w)), Cl.d (DV.int .i64 ((imOf w h (toPxs xs)).p2.h)), Cl.d (DV.int .i64 ((imOf w h (toPxs xs)).p2.s)), Cl.ref 2 ((imOf w h (toPxs xs)).p2.n), Cl.d (DV.int .i64 ((imOf w h (toPxs xs)).p3.w)), Cl.d (DV.int .i64 ((imOf w h (toPxs xs)).p3.h)), Cl.d (DV.int .i64 ((imOf w h (toPxs xs)).p3.s)), Cl.ref 3 ((imOf w h (toPxs xs)).p3.n), Cl.d (DV.int .i64 ((imOf w h (toPxs xs)).p4.w)), Cl.d (DV.int .i64 ((imOf w h (toPxs xs)).p4.h)), Cl.d (DV.int .i64 ((imOf w h (toPxs xs)).p4.s)), Cl.ref 4 ((imOf w h (toPxs xs)).p4.n)], AV.one (Cl.d (DV.bool (ofOk w h n)))], [Bx.row 34 1 ((imOf w h (toPxs xs)).p0.xs), Bx.row 34 1 ((imOf w h (toPxs xs)).p1.xs), Bx.row 34 1 ((imOf w h (toPxs xs)).p2.xs), Bx.row 34 1 ((imOf w h (toPxs xs)).p3.xs), Bx.row 34 1 ((imOf w h (toPxs xs)).p4.xs)], true⟩ | _, _ => none) else
  none
 iter := fun f cs =>
  if f = 93 then (match cs with | [(true, [DV.int _ h]), (true, [DV.int _ w])] => some ((w.toNat * h.toNat), fun _k => [DV.int .i64 (((_k % w.toNat : Nat)) : Int), DV.int .i64 (((_k / w.toNat : Nat)) : Int)]) | _ => none) else
  none

end Go.Proofs.Ytkfgmaecbclgfaa

/-
  What the generators make: samples, pixels, rows of pixels.
-/
namespace Go.Proofs.Ytkfgmaecbclgfaa
open Go.RowKit
set_option linter.unusedVariables false
set_option linter.unusedSimpArgs false
attribute [local irreducible] Ans AnsO AnsG AnsN AnsI

set_option maxRecDepth 4000

def G_Max_ann (n : Int) : Ann := Ann.leaf
theorem G_Max_vc (n : Int) : vcg Try.prog gamI 6 (bodyOf Try.f23) (G_Max_ann n) kn0 (start [RV.d (DV.int .i64 n)]) (post Try.prog Try.f23.results.toList (· = RV.d (DV.int .u16 (gMax n)))) =
  (True ∧ True ∧ (Ans Try.prog 16 [RV.d (DV.int .i64 n), RV.d (DV.int .i64 3)] (RV.d (DV.int .i64 (modS n (3 : Int))))) ∧ True ∧ ((((modS n (3 : Int)) == (2 : Int)) = true → True ∧ RV.d (DV.int .u16 65535) = RV.d (DV.int .u16 (gMax n))) ∧ (((modS n (3 : Int)) == (2 : Int)) = false → True ∧ RV.d (DV.int .u16 255) = RV.d (DV.int .u16 (gMax n))))) := by kernel_rfl
theorem G_Max_ans (n : Int) : Ans Try.prog 23 [RV.d (DV.int .i64 n)] (RV.d (DV.int .u16 (gMax n))) :=
  ans_of_vcg (Γ := gamI) (G_Max_ann n) mixed_ Try.func23 rfl (Nat.le_of_ble_eq_true rfl) fun hwf => by
    refine Eq.mpr (G_Max_vc n) ?_
    simp only [true_and, and_true, RV.d.injEq, RV.agg.injEq, RV.tup.injEq, DV.bool.injEq, DV.int.injEq, DV.sl.injEq, List.cons.injEq, forall_const, Bool.not_false, Bool.not_true, Bool.not_eq_true', Bool.not_eq_false', decide_eq_true_eq, decide_eq_false_iff_not, Int.toNat_natCast, G_Mod_ans]
    unfold gMax; grind

def G_Sample_ann (n : Int) (most : Int) : Ann := Ann.leaf
theorem G_Sample_vc (n : Int) (most : Int) : vcg Try.prog gamI 39 (bodyOf Try.f63) (G_Sample_ann n most) kn0 (start [RV.d (DV.int .i64 n), RV.d (DV.int .u16 most)]) (post Try.prog Try.f63.results.toList (· = RV.d (DV.int .u16 (gSample n most)))) =
  (let zz0 := (DV.int .u16 (gSample n most)); let zz1 := (IntKind.wrap .i64 (Int.tdiv n (8 : Int))); let zz2 := (DV.int .i64 zz1); let zz3 := (IntKind.wrap .i64 ((IntKind.wrap .i64 most) + (1 : Int))); let zz4 := ((((modS n (8 : Int)) == (3 : Int)) = true → True ∧ True ∧ ((8 : Int) ≠ 0) ∧ (Ans Try.prog 16 [RV.d zz2, RV.d (DV.int .i64 2)] (RV.d (DV.int .i64 (modS zz1 (2 : Int))))) ∧ True ∧ ((2 : Int) ≠ 0) ∧ True ∧ True ∧ RV.d (DV.int .u16 (IntKind.wrap .u16 (IntKind.wrap .i64 (Int.tdiv (IntKind.wrap .i64 ((IntKind.wrap .i64 most) + (modS zz1 (2 : Int)))) (2 : Int))))) = RV.d zz0) ∧ (((modS n (8 : Int)) == (3 : Int)) = false → True ∧ True ∧ ((((modS n (8 : Int)) == (4 : Int)) = true → True ∧ True ∧ ((8 : Int) ≠ 0) ∧ (Ans Try.prog 16 [RV.d zz2, RV.d (DV.int .i64 4)] (RV.d (DV.int .i64 (modS zz1 (4 : Int))))) ∧ True ∧ True ∧ True ∧ RV.d (DV.int .u16 (IntKind.wrap .u16 (min (IntKind.wrap .i64 most) (modS zz1 (4 : Int))))) = RV.d zz0) ∧ (((modS n (8 : Int)) == (4 : Int)) = false → True ∧ ((8 : Int) ≠ 0) ∧ True ∧ True ∧ (Ans Try.prog 16 [RV.d zz2, RV.d (DV.int .i64 zz3)] (RV.d (DV.int .i64 (modS zz1 zz3)))) ∧ True ∧ True ∧ RV.d (DV.int .u16 (IntKind.wrap .u16 (modS zz1 zz3))) = RV.d zz0)))); True ∧ True ∧ True ∧ True ∧ True ∧ (Ans Try.prog 16 [RV.d (DV.int .i64 n), RV.d (DV.int .i64 8)] (RV.d (DV.int .i64 (modS n (8 : Int))))) ∧ True ∧ True ∧ ((((modS n (8 : Int)) == (0 : Int)) = true → True ∧ RV.d (DV.int .u16 0) = RV.d zz0) ∧ (((modS n (8 : Int)) == (0 : Int)) = false → True ∧ True ∧ ((((modS n (8 : Int)) == (1 : Int)) = true → ((((modS n (8 : Int)) == (1 : Int)) = true → True ∧ True ∧ RV.d (DV.int .u16 most) = RV.d zz0) ∧ (((modS n (8 : Int)) == (1 : Int)) = false → True ∧ True ∧ zz4))) ∧ (((modS n (8 : Int)) == (1 : Int)) = false → True ∧ True ∧ ((((modS n (8 : Int)) == (2 : Int)) = true → True ∧ True ∧ RV.d (DV.int .u16 most) = RV.d zz0) ∧ (((modS n (8 : Int)) == (2 : Int)) = false → True ∧ True ∧ zz4))))))) := by kernel_rfl
theorem G_Sample_ans (n : Int) (most : Int) : Ans Try.prog 63 [RV.d (DV.int .i64 n), RV.d (DV.int .u16 most)] (RV.d (DV.int .u16 (gSample n most))) :=
  ans_of_vcg (Γ := gamI) (G_Sample_ann n most) mixed_ Try.func63 rfl (Nat.le_of_ble_eq_true rfl) fun hwf => by
    refine Eq.mpr (G_Sample_vc n most) ?_
    simp only [true_and, and_true, RV.d.injEq, RV.agg.injEq, RV.tup.injEq, DV.bool.injEq, DV.int.injEq, DV.sl.injEq, List.cons.injEq, forall_const, Bool.not_false, Bool.not_true, Bool.not_eq_true', Bool.not_eq_false', decide_eq_true_eq, decide_eq_false_iff_not, Int.toNat_natCast, G_Mod_ans, G_Max_ans]
    unfold gSample; grind

def G_Pixel_ann (n0 : Int) (n1 : Int) (n2 : Int) (n3 : Int) (n4 : Int) (most : Int) : Ann := Ann.leaf
theorem G_Pixel_vc (n0 : Int) (n1 : Int) (n2 : Int) (n3 : Int) (n4 : Int) (most : Int) : vcg Try.prog gamI 37 (bodyOf Try.f83) (G_Pixel_ann n0 n1 n2 n3 n4 most) kn0 (start [RV.agg [DV.int .i64 n0, DV.int .i64 n1, DV.int .i64 n2, DV.int .i64 n3, DV.int .i64 n4], RV.d (DV.int .u16 most)]) (post Try.prog Try.f83.results.toList (· = RV.agg [DV.int .u16 ((gPixel n0 n1 n2 n3 n4 most).a), DV.int .u16 ((gPixel n0 n1 n2 n3 n4 most).b), DV.int .u16 ((gPixel n0 n1 n2 n3 n4 most).c), DV.int .u16 ((gPixel n0 n1 n2 n3 n4 most).al), DV.int .u16 ((gPixel n0 n1 n2 n3 n4 most).f)])) =
  (let zz0 := (DV.int .u16 (gSample n4 most)); let zz1 := (0 ≤ (3 : Int) ∧ (3 : Int) < ((5 : Nat) : Int)); let zz2 := (IntKind.wrap .i64 (Int.tdiv n3 (3 : Int))); let zz3 := (DV.int .u16 (gSample zz2 (gSample n4 most))); let zz4 := (0 ≤ (0 : Int) ∧ (0 : Int) < ((5 : Nat) : Int)); let zz5 := (0 ≤ (1 : Int) ∧ (1 : Int) < ((5 : Nat) : Int)); let zz6 := (0 ≤ (2 : Int) ∧ (2 : Int) < ((5 : Nat) : Int)); let zz7 := [DV.int .u16 ((gPixel n0 n1 n2 n3 n4 most).a), DV.int .u16 ((gPixel n0 n1 n2 n3 n4 most).b), DV.int .u16 ((gPixel n0 n1 n2 n3 n4 most).c), DV.int .u16 ((gPixel n0 n1 n2 n3 n4 most).al), DV.int .u16 ((gPixel n0 n1 n2 n3 n4 most).f)]; True ∧ True ∧ (0 ≤ (4 : Int) ∧ (4 : Int) < ((5 : Nat) : Int)) ∧ True ∧ True ∧ (Ans Try.prog 63 [RV.d (DV.int .i64 n4), RV.d (DV.int .u16 most)] (RV.d zz0)) ∧ True ∧ True ∧ True ∧ zz1 ∧ True ∧ (Ans Try.prog 16 [RV.d (DV.int .i64 n3), RV.d (DV.int .i64 3)] (RV.d (DV.int .i64 (modS n3 (3 : Int))))) ∧ True ∧ (((decide ((modS n3 (3 : Int)) > (0 : Int))) = true → zz1 ∧ True ∧ ((3 : Int) ≠ 0) ∧ True ∧ (Ans Try.prog 63 [RV.d (DV.int .i64 zz2), RV.d zz0] (RV.d zz3)) ∧ True ∧ zz4 ∧ True ∧ True ∧ (Ans Try.prog 63 [RV.d (DV.int .i64 n0), RV.d zz3] (RV.d (DV.int .u16 (gSample n0 (gSample zz2 (gSample n4 most)))))) ∧ zz5 ∧ True ∧ True ∧ (Ans Try.prog 63 [RV.d (DV.int .i64 n1), RV.d zz3] (RV.d (DV.int .u16 (gSample n1 (gSample zz2 (gSample n4 most)))))) ∧ zz6 ∧ True ∧ True ∧ (Ans Try.prog 63 [RV.d (DV.int .i64 n2), RV.d zz3] (RV.d (DV.int .u16 (gSample n2 (gSample zz2 (gSample n4 most)))))) ∧ True ∧ True ∧ True ∧ True ∧ True ∧ (true = true) ∧ RV.agg [DV.int .u16 (gSample n0 (gSample zz2 (gSample n4 most))), DV.int .u16 (gSample n1 (gSample zz2 (gSample n4 most))), DV.int .u16 (gSample n2 (gSample zz2 (gSample n4 most))), DV.int .u16 (gSample zz2 (gSample n4 most)), DV.int .u16 (gSample n4 most)] = RV.agg zz7) ∧ ((decide ((modS n3 (3 : Int)) > (0 : Int))) = false → zz4 ∧ True ∧ True ∧ (Ans Try.prog 63 [RV.d (DV.int .i64 n0), RV.d zz0] (RV.d (DV.int .u16 (gSample n0 (gSample n4 most))))) ∧ zz5 ∧ True ∧ True ∧ (Ans Try.prog 63 [RV.d (DV.int .i64 n1), RV.d zz0] (RV.d (DV.int .u16 (gSample n1 (gSample n4 most))))) ∧ zz6 ∧ True ∧ True ∧ (Ans Try.prog 63 [RV.d (DV.int .i64 n2), RV.d zz0] (RV.d (DV.int .u16 (gSample n2 (gSample n4 most))))) ∧ True ∧ True ∧ True ∧ True ∧ True ∧ (true = true) ∧ RV.agg [DV.int .u16 (gSample n0 (gSample n4 most)), DV.int .u16 (gSample n1 (gSample n4 most)), DV.int .u16 (gSample n2 (gSample n4 most)), DV.int .u16 (gSample n4 most), DV.int .u16 (gSample n4 most)] = RV.agg zz7))) := by kernel_rfl
theorem G_Pixel_ans (n0 : Int) (n1 : Int) (n2 : Int) (n3 : Int) (n4 : Int) (most : Int) : Ans Try.prog 83 [RV.agg [DV.int .i64 n0, DV.int .i64 n1, DV.int .i64 n2, DV.int .i64 n3, DV.int .i64 n4], RV.d (DV.int .u16 most)] (RV.agg [DV.int .u16 ((gPixel n0 n1 n2 n3 n4 most).a), DV.int .u16 ((gPixel n0 n1 n2 n3 n4 most).b), DV.int .u16 ((gPixel n0 n1 n2 n3 n4 most).c), DV.int .u16 ((gPixel n0 n1 n2 n3 n4 most).al), DV.int .u16 ((gPixel n0 n1 n2 n3 n4 most).f)]) :=
  ans_of_vcg (Γ := gamI) (G_Pixel_ann n0 n1 n2 n3 n4 most) mixed_ Try.func83 rfl (Nat.le_of_ble_eq_true rfl) fun hwf => by
    refine Eq.mpr (G_Pixel_vc n0 n1 n2 n3 n4 most) ?_
    simp only [true_and, and_true, RV.d.injEq, RV.agg.injEq, RV.tup.injEq, DV.bool.injEq, DV.int.injEq, DV.sl.injEq, List.cons.injEq, forall_const, Bool.not_false, Bool.not_true, Bool.not_eq_true', Bool.not_eq_false', decide_eq_true_eq, decide_eq_false_iff_not, Int.toNat_natCast, G_Mod_ans, G_Max_ans, G_Sample_ans, G_Sample_ans]
    simp [gPixel]; grind

def G_Pixels_ann (mood : Int) (L : Nat) (xs : List DV) (n : Int) (most : Int) : Ann := (Ann.seq Ann.leaf (Ann.seq Ann.leaf (Ann.seq (Ann.seq Ann.leaf (Ann.loop ⟨Nat, fun k => k ≤ n.toNat, fun k => ⟨[(1, AV.one (Cl.d (DV.int .i64 n))), (2, AV.one (Cl.d (DV.int .u16 most))), (3, AV.one (Cl.ptr 3 0)), (7, AV.one (Cl.ref 5000 k)), (8, AV.one (Cl.d (DV.int .i64 ((k : Nat) : Int))))], [(3, Bx.cells [Cl.d (DV.int .i64 mood), Cl.d (DV.sl L xs)]), (5000, Bx.row 37 5 (pxs (gPixels mood L xs most k)))]⟩, fun k => n.toNat - k⟩ fun k => Ann.leaf)) Ann.leaf)))
theorem G_Pixels_vc (mood : Int) (L : Nat) (xs : List DV) (n : Int) (most : Int) : vcg Try.prog gamI 65 (bodyOf Try.f60) (G_Pixels_ann mood L xs n most) kn0 (start [RV.agg [DV.int .i64 mood, DV.sl L xs], RV.d (DV.int .i64 n), RV.d (DV.int .u16 most)]) (postO 6 37 5 n.toNat (pxs (gPixels mood L xs most n.toNat))) =
  (let zz0 := (DV.int .i64 n = DV.int .i64 n); let zz1 := (DV.int .u16 most = DV.int .u16 most); let zz2 := [DV.int .i64 mood, DV.sl L xs]; let zz3 := (zz2 = zz2); let zz4 := fun (k : Nat) => [DV.int .u16 ((gPixel (nAt xs ((Int.tmod ((k : Nat) : Int) ((L : Nat) : Int)).toNat * 5)) (nAt xs ((Int.tmod ((k : Nat) : Int) ((L : Nat) : Int)).toNat * 5 + 1)) (nAt xs ((Int.tmod ((k : Nat) : Int) ((L : Nat) : Int)).toNat * 5 + 1 + 1)) (nAt xs ((Int.tmod ((k : Nat) : Int) ((L : Nat) : Int)).toNat * 5 + 1 + 1 + 1)) (nAt xs ((Int.tmod ((k : Nat) : Int) ((L : Nat) : Int)).toNat * 5 + 1 + 1 + 1 + 1)) most).a), DV.int .u16 ((gPixel (nAt xs ((Int.tmod ((k : Nat) : Int) ((L : Nat) : Int)).toNat * 5)) (nAt xs ((Int.tmod ((k : Nat) : Int) ((L : Nat) : Int)).toNat * 5 + 1)) (nAt xs ((Int.tmod ((k : Nat) : Int) ((L : Nat) : Int)).toNat * 5 + 1 + 1)) (nAt xs ((Int.tmod ((k : Nat) : Int) ((L : Nat) : Int)).toNat * 5 + 1 + 1 + 1)) (nAt xs ((Int.tmod ((k : Nat) : Int) ((L : Nat) : Int)).toNat * 5 + 1 + 1 + 1 + 1)) most).b), DV.int .u16 ((gPixel (nAt xs ((Int.tmod ((k : Nat) : Int) ((L : Nat) : Int)).toNat * 5)) (nAt xs ((Int.tmod ((k : Nat) : Int) ((L : Nat) : Int)).toNat * 5 + 1)) (nAt xs ((Int.tmod ((k : Nat) : Int) ((L : Nat) : Int)).toNat * 5 + 1 + 1)) (nAt xs ((Int.tmod ((k : Nat) : Int) ((L : Nat) : Int)).toNat * 5 + 1 + 1 + 1)) (nAt xs ((Int.tmod ((k : Nat) : Int) ((L : Nat) : Int)).toNat * 5 + 1 + 1 + 1 + 1)) most).c), DV.int .u16 ((gPixel (nAt xs ((Int.tmod ((k : Nat) : Int) ((L : Nat) : Int)).toNat * 5)) (nAt xs ((Int.tmod ((k : Nat) : Int) ((L : Nat) : Int)).toNat * 5 + 1)) (nAt xs ((Int.tmod ((k : Nat) : Int) ((L : Nat) : Int)).toNat * 5 + 1 + 1)) (nAt xs ((Int.tmod ((k : Nat) : Int) ((L : Nat) : Int)).toNat * 5 + 1 + 1 + 1)) (nAt xs ((Int.tmod ((k : Nat) : Int) ((L : Nat) : Int)).toNat * 5 + 1 + 1 + 1 + 1)) most).al), DV.int .u16 ((gPixel (nAt xs ((Int.tmod ((k : Nat) : Int) ((L : Nat) : Int)).toNat * 5)) (nAt xs ((Int.tmod ((k : Nat) : Int) ((L : Nat) : Int)).toNat * 5 + 1)) (nAt xs ((Int.tmod ((k : Nat) : Int) ((L : Nat) : Int)).toNat * 5 + 1 + 1)) (nAt xs ((Int.tmod ((k : Nat) : Int) ((L : Nat) : Int)).toNat * 5 + 1 + 1 + 1)) (nAt xs ((Int.tmod ((k : Nat) : Int) ((L : Nat) : Int)).toNat * 5 + 1 + 1 + 1 + 1)) most).f)]; let zz5 := (Ans Try.prog 16 [RV.d (DV.int .i64 mood), RV.d (DV.int .i64 6)] (RV.d (DV.int .i64 (modS mood (6 : Int))))); let zz6 := fun (k : Nat) => (pxs (gPixels mood L xs most k)); let zz7 := fun (k : Nat) => fun (k' : Nat) => (n.toNat - k' < n.toNat - k); let zz8 := fun (k : Nat) => fun (k' : Nat) => (zz0 ∧ zz1 ∧ (0 = 0) ∧ (k + 1 = k') ∧ (DV.int .i64 (IntKind.wrap .i64 (((k : Nat) : Int) + (1 : Int))) = DV.int .i64 ((k' : Nat) : Int)) ∧ True); let zz9 := fun (k : Nat) => fun (k' : Nat) => ((zz8 k k') ∧ (zz3 ∧ ((zz6 k) ++ ((zz4 k)) = pxs (gPixels mood L xs most k')) ∧ True)); let zz10 := [DV.int .u16 ((gPixel (0 : Int) (0 : Int) (0 : Int) (0 : Int) (0 : Int) most).a), DV.int .u16 ((gPixel (0 : Int) (0 : Int) (0 : Int) (0 : Int) (0 : Int) most).b), DV.int .u16 ((gPixel (0 : Int) (0 : Int) (0 : Int) (0 : Int) (0 : Int) most).c), DV.int .u16 ((gPixel (0 : Int) (0 : Int) (0 : Int) (0 : Int) (0 : Int) most).al), DV.int .u16 ((gPixel (0 : Int) (0 : Int) (0 : Int) (0 : Int) (0 : Int) most).f)]; let zz11 := (Ans Try.prog 83 [RV.agg [DV.int .i64 0, DV.int .i64 0, DV.int .i64 0, DV.int .i64 0, DV.int .i64 0], RV.d (DV.int .u16 most)] (RV.agg zz10)); let zz12 := fun (k : Nat) => fun (k' : Nat) => ((zz8 k k') ∧ (zz3 ∧ ((zz6 k) ++ (zz10) = pxs (gPixels mood L xs most k')) ∧ True)); let zz13 := fun (k : Nat) => [DV.int .u16 ((gPixel (nAt xs (((k : Nat) : Int).toNat * 5)) (nAt xs (((k : Nat) : Int).toNat * 5 + 1)) (nAt xs (((k : Nat) : Int).toNat * 5 + 1 + 1)) (nAt xs (((k : Nat) : Int).toNat * 5 + 1 + 1 + 1)) (nAt xs (((k : Nat) : Int).toNat * 5 + 1 + 1 + 1 + 1)) most).a), DV.int .u16 ((gPixel (nAt xs (((k : Nat) : Int).toNat * 5)) (nAt xs (((k : Nat) : Int).toNat * 5 + 1)) (nAt xs (((k : Nat) : Int).toNat * 5 + 1 + 1)) (nAt xs (((k : Nat) : Int).toNat * 5 + 1 + 1 + 1)) (nAt xs (((k : Nat) : Int).toNat * 5 + 1 + 1 + 1 + 1)) most).b), DV.int .u16 ((gPixel (nAt xs (((k : Nat) : Int).toNat * 5)) (nAt xs (((k : Nat) : Int).toNat * 5 + 1)) (nAt xs (((k : Nat) : Int).toNat * 5 + 1 + 1)) (nAt xs (((k : Nat) : Int).toNat * 5 + 1 + 1 + 1)) (nAt xs (((k : Nat) : Int).toNat * 5 + 1 + 1 + 1 + 1)) most).c), DV.int .u16 ((gPixel (nAt xs (((k : Nat) : Int).toNat * 5)) (nAt xs (((k : Nat) : Int).toNat * 5 + 1)) (nAt xs (((k : Nat) : Int).toNat * 5 + 1 + 1)) (nAt xs (((k : Nat) : Int).toNat * 5 + 1 + 1 + 1)) (nAt xs (((k : Nat) : Int).toNat * 5 + 1 + 1 + 1 + 1)) most).al), DV.int .u16 ((gPixel (nAt xs (((k : Nat) : Int).toNat * 5)) (nAt xs (((k : Nat) : Int).toNat * 5 + 1)) (nAt xs (((k : Nat) : Int).toNat * 5 + 1 + 1)) (nAt xs (((k : Nat) : Int).toNat * 5 + 1 + 1 + 1)) (nAt xs (((k : Nat) : Int).toNat * 5 + 1 + 1 + 1 + 1)) most).f)]; let zz14 := fun (k : Nat) => fun (k' : Nat) => ((zz8 k k') ∧ (zz3 ∧ ((zz6 k) ++ ((zz13 k)) = pxs (gPixels mood L xs most k')) ∧ True)); True ∧ True ∧ True ∧ True ∧ ((∃ k : Nat, (k ≤ n.toNat) ∧ ((zz0 ∧ zz1 ∧ (0 = 0) ∧ (0 = k) ∧ (DV.int .i64 0 = DV.int .i64 ((k : Nat) : Int)) ∧ True) ∧ (zz3 ∧ ([] = pxs (gPixels mood L xs most k)) ∧ True))) ∧ ∀ k : Nat, (k ≤ n.toNat) → True ∧ True ∧ True ∧ (((decide (((k : Nat) : Int) < n)) = true → True ∧ True ∧ True ∧ True ∧ True ∧ True ∧ (((decide (((L : Nat) : Int) > (0 : Int))) = true → True ∧ True ∧ True ∧ True ∧ (((L : Nat) : Int) ≠ 0) ∧ True ∧ True ∧ True ∧ True ∧ True ∧ True ∧ True ∧ (((decide ((Int.tmod ((k : Nat) : Int) ((L : Nat) : Int)) < ((L : Nat) : Int))) = true → True ∧ True ∧ True ∧ (0 ≤ Int.tmod ((k : Nat) : Int) ((L : Nat) : Int) ∧ Int.tmod ((k : Nat) : Int) ((L : Nat) : Int) < ((L : Nat) : Int) ∧ (Int.tmod ((k : Nat) : Int) ((L : Nat) : Int)).toNat * 5 < xs.length) ∧ ((xs[(Int.tmod ((k : Nat) : Int) ((L : Nat) : Int)).toNat * 5]? = some (DV.int .i64 (nAt xs ((Int.tmod ((k : Nat) : Int) ((L : Nat) : Int)).toNat * 5)))) ∧ (xs[(Int.tmod ((k : Nat) : Int) ((L : Nat) : Int)).toNat * 5 + 1]? = some (DV.int .i64 (nAt xs ((Int.tmod ((k : Nat) : Int) ((L : Nat) : Int)).toNat * 5 + 1)))) ∧ (xs[(Int.tmod ((k : Nat) : Int) ((L : Nat) : Int)).toNat * 5 + 1 + 1]? = some (DV.int .i64 (nAt xs ((Int.tmod ((k : Nat) : Int) ((L : Nat) : Int)).toNat * 5 + 1 + 1)))) ∧ (xs[(Int.tmod ((k : Nat) : Int) ((L : Nat) : Int)).toNat * 5 + 1 + 1 + 1]? = some (DV.int .i64 (nAt xs ((Int.tmod ((k : Nat) : Int) ((L : Nat) : Int)).toNat * 5 + 1 + 1 + 1)))) ∧ (xs[(Int.tmod ((k : Nat) : Int) ((L : Nat) : Int)).toNat * 5 + 1 + 1 + 1 + 1]? = some (DV.int .i64 (nAt xs ((Int.tmod ((k : Nat) : Int) ((L : Nat) : Int)).toNat * 5 + 1 + 1 + 1 + 1)))) ∧ True) ∧ True ∧ True ∧ True ∧ (Ans Try.prog 83 [RV.agg [DV.int .i64 (nAt xs ((Int.tmod ((k : Nat) : Int) ((L : Nat) : Int)).toNat * 5)), DV.int .i64 (nAt xs ((Int.tmod ((k : Nat) : Int) ((L : Nat) : Int)).toNat * 5 + 1)), DV.int .i64 (nAt xs ((Int.tmod ((k : Nat) : Int) ((L : Nat) : Int)).toNat * 5 + 1 + 1)), DV.int .i64 (nAt xs ((Int.tmod ((k : Nat) : Int) ((L : Nat) : Int)).toNat * 5 + 1 + 1 + 1)), DV.int .i64 (nAt xs ((Int.tmod ((k : Nat) : Int) ((L : Nat) : Int)).toNat * 5 + 1 + 1 + 1 + 1))], RV.d (DV.int .u16 most)] (RV.agg (zz4 k))) ∧ True ∧ True ∧ True ∧ True ∧ zz5 ∧ True ∧ True ∧ ((((modS mood (6 : Int)) == (0 : Int)) = true → True ∧ True ∧ True ∧ True ∧ True ∧ (appVc 5 10 k 1 (zz6 k) ([DV.int .u16 0, DV.int .u16 0, DV.int .u16 0, DV.int .u16 0, DV.int .u16 0])) ∧ True ∧ True ∧ True ∧ True ∧ ∃ k' : Nat, (k' ≤ n.toNat) ∧ (zz7 k k') ∧ ((zz8 k k') ∧ (zz3 ∧ ((zz6 k) ++ ([DV.int .u16 0, DV.int .u16 0, DV.int .u16 0, DV.int .u16 0, DV.int .u16 0]) = pxs (gPixels mood L xs most k')) ∧ True))) ∧ (((modS mood (6 : Int)) == (0 : Int)) = false → True ∧ True ∧ ((((modS mood (6 : Int)) == (1 : Int)) = true → True ∧ True ∧ True ∧ True ∧ True ∧ True ∧ True ∧ True ∧ True ∧ (appVc 5 10 k 1 (zz6 k) ([DV.int .u16 ((gPixel (nAt xs ((Int.tmod ((k : Nat) : Int) ((L : Nat) : Int)).toNat * 5)) (nAt xs ((Int.tmod ((k : Nat) : Int) ((L : Nat) : Int)).toNat * 5 + 1)) (nAt xs ((Int.tmod ((k : Nat) : Int) ((L : Nat) : Int)).toNat * 5 + 1 + 1)) (nAt xs ((Int.tmod ((k : Nat) : Int) ((L : Nat) : Int)).toNat * 5 + 1 + 1 + 1)) (nAt xs ((Int.tmod ((k : Nat) : Int) ((L : Nat) : Int)).toNat * 5 + 1 + 1 + 1 + 1)) most).a), DV.int .u16 ((gPixel (nAt xs ((Int.tmod ((k : Nat) : Int) ((L : Nat) : Int)).toNat * 5)) (nAt xs ((Int.tmod ((k : Nat) : Int) ((L : Nat) : Int)).toNat * 5 + 1)) (nAt xs ((Int.tmod ((k : Nat) : Int) ((L : Nat) : Int)).toNat * 5 + 1 + 1)) (nAt xs ((Int.tmod ((k : Nat) : Int) ((L : Nat) : Int)).toNat * 5 + 1 + 1 + 1)) (nAt xs ((Int.tmod ((k : Nat) : Int) ((L : Nat) : Int)).toNat * 5 + 1 + 1 + 1 + 1)) most).b), DV.int .u16 ((gPixel (nAt xs ((Int.tmod ((k : Nat) : Int) ((L : Nat) : Int)).toNat * 5)) (nAt xs ((Int.tmod ((k : Nat) : Int) ((L : Nat) : Int)).toNat * 5 + 1)) (nAt xs ((Int.tmod ((k : Nat) : Int) ((L : Nat) : Int)).toNat * 5 + 1 + 1)) (nAt xs ((Int.tmod ((k : Nat) : Int) ((L : Nat) : Int)).toNat * 5 + 1 + 1 + 1)) (nAt xs ((Int.tmod ((k : Nat) : Int) ((L : Nat) : Int)).toNat * 5 + 1 + 1 + 1 + 1)) most).c), DV.int .u16 most, DV.int .u16 most])) ∧ True ∧ True ∧ True ∧ True ∧ ∃ k' : Nat, (k' ≤ n.toNat) ∧ (zz7 k k') ∧ ((zz8 k k') ∧ (zz3 ∧ ((zz6 k) ++ ([DV.int .u16 ((gPixel (nAt xs ((Int.tmod ((k : Nat) : Int) ((L : Nat) : Int)).toNat * 5)) (nAt xs ((Int.tmod ((k : Nat) : Int) ((L : Nat) : Int)).toNat * 5 + 1)) (nAt xs ((Int.tmod ((k : Nat) : Int) ((L : Nat) : Int)).toNat * 5 + 1 + 1)) (nAt xs ((Int.tmod ((k : Nat) : Int) ((L : Nat) : Int)).toNat * 5 + 1 + 1 + 1)) (nAt xs ((Int.tmod ((k : Nat) : Int) ((L : Nat) : Int)).toNat * 5 + 1 + 1 + 1 + 1)) most).a), DV.int .u16 ((gPixel (nAt xs ((Int.tmod ((k : Nat) : Int) ((L : Nat) : Int)).toNat * 5)) (nAt xs ((Int.tmod ((k : Nat) : Int) ((L : Nat) : Int)).toNat * 5 + 1)) (nAt xs ((Int.tmod ((k : Nat) : Int) ((L : Nat) : Int)).toNat * 5 + 1 + 1)) (nAt xs ((Int.tmod ((k : Nat) : Int) ((L : Nat) : Int)).toNat * 5 + 1 + 1 + 1)) (nAt xs ((Int.tmod ((k : Nat) : Int) ((L : Nat) : Int)).toNat * 5 + 1 + 1 + 1 + 1)) most).b), DV.int .u16 ((gPixel (nAt xs ((Int.tmod ((k : Nat) : Int) ((L : Nat) : Int)).toNat * 5)) (nAt xs ((Int.tmod ((k : Nat) : Int) ((L : Nat) : Int)).toNat * 5 + 1)) (nAt xs ((Int.tmod ((k : Nat) : Int) ((L : Nat) : Int)).toNat * 5 + 1 + 1)) (nAt xs ((Int.tmod ((k : Nat) : Int) ((L : Nat) : Int)).toNat * 5 + 1 + 1 + 1)) (nAt xs ((Int.tmod ((k : Nat) : Int) ((L : Nat) : Int)).toNat * 5 + 1 + 1 + 1 + 1)) most).c), DV.int .u16 most, DV.int .u16 most]) = pxs (gPixels mood L xs most k')) ∧ True))) ∧ (((modS mood (6 : Int)) == (1 : Int)) = false → True ∧ True ∧ ((((modS mood (6 : Int)) == (2 : Int)) = true → True ∧ (k ≤ maxLen) ∧ True ∧ (((decide (((k : Nat) : Int) > (0 : Int))) = true → True ∧ (0 ≤ (0 : Int) ∧ (0 : Int) < ((k : Nat) : Int)) ∧ (((zz6 k)[0]? = some (DV.int .u16 (nAt (zz6 k) 0))) ∧ ((zz6 k)[1]? = some (DV.int .u16 (nAt (zz6 k) 1))) ∧ ((zz6 k)[2]? = some (DV.int .u16 (nAt (zz6 k) 2))) ∧ ((zz6 k)[3]? = some (DV.int .u16 (nAt (zz6 k) 3))) ∧ ((zz6 k)[4]? = some (DV.int .u16 (nAt (zz6 k) 4))) ∧ True) ∧ True ∧ True ∧ True ∧ True ∧ (appVc 5 10 k 1 (zz6 k) ([DV.int .u16 (nAt (zz6 k) 0), DV.int .u16 (nAt (zz6 k) 1), DV.int .u16 (nAt (zz6 k) 2), DV.int .u16 (nAt (zz6 k) 3), DV.int .u16 (nAt (zz6 k) 4)])) ∧ True ∧ True ∧ True ∧ True ∧ ∃ k' : Nat, (k' ≤ n.toNat) ∧ (zz7 k k') ∧ ((zz8 k k') ∧ (zz3 ∧ ((zz6 k) ++ ([DV.int .u16 (nAt (zz6 k) 0), DV.int .u16 (nAt (zz6 k) 1), DV.int .u16 (nAt (zz6 k) 2), DV.int .u16 (nAt (zz6 k) 3), DV.int .u16 (nAt (zz6 k) 4)]) = pxs (gPixels mood L xs most k')) ∧ True))) ∧ ((decide (((k : Nat) : Int) > (0 : Int))) = false → True ∧ True ∧ True ∧ (appVc 5 10 k 1 (zz6 k) ((zz4 k))) ∧ True ∧ True ∧ True ∧ True ∧ ∃ k' : Nat, (k' ≤ n.toNat) ∧ (zz7 k k') ∧ (zz9 k k')))) ∧ (((modS mood (6 : Int)) == (2 : Int)) = false → True ∧ True ∧ True ∧ (appVc 5 10 k 1 (zz6 k) ((zz4 k))) ∧ True ∧ True ∧ True ∧ True ∧ ∃ k' : Nat, (k' ≤ n.toNat) ∧ (zz7 k k') ∧ (zz9 k k')))))))) ∧ ((decide ((Int.tmod ((k : Nat) : Int) ((L : Nat) : Int)) < ((L : Nat) : Int))) = false → True ∧ True ∧ zz11 ∧ True ∧ True ∧ True ∧ True ∧ zz5 ∧ True ∧ True ∧ ((((modS mood (6 : Int)) == (0 : Int)) = true → True ∧ True ∧ True ∧ True ∧ True ∧ (appVc 5 10 k 1 (zz6 k) ([DV.int .u16 0, DV.int .u16 0, DV.int .u16 0, DV.int .u16 0, DV.int .u16 0])) ∧ True ∧ True ∧ True ∧ True ∧ ∃ k' : Nat, (k' ≤ n.toNat) ∧ (zz7 k k') ∧ ((zz8 k k') ∧ (zz3 ∧ ((zz6 k) ++ ([DV.int .u16 0, DV.int .u16 0, DV.int .u16 0, DV.int .u16 0, DV.int .u16 0]) = pxs (gPixels mood L xs most k')) ∧ True))) ∧ (((modS mood (6 : Int)) == (0 : Int)) = false → True ∧ True ∧ ((((modS mood (6 : Int)) == (1 : Int)) = true → True ∧ True ∧ True ∧ True ∧ True ∧ True ∧ True ∧ True ∧ True ∧ (appVc 5 10 k 1 (zz6 k) ([DV.int .u16 ((gPixel (0 : Int) (0 : Int) (0 : Int) (0 : Int) (0 : Int) most).a), DV.int .u16 ((gPixel (0 : Int) (0 : Int) (0 : Int) (0 : Int) (0 : Int) most).b), DV.int .u16 ((gPixel (0 : Int) (0 : Int) (0 : Int) (0 : Int) (0 : Int) most).c), DV.int .u16 most, DV.int .u16 most])) ∧ True ∧ True ∧ True ∧ True ∧ ∃ k' : Nat, (k' ≤ n.toNat) ∧ (zz7 k k') ∧ ((zz8 k k') ∧ (zz3 ∧ ((zz6 k) ++ ([DV.int .u16 ((gPixel (0 : Int) (0 : Int) (0 : Int) (0 : Int) (0 : Int) most).a), DV.int .u16 ((gPixel (0 : Int) (0 : Int) (0 : Int) (0 : Int) (0 : Int) most).b), DV.int .u16 ((gPixel (0 : Int) (0 : Int) (0 : Int) (0 : Int) (0 : Int) most).c), DV.int .u16 most, DV.int .u16 most]) = pxs (gPixels mood L xs most k')) ∧ True))) ∧ (((modS mood (6 : Int)) == (1 : Int)) = false → True ∧ True ∧ ((((modS mood (6 : Int)) == (2 : Int)) = true → True ∧ (k ≤ maxLen) ∧ True ∧ (((decide (((k : Nat) : Int) > (0 : Int))) = true → True ∧ (0 ≤ (0 : Int) ∧ (0 : Int) < ((k : Nat) : Int)) ∧ (((zz6 k)[0]? = some (DV.int .u16 (nAt (zz6 k) 0))) ∧ ((zz6 k)[1]? = some (DV.int .u16 (nAt (zz6 k) 1))) ∧ ((zz6 k)[2]? = some (DV.int .u16 (nAt (zz6 k) 2))) ∧ ((zz6 k)[3]? = some (DV.int .u16 (nAt (zz6 k) 3))) ∧ ((zz6 k)[4]? = some (DV.int .u16 (nAt (zz6 k) 4))) ∧ True) ∧ True ∧ True ∧ True ∧ True ∧ (appVc 5 10 k 1 (zz6 k) ([DV.int .u16 (nAt (zz6 k) 0), DV.int .u16 (nAt (zz6 k) 1), DV.int .u16 (nAt (zz6 k) 2), DV.int .u16 (nAt (zz6 k) 3), DV.int .u16 (nAt (zz6 k) 4)])) ∧ True ∧ True ∧ True ∧ True ∧ ∃ k' : Nat, (k' ≤ n.toNat) ∧ (zz7 k k') ∧ ((zz8 k k') ∧ (zz3 ∧ ((zz6 k) ++ ([DV.int .u16 (nAt (zz6 k) 0), DV.int .u16 (nAt (zz6 k) 1), DV.int .u16 (nAt (zz6 k) 2), DV.int .u16 (nAt (zz6 k) 3), DV.int .u16 (nAt (zz6 k) 4)]) = pxs (gPixels mood L xs most k')) ∧ True))) ∧ ((decide (((k : Nat) : Int) > (0 : Int))) = false → True ∧ True ∧ True ∧ (appVc 5 10 k 1 (zz6 k) (zz10)) ∧ True ∧ True ∧ True ∧ True ∧ ∃ k' : Nat, (k' ≤ n.toNat) ∧ (zz7 k k') ∧ (zz12 k k')))) ∧ (((modS mood (6 : Int)) == (2 : Int)) = false → True ∧ True ∧ True ∧ (appVc 5 10 k 1 (zz6 k) (zz10)) ∧ True ∧ True ∧ True ∧ True ∧ ∃ k' : Nat, (k' ≤ n.toNat) ∧ (zz7 k k') ∧ (zz12 k k')))))))))) ∧ ((decide (((L : Nat) : Int) > (0 : Int))) = false → True ∧ True ∧ True ∧ True ∧ True ∧ True ∧ (((decide (((k : Nat) : Int) < ((L : Nat) : Int))) = true → True ∧ True ∧ True ∧ (0 ≤ ((k : Nat) : Int) ∧ ((k : Nat) : Int) < ((L : Nat) : Int) ∧ ((k : Nat) : Int).toNat * 5 < xs.length) ∧ ((xs[((k : Nat) : Int).toNat * 5]? = some (DV.int .i64 (nAt xs (((k : Nat) : Int).toNat * 5)))) ∧ (xs[((k : Nat) : Int).toNat * 5 + 1]? = some (DV.int .i64 (nAt xs (((k : Nat) : Int).toNat * 5 + 1)))) ∧ (xs[((k : Nat) : Int).toNat * 5 + 1 + 1]? = some (DV.int .i64 (nAt xs (((k : Nat) : Int).toNat * 5 + 1 + 1)))) ∧ (xs[((k : Nat) : Int).toNat * 5 + 1 + 1 + 1]? = some (DV.int .i64 (nAt xs (((k : Nat) : Int).toNat * 5 + 1 + 1 + 1)))) ∧ (xs[((k : Nat) : Int).toNat * 5 + 1 + 1 + 1 + 1]? = some (DV.int .i64 (nAt xs (((k : Nat) : Int).toNat * 5 + 1 + 1 + 1 + 1)))) ∧ True) ∧ True ∧ True ∧ True ∧ (Ans Try.prog 83 [RV.agg [DV.int .i64 (nAt xs (((k : Nat) : Int).toNat * 5)), DV.int .i64 (nAt xs (((k : Nat) : Int).toNat * 5 + 1)), DV.int .i64 (nAt xs (((k : Nat) : Int).toNat * 5 + 1 + 1)), DV.int .i64 (nAt xs (((k : Nat) : Int).toNat * 5 + 1 + 1 + 1)), DV.int .i64 (nAt xs (((k : Nat) : Int).toNat * 5 + 1 + 1 + 1 + 1))], RV.d (DV.int .u16 most)] (RV.agg (zz13 k))) ∧ True ∧ True ∧ True ∧ True ∧ zz5 ∧ True ∧ True ∧ ((((modS mood (6 : Int)) == (0 : Int)) = true → True ∧ True ∧ True ∧ True ∧ True ∧ (appVc 5 10 k 1 (zz6 k) ([DV.int .u16 0, DV.int .u16 0, DV.int .u16 0, DV.int .u16 0, DV.int .u16 0])) ∧ True ∧ True ∧ True ∧ True ∧ ∃ k' : Nat, (k' ≤ n.toNat) ∧ (zz7 k k') ∧ ((zz8 k k') ∧ (zz3 ∧ ((zz6 k) ++ ([DV.int .u16 0, DV.int .u16 0, DV.int .u16 0, DV.int .u16 0, DV.int .u16 0]) = pxs (gPixels mood L xs most k')) ∧ True))) ∧ (((modS mood (6 : Int)) == (0 : Int)) = false → True ∧ True ∧ ((((modS mood (6 : Int)) == (1 : Int)) = true → True ∧ True ∧ True ∧ True ∧ True ∧ True ∧ True ∧ True ∧ True ∧ (appVc 5 10 k 1 (zz6 k) ([DV.int .u16 ((gPixel (nAt xs (((k : Nat) : Int).toNat * 5)) (nAt xs (((k : Nat) : Int).toNat * 5 + 1)) (nAt xs (((k : Nat) : Int).toNat * 5 + 1 + 1)) (nAt xs (((k : Nat) : Int).toNat * 5 + 1 + 1 + 1)) (nAt xs (((k : Nat) : Int).toNat * 5 + 1 + 1 + 1 + 1)) most).a), DV.int .u16 ((gPixel (nAt xs (((k : Nat) : Int).toNat * 5)) (nAt xs (((k : Nat) : Int).toNat * 5 + 1)) (nAt xs (((k : Nat) : Int).toNat * 5 + 1 + 1)) (nAt xs (((k : Nat) : Int).toNat * 5 + 1 + 1 + 1)) (nAt xs (((k : Nat) : Int).toNat * 5 + 1 + 1 + 1 + 1)) most).b), DV.int .u16 ((gPixel (nAt xs (((k : Nat) : Int).toNat * 5)) (nAt xs (((k : Nat) : Int).toNat * 5 + 1)) (nAt xs (((k : Nat) : Int).toNat * 5 + 1 + 1)) (nAt xs (((k : Nat) : Int).toNat * 5 + 1 + 1 + 1)) (nAt xs (((k : Nat) : Int).toNat * 5 + 1 + 1 + 1 + 1)) most).c), DV.int .u16 most, DV.int .u16 most])) ∧ True ∧ True ∧ True ∧ True ∧ ∃ k' : Nat, (k' ≤ n.toNat) ∧ (zz7 k k') ∧ ((zz8 k k') ∧ (zz3 ∧ ((zz6 k) ++ ([DV.int .u16 ((gPixel (nAt xs (((k : Nat) : Int).toNat * 5)) (nAt xs (((k : Nat) : Int).toNat * 5 + 1)) (nAt xs (((k : Nat) : Int).toNat * 5 + 1 + 1)) (nAt xs (((k : Nat) : Int).toNat * 5 + 1 + 1 + 1)) (nAt xs (((k : Nat) : Int).toNat * 5 + 1 + 1 + 1 + 1)) most).a), DV.int .u16 ((gPixel (nAt xs (((k : Nat) : Int).toNat * 5)) (nAt xs (((k : Nat) : Int).toNat * 5 + 1)) (nAt xs (((k : Nat) : Int).toNat * 5 + 1 + 1)) (nAt xs (((k : Nat) : Int).toNat * 5 + 1 + 1 + 1)) (nAt xs (((k : Nat) : Int).toNat * 5 + 1 + 1 + 1 + 1)) most).b), DV.int .u16 ((gPixel (nAt xs (((k : Nat) : Int).toNat * 5)) (nAt xs (((k : Nat) : Int).toNat * 5 + 1)) (nAt xs (((k : Nat) : Int).toNat * 5 + 1 + 1)) (nAt xs (((k : Nat) : Int).toNat * 5 + 1 + 1 + 1)) (nAt xs (((k : Nat) : Int).toNat * 5 + 1 + 1 + 1 + 1)) most).c), DV.int .u16 most, DV.int .u16 most]) = pxs (gPixels mood L xs most k')) ∧ True))) ∧ (((modS mood (6 : Int)) == (1 : Int)) = false → True ∧ True ∧ ((((modS mood (6 : Int)) == (2 : Int)) = true → True ∧ (k ≤ maxLen) ∧ True ∧ (((decide (((k : Nat) : Int) > (0 : Int))) = true → True ∧ (0 ≤ (0 : Int) ∧ (0 : Int) < ((k : Nat) : Int)) ∧ (((zz6 k)[0]? = some (DV.int .u16 (nAt (zz6 k) 0))) ∧ ((zz6 k)[1]? = some (DV.int .u16 (nAt (zz6 k) 1))) ∧ ((zz6 k)[2]? = some (DV.int .u16 (nAt (zz6 k) 2))) ∧ ((zz6 k)[3]? = some (DV.int .u16 (nAt (zz6 k) 3))) ∧ ((zz6 k)[4]? = some (DV.int .u16 (nAt (zz6 k) 4))) ∧ True) ∧ True ∧ True ∧ True ∧ True ∧ (appVc 5 10 k 1 (zz6 k) ([DV.int .u16 (nAt (zz6 k) 0), DV.int .u16 (nAt (zz6 k) 1), DV.int .u16 (nAt (zz6 k) 2), DV.int .u16 (nAt (zz6 k) 3), DV.int .u16 (nAt (zz6 k) 4)])) ∧ True ∧ True ∧ True ∧ True ∧ ∃ k' : Nat, (k' ≤ n.toNat) ∧ (zz7 k k') ∧ ((zz8 k k') ∧ (zz3 ∧ ((zz6 k) ++ ([DV.int .u16 (nAt (zz6 k) 0), DV.int .u16 (nAt (zz6 k) 1), DV.int .u16 (nAt (zz6 k) 2), DV.int .u16 (nAt (zz6 k) 3), DV.int .u16 (nAt (zz6 k) 4)]) = pxs (gPixels mood L xs most k')) ∧ True))) ∧ ((decide (((k : Nat) : Int) > (0 : Int))) = false → True ∧ True ∧ True ∧ (appVc 5 10 k 1 (zz6 k) ((zz13 k))) ∧ True ∧ True ∧ True ∧ True ∧ ∃ k' : Nat, (k' ≤ n.toNat) ∧ (zz7 k k') ∧ (zz14 k k')))) ∧ (((modS mood (6 : Int)) == (2 : Int)) = false → True ∧ True ∧ True ∧ (appVc 5 10 k 1 (zz6 k) ((zz13 k))) ∧ True ∧ True ∧ True ∧ True ∧ ∃ k' : Nat, (k' ≤ n.toNat) ∧ (zz7 k k') ∧ (zz14 k k')))))))) ∧ ((decide (((k : Nat) : Int) < ((L : Nat) : Int))) = false → True ∧ True ∧ zz11 ∧ True ∧ True ∧ True ∧ True ∧ zz5 ∧ True ∧ True ∧ ((((modS mood (6 : Int)) == (0 : Int)) = true → True ∧ True ∧ True ∧ True ∧ True ∧ (appVc 5 10 k 1 (zz6 k) ([DV.int .u16 0, DV.int .u16 0, DV.int .u16 0, DV.int .u16 0, DV.int .u16 0])) ∧ True ∧ True ∧ True ∧ True ∧ ∃ k' : Nat, (k' ≤ n.toNat) ∧ (zz7 k k') ∧ ((zz8 k k') ∧ (zz3 ∧ ((zz6 k) ++ ([DV.int .u16 0, DV.int .u16 0, DV.int .u16 0, DV.int .u16 0, DV.int .u16 0]) = pxs (gPixels mood L xs most k')) ∧ True))) ∧ (((modS mood (6 : Int)) == (0 : Int)) = false → True ∧ True ∧ ((((modS mood (6 : Int)) == (1 : Int)) = true → True ∧ True ∧ True ∧ True ∧ True ∧ True ∧ True ∧ True ∧ True ∧ (appVc 5 10 k 1 (zz6 k) ([DV.int .u16 ((gPixel (0 : Int) (0 : Int) (0 : Int) (0 : Int) (0 : Int) most).a), DV.int .u16 ((gPixel (0 : Int) (0 : Int) (0 : Int) (0 : Int) (0 : Int) most).b), DV.int .u16 ((gPixel (0 : Int) (0 : Int) (0 : Int) (0 : Int) (0 : Int) most).c), DV.int .u16 most, DV.int .u16 most])) ∧ True ∧ True ∧ True ∧ True ∧ ∃ k' : Nat, (k' ≤ n.toNat) ∧ (zz7 k k') ∧ ((zz8 k k') ∧ (zz3 ∧ ((zz6 k) ++ ([DV.int .u16 ((gPixel (0 : Int) (0 : Int) (0 : Int) (0 : Int) (0 : Int) most).a), DV.int .u16 ((gPixel (0 : Int) (0 : Int) (0 : Int) (0 : Int) (0 : Int) most).b), DV.int .u16 ((gPixel (0 : Int) (0 : Int) (0 : Int) (0 : Int) (0 : Int) most).c), DV.int .u16 most, DV.int .u16 most]) = pxs (gPixels mood L xs most k')) ∧ True))) ∧ (((modS mood (6 : Int)) == (1 : Int)) = false → True ∧ True ∧ ((((modS mood (6 : Int)) == (2 : Int)) = true → True ∧ (k ≤ maxLen) ∧ True ∧ (((decide (((k : Nat) : Int) > (0 : Int))) = true → True ∧ (0 ≤ (0 : Int) ∧ (0 : Int) < ((k : Nat) : Int)) ∧ (((zz6 k)[0]? = some (DV.int .u16 (nAt (zz6 k) 0))) ∧ ((zz6 k)[1]? = some (DV.int .u16 (nAt (zz6 k) 1))) ∧ ((zz6 k)[2]? = some (DV.int .u16 (nAt (zz6 k) 2))) ∧ ((zz6 k)[3]? = some (DV.int .u16 (nAt (zz6 k) 3))) ∧ ((zz6 k)[4]? = some (DV.int .u16 (nAt (zz6 k) 4))) ∧ True) ∧ True ∧ True ∧ True ∧ True ∧ (appVc 5 10 k 1 (zz6 k) ([DV.int .u16 (nAt (zz6 k) 0), DV.int .u16 (nAt (zz6 k) 1), DV.int .u16 (nAt (zz6 k) 2), DV.int .u16 (nAt (zz6 k) 3), DV.int .u16 (nAt (zz6 k) 4)])) ∧ True ∧ True ∧ True ∧ True ∧ ∃ k' : Nat, (k' ≤ n.toNat) ∧ (zz7 k k') ∧ ((zz8 k k') ∧ (zz3 ∧ ((zz6 k) ++ ([DV.int .u16 (nAt (zz6 k) 0), DV.int .u16 (nAt (zz6 k) 1), DV.int .u16 (nAt (zz6 k) 2), DV.int .u16 (nAt (zz6 k) 3), DV.int .u16 (nAt (zz6 k) 4)]) = pxs (gPixels mood L xs most k')) ∧ True))) ∧ ((decide (((k : Nat) : Int) > (0 : Int))) = false → True ∧ True ∧ True ∧ (appVc 5 10 k 1 (zz6 k) (zz10)) ∧ True ∧ True ∧ True ∧ True ∧ ∃ k' : Nat, (k' ≤ n.toNat) ∧ (zz7 k k') ∧ (zz12 k k')))) ∧ (((modS mood (6 : Int)) == (2 : Int)) = false → True ∧ True ∧ True ∧ (appVc 5 10 k 1 (zz6 k) (zz10)) ∧ True ∧ True ∧ True ∧ True ∧ ∃ k' : Nat, (k' ≤ n.toNat) ∧ (zz7 k k') ∧ (zz12 k k')))))))))))) ∧ ((decide (((k : Nat) : Int) < n)) = false → True ∧ True ∧ (37 = 37 ∧ 5 = 5) ∧ (pxs (gPixels mood L xs most n.toNat)).length = n.toNat * 5 ∧ k = n.toNat ∧ pxs (gPixels mood L xs most k) = pxs (gPixels mood L xs most n.toNat))))) := by kernel_rfl
theorem G_Pixels_ans (mood : Int) (L : Nat) (xs : List DV) (n : Int) (most : Int) (hx : Is5 L xs) (hn : n ≤ 16777216) : AnsO Try.prog 60 [RV.agg [DV.int .i64 mood, DV.sl L xs], RV.d (DV.int .i64 n), RV.d (DV.int .u16 most)] 37 5 n.toNat (pxs (gPixels mood L xs most n.toNat)) :=
  ans_of_vcg_own (t := 6) (Γ := gamI) (G_Pixels_ann mood L xs n most) mixed_ Try.func60 rfl (Nat.le_of_ble_eq_true rfl) rfl fun hwf => by
    refine Eq.mpr (G_Pixels_vc mood L xs n most) ?_
    simp only [true_and, and_true, RV.d.injEq, RV.agg.injEq, RV.tup.injEq, DV.bool.injEq, DV.int.injEq, DV.sl.injEq, List.cons.injEq, forall_const, Bool.not_false, Bool.not_true, Bool.not_eq_true', Bool.not_eq_false', decide_eq_true_eq, decide_eq_false_iff_not, Int.toNat_natCast, G_Mod_ans, G_Max_ans, G_Sample_ans, G_Sample_ans, G_Pixel_ans, G_Pixel_ans]
    refine ⟨⟨0, Nat.zero_le _, ⟨rfl, rfl⟩, rfl⟩, fun k hk => ⟨fun hlt => ?_, fun hge => ?_⟩⟩
    · have hkn : k < n.toNat := by omega
      have hnn : n.toNat ≤ 16777216 := by omega
      have tm : Int.tmod (k : Int) (L : Int) = ((k % L : Nat) : Int) := rfl
      simp only [tm, Int.toNat_natCast, Nat.add_assoc, Nat.reduceAdd]
      rcases Nat.eq_zero_or_pos L with hL | hL
      · subst hL
        have P1 : gPixel 0 0 0 0 0 most = gPx1 0 xs most k := by simp [gPx1, gNum]
        have P0 : gPx1 0 xs most 0 = gPx1 0 xs most k := by simp [gPx1, gNum]
        simp only [P1]
        (repeat' (first | apply And.intro | intro)) <;> (first | assumption | omega | exact A _ (by omega) | rfl | (rw [pxs_length, gPixels_len]; done) | (unfold maxLen; omega) | exact gFirst (by omega) _ (by omega) | (apply gStep hkn hnn; simp_all [gPx, Px.ds, Px.zero]; done) | (obtain ⟨v0, v1, v2, v3, v4⟩ := gFirstV (mood := mood) (L := L) (xs := xs) (most := most) (k := k) (by omega) (eq_of_beq (by assumption)); apply gStep hkn hnn; simp_all [gPx, Px.ds]; done) | (obtain ⟨v0, v1, v2, v3, v4⟩ := gFirstV (mood := mood) (L := 0) (xs := xs) (most := most) (k := k) (by omega) (eq_of_beq (by assumption)); apply gStep hkn hnn; simp_all [gPx, Px.ds]; done) | (have P2 := P0 (by omega); apply gStep hkn hnn; simp_all [gPx, Px.ds]; done))
      · have hmod := Nat.mod_lt k hL
        have P1 : gPixel (nAt xs (k % L * 5)) (nAt xs (k % L * 5 + 1)) (nAt xs (k % L * 5 + 2)) (nAt xs (k % L * 5 + 3)) (nAt xs (k % L * 5 + 4)) most = gPx1 L xs most k := by simp [gPx1, gNum, hL]
        simp only [P1]
        have P0 : k = 0 → gPx1 L xs most 0 = gPx1 L xs most k := fun h => by rw [h]
        have A := hx.2
        have B := hx.1
        (repeat' (first | apply And.intro | intro)) <;> (first | assumption | omega | exact A _ (by omega) | rfl | (rw [pxs_length, gPixels_len]; done) | (unfold maxLen; omega) | exact gFirst (by omega) _ (by omega) | (apply gStep hkn hnn; simp_all [gPx, Px.ds, Px.zero]; done) | (obtain ⟨v0, v1, v2, v3, v4⟩ := gFirstV (mood := mood) (L := L) (xs := xs) (most := most) (k := k) (by omega) (eq_of_beq (by assumption)); apply gStep hkn hnn; simp_all [gPx, Px.ds]; done) | (obtain ⟨v0, v1, v2, v3, v4⟩ := gFirstV (mood := mood) (L := 0) (xs := xs) (most := most) (k := k) (by omega) (eq_of_beq (by assumption)); apply gStep hkn hnn; simp_all [gPx, Px.ds]; done) | (have P2 := P0 (by omega); apply gStep hkn hnn; simp_all [gPx, Px.ds]; done))
    · have : k = n.toNat := by omega
      subst this
      rw [pxs_length, gPixels_len]
      exact ⟨rfl, rfl, rfl⟩

end Go.Proofs.Ytkfgmaecbclgfaa

/-
  Names of operators and modes: by the package variables, and the reference's.
-/
namespace Go.Proofs.Ytkfgmaecbclgfaa
open Go.RowKit
set_option linter.unusedVariables false
set_option linter.unusedSimpArgs false
attribute [local irreducible] Ans AnsO AnsG AnsN AnsI

set_option maxRecDepth 10000
end Go.Proofs.Ytkfgmaecbclgfaa

/-
  Offsets, unused fields, the innermost group.
-/
namespace Go.Proofs.Ytkfgmaecbclgfaa
open Go.RowKit
set_option linter.unusedVariables false
set_option linter.unusedSimpArgs false
attribute [local irreducible] Ans AnsO AnsG AnsN AnsI

end Go.Proofs.Ytkfgmaecbclgfaa

/-
  The error of one operation.
-/
namespace Go.Proofs.Ytkfgmaecbclgfaa
open Go.RowKit
set_option linter.unusedVariables false
set_option linter.unusedSimpArgs false
attribute [local irreducible] Ans AnsO AnsG AnsN AnsI

def mostS (b : Int) : Int := if b = 8 then 255 else if b = 16 then 65535 else 0
def bitsOk (b : Int) : Bool := decide (b = 8 ∨ b = 16)
/-- the error of an operation among open groups -/
def errO (bits : Int) (mn : Nat) (o : Oq) (l : List Oq) : Int :=
  if ¬ (o.kind = 1 ∨ o.kind = 2 ∨ o.kind = 3) then 9
  else if o.fields = false then 10
  else if o.kind = 3 then (if l = [] then 18 else 0)
  else if (o.kind = 1 ∧ (o.image < 0 ∨ o.image ≥ (mn : Int))) ∨ o.mask < 0 ∨ o.mask > (mn : Int) then 11
  else if ¬ (nearB o.x = true ∧ nearB o.y = true ∧ nearB o.mx = true ∧ nearB o.my = true) then 12
  else if o.opac > mostS bits then 13
  else if ¬ (1 ≤ o.oper ∧ o.oper < 13) then 14
  else if ¬ (1 ≤ o.mode ∧ o.mode < 13) then 15
  else if o.oper ≠ 4 ∧ ctxB l = false then 16
  else if o.kind = 2 ∧ 64 ≤ l.length then 17
  else 0
end Go.Proofs.Ytkfgmaecbclgfaa

/-
  The frame of a script.
-/
namespace Go.Proofs.Ytkfgmaecbclgfaa
open Go.RowKit
set_option linter.unusedVariables false
set_option linter.unusedSimpArgs false
attribute [local irreducible] Ans AnsO AnsG AnsN AnsI

/-- the error of a frame -/
def frameE (bits : Int) (c : Rc) (tw th : Int) (l : List Int) (mn pn : Nat) : Int :=
  if bitsOk bits = false then 1
  else if c.empty = true ∨ c.area > 16777216 ∨ nearB c.a = false ∨ nearB c.b = false then 2
  else if (cntS c tw th).2.2 = false then 3
  else if orderOk l (IntKind.wrap .i64 ((cntS c tw th).1 * (cntS c tw th).2.1)) = false then 4
  else if (mn : Int) > 64 ∨ (pn : Int) > 4096 then 5
  else 0
def gamVd : Gam where
 pure := fun f xs =>
  if f = 16 then (match xs with | [.d (.int _ n), .d (.int _ k)] => some (RV.d (DV.int .i64 (modS n k))) | _ => none) else
  if f = 82 then (match xs with | [.agg [.int _ a, .int _ b, .int _ c, .int _ d]] => some (RV.d (DV.bool (Rc.valid ⟨a, b, c, d⟩))) | _ => none) else
  if f = 58 then (match xs with | [.agg [.int _ a, .int _ b, .int _ c, .int _ d]] => some (RV.d (DV.bool (Rc.empty ⟨a, b, c, d⟩))) | _ => none) else
  if f = 59 then (match xs with | [.d (.sl n xs), .d (.int _ i)] => some (RV.d (DV.int .i64 (atS (ints xs) i))) | _ => none) else
  if f = 50 then (match xs with | [.d (.sl n xs), .d (.sl m ys)] => some (RV.d (DV.bool (decide (ints xs = ints ys)))) | _ => none) else
  if f = 25 then (match xs with | [] => some (RV.tup [RV.tup [RV.d (DV.int .i64 3), RV.d (DV.int .i64 1)]]) | [.d (.sl n xs), .d (.int _ m)] => some (RV.d (DV.sl ((permL (ints xs) m).length) (is (permL (ints xs) m)))) | _ => none) else
  if f = 24 then (match xs with | [.agg [.int _ a, .int _ b, .int _ c, .int _ d], .d (.int _ w), .d (.int _ h)] => some (RV.tup [RV.d (DV.int .i64 ((cntS ⟨a, b, c, d⟩ w h).1)), RV.d (DV.int .i64 ((cntS ⟨a, b, c, d⟩ w h).2.1)), RV.d (DV.bool ((cntS ⟨a, b, c, d⟩ w h).2.2))]) | _ => none) else
  none
 modes := fun f =>
  none
 proc := fun f xs bs =>
  none
 iter := fun f cs =>
  none

def R13_Tiles_ann (a : Int) (b : Int) (c : Int) (d : Int) (w : Int) (h : Int) : Ann := Ann.leaf
theorem R13_Tiles_vc (a : Int) (b : Int) (c : Int) (d : Int) (w : Int) (h : Int) : vcg Try.prog gamVd 55 (bodyOf Try.f24) (R13_Tiles_ann a b c d w h) kn0 (start [RV.agg [DV.int .i64 a, DV.int .i64 b, DV.int .i64 c, DV.int .i64 d], RV.d (DV.int .i64 w), RV.d (DV.int .i64 h)]) (post Try.prog Try.f24.results.toList (· = RV.tup [RV.d (DV.int .i64 ((cntS ⟨a, b, c, d⟩ w h).1)), RV.d (DV.int .i64 ((cntS ⟨a, b, c, d⟩ w h).2.1)), RV.d (DV.bool ((cntS ⟨a, b, c, d⟩ w h).2.2))])) =
  (let zz0 := [RV.d (DV.int .i64 0), RV.d (DV.int .i64 0), RV.d (DV.bool false)]; let zz1 := [RV.d (DV.int .i64 ((cntS ⟨a, b, c, d⟩ w h).1)), RV.d (DV.int .i64 ((cntS ⟨a, b, c, d⟩ w h).2.1)), RV.d (DV.bool ((cntS ⟨a, b, c, d⟩ w h).2.2))]; True ∧ True ∧ True ∧ True ∧ True ∧ (Ans Try.prog 58 [RV.agg [DV.int .i64 a, DV.int .i64 b, DV.int .i64 c, DV.int .i64 d]] (RV.d (DV.bool (Rc.empty ⟨a, b, c, d⟩)))) ∧ True ∧ (((Rc.empty ⟨a, b, c, d⟩) = false → True ∧ True ∧ True ∧ True ∧ (((decide (w < (1 : Int))) = false → True ∧ True ∧ True ∧ True ∧ (((decide (h < (1 : Int))) = false → True ∧ True ∧ True ∧ True ∧ True ∧ True ∧ True ∧ True ∧ True ∧ (((decide (w > (IntKind.wrap .i64 (c - a)))) = false → True ∧ True ∧ True ∧ True ∧ True ∧ True ∧ True ∧ True ∧ (((decide (h > (IntKind.wrap .i64 (d - b)))) = true → True ∧ True ∧ True ∧ RV.tup zz0 = RV.tup zz1) ∧ ((decide (h > (IntKind.wrap .i64 (d - b)))) = false → True ∧ True ∧ True ∧ True ∧ True ∧ True ∧ True ∧ (w ≠ 0) ∧ True ∧ True ∧ True ∧ True ∧ True ∧ True ∧ True ∧ True ∧ (h ≠ 0) ∧ True ∧ True ∧ True ∧ True ∧ (true = true) ∧ RV.tup [RV.d (DV.int .i64 (IntKind.wrap .i64 ((IntKind.wrap .i64 (Int.tdiv (IntKind.wrap .i64 ((IntKind.wrap .i64 (c - a)) - (1 : Int))) w)) + (1 : Int)))), RV.d (DV.int .i64 (IntKind.wrap .i64 ((IntKind.wrap .i64 (Int.tdiv (IntKind.wrap .i64 ((IntKind.wrap .i64 (d - b)) - (1 : Int))) h)) + (1 : Int)))), RV.d (DV.bool true)] = RV.tup zz1))) ∧ ((decide (w > (IntKind.wrap .i64 (c - a)))) = (!false) → True ∧ True ∧ True ∧ True ∧ RV.tup zz0 = RV.tup zz1))) ∧ ((decide (h < (1 : Int))) = (!false) → True ∧ True ∧ True ∧ True ∧ True ∧ True ∧ RV.tup zz0 = RV.tup zz1))) ∧ ((decide (w < (1 : Int))) = (!false) → True ∧ True ∧ True ∧ True ∧ True ∧ True ∧ True ∧ True ∧ RV.tup zz0 = RV.tup zz1))) ∧ ((Rc.empty ⟨a, b, c, d⟩) = (!false) → True ∧ True ∧ True ∧ True ∧ True ∧ True ∧ True ∧ True ∧ True ∧ True ∧ RV.tup zz0 = RV.tup zz1))) := by kernel_rfl
theorem R13_Tiles_ans (a : Int) (b : Int) (c : Int) (d : Int) (w : Int) (h : Int) : Ans Try.prog 24 [RV.agg [DV.int .i64 a, DV.int .i64 b, DV.int .i64 c, DV.int .i64 d], RV.d (DV.int .i64 w), RV.d (DV.int .i64 h)] (RV.tup [RV.d (DV.int .i64 ((cntS ⟨a, b, c, d⟩ w h).1)), RV.d (DV.int .i64 ((cntS ⟨a, b, c, d⟩ w h).2.1)), RV.d (DV.bool ((cntS ⟨a, b, c, d⟩ w h).2.2))]) :=
  ans_of_vcg (Γ := gamVd) (R13_Tiles_ann a b c d w h) mixed_ Try.func24 rfl (Nat.le_of_ble_eq_true rfl) fun hwf => by
    refine Eq.mpr (R13_Tiles_vc a b c d w h) ?_
    simp only [true_and, and_true, RV.d.injEq, RV.agg.injEq, RV.tup.injEq, DV.bool.injEq, DV.int.injEq, DV.sl.injEq, List.cons.injEq, forall_const, Bool.not_false, Bool.not_true, Bool.not_eq_true', Bool.not_eq_false', decide_eq_true_eq, decide_eq_false_iff_not, Int.toNat_natCast, R13_Empty_ans]
    unfold cntS
    cases he : Rc.empty ⟨a, b, c, d⟩
    · obtain ⟨e1, e2, e3, e4, e5, e6⟩ := (Rc.empty_iff _).1 he
      simp only at e1 e2 e3 e4 e5 e6
      have w1 : IntKind.wrap .i64 (c - a) = c - a := by rw [IntKind.wrap_i64]; omega
      have w2 : IntKind.wrap .i64 (d - b) = d - b := by rw [IntKind.wrap_i64]; omega
      simp only [w1, w2]
      have hq : ∀ W v : Int, 1 ≤ v → v ≤ W → W ≤ 2147483648 → IntKind.wrap .i64 (IntKind.wrap .i64 (Int.tdiv (IntKind.wrap .i64 (W - 1)) v) + 1) = IntKind.wrap .i64 (Int.tdiv (IntKind.wrap .i64 (IntKind.wrap .i64 (W + v) - 1)) v) := fun W v h1 h2 h3 => by
        have a1 : IntKind.wrap .i64 (W - 1) = W - 1 := by rw [IntKind.wrap_i64]; omega
        have a2 : IntKind.wrap .i64 (W + v) = W + v := by rw [IntKind.wrap_i64]; omega
        have a3 : IntKind.wrap .i64 (W + v - 1) = W + v - 1 := by rw [IntKind.wrap_i64]; omega
        rw [a1, a2, a3, Int.tdiv_eq_ediv_of_nonneg (by omega), Int.tdiv_eq_ediv_of_nonneg (by omega)]
        have b1 : (W + v - 1) / v = (W - 1) / v + 1 := by rw [show W + v - 1 = (W - 1) + 1 * v by omega, Int.add_mul_ediv_right _ _ (by omega)]
        rw [b1]
        have b2 : 0 ≤ (W - 1) / v := Int.ediv_nonneg (by omega) (by omega)
        have b3 : (W - 1) / v ≤ W - 1 := Int.ediv_le_self _ (by omega)
        rw [IntKind.wrap_i64 ((W - 1) / v)]
        congr 1
        omega
      by_cases h1 : w < 1 <;> by_cases h3 : h < 1 <;> by_cases h2 : c - a < w <;> by_cases h4 : d - b < h <;> simp [h1, h2, h3, h4] <;> first | omega | exact ⟨by omega, by omega, hq _ _ (by omega) (by omega) (by omega), hq _ _ (by omega) (by omega) (by omega)⟩
    · simp

end Go.Proofs.Ytkfgmaecbclgfaa

/-
  All operations of a script.
-/
namespace Go.Proofs.Ytkfgmaecbclgfaa
open Go.RowKit
set_option linter.unusedVariables false
set_option linter.unusedSimpArgs false
attribute [local irreducible] Ans AnsO AnsG AnsN AnsI

theorem ops_take : ∀ (l : List Oq) (k : Nat), (ops l).take (k * 12) = ops (l.take k)
  | [], k => by simp [ops]
  | o :: l, 0 => by simp [ops]
  | o :: l, k + 1 => by
    have e : ops (o :: l) = o.cells ++ ops l := by simp [ops]
    have e2 : ops ((o :: l).take (k + 1)) = o.cells ++ ops (l.take k) := by simp [ops]
    rw [e, e2, List.take_append, List.take_of_length_le (by simp [Oq.cells]; omega), ← ops_take l k]
    congr 2
    simp [Oq.cells]; omega
/-- the open groups behind an operation -/
def stepO (o : Oq) (st : List Oq) : List Oq := if o.kind = 2 then st ++ [o] else if o.kind = 3 then st.dropLast else st
def runO (bits : Int) (mn : Nat) : List Oq → Int → List Oq → Int × Int
  | [], i, st => if st = [] then (0, 0) else (18, i)
  | o :: r, i, st => if errO bits mn o st = 0 then runO bits mn r (i + 1) (stepO o st) else (errO bits mn o st, i)
def opsE (bits : Int) (c : Rc) (tw th : Int) (l : List Int) (mn : Nat) (ps : List Oq) : Int × Int :=
  if frameE bits c tw th l mn ps.length = 0 then runO bits mn ps 0 [] else (frameE bits c tw th l mn ps.length, 0)
end Go.Proofs.Ytkfgmaecbclgfaa

/-
  What the generator makes of numbers: operations.
-/
namespace Go.Proofs.Ytkfgmaecbclgfaa
open Go.RowKit
set_option linter.unusedVariables false
set_option linter.unusedSimpArgs false
attribute [local irreducible] Ans AnsO AnsG AnsN AnsI

set_option maxRecDepth 4000
def gamSa : Gam where
 pure := fun f xs =>
  if f = 16 then (match xs with | [.d (.int _ n), .d (.int _ k)] => some (RV.d (DV.int .i64 (modS n k))) | _ => none) else
  if f = 63 then (match xs with | [.d (.int _ n), .d (.int _ most)] => some (RV.d (DV.int .u16 (gSample n most))) | _ => none) else
  if f = 62 then (match xs with | [.d (.int _ n), .d (.int _ corner)] => some (RV.d (DV.int .i64 (gOff n corner))) | _ => none) else
  if f = 28 then (match xs with | [.agg [.int _ vk, .int _ vim, .int _ vx, .int _ vy, .int _ vma, .int _ vmx, .int _ vmy, .int _ vop, .int _ vope, .int _ vmo, .int _ vfl], .d (.bool push), .d (.int _ imgs), .agg [.int _ ca, .int _ cb, .int _ cc, .int _ cd], .d (.bool free), .d (.int _ most)] => some (RV.agg [DV.int .i64 ((gOp ⟨vk, vim, vx, vy, vma, vmx, vmy, vop, vope, vmo, vfl⟩ push imgs ⟨ca, cb, cc, cd⟩ free most).kind), DV.int .i64 ((gOp ⟨vk, vim, vx, vy, vma, vmx, vmy, vop, vope, vmo, vfl⟩ push imgs ⟨ca, cb, cc, cd⟩ free most).image), DV.int .i64 ((gOp ⟨vk, vim, vx, vy, vma, vmx, vmy, vop, vope, vmo, vfl⟩ push imgs ⟨ca, cb, cc, cd⟩ free most).x), DV.int .i64 ((gOp ⟨vk, vim, vx, vy, vma, vmx, vmy, vop, vope, vmo, vfl⟩ push imgs ⟨ca, cb, cc, cd⟩ free most).y), DV.int .i64 ((gOp ⟨vk, vim, vx, vy, vma, vmx, vmy, vop, vope, vmo, vfl⟩ push imgs ⟨ca, cb, cc, cd⟩ free most).mask), DV.int .i64 ((gOp ⟨vk, vim, vx, vy, vma, vmx, vmy, vop, vope, vmo, vfl⟩ push imgs ⟨ca, cb, cc, cd⟩ free most).mx), DV.int .i64 ((gOp ⟨vk, vim, vx, vy, vma, vmx, vmy, vop, vope, vmo, vfl⟩ push imgs ⟨ca, cb, cc, cd⟩ free most).my), DV.int .u16 ((gOp ⟨vk, vim, vx, vy, vma, vmx, vmy, vop, vope, vmo, vfl⟩ push imgs ⟨ca, cb, cc, cd⟩ free most).opac), DV.int .i64 ((gOp ⟨vk, vim, vx, vy, vma, vmx, vmy, vop, vope, vmo, vfl⟩ push imgs ⟨ca, cb, cc, cd⟩ free most).oper), DV.int .i64 ((gOp ⟨vk, vim, vx, vy, vma, vmx, vmy, vop, vope, vmo, vfl⟩ push imgs ⟨ca, cb, cc, cd⟩ free most).mode), DV.bool ((gOp ⟨vk, vim, vx, vy, vma, vmx, vmy, vop, vope, vmo, vfl⟩ push imgs ⟨ca, cb, cc, cd⟩ free most).iso), DV.bool ((gOp ⟨vk, vim, vx, vy, vma, vmx, vmy, vop, vope, vmo, vfl⟩ push imgs ⟨ca, cb, cc, cd⟩ free most).kno)]) | _ => none) else
  none
 modes := fun f =>
  none
 proc := fun f xs bs =>
  none
 iter := fun f cs =>
  none

def G_offset_ann (n : Int) (corner : Int) : Ann := Ann.leaf
theorem G_offset_vc (n : Int) (corner : Int) : vcg Try.prog gamSa 15 (bodyOf Try.f62) (G_offset_ann n corner) kn0 (start [RV.d (DV.int .i64 n), RV.d (DV.int .i64 corner)]) (post Try.prog Try.f62.results.toList (· = RV.d (DV.int .i64 (gOff n corner)))) =
  (let zz0 := (DV.int .i64 (gOff n corner)); let zz1 := (IntKind.wrap .i64 (Int.tdiv n (3 : Int))); True ∧ True ∧ (Ans Try.prog 16 [RV.d (DV.int .i64 n), RV.d (DV.int .i64 3)] (RV.d (DV.int .i64 (modS n (3 : Int))))) ∧ True ∧ ((((modS n (3 : Int)) == (0 : Int)) = true → True ∧ True ∧ RV.d (DV.int .i64 corner) = RV.d zz0) ∧ (((modS n (3 : Int)) == (0 : Int)) = false → True ∧ True ∧ ((3 : Int) ≠ 0) ∧ (Ans Try.prog 16 [RV.d (DV.int .i64 zz1), RV.d (DV.int .i64 9)] (RV.d (DV.int .i64 (modS zz1 (9 : Int))))) ∧ True ∧ True ∧ True ∧ RV.d (DV.int .i64 (IntKind.wrap .i64 ((IntKind.wrap .i64 (corner + (modS zz1 (9 : Int)))) - (4 : Int)))) = RV.d zz0))) := by kernel_rfl
theorem G_offset_ans (n : Int) (corner : Int) (hc : -100 ≤ corner ∧ corner ≤ 100) : Ans Try.prog 62 [RV.d (DV.int .i64 n), RV.d (DV.int .i64 corner)] (RV.d (DV.int .i64 (gOff n corner))) :=
  ans_of_vcg (Γ := gamSa) (G_offset_ann n corner) mixed_ Try.func62 rfl (Nat.le_of_ble_eq_true rfl) fun hwf => by
    refine Eq.mpr (G_offset_vc n corner) ?_
    simp only [true_and, and_true, RV.d.injEq, RV.agg.injEq, RV.tup.injEq, DV.bool.injEq, DV.int.injEq, DV.sl.injEq, List.cons.injEq, forall_const, Bool.not_false, Bool.not_true, Bool.not_eq_true', Bool.not_eq_false', decide_eq_true_eq, decide_eq_false_iff_not, Int.toNat_natCast, G_Mod_ans, G_Sample_ans]
    have b := @modS_in (IntKind.wrap .i64 (Int.tdiv n 3)) 9 (by omega) (by omega)
    unfold gOff
    have w1 : IntKind.wrap .i64 (corner + modS (IntKind.wrap .i64 (Int.tdiv n 3)) 9) = corner + modS (IntKind.wrap .i64 (Int.tdiv n 3)) 9 := IntWalk.i64_in _ ⟨by omega, by omega⟩
    have w2 : IntKind.wrap .i64 (corner + modS (IntKind.wrap .i64 (Int.tdiv n 3)) 9 - 4) = corner + modS (IntKind.wrap .i64 (Int.tdiv n 3)) 9 - 4 := IntWalk.i64_in _ ⟨by omega, by omega⟩
    simp only [w1, w2]
    refine ⟨fun h => ?_, fun h => ⟨by decide, ?_⟩⟩
    · rw [if_pos (by simpa using h)]
    · rw [if_neg (by simpa using h)]

def G_Op_ann (r : Rw) (push : Bool) (imgs : Int) (c : Rc) (free : Bool) (most : Int) : Ann := let zz0 := (4, AV.one (Cl.d (DV.bool free))); let zz1 := (5, AV.one (Cl.d (DV.int .u16 most))); let zz2 := (6, Bx.cells [Cl.d (DV.int .i64 r.k), Cl.d (DV.int .i64 r.im), Cl.d (DV.int .i64 r.x), Cl.d (DV.int .i64 r.y), Cl.d (DV.int .i64 r.ma), Cl.d (DV.int .i64 r.mx), Cl.d (DV.int .i64 r.my), Cl.d (DV.int .i64 r.op), Cl.d (DV.int .i64 r.ope), Cl.d (DV.int .i64 r.mo), Cl.d (DV.int .i64 r.fl)]); let zz3 := (12, Bx.cells [Cl.d (DV.int .i64 0), Cl.d (DV.int .i64 0), Cl.d (DV.int .i64 0), Cl.d (DV.int .i64 0), Cl.d (DV.int .i64 0), Cl.d (DV.int .i64 0), Cl.d (DV.int .i64 0), Cl.d (DV.int .u16 0), Cl.d (DV.int .i64 0), Cl.d (DV.int .i64 0), Cl.d (DV.bool false), Cl.d (DV.bool false)]); let zz4 := [zz0, (6, AV.one (Cl.ptr 6 0)), (12, AV.one (Cl.ptr 12 0)), (13, AV.one (Cl.ptr 13 0))]; (Ann.seq Ann.leaf (Ann.seq Ann.leaf (Ann.cut ⟨Oq, fun q1 : Oq => q1 = ⟨(gOp r push imgs c free most).kind, (gOp r push imgs c free most).image, (gOp r push imgs c free most).x, (gOp r push imgs c free most).y, 0, 0, 0, most, 4, 1, (gOp r push imgs c free most).iso, (gOp r push imgs c free most).kno⟩, fun q1 : Oq => ⟨[(2, AV.one (Cl.d (DV.int .i64 imgs))), zz0, zz1, (6, AV.one (Cl.ptr 6 0)), (9, AV.one (Cl.ptr 9 0)), (12, AV.one (Cl.ptr 12 0)), (13, AV.one (Cl.ptr 13 0))], [zz2, (9, Bx.cells [Cl.d (DV.int .i64 c.a), Cl.d (DV.int .i64 c.b), Cl.d (DV.int .i64 c.c), Cl.d (DV.int .i64 c.d)]), zz3, (13, Bx.cells [Cl.d (DV.int .i64 q1.kind), Cl.d (DV.int .i64 q1.image), Cl.d (DV.int .i64 q1.x), Cl.d (DV.int .i64 q1.y), Cl.d (DV.int .i64 q1.mask), Cl.d (DV.int .i64 q1.mx), Cl.d (DV.int .i64 q1.my), Cl.d (DV.int .u16 q1.opac), Cl.d (DV.int .i64 q1.oper), Cl.d (DV.int .i64 q1.mode), Cl.d (DV.bool q1.iso), Cl.d (DV.bool q1.kno)])]⟩, fun q1 : Oq => 0⟩ Ann.leaf fun q1 => (Ann.cut ⟨Oq, fun q2 : Oq => q2 = ⟨(gOp r push imgs c free most).kind, (gOp r push imgs c free most).image, (gOp r push imgs c free most).x, (gOp r push imgs c free most).y, (gOp r push imgs c free most).mask, (gOp r push imgs c free most).mx, (gOp r push imgs c free most).my, most, 4, 1, (gOp r push imgs c free most).iso, (gOp r push imgs c free most).kno⟩, fun q2 : Oq => ⟨[zz0, zz1, (6, AV.one (Cl.ptr 6 0)), (12, AV.one (Cl.ptr 12 0)), (13, AV.one (Cl.ptr 13 0))], [zz2, zz3, (13, Bx.cells [Cl.d (DV.int .i64 q2.kind), Cl.d (DV.int .i64 q2.image), Cl.d (DV.int .i64 q2.x), Cl.d (DV.int .i64 q2.y), Cl.d (DV.int .i64 q2.mask), Cl.d (DV.int .i64 q2.mx), Cl.d (DV.int .i64 q2.my), Cl.d (DV.int .u16 q2.opac), Cl.d (DV.int .i64 q2.oper), Cl.d (DV.int .i64 q2.mode), Cl.d (DV.bool q2.iso), Cl.d (DV.bool q2.kno)])]⟩, fun q2 : Oq => 0⟩ Ann.leaf fun q2 => (Ann.cut ⟨Oq, fun q3 : Oq => q3 = ⟨(gOp r push imgs c free most).kind, (gOp r push imgs c free most).image, (gOp r push imgs c free most).x, (gOp r push imgs c free most).y, (gOp r push imgs c free most).mask, (gOp r push imgs c free most).mx, (gOp r push imgs c free most).my, (gOp r push imgs c free most).opac, 4, 1, (gOp r push imgs c free most).iso, (gOp r push imgs c free most).kno⟩, fun q3 : Oq => ⟨zz4, [zz2, zz3, (13, Bx.cells [Cl.d (DV.int .i64 q3.kind), Cl.d (DV.int .i64 q3.image), Cl.d (DV.int .i64 q3.x), Cl.d (DV.int .i64 q3.y), Cl.d (DV.int .i64 q3.mask), Cl.d (DV.int .i64 q3.mx), Cl.d (DV.int .i64 q3.my), Cl.d (DV.int .u16 q3.opac), Cl.d (DV.int .i64 q3.oper), Cl.d (DV.int .i64 q3.mode), Cl.d (DV.bool q3.iso), Cl.d (DV.bool q3.kno)])]⟩, fun q3 : Oq => 0⟩ Ann.leaf fun q3 => (Ann.cut ⟨Oq, fun q4 : Oq => q4 = ⟨(gOp r push imgs c free most).kind, (gOp r push imgs c free most).image, (gOp r push imgs c free most).x, (gOp r push imgs c free most).y, (gOp r push imgs c free most).mask, (gOp r push imgs c free most).mx, (gOp r push imgs c free most).my, (gOp r push imgs c free most).opac, 4, (gOp r push imgs c free most).mode, (gOp r push imgs c free most).iso, (gOp r push imgs c free most).kno⟩, fun q4 : Oq => ⟨zz4, [zz2, zz3, (13, Bx.cells [Cl.d (DV.int .i64 q4.kind), Cl.d (DV.int .i64 q4.image), Cl.d (DV.int .i64 q4.x), Cl.d (DV.int .i64 q4.y), Cl.d (DV.int .i64 q4.mask), Cl.d (DV.int .i64 q4.mx), Cl.d (DV.int .i64 q4.my), Cl.d (DV.int .u16 q4.opac), Cl.d (DV.int .i64 q4.oper), Cl.d (DV.int .i64 q4.mode), Cl.d (DV.bool q4.iso), Cl.d (DV.bool q4.kno)])]⟩, fun q4 : Oq => 0⟩ Ann.leaf fun q4 => Ann.leaf))))))
theorem G_Op_vc (r : Rw) (push : Bool) (imgs : Int) (c : Rc) (free : Bool) (most : Int) : vcg Try.prog gamSa 103 (bodyOf Try.f28) (G_Op_ann r push imgs c free most) kn0 (start [RV.agg [DV.int .i64 r.k, DV.int .i64 r.im, DV.int .i64 r.x, DV.int .i64 r.y, DV.int .i64 r.ma, DV.int .i64 r.mx, DV.int .i64 r.my, DV.int .i64 r.op, DV.int .i64 r.ope, DV.int .i64 r.mo, DV.int .i64 r.fl], RV.d (DV.bool push), RV.d (DV.int .i64 imgs), RV.agg [DV.int .i64 c.a, DV.int .i64 c.b, DV.int .i64 c.c, DV.int .i64 c.d], RV.d (DV.bool free), RV.d (DV.int .u16 most)]) (post Try.prog Try.f28.results.toList (· = RV.agg [DV.int .i64 ((gOp r push imgs c free most).kind), DV.int .i64 ((gOp r push imgs c free most).image), DV.int .i64 ((gOp r push imgs c free most).x), DV.int .i64 ((gOp r push imgs c free most).y), DV.int .i64 ((gOp r push imgs c free most).mask), DV.int .i64 ((gOp r push imgs c free most).mx), DV.int .i64 ((gOp r push imgs c free most).my), DV.int .u16 ((gOp r push imgs c free most).opac), DV.int .i64 ((gOp r push imgs c free most).oper), DV.int .i64 ((gOp r push imgs c free most).mode), DV.bool ((gOp r push imgs c free most).iso), DV.bool ((gOp r push imgs c free most).kno)])) =
  (let zz0 := (IntKind.wrap .i64 (Int.tdiv r.fl (2 : Int))); let zz1 := fun (q1 : Oq) => (q1 = ⟨(gOp r push imgs c free most).kind, (gOp r push imgs c free most).image, (gOp r push imgs c free most).x, (gOp r push imgs c free most).y, 0, 0, 0, most, 4, 1, (gOp r push imgs c free most).iso, (gOp r push imgs c free most).kno⟩); let zz2 := (DV.bool free = DV.bool free); let zz3 := (DV.int .u16 most = DV.int .u16 most); let zz4 := ((DV.int .i64 imgs = DV.int .i64 imgs) ∧ zz2 ∧ zz3 ∧ (0 = 0) ∧ (0 = 0) ∧ (0 = 0) ∧ (0 = 0) ∧ True); let zz5 := [DV.int .i64 r.k, DV.int .i64 r.im, DV.int .i64 r.x, DV.int .i64 r.y, DV.int .i64 r.ma, DV.int .i64 r.mx, DV.int .i64 r.my, DV.int .i64 r.op, DV.int .i64 r.ope, DV.int .i64 r.mo, DV.int .i64 r.fl]; let zz6 := (zz5 = zz5); let zz7 := [DV.int .i64 c.a, DV.int .i64 c.b, DV.int .i64 c.c, DV.int .i64 c.d]; let zz8 := (zz7 = zz7); let zz9 := [DV.int .i64 0, DV.int .i64 0, DV.int .i64 0, DV.int .i64 0, DV.int .i64 0, DV.int .i64 0, DV.int .i64 0, DV.int .u16 0, DV.int .i64 0, DV.int .i64 0, DV.bool false, DV.bool false]; let zz10 := (zz9 = zz9); let zz11 := fun (q1 : Oq) => [DV.int .i64 q1.kind, DV.int .i64 q1.image, DV.int .i64 q1.x, DV.int .i64 q1.y, DV.int .i64 q1.mask, DV.int .i64 q1.mx, DV.int .i64 q1.my, DV.int .u16 q1.opac, DV.int .i64 q1.oper, DV.int .i64 q1.mode, DV.bool q1.iso, DV.bool q1.kno]; let zz12 := (IntKind.wrap .i64 (Int.tdiv r.ma (4 : Int))); let zz13 := fun (q2 : Oq) => (q2 = ⟨(gOp r push imgs c free most).kind, (gOp r push imgs c free most).image, (gOp r push imgs c free most).x, (gOp r push imgs c free most).y, (gOp r push imgs c free most).mask, (gOp r push imgs c free most).mx, (gOp r push imgs c free most).my, most, 4, 1, (gOp r push imgs c free most).iso, (gOp r push imgs c free most).kno⟩); let zz14 := (zz2 ∧ zz3 ∧ (0 = 0) ∧ (0 = 0) ∧ (0 = 0) ∧ True); let zz15 := fun (q2 : Oq) => [DV.int .i64 q2.kind, DV.int .i64 q2.image, DV.int .i64 q2.x, DV.int .i64 q2.y, DV.int .i64 q2.mask, DV.int .i64 q2.mx, DV.int .i64 q2.my, DV.int .u16 q2.opac, DV.int .i64 q2.oper, DV.int .i64 q2.mode, DV.bool q2.iso, DV.bool q2.kno]; let zz16 := (IntKind.wrap .i64 (Int.tdiv r.op (2 : Int))); let zz17 := fun (q3 : Oq) => (q3 = ⟨(gOp r push imgs c free most).kind, (gOp r push imgs c free most).image, (gOp r push imgs c free most).x, (gOp r push imgs c free most).y, (gOp r push imgs c free most).mask, (gOp r push imgs c free most).mx, (gOp r push imgs c free most).my, (gOp r push imgs c free most).opac, 4, 1, (gOp r push imgs c free most).iso, (gOp r push imgs c free most).kno⟩); let zz18 := (zz2 ∧ (0 = 0) ∧ (0 = 0) ∧ (0 = 0) ∧ True); let zz19 := fun (q3 : Oq) => [DV.int .i64 q3.kind, DV.int .i64 q3.image, DV.int .i64 q3.x, DV.int .i64 q3.y, DV.int .i64 q3.mask, DV.int .i64 q3.mx, DV.int .i64 q3.my, DV.int .u16 q3.opac, DV.int .i64 q3.oper, DV.int .i64 q3.mode, DV.bool q3.iso, DV.bool q3.kno]; let zz20 := (IntKind.wrap .i64 (Int.tdiv r.mo (2 : Int))); let zz21 := fun (q4 : Oq) => (q4 = ⟨(gOp r push imgs c free most).kind, (gOp r push imgs c free most).image, (gOp r push imgs c free most).x, (gOp r push imgs c free most).y, (gOp r push imgs c free most).mask, (gOp r push imgs c free most).mx, (gOp r push imgs c free most).my, (gOp r push imgs c free most).opac, 4, (gOp r push imgs c free most).mode, (gOp r push imgs c free most).iso, (gOp r push imgs c free most).kno⟩); let zz22 := fun (q4 : Oq) => [DV.int .i64 q4.kind, DV.int .i64 q4.image, DV.int .i64 q4.x, DV.int .i64 q4.y, DV.int .i64 q4.mask, DV.int .i64 q4.mx, DV.int .i64 q4.my, DV.int .u16 q4.opac, DV.int .i64 q4.oper, DV.int .i64 q4.mode, DV.bool q4.iso, DV.bool q4.kno]; let zz23 := (IntKind.wrap .i64 (Int.tdiv r.ope (2 : Int))); let zz24 := [DV.int .i64 ((gOp r push imgs c free most).kind), DV.int .i64 ((gOp r push imgs c free most).image), DV.int .i64 ((gOp r push imgs c free most).x), DV.int .i64 ((gOp r push imgs c free most).y), DV.int .i64 ((gOp r push imgs c free most).mask), DV.int .i64 ((gOp r push imgs c free most).mx), DV.int .i64 ((gOp r push imgs c free most).my), DV.int .u16 ((gOp r push imgs c free most).opac), DV.int .i64 ((gOp r push imgs c free most).oper), DV.int .i64 ((gOp r push imgs c free most).mode), DV.bool ((gOp r push imgs c free most).iso), DV.bool ((gOp r push imgs c free most).kno)]; True ∧ True ∧ True ∧ True ∧ True ∧ True ∧ True ∧ (True ∧ ((push = true → True ∧ True ∧ True ∧ True ∧ (Ans Try.prog 16 [RV.d (DV.int .i64 r.fl), RV.d (DV.int .i64 2)] (RV.d (DV.int .i64 (modS r.fl (2 : Int))))) ∧ True ∧ True ∧ True ∧ ((2 : Int) ≠ 0) ∧ (Ans Try.prog 16 [RV.d (DV.int .i64 zz0), RV.d (DV.int .i64 3)] (RV.d (DV.int .i64 (modS zz0 (3 : Int))))) ∧ True ∧ True ∧ True ∧ True ∧ True ∧ (true = true) ∧ ∃ q1 : Oq, (zz1 q1) ∧ (zz4 ∧ (zz6 ∧ zz8 ∧ zz10 ∧ ([DV.int .i64 2, DV.int .i64 0, DV.int .i64 0, DV.int .i64 0, DV.int .i64 0, DV.int .i64 0, DV.int .i64 0, DV.int .u16 most, DV.int .i64 4, DV.int .i64 1, DV.bool ((modS r.fl (2 : Int)) == (0 : Int)), DV.bool ((modS zz0 (3 : Int)) == (0 : Int))] = (zz11 q1)) ∧ True))) ∧ (push = false → True ∧ True ∧ True ∧ (Ans Try.prog 16 [RV.d (DV.int .i64 r.im), RV.d (DV.int .i64 imgs)] (RV.d (DV.int .i64 (modS r.im imgs)))) ∧ True ∧ True ∧ True ∧ True ∧ True ∧ True ∧ (Ans Try.prog 62 [RV.d (DV.int .i64 r.x), RV.d (DV.int .i64 c.a)] (RV.d (DV.int .i64 (gOff r.x c.a)))) ∧ True ∧ True ∧ True ∧ True ∧ (Ans Try.prog 62 [RV.d (DV.int .i64 r.y), RV.d (DV.int .i64 c.b)] (RV.d (DV.int .i64 (gOff r.y c.b)))) ∧ True ∧ True ∧ True ∧ True ∧ (true = true) ∧ ∃ q1 : Oq, (zz1 q1) ∧ (zz4 ∧ (zz6 ∧ zz8 ∧ zz10 ∧ ([DV.int .i64 1, DV.int .i64 (modS r.im imgs), DV.int .i64 (gOff r.x c.a), DV.int .i64 (gOff r.y c.b), DV.int .i64 0, DV.int .i64 0, DV.int .i64 0, DV.int .u16 most, DV.int .i64 4, DV.int .i64 1, DV.bool false, DV.bool false] = (zz11 q1)) ∧ True))))) ∧ ∀ q1 : Oq, (zz1 q1) → (True ∧ True ∧ (Ans Try.prog 16 [RV.d (DV.int .i64 r.ma), RV.d (DV.int .i64 4)] (RV.d (DV.int .i64 (modS r.ma (4 : Int))))) ∧ True ∧ ((((modS r.ma (4 : Int)) == (0 : Int)) = true → True ∧ True ∧ ((4 : Int) ≠ 0) ∧ True ∧ (Ans Try.prog 16 [RV.d (DV.int .i64 zz12), RV.d (DV.int .i64 imgs)] (RV.d (DV.int .i64 (modS zz12 imgs)))) ∧ True ∧ True ∧ True ∧ True ∧ True ∧ True ∧ True ∧ (Ans Try.prog 62 [RV.d (DV.int .i64 r.mx), RV.d (DV.int .i64 c.a)] (RV.d (DV.int .i64 (gOff r.mx c.a)))) ∧ True ∧ True ∧ True ∧ True ∧ (Ans Try.prog 62 [RV.d (DV.int .i64 r.my), RV.d (DV.int .i64 c.b)] (RV.d (DV.int .i64 (gOff r.my c.b)))) ∧ True ∧ True ∧ True ∧ True ∧ (true = true) ∧ ∃ q2 : Oq, (zz13 q2) ∧ (zz14 ∧ (zz6 ∧ zz10 ∧ ([DV.int .i64 q1.kind, DV.int .i64 q1.image, DV.int .i64 q1.x, DV.int .i64 q1.y, DV.int .i64 (IntKind.wrap .i64 ((1 : Int) + (modS zz12 imgs))), DV.int .i64 (gOff r.mx c.a), DV.int .i64 (gOff r.my c.b), DV.int .u16 q1.opac, DV.int .i64 q1.oper, DV.int .i64 q1.mode, DV.bool q1.iso, DV.bool q1.kno] = (zz15 q2)) ∧ True))) ∧ (((modS r.ma (4 : Int)) == (0 : Int)) = false → ∃ q2 : Oq, (zz13 q2) ∧ (zz14 ∧ (zz6 ∧ zz10 ∧ ((zz11 q1) = (zz15 q2)) ∧ True))))) ∧ ∀ q2 : Oq, (zz13 q2) → (True ∧ True ∧ (Ans Try.prog 16 [RV.d (DV.int .i64 r.op), RV.d (DV.int .i64 2)] (RV.d (DV.int .i64 (modS r.op (2 : Int))))) ∧ True ∧ ((((modS r.op (2 : Int)) == (0 : Int)) = true → True ∧ True ∧ ((2 : Int) ≠ 0) ∧ True ∧ (Ans Try.prog 63 [RV.d (DV.int .i64 zz16), RV.d (DV.int .u16 most)] (RV.d (DV.int .u16 (gSample zz16 most)))) ∧ True ∧ True ∧ ∃ q3 : Oq, (zz17 q3) ∧ (zz18 ∧ (zz6 ∧ zz10 ∧ ([DV.int .i64 q2.kind, DV.int .i64 q2.image, DV.int .i64 q2.x, DV.int .i64 q2.y, DV.int .i64 q2.mask, DV.int .i64 q2.mx, DV.int .i64 q2.my, DV.int .u16 (gSample zz16 most), DV.int .i64 q2.oper, DV.int .i64 q2.mode, DV.bool q2.iso, DV.bool q2.kno] = (zz19 q3)) ∧ True))) ∧ (((modS r.op (2 : Int)) == (0 : Int)) = false → ∃ q3 : Oq, (zz17 q3) ∧ (zz18 ∧ (zz6 ∧ zz10 ∧ ((zz15 q2) = (zz19 q3)) ∧ True))))) ∧ ∀ q3 : Oq, (zz17 q3) → (True ∧ True ∧ (Ans Try.prog 16 [RV.d (DV.int .i64 r.mo), RV.d (DV.int .i64 2)] (RV.d (DV.int .i64 (modS r.mo (2 : Int))))) ∧ True ∧ ((((modS r.mo (2 : Int)) == (0 : Int)) = true → True ∧ True ∧ ((2 : Int) ≠ 0) ∧ (Ans Try.prog 16 [RV.d (DV.int .i64 zz20), RV.d (DV.int .i64 12)] (RV.d (DV.int .i64 (modS zz20 (12 : Int))))) ∧ True ∧ True ∧ True ∧ ∃ q4 : Oq, (zz21 q4) ∧ (zz18 ∧ (zz6 ∧ zz10 ∧ ([DV.int .i64 q3.kind, DV.int .i64 q3.image, DV.int .i64 q3.x, DV.int .i64 q3.y, DV.int .i64 q3.mask, DV.int .i64 q3.mx, DV.int .i64 q3.my, DV.int .u16 q3.opac, DV.int .i64 q3.oper, DV.int .i64 (IntKind.wrap .i64 ((1 : Int) + (modS zz20 (12 : Int)))), DV.bool q3.iso, DV.bool q3.kno] = (zz22 q4)) ∧ True))) ∧ (((modS r.mo (2 : Int)) == (0 : Int)) = false → ∃ q4 : Oq, (zz21 q4) ∧ (zz18 ∧ (zz6 ∧ zz10 ∧ ((zz19 q3) = (zz22 q4)) ∧ True))))) ∧ ∀ q4 : Oq, (zz21 q4) → True ∧ True ∧ ((free = true → True ∧ True ∧ (Ans Try.prog 16 [RV.d (DV.int .i64 r.ope), RV.d (DV.int .i64 2)] (RV.d (DV.int .i64 (modS r.ope (2 : Int))))) ∧ True ∧ True ∧ ((((modS r.ope (2 : Int)) == (0 : Int)) = true → True ∧ True ∧ ((2 : Int) ≠ 0) ∧ (Ans Try.prog 16 [RV.d (DV.int .i64 zz23), RV.d (DV.int .i64 12)] (RV.d (DV.int .i64 (modS zz23 (12 : Int))))) ∧ True ∧ True ∧ True ∧ True ∧ True ∧ RV.agg [DV.int .i64 q4.kind, DV.int .i64 q4.image, DV.int .i64 q4.x, DV.int .i64 q4.y, DV.int .i64 q4.mask, DV.int .i64 q4.mx, DV.int .i64 q4.my, DV.int .u16 q4.opac, DV.int .i64 (IntKind.wrap .i64 ((1 : Int) + (modS zz23 (12 : Int)))), DV.int .i64 q4.mode, DV.bool q4.iso, DV.bool q4.kno] = RV.agg zz24) ∧ (((modS r.ope (2 : Int)) == (0 : Int)) = false → True ∧ True ∧ RV.agg (zz22 q4) = RV.agg zz24))) ∧ (free = (!true) → True ∧ True ∧ True ∧ RV.agg (zz22 q4) = RV.agg zz24))) := by kernel_rfl
theorem G_Op_ans (r : Rw) (push : Bool) (imgs : Int) (c : Rc) (free : Bool) (most : Int) (hc : (-100 ≤ c.a ∧ c.a ≤ 100) ∧ -100 ≤ c.b ∧ c.b ≤ 100) (hi : 1 ≤ imgs ∧ imgs ≤ 100) : Ans Try.prog 28 [RV.agg [DV.int .i64 r.k, DV.int .i64 r.im, DV.int .i64 r.x, DV.int .i64 r.y, DV.int .i64 r.ma, DV.int .i64 r.mx, DV.int .i64 r.my, DV.int .i64 r.op, DV.int .i64 r.ope, DV.int .i64 r.mo, DV.int .i64 r.fl], RV.d (DV.bool push), RV.d (DV.int .i64 imgs), RV.agg [DV.int .i64 c.a, DV.int .i64 c.b, DV.int .i64 c.c, DV.int .i64 c.d], RV.d (DV.bool free), RV.d (DV.int .u16 most)] (RV.agg [DV.int .i64 ((gOp r push imgs c free most).kind), DV.int .i64 ((gOp r push imgs c free most).image), DV.int .i64 ((gOp r push imgs c free most).x), DV.int .i64 ((gOp r push imgs c free most).y), DV.int .i64 ((gOp r push imgs c free most).mask), DV.int .i64 ((gOp r push imgs c free most).mx), DV.int .i64 ((gOp r push imgs c free most).my), DV.int .u16 ((gOp r push imgs c free most).opac), DV.int .i64 ((gOp r push imgs c free most).oper), DV.int .i64 ((gOp r push imgs c free most).mode), DV.bool ((gOp r push imgs c free most).iso), DV.bool ((gOp r push imgs c free most).kno)]) :=
  ans_of_vcg (Γ := gamSa) (G_Op_ann r push imgs c free most) mixed_ Try.func28 rfl (Nat.le_of_ble_eq_true rfl) fun hwf => by
    refine Eq.mpr (G_Op_vc r push imgs c free most) ?_
    simp only [true_and, and_true, RV.d.injEq, RV.agg.injEq, RV.tup.injEq, DV.bool.injEq, DV.int.injEq, DV.sl.injEq, List.cons.injEq, forall_const, Bool.not_false, Bool.not_true, Bool.not_eq_true', Bool.not_eq_false', decide_eq_true_eq, decide_eq_false_iff_not, Int.toNat_natCast, G_Mod_ans, G_Sample_ans]
    have oa := fun n => G_offset_ans n c.a hc.1
    have ob := fun n => G_offset_ans n c.b hc.2
    have b4 := @modS_in (IntKind.wrap .i64 (Int.tdiv r.ma 4)) imgs (by omega) (by omega)
    have b12 := fun v => @modS_in v 12 (by omega) (by omega)
    have w4 : IntKind.wrap .i64 (1 + modS (IntKind.wrap .i64 (Int.tdiv r.ma 4)) imgs) = 1 + modS (IntKind.wrap .i64 (Int.tdiv r.ma 4)) imgs := IntWalk.i64_in _ ⟨by omega, by omega⟩
    have w12 : ∀ v, IntKind.wrap .i64 (1 + modS v 12) = 1 + modS v 12 := fun v => by have := b12 v; exact IntWalk.i64_in _ ⟨by omega, by omega⟩
    simp only [oa, ob, w4, w12, true_and]
    simp only [exists_eq_left, forall_eq, gOp, beq_iff_eq, beq_eq_false_iff_ne]
    (repeat' (first | apply And.intro | intro _)) <;> (first | decide | (simp_all; done) | (simp_all; rfl))

end Go.Proofs.Ytkfgmaecbclgfaa

