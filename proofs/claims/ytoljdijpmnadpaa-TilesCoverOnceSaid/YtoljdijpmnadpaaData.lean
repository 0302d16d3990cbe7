/-
  How an argument lies in memory, said of its cells by its type: what reading it as data tells (no program is named).
-/
import Derived.WalkKit
import Derived.ProofKit
import Derived.SizedLaws
import Derived.OpenShut
namespace Go.Proofs.Ytoljdijpmnadpaa
open Go.RowKit Go.ChangeShapes Go.WideShapes
set_option linter.unusedVariables false
set_option linter.unusedSimpArgs false

def Rd (P : Program) (w : World) : Nat → TypeId → List Value → Prop
  | 0, _, _ => False
  | fuel + 1, t, cs =>
    match P.underlying t with
    | some .bool => ∃ b, cs = [.bool b]
    | some (.int k) => ∃ n, cs = [.int k n] ∧ (Lit.int k n).wf = true
    | some .string => ∃ s, cs = [.string s] ∧ s.size ≤ reachBytes
    | some (.slice e) => cs = [.slice none 0 0] ∨ ∃ a len cap, cs = [.slice (some a) len cap] ∧ len ≤ cap ∧ cap ≤ maxLen ∧ cap * P.bytesOf e ≤ reachBytes ∧
        ∀ i, i < cap → ∃ cs', w.cells? 0 (a.add (i * P.cellsOf e)) (P.cellsOf e) = some cs' ∧ Rd P w fuel e cs'
    | some (.struct fs) => cs.length = P.cellsOf t ∧ ∀ f ∈ fs.toList, Rd P w fuel f.type ((cs.drop f.offset).take (P.cellsOf f.type))
    | some (.array n e) => cs.length = P.cellsOf t ∧ ∀ i, i < n → Rd P w fuel e ((cs.drop (i * P.cellsOf e)).take (P.cellsOf e))
    | _ => True

section
variable {H : Type} {enc : TypeId × Value → H} {P : Program} {w : World}

theorem weightsAll_of {e : TypeId} {n : Nat} : ∀ {l : List (DataW H)} {d : DataW H}, d ∈ l → n ∈ d.weights P e → n ∈ DataW.weightsAll P e l
  | x :: r, d, hd, hn => by
    simp only [DataW.weightsAll, List.mem_append]
    rcases List.mem_cons.1 hd with rfl | h
    · exact .inl hn
    · exact .inr (weightsAll_of h hn)
theorem weightsEach_of {n : Nat} : ∀ {ts : List TypeId} {ds : List (DataW H)} {i : Nat} {t : TypeId} {d : DataW H}, ts[i]? = some t → ds[i]? = some d → n ∈ d.weights P t → n ∈ DataW.weightsEach P ts ds
  | t :: ts, d :: ds, 0, _, _, ht, hd, hn => by
    simp at ht hd; subst ht hd
    simp only [DataW.weightsEach, List.mem_append]
    exact .inl hn
  | t :: ts, d :: ds, i + 1, _, _, ht, hd, hn => by
    simp only [DataW.weightsEach, List.mem_append]
    exact .inr (weightsEach_of (by simpa using ht) (by simpa using hd) hn)
  | [], _, _, _, _, ht, _, _ => by simp at ht
  | _ :: _, [], _, _, _, _, hd, _ => by simp at hd

theorem rd_of_trod : ∀ (fuel : Nat) (t : TypeId) (cs : List Value) (d : DataW H) (ps : List MemPlace),
    DataW.trod enc P w 0 (fun _ => true) true fuel t cs = some (d, ps) → (∀ n ∈ d.weights P t, n ≤ reachBytes) → Rd P w fuel t cs := by
  intro fuel
  induction fuel with
  | zero => intro t cs d ps h; simp [DataW.trod] at h
  | succ fuel ih =>
    intro t cs d ps h hw
    unfold DataW.trod at h
    unfold Rd
    split at h
    · rename_i b hu; simp only [hu]; exact ⟨_, rfl⟩
    · rename_i k k' n hu
      simp only [hu]
      split at h
      · rename_i hk; obtain ⟨rfl, hwf⟩ := hk; exact ⟨_, rfl, hwf⟩
      · cases h
    · rename_i hu; simp only [hu]
    · rename_i s hu
      simp only [hu]
      split at h
      · simp only [Option.some.injEq, Prod.mk.injEq] at h
        obtain ⟨rfl, _⟩ := h
        exact ⟨_, rfl, by have := hw s.data.toList.length (List.mem_singleton.2 rfl); rw [Array.length_toList] at this; exact this⟩
      · cases h
    · rename_i hu; simp only [hu]
    · rename_i hu; simp only [hu]
    · rename_i hu; simp only [hu]; exact .inl trivial
    · rename_i e a len cap hu
      simp only [hu]
      split at h
      · rename_i hc
        obtain ⟨_, hl, hm⟩ := hc
        simp only [if_true] at h
        obtain ⟨elems, he, h⟩ := Option.bind_eq_some_iff.1 h
        obtain ⟨rest, hr, h⟩ := Option.map_eq_some_iff.1 h
        simp only [Prod.mk.injEq] at h
        obtain ⟨rfl, _⟩ := h
        have le := mapM_some_length he
        have lr := mapM_some_length hr
        simp only [List.length_range] at le lr
        have hwt : DataW.weights P t (.slice (elems.map (·.1)) (rest.map (·.1))) = ((elems.map (·.1)).length + (rest.map (·.1)).length) * P.bytesOf e :: (DataW.weightsAll P e (elems.map (·.1)) ++ DataW.weightsAll P e (rest.map (·.1))) := by
          simp only [DataW.weights, hu]
        rw [hwt] at hw
        refine .inr ⟨a, len, cap, rfl, hl, hm, ?_, ?_⟩
        · have := hw _ (.head _)
          simp only [List.length_map, le, lr] at this
          rwa [show len + (cap - len) = cap from by omega] at this
        · have key : ∀ (i : Nat) (x : DataW H × List MemPlace), ((w.cells? 0 (a.add (i * P.cellsOf e)) (P.cellsOf e)).bind (DataW.trod enc P w 0 (fun _ => true) true fuel e)) = some x → (∀ n ∈ x.1.weights P e, n ≤ reachBytes) →
              ∃ cs', w.cells? 0 (a.add (i * P.cellsOf e)) (P.cellsOf e) = some cs' ∧ Rd P w fuel e cs' := by
            intro i x hx hxw
            obtain ⟨cs', h1, h2⟩ := Option.bind_eq_some_iff.1 hx
            exact ⟨cs', h1, ih e cs' x.1 x.2 h2 hxw⟩
          intro i hi
          rcases Nat.lt_or_ge i len with hlt | hge
          · have hx : elems[i]? = some (elems[i]'(by omega)) := List.getElem?_eq_getElem (by omega)
            have h1 := mapM_some_get he i i (by simp [hlt])
            rw [hx] at h1
            refine key i _ h1 fun n hn => hw n (.tail _ (List.mem_append.2 (.inl (weightsAll_of (List.mem_map.2 ⟨_, List.getElem_mem (by omega), rfl⟩) hn))))
          · have hx : rest[i - len]? = some (rest[i - len]'(by omega)) := List.getElem?_eq_getElem (by omega)
            have h1 := mapM_some_get hr (i - len) (i - len) (List.getElem?_range (by omega))
            rw [hx, show len + (i - len) = i from by omega] at h1
            refine key i _ h1 fun n hn => hw n (.tail _ (List.mem_append.2 (.inr (weightsAll_of (List.mem_map.2 ⟨_, List.getElem_mem (by omega), rfl⟩) hn))))
      · cases h
    · rename_i fs hu
      simp only [hu]
      split at h
      · rename_i hlen
        obtain ⟨xs, hxs, h⟩ := Option.map_eq_some_iff.1 h
        simp only [Prod.mk.injEq] at h
        obtain ⟨rfl, _⟩ := h
        refine ⟨hlen, fun f hf => ?_⟩
        obtain ⟨i, hi, rfl⟩ := List.getElem_of_mem hf
        have hl := mapM_some_length hxs
        have hx : xs[i]? = some (xs[i]'(by omega)) := List.getElem?_eq_getElem (by omega)
        have h1 := mapM_some_get hxs i _ (List.getElem?_eq_getElem hi)
        rw [hx] at h1
        refine ih _ _ _ _ h1 fun n hn => hw n ?_
        simp only [DataW.weights, hu]
        exact weightsEach_of (i := i) (by rw [List.getElem?_map, List.getElem?_eq_getElem hi]; rfl) (by rw [List.getElem?_map, hx]; rfl) hn
      · cases h
    · rename_i n e hu
      simp only [hu]
      split at h
      · rename_i hlen
        obtain ⟨xs, hxs, h⟩ := Option.map_eq_some_iff.1 h
        simp only [Prod.mk.injEq] at h
        obtain ⟨rfl, _⟩ := h
        refine ⟨hlen, fun i hi => ?_⟩
        have hl := mapM_some_length hxs
        simp only [List.length_range] at hl
        have hx : xs[i]? = some (xs[i]'(by omega)) := List.getElem?_eq_getElem (by omega)
        have h1 := mapM_some_get hxs i i (by simp [hi])
        rw [hx] at h1
        refine ih _ _ _ _ h1 fun n hn => hw n ?_
        simp only [DataW.weights, hu]
        exact weightsAll_of (List.mem_map.2 ⟨_, List.getElem_mem (by omega), rfl⟩) hn
      · cases h
    all_goals first | (cases h; done) | (rename_i hu; simp only [hu])
end

/-! ### what a law's walk is told of its arguments -/
def Arg (P : Program) (w : World) (t : TypeId) (v : Value) : Prop :=
  (∃ fuel, Rd P w fuel t v.cells.toList) ∧
    match P.underlying t with
    | some (.struct _) | some (.array _ _) => ∃ cs, v = .agg cs
    | _ => v.cells = #[v]

def Args (P : Program) (w : World) : List TypeId → List Value → Prop
  | [], [] => True
  | t :: ts, v :: vs => Arg P w t v ∧ Args P w ts vs
  | _, _ => False

theorem cells_of_okWide {P : Program} {w : World} {r : Reach} {base : Nat} {t : TypeId} {v : Value} (h : Value.okWide P w r base t v) :
    match P.underlying t with
    | some (.struct _) | some (.array _ _) => ∃ cs, v = .agg cs
    | _ => v.cells = #[v] := by
  unfold Value.okWide at h
  split
  · rename_i hu
    simp only [hu] at h
    obtain ⟨cs, rfl, _⟩ := h
    exact ⟨_, rfl⟩
  · rename_i hu
    simp only [hu] at h
    obtain ⟨cs, rfl, _⟩ := h
    exact ⟨_, rfl⟩
  · rename_i h1 h2
    have h' : Cell.okWide P w r base t v := by
      split at h
      · rename_i hu; exact absurd hu (by intro e; exact h1 _ e)
      · rename_i hu; exact absurd hu (by intro e; exact h2 _ _ e)
      · exact h
    cases v with
    | agg cs =>
      exfalso
      unfold Cell.okWide at h'
      split at h' <;> first | (rename_i hv; cases hv; done) | skip
      unfold Cell.ok at h'
      split at h' <;> first | (rename_i hv; cases hv; done) | exact h'
    | _ => rfl

section
variable {H : Type} {enc : TypeId × Value → H}
theorem args_of_trodAll {P : Program} {w : World} : ∀ {ts : List TypeId} {vs : List Value} {ds : List (DataW H)} {ps : List MemPlace}, DataW.TrodAll enc P w 0 (fun _ => true) true ts vs ds ps →
    (∀ n ∈ DataW.weightsEach P ts ds, n ≤ reachBytes) →
    (∀ (j : Nat) t v, ts[j]? = some t → vs[j]? = some v → match P.underlying t with | some (.struct _) | some (.array _ _) => ∃ cs, v = .agg cs | _ => v.cells = #[v]) → Args P w ts vs ∧ ds.length = ts.length
  | [], [], [], _, _, _, _ => ⟨trivial, rfl⟩
  | t :: ts, v :: vs, d :: ds, _, h, hw, hv => by
    obtain ⟨p, q, ⟨fuel, hf⟩, hr, _⟩ := h
    have hrest := args_of_trodAll hr (fun n hn => hw n (by simp only [DataW.weightsEach, List.mem_append]; exact .inr hn)) (fun j t v ht hv' => hv (j + 1) t v (by simpa using ht) (by simpa using hv'))
    exact ⟨⟨⟨⟨fuel, rd_of_trod fuel t _ d p hf (fun n hn => hw n (by simp only [DataW.weightsEach, List.mem_append]; exact .inl hn))⟩, hv 0 t v rfl rfl⟩, hrest.1⟩, by simp [hrest.2]⟩
  | [], [], _ :: _, _, h, _, _ => h.elim
  | [], _ :: _, _, _, h, _, _ => h.elim
  | _ :: _, [], _, _, h, _, _ => h.elim
  | _ :: _, _ :: _, [], _, h, _, _ => h.elim

theorem trodAll_below {P : Program} (laid : laidOutB P = true) {W W' : World} (hb : Below W.heap.size W W') : ∀ {ts : List TypeId} {vs : List Value} {ds : List (DataW H)} {ps : List MemPlace},
    (∀ t ∈ ts, P.readableRec t = true ∧ t < P.types.size) → DataW.TrodAll enc P W 0 (fun _ => true) true ts vs ds ps → DataW.TrodAll enc P W' 0 (fun b => decide (b < W.heap.size)) true ts vs ds ps
  | [], [], [], _, _, h => h
  | t :: ts, v :: vs, d :: ds, _, hr, h => by
    obtain ⟨p, q, hd, hrest, rfl⟩ := h
    have hlt : ∀ x ∈ p, x.block < W.heap.size := by obtain ⟨m, hm⟩ := hd; exact DataW.trod_lt m _ _ _ hm
    exact ⟨p, q, Below.trod laid (hr t (.head _)).1 (hr t (.head _)).2 hd hb hlt, trodAll_below laid hb (fun t' ht' => hr t' (.tail _ ht')) hrest, rfl⟩
  | [], [], _ :: _, _, _, h => h.elim
  | [], _ :: _, _, _, _, h => h.elim
  | _ :: _, [], _, _, _, h => h.elim
  | _ :: _, _ :: _, [], _, _, h => h.elim

/-- FROM A LAW's WALK TO ITS ROW: whatever the parameters are. -/
theorem law_lift {C : Checked} {os : Os} {f : FuncId} {fn : Func} {s : ChangeSpec} {tb : TypeId}
    (own : ownKnob C.prog.godebug = none) (started : os.Started) (noInit : C.prog.inits.idxOf? f = none) (hfn : C.prog.funcs[f]? = some fn)
    (witness : ∃ (w : World) (tape : Tape) (i : Input), w.os = os ∧ (w.forCall tape i).Shaped C.prog ∧ i.vars = [] ∧ Input.okWide C.prog (w.forCall tape i) .any w.heap.size f i ∧
      s.pre6 enc C.prog fn [] false (w.forCall tape i).memory i.args ∧ ({} : Assume).holds C.prog (lone (Frame.enter C.prog f i.args .normal) [] (w.forCall tape i)))
    (hspec : ∀ ds : List (DataW H), ds.length = fn.params.toList.length → s.fn H ds = { results := [.lit (.bool true)], args := ds }) (hvars : s.vars = [])
    (hres : fn.resultTypes = #[tb]) (hb : C.prog.underlying tb = some .bool) (laid : laidOutB C.prog = true)
    (hread : ∀ t ∈ fn.params.toList, C.prog.readableRec t = true ∧ t < C.prog.types.size)
    (walk : ∀ (W : World) (args : Array Value), Args C.prog W fn.params.toList args.toList → Calls C.prog f args W fun e W' => e = .returned (.bool true) ∧ Below W.heap.size W W') :
    ReturnsInHanded {} C os f .any (s.pre6 enc C.prog fn [] false) (s.post enc C.prog fn false true false false) := by
  refine returnsInHanded_of_change_sized own started noInit hfn witness ?_
  intro W base args ds gs before hval hW _ hsz _
  have hW' := hW
  obtain ⟨p, q, hA, hV, rfl, _, _⟩ := hW
  rw [hvars] at hV
  obtain ⟨rfl, rfl⟩ := trodVars_none hV
  have hvt : s.plain.varTypes C.prog = [] := by simp [ChangeSpec.plain, DataSpec.varTypes, hvars]
  rw [hvt, List.append_nil, List.append_nil] at hsz
  obtain ⟨ha, hlen⟩ := args_of_trodAll hA (fun n hn => by simpa using List.all_eq_true.1 hsz n hn) (fun j t v ht hv => cells_of_okWide (hval j t v (by simpa using ht) (by simpa using hv)))
  refine (walk W args ha).mono fun e W' ⟨he, bel⟩ => ?_
  subst he
  have hs := hspec ds hlen
  refine ⟨_, rfl, ds, [], p ++ [], [], p, [], hW', ?_, ?_, ?_, bel.frame _, fun h => by cases h⟩
  · rw [List.append_nil, hs, hres]
    exact trodAll_mk1 (shut_bool hb _)
  · rw [List.append_nil, hs]
    exact trodAll_below laid bel hread hA
  · rw [List.append_nil, hs, hvars]
    rfl
end

/-! ### opening by the type -/
section
variable {P : Program} {w : World} {fuel : Nat} {t : TypeId} {cs : List Value}
theorem Rd.int {k : IntKind} (hu : P.underlying t = some (.int k)) (h : Rd P w fuel t cs) : ∃ n, cs = [.int k n] ∧ (Lit.int k n).wf = true := by
  cases fuel with
  | zero => exact h.elim
  | succ fuel => unfold Rd at h; simp only [hu] at h; exact h
theorem Rd.bool (hu : P.underlying t = some .bool) (h : Rd P w fuel t cs) : ∃ b, cs = [.bool b] := by
  cases fuel with
  | zero => exact h.elim
  | succ fuel => unfold Rd at h; simp only [hu] at h; exact h
theorem Rd.str (hu : P.underlying t = some .string) (h : Rd P w fuel t cs) : ∃ s, cs = [.string s] ∧ s.size ≤ reachBytes := by
  cases fuel with
  | zero => exact h.elim
  | succ fuel => unfold Rd at h; simp only [hu] at h; exact h
theorem Rd.slice {e : TypeId} (hu : P.underlying t = some (.slice e)) (h : Rd P w fuel t cs) :
    cs = [.slice none 0 0] ∨ ∃ a len cap, cs = [.slice (some a) len cap] ∧ len ≤ cap ∧ cap ≤ maxLen ∧ cap * P.bytesOf e ≤ reachBytes ∧
        ∀ i, i < cap → ∃ cs', w.cells? 0 (a.add (i * P.cellsOf e)) (P.cellsOf e) = some cs' ∧ ∃ fuel, Rd P w fuel e cs' := by
  cases fuel with
  | zero => exact h.elim
  | succ fuel =>
    unfold Rd at h; simp only [hu] at h
    rcases h with h | ⟨a, len, cap, h1, h2, h3, h4, h5⟩
    · exact .inl h
    · exact .inr ⟨a, len, cap, h1, h2, h3, h4, fun i hi => let ⟨cs', a1, a2⟩ := h5 i hi; ⟨cs', a1, fuel, a2⟩⟩
theorem Rd.struct {fs : Array Field} (hu : P.underlying t = some (.struct fs)) (h : Rd P w fuel t cs) :
    cs.length = P.cellsOf t ∧ ∀ f ∈ fs.toList, ∃ fuel, Rd P w fuel f.type ((cs.drop f.offset).take (P.cellsOf f.type)) := by
  cases fuel with
  | zero => exact h.elim
  | succ fuel =>
    unfold Rd at h; simp only [hu] at h
    exact ⟨h.1, fun f hf => ⟨fuel, h.2 f hf⟩⟩
theorem Rd.array {e : TypeId} {n : Nat} (hu : P.underlying t = some (.array n e)) (h : Rd P w fuel t cs) :
    cs.length = P.cellsOf t ∧ ∀ i, i < n → ∃ fuel, Rd P w fuel e ((cs.drop (i * P.cellsOf e)).take (P.cellsOf e)) := by
  cases fuel with
  | zero => exact h.elim
  | succ fuel =>
    unfold Rd at h; simp only [hu] at h
    exact ⟨h.1, fun i hi => ⟨fuel, h.2 i hi⟩⟩
end
/-! ### a struct's or an array's cells, one by one -/
def leavesOf (P : Program) (f : TypeId → Option (List TypeId)) : List Field → Nat → Option (List TypeId)
  | [], _ => some []
  | fd :: r, off => (f fd.type).bind fun l => if fd.offset = off ∧ P.cellsOf fd.type = l.length then (leavesOf P f r (off + l.length)).map (l ++ ·) else none

def leaves (P : Program) : Nat → TypeId → Option (List TypeId)
  | 0, _ => none
  | k + 1, t =>
    match P.underlying t with
    | some (.struct fs) => leavesOf P (leaves P k) fs.toList 0
    | some (.array n e) => (leaves P k e).bind fun l => if P.cellsOf e = l.length then some (List.replicate n l).flatten else none
    | some .bool | some (.int _) | some .string | some (.slice _) => some [t]
    | _ => none

section
variable {P : Program} {w : World}
theorem leavesOf_at {f : TypeId → Option (List TypeId)} {cs : List Value}
    (hf : ∀ (t : TypeId) (ts : List TypeId) (fuel : Nat) (cs : List Value), f t = some ts → Rd P w fuel t cs → ∀ (i : Nat) (t' : TypeId), ts[i]? = some t' → ∃ c g, cs[i]? = some c ∧ Rd P w g t' [c]) :
    ∀ (fs : List Field) (off : Nat) (ts : List TypeId), leavesOf P f fs off = some ts → (∀ fd ∈ fs, ∃ fuel, Rd P w fuel fd.type ((cs.drop fd.offset).take (P.cellsOf fd.type))) →
    ∀ (i : Nat) (t' : TypeId), ts[i]? = some t' → ∃ c g, cs[off + i]? = some c ∧ Rd P w g t' [c]
  | [], _, ts, h, _, i, t', hi => by simp [leavesOf] at h; subst h; simp at hi
  | fd :: r, off, ts, h, hr, i, t', hi => by
    unfold leavesOf at h
    obtain ⟨l, hl, h⟩ := Option.bind_eq_some_iff.1 h
    split at h
    · rename_i hc
      obtain ⟨ho, hn⟩ := hc
      obtain ⟨ts', hts, h⟩ := Option.map_eq_some_iff.1 h
      subst h
      rcases Nat.lt_or_ge i l.length with hlt | hge
      · rw [List.getElem?_append_left hlt] at hi
        obtain ⟨fuel, hrd⟩ := hr fd (.head _)
        obtain ⟨c, g, h1, h2⟩ := hf fd.type l fuel _ hl hrd i t' hi
        refine ⟨c, g, ?_, h2⟩
        rw [List.getElem?_take, if_pos (by omega), List.getElem?_drop, ho] at h1
        exact h1
      · rw [List.getElem?_append_right hge] at hi
        obtain ⟨c, g, h1, h2⟩ := leavesOf_at hf r (off + l.length) ts' hts (fun fd' h' => hr fd' (.tail _ h')) (i - l.length) t' hi
        exact ⟨c, g, by rw [← h1]; congr 1; omega, h2⟩
    · cases h

theorem flatten_at {l : List TypeId} (hl : 0 < l.length) : ∀ (n i : Nat) (t : TypeId), (List.replicate n l).flatten[i]? = some t → i / l.length < n ∧ l[i % l.length]? = some t
  | 0, i, t, h => by simp at h
  | n + 1, i, t, h => by
    rw [List.replicate_succ, List.flatten_cons] at h
    rcases Nat.lt_or_ge i l.length with hlt | hge
    · rw [List.getElem?_append_left hlt] at h
      rw [Nat.div_eq_of_lt hlt, Nat.mod_eq_of_lt hlt]
      exact ⟨by omega, h⟩
    · rw [List.getElem?_append_right hge] at h
      obtain ⟨h1, h2⟩ := flatten_at hl n (i - l.length) t h
      have e : i = (i - l.length) + l.length := by omega
      rw [e, Nat.add_div_right _ hl, Nat.add_mod_right]
      exact ⟨by omega, h2⟩

theorem rd_leaves : ∀ (k : Nat) (t : TypeId) (ts : List TypeId) (fuel : Nat) (cs : List Value), leaves P k t = some ts → Rd P w fuel t cs →
    ∀ (i : Nat) (t' : TypeId), ts[i]? = some t' → ∃ c g, cs[i]? = some c ∧ Rd P w g t' [c]
  | 0, _, _, _, _, h, _, _, _, _ => by simp [leaves] at h
  | k + 1, t, ts, fuel, cs, h, hr, i, t', hi => by
    unfold leaves at h
    split at h
    · rename_i fs hu
      obtain ⟨_, hfs⟩ := hr.struct hu
      have := leavesOf_at (fun t ts fuel cs h hr => rd_leaves k t ts fuel cs h hr) fs.toList 0 ts h hfs i t' hi
      simpa using this
    · rename_i n e hu
      obtain ⟨l, hl, h⟩ := Option.bind_eq_some_iff.1 h
      split at h
      · rename_i hc
        simp only [Option.some.injEq] at h
        subst h
        obtain ⟨_, hel⟩ := hr.array hu
        rcases Nat.eq_zero_or_pos l.length with h0 | hpos
        · have : l = [] := List.eq_nil_of_length_eq_zero h0
          subst this; simp at hi
        · obtain ⟨h1, h2⟩ := flatten_at hpos n i t' hi
          obtain ⟨fuel', hrd⟩ := hel (i / l.length) h1
          obtain ⟨c, g, h3, h4⟩ := rd_leaves k e l fuel' _ hl hrd (i % l.length) t' h2
          refine ⟨c, g, ?_, h4⟩
          rw [List.getElem?_take, if_pos (by rw [hc]; exact Nat.mod_lt _ hpos), List.getElem?_drop, hc, Nat.mul_comm, Nat.div_add_mod] at h3
          exact h3
      · cases h
    all_goals first | (cases h; done) | skip
    all_goals
      rename_i hu
      simp only [Option.some.injEq] at h
      subst h
      match i, hi with
      | 0, hi =>
        simp only [List.getElem?_cons_zero, Option.some.injEq] at hi
        subst hi
        first
        | (obtain ⟨b, rfl⟩ := hr.bool hu; exact ⟨_, fuel, rfl, hr⟩)
        | (obtain ⟨b, rfl, _⟩ := hr.int hu; exact ⟨_, fuel, rfl, hr⟩)
        | (obtain ⟨b, rfl, _⟩ := hr.str hu; exact ⟨_, fuel, rfl, hr⟩)
        | (rcases hr.slice hu with h | ⟨a, len, cap, h, _⟩
           · subst h; exact ⟨_, fuel, rfl, hr⟩
           · subst h; exact ⟨_, fuel, rfl, hr⟩)
      | i + 1, hi => simp at hi

theorem Rd.leaf {k : Nat} {t : TypeId} {ts : List TypeId} {fuel : Nat} {cs : List Value} (h : Rd P w fuel t cs) (hl : leaves P k t = some ts) (i : Nat) {t' : TypeId} (ht : ts[i]? = some t') {c : Value} (hc : cs[i]? = some c) :
    ∃ g, Rd P w g t' [c] := by
  obtain ⟨c', g, h1, h2⟩ := rd_leaves k t ts fuel cs hl h i t' ht
  rw [hc] at h1
  cases h1
  exact ⟨g, h2⟩
theorem Rd.one_int {t : TypeId} {k : IntKind} {c : Value} (h : ∃ g, Rd P w g t [c]) (hu : P.underlying t = some (.int k)) : ∃ n, c = .int k n ∧ (Lit.int k n).wf = true := by
  obtain ⟨g, h⟩ := h
  obtain ⟨n, hn, hw⟩ := h.int hu
  simp only [List.cons.injEq, and_true] at hn
  exact ⟨n, hn, hw⟩
theorem Rd.one_bool {t : TypeId} {c : Value} (h : ∃ g, Rd P w g t [c]) (hu : P.underlying t = some .bool) : ∃ b, c = .bool b := by
  obtain ⟨g, h⟩ := h
  obtain ⟨n, hn⟩ := h.bool hu
  simp only [List.cons.injEq, and_true] at hn
  exact ⟨n, hn⟩

theorem Args.cons {t : TypeId} {ts : List TypeId} {vs : List Value} (h : Args P w (t :: ts) vs) : ∃ v vs', vs = v :: vs' ∧ Arg P w t v ∧ Args P w ts vs' := by
  cases vs with
  | nil => exact h.elim
  | cons v vs => exact ⟨v, vs, rfl, h.1, h.2⟩
theorem Args.nil {vs : List Value} (h : Args P w [] vs) : vs = [] := by
  cases vs with
  | nil => rfl
  | cons v vs => exact h.elim
/-- a parameter that is one cell -/
theorem Arg.one {t : TypeId} {v : Value} (h : Arg P w t v) (hu : ∀ fs, P.underlying t ≠ some (.struct fs)) (ha : ∀ n e, P.underlying t ≠ some (.array n e)) : ∃ g, Rd P w g t [v] := by
  obtain ⟨⟨g, hr⟩, hv⟩ := h
  split at hv
  · rename_i fs he; exact absurd he (hu fs)
  · rename_i n e he; exact absurd he (ha n e)
  · rw [hv] at hr; exact ⟨g, hr⟩
theorem Arg.int {t : TypeId} {v : Value} {k : IntKind} (h : Arg P w t v) (hu : P.underlying t = some (.int k)) : ∃ n, v = .int k n ∧ (Lit.int k n).wf = true := by
  obtain ⟨g, hr⟩ := h.one (by rw [hu]; simp) (by rw [hu]; simp)
  obtain ⟨n, hn, hw⟩ := hr.int hu
  simp only [List.cons.injEq, and_true] at hn
  exact ⟨n, hn, hw⟩
/-- a parameter that is a struct or an array: its cells -/
theorem Arg.many {t : TypeId} {v : Value} {n : Nat} (h : Arg P w t v) (hu : (∃ fs, P.underlying t = some (.struct fs)) ∨ ∃ n e, P.underlying t = some (.array n e)) (hn : P.cellsOf t = n) :
    ∃ cs : List Value, v = .agg cs.toArray ∧ cs.length = n ∧ ∃ g, Rd P w g t cs := by
  obtain ⟨⟨g, hr⟩, hv⟩ := h
  rcases hu with ⟨fs, hu⟩ | ⟨m, e, hu⟩
  · simp only [hu] at hv
    obtain ⟨⟨l⟩, rfl⟩ := hv
    exact ⟨l, rfl, by rw [← hn]; exact (hr.struct hu).1, g, hr⟩
  · simp only [hu] at hv
    obtain ⟨⟨l⟩, rfl⟩ := hv
    exact ⟨l, rfl, by rw [← hn]; exact (hr.array hu).1, g, hr⟩
end

theorem len1 {α : Type} {l : List α} (h : l.length = 1) : ∃ x0, l = [x0] := by
  match l, h with
  | [x0], _ => exact ⟨_, rfl⟩
theorem len2 {α : Type} {l : List α} (h : l.length = 2) : ∃ x0 x1, l = [x0, x1] := by
  match l, h with
  | [x0, x1], _ => exact ⟨_, _, rfl⟩
theorem len3 {α : Type} {l : List α} (h : l.length = 3) : ∃ x0 x1 x2, l = [x0, x1, x2] := by
  match l, h with
  | [x0, x1, x2], _ => exact ⟨_, _, _, rfl⟩
theorem len4 {α : Type} {l : List α} (h : l.length = 4) : ∃ x0 x1 x2 x3, l = [x0, x1, x2, x3] := by
  match l, h with
  | [x0, x1, x2, x3], _ => exact ⟨_, _, _, _, rfl⟩
theorem len5 {α : Type} {l : List α} (h : l.length = 5) : ∃ x0 x1 x2 x3 x4, l = [x0, x1, x2, x3, x4] := by
  match l, h with
  | [x0, x1, x2, x3, x4], _ => exact ⟨_, _, _, _, _, rfl⟩
theorem len6 {α : Type} {l : List α} (h : l.length = 6) : ∃ x0 x1 x2 x3 x4 x5, l = [x0, x1, x2, x3, x4, x5] := by
  match l, h with
  | [x0, x1, x2, x3, x4, x5], _ => exact ⟨_, _, _, _, _, _, rfl⟩
theorem len7 {α : Type} {l : List α} (h : l.length = 7) : ∃ x0 x1 x2 x3 x4 x5 x6, l = [x0, x1, x2, x3, x4, x5, x6] := by
  match l, h with
  | [x0, x1, x2, x3, x4, x5, x6], _ => exact ⟨_, _, _, _, _, _, _, rfl⟩
theorem len8 {α : Type} {l : List α} (h : l.length = 8) : ∃ x0 x1 x2 x3 x4 x5 x6 x7, l = [x0, x1, x2, x3, x4, x5, x6, x7] := by
  match l, h with
  | [x0, x1, x2, x3, x4, x5, x6, x7], _ => exact ⟨_, _, _, _, _, _, _, _, rfl⟩
theorem len11 {α : Type} {l : List α} (h : l.length = 11) : ∃ x0 x1 x2 x3 x4 x5 x6 x7 x8 x9 x10, l = [x0, x1, x2, x3, x4, x5, x6, x7, x8, x9, x10] := by
  match l, h with
  | [x0, x1, x2, x3, x4, x5, x6, x7, x8, x9, x10], _ => exact ⟨_, _, _, _, _, _, _, _, _, _, _, rfl⟩
theorem len12 {α : Type} {l : List α} (h : l.length = 12) : ∃ x0 x1 x2 x3 x4 x5 x6 x7 x8 x9 x10 x11, l = [x0, x1, x2, x3, x4, x5, x6, x7, x8, x9, x10, x11] := by
  match l, h with
  | [x0, x1, x2, x3, x4, x5, x6, x7, x8, x9, x10, x11], _ => exact ⟨_, _, _, _, _, _, _, _, _, _, _, _, rfl⟩
theorem len13 {α : Type} {l : List α} (h : l.length = 13) : ∃ x0 x1 x2 x3 x4 x5 x6 x7 x8 x9 x10 x11 x12, l = [x0, x1, x2, x3, x4, x5, x6, x7, x8, x9, x10, x11, x12] := by
  match l, h with
  | [x0, x1, x2, x3, x4, x5, x6, x7, x8, x9, x10, x11, x12], _ => exact ⟨_, _, _, _, _, _, _, _, _, _, _, _, _, rfl⟩
theorem len20 {α : Type} {l : List α} (h : l.length = 20) : ∃ x0 x1 x2 x3 x4 x5 x6 x7 x8 x9 x10 x11 x12 x13 x14 x15 x16 x17 x18 x19, l = [x0, x1, x2, x3, x4, x5, x6, x7, x8, x9, x10, x11, x12, x13, x14, x15, x16, x17, x18, x19] := by
  match l, h with
  | [x0, x1, x2, x3, x4, x5, x6, x7, x8, x9, x10, x11, x12, x13, x14, x15, x16, x17, x18, x19], _ => exact ⟨_, _, _, _, _, _, _, _, _, _, _, _, _, _, _, _, _, _, _, _, rfl⟩
theorem len28 {α : Type} {l : List α} (h : l.length = 28) : ∃ x0 x1 x2 x3 x4 x5 x6 x7 x8 x9 x10 x11 x12 x13 x14 x15 x16 x17 x18 x19 x20 x21 x22 x23 x24 x25 x26 x27, l = [x0, x1, x2, x3, x4, x5, x6, x7, x8, x9, x10, x11, x12, x13, x14, x15, x16, x17, x18, x19, x20, x21, x22, x23, x24, x25, x26, x27] := by
  match l, h with
  | [x0, x1, x2, x3, x4, x5, x6, x7, x8, x9, x10, x11, x12, x13, x14, x15, x16, x17, x18, x19, x20, x21, x22, x23, x24, x25, x26, x27], _ => exact ⟨_, _, _, _, _, _, _, _, _, _, _, _, _, _, _, _, _, _, _, _, _, _, _, _, _, _, _, _, rfl⟩

end Go.Proofs.Ytoljdijpmnadpaa
