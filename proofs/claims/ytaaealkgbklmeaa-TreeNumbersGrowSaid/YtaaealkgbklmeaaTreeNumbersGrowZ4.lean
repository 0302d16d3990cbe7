/-
  Part 4 of what TreeNumbersGrow rests on.
-/
import Derived.Test.YtaaealkgbklmeaaTreeNumbersGrowZ3
import Derived.Test.YtaaealkgbklmeaaRows
import Derived.JoinedOf
import Derived.KernelRfl
/-
  What is built of the operations of a forest, in closed form.
-/
namespace Go.Proofs.Ytaaealkgbklmeaa
open Go.RowKit
set_option linter.unusedVariables false
set_option linter.unusedSimpArgs false
def Fo.cnt : Fo → Nat
  | .nil => 0
  | .draw _ r => r.cnt + 1
  | .grp _ k r => k.cnt + r.cnt + 1
def Fo.rt : Fo → Nat → List Int
  | .nil, _ => []
  | .draw _ r, b => (b : Int) :: r.rt (b + 1)
  | .grp _ k r, b => (b : Int) :: r.rt (b + 1 + k.cnt)
def Fo.nd : Fo → Nat → Nodes
  | .nil, _ => []
  | .draw o r, b => (o, []) :: r.nd (b + 1)
  | .grp o k r, b => (o, k.rt (b + 1)) :: (k.nd (b + 1) ++ r.nd (b + 1 + k.cnt))
theorem Fo.nd_len : ∀ (f : Fo) (b : Nat), (f.nd b).length = f.cnt
  | .nil, b => rfl
  | .draw o r, b => by simp [Fo.nd, Fo.cnt, r.nd_len]
  | .grp o k r, b => by simp [Fo.nd, Fo.cnt, k.nd_len, r.nd_len]
def kidApp (ns : Nodes) (t : Nat) (l : List Int) : Nodes := match ns[t]? with
  | some p => ns.set t (p.1, p.2 ++ l)
  | none => ns
def underT (z : BT) (ns2 : Nodes) (l : List Int) : BT := match z.os.getLast? with
  | none => ⟨z.ns ++ ns2, z.rs ++ l, z.os⟩
  | some t => ⟨kidApp z.ns t.toNat l ++ ns2, z.rs, z.os⟩
theorem kidApp_len (ns : Nodes) (t : Nat) (l : List Int) : (kidApp ns t l).length = ns.length := by
  unfold kidApp; split <;> simp
theorem underT_len (z : BT) (ns2 : Nodes) (l : List Int) : (underT z ns2 l).ns.length = z.ns.length + ns2.length := by
  unfold underT; split <;> simp [kidApp_len]
theorem underT_os (z : BT) (ns2 : Nodes) (l : List Int) : (underT z ns2 l).os = z.os := by
  unfold underT; split <;> rfl
/-- the innermost open group has a node -/
def BT.fine (z : BT) : Prop := ∀ t, z.os.getLast? = some t → t.toNat < z.ns.length
theorem kidApp_app {ns n2 : Nodes} {t : Nat} (h : t < ns.length) (l : List Int) : kidApp (ns ++ n2) t l = kidApp ns t l ++ n2 := by
  unfold kidApp
  rw [List.getElem?_append_left h, List.getElem?_eq_getElem h]
  simp only
  rw [List.set_append_left _ _ h]
theorem kidApp_two {ns : Nodes} {t : Nat} (h : t < ns.length) (l m : List Int) : kidApp (kidApp ns t l) t m = kidApp ns t (l ++ m) := by
  unfold kidApp
  rw [List.getElem?_eq_getElem h]
  simp only
  rw [List.getElem?_set_self (by simpa using h)]
  simp
theorem underT_two (z : BT) (hz : z.fine) (n1 n2 : Nodes) (l1 l2 : List Int) : underT (underT z n1 l1) n2 l2 = underT z (n1 ++ n2) (l1 ++ l2) := by
  unfold underT
  cases h : z.os.getLast? with
  | none => simp [h]
  | some t =>
    have ht := hz t h
    simp only [h]
    rw [kidApp_app (by rw [kidApp_len]; exact ht), kidApp_two ht, List.append_assoc]
theorem underT_nil (z : BT) (hz : z.fine) : underT z [] [] = z := by
  unfold underT
  cases h : z.os.getLast? with
  | none => simp
  | some t =>
    have ht := hz t h
    simp only [List.append_nil]
    unfold kidApp
    rw [List.getElem?_eq_getElem ht]
    simp only [List.append_nil]
    show (⟨z.ns.set t.toNat z.ns[t.toNat], z.rs, z.os⟩ : BT) = z
    rw [List.set_getElem_self]
theorem underT_fine {z : BT} (hz : z.fine) (n1 : Nodes) (l1 : List Int) : (underT z n1 l1).fine := fun t h => by
  rw [underT_os] at h
  rw [underT_len]
  have := hz t h
  omega
theorem kidAdd_is (ns : Nodes) (t : Nat) (n : Int) : kidAdd ns t n = kidApp ns t [n] := rfl
theorem addT_under {o : Oq} {z : BT} (hz : z.fine) : addT o z = ⟨(underT z [(o, [])] [(z.ns.length : Int)]).ns, (underT z [(o, [])] [(z.ns.length : Int)]).rs, if o.kind = 2 then z.os ++ [(z.ns.length : Int)] else z.os⟩ := by
  unfold addT underT
  cases h : z.os.getLast? with
  | none => rfl
  | some t =>
    simp only
    rw [kidAdd_is, kidApp_app (hz t h)]
theorem runT_flat : ∀ (f : Fo) (z : BT) (m : List Oq), f.ok → z.fine → runT (f.flat ++ m) z = runT m (underT z (f.nd z.ns.length) (f.rt z.ns.length))
  | .nil, z, m, hk, hz => by simp only [Fo.flat, Fo.nd, Fo.rt, List.nil_append]; rw [underT_nil z hz]
  | .draw o r, z, m, hk, hz => by
    simp only [Fo.flat, List.cons_append, runT]
    rw [if_pos (.inl hk.1), addT_under hz, if_neg (by rw [hk.1]; decide)]
    have e : (⟨(underT z [(o, [])] [(z.ns.length : Int)]).ns, (underT z [(o, [])] [(z.ns.length : Int)]).rs, z.os⟩ : BT) = underT z [(o, [])] [(z.ns.length : Int)] := by
      have := underT_os z [(o, [])] [(z.ns.length : Int)]
      rw [← this]
    rw [e, runT_flat r _ m hk.2 (underT_fine hz _ _), underT_len, underT_two z hz]
    rfl
  | .grp o k r, z, m, hk, hz => by
    simp only [Fo.flat, List.cons_append, List.append_assoc, runT]
    rw [if_pos (.inr hk.1), addT_under hz, if_pos hk.1]
    have hl := underT_len z [(o, [])] [(z.ns.length : Int)]
    have hz1 : BT.fine ⟨(underT z [(o, [])] [(z.ns.length : Int)]).ns, (underT z [(o, [])] [(z.ns.length : Int)]).rs, z.os ++ [(z.ns.length : Int)]⟩ := fun t h => by
      simp only [List.getLast?_append, List.getLast?_singleton, Option.some_or, Option.some.injEq] at h
      subst h
      simp only [hl, Int.toNat_natCast, List.length_singleton]
      omega
    rw [runT_flat k _ _ hk.2.1 hz1]
    simp only [hl, List.length_singleton]
    have e2 : underT ⟨(underT z [(o, [])] [(z.ns.length : Int)]).ns, (underT z [(o, [])] [(z.ns.length : Int)]).rs, z.os ++ [(z.ns.length : Int)]⟩ (k.nd (z.ns.length + 1)) (k.rt (z.ns.length + 1)) = ⟨(underT z ((o, k.rt (z.ns.length + 1)) :: k.nd (z.ns.length + 1)) [(z.ns.length : Int)]).ns, (underT z ((o, k.rt (z.ns.length + 1)) :: k.nd (z.ns.length + 1)) [(z.ns.length : Int)]).rs, z.os ++ [(z.ns.length : Int)]⟩ := by
      have key : ∀ (A : Nodes), A.length = z.ns.length → kidApp (A ++ [(o, [])]) z.ns.length (k.rt (z.ns.length + 1)) = A ++ [(o, k.rt (z.ns.length + 1))] := fun A hA => by
        unfold kidApp
        rw [← hA, List.getElem?_append_right (Nat.le_refl _), Nat.sub_self]
        simp
      unfold underT
      simp only [List.getLast?_append, List.getLast?_singleton, Option.some_or, Int.toNat_natCast]
      cases h : z.os.getLast? with
      | none =>
        simp only
        rw [key _ rfl]
        simp
      | some t =>
        simp only
        rw [key _ (kidApp_len _ _ _)]
        simp
    rw [e2]
    simp only [List.cons_append, runT]
    rw [if_neg (by decide), if_pos (by rfl), if_neg (by simp)]
    simp only [List.dropLast_concat]
    have e3 : (⟨(underT z ((o, k.rt (z.ns.length + 1)) :: k.nd (z.ns.length + 1)) [(z.ns.length : Int)]).ns, (underT z ((o, k.rt (z.ns.length + 1)) :: k.nd (z.ns.length + 1)) [(z.ns.length : Int)]).rs, z.os⟩ : BT) = underT z ((o, k.rt (z.ns.length + 1)) :: k.nd (z.ns.length + 1)) [(z.ns.length : Int)] := by
      have := underT_os z ((o, k.rt (z.ns.length + 1)) :: k.nd (z.ns.length + 1)) [(z.ns.length : Int)]
      rw [← this]
    rw [e3, runT_flat r _ m hk.2.2 (underT_fine hz _ _), underT_len, underT_two z hz, List.length_cons, Fo.nd_len, show z.ns.length + (k.cnt + 1) = z.ns.length + 1 + k.cnt by omega]
    simp only [Fo.nd, Fo.rt, List.cons_append, List.nil_append]
theorem buildT_flat {f : Fo} (hk : f.ok) : buildT f.flat = (f.nd 0, f.rt 0, 0) := by
  have h := runT_flat f ⟨[], [], []⟩ [] hk (fun t h => by cases h)
  rw [List.append_nil] at h
  have e : runT f.flat ⟨[], [], []⟩ = (⟨f.nd 0, f.rt 0, []⟩, 0) := h
  unfold buildT
  simp only [e]
  rfl
/-! ### each number once -/
def idx (b n : Nat) : List Int := (List.range' b n).map fun (k : Nat) => (k : Int)
theorem idx_app (b m n : Nat) : idx b (m + n) = idx b m ++ idx (b + m) n := by
  simp [idx, ← List.range'_append_1]
theorem idx_succ (b n : Nat) : idx b (n + 1) = (b : Int) :: idx (b + 1) n := by simp [idx, List.range'_succ]
theorem Fo.perm : ∀ (f : Fo) (b : Nat), List.Perm (f.rt b ++ (f.nd b).flatMap (·.2)) (idx b f.cnt)
  | .nil, b => .nil
  | .draw o r, b => by
    simp only [Fo.rt, Fo.nd, Fo.cnt, List.flatMap_cons, List.nil_append, List.cons_append]
    rw [idx_succ]
    exact (r.perm (b + 1)).cons _
  | .grp o k r, b => by
    simp only [Fo.rt, Fo.nd, Fo.cnt, List.flatMap_cons, List.flatMap_append, List.cons_append]
    rw [idx_succ, idx_app]
    refine .cons _ ?_
    have h1 := k.perm (b + 1)
    have h2 := r.perm (b + 1 + k.cnt)
    refine List.Perm.trans ?_ (h1.append h2)
    rw [List.perm_iff_count]
    intro a
    simp only [List.count_append]
    omega
theorem Fo.mem {f : Fo} {b : Nat} {x : Int} : x ∈ f.rt b ++ (f.nd b).flatMap (·.2) ↔ (b : Int) ≤ x ∧ x < (b : Int) + f.cnt := by
  rw [(f.perm b).mem_iff]
  simp only [idx, List.mem_map, List.mem_range'_1]
  constructor
  · rintro ⟨k, hk, rfl⟩
    omega
  · intro h
    exact ⟨x.toNat, by omega, by omega⟩
theorem Fo.good (f : Fo) : Good (f.nd 0) (f.rt 0) where
  inr := fun x hx => by
    have := Fo.mem.1 hx
    rw [Fo.nd_len]
    omega
  nd := by
    rw [(f.perm 0).nodup_iff, idx, List.nodup_iff_pairwise_ne, List.pairwise_map]
    exact (List.nodup_range' (s := 0) (n := f.cnt)).imp fun h e => h (by omega)
/-- kids stand behind their parents -/
theorem Fo.kids_gt : ∀ (f : Fo) (b i : Nat) (p : Oq × List Int), (f.nd b)[i]? = some p → ∀ x ∈ p.2, (b : Int) + i < x
  | .nil, b, i, p, h, x, hx => by simp [Fo.nd] at h
  | .draw o r, b, i, p, h, x, hx => by
    rw [Fo.nd] at h
    cases i with
    | zero =>
      simp only [List.getElem?_cons_zero, Option.some.injEq] at h
      subst h; cases hx
    | succ i =>
      rw [List.getElem?_cons_succ] at h
      have := r.kids_gt (b + 1) i p h x hx
      omega
  | .grp o k r, b, i, p, h, x, hx => by
    rw [Fo.nd] at h
    cases i with
    | zero =>
      simp only [List.getElem?_cons_zero, Option.some.injEq] at h
      subst h
      have := Fo.mem.1 (List.mem_append_left _ hx)
      omega
    | succ i =>
      rw [List.getElem?_cons_succ] at h
      by_cases hi : i < k.cnt
      · rw [List.getElem?_append_left (by rw [Fo.nd_len]; exact hi)] at h
        have := k.kids_gt (b + 1) i p h x hx
        omega
      · rw [List.getElem?_append_right (by rw [Fo.nd_len]; omega), Fo.nd_len] at h
        have := r.kids_gt (b + 1 + k.cnt) (i - k.cnt) p h x hx
        omega
theorem Fo.kinds : ∀ (f : Fo) (b : Nat), f.ok → ∀ p ∈ f.nd b, (p.1.kind = 1 ∧ p.2 = []) ∨ p.1.kind = 2
  | .nil, b, hk, p, h => by cases h
  | .draw o r, b, hk, p, h => by
    rw [Fo.nd] at h
    rcases List.mem_cons.1 h with rfl | h
    · exact .inl ⟨hk.1, rfl⟩
    · exact r.kinds _ hk.2 p h
  | .grp o k r, b, hk, p, h => by
    rw [Fo.nd] at h
    rcases List.mem_cons.1 h with rfl | h
    · exact .inr hk.1
    · rcases List.mem_append.1 h with h | h
      · exact k.kinds _ hk.2.1 p h
      · exact r.kinds _ hk.2.2 p h
theorem Fo.cover (f : Fo) : ∀ k : Nat, k < (f.nd 0).length → (k : Int) ∈ f.rt 0 ∨ ∃ i : Nat, i < k ∧ (k : Int) ∈ kidsAt (f.nd 0) (i : Int) := fun k hk => by
  rw [Fo.nd_len] at hk
  have h := Fo.mem (f := f) (b := 0) (x := (k : Int)) |>.2 (by omega)
  rcases List.mem_append.1 h with h | h
  · exact .inl h
  · obtain ⟨p, hp, hx⟩ := List.mem_flatMap.1 h
    obtain ⟨i, hi, rfl⟩ := List.getElem_of_mem hp
    have := f.kids_gt 0 i _ (List.getElem?_eq_getElem hi) _ hx
    exact .inr ⟨i, by omega, by rw [kidsAt_of hi]; exact hx⟩
/-! ### the parents -/
theorem addP_ok : ∀ (l : List Int) (p : Int) (s : List Bool) (o : List Int), s.length = o.length → l.Nodup → (∀ x ∈ l, 0 ≤ x ∧ x < (o.length : Int)) → (∀ x ∈ l, s[x.toNat]? = some false) →
    ∃ s' o', addP l p s o = (true, s', o') ∧ s'.length = o.length ∧ o'.length = o.length ∧ (∀ k : Nat, k < o.length → s'[k]? = if (k : Int) ∈ l then some true else s[k]?) ∧ ∀ k : Nat, k < o.length → o'[k]? = if (k : Int) ∈ l then some p else o[k]?
  | [], p, s, o, hl, hn, hi, hu => ⟨s, o, rfl, hl, rfl, fun k hk => by simp, fun k hk => by simp⟩
  | x :: l, p, s, o, hl, hn, hi, hu => by
    rw [List.nodup_cons] at hn
    have hx := hi x (List.mem_cons_self ..)
    have hux := hu x (List.mem_cons_self ..)
    have hne : ∀ y ∈ l, y.toNat ≠ x.toNat := fun y hy e => by
      have := hi y (List.mem_cons_of_mem _ hy)
      have : y = x := by omega
      exact hn.1 (this ▸ hy)
    obtain ⟨s', o', h1, h2, h3, h4, h5⟩ := addP_ok l p (s.set x.toNat true) (o.set x.toNat p) (by simpa using hl) hn.2 (fun y hy => by rw [List.length_set]; exact hi y (List.mem_cons_of_mem _ hy)) (fun y hy => by
      rw [List.getElem?_set_ne (Ne.symm (hne y hy))]
      exact hu y (List.mem_cons_of_mem _ hy))
    rw [List.length_set] at h2 h3 h4 h5
    refine ⟨s', o', ?_, h2, h3, fun k hk => ?_, fun k hk => ?_⟩
    · rw [addP, if_neg (by rw [hux]; simp; omega)]
      exact h1
    · rw [h4 k hk]
      by_cases e : (k : Int) ∈ l
      · rw [if_pos e, if_pos (List.mem_cons_of_mem _ e)]
      · rw [if_neg e]
        by_cases ex : (k : Int) = x
        · rw [if_pos (by rw [ex]; exact List.mem_cons_self ..), show x.toNat = k by omega, List.getElem?_set_self (by omega)]
        · rw [if_neg (by rw [List.mem_cons]; exact fun h => h.elim ex e), List.getElem?_set_ne (by omega)]
    · rw [h5 k hk]
      by_cases e : (k : Int) ∈ l
      · rw [if_pos e, if_pos (List.mem_cons_of_mem _ e)]
      · rw [if_neg e]
        by_cases ex : (k : Int) = x
        · rw [if_pos (by rw [ex]; exact List.mem_cons_self ..), show x.toNat = k by omega, List.getElem?_set_self (by omega)]
        · rw [if_neg (by rw [List.mem_cons]; exact fun h => h.elim ex e), List.getElem?_set_ne (by omega)]
theorem parNs_ok : ∀ (ns : Nodes) (i : Nat) (s : List Bool) (o : List Int), s.length = o.length → (∀ p ∈ ns, (p.1.kind = 1 ∧ p.2 = []) ∨ p.1.kind = 2) → (ns.flatMap (·.2)).Nodup → (∀ x ∈ ns.flatMap (·.2), 0 ≤ x ∧ x < (o.length : Int)) → (∀ x ∈ ns.flatMap (·.2), s[x.toNat]? = some false) →
    ∃ s' o', parNs ns i s o = (true, s', o') ∧ s'.length = o.length ∧ o'.length = o.length ∧ (∀ k : Nat, k < o.length → s'[k]? = if (k : Int) ∈ ns.flatMap (·.2) then some true else s[k]?) ∧ (∀ k : Nat, k < o.length → (k : Int) ∉ ns.flatMap (·.2) → o'[k]? = o[k]?) ∧ ∀ (j : Nat) (p : Oq × List Int), ns[j]? = some p → ∀ x ∈ p.2, o'[x.toNat]? = some ((i + j : Nat) : Int)
  | [], i, s, o, hl, hk, hn, hi, hu => ⟨s, o, rfl, hl, rfl, fun k hk => by simp, fun k hk _ => rfl, fun j p h => by simp at h⟩
  | p :: ns, i, s, o, hl, hk, hn, hi, hu => by
    rw [List.flatMap_cons] at hn hi hu
    obtain ⟨n1, n2, n3⟩ := List.nodup_append.1 hn
    have hkp := hk p (List.mem_cons_self ..)
    obtain ⟨s1, o1, a1, a2, a3, a4, a5⟩ := addP_ok p.2 i s o hl n1 (fun x hx => hi x (List.mem_append_left _ hx)) (fun x hx => hu x (List.mem_append_left _ hx))
    have hin2 : ∀ x ∈ ns.flatMap (·.2), 0 ≤ x ∧ x < (o.length : Int) := fun x hx => hi x (List.mem_append_right _ hx)
    obtain ⟨s', o', b1, b2, b3, b4, b5, b6⟩ := parNs_ok ns (i + 1) s1 o1 (by omega) (fun q hq => hk q (List.mem_cons_of_mem _ hq)) n2 (fun x hx => by rw [a3]; exact hin2 x hx) (fun x hx => by
      have hxi := hin2 x hx
      rw [a4 x.toNat (by omega), if_neg]
      · exact hu x (List.mem_append_right _ hx)
      · intro h
        rw [show ((x.toNat : Nat) : Int) = x by omega] at h
        exact n3 x h x hx rfl)
    rw [a3] at b2 b3 b4 b5
    refine ⟨s', o', ?_, b2, b3, fun k hk' => ?_, fun k hk' hno => ?_, fun j q hq x hx => ?_⟩
    · rw [parNs, if_neg, a1]
      · exact b1
      · rintro (h | h)
        · rcases hkp with e | e
          · exact h.1 e.1
          · exact h.2 e
        · rcases hkp with e | e
          · rw [e.2] at h; exact absurd h.2 (by simp)
          · rw [e] at h; exact absurd h.1 (by decide)
    · rw [b4 k hk', List.flatMap_cons]
      by_cases e : (k : Int) ∈ ns.flatMap (·.2)
      · rw [if_pos e, if_pos (List.mem_append_right _ e)]
      · rw [if_neg e, a4 k hk']
        by_cases e2 : (k : Int) ∈ p.2
        · rw [if_pos e2, if_pos (List.mem_append_left _ e2)]
        · rw [if_neg e2, if_neg (by rw [List.mem_append]; exact fun h => h.elim e2 e)]
    · rw [List.flatMap_cons, List.mem_append] at hno
      rw [b5 k hk' (fun h => hno (.inr h)), a5 k hk', if_neg (fun h => hno (.inl h))]
    · cases j with
      | zero =>
        simp only [List.getElem?_cons_zero, Option.some.injEq] at hq
        subst hq
        have hxi := hi x (List.mem_append_left _ hx)
        rw [b5 x.toNat (by omega), a5 x.toNat (by omega), if_pos]
        · rfl
        · rw [show ((x.toNat : Nat) : Int) = x by omega]; exact hx
        · rw [show ((x.toNat : Nat) : Int) = x by omega]
          exact fun h => n3 x hx x h rfl
      | succ j =>
        rw [List.getElem?_cons_succ] at hq
        rw [b6 j q hq x hx]
        congr 2
        omega
theorem parP_fo {f : Fo} (hk : f.ok) : ∃ o, parP (f.nd 0) (f.rt 0) = (o, true) ∧ o.length = f.cnt ∧ ∀ k : Nat, k < f.cnt → ∃ v, o[k]? = some v ∧ v < (k : Int) := by
  have hg := f.good
  have hln := f.nd_len 0
  obtain ⟨n1, n2, n3⟩ := List.nodup_append.1 hg.nd
  have hin := hg.inr
  rw [hln] at hin
  obtain ⟨s1, o1, a1, a2, a3, a4, a5⟩ := addP_ok (f.rt 0) (-1) (List.replicate f.cnt false) (List.replicate f.cnt 0) (by simp) n1 (fun x hx => by rw [List.length_replicate]; exact hin x (List.mem_append_left _ hx)) (fun x hx => by
    have := hin x (List.mem_append_left _ hx)
    rw [List.getElem?_replicate, if_pos (by omega)])
  rw [List.length_replicate] at a2 a3 a4 a5
  obtain ⟨s', o', b1, b2, b3, b4, b5, b6⟩ := parNs_ok (f.nd 0) 0 s1 o1 (by omega) (f.kinds 0 hk) n2 (fun x hx => by rw [a3]; exact hin x (List.mem_append_right _ hx)) (fun x hx => by
    have hxi := hin x (List.mem_append_right _ hx)
    rw [a4 x.toNat (by omega), if_neg, List.getElem?_replicate, if_pos (by omega)]
    intro h
    rw [show ((x.toNat : Nat) : Int) = x by omega] at h
    exact n3 x h x hx rfl)
  rw [a3] at b2 b3 b4 b5
  have hall : ∀ k : Nat, k < f.cnt → s'[k]? = some true := fun k hk' => by
    rw [b4 k hk']
    have h := Fo.mem (f := f) (b := 0) (x := (k : Int)) |>.2 (by omega)
    rcases List.mem_append.1 h with h | h
    · split
      · rfl
      · rw [a4 k hk', if_pos h]
    · rw [if_pos h]
  have hc : s'.contains false = false := by
    rw [List.contains_eq_any_beq, List.any_eq_false]
    intro x hx
    obtain ⟨k, hk', rfl⟩ := List.getElem_of_mem hx
    have := hall k (by omega)
    rw [List.getElem?_eq_getElem hk'] at this
    injection this with this
    rw [this]; decide
  refine ⟨o', ?_, b3, fun k hk' => ?_⟩
  · unfold parP
    rw [hln, a1]
    simp only
    rw [b1]
    simp only
    rw [hc]; rfl
  · rcases f.cover k (by omega) with h | ⟨i, hi, h⟩
    · refine ⟨-1, ?_, by omega⟩
      rw [b5 k hk' (fun e => n3 k h k e rfl), a5 k hk', if_pos h]
    · rw [kidsAt_of (by omega)] at h
      refine ⟨((0 + i : Nat) : Int), ?_, by omega⟩
      have := b6 i _ (List.getElem?_eq_getElem (by omega)) _ h
      rw [Int.toNat_natCast] at this
      exact this
theorem lev_fo {f : Fo} (hk : f.ok) : (levP (f.nd 0) (f.rt 0)).2 = true := by
  obtain ⟨o, h1, _⟩ := parP_fo hk
  unfold levP
  rw [h1, if_pos rfl]
  exact decide_eq_true (lev_full f.good f.cover)
end Go.Proofs.Ytaaealkgbklmeaa
/-
  TreeNumbersGrow answers true, whatever it is handed.
-/
namespace Go.Proofs.Ytaaealkgbklmeaa
open Go.RowKit
set_option linter.unusedVariables false
set_option linter.unusedSimpArgs false
attribute [local irreducible] Ans AnsO AnsG AnsN AnsI
set_option maxRecDepth 4000
def cntN (l : List Oq) : Nat := (l.filter fun o => !(o.kind == 3)).length
theorem cntN_le (l : List Oq) : cntN l ≤ l.length := List.length_filter_le _ _
theorem cntN_take {l : List Oq} {k : Nat} (h : k < l.length) : cntN (l.take (k + 1)) = if l[k].kind = 3 then cntN (l.take k) else cntN (l.take k) + 1 := by
  unfold cntN
  rw [List.take_add_one, List.getElem?_eq_getElem h, Option.toList_some, List.filter_append, List.length_append]
  by_cases e : l[k].kind = 3 <;> simp [e]
theorem cntN_flat : ∀ {f : Fo}, f.ok → cntN f.flat = f.cnt
  | .nil, _ => rfl
  | .draw o r, h => by
    have := cntN_flat h.2
    unfold cntN at *
    simp [Fo.flat, Fo.cnt, h.1, this]
  | .grp o k r, h => by
    have h1 := cntN_flat h.2.1
    have h2 := cntN_flat h.2.2
    unfold cntN at *
    simp [Fo.flat, Fo.cnt, h.1, h1, h2, popO]
def gamTreeNumbersGrow : Gam where
 pure := fun f xs =>
  if f = 7 then (match xs with | [.d (.sl pn pxs), .d (.bool c)] => some (RV.d (DV.sl ((listL (ints (pxs)) c).length) (ops (listL (ints (pxs)) c)))) | _ => none) else
  if f = 8 then (match xs with | [.d (.sl pn pxs)] => some (RV.tup [RV.agg [DV.sl ((buildT (toOps (pxs))).1.length) (nodesD (buildT (toOps (pxs))).1), DV.sl ((buildT (toOps (pxs))).2.1.length) (is (buildT (toOps (pxs))).2.1)], RV.d (DV.int .i64 ((buildT (toOps (pxs))).2.2))]) | _ => none) else
  if f = 9 then (match xs with | [] => some (RV.d (DV.bool true)) | _ => none) else
  if f = 10 then (match xs with | [.agg [.sl an axs, .sl ar ars]] => some (RV.d (DV.sl ((parentsP (toNodes (axs)) (ints (ars))).length) (is (parentsP (toNodes (axs)) (ints (ars)))))) | _ => none) else
  if f = 9 then (match xs with | [] => some (RV.d (DV.bool true)) | _ => none) else
  none
 modes := fun f =>
  none
 proc := fun f xs bs =>
  none
 iter := fun f cs =>
  none
def L21_TreeNumbersGrow_ann (pn : Nat) (pxs : List DV) : Ann := let zz0 := (6, AV.one (Cl.d (DV.sl ((parentsP (toNodes ((nodesD (buildT (toOps ((ops (listL (ints (pxs)) true))))).1))) (ints ((is (buildT (toOps ((ops (listL (ints (pxs)) true))))).2.1)))).length) (is (parentsP (toNodes ((nodesD (buildT (toOps ((ops (listL (ints (pxs)) true))))).1))) (ints ((is (buildT (toOps ((ops (listL (ints (pxs)) true))))).2.1)))))))); (Ann.seq Ann.leaf (Ann.seq Ann.leaf (Ann.seq Ann.leaf (Ann.seq Ann.leaf (Ann.seq Ann.leaf (Ann.seq Ann.leaf (Ann.seq (Ann.seq Ann.leaf (Ann.loop ⟨Nat, fun z => z ≤ (listL (ints (pxs)) true).length, fun z => ⟨[(3, AV.one (Cl.d (DV.sl ((listL (ints (pxs)) true).length) (ops (listL (ints (pxs)) true))))), (4, AV.one (Cl.ptr 4 0)), zz0, (7, AV.one (Cl.d (DV.int .i64 ((cntN ((listL (ints (pxs)) true).take z) : Nat) : Int)))), (8, AV.one (Cl.d (DV.int .i64 ((z : Nat) : Int))))], [(4, Bx.cells [Cl.d (DV.sl ((buildT (toOps ((ops (listL (ints (pxs)) true))))).1.length) (nodesD (buildT (toOps ((ops (listL (ints (pxs)) true))))).1)), Cl.d (DV.sl ((buildT (toOps ((ops (listL (ints (pxs)) true))))).2.1.length) (is (buildT (toOps ((ops (listL (ints (pxs)) true))))).2.1))])]⟩, fun z => (listL (ints (pxs)) true).length - z⟩ fun z => Ann.leaf)) (Ann.seq Ann.leaf (Ann.seq (Ann.seq Ann.leaf (Ann.loop ⟨Nat, fun y => y ≤ cntN (listL (ints (pxs)) true), fun y => ⟨[zz0, (7, AV.one (Cl.d (DV.int .i64 ((cntN (listL (ints (pxs)) true) : Nat) : Int)))), (9, AV.one (Cl.d (DV.int .i64 ((y : Nat) : Int))))], []⟩, fun y => cntN (listL (ints (pxs)) true) - y⟩ fun y => Ann.leaf)) Ann.leaf)))))))))
theorem L21_TreeNumbersGrow_vc (pn : Nat) (pxs : List DV) : vcg Try.prog gamTreeNumbersGrow 62 (bodyOf Try.f3) (L21_TreeNumbersGrow_ann pn pxs) kn0 (start [RV.d (DV.sl pn pxs)]) (post Try.prog Try.f3.results.toList (· = RV.d (DV.bool true))) =
  (let zz0 := (DV.sl ((listL (ints (pxs)) true).length) (ops (listL (ints (pxs)) true))); let zz1 := [DV.sl ((buildT (toOps ((ops (listL (ints (pxs)) true))))).1.length) (nodesD (buildT (toOps ((ops (listL (ints (pxs)) true))))).1), DV.sl ((buildT (toOps ((ops (listL (ints (pxs)) true))))).2.1.length) (is (buildT (toOps ((ops (listL (ints (pxs)) true))))).2.1)]; let zz2 := (Ans Try.prog 9 [] (RV.d (DV.bool true))); let zz3 := fun (z : Nat) => (z ≤ (listL (ints (pxs)) true).length); let zz4 := (DV.sl ((listL (ints (pxs)) true).length) (ops (listL (ints (pxs)) true)) = DV.sl ((listL (ints (pxs)) true).length) (ops (listL (ints (pxs)) true))); let zz5 := (DV.sl ((parentsP (toNodes ((nodesD (buildT (toOps ((ops (listL (ints (pxs)) true))))).1))) (ints ((is (buildT (toOps ((ops (listL (ints (pxs)) true))))).2.1)))).length) (is (parentsP (toNodes ((nodesD (buildT (toOps ((ops (listL (ints (pxs)) true))))).1))) (ints ((is (buildT (toOps ((ops (listL (ints (pxs)) true))))).2.1))))) = DV.sl ((parentsP (toNodes ((nodesD (buildT (toOps ((ops (listL (ints (pxs)) true))))).1))) (ints ((is (buildT (toOps ((ops (listL (ints (pxs)) true))))).2.1)))).length) (is (parentsP (toNodes ((nodesD (buildT (toOps ((ops (listL (ints (pxs)) true))))).1))) (ints ((is (buildT (toOps ((ops (listL (ints (pxs)) true))))).2.1)))))); let zz6 := ((zz1 = zz1) ∧ True); let zz7 := fun (z' : Nat) => (z' ≤ (listL (ints (pxs)) true).length); let zz8 := fun (z : Nat) => fun (z' : Nat) => ((listL (ints (pxs)) true).length - z' < (listL (ints (pxs)) true).length - z); let zz9 := fun (z : Nat) => fun (z' : Nat) => (DV.int .i64 (IntKind.wrap .i64 (((z : Nat) : Int) + (1 : Int))) = DV.int .i64 ((z' : Nat) : Int)); let zz10 := fun (y : Nat) => (y ≤ cntN (listL (ints (pxs)) true)); True ∧ True ∧ (Ans Try.prog 7 [RV.d (DV.sl pn pxs), RV.d (DV.bool true)] (RV.d zz0)) ∧ True ∧ True ∧ (Ans Try.prog 8 [RV.d zz0] (RV.tup [RV.agg zz1, RV.d (DV.int .i64 ((buildT (toOps ((ops (listL (ints (pxs)) true))))).2.2))])) ∧ True ∧ True ∧ True ∧ True ∧ True ∧ True ∧ True ∧ True ∧ (((((buildT (toOps ((ops (listL (ints (pxs)) true))))).2.2) != (0 : Int)) = true → zz2 ∧ True ∧ RV.d (DV.bool true) = RV.d (DV.bool true)) ∧ ((((buildT (toOps ((ops (listL (ints (pxs)) true))))).2.2) != (0 : Int)) = false → True ∧ (Ans Try.prog 10 [RV.agg zz1] (RV.d (DV.sl ((parentsP (toNodes ((nodesD (buildT (toOps ((ops (listL (ints (pxs)) true))))).1))) (ints ((is (buildT (toOps ((ops (listL (ints (pxs)) true))))).2.1)))).length) (is (parentsP (toNodes ((nodesD (buildT (toOps ((ops (listL (ints (pxs)) true))))).1))) (ints ((is (buildT (toOps ((ops (listL (ints (pxs)) true))))).2.1)))))))) ∧ True ∧ True ∧ True ∧ ((∃ z : Nat, (zz3 z) ∧ ((zz4 ∧ (0 = 0) ∧ zz5 ∧ (DV.int .i64 0 = DV.int .i64 ((cntN ((listL (ints (pxs)) true).take z) : Nat) : Int)) ∧ (DV.int .i64 0 = DV.int .i64 ((z : Nat) : Int)) ∧ True) ∧ zz6)) ∧ ∀ z : Nat, (zz3 z) → True ∧ True ∧ True ∧ True ∧ (((decide (((z : Nat) : Int) < (((listL (ints (pxs)) true).length : Nat) : Int))) = true → True ∧ True ∧ (0 ≤ ((z : Nat) : Int) ∧ ((z : Nat) : Int) < (((listL (ints (pxs)) true).length : Nat) : Int) ∧ ((z : Nat) : Int).toNat * 12 < (ops (listL (ints (pxs)) true)).length) ∧ True ∧ (((ops (listL (ints (pxs)) true))[((z : Nat) : Int).toNat * 12 + 0]? = some (DV.int .i64 (nAt (ops (listL (ints (pxs)) true)) (((z : Nat) : Int).toNat * 12 + 0)))) ∧ True) ∧ True ∧ ((((nAt (ops (listL (ints (pxs)) true)) (((z : Nat) : Int).toNat * 12 + 0)) != (3 : Int)) = true → True ∧ True ∧ True ∧ True ∧ True ∧ True ∧ ∃ z' : Nat, (zz7 z') ∧ (zz8 z z') ∧ ((zz4 ∧ (0 = 0) ∧ zz5 ∧ (DV.int .i64 (IntKind.wrap .i64 (((cntN ((listL (ints (pxs)) true).take z) : Nat) : Int) + (1 : Int))) = DV.int .i64 ((cntN ((listL (ints (pxs)) true).take z') : Nat) : Int)) ∧ (zz9 z z') ∧ True) ∧ zz6)) ∧ (((nAt (ops (listL (ints (pxs)) true)) (((z : Nat) : Int).toNat * 12 + 0)) != (3 : Int)) = false → True ∧ True ∧ True ∧ ∃ z' : Nat, (zz7 z') ∧ (zz8 z z') ∧ ((zz4 ∧ (0 = 0) ∧ zz5 ∧ (DV.int .i64 ((cntN ((listL (ints (pxs)) true).take z) : Nat) : Int) = DV.int .i64 ((cntN ((listL (ints (pxs)) true).take z') : Nat) : Int)) ∧ (zz9 z z') ∧ True) ∧ zz6)))) ∧ ((decide (((z : Nat) : Int) < (((listL (ints (pxs)) true).length : Nat) : Int))) = false → zz2 ∧ True ∧ True ∧ (((!true) = false → True ∧ True ∧ True ∧ True ∧ True ∧ True ∧ True ∧ ((((((buildT (toOps ((ops (listL (ints (pxs)) true))))).1.length : Nat) : Int) != ((cntN ((listL (ints (pxs)) true).take z) : Nat) : Int)) = false → True ∧ True ∧ True ∧ True ∧ True ∧ ((((((parentsP (toNodes ((nodesD (buildT (toOps ((ops (listL (ints (pxs)) true))))).1))) (ints ((is (buildT (toOps ((ops (listL (ints (pxs)) true))))).2.1)))).length : Nat) : Int) != ((cntN ((listL (ints (pxs)) true).take z) : Nat) : Int)) = true → True ∧ RV.d (DV.bool false) = RV.d (DV.bool true)) ∧ (((((parentsP (toNodes ((nodesD (buildT (toOps ((ops (listL (ints (pxs)) true))))).1))) (ints ((is (buildT (toOps ((ops (listL (ints (pxs)) true))))).2.1)))).length : Nat) : Int) != ((cntN ((listL (ints (pxs)) true).take z) : Nat) : Int)) = false → True ∧ ((∃ y : Nat, (zz10 y) ∧ ((zz5 ∧ (DV.int .i64 ((cntN ((listL (ints (pxs)) true).take z) : Nat) : Int) = DV.int .i64 ((cntN (listL (ints (pxs)) true) : Nat) : Int)) ∧ (DV.int .i64 0 = DV.int .i64 ((y : Nat) : Int)) ∧ True) ∧ (True))) ∧ ∀ y : Nat, (zz10 y) → True ∧ True ∧ True ∧ (((decide (((y : Nat) : Int) < ((cntN (listL (ints (pxs)) true) : Nat) : Int))) = true → True ∧ True ∧ (0 ≤ ((y : Nat) : Int) ∧ ((y : Nat) : Int) < (((parentsP (toNodes ((nodesD (buildT (toOps ((ops (listL (ints (pxs)) true))))).1))) (ints ((is (buildT (toOps ((ops (listL (ints (pxs)) true))))).2.1)))).length : Nat) : Int) ∧ ((y : Nat) : Int).toNat * 1 < (is (parentsP (toNodes ((nodesD (buildT (toOps ((ops (listL (ints (pxs)) true))))).1))) (ints ((is (buildT (toOps ((ops (listL (ints (pxs)) true))))).2.1))))).length) ∧ (((is (parentsP (toNodes ((nodesD (buildT (toOps ((ops (listL (ints (pxs)) true))))).1))) (ints ((is (buildT (toOps ((ops (listL (ints (pxs)) true))))).2.1)))))[((y : Nat) : Int).toNat * 1]? = some (DV.int .i64 (nAt (is (parentsP (toNodes ((nodesD (buildT (toOps ((ops (listL (ints (pxs)) true))))).1))) (ints ((is (buildT (toOps ((ops (listL (ints (pxs)) true))))).2.1))))) (((y : Nat) : Int).toNat * 1)))) ∧ True) ∧ True ∧ True ∧ (((decide ((nAt (is (parentsP (toNodes ((nodesD (buildT (toOps ((ops (listL (ints (pxs)) true))))).1))) (ints ((is (buildT (toOps ((ops (listL (ints (pxs)) true))))).2.1))))) (((y : Nat) : Int).toNat * 1)) ≥ ((y : Nat) : Int))) = true → True ∧ RV.d (DV.bool false) = RV.d (DV.bool true)) ∧ ((decide ((nAt (is (parentsP (toNodes ((nodesD (buildT (toOps ((ops (listL (ints (pxs)) true))))).1))) (ints ((is (buildT (toOps ((ops (listL (ints (pxs)) true))))).2.1))))) (((y : Nat) : Int).toNat * 1)) ≥ ((y : Nat) : Int))) = false → True ∧ True ∧ True ∧ ∃ y' : Nat, (y' ≤ cntN (listL (ints (pxs)) true)) ∧ (cntN (listL (ints (pxs)) true) - y' < cntN (listL (ints (pxs)) true) - y) ∧ ((zz5 ∧ (DV.int .i64 ((cntN (listL (ints (pxs)) true) : Nat) : Int) = DV.int .i64 ((cntN (listL (ints (pxs)) true) : Nat) : Int)) ∧ (DV.int .i64 (IntKind.wrap .i64 (((y : Nat) : Int) + (1 : Int))) = DV.int .i64 ((y' : Nat) : Int)) ∧ True) ∧ (True))))) ∧ ((decide (((y : Nat) : Int) < ((cntN (listL (ints (pxs)) true) : Nat) : Int))) = false → True ∧ RV.d (DV.bool true) = RV.d (DV.bool true))))))) ∧ (((((buildT (toOps ((ops (listL (ints (pxs)) true))))).1.length : Nat) : Int) != ((cntN ((listL (ints (pxs)) true).take z) : Nat) : Int)) = (!false) → True ∧ True ∧ RV.d (DV.bool false) = RV.d (DV.bool true)))) ∧ ((!true) = (!false) → True ∧ True ∧ True ∧ True ∧ RV.d (DV.bool false) = RV.d (DV.bool true))))))))) := by kernel_rfl
theorem L21_TreeNumbersGrow_ans (pn : Nat) (pxs : List DV) (hx : pxs = is (ints pxs) ∧ pn = pxs.length) : Ans Try.prog 3 [RV.d (DV.sl pn pxs)] (RV.d (DV.bool true)) :=
  ans_of_vcg (Γ := gamTreeNumbersGrow) (L21_TreeNumbersGrow_ann pn pxs) mixed_ Try.func3 rfl (Nat.le_of_ble_eq_true rfl) fun hwf => by
    refine Eq.mpr (L21_TreeNumbersGrow_vc pn pxs) ?_
    simp only [true_and, and_true, RV.d.injEq, RV.agg.injEq, RV.tup.injEq, DV.bool.injEq, DV.int.injEq, DV.sl.injEq, List.cons.injEq, forall_const, Bool.not_false, Bool.not_true, Bool.not_eq_true', Bool.not_eq_false', decide_eq_true_eq, decide_eq_false_iff_not, Int.toNat_natCast]
    obtain ⟨l, rfl, rfl⟩ : ∃ l, pxs = is l ∧ pn = l.length := ⟨ints pxs, hx.1, by rw [hx.2, hx.1, is_length, ints_is]⟩
    have h80 : (listL l true).length ≤ 100000 := by have := listL_len l true; omega
    have aL := L21_list_ans l true
    clear hx
    have aB := tree_Build_ans (listL l true) h80
    have hpop := listL_pops l true
    have hrel := ends_err (listL l true)
    have aZ := L21_awake_ans
    have h80' := listL_len l true
    clear hwf
    simp only [treeD, ints_is, toOps_ops, toNodes_nodesD] at aL aB ⊢
    generalize listL l true = L at *
    refine ⟨aL, aB, fun _ => aZ, fun hc => ?_⟩
    have hc : (buildT L).2.2 = 0 := by simpa using hc
    obtain ⟨f, hk, rfl⟩ := ends_parse hpop (by rw [hrel, hc])
    have hcf := cntN_flat hk
    have aP := tree_Parents_ans (f.nd 0) (f.rt 0) (by rw [f.nd_len, ← hcf]; have := cntN_le f.flat; omega) f.good
    obtain ⟨o, ho, hol, hov⟩ := parP_fo hk
    have hpar : parentsP (f.nd 0) (f.rt 0) = o := by
      unfold parentsP
      rw [if_pos (lev_fo hk), ho]
    have hnl := f.nd_len 0
    have hcl := cntN_le f.flat
    simp only [buildT_flat hk, toNodes_nodesD, ints_is, hpar, hnl, hol] at aP ⊢
    have hil : (is o).length = f.cnt := by rw [is_length, hol]
    refine ⟨aP, ⟨0, Nat.zero_le _, rfl, rfl⟩, fun z hz => ⟨fun hlt => ?_, fun hge => ?_⟩⟩
    · have hz' : z < f.flat.length := by omega
      have e1 := (ops_rd hz').1
      have e2 := (ops_at hz').1
      have w1 : IntKind.wrap .i64 ((z : Int) + 1) = ((z + 1 : Nat) : Int) := by rw [IntWalk.i64_in _ ⟨by omega, by omega⟩]; omega
      have hcz := cntN_le (f.flat.take z)
      rw [List.length_take] at hcz
      have w2 : IntKind.wrap .i64 ((cntN (f.flat.take z) : Int) + 1) = ((cntN (f.flat.take z) + 1 : Nat) : Int) := by rw [IntWalk.i64_in _ ⟨by omega, by omega⟩]; omega
      simp only [Nat.add_zero, e1, e2, w1, w2]
      refine ⟨⟨by omega, by omega, by rw [ops_length]; omega⟩, trivial, fun h => ⟨z + 1, by omega, by omega, ?_, rfl⟩, fun h => ⟨z + 1, by omega, by omega, ?_, rfl⟩⟩
      · rw [cntN_take hz', if_neg (by simpa using h)]
      · rw [cntN_take hz', if_pos (by simpa using h)]
    · have hz' : z = f.flat.length := by omega
      subst hz'
      rw [List.take_length, hcf]
      refine ⟨aZ, ⟨fun _ => ⟨fun h => ?_, fun _ => ⟨⟨0, Nat.zero_le _, rfl, rfl⟩, fun y hy => ⟨fun hlt => ?_, fun hge => trivial⟩⟩⟩, fun h => ?_⟩, fun h => h⟩
      · simp at h
      · have hy' : y < f.cnt := by omega
        obtain ⟨v, hv, hvy⟩ := hov y hy'
        have r1 : (is o)[y]? = some (.int .i64 v) := by simp [is, hv]
        have r2 : nAt (is o) y = v := by simp [nAt, r1]
        have w1 : IntKind.wrap .i64 ((y : Int) + 1) = ((y + 1 : Nat) : Int) := by rw [IntWalk.i64_in _ ⟨by omega, by omega⟩]; omega
        simp only [Nat.mul_one, r1, r2, w1, hil]
        exact ⟨⟨by omega, by omega, by omega⟩, trivial, fun h => absurd h (by omega), fun h => ⟨y + 1, by omega, by omega, rfl⟩⟩
      · simp at h
end Go.Proofs.Ytaaealkgbklmeaa
/-
  The program's own closed facts, once: each a declaration of its own.
-/
namespace Go.Proofs.Ytaaealkgbklmeaa.closed
open Go
set_option linter.unusedVariables false
set_option linter.unusedSimpArgs false
set_option maxRecDepth 100000 in
theorem headWord : Try.prog.initOrder = String.ofList [Char.ofNat 104, Char.ofNat 97, Char.ofNat 114, Char.ofNat 110, Char.ofNat 101, Char.ofNat 115, Char.ofNat 115, Char.ofNat 32, Char.ofNat 99, Char.ofNat 50, Char.ofNat 51, Char.ofNat 100, Char.ofNat 52, Char.ofNat 56, Char.ofNat 52, Char.ofNat 99, Char.ofNat 101, Char.ofNat 53, Char.ofNat 98, Char.ofNat 56, Char.ofNat 53, Char.ofNat 54, Char.ofNat 54, Char.ofNat 99, Char.ofNat 54, Char.ofNat 51, Char.ofNat 54, Char.ofNat 49, Char.ofNat 50, Char.ofNat 54, Char.ofNat 102, Char.ofNat 50, Char.ofNat 102, Char.ofNat 48, Char.ofNat 97, Char.ofNat 54, Char.ofNat 55, Char.ofNat 57, Char.ofNat 99, Char.ofNat 48, Char.ofNat 55, Char.ofNat 51, Char.ofNat 53, Char.ofNat 54, Char.ofNat 57, Char.ofNat 54, Char.ofNat 54, Char.ofNat 54, Char.ofNat 99, Char.ofNat 53, Char.ofNat 49, Char.ofNat 53, Char.ofNat 101, Char.ofNat 54, Char.ofNat 56, Char.ofNat 98, Char.ofNat 97, Char.ofNat 49, Char.ofNat 98, Char.ofNat 98, Char.ofNat 52, Char.ofNat 53, Char.ofNat 99, Char.ofNat 51, Char.ofNat 54, Char.ofNat 55, Char.ofNat 98, Char.ofNat 99, Char.ofNat 100, Char.ofNat 53, Char.ofNat 57, Char.ofNat 99, Char.ofNat 32, Char.ofNat 99, Char.ofNat 117, Char.ofNat 116, Char.ofNat 32, Char.ofNat 97, Char.ofNat 116, Char.ofNat 32, Char.ofNat 99, Char.ofNat 111, Char.ofNat 109, Char.ofNat 112, Char.ofNat 111, Char.ofNat 115, Char.ofNat 105, Char.ofNat 116, Char.ofNat 111, Char.ofNat 114, Char.ofNat 47, Char.ofNat 99, Char.ofNat 111, Char.ofNat 109, Char.ofNat 112, Char.ofNat 111, Char.ofNat 115, Char.ofNat 105, Char.ofNat 116, Char.ofNat 111, Char.ofNat 114, Char.ofNat 108, Char.ofNat 97, Char.ofNat 119, Char.ofNat 50, Char.ofNat 49, Char.ofNat 46, Char.ofNat 84, Char.ofNat 114, Char.ofNat 101, Char.ofNat 101, Char.ofNat 78, Char.ofNat 117, Char.ofNat 109, Char.ofNat 98, Char.ofNat 101, Char.ofNat 114, Char.ofNat 115, Char.ofNat 71, Char.ofNat 114, Char.ofNat 111, Char.ofNat 119, Char.ofNat 32, Char.ofNat 99, Char.ofNat 111, Char.ofNat 109, Char.ofNat 112, Char.ofNat 111, Char.ofNat 115, Char.ofNat 105, Char.ofNat 116, Char.ofNat 111, Char.ofNat 114, Char.ofNat 47, Char.ofNat 99, Char.ofNat 111, Char.ofNat 109, Char.ofNat 112, Char.ofNat 111, Char.ofNat 115, Char.ofNat 105, Char.ofNat 116, Char.ofNat 111, Char.ofNat 114, Char.ofNat 108, Char.ofNat 97, Char.ofNat 119, Char.ofNat 50, Char.ofNat 49, Char.ofNat 46, Char.ofNat 84, Char.ofNat 114, Char.ofNat 101, Char.ofNat 101, Char.ofNat 82, Char.ofNat 111, Char.ofNat 117, Char.ofNat 110, Char.ofNat 100, Char.ofNat 84, Char.ofNat 114, Char.ofNat 105, Char.ofNat 112, Char.ofNat 32, Char.ofNat 99, Char.ofNat 111, Char.ofNat 109, Char.ofNat 112, Char.ofNat 111, Char.ofNat 115, Char.ofNat 105, Char.ofNat 116, Char.ofNat 111, Char.ofNat 114, Char.ofNat 47, Char.ofNat 99, Char.ofNat 111, Char.ofNat 109, Char.ofNat 112, Char.ofNat 111, Char.ofNat 115, Char.ofNat 105, Char.ofNat 116, Char.ofNat 111, Char.ofNat 114, Char.ofNat 108, Char.ofNat 97, Char.ofNat 119, Char.ofNat 50, Char.ofNat 49, Char.ofNat 46, Char.ofNat 84, Char.ofNat 114, Char.ofNat 101, Char.ofNat 101, Char.ofNat 66, Char.ofNat 117, Char.ofNat 105, Char.ofNat 108, Char.ofNat 100, Char.ofNat 65, Char.ofNat 103, Char.ofNat 114, Char.ofNat 101, Char.ofNat 101, Char.ofNat 115, Char.ofNat 32, Char.ofNat 99, Char.ofNat 111, Char.ofNat 109, Char.ofNat 112, Char.ofNat 111, Char.ofNat 115, Char.ofNat 105, Char.ofNat 116, Char.ofNat 111, Char.ofNat 114, Char.ofNat 47, Char.ofNat 99, Char.ofNat 111, Char.ofNat 109, Char.ofNat 112, Char.ofNat 111, Char.ofNat 115, Char.ofNat 105, Char.ofNat 116, Char.ofNat 111, Char.ofNat 114, Char.ofNat 108, Char.ofNat 97, Char.ofNat 119, Char.ofNat 50, Char.ofNat 49, Char.ofNat 46, Char.ofNat 84, Char.ofNat 114, Char.ofNat 101, Char.ofNat 101, Char.ofNat 69, Char.ofNat 110, Char.ofNat 100, Char.ofNat 115, Char.ofNat 78, Char.ofNat 101, Char.ofNat 115, Char.ofNat 116] := by kernel_rfl
set_option maxRecDepth 100000 in
theorem headSigns : Try.prog.initOrder.toList = [Char.ofNat 104, Char.ofNat 97, Char.ofNat 114, Char.ofNat 110, Char.ofNat 101, Char.ofNat 115, Char.ofNat 115, Char.ofNat 32, Char.ofNat 99, Char.ofNat 50, Char.ofNat 51, Char.ofNat 100, Char.ofNat 52, Char.ofNat 56, Char.ofNat 52, Char.ofNat 99, Char.ofNat 101, Char.ofNat 53, Char.ofNat 98, Char.ofNat 56, Char.ofNat 53, Char.ofNat 54, Char.ofNat 54, Char.ofNat 99, Char.ofNat 54, Char.ofNat 51, Char.ofNat 54, Char.ofNat 49, Char.ofNat 50, Char.ofNat 54, Char.ofNat 102, Char.ofNat 50, Char.ofNat 102, Char.ofNat 48, Char.ofNat 97, Char.ofNat 54, Char.ofNat 55, Char.ofNat 57, Char.ofNat 99, Char.ofNat 48, Char.ofNat 55, Char.ofNat 51, Char.ofNat 53, Char.ofNat 54, Char.ofNat 57, Char.ofNat 54, Char.ofNat 54, Char.ofNat 54, Char.ofNat 99, Char.ofNat 53, Char.ofNat 49, Char.ofNat 53, Char.ofNat 101, Char.ofNat 54, Char.ofNat 56, Char.ofNat 98, Char.ofNat 97, Char.ofNat 49, Char.ofNat 98, Char.ofNat 98, Char.ofNat 52, Char.ofNat 53, Char.ofNat 99, Char.ofNat 51, Char.ofNat 54, Char.ofNat 55, Char.ofNat 98, Char.ofNat 99, Char.ofNat 100, Char.ofNat 53, Char.ofNat 57, Char.ofNat 99, Char.ofNat 32, Char.ofNat 99, Char.ofNat 117, Char.ofNat 116, Char.ofNat 32, Char.ofNat 97, Char.ofNat 116, Char.ofNat 32, Char.ofNat 99, Char.ofNat 111, Char.ofNat 109, Char.ofNat 112, Char.ofNat 111, Char.ofNat 115, Char.ofNat 105, Char.ofNat 116, Char.ofNat 111, Char.ofNat 114, Char.ofNat 47, Char.ofNat 99, Char.ofNat 111, Char.ofNat 109, Char.ofNat 112, Char.ofNat 111, Char.ofNat 115, Char.ofNat 105, Char.ofNat 116, Char.ofNat 111, Char.ofNat 114, Char.ofNat 108, Char.ofNat 97, Char.ofNat 119, Char.ofNat 50, Char.ofNat 49, Char.ofNat 46, Char.ofNat 84, Char.ofNat 114, Char.ofNat 101, Char.ofNat 101, Char.ofNat 78, Char.ofNat 117, Char.ofNat 109, Char.ofNat 98, Char.ofNat 101, Char.ofNat 114, Char.ofNat 115, Char.ofNat 71, Char.ofNat 114, Char.ofNat 111, Char.ofNat 119, Char.ofNat 32, Char.ofNat 99, Char.ofNat 111, Char.ofNat 109, Char.ofNat 112, Char.ofNat 111, Char.ofNat 115, Char.ofNat 105, Char.ofNat 116, Char.ofNat 111, Char.ofNat 114, Char.ofNat 47, Char.ofNat 99, Char.ofNat 111, Char.ofNat 109, Char.ofNat 112, Char.ofNat 111, Char.ofNat 115, Char.ofNat 105, Char.ofNat 116, Char.ofNat 111, Char.ofNat 114, Char.ofNat 108, Char.ofNat 97, Char.ofNat 119, Char.ofNat 50, Char.ofNat 49, Char.ofNat 46, Char.ofNat 84, Char.ofNat 114, Char.ofNat 101, Char.ofNat 101, Char.ofNat 82, Char.ofNat 111, Char.ofNat 117, Char.ofNat 110, Char.ofNat 100, Char.ofNat 84, Char.ofNat 114, Char.ofNat 105, Char.ofNat 112, Char.ofNat 32, Char.ofNat 99, Char.ofNat 111, Char.ofNat 109, Char.ofNat 112, Char.ofNat 111, Char.ofNat 115, Char.ofNat 105, Char.ofNat 116, Char.ofNat 111, Char.ofNat 114, Char.ofNat 47, Char.ofNat 99, Char.ofNat 111, Char.ofNat 109, Char.ofNat 112, Char.ofNat 111, Char.ofNat 115, Char.ofNat 105, Char.ofNat 116, Char.ofNat 111, Char.ofNat 114, Char.ofNat 108, Char.ofNat 97, Char.ofNat 119, Char.ofNat 50, Char.ofNat 49, Char.ofNat 46, Char.ofNat 84, Char.ofNat 114, Char.ofNat 101, Char.ofNat 101, Char.ofNat 66, Char.ofNat 117, Char.ofNat 105, Char.ofNat 108, Char.ofNat 100, Char.ofNat 65, Char.ofNat 103, Char.ofNat 114, Char.ofNat 101, Char.ofNat 101, Char.ofNat 115, Char.ofNat 32, Char.ofNat 99, Char.ofNat 111, Char.ofNat 109, Char.ofNat 112, Char.ofNat 111, Char.ofNat 115, Char.ofNat 105, Char.ofNat 116, Char.ofNat 111, Char.ofNat 114, Char.ofNat 47, Char.ofNat 99, Char.ofNat 111, Char.ofNat 109, Char.ofNat 112, Char.ofNat 111, Char.ofNat 115, Char.ofNat 105, Char.ofNat 116, Char.ofNat 111, Char.ofNat 114, Char.ofNat 108, Char.ofNat 97, Char.ofNat 119, Char.ofNat 50, Char.ofNat 49, Char.ofNat 46, Char.ofNat 84, Char.ofNat 114, Char.ofNat 101, Char.ofNat 101, Char.ofNat 69, Char.ofNat 110, Char.ofNat 100, Char.ofNat 115, Char.ofNat 78, Char.ofNat 101, Char.ofNat 115, Char.ofNat 116] := by rw [headWord, String.toList_ofList]
set_option maxRecDepth 100000 in
theorem enters : Try.prog.mayEnter = true := by
  unfold Program.mayEnter Program.doorFits
  rw [headSigns]
  kernel_rfl
set_option maxRecDepth 100000 in
theorem liftsNot : Try.prog.liftsFinal = false := by
  unfold Program.liftsFinal Program.headLifts
  rw [headSigns]
  kernel_rfl
set_option maxRecDepth 100000 in
theorem made : Try.prog.make = some .cut := by
  unfold Program.make
  rw [headSigns]
  kernel_rfl
theorem own : ownKnob Try.prog.godebug = none := by kernel_rfl
theorem laidOut : laidOutB Try.prog = true := by kernel_rfl
theorem mapsRow : mapsRowed Try.prog = true := by kernel_rfl
theorem noStops : (Try.prog.stops == []) = true := by kernel_rfl
theorem noKnobs : (Try.prog.stopKnobs == []) = true := by kernel_rfl
theorem plain : Try.prog.plainKeys = true := by kernel_rfl
theorem heard : Try.prog.stopsHeard = true := by kernel_rfl
end Go.Proofs.Ytaaealkgbklmeaa.closed
