/-
  Part 3 of what BoundsRectsAgree rests on.
-/
import Derived.Test.YtcaokljobfkajaaDoorBoundsRectsAgreeZ2
import Derived.Test.YtcaokljobfkajaaDoorProg
/-
  What every seat of this program has: gen.Mod.
-/
namespace Go.Proofs.YtcaokljobfkajaaDoor
open Go.RowKit
set_option linter.unusedVariables false
set_option linter.unusedSimpArgs false

theorem mixed_ : Tryd.prog.follows .mixedOrders = true := by kernel_rfl
def gamM : Gam where
 pure := fun f xs =>
  if f = 9 then (match xs with | [.d (.int _ n), .d (.int _ k)] => some (RV.d (DV.int .i64 (modS n k))) | _ => none) else
  none
 modes := fun f =>
  none
 proc := fun f xs bs =>
  none
 iter := fun f cs =>
  none

def G_Mod_ann (n : Int) (k : Int) : Ann := Ann.leaf
theorem G_Mod_vc (n : Int) (k : Int) : vcg Tryd.prog gamM 14 (bodyOf Tryd.f9) (G_Mod_ann n k) kn0 (start [RV.d (DV.int .i64 n), RV.d (DV.int .i64 k)]) (post Tryd.prog Tryd.f9.results.toList (· = RV.d (DV.int .i64 (modS n k)))) =
  ((True) ∧ (True) ∧ (True) ∧ (((decide (k < (1 : Int))) = true → (True) ∧ RV.d (DV.int .i64 (0 : Int)) = RV.d (DV.int .i64 (modS n k))) ∧ ((decide (k < (1 : Int))) = false → (True) ∧ (True) ∧ (k ≠ 0) ∧ (True) ∧ (True) ∧ (True) ∧ (k ≠ 0) ∧ (True) ∧ RV.d (DV.int .i64 (Int.tmod (IntKind.wrap .i64 ((Int.tmod n k) + k)) k)) = RV.d (DV.int .i64 (modS n k))))) := by kernel_rfl
theorem G_Mod_ans (n : Int) (k : Int) : Ans Tryd.prog 9 [RV.d (DV.int .i64 n), RV.d (DV.int .i64 k)] (RV.d (DV.int .i64 (modS n k))) :=
  ans_of_vcg (Γ := gamM) (G_Mod_ann n k) mixed_ Tryd.func9 rfl (Nat.le_of_ble_eq_true rfl) fun hwf => by
    refine Eq.mpr (G_Mod_vc n k) ?_
    simp only [true_and, and_true, RV.d.injEq, DV.int.injEq, forall_const, Bool.not_false, Bool.not_true]
    unfold modS; grind

end Go.Proofs.YtcaokljobfkajaaDoor

/-
  Lists of numbers: an element, sameness, permutations.
-/
namespace Go.Proofs.YtcaokljobfkajaaDoor
open Go.RowKit
set_option linter.unusedVariables false
set_option linter.unusedSimpArgs false
attribute [local irreducible] Ans AnsO AnsG AnsN AnsI

theorem fresh_is (e n : Nat) (b : Bool) (l : List Int) : freshOK ⟨.tup [.one (.ref 0 n), .one (.d (.bool b))], [.row e 1 (is l)], true⟩ = True := by
  simp only [freshOK, AV.flatV, AV.flatVL, Cl.flatV, DV.flat, Bx.flatVL, Bx.flatV, true_and, and_true, eq_iff_iff, iff_true]
  intro d hd
  obtain ⟨i, _, rfl⟩ := List.mem_map.1 hd
  rfl
def gamO : Gam where
 pure := fun f xs =>
  if f = 9 then (match xs with | [.d (.int _ n), .d (.int _ k)] => some (RV.d (DV.int .i64 (modS n k))) | _ => none) else
  if f = 42 then (match xs with | [.d (.sl n xs), .d (.int _ i)] => some (RV.d (DV.int .i64 (atS (ints xs) i))) | _ => none) else
  if f = 24 then (match xs with | [] => some (RV.tup [RV.tup [RV.d (DV.int .i64 3), RV.d (DV.int .i64 1)]]) | [.d (.sl n xs), .d (.int _ m)] => some (RV.d (DV.sl ((permL (ints xs) m).length) (is (permL (ints xs) m)))) | _ => none) else
  none
 modes := fun f =>
  if f = 63 then some ([true, true], 0, 1) else
  if f = 72 then some ([true, true], 0, 1) else
  none
 proc := fun f xs bs =>
  if f = 63 then (match xs, bs with | [AV.one (Cl.d (DV.sl n xs)), AV.one (Cl.d (DV.int _ m))], [] => some ⟨AV.tup [AV.one (Cl.ref 0 ((orderL (ints xs) m).length)), AV.one (Cl.d (DV.bool (orderOk (ints xs) m)))], [Bx.row 3 1 (is (orderL (ints xs) m))], true⟩ | _, _ => none) else
  if f = 72 then (match xs, bs with | [AV.one (Cl.d (DV.sl n xs)), AV.one (Cl.d (DV.int _ m))], [] => some ⟨AV.tup [AV.one (Cl.ref 0 ((orderL (ints xs) m).length)), AV.one (Cl.d (DV.bool (orderOk (ints xs) m)))], [Bx.row 3 1 (is (orderL (ints xs) m))], true⟩ | _, _ => none) else
  none
 iter := fun f cs =>
  none

def G_At_ann (n : Nat) (xs : List DV) (i : Int) : Ann := Ann.leaf
theorem G_At_vc (n : Nat) (xs : List DV) (i : Int) : vcg Tryd.prog gamO 17 (bodyOf Tryd.f42) (G_At_ann n xs i) kn0 (start [RV.d (DV.sl n xs), RV.d (DV.int .i64 i)]) (post Tryd.prog Tryd.f42.results.toList (· = RV.d (DV.int .i64 (atS (ints xs) i)))) =
  (let zz0 := (DV.int .i64 (atS (ints xs) i)); let zz1 := (DV.int .i64 (nAt xs (i.toNat * 1))); True ∧ True ∧ True ∧ True ∧ (((decide (i < (0 : Int))) = false → True ∧ True ∧ True ∧ True ∧ True ∧ (((decide (i ≥ ((n : Nat) : Int))) = true → True ∧ RV.d (DV.int .i64 0) = RV.d zz0) ∧ ((decide (i ≥ ((n : Nat) : Int))) = false → True ∧ True ∧ (0 ≤ i ∧ i < ((n : Nat) : Int) ∧ i.toNat * 1 < xs.length) ∧ ((xs[i.toNat * 1]? = some zz1) ∧ True) ∧ True ∧ RV.d zz1 = RV.d zz0))) ∧ ((decide (i < (0 : Int))) = (!false) → True ∧ True ∧ RV.d (DV.int .i64 0) = RV.d zz0))) := by kernel_rfl
theorem G_At_ans (n : Nat) (xs : List DV) (i : Int) (hx : xs = is (ints xs) ∧ n = xs.length) : Ans Tryd.prog 42 [RV.d (DV.sl n xs), RV.d (DV.int .i64 i)] (RV.d (DV.int .i64 (atS (ints xs) i))) :=
  ans_of_vcg (Γ := gamO) (G_At_ann n xs i) mixed_ Tryd.func42 rfl (Nat.le_of_ble_eq_true rfl) fun hwf => by
    refine Eq.mpr (G_At_vc n xs i) ?_
    simp only [true_and, and_true, RV.d.injEq, RV.agg.injEq, RV.tup.injEq, DV.bool.injEq, DV.int.injEq, DV.sl.injEq, List.cons.injEq, forall_const, Bool.not_false, Bool.not_true, Bool.not_eq_true', Bool.not_eq_false', decide_eq_true_eq, decide_eq_false_iff_not, Int.toNat_natCast, G_Mod_ans]
    obtain ⟨hx, rfl⟩ := hx
    generalize hl : ints xs = l at *
    subst hx
    simp only [is_length, Nat.mul_one]
    refine ⟨fun h1 => ⟨fun h2 => ?_, fun h2 => ?_⟩, fun h1 => by simp [atS, h1]⟩
    · have : l[i.toNat]? = none := List.getElem?_eq_none (by omega)
      simp [atS, h1, this]
    · have h : i.toNat < l.length := by omega
      refine ⟨by omega, ?_, ?_⟩
      · rw [nAt_is h]; exact is_at h
      · rw [nAt_is h]; simp [atS, h1, List.getElem?_eq_getElem h]

def G_Permutation_ann (n : Nat) (xs : List DV) (m : Int) : Ann := let zz0 := (0, AV.one (Cl.d (DV.sl n xs))); let zz1 := (1, AV.one (Cl.d (DV.int .i64 m))); (Ann.seq Ann.leaf (Ann.seq Ann.leaf (Ann.seq Ann.leaf (Ann.seq (Ann.seq Ann.leaf (Ann.loop ⟨Nat, fun k => k ≤ m.toNat, fun k => ⟨[zz0, zz1, (5, AV.one (Cl.ref 1005 m.toNat)), (6, AV.one (Cl.d (DV.int .i64 ((k : Nat) : Int))))], [(1005, Bx.row 3 1 (is (upto k) ++ List.replicate (m.toNat - k) (DV.int .i64 0)))]⟩, fun k => m.toNat - k⟩ fun k => Ann.leaf)) (Ann.seq Ann.leaf (Ann.seq (Ann.seq Ann.leaf (Ann.loop ⟨Nat, fun j => j ≤ m.toNat, fun j => ⟨[zz0, zz1, (5, AV.one (Cl.d (DV.sl (m.toNat - j) (is (stp (ints xs) m.toNat j).1)))), (7, AV.one (Cl.ref 1007 j)), (8, AV.one (Cl.d (DV.int .i64 ((j : Nat) : Int))))], [(1007, Bx.row 3 1 (is (stp (ints xs) m.toNat j).2))]⟩, fun j => m.toNat - j⟩ fun j => Ann.leaf)) Ann.leaf))))))
theorem G_Permutation_vc (n : Nat) (xs : List DV) (m : Int) : vcg Tryd.prog gamO 56 (bodyOf Tryd.f24) (G_Permutation_ann n xs m) kn0 (start [RV.d (DV.sl n xs), RV.d (DV.int .i64 m)]) (postO 4 3 1 ((permL (ints xs) m).length) (is (permL (ints xs) m))) =
  (let zz0 := (DV.int .i64 m = DV.int .i64 m); True ∧ True ∧ True ∧ True ∧ True ∧ (((((n : Nat) : Int) == (0 : Int)) = false → True ∧ True ∧ True ∧ (((decide (m > (64 : Int))) = true → True ∧ (permL (ints xs) m).length = 0 ∧ is (permL (ints xs) m) = []) ∧ ((decide (m > (64 : Int))) = false → True ∧ (0 ≤ m ∧ m ≤ m ∧ m ≤ ((maxLen : Nat) : Int) ∧ ((8 : Nat) : Int) * m ≤ 281474976710656) ∧ True ∧ True ∧ ((∃ k : Nat, (k ≤ m.toNat) ∧ (((DV.sl n xs = DV.sl n xs) ∧ zz0 ∧ (m.toNat = m.toNat) ∧ (DV.int .i64 0 = DV.int .i64 ((k : Nat) : Int)) ∧ True) ∧ ((List.replicate m.toNat (DV.int .i64 0) = is (upto k) ++ List.replicate (m.toNat - k) (DV.int .i64 0)) ∧ True))) ∧ ∀ k : Nat, (k ≤ m.toNat) → True ∧ True ∧ True ∧ (((decide (((k : Nat) : Int) < m)) = true → True ∧ True ∧ True ∧ (0 ≤ ((k : Nat) : Int) ∧ ((k : Nat) : Int) < ((m.toNat : Nat) : Int)) ∧ (((k : Nat) : Int).toNat * 1 + 1 ≤ (is (upto k) ++ List.replicate (m.toNat - k) (DV.int .i64 0)).length) ∧ True ∧ True ∧ True ∧ ∃ k' : Nat, (k' ≤ m.toNat) ∧ (m.toNat - k' < m.toNat - k) ∧ (((DV.sl n xs = DV.sl n xs) ∧ zz0 ∧ (m.toNat = m.toNat) ∧ (DV.int .i64 (IntKind.wrap .i64 (((k : Nat) : Int) + (1 : Int))) = DV.int .i64 ((k' : Nat) : Int)) ∧ True) ∧ ((List.set (is (upto k) ++ List.replicate (m.toNat - k) (DV.int .i64 0)) (((k : Nat) : Int).toNat * 1) (DV.int .i64 ((k : Nat) : Int)) = is (upto k') ++ List.replicate (m.toNat - k') (DV.int .i64 0)) ∧ True))) ∧ ((decide (((k : Nat) : Int) < m)) = false → True ∧ True ∧ ((∃ j : Nat, (j ≤ m.toNat) ∧ (((DV.sl n xs = DV.sl n xs) ∧ zz0 ∧ (DV.sl m.toNat (is (upto k) ++ List.replicate (m.toNat - k) (DV.int .i64 0)) = DV.sl (m.toNat - j) (is (stp (ints xs) m.toNat j).1)) ∧ (0 = j) ∧ (DV.int .i64 0 = DV.int .i64 ((j : Nat) : Int)) ∧ True) ∧ (([] = is (stp (ints xs) m.toNat j).2) ∧ True))) ∧ ∀ j : Nat, (j ≤ m.toNat) → True ∧ True ∧ True ∧ (((decide ((((m.toNat - j) : Nat) : Int) > (0 : Int))) = true → True ∧ True ∧ (Ans Tryd.prog 42 [RV.d (DV.sl n xs), RV.d (DV.int .i64 ((j : Nat) : Int))] (RV.d (DV.int .i64 (atS (ints xs) ((j : Nat) : Int))))) ∧ True ∧ True ∧ (Ans Tryd.prog 9 [RV.d (DV.int .i64 (atS (ints xs) ((j : Nat) : Int))), RV.d (DV.int .i64 (((m.toNat - j) : Nat) : Int))] (RV.d (DV.int .i64 (modS (atS (ints xs) ((j : Nat) : Int)) (((m.toNat - j) : Nat) : Int))))) ∧ True ∧ True ∧ True ∧ True ∧ (0 ≤ modS (atS (ints xs) ((j : Nat) : Int)) (((m.toNat - j) : Nat) : Int) ∧ modS (atS (ints xs) ((j : Nat) : Int)) (((m.toNat - j) : Nat) : Int) < (((m.toNat - j) : Nat) : Int) ∧ (modS (atS (ints xs) ((j : Nat) : Int)) (((m.toNat - j) : Nat) : Int)).toNat * 1 < (is (stp (ints xs) m.toNat j).1).length) ∧ (((is (stp (ints xs) m.toNat j).1)[(modS (atS (ints xs) ((j : Nat) : Int)) (((m.toNat - j) : Nat) : Int)).toNat * 1]? = some (DV.int .i64 (nAt (is (stp (ints xs) m.toNat j).1) ((modS (atS (ints xs) ((j : Nat) : Int)) (((m.toNat - j) : Nat) : Int)).toNat * 1)))) ∧ True) ∧ True ∧ (appVc 1 8 j 1 (is (stp (ints xs) m.toNat j).2) ([DV.int .i64 (nAt (is (stp (ints xs) m.toNat j).1) ((modS (atS (ints xs) ((j : Nat) : Int)) (((m.toNat - j) : Nat) : Int)).toNat * 1))])) ∧ True ∧ True ∧ True ∧ (0 ≤ (0 : Int) ∧ (0 : Int) ≤ modS (atS (ints xs) ((j : Nat) : Int)) (((m.toNat - j) : Nat) : Int) ∧ modS (atS (ints xs) ((j : Nat) : Int)) (((m.toNat - j) : Nat) : Int) ≤ (((m.toNat - j) : Nat) : Int)) ∧ (appVc 1 8 0 ((modS (atS (ints xs) ((j : Nat) : Int)) (((m.toNat - j) : Nat) : Int) - (0 : Int)).toNat) ([]) (List.take ((modS (atS (ints xs) ((j : Nat) : Int)) (((m.toNat - j) : Nat) : Int) - (0 : Int)).toNat * 1) (List.drop ((0 : Int).toNat * 1) (is (stp (ints xs) m.toNat j).1)))) ∧ True ∧ True ∧ True ∧ (0 ≤ IntKind.wrap .i64 ((modS (atS (ints xs) ((j : Nat) : Int)) (((m.toNat - j) : Nat) : Int)) + (1 : Int)) ∧ IntKind.wrap .i64 ((modS (atS (ints xs) ((j : Nat) : Int)) (((m.toNat - j) : Nat) : Int)) + (1 : Int)) ≤ (((m.toNat - j) : Nat) : Int) ∧ (((m.toNat - j) : Nat) : Int) ≤ (((m.toNat - j) : Nat) : Int)) ∧ (appVc 1 8 ((modS (atS (ints xs) ((j : Nat) : Int)) (((m.toNat - j) : Nat) : Int) - (0 : Int)).toNat) (((((m.toNat - j) : Nat) : Int) - IntKind.wrap .i64 ((modS (atS (ints xs) ((j : Nat) : Int)) (((m.toNat - j) : Nat) : Int)) + (1 : Int))).toNat) (List.take ((modS (atS (ints xs) ((j : Nat) : Int)) (((m.toNat - j) : Nat) : Int) - (0 : Int)).toNat * 1) (List.drop ((0 : Int).toNat * 1) (is (stp (ints xs) m.toNat j).1))) (List.take (((((m.toNat - j) : Nat) : Int) - IntKind.wrap .i64 ((modS (atS (ints xs) ((j : Nat) : Int)) (((m.toNat - j) : Nat) : Int)) + (1 : Int))).toNat * 1) (List.drop ((IntKind.wrap .i64 ((modS (atS (ints xs) ((j : Nat) : Int)) (((m.toNat - j) : Nat) : Int)) + (1 : Int))).toNat * 1) (is (stp (ints xs) m.toNat j).1)))) ∧ True ∧ (true = true) ∧ True ∧ True ∧ True ∧ ∃ j' : Nat, (j' ≤ m.toNat) ∧ (m.toNat - j' < m.toNat - j) ∧ (((DV.sl n xs = DV.sl n xs) ∧ zz0 ∧ (DV.sl (((modS (atS (ints xs) ((j : Nat) : Int)) (((m.toNat - j) : Nat) : Int) - (0 : Int)).toNat) + (((((m.toNat - j) : Nat) : Int) - IntKind.wrap .i64 ((modS (atS (ints xs) ((j : Nat) : Int)) (((m.toNat - j) : Nat) : Int)) + (1 : Int))).toNat)) ((List.take ((modS (atS (ints xs) ((j : Nat) : Int)) (((m.toNat - j) : Nat) : Int) - (0 : Int)).toNat * 1) (List.drop ((0 : Int).toNat * 1) (is (stp (ints xs) m.toNat j).1))) ++ (List.take (((((m.toNat - j) : Nat) : Int) - IntKind.wrap .i64 ((modS (atS (ints xs) ((j : Nat) : Int)) (((m.toNat - j) : Nat) : Int)) + (1 : Int))).toNat * 1) (List.drop ((IntKind.wrap .i64 ((modS (atS (ints xs) ((j : Nat) : Int)) (((m.toNat - j) : Nat) : Int)) + (1 : Int))).toNat * 1) (is (stp (ints xs) m.toNat j).1)))) = DV.sl (m.toNat - j') (is (stp (ints xs) m.toNat j').1)) ∧ (j + 1 = j') ∧ (DV.int .i64 (IntKind.wrap .i64 (((j : Nat) : Int) + (1 : Int))) = DV.int .i64 ((j' : Nat) : Int)) ∧ True) ∧ (((is (stp (ints xs) m.toNat j).2) ++ ([DV.int .i64 (nAt (is (stp (ints xs) m.toNat j).1) ((modS (atS (ints xs) ((j : Nat) : Int)) (((m.toNat - j) : Nat) : Int)).toNat * 1))]) = is (stp (ints xs) m.toNat j').2) ∧ True))) ∧ ((decide ((((m.toNat - j) : Nat) : Int) > (0 : Int))) = false → True ∧ True ∧ (3 = 3 ∧ 1 = 1) ∧ (is (permL (ints xs) m)).length = ((permL (ints xs) m).length) * 1 ∧ j = (permL (ints xs) m).length ∧ is (stp (ints xs) m.toNat j).2 = is (permL (ints xs) m)))))))))) ∧ ((((n : Nat) : Int) == (0 : Int)) = (!false) → True ∧ True ∧ (permL (ints xs) m).length = 0 ∧ is (permL (ints xs) m) = []))) := by kernel_rfl
theorem G_Permutation_ans (n : Nat) (xs : List DV) (m : Int) (hx : xs = is (ints xs) ∧ n = xs.length) (hm : 0 ≤ m) : AnsO Tryd.prog 24 [RV.d (DV.sl n xs), RV.d (DV.int .i64 m)] 3 1 ((permL (ints xs) m).length) (is (permL (ints xs) m)) :=
  ans_of_vcg_own (t := 4) (Γ := gamO) (G_Permutation_ann n xs m) mixed_ Tryd.func24 rfl (Nat.le_of_ble_eq_true rfl) rfl fun hwf => by
    refine Eq.mpr (G_Permutation_vc n xs m) ?_
    simp only [true_and, and_true, RV.d.injEq, RV.agg.injEq, RV.tup.injEq, DV.bool.injEq, DV.int.injEq, DV.sl.injEq, List.cons.injEq, forall_const, Bool.not_false, Bool.not_true, Bool.not_eq_true', Bool.not_eq_false', decide_eq_true_eq, decide_eq_false_iff_not, Int.toNat_natCast, G_Mod_ans]
    obtain ⟨hx, rfl⟩ := hx
    generalize hl : ints xs = l at *
    subst hx
    have z0 : l.length = 0 → permL l m = [] := fun h => by simp [permL, h]
    have z1 : 64 < m → permL l m = [] := fun h => by simp [permL, h]
    refine ⟨fun hne => ⟨fun hbig => by rw [z1 hbig]; exact ⟨rfl, rfl⟩, fun hsm => ?_⟩, fun he => by rw [z0 (by simpa [is_length] using he)]; exact ⟨rfl, rfl⟩⟩
    have hll : l.length ≠ 0 := by simpa [is_length] using hne
    have hp : permL l m = (stp l m.toNat m.toNat).2 := by unfold permL; rw [if_neg (by omega)]
    obtain ⟨N, rfl⟩ : ∃ N : Nat, m = (N : Int) := ⟨m.toNat, by omega⟩
    rw [hp]
    simp only [Int.toNat_natCast, Nat.mul_one, maxLen]
    have hN : N ≤ 64 := by omega
    have wr : ∀ n : Int, -1000000 ≤ n → n ≤ 1000000 → IntKind.wrap .i64 n = n := fun n h h' => by rw [IntKind.wrap_i64]; omega
    refine ⟨by omega, ⟨0, Nat.zero_le _, rfl, by simp [upto, is]⟩, fun k hk => ⟨fun hlt => ?_, fun hge => ⟨⟨0, Nat.zero_le _, ⟨⟨rfl, ?_⟩, rfl, rfl⟩, rfl⟩, fun j hj => ⟨fun hlt => ?_, fun hge => ?_⟩⟩⟩⟩
    · refine ⟨by omega, by rw [List.length_append, is_length, upto_len, List.length_replicate]; omega, k + 1, by omega, by omega, by rw [wr _ (by omega) (by omega)]; omega, fill_step (by omega)⟩
    · have : k = N := by omega
      subst this
      simp [stp]
    · obtain ⟨h1, h2⟩ := stp_len l hN j (by omega)
      have hK := modS_lt (v := atS l j) (m := (stp l N j).1.length) (by omega) (by omega)
      have e1 : (stp l N (j + 1)).1 = (stp l N j).1.take (modS (atS l j) (stp l N j).1.length).toNat ++ (stp l N j).1.drop ((modS (atS l j) (stp l N j).1.length).toNat + 1) := rfl
      have e2 : (stp l N (j + 1)).2 = (stp l N j).2 ++ [((stp l N j).1[(modS (atS l j) (stp l N j).1.length).toNat]?).getD 0] := rfl
      have ha := G_At_ans l.length (is l) (j : Int) ⟨by rw [ints_is], by rw [is_length]⟩
      rw [ints_is] at ha
      generalize (stp l N j).1 = r at *
      generalize (stp l N j).2 = o at *
      subst h2
      rw [h1] at hK e1 e2
      generalize hg : modS (atS l (o.length : Int)) ((N - o.length : Nat) : Int) = g at *
      obtain ⟨K, rfl⟩ : ∃ K : Nat, g = (K : Int) := ⟨g.toNat, by omega⟩
      simp only [Int.toNat_natCast] at hK e1 e2 ⊢
      have w1 : IntKind.wrap .i64 ((K : Int) + 1) = ((K + 1 : Nat) : Int) := by rw [wr _ (by omega) (by omega)]; omega
      have t1 : ((K : Int) - 0).toNat = K := by omega
      have t2 : (((N - o.length : Nat) : Int) - ((K + 1 : Nat) : Int)).toNat = N - o.length - (K + 1) := by omega
      have t3 : Int.toNat 0 = 0 := rfl
      have hKr : K < r.length := by omega
      have d1 : List.take (N - o.length - (K + 1)) (List.drop (K + 1) (is r)) = is (r.drop (K + 1)) := by rw [is_drop, List.take_of_length_le (by rw [is_length, List.length_drop]; omega)]
      simp only [w1, t1, t2, t3, Int.toNat_natCast, List.drop_zero, d1, is_take, is_length, appVc, Nat.mul_one, is_append, nAt_is hKr, List.getElem?_eq_getElem hKr, Option.getD_some, maxLen] at e2 ⊢
      refine ⟨ha, ⟨by omega, by omega, hKr⟩, is_at hKr, ⟨trivial, rfl, by omega, by omega⟩, by omega, ⟨rfl, ?_, by omega, by omega⟩, by omega, ⟨?_, ?_, by omega, by omega⟩, o.length + 1, by omega, by omega, ⟨⟨by omega, by rw [e1]⟩, rfl, by rw [wr _ (by omega) (by omega)]; omega⟩, by rw [e2, ← is_append]; rfl⟩
      all_goals simp
      all_goals omega
    · have : j = N := by omega
      subst this
      have h2 := (stp_len l hN j (Nat.le_refl _)).2
      rw [is_length, h2]
      exact ⟨rfl, rfl, rfl⟩

def tile_Order_ann (n : Nat) (xs : List DV) (m : Int) : Ann := (Ann.seq Ann.leaf (Ann.seq Ann.leaf (Ann.seq Ann.leaf (Ann.seq Ann.leaf (Ann.seq (Ann.seq Ann.leaf (Ann.loop ⟨Nat, fun k => k ≤ m.toNat ∧ goodP ((seqL (ints xs) m).take k) m, fun k => ⟨[(0, AV.one (Cl.d (DV.sl n xs))), (1, AV.one (Cl.d (DV.int .i64 m))), (6, AV.one (Cl.ref 1006 m.toNat)), (7, AV.one (Cl.ref 1007 m.toNat)), (31, AV.one (Cl.d (DV.int .i64 ((m.toNat : Nat) : Int)))), (32, AV.one (Cl.d (DV.int .i64 ((k : Nat) : Int))))], [(1006, Bx.row 3 1 (fillL (seqL (ints xs) m) k)), (1007, Bx.row 4 1 (seenL ((seqL (ints xs) m).take k) m.toNat))]⟩, fun k => m.toNat - k⟩ fun k => Ann.leaf)) Ann.leaf)))))
theorem tile_Order_vc (n : Nat) (xs : List DV) (m : Int) : vcg Tryd.prog gamO ⟨79, fun _ => false, List.range 0, false⟩ (bodyOf Tryd.f63) (tile_Order_ann n xs m) kn0 (startG [AV.one (Cl.d (DV.sl n xs)), AV.one (Cl.d (DV.int .i64 m))] []) (postG Tryd.prog ⟨79, fun _ => false, List.range 0, false⟩ Tryd.f63.results.toList ⟨AV.tup [AV.one (Cl.ref 0 ((orderL (ints xs) m).length)), AV.one (Cl.d (DV.bool (orderOk (ints xs) m)))], [Bx.row 3 1 (is (orderL (ints xs) m))], true⟩) =
  (let zz0 := ((((0 = (orderL (ints xs) m).length) ∧ (DV.bool false = DV.bool (orderOk (ints xs) m)) ∧ True) ∧ True) ∧ (([] = is (orderL (ints xs) m)) ∧ True)); let zz1 := (0 ≤ m ∧ m ≤ m ∧ m ≤ ((maxLen : Nat) : Int) ∧ ((8 : Nat) : Int) * m ≤ 281474976710656); let zz2 := (0 ≤ m ∧ m ≤ m ∧ m ≤ ((maxLen : Nat) : Int) ∧ ((1 : Nat) : Int) * m ≤ 281474976710656); let zz3 := fun (k : Nat) => (k ≤ m.toNat ∧ goodP ((seqL (ints xs) m).take k) m); let zz4 := (DV.int .i64 m = DV.int .i64 m); let zz5 := (DV.int .i64 ((m.toNat : Nat) : Int) = DV.int .i64 ((m.toNat : Nat) : Int)); let zz6 := fun (k : Nat) => (0 ≤ ((k : Nat) : Int) ∧ ((k : Nat) : Int) < ((m.toNat : Nat) : Int)); let zz7 := fun (k : Nat) => (((List.set (List.set (fillL (seqL (ints xs) m) k) (((k : Nat) : Int).toNat * 1) (DV.int .i64 ((k : Nat) : Int))) (((k : Nat) : Int).toNat * 1) (DV.int .i64 (nAt xs (((k : Nat) : Int).toNat * 1))))[((k : Nat) : Int).toNat * 1]? = some (DV.int .i64 (nAt (List.set (List.set (fillL (seqL (ints xs) m) k) (((k : Nat) : Int).toNat * 1) (DV.int .i64 ((k : Nat) : Int))) (((k : Nat) : Int).toNat * 1) (DV.int .i64 (nAt xs (((k : Nat) : Int).toNat * 1)))) (((k : Nat) : Int).toNat * 1)))) ∧ True); let zz8 := fun (k : Nat) => (0 ≤ nAt (List.set (List.set (fillL (seqL (ints xs) m) k) (((k : Nat) : Int).toNat * 1) (DV.int .i64 ((k : Nat) : Int))) (((k : Nat) : Int).toNat * 1) (DV.int .i64 (nAt xs (((k : Nat) : Int).toNat * 1)))) (((k : Nat) : Int).toNat * 1) ∧ nAt (List.set (List.set (fillL (seqL (ints xs) m) k) (((k : Nat) : Int).toNat * 1) (DV.int .i64 ((k : Nat) : Int))) (((k : Nat) : Int).toNat * 1) (DV.int .i64 (nAt xs (((k : Nat) : Int).toNat * 1)))) (((k : Nat) : Int).toNat * 1) < ((m.toNat : Nat) : Int)); let zz9 := fun (k' : Nat) => (k' ≤ m.toNat ∧ goodP ((seqL (ints xs) m).take k') m); let zz10 := fun (k : Nat) => fun (k' : Nat) => (m.toNat - k' < m.toNat - k); let zz11 := fun (k : Nat) => fun (k' : Nat) => ((DV.sl n xs = DV.sl n xs) ∧ zz4 ∧ (m.toNat = m.toNat) ∧ (m.toNat = m.toNat) ∧ zz5 ∧ (DV.int .i64 (IntKind.wrap .i64 (((k : Nat) : Int) + (1 : Int))) = DV.int .i64 ((k' : Nat) : Int)) ∧ True); let zz12 := fun (k : Nat) => (((List.set (fillL (seqL (ints xs) m) k) (((k : Nat) : Int).toNat * 1) (DV.int .i64 ((k : Nat) : Int)))[((k : Nat) : Int).toNat * 1]? = some (DV.int .i64 (nAt (List.set (fillL (seqL (ints xs) m) k) (((k : Nat) : Int).toNat * 1) (DV.int .i64 ((k : Nat) : Int))) (((k : Nat) : Int).toNat * 1)))) ∧ True); let zz13 := fun (k : Nat) => (0 ≤ nAt (List.set (fillL (seqL (ints xs) m) k) (((k : Nat) : Int).toNat * 1) (DV.int .i64 ((k : Nat) : Int))) (((k : Nat) : Int).toNat * 1) ∧ nAt (List.set (fillL (seqL (ints xs) m) k) (((k : Nat) : Int).toNat * 1) (DV.int .i64 ((k : Nat) : Int))) (((k : Nat) : Int).toNat * 1) < ((m.toNat : Nat) : Int)); True ∧ True ∧ True ∧ True ∧ True ∧ (((decide (m < (0 : Int))) = false → True ∧ True ∧ True ∧ True ∧ (((decide (m > (16777216 : Int))) = false → True ∧ True ∧ True ∧ True ∧ (((((n : Nat) : Int) != (0 : Int)) = true → True ∧ True ∧ True ∧ True ∧ True ∧ True ∧ (((((n : Nat) : Int) != m) = true → True ∧ True ∧ zz0 ∧ freshOK ⟨AV.tup [AV.one (Cl.ref 0 ((orderL (ints xs) m).length)), AV.one (Cl.d (DV.bool (orderOk (ints xs) m)))], [Bx.row 3 1 (is (orderL (ints xs) m))], true⟩) ∧ ((((n : Nat) : Int) != m) = false → True ∧ zz1 ∧ True ∧ True ∧ zz2 ∧ True ∧ True ∧ (m.toNat ≤ maxLen) ∧ True ∧ ((∃ k : Nat, (zz3 k) ∧ (((DV.sl n xs = DV.sl n xs) ∧ zz4 ∧ (m.toNat = m.toNat) ∧ (m.toNat = m.toNat) ∧ zz5 ∧ (DV.int .i64 0 = DV.int .i64 ((k : Nat) : Int)) ∧ True) ∧ ((List.replicate m.toNat (DV.int .i64 0) = fillL (seqL (ints xs) m) k) ∧ (List.replicate m.toNat (DV.bool false) = seenL ((seqL (ints xs) m).take k) m.toNat) ∧ True))) ∧ ∀ k : Nat, (zz3 k) → True ∧ (((decide (((k : Nat) : Int) < ((m.toNat : Nat) : Int))) = true → True ∧ True ∧ True ∧ True ∧ True ∧ (zz6 k) ∧ (((k : Nat) : Int).toNat * 1 + 1 ≤ (fillL (seqL (ints xs) m) k).length) ∧ True ∧ True ∧ True ∧ (((decide (((n : Nat) : Int) > (0 : Int))) = true → True ∧ True ∧ True ∧ True ∧ (0 ≤ ((k : Nat) : Int) ∧ ((k : Nat) : Int) < ((n : Nat) : Int) ∧ ((k : Nat) : Int).toNat * 1 < xs.length) ∧ ((xs[((k : Nat) : Int).toNat * 1]? = some (DV.int .i64 (nAt xs (((k : Nat) : Int).toNat * 1)))) ∧ True) ∧ (zz6 k) ∧ (((k : Nat) : Int).toNat * 1 + 1 ≤ (List.set (fillL (seqL (ints xs) m) k) (((k : Nat) : Int).toNat * 1) (DV.int .i64 ((k : Nat) : Int))).length) ∧ True ∧ True ∧ (zz6 k) ∧ (zz7 k) ∧ True ∧ True ∧ (((decide ((nAt (List.set (List.set (fillL (seqL (ints xs) m) k) (((k : Nat) : Int).toNat * 1) (DV.int .i64 ((k : Nat) : Int))) (((k : Nat) : Int).toNat * 1) (DV.int .i64 (nAt xs (((k : Nat) : Int).toNat * 1)))) (((k : Nat) : Int).toNat * 1)) < (0 : Int))) = false → True ∧ True ∧ (zz6 k) ∧ (zz7 k) ∧ True ∧ True ∧ True ∧ True ∧ (((decide ((nAt (List.set (List.set (fillL (seqL (ints xs) m) k) (((k : Nat) : Int).toNat * 1) (DV.int .i64 ((k : Nat) : Int))) (((k : Nat) : Int).toNat * 1) (DV.int .i64 (nAt xs (((k : Nat) : Int).toNat * 1)))) (((k : Nat) : Int).toNat * 1)) ≥ m)) = false → True ∧ True ∧ True ∧ (zz6 k) ∧ (zz7 k) ∧ (zz8 k) ∧ (((seenL ((seqL (ints xs) m).take k) m.toNat)[(nAt (List.set (List.set (fillL (seqL (ints xs) m) k) (((k : Nat) : Int).toNat * 1) (DV.int .i64 ((k : Nat) : Int))) (((k : Nat) : Int).toNat * 1) (DV.int .i64 (nAt xs (((k : Nat) : Int).toNat * 1)))) (((k : Nat) : Int).toNat * 1)).toNat * 1]? = some (DV.bool (bAt (seenL ((seqL (ints xs) m).take k) m.toNat) ((nAt (List.set (List.set (fillL (seqL (ints xs) m) k) (((k : Nat) : Int).toNat * 1) (DV.int .i64 ((k : Nat) : Int))) (((k : Nat) : Int).toNat * 1) (DV.int .i64 (nAt xs (((k : Nat) : Int).toNat * 1)))) (((k : Nat) : Int).toNat * 1)).toNat * 1)))) ∧ True) ∧ True ∧ (((bAt (seenL ((seqL (ints xs) m).take k) m.toNat) ((nAt (List.set (List.set (fillL (seqL (ints xs) m) k) (((k : Nat) : Int).toNat * 1) (DV.int .i64 ((k : Nat) : Int))) (((k : Nat) : Int).toNat * 1) (DV.int .i64 (nAt xs (((k : Nat) : Int).toNat * 1)))) (((k : Nat) : Int).toNat * 1)).toNat * 1)) = true → True ∧ True ∧ zz0 ∧ freshOK ⟨AV.tup [AV.one (Cl.ref 0 ((orderL (ints xs) m).length)), AV.one (Cl.d (DV.bool (orderOk (ints xs) m)))], [Bx.row 3 1 (is (orderL (ints xs) m))], true⟩) ∧ ((bAt (seenL ((seqL (ints xs) m).take k) m.toNat) ((nAt (List.set (List.set (fillL (seqL (ints xs) m) k) (((k : Nat) : Int).toNat * 1) (DV.int .i64 ((k : Nat) : Int))) (((k : Nat) : Int).toNat * 1) (DV.int .i64 (nAt xs (((k : Nat) : Int).toNat * 1)))) (((k : Nat) : Int).toNat * 1)).toNat * 1)) = false → True ∧ True ∧ True ∧ (zz6 k) ∧ (zz7 k) ∧ (zz8 k) ∧ ((nAt (List.set (List.set (fillL (seqL (ints xs) m) k) (((k : Nat) : Int).toNat * 1) (DV.int .i64 ((k : Nat) : Int))) (((k : Nat) : Int).toNat * 1) (DV.int .i64 (nAt xs (((k : Nat) : Int).toNat * 1)))) (((k : Nat) : Int).toNat * 1)).toNat * 1 + 1 ≤ (seenL ((seqL (ints xs) m).take k) m.toNat).length) ∧ True ∧ True ∧ ∃ k' : Nat, (zz9 k') ∧ (zz10 k k') ∧ ((zz11 k k') ∧ ((List.set (List.set (fillL (seqL (ints xs) m) k) (((k : Nat) : Int).toNat * 1) (DV.int .i64 ((k : Nat) : Int))) (((k : Nat) : Int).toNat * 1) (DV.int .i64 (nAt xs (((k : Nat) : Int).toNat * 1))) = fillL (seqL (ints xs) m) k') ∧ (List.set (seenL ((seqL (ints xs) m).take k) m.toNat) ((nAt (List.set (List.set (fillL (seqL (ints xs) m) k) (((k : Nat) : Int).toNat * 1) (DV.int .i64 ((k : Nat) : Int))) (((k : Nat) : Int).toNat * 1) (DV.int .i64 (nAt xs (((k : Nat) : Int).toNat * 1)))) (((k : Nat) : Int).toNat * 1)).toNat * 1) (DV.bool true) = seenL ((seqL (ints xs) m).take k') m.toNat) ∧ True))))) ∧ ((decide ((nAt (List.set (List.set (fillL (seqL (ints xs) m) k) (((k : Nat) : Int).toNat * 1) (DV.int .i64 ((k : Nat) : Int))) (((k : Nat) : Int).toNat * 1) (DV.int .i64 (nAt xs (((k : Nat) : Int).toNat * 1)))) (((k : Nat) : Int).toNat * 1)) ≥ m)) = (!false) → True ∧ True ∧ True ∧ zz0 ∧ freshOK ⟨AV.tup [AV.one (Cl.ref 0 ((orderL (ints xs) m).length)), AV.one (Cl.d (DV.bool (orderOk (ints xs) m)))], [Bx.row 3 1 (is (orderL (ints xs) m))], true⟩))) ∧ ((decide ((nAt (List.set (List.set (fillL (seqL (ints xs) m) k) (((k : Nat) : Int).toNat * 1) (DV.int .i64 ((k : Nat) : Int))) (((k : Nat) : Int).toNat * 1) (DV.int .i64 (nAt xs (((k : Nat) : Int).toNat * 1)))) (((k : Nat) : Int).toNat * 1)) < (0 : Int))) = (!false) → True ∧ True ∧ True ∧ True ∧ True ∧ zz0 ∧ freshOK ⟨AV.tup [AV.one (Cl.ref 0 ((orderL (ints xs) m).length)), AV.one (Cl.d (DV.bool (orderOk (ints xs) m)))], [Bx.row 3 1 (is (orderL (ints xs) m))], true⟩))) ∧ ((decide (((n : Nat) : Int) > (0 : Int))) = false → True ∧ True ∧ (zz6 k) ∧ (zz12 k) ∧ True ∧ True ∧ (((decide ((nAt (List.set (fillL (seqL (ints xs) m) k) (((k : Nat) : Int).toNat * 1) (DV.int .i64 ((k : Nat) : Int))) (((k : Nat) : Int).toNat * 1)) < (0 : Int))) = false → True ∧ True ∧ (zz6 k) ∧ (zz12 k) ∧ True ∧ True ∧ True ∧ True ∧ (((decide ((nAt (List.set (fillL (seqL (ints xs) m) k) (((k : Nat) : Int).toNat * 1) (DV.int .i64 ((k : Nat) : Int))) (((k : Nat) : Int).toNat * 1)) ≥ m)) = false → True ∧ True ∧ True ∧ (zz6 k) ∧ (zz12 k) ∧ (zz13 k) ∧ (((seenL ((seqL (ints xs) m).take k) m.toNat)[(nAt (List.set (fillL (seqL (ints xs) m) k) (((k : Nat) : Int).toNat * 1) (DV.int .i64 ((k : Nat) : Int))) (((k : Nat) : Int).toNat * 1)).toNat * 1]? = some (DV.bool (bAt (seenL ((seqL (ints xs) m).take k) m.toNat) ((nAt (List.set (fillL (seqL (ints xs) m) k) (((k : Nat) : Int).toNat * 1) (DV.int .i64 ((k : Nat) : Int))) (((k : Nat) : Int).toNat * 1)).toNat * 1)))) ∧ True) ∧ True ∧ (((bAt (seenL ((seqL (ints xs) m).take k) m.toNat) ((nAt (List.set (fillL (seqL (ints xs) m) k) (((k : Nat) : Int).toNat * 1) (DV.int .i64 ((k : Nat) : Int))) (((k : Nat) : Int).toNat * 1)).toNat * 1)) = true → True ∧ True ∧ zz0 ∧ freshOK ⟨AV.tup [AV.one (Cl.ref 0 ((orderL (ints xs) m).length)), AV.one (Cl.d (DV.bool (orderOk (ints xs) m)))], [Bx.row 3 1 (is (orderL (ints xs) m))], true⟩) ∧ ((bAt (seenL ((seqL (ints xs) m).take k) m.toNat) ((nAt (List.set (fillL (seqL (ints xs) m) k) (((k : Nat) : Int).toNat * 1) (DV.int .i64 ((k : Nat) : Int))) (((k : Nat) : Int).toNat * 1)).toNat * 1)) = false → True ∧ True ∧ True ∧ (zz6 k) ∧ (zz12 k) ∧ (zz13 k) ∧ ((nAt (List.set (fillL (seqL (ints xs) m) k) (((k : Nat) : Int).toNat * 1) (DV.int .i64 ((k : Nat) : Int))) (((k : Nat) : Int).toNat * 1)).toNat * 1 + 1 ≤ (seenL ((seqL (ints xs) m).take k) m.toNat).length) ∧ True ∧ True ∧ ∃ k' : Nat, (zz9 k') ∧ (zz10 k k') ∧ ((zz11 k k') ∧ ((List.set (fillL (seqL (ints xs) m) k) (((k : Nat) : Int).toNat * 1) (DV.int .i64 ((k : Nat) : Int)) = fillL (seqL (ints xs) m) k') ∧ (List.set (seenL ((seqL (ints xs) m).take k) m.toNat) ((nAt (List.set (fillL (seqL (ints xs) m) k) (((k : Nat) : Int).toNat * 1) (DV.int .i64 ((k : Nat) : Int))) (((k : Nat) : Int).toNat * 1)).toNat * 1) (DV.bool true) = seenL ((seqL (ints xs) m).take k') m.toNat) ∧ True))))) ∧ ((decide ((nAt (List.set (fillL (seqL (ints xs) m) k) (((k : Nat) : Int).toNat * 1) (DV.int .i64 ((k : Nat) : Int))) (((k : Nat) : Int).toNat * 1)) ≥ m)) = (!false) → True ∧ True ∧ True ∧ zz0 ∧ freshOK ⟨AV.tup [AV.one (Cl.ref 0 ((orderL (ints xs) m).length)), AV.one (Cl.d (DV.bool (orderOk (ints xs) m)))], [Bx.row 3 1 (is (orderL (ints xs) m))], true⟩))) ∧ ((decide ((nAt (List.set (fillL (seqL (ints xs) m) k) (((k : Nat) : Int).toNat * 1) (DV.int .i64 ((k : Nat) : Int))) (((k : Nat) : Int).toNat * 1)) < (0 : Int))) = (!false) → True ∧ True ∧ True ∧ True ∧ True ∧ zz0 ∧ freshOK ⟨AV.tup [AV.one (Cl.ref 0 ((orderL (ints xs) m).length)), AV.one (Cl.d (DV.bool (orderOk (ints xs) m)))], [Bx.row 3 1 (is (orderL (ints xs) m))], true⟩))))) ∧ ((decide (((k : Nat) : Int) < ((m.toNat : Nat) : Int))) = false → True ∧ True ∧ True ∧ ((((m.toNat = (orderL (ints xs) m).length) ∧ (DV.bool true = DV.bool (orderOk (ints xs) m)) ∧ True) ∧ True) ∧ ((fillL (seqL (ints xs) m) k = is (orderL (ints xs) m)) ∧ True)) ∧ freshOK ⟨AV.tup [AV.one (Cl.ref 0 ((orderL (ints xs) m).length)), AV.one (Cl.d (DV.bool (orderOk (ints xs) m)))], [Bx.row 3 1 (is (orderL (ints xs) m))], true⟩)))))) ∧ ((((n : Nat) : Int) != (0 : Int)) = (!true) → True ∧ True ∧ True ∧ zz1 ∧ True ∧ True ∧ zz2 ∧ True ∧ True ∧ (m.toNat ≤ maxLen) ∧ True ∧ ((∃ k : Nat, (zz3 k) ∧ (((DV.sl n xs = DV.sl n xs) ∧ zz4 ∧ (m.toNat = m.toNat) ∧ (m.toNat = m.toNat) ∧ zz5 ∧ (DV.int .i64 0 = DV.int .i64 ((k : Nat) : Int)) ∧ True) ∧ ((List.replicate m.toNat (DV.int .i64 0) = fillL (seqL (ints xs) m) k) ∧ (List.replicate m.toNat (DV.bool false) = seenL ((seqL (ints xs) m).take k) m.toNat) ∧ True))) ∧ ∀ k : Nat, (zz3 k) → True ∧ (((decide (((k : Nat) : Int) < ((m.toNat : Nat) : Int))) = true → True ∧ True ∧ True ∧ True ∧ True ∧ (zz6 k) ∧ (((k : Nat) : Int).toNat * 1 + 1 ≤ (fillL (seqL (ints xs) m) k).length) ∧ True ∧ True ∧ True ∧ (((decide (((n : Nat) : Int) > (0 : Int))) = true → True ∧ True ∧ True ∧ True ∧ (0 ≤ ((k : Nat) : Int) ∧ ((k : Nat) : Int) < ((n : Nat) : Int) ∧ ((k : Nat) : Int).toNat * 1 < xs.length) ∧ ((xs[((k : Nat) : Int).toNat * 1]? = some (DV.int .i64 (nAt xs (((k : Nat) : Int).toNat * 1)))) ∧ True) ∧ (zz6 k) ∧ (((k : Nat) : Int).toNat * 1 + 1 ≤ (List.set (fillL (seqL (ints xs) m) k) (((k : Nat) : Int).toNat * 1) (DV.int .i64 ((k : Nat) : Int))).length) ∧ True ∧ True ∧ (zz6 k) ∧ (zz7 k) ∧ True ∧ True ∧ (((decide ((nAt (List.set (List.set (fillL (seqL (ints xs) m) k) (((k : Nat) : Int).toNat * 1) (DV.int .i64 ((k : Nat) : Int))) (((k : Nat) : Int).toNat * 1) (DV.int .i64 (nAt xs (((k : Nat) : Int).toNat * 1)))) (((k : Nat) : Int).toNat * 1)) < (0 : Int))) = false → True ∧ True ∧ (zz6 k) ∧ (zz7 k) ∧ True ∧ True ∧ True ∧ True ∧ (((decide ((nAt (List.set (List.set (fillL (seqL (ints xs) m) k) (((k : Nat) : Int).toNat * 1) (DV.int .i64 ((k : Nat) : Int))) (((k : Nat) : Int).toNat * 1) (DV.int .i64 (nAt xs (((k : Nat) : Int).toNat * 1)))) (((k : Nat) : Int).toNat * 1)) ≥ m)) = false → True ∧ True ∧ True ∧ (zz6 k) ∧ (zz7 k) ∧ (zz8 k) ∧ (((seenL ((seqL (ints xs) m).take k) m.toNat)[(nAt (List.set (List.set (fillL (seqL (ints xs) m) k) (((k : Nat) : Int).toNat * 1) (DV.int .i64 ((k : Nat) : Int))) (((k : Nat) : Int).toNat * 1) (DV.int .i64 (nAt xs (((k : Nat) : Int).toNat * 1)))) (((k : Nat) : Int).toNat * 1)).toNat * 1]? = some (DV.bool (bAt (seenL ((seqL (ints xs) m).take k) m.toNat) ((nAt (List.set (List.set (fillL (seqL (ints xs) m) k) (((k : Nat) : Int).toNat * 1) (DV.int .i64 ((k : Nat) : Int))) (((k : Nat) : Int).toNat * 1) (DV.int .i64 (nAt xs (((k : Nat) : Int).toNat * 1)))) (((k : Nat) : Int).toNat * 1)).toNat * 1)))) ∧ True) ∧ True ∧ (((bAt (seenL ((seqL (ints xs) m).take k) m.toNat) ((nAt (List.set (List.set (fillL (seqL (ints xs) m) k) (((k : Nat) : Int).toNat * 1) (DV.int .i64 ((k : Nat) : Int))) (((k : Nat) : Int).toNat * 1) (DV.int .i64 (nAt xs (((k : Nat) : Int).toNat * 1)))) (((k : Nat) : Int).toNat * 1)).toNat * 1)) = true → True ∧ True ∧ zz0 ∧ freshOK ⟨AV.tup [AV.one (Cl.ref 0 ((orderL (ints xs) m).length)), AV.one (Cl.d (DV.bool (orderOk (ints xs) m)))], [Bx.row 3 1 (is (orderL (ints xs) m))], true⟩) ∧ ((bAt (seenL ((seqL (ints xs) m).take k) m.toNat) ((nAt (List.set (List.set (fillL (seqL (ints xs) m) k) (((k : Nat) : Int).toNat * 1) (DV.int .i64 ((k : Nat) : Int))) (((k : Nat) : Int).toNat * 1) (DV.int .i64 (nAt xs (((k : Nat) : Int).toNat * 1)))) (((k : Nat) : Int).toNat * 1)).toNat * 1)) = false → True ∧ True ∧ True ∧ (zz6 k) ∧ (zz7 k) ∧ (zz8 k) ∧ ((nAt (List.set (List.set (fillL (seqL (ints xs) m) k) (((k : Nat) : Int).toNat * 1) (DV.int .i64 ((k : Nat) : Int))) (((k : Nat) : Int).toNat * 1) (DV.int .i64 (nAt xs (((k : Nat) : Int).toNat * 1)))) (((k : Nat) : Int).toNat * 1)).toNat * 1 + 1 ≤ (seenL ((seqL (ints xs) m).take k) m.toNat).length) ∧ True ∧ True ∧ ∃ k' : Nat, (zz9 k') ∧ (zz10 k k') ∧ ((zz11 k k') ∧ ((List.set (List.set (fillL (seqL (ints xs) m) k) (((k : Nat) : Int).toNat * 1) (DV.int .i64 ((k : Nat) : Int))) (((k : Nat) : Int).toNat * 1) (DV.int .i64 (nAt xs (((k : Nat) : Int).toNat * 1))) = fillL (seqL (ints xs) m) k') ∧ (List.set (seenL ((seqL (ints xs) m).take k) m.toNat) ((nAt (List.set (List.set (fillL (seqL (ints xs) m) k) (((k : Nat) : Int).toNat * 1) (DV.int .i64 ((k : Nat) : Int))) (((k : Nat) : Int).toNat * 1) (DV.int .i64 (nAt xs (((k : Nat) : Int).toNat * 1)))) (((k : Nat) : Int).toNat * 1)).toNat * 1) (DV.bool true) = seenL ((seqL (ints xs) m).take k') m.toNat) ∧ True))))) ∧ ((decide ((nAt (List.set (List.set (fillL (seqL (ints xs) m) k) (((k : Nat) : Int).toNat * 1) (DV.int .i64 ((k : Nat) : Int))) (((k : Nat) : Int).toNat * 1) (DV.int .i64 (nAt xs (((k : Nat) : Int).toNat * 1)))) (((k : Nat) : Int).toNat * 1)) ≥ m)) = (!false) → True ∧ True ∧ True ∧ zz0 ∧ freshOK ⟨AV.tup [AV.one (Cl.ref 0 ((orderL (ints xs) m).length)), AV.one (Cl.d (DV.bool (orderOk (ints xs) m)))], [Bx.row 3 1 (is (orderL (ints xs) m))], true⟩))) ∧ ((decide ((nAt (List.set (List.set (fillL (seqL (ints xs) m) k) (((k : Nat) : Int).toNat * 1) (DV.int .i64 ((k : Nat) : Int))) (((k : Nat) : Int).toNat * 1) (DV.int .i64 (nAt xs (((k : Nat) : Int).toNat * 1)))) (((k : Nat) : Int).toNat * 1)) < (0 : Int))) = (!false) → True ∧ True ∧ True ∧ True ∧ True ∧ zz0 ∧ freshOK ⟨AV.tup [AV.one (Cl.ref 0 ((orderL (ints xs) m).length)), AV.one (Cl.d (DV.bool (orderOk (ints xs) m)))], [Bx.row 3 1 (is (orderL (ints xs) m))], true⟩))) ∧ ((decide (((n : Nat) : Int) > (0 : Int))) = false → True ∧ True ∧ (zz6 k) ∧ (zz12 k) ∧ True ∧ True ∧ (((decide ((nAt (List.set (fillL (seqL (ints xs) m) k) (((k : Nat) : Int).toNat * 1) (DV.int .i64 ((k : Nat) : Int))) (((k : Nat) : Int).toNat * 1)) < (0 : Int))) = false → True ∧ True ∧ (zz6 k) ∧ (zz12 k) ∧ True ∧ True ∧ True ∧ True ∧ (((decide ((nAt (List.set (fillL (seqL (ints xs) m) k) (((k : Nat) : Int).toNat * 1) (DV.int .i64 ((k : Nat) : Int))) (((k : Nat) : Int).toNat * 1)) ≥ m)) = false → True ∧ True ∧ True ∧ (zz6 k) ∧ (zz12 k) ∧ (zz13 k) ∧ (((seenL ((seqL (ints xs) m).take k) m.toNat)[(nAt (List.set (fillL (seqL (ints xs) m) k) (((k : Nat) : Int).toNat * 1) (DV.int .i64 ((k : Nat) : Int))) (((k : Nat) : Int).toNat * 1)).toNat * 1]? = some (DV.bool (bAt (seenL ((seqL (ints xs) m).take k) m.toNat) ((nAt (List.set (fillL (seqL (ints xs) m) k) (((k : Nat) : Int).toNat * 1) (DV.int .i64 ((k : Nat) : Int))) (((k : Nat) : Int).toNat * 1)).toNat * 1)))) ∧ True) ∧ True ∧ (((bAt (seenL ((seqL (ints xs) m).take k) m.toNat) ((nAt (List.set (fillL (seqL (ints xs) m) k) (((k : Nat) : Int).toNat * 1) (DV.int .i64 ((k : Nat) : Int))) (((k : Nat) : Int).toNat * 1)).toNat * 1)) = true → True ∧ True ∧ zz0 ∧ freshOK ⟨AV.tup [AV.one (Cl.ref 0 ((orderL (ints xs) m).length)), AV.one (Cl.d (DV.bool (orderOk (ints xs) m)))], [Bx.row 3 1 (is (orderL (ints xs) m))], true⟩) ∧ ((bAt (seenL ((seqL (ints xs) m).take k) m.toNat) ((nAt (List.set (fillL (seqL (ints xs) m) k) (((k : Nat) : Int).toNat * 1) (DV.int .i64 ((k : Nat) : Int))) (((k : Nat) : Int).toNat * 1)).toNat * 1)) = false → True ∧ True ∧ True ∧ (zz6 k) ∧ (zz12 k) ∧ (zz13 k) ∧ ((nAt (List.set (fillL (seqL (ints xs) m) k) (((k : Nat) : Int).toNat * 1) (DV.int .i64 ((k : Nat) : Int))) (((k : Nat) : Int).toNat * 1)).toNat * 1 + 1 ≤ (seenL ((seqL (ints xs) m).take k) m.toNat).length) ∧ True ∧ True ∧ ∃ k' : Nat, (zz9 k') ∧ (zz10 k k') ∧ ((zz11 k k') ∧ ((List.set (fillL (seqL (ints xs) m) k) (((k : Nat) : Int).toNat * 1) (DV.int .i64 ((k : Nat) : Int)) = fillL (seqL (ints xs) m) k') ∧ (List.set (seenL ((seqL (ints xs) m).take k) m.toNat) ((nAt (List.set (fillL (seqL (ints xs) m) k) (((k : Nat) : Int).toNat * 1) (DV.int .i64 ((k : Nat) : Int))) (((k : Nat) : Int).toNat * 1)).toNat * 1) (DV.bool true) = seenL ((seqL (ints xs) m).take k') m.toNat) ∧ True))))) ∧ ((decide ((nAt (List.set (fillL (seqL (ints xs) m) k) (((k : Nat) : Int).toNat * 1) (DV.int .i64 ((k : Nat) : Int))) (((k : Nat) : Int).toNat * 1)) ≥ m)) = (!false) → True ∧ True ∧ True ∧ zz0 ∧ freshOK ⟨AV.tup [AV.one (Cl.ref 0 ((orderL (ints xs) m).length)), AV.one (Cl.d (DV.bool (orderOk (ints xs) m)))], [Bx.row 3 1 (is (orderL (ints xs) m))], true⟩))) ∧ ((decide ((nAt (List.set (fillL (seqL (ints xs) m) k) (((k : Nat) : Int).toNat * 1) (DV.int .i64 ((k : Nat) : Int))) (((k : Nat) : Int).toNat * 1)) < (0 : Int))) = (!false) → True ∧ True ∧ True ∧ True ∧ True ∧ zz0 ∧ freshOK ⟨AV.tup [AV.one (Cl.ref 0 ((orderL (ints xs) m).length)), AV.one (Cl.d (DV.bool (orderOk (ints xs) m)))], [Bx.row 3 1 (is (orderL (ints xs) m))], true⟩))))) ∧ ((decide (((k : Nat) : Int) < ((m.toNat : Nat) : Int))) = false → True ∧ True ∧ True ∧ ((((m.toNat = (orderL (ints xs) m).length) ∧ (DV.bool true = DV.bool (orderOk (ints xs) m)) ∧ True) ∧ True) ∧ ((fillL (seqL (ints xs) m) k = is (orderL (ints xs) m)) ∧ True)) ∧ freshOK ⟨AV.tup [AV.one (Cl.ref 0 ((orderL (ints xs) m).length)), AV.one (Cl.d (DV.bool (orderOk (ints xs) m)))], [Bx.row 3 1 (is (orderL (ints xs) m))], true⟩)))))) ∧ ((decide (m > (16777216 : Int))) = (!false) → True ∧ True ∧ True ∧ zz0 ∧ freshOK ⟨AV.tup [AV.one (Cl.ref 0 ((orderL (ints xs) m).length)), AV.one (Cl.d (DV.bool (orderOk (ints xs) m)))], [Bx.row 3 1 (is (orderL (ints xs) m))], true⟩))) ∧ ((decide (m < (0 : Int))) = (!false) → True ∧ True ∧ True ∧ True ∧ True ∧ zz0 ∧ freshOK ⟨AV.tup [AV.one (Cl.ref 0 ((orderL (ints xs) m).length)), AV.one (Cl.d (DV.bool (orderOk (ints xs) m)))], [Bx.row 3 1 (is (orderL (ints xs) m))], true⟩))) := by kernel_rfl
theorem tile_Order_ans (n : Nat) (xs : List DV) (m : Int) (hx : xs = is (ints xs) ∧ n = xs.length) : AnsG Tryd.prog 63 0 [AV.one (Cl.d (DV.sl n xs)), AV.one (Cl.d (DV.int .i64 m))] [] ⟨AV.tup [AV.one (Cl.ref 0 ((orderL (ints xs) m).length)), AV.one (Cl.d (DV.bool (orderOk (ints xs) m)))], [Bx.row 3 1 (is (orderL (ints xs) m))], true⟩ :=
  ansG_of_vcg (Γ := gamO) (tile_Order_ann n xs m) mixed_ Tryd.func63 rfl (Nat.le_of_ble_eq_true rfl) rfl fun hwf hbx => by
    refine Eq.mpr (tile_Order_vc n xs m) ?_
    simp only [true_and, and_true, RV.d.injEq, RV.agg.injEq, RV.tup.injEq, DV.bool.injEq, DV.int.injEq, DV.sl.injEq, List.cons.injEq, forall_const, Bool.not_false, Bool.not_true, Bool.not_eq_true', Bool.not_eq_false', decide_eq_true_eq, decide_eq_false_iff_not, Int.toNat_natCast, G_Mod_ans]
    obtain ⟨hx, rfl⟩ := hx
    generalize hl : ints xs = l at *
    subst hx
    simp only [is_length, fresh_is, and_true]
    refine ⟨fun h0 => ⟨fun hM => ⟨fun hp => ⟨fun hne => ?_, fun he => ?_⟩, fun hz => ?_⟩, fun hM => (by have e := ord_no (l := l) (m := m) (.inr (.inl (by omega))); rw [e.1, e.2]; exact ⟨⟨rfl, rfl⟩, rfl⟩)⟩, fun h0 => (by have e := ord_no (l := l) (m := m) (.inl (by omega)); rw [e.1, e.2]; exact ⟨⟨rfl, rfl⟩, rfl⟩)⟩
    · have e := ord_no (l := l) (m := m) (.inr (.inr (.inl ⟨by simpa using hp, by simpa using hne⟩)))
      rw [e.1, e.2]; exact ⟨⟨rfl, rfl⟩, rfl⟩
    · have hl : l.length = 0 ∨ (l.length : Int) = m := .inr (by simpa using he)
      have hp' : l.length ≠ 0 := by simpa using hp
      have hS := seqL_len hl
      refine ⟨⟨by omega, by omega, by unfold maxLen; omega, by omega⟩, ⟨by omega, by omega, by unfold maxLen; omega, by omega⟩, by unfold maxLen; omega, ⟨0, ⟨by omega, by simp [goodP]⟩, rfl, by simp [fillL, hS, is], by simp [seenL, List.map_const']⟩, fun k hk => ⟨fun hlt => ?_, fun hge => ?_⟩⟩
      · have hkS : k < (seqL l m).length := by omega
        have hkl : k < l.length := by omega
        have hv0 : nAt (is l) k = (seqL l m)[k] := by
          rw [nAt_is hkl]
          simp [seqL, show l ≠ [] by intro e; subst e; simp at hkl]
        have hi : (is l)[k]? = some (.int .i64 (seqL l m)[k]) := by rw [is_at hkl, ← nAt_is hkl, hv0]
        have hv : (seqL l m)[k] = (seqL l m)[k] := rfl
        have f1 := fillL_len (Nat.le_of_lt hkS)
        have f2 := fillL_set hkS hv
        have f3 := fillL_at hkS
        have f4 := fillL_nAt hkS
        have f5 := fillL_len (S := seqL l m) (k := k + 1) (by omega)
        have r := ord_round (by omega) (by omega) hS hkS hk.2 rfl (Bad := (0 = (orderL l m).length ∧ false = orderOk l m) ∧ [] = is (orderL l m)) (fun hb => by have e := ord_no (l := l) (m := m) (.inr (.inr (.inr hb))); rw [e.1, e.2]; exact ⟨⟨rfl, rfl⟩, rfl⟩)
        simp only [Nat.mul_one, List.set_set, List.length_set, f1, f2, f3, f4, f5, hv0, hi] at r ⊢
        refine ⟨by omega, by omega, fun _ => ⟨by omega, trivial, by omega, by omega, by omega, trivial, fun a => ⟨by omega, trivial, fun b => ?_, (r.1 a).2⟩, r.2⟩, fun hz => absurd (by omega) hz⟩
        obtain ⟨r1, r2, r3, r4⟩ := (r.1 a).1 b
        refine ⟨by omega, trivial, r1, r2, r3, fun c => ?_⟩
        obtain ⟨s1, s2, _, k', s3, s4, ⟨rfl, s6⟩, s7, _⟩ := r4 c
        exact ⟨by omega, trivial, s1, s2, k + 1, s3, s4, s6, rfl, s7⟩
      · have hkm : k = (seqL l m).length := by omega
        have hg := hk.2
        rw [List.take_of_length_le (by omega)] at hg
        have e := ord_yes (by omega) (by omega) hl hg
        rw [e.1, e.2]
        exact ⟨⟨by omega, rfl⟩, by rw [hkm, fillL_all]⟩
    · have hl : l.length = 0 ∨ (l.length : Int) = m := .inl (by simpa using hz)
      have hz' : l.length = 0 := by simpa using hz
      have hS := seqL_len hl
      refine ⟨⟨by omega, by omega, by unfold maxLen; omega, by omega⟩, ⟨by omega, by omega, by unfold maxLen; omega, by omega⟩, by unfold maxLen; omega, ⟨0, ⟨by omega, by simp [goodP]⟩, rfl, by simp [fillL, hS, is], by simp [seenL, List.map_const']⟩, fun k hk => ⟨fun hlt => ?_, fun hge => ?_⟩⟩
      · have hkS : k < (seqL l m).length := by omega
        have hv : (k : Int) = (seqL l m)[k] := by
          simp [seqL, show l = [] by exact List.eq_nil_of_length_eq_zero hz', upto]
        have f1 := fillL_len (Nat.le_of_lt hkS)
        have f2 := fillL_set hkS hv
        have f3 := fillL_at hkS
        have f4 := fillL_nAt hkS
        have f5 := fillL_len (S := seqL l m) (k := k + 1) (by omega)
        have r := ord_round (by omega) (by omega) hS hkS hk.2 rfl (Bad := (0 = (orderL l m).length ∧ false = orderOk l m) ∧ [] = is (orderL l m)) (fun hb => by have e := ord_no (l := l) (m := m) (.inr (.inr (.inr hb))); rw [e.1, e.2]; exact ⟨⟨rfl, rfl⟩, rfl⟩)
        simp only [Nat.mul_one, List.set_set, List.length_set, f1, f2, f3, f4, f5] at r ⊢
        refine ⟨by omega, by omega, fun hp => absurd hp (by omega), fun _ => ⟨by omega, trivial, fun a => ⟨by omega, trivial, fun b => ?_, (r.1 a).2⟩, r.2⟩⟩
        obtain ⟨r1, r2, r3, r4⟩ := (r.1 a).1 b
        refine ⟨by omega, trivial, r1, r2, r3, fun c => ?_⟩
        obtain ⟨s1, s2, _, k', s3, s4, ⟨rfl, s6⟩, s7, _⟩ := r4 c
        exact ⟨by omega, trivial, s1, s2, k + 1, s3, s4, s6, rfl, s7⟩
      · have hkm : k = (seqL l m).length := by omega
        have hg := hk.2
        rw [List.take_of_length_le (by omega)] at hg
        have e := ord_yes (by omega) (by omega) hl hg
        rw [e.1, e.2]
        exact ⟨⟨by omega, rfl⟩, by rw [hkm, fillL_all]⟩

end Go.Proofs.YtcaokljobfkajaaDoor

/-
  The functions of package rect and of its reference answer as the plain words say.
-/
namespace Go.Proofs.YtcaokljobfkajaaDoor
open Go.RowKit
set_option linter.unusedVariables false
set_option linter.unusedSimpArgs false

def withinS (l : Int) (xs : List DV) : Bool := (ints xs).all fun v => decide (-l ≤ v) && decide (v ≤ l)
def gam : Gam where
 pure := fun f xs =>
  if f = 9 then (match xs with | [.d (.int _ n), .d (.int _ k)] => some (RV.d (DV.int .i64 (modS n k))) | _ => none) else
  if f = 76 then (match xs with | [.d (.int _ l), .d (.sl n xs)] => some (RV.d (DV.bool (withinS l xs))) | _ => none) else
  if f = 55 then (match xs with | [.agg [.int _ a, .int _ b, .int _ c, .int _ d]] => some (RV.d (DV.bool (Rc.valid ⟨a, b, c, d⟩))) | _ => none) else
  if f = 56 then (match xs with | [.agg [.int _ a, .int _ b, .int _ c, .int _ d]] => some (RV.d (DV.bool (Rc.valid ⟨a, b, c, d⟩))) | _ => none) else
  if f = 40 then (match xs with | [.agg [.int _ a, .int _ b, .int _ c, .int _ d]] => some (RV.d (DV.bool (Rc.empty ⟨a, b, c, d⟩))) | _ => none) else
  if f = 46 then (match xs with | [.agg [.int _ a, .int _ b, .int _ c, .int _ d]] => some (RV.agg [DV.int .i64 ((Rc.clean ⟨a, b, c, d⟩).a), DV.int .i64 ((Rc.clean ⟨a, b, c, d⟩).b), DV.int .i64 ((Rc.clean ⟨a, b, c, d⟩).c), DV.int .i64 ((Rc.clean ⟨a, b, c, d⟩).d)]) | _ => none) else
  if f = 60 then (match xs with | [.agg [.int _ a, .int _ b, .int _ c, .int _ d]] => some (RV.d (DV.int .i64 (Rc.area ⟨a, b, c, d⟩))) | _ => none) else
  if f = 31 then (match xs with | [.agg [.int _ a, .int _ b, .int _ c, .int _ d], .agg [.int _ a', .int _ b', .int _ c', .int _ d']] => some (RV.agg [DV.int .i64 ((Rc.inter ⟨a, b, c, d⟩ ⟨a', b', c', d'⟩).a), DV.int .i64 ((Rc.inter ⟨a, b, c, d⟩ ⟨a', b', c', d'⟩).b), DV.int .i64 ((Rc.inter ⟨a, b, c, d⟩ ⟨a', b', c', d'⟩).c), DV.int .i64 ((Rc.inter ⟨a, b, c, d⟩ ⟨a', b', c', d'⟩).d)]) | _ => none) else
  if f = 41 then (match xs with | [.agg [.int _ a, .int _ b, .int _ c, .int _ d]] => some (RV.d (DV.bool (Rc.empty ⟨a, b, c, d⟩))) | _ => none) else
  if f = 47 then (match xs with | [.agg [.int _ a, .int _ b, .int _ c, .int _ d]] => some (RV.agg [DV.int .i64 ((Rc.clean ⟨a, b, c, d⟩).a), DV.int .i64 ((Rc.clean ⟨a, b, c, d⟩).b), DV.int .i64 ((Rc.clean ⟨a, b, c, d⟩).c), DV.int .i64 ((Rc.clean ⟨a, b, c, d⟩).d)]) | _ => none) else
  if f = 70 then (match xs with | [.agg [.int _ a, .int _ b, .int _ c, .int _ d]] => some (RV.d (DV.int .i64 (Rc.area ⟨a, b, c, d⟩))) | _ => none) else
  if f = 32 then (match xs with | [.agg [.int _ a, .int _ b, .int _ c, .int _ d], .agg [.int _ a', .int _ b', .int _ c', .int _ d']] => some (RV.agg [DV.int .i64 ((Rc.inter ⟨a, b, c, d⟩ ⟨a', b', c', d'⟩).a), DV.int .i64 ((Rc.inter ⟨a, b, c, d⟩ ⟨a', b', c', d'⟩).b), DV.int .i64 ((Rc.inter ⟨a, b, c, d⟩ ⟨a', b', c', d'⟩).c), DV.int .i64 ((Rc.inter ⟨a, b, c, d⟩ ⟨a', b', c', d'⟩).d)]) | _ => none) else
  none
 modes := fun f =>
  none
 proc := fun f xs bs =>
  none
 iter := fun f cs =>
  none

def R13_ValidRect_ann (a : Int) (b : Int) (c : Int) (d : Int) : Ann := Ann.leaf
theorem R13_ValidRect_vc (a : Int) (b : Int) (c : Int) (d : Int) : vcg Tryd.prog gam 41 (bodyOf Tryd.f56) (R13_ValidRect_ann a b c d) kn0 (start [RV.agg [DV.int .i64 a, DV.int .i64 b, DV.int .i64 c, DV.int .i64 d]]) (post Tryd.prog Tryd.f56.results.toList (· = RV.d (DV.bool (Rc.valid ⟨a, b, c, d⟩)))) =
  (let zz0 := (DV.bool (Rc.valid ⟨a, b, c, d⟩)); (True) ∧ (True) ∧ (True) ∧ (True) ∧ (True) ∧ (True) ∧ (((decide (a ≥ (-1073741824 : Int))) = true → (True) ∧ (True) ∧ (True) ∧ (True) ∧ (True) ∧ (((decide (a ≤ (1073741824 : Int))) = true → (True) ∧ (True) ∧ (True) ∧ (True) ∧ (True) ∧ (((decide (b ≥ (-1073741824 : Int))) = true → (True) ∧ (True) ∧ (True) ∧ (True) ∧ (True) ∧ (((decide (b ≤ (1073741824 : Int))) = true → (True) ∧ (True) ∧ (True) ∧ (True) ∧ (True) ∧ (((decide (c ≥ (-1073741824 : Int))) = true → (True) ∧ (True) ∧ (True) ∧ (True) ∧ (True) ∧ (((decide (c ≤ (1073741824 : Int))) = true → (True) ∧ (True) ∧ (True) ∧ (True) ∧ (True) ∧ (((decide (d ≥ (-1073741824 : Int))) = true → (True) ∧ (True) ∧ (True) ∧ (True) ∧ (True) ∧ RV.d (DV.bool (decide (d ≤ (1073741824 : Int)))) = RV.d zz0) ∧ ((decide (d ≥ (-1073741824 : Int))) = (!true) → (True) ∧ (True) ∧ RV.d (DV.bool false) = RV.d zz0))) ∧ ((decide (c ≤ (1073741824 : Int))) = (!true) → (True) ∧ (True) ∧ (True) ∧ (True) ∧ RV.d (DV.bool false) = RV.d zz0))) ∧ ((decide (c ≥ (-1073741824 : Int))) = (!true) → (True) ∧ (True) ∧ (True) ∧ (True) ∧ (True) ∧ (True) ∧ RV.d (DV.bool false) = RV.d zz0))) ∧ ((decide (b ≤ (1073741824 : Int))) = (!true) → (True) ∧ (True) ∧ (True) ∧ (True) ∧ (True) ∧ (True) ∧ (True) ∧ (True) ∧ RV.d (DV.bool false) = RV.d zz0))) ∧ ((decide (b ≥ (-1073741824 : Int))) = (!true) → (True) ∧ (True) ∧ (True) ∧ (True) ∧ (True) ∧ (True) ∧ (True) ∧ (True) ∧ (True) ∧ (True) ∧ RV.d (DV.bool false) = RV.d zz0))) ∧ ((decide (a ≤ (1073741824 : Int))) = (!true) → (True) ∧ (True) ∧ (True) ∧ (True) ∧ (True) ∧ (True) ∧ (True) ∧ (True) ∧ (True) ∧ (True) ∧ (True) ∧ (True) ∧ RV.d (DV.bool false) = RV.d zz0))) ∧ ((decide (a ≥ (-1073741824 : Int))) = (!true) → (True) ∧ (True) ∧ (True) ∧ (True) ∧ (True) ∧ (True) ∧ (True) ∧ (True) ∧ (True) ∧ (True) ∧ (True) ∧ (True) ∧ (True) ∧ (True) ∧ RV.d (DV.bool false) = RV.d zz0))) := by kernel_rfl
theorem R13_ValidRect_ans (a : Int) (b : Int) (c : Int) (d : Int) : Ans Tryd.prog 56 [RV.agg [DV.int .i64 a, DV.int .i64 b, DV.int .i64 c, DV.int .i64 d]] (RV.d (DV.bool (Rc.valid ⟨a, b, c, d⟩))) :=
  ans_of_vcg (Γ := gam) (R13_ValidRect_ann a b c d) mixed_ Tryd.func56 rfl (Nat.le_of_ble_eq_true rfl) fun hwf => by
    refine Eq.mpr (R13_ValidRect_vc a b c d) ?_
    simp only [true_and, and_true, RV.d.injEq, RV.agg.injEq, RV.tup.injEq, DV.bool.injEq, DV.int.injEq, List.cons.injEq, forall_const, Bool.not_false, Bool.not_true, Bool.not_eq_true', Bool.not_eq_false']
    grind [Rc.valid, okC]

def R13_Empty_ann (a : Int) (b : Int) (c : Int) (d : Int) : Ann := Ann.leaf
theorem R13_Empty_vc (a : Int) (b : Int) (c : Int) (d : Int) : vcg Tryd.prog gam 20 (bodyOf Tryd.f41) (R13_Empty_ann a b c d) kn0 (start [RV.agg [DV.int .i64 a, DV.int .i64 b, DV.int .i64 c, DV.int .i64 d]]) (post Tryd.prog Tryd.f41.results.toList (· = RV.d (DV.bool (Rc.empty ⟨a, b, c, d⟩)))) =
  (let zz0 := (DV.bool (Rc.empty ⟨a, b, c, d⟩)); (True) ∧ (True) ∧ (True) ∧ (Ans Tryd.prog 56 [RV.agg [DV.int .i64 a, DV.int .i64 b, DV.int .i64 c, DV.int .i64 d]] (RV.d (DV.bool (Rc.valid ⟨a, b, c, d⟩)))) ∧ (True) ∧ (True) ∧ (((!(Rc.valid ⟨a, b, c, d⟩)) = false → (True) ∧ (True) ∧ (True) ∧ (True) ∧ (True) ∧ (True) ∧ (True) ∧ (((decide (a ≥ c)) = false → (True) ∧ (True) ∧ (True) ∧ (True) ∧ (True) ∧ (True) ∧ (True) ∧ RV.d (DV.bool (decide (b ≥ d))) = RV.d zz0) ∧ ((decide (a ≥ c)) = (!false) → (True) ∧ (True) ∧ RV.d (DV.bool true) = RV.d zz0))) ∧ ((!(Rc.valid ⟨a, b, c, d⟩)) = (!false) → (True) ∧ (True) ∧ (True) ∧ (True) ∧ RV.d (DV.bool true) = RV.d zz0))) := by kernel_rfl
theorem R13_Empty_ans (a : Int) (b : Int) (c : Int) (d : Int) : Ans Tryd.prog 41 [RV.agg [DV.int .i64 a, DV.int .i64 b, DV.int .i64 c, DV.int .i64 d]] (RV.d (DV.bool (Rc.empty ⟨a, b, c, d⟩))) :=
  ans_of_vcg (Γ := gam) (R13_Empty_ann a b c d) mixed_ Tryd.func41 rfl (Nat.le_of_ble_eq_true rfl) fun hwf => by
    refine Eq.mpr (R13_Empty_vc a b c d) ?_
    simp only [true_and, and_true, RV.d.injEq, RV.agg.injEq, RV.tup.injEq, DV.bool.injEq, DV.int.injEq, List.cons.injEq, forall_const, Bool.not_false, Bool.not_true, Bool.not_eq_true', Bool.not_eq_false', R13_ValidRect_ans, G_Mod_ans]
    grind [Rc.empty]

def R13_clean_ann (a : Int) (b : Int) (c : Int) (d : Int) : Ann := Ann.leaf
theorem R13_clean_vc (a : Int) (b : Int) (c : Int) (d : Int) : vcg Tryd.prog gam 7 (bodyOf Tryd.f47) (R13_clean_ann a b c d) kn0 (start [RV.agg [DV.int .i64 a, DV.int .i64 b, DV.int .i64 c, DV.int .i64 d]]) (post Tryd.prog Tryd.f47.results.toList (· = RV.agg [DV.int .i64 ((Rc.clean ⟨a, b, c, d⟩).a), DV.int .i64 ((Rc.clean ⟨a, b, c, d⟩).b), DV.int .i64 ((Rc.clean ⟨a, b, c, d⟩).c), DV.int .i64 ((Rc.clean ⟨a, b, c, d⟩).d)])) =
  (let zz0 := [DV.int .i64 a, DV.int .i64 b, DV.int .i64 c, DV.int .i64 d]; let zz1 := [DV.int .i64 ((Rc.clean ⟨a, b, c, d⟩).a), DV.int .i64 ((Rc.clean ⟨a, b, c, d⟩).b), DV.int .i64 ((Rc.clean ⟨a, b, c, d⟩).c), DV.int .i64 ((Rc.clean ⟨a, b, c, d⟩).d)]; (True) ∧ (True) ∧ (True) ∧ (Ans Tryd.prog 41 [RV.agg zz0] (RV.d (DV.bool (Rc.empty ⟨a, b, c, d⟩)))) ∧ (((Rc.empty ⟨a, b, c, d⟩) = true → (True) ∧ (True) ∧ RV.agg [DV.int .i64 (0 : Int), DV.int .i64 (0 : Int), DV.int .i64 (0 : Int), DV.int .i64 (0 : Int)] = RV.agg zz1) ∧ ((Rc.empty ⟨a, b, c, d⟩) = false → (True) ∧ (True) ∧ RV.agg zz0 = RV.agg zz1))) := by kernel_rfl
theorem R13_clean_ans (a : Int) (b : Int) (c : Int) (d : Int) : Ans Tryd.prog 47 [RV.agg [DV.int .i64 a, DV.int .i64 b, DV.int .i64 c, DV.int .i64 d]] (RV.agg [DV.int .i64 ((Rc.clean ⟨a, b, c, d⟩).a), DV.int .i64 ((Rc.clean ⟨a, b, c, d⟩).b), DV.int .i64 ((Rc.clean ⟨a, b, c, d⟩).c), DV.int .i64 ((Rc.clean ⟨a, b, c, d⟩).d)]) :=
  ans_of_vcg (Γ := gam) (R13_clean_ann a b c d) mixed_ Tryd.func47 rfl (Nat.le_of_ble_eq_true rfl) fun hwf => by
    refine Eq.mpr (R13_clean_vc a b c d) ?_
    simp only [true_and, and_true, RV.d.injEq, RV.agg.injEq, RV.tup.injEq, DV.bool.injEq, DV.int.injEq, List.cons.injEq, forall_const, Bool.not_false, Bool.not_true, Bool.not_eq_true', Bool.not_eq_false', R13_ValidRect_ans, G_Mod_ans, R13_Empty_ans]
    grind [Rc.clean, Rc.zero]

def R13_Area_ann (a : Int) (b : Int) (c : Int) (d : Int) : Ann := Ann.leaf
theorem R13_Area_vc (a : Int) (b : Int) (c : Int) (d : Int) : vcg Tryd.prog gam 16 (bodyOf Tryd.f70) (R13_Area_ann a b c d) kn0 (start [RV.agg [DV.int .i64 a, DV.int .i64 b, DV.int .i64 c, DV.int .i64 d]]) (post Tryd.prog Tryd.f70.results.toList (· = RV.d (DV.int .i64 (Rc.area ⟨a, b, c, d⟩)))) =
  ((True) ∧ (True) ∧ (True) ∧ (Ans Tryd.prog 47 [RV.agg [DV.int .i64 a, DV.int .i64 b, DV.int .i64 c, DV.int .i64 d]] (RV.agg [DV.int .i64 ((Rc.clean ⟨a, b, c, d⟩).a), DV.int .i64 ((Rc.clean ⟨a, b, c, d⟩).b), DV.int .i64 ((Rc.clean ⟨a, b, c, d⟩).c), DV.int .i64 ((Rc.clean ⟨a, b, c, d⟩).d)])) ∧ (True) ∧ (True) ∧ (True) ∧ (True) ∧ (True) ∧ (True) ∧ (True) ∧ (True) ∧ (True) ∧ (True) ∧ (True) ∧ (True) ∧ (True) ∧ RV.d (DV.int .i64 (IntKind.wrap .i64 ((IntKind.wrap .i64 (((Rc.clean ⟨a, b, c, d⟩).c) - ((Rc.clean ⟨a, b, c, d⟩).a))) * (IntKind.wrap .i64 (((Rc.clean ⟨a, b, c, d⟩).d) - ((Rc.clean ⟨a, b, c, d⟩).b)))))) = RV.d (DV.int .i64 (Rc.area ⟨a, b, c, d⟩))) := by kernel_rfl
theorem R13_Area_ans (a : Int) (b : Int) (c : Int) (d : Int) : Ans Tryd.prog 70 [RV.agg [DV.int .i64 a, DV.int .i64 b, DV.int .i64 c, DV.int .i64 d]] (RV.d (DV.int .i64 (Rc.area ⟨a, b, c, d⟩))) :=
  ans_of_vcg (Γ := gam) (R13_Area_ann a b c d) mixed_ Tryd.func70 rfl (Nat.le_of_ble_eq_true rfl) fun hwf => by
    refine Eq.mpr (R13_Area_vc a b c d) ?_
    simp only [true_and, and_true, RV.d.injEq, RV.agg.injEq, RV.tup.injEq, DV.bool.injEq, DV.int.injEq, List.cons.injEq, forall_const, Bool.not_false, Bool.not_true, Bool.not_eq_true', Bool.not_eq_false', R13_ValidRect_ans, G_Mod_ans, R13_Empty_ans, R13_clean_ans]
    exact Rc.area_wrap _

def R13_Intersect_ann (a : Int) (b : Int) (c : Int) (d : Int) (a' : Int) (b' : Int) (c' : Int) (d' : Int) : Ann := Ann.leaf
theorem R13_Intersect_vc (a : Int) (b : Int) (c : Int) (d : Int) (a' : Int) (b' : Int) (c' : Int) (d' : Int) : vcg Tryd.prog gam 34 (bodyOf Tryd.f32) (R13_Intersect_ann a b c d a' b' c' d') kn0 (start [RV.agg [DV.int .i64 a, DV.int .i64 b, DV.int .i64 c, DV.int .i64 d], RV.agg [DV.int .i64 a', DV.int .i64 b', DV.int .i64 c', DV.int .i64 d']]) (post Tryd.prog Tryd.f32.results.toList (· = RV.agg [DV.int .i64 ((Rc.inter ⟨a, b, c, d⟩ ⟨a', b', c', d'⟩).a), DV.int .i64 ((Rc.inter ⟨a, b, c, d⟩ ⟨a', b', c', d'⟩).b), DV.int .i64 ((Rc.inter ⟨a, b, c, d⟩ ⟨a', b', c', d'⟩).c), DV.int .i64 ((Rc.inter ⟨a, b, c, d⟩ ⟨a', b', c', d'⟩).d)])) =
  (let zz0 := [DV.int .i64 (0 : Int), DV.int .i64 (0 : Int), DV.int .i64 (0 : Int), DV.int .i64 (0 : Int)]; let zz1 := (Rc.inter ⟨a, b, c, d⟩ ⟨a', b', c', d'⟩); let zz2 := [DV.int .i64 (zz1.a), DV.int .i64 (zz1.b), DV.int .i64 (zz1.c), DV.int .i64 (zz1.d)]; let zz3 := (Rc.clean ⟨(max a a'), (max b b'), (min c c'), (min d d')⟩); let zz4 := [DV.int .i64 (zz3.a), DV.int .i64 (zz3.b), DV.int .i64 (zz3.c), DV.int .i64 (zz3.d)]; (True) ∧ (True) ∧ (True) ∧ (True) ∧ (Ans Tryd.prog 41 [RV.agg [DV.int .i64 a, DV.int .i64 b, DV.int .i64 c, DV.int .i64 d]] (RV.d (DV.bool (Rc.empty ⟨a, b, c, d⟩)))) ∧ (True) ∧ (((Rc.empty ⟨a, b, c, d⟩) = false → (True) ∧ (Ans Tryd.prog 41 [RV.agg [DV.int .i64 a', DV.int .i64 b', DV.int .i64 c', DV.int .i64 d']] (RV.d (DV.bool (Rc.empty ⟨a', b', c', d'⟩)))) ∧ (True) ∧ (((Rc.empty ⟨a', b', c', d'⟩) = true → (True) ∧ (True) ∧ RV.agg zz0 = RV.agg zz2) ∧ ((Rc.empty ⟨a', b', c', d'⟩) = false → (True) ∧ (True) ∧ (True) ∧ (True) ∧ (True) ∧ (True) ∧ (True) ∧ (True) ∧ (True) ∧ (True) ∧ (True) ∧ (True) ∧ (True) ∧ (True) ∧ (True) ∧ (True) ∧ (True) ∧ (True) ∧ (True) ∧ (True) ∧ (True) ∧ (Ans Tryd.prog 47 [RV.agg [DV.int .i64 (max a a'), DV.int .i64 (max b b'), DV.int .i64 (min c c'), DV.int .i64 (min d d')]] (RV.agg zz4)) ∧ (True) ∧ RV.agg zz4 = RV.agg zz2))) ∧ ((Rc.empty ⟨a, b, c, d⟩) = (!false) → (True) ∧ (True) ∧ (True) ∧ RV.agg zz0 = RV.agg zz2))) := by kernel_rfl
theorem R13_Intersect_ans (a : Int) (b : Int) (c : Int) (d : Int) (a' : Int) (b' : Int) (c' : Int) (d' : Int) : Ans Tryd.prog 32 [RV.agg [DV.int .i64 a, DV.int .i64 b, DV.int .i64 c, DV.int .i64 d], RV.agg [DV.int .i64 a', DV.int .i64 b', DV.int .i64 c', DV.int .i64 d']] (RV.agg [DV.int .i64 ((Rc.inter ⟨a, b, c, d⟩ ⟨a', b', c', d'⟩).a), DV.int .i64 ((Rc.inter ⟨a, b, c, d⟩ ⟨a', b', c', d'⟩).b), DV.int .i64 ((Rc.inter ⟨a, b, c, d⟩ ⟨a', b', c', d'⟩).c), DV.int .i64 ((Rc.inter ⟨a, b, c, d⟩ ⟨a', b', c', d'⟩).d)]) :=
  ans_of_vcg (Γ := gam) (R13_Intersect_ann a b c d a' b' c' d') mixed_ Tryd.func32 rfl (Nat.le_of_ble_eq_true rfl) fun hwf => by
    refine Eq.mpr (R13_Intersect_vc a b c d a' b' c' d') ?_
    simp only [true_and, and_true, RV.d.injEq, RV.agg.injEq, RV.tup.injEq, DV.bool.injEq, DV.int.injEq, List.cons.injEq, forall_const, Bool.not_false, Bool.not_true, Bool.not_eq_true', Bool.not_eq_false', R13_ValidRect_ans, G_Mod_ans, R13_Empty_ans, R13_clean_ans, R13_Area_ans]
    cases h1 : Rc.empty ⟨a, b, c, d⟩ <;> cases h2 : Rc.empty ⟨a', b', c', d'⟩ <;> simp [Rc.inter, h1, h2, Rc.zero]

def rect_within_ann (l : Int) (n : Nat) (xs : List DV) : Ann := (Ann.seq Ann.leaf (Ann.seq (Ann.seq Ann.leaf (Ann.loop ⟨Nat, fun k => k ≤ n ∧ withinS l (xs.take k) = true, fun k => ⟨[(0, AV.one (Cl.d (DV.int .i64 l))), (1, AV.one (Cl.d (DV.sl n xs))), (7, AV.one (Cl.d (DV.sl n xs))), (8, AV.one (Cl.d (DV.int .i64 ((n : Nat) : Int)))), (9, AV.one (Cl.d (DV.int .i64 ((k : Nat) : Int))))], []⟩, fun k => n - k⟩ fun k => Ann.leaf)) Ann.leaf))
theorem rect_within_vc (l : Int) (n : Nat) (xs : List DV) : vcg Tryd.prog gam 23 (bodyOf Tryd.f76) (rect_within_ann l n xs) kn0 (start [RV.d (DV.int .i64 l), RV.d (DV.sl n xs)]) (post Tryd.prog Tryd.f76.results.toList (· = RV.d (DV.bool (withinS l xs)))) =
  (let zz0 := fun (k : Nat) => (k ≤ n ∧ withinS l (xs.take k) = true); let zz1 := (DV.int .i64 l = DV.int .i64 l); let zz2 := (DV.int .i64 ((n : Nat) : Int) = DV.int .i64 ((n : Nat) : Int)); (True) ∧ (True) ∧ (True) ∧ (True) ∧ ((∃ k : Nat, (zz0 k) ∧ ((zz1 ∧ (DV.sl n xs = DV.sl n xs) ∧ (DV.sl n xs = DV.sl n xs) ∧ zz2 ∧ (DV.int .i64 (0 : Int) = DV.int .i64 ((k : Nat) : Int)) ∧ True) ∧ (True))) ∧ ∀ k : Nat, (zz0 k) → (True) ∧ (((decide (((k : Nat) : Int) < ((n : Nat) : Int))) = true → (0 ≤ ((k : Nat) : Int) ∧ ((k : Nat) : Int) < ((n : Nat) : Int) ∧ ((k : Nat) : Int).toNat * 1 < xs.length) ∧ ((xs[((k : Nat) : Int).toNat * 1]? = some (DV.int .i64 (nAt xs (((k : Nat) : Int).toNat * 1)))) ∧ True) ∧ (True) ∧ (True) ∧ (True) ∧ (True) ∧ (True) ∧ (True) ∧ (((decide ((nAt xs (((k : Nat) : Int).toNat * 1)) < (IntKind.wrap .i64 (0 - l)))) = false → (True) ∧ (True) ∧ (True) ∧ (True) ∧ (((decide ((nAt xs (((k : Nat) : Int).toNat * 1)) > l)) = true → (True) ∧ RV.d (DV.bool false) = RV.d (DV.bool (withinS l xs))) ∧ ((decide ((nAt xs (((k : Nat) : Int).toNat * 1)) > l)) = false → (True) ∧ (True) ∧ ∃ k' : Nat, (k' ≤ n ∧ withinS l (xs.take k') = true) ∧ (n - k' < n - k) ∧ ((zz1 ∧ (DV.sl n xs = DV.sl n xs) ∧ (DV.sl n xs = DV.sl n xs) ∧ zz2 ∧ (DV.int .i64 (IntKind.wrap .i64 (((k : Nat) : Int) + (1 : Int))) = DV.int .i64 ((k' : Nat) : Int)) ∧ True) ∧ (True))))) ∧ ((decide ((nAt xs (((k : Nat) : Int).toNat * 1)) < (IntKind.wrap .i64 (0 - l)))) = (!false) → (True) ∧ (True) ∧ RV.d (DV.bool false) = RV.d (DV.bool (withinS l xs))))) ∧ ((decide (((k : Nat) : Int) < ((n : Nat) : Int))) = false → (True) ∧ RV.d (DV.bool true) = RV.d (DV.bool (withinS l xs)))))) := by kernel_rfl
theorem rect_within_ans (l : Int) (n : Nat) (xs : List DV) (hx : xs = is (ints xs)) (hn : n = xs.length) (hl : 0 ≤ l ∧ l ≤ 4611686018427387904) : Ans Tryd.prog 76 [RV.d (DV.int .i64 l), RV.d (DV.sl n xs)] (RV.d (DV.bool (withinS l xs))) :=
  ans_of_vcg (Γ := gam) (rect_within_ann l n xs) mixed_ Tryd.func76 rfl (Nat.le_of_ble_eq_true rfl) fun hwf => by
    refine Eq.mpr (rect_within_vc l n xs) ?_
    simp only [true_and, and_true, RV.d.injEq, RV.agg.injEq, RV.tup.injEq, DV.bool.injEq, DV.int.injEq, List.cons.injEq, forall_const, Bool.not_false, Bool.not_true, Bool.not_eq_true', Bool.not_eq_false', R13_ValidRect_ans, G_Mod_ans, R13_Empty_ans, R13_clean_ans, R13_Area_ans, R13_Intersect_ans]
    obtain ⟨L, rfl⟩ : ∃ L, xs = is L := ⟨_, hx⟩
    subst hn
    simp only [RV.wfs, RV.wf, DV.wf, is_length, IntKind.min, IntKind.max, IntKind.signed, IntKind.bits, and_true, maxLen] at hwf
    simp only [is_length, Int.toNat_natCast, Nat.mul_one, decide_eq_true_eq, decide_eq_false_iff_not]
    have hsucc : ∀ k (h : k < L.length), withinS l (is (L.take (k + 1))) = (withinS l (is (L.take k)) && (decide (-l ≤ L[k]) && decide (L[k] ≤ l))) := fun k h => by
      simp only [withinS, ints_is, List.take_add_one, List.all_append, List.getElem?_eq_getElem h, Option.toList_some, List.all_cons, List.all_nil, Bool.and_true]
    have htake : ∀ k, (is L).take k = is (L.take k) := fun k => by simp [is]
    have hall : ∀ k (h : k < L.length), withinS l (is L) = true → -l ≤ L[k] ∧ L[k] ≤ l := fun k h hw => by
      simp only [withinS, ints_is, List.all_eq_true] at hw
      have := hw L[k] (List.getElem_mem h)
      simpa using this
    refine ⟨⟨0, ⟨by omega, by simp [withinS, ints]⟩, rfl⟩, fun k hk => ⟨fun hlt => ?_, fun hge => ?_⟩⟩
    · have hlt' : k < L.length := by omega
      have h1 := hsucc k hlt'
      have h2 := hall k hlt'
      have hw := wf_is hwf.2.2 hlt'
      rw [nAt_is hlt', is_at hlt', IntWalk.i64_in (0 - l) ⟨by omega, by omega⟩]
      refine ⟨by omega, rfl, fun h3 => ⟨fun h4 => ?_, fun h4 => ⟨k + 1, ⟨by omega, ?_⟩, by omega, ?_⟩⟩, fun h3 => ?_⟩
      · cases h5 : withinS l (is L) with
        | false => rfl
        | true => have := h2 h5; omega
      · rw [htake, h1, ← htake, hk.2]; simp; omega
      · rw [IntWalk.i64_in _ ⟨by omega, by omega⟩]; omega
      · cases h5 : withinS l (is L) with
        | false => rfl
        | true => have := h2 h5; omega
    · have : k = L.length := by omega
      subst this
      have := hk.2
      rw [htake, List.take_length] at this
      exact this.symm

def rect_Valid_ann (a : Int) (b : Int) (c : Int) (d : Int) : Ann := Ann.leaf
theorem rect_Valid_vc (a : Int) (b : Int) (c : Int) (d : Int) : vcg Tryd.prog gam 13 (bodyOf Tryd.f55) (rect_Valid_ann a b c d) kn0 (start [RV.agg [DV.int .i64 a, DV.int .i64 b, DV.int .i64 c, DV.int .i64 d]]) (post Tryd.prog Tryd.f55.results.toList (· = RV.d (DV.bool (Rc.valid ⟨a, b, c, d⟩)))) =
  (let zz0 := (DV.bool (withinS (1073741824 : Int) ([DV.int .i64 a, DV.int .i64 b, DV.int .i64 c, DV.int .i64 d]))); (True) ∧ (True) ∧ (True) ∧ (True) ∧ (True) ∧ (True) ∧ (True) ∧ (True) ∧ (True) ∧ (True) ∧ (True) ∧ (Ans Tryd.prog 76 [RV.d (DV.int .i64 (1073741824 : Int)), RV.d (DV.sl 4 ([DV.int .i64 a, DV.int .i64 b, DV.int .i64 c, DV.int .i64 d]))] (RV.d zz0)) ∧ (True) ∧ RV.d zz0 = RV.d (DV.bool (Rc.valid ⟨a, b, c, d⟩))) := by kernel_rfl
theorem rect_Valid_ans (a : Int) (b : Int) (c : Int) (d : Int) : Ans Tryd.prog 55 [RV.agg [DV.int .i64 a, DV.int .i64 b, DV.int .i64 c, DV.int .i64 d]] (RV.d (DV.bool (Rc.valid ⟨a, b, c, d⟩))) :=
  ans_of_vcg (Γ := gam) (rect_Valid_ann a b c d) mixed_ Tryd.func55 rfl (Nat.le_of_ble_eq_true rfl) fun hwf => by
    refine Eq.mpr (rect_Valid_vc a b c d) ?_
    simp only [true_and, and_true, RV.d.injEq, RV.agg.injEq, RV.tup.injEq, DV.bool.injEq, DV.int.injEq, List.cons.injEq, forall_const, Bool.not_false, Bool.not_true, Bool.not_eq_true', Bool.not_eq_false', R13_ValidRect_ans, G_Mod_ans, R13_Empty_ans, R13_clean_ans, R13_Area_ans, R13_Intersect_ans]
    exact ⟨rect_within_ans _ _ _ rfl rfl (by omega), by grind [withinS, ints, Rc.valid, okC]⟩

def rect_Empty_ann (a : Int) (b : Int) (c : Int) (d : Int) : Ann := Ann.leaf
theorem rect_Empty_vc (a : Int) (b : Int) (c : Int) (d : Int) : vcg Tryd.prog gam 20 (bodyOf Tryd.f40) (rect_Empty_ann a b c d) kn0 (start [RV.agg [DV.int .i64 a, DV.int .i64 b, DV.int .i64 c, DV.int .i64 d]]) (post Tryd.prog Tryd.f40.results.toList (· = RV.d (DV.bool (Rc.empty ⟨a, b, c, d⟩)))) =
  (let zz0 := (DV.bool (Rc.empty ⟨a, b, c, d⟩)); (True) ∧ (True) ∧ (True) ∧ (Ans Tryd.prog 55 [RV.agg [DV.int .i64 a, DV.int .i64 b, DV.int .i64 c, DV.int .i64 d]] (RV.d (DV.bool (Rc.valid ⟨a, b, c, d⟩)))) ∧ (True) ∧ (True) ∧ (((!(Rc.valid ⟨a, b, c, d⟩)) = false → (True) ∧ (True) ∧ (True) ∧ (True) ∧ (True) ∧ (True) ∧ (True) ∧ (((decide (a ≥ c)) = false → (True) ∧ (True) ∧ (True) ∧ (True) ∧ (True) ∧ (True) ∧ (True) ∧ RV.d (DV.bool (decide (b ≥ d))) = RV.d zz0) ∧ ((decide (a ≥ c)) = (!false) → (True) ∧ (True) ∧ RV.d (DV.bool true) = RV.d zz0))) ∧ ((!(Rc.valid ⟨a, b, c, d⟩)) = (!false) → (True) ∧ (True) ∧ (True) ∧ (True) ∧ RV.d (DV.bool true) = RV.d zz0))) := by kernel_rfl
theorem rect_Empty_ans (a : Int) (b : Int) (c : Int) (d : Int) : Ans Tryd.prog 40 [RV.agg [DV.int .i64 a, DV.int .i64 b, DV.int .i64 c, DV.int .i64 d]] (RV.d (DV.bool (Rc.empty ⟨a, b, c, d⟩))) :=
  ans_of_vcg (Γ := gam) (rect_Empty_ann a b c d) mixed_ Tryd.func40 rfl (Nat.le_of_ble_eq_true rfl) fun hwf => by
    refine Eq.mpr (rect_Empty_vc a b c d) ?_
    simp only [true_and, and_true, RV.d.injEq, RV.agg.injEq, RV.tup.injEq, DV.bool.injEq, DV.int.injEq, List.cons.injEq, forall_const, Bool.not_false, Bool.not_true, Bool.not_eq_true', Bool.not_eq_false', R13_ValidRect_ans, G_Mod_ans, R13_Empty_ans, R13_clean_ans, R13_Area_ans, R13_Intersect_ans, rect_Valid_ans]
    grind [Rc.empty]

def rect_clean_ann (a : Int) (b : Int) (c : Int) (d : Int) : Ann := Ann.leaf
theorem rect_clean_vc (a : Int) (b : Int) (c : Int) (d : Int) : vcg Tryd.prog gam 7 (bodyOf Tryd.f46) (rect_clean_ann a b c d) kn0 (start [RV.agg [DV.int .i64 a, DV.int .i64 b, DV.int .i64 c, DV.int .i64 d]]) (post Tryd.prog Tryd.f46.results.toList (· = RV.agg [DV.int .i64 ((Rc.clean ⟨a, b, c, d⟩).a), DV.int .i64 ((Rc.clean ⟨a, b, c, d⟩).b), DV.int .i64 ((Rc.clean ⟨a, b, c, d⟩).c), DV.int .i64 ((Rc.clean ⟨a, b, c, d⟩).d)])) =
  (let zz0 := [DV.int .i64 a, DV.int .i64 b, DV.int .i64 c, DV.int .i64 d]; let zz1 := [DV.int .i64 ((Rc.clean ⟨a, b, c, d⟩).a), DV.int .i64 ((Rc.clean ⟨a, b, c, d⟩).b), DV.int .i64 ((Rc.clean ⟨a, b, c, d⟩).c), DV.int .i64 ((Rc.clean ⟨a, b, c, d⟩).d)]; (True) ∧ (True) ∧ (True) ∧ (Ans Tryd.prog 40 [RV.agg zz0] (RV.d (DV.bool (Rc.empty ⟨a, b, c, d⟩)))) ∧ (((Rc.empty ⟨a, b, c, d⟩) = true → (True) ∧ (True) ∧ RV.agg [DV.int .i64 (0 : Int), DV.int .i64 (0 : Int), DV.int .i64 (0 : Int), DV.int .i64 (0 : Int)] = RV.agg zz1) ∧ ((Rc.empty ⟨a, b, c, d⟩) = false → (True) ∧ (True) ∧ RV.agg zz0 = RV.agg zz1))) := by kernel_rfl
theorem rect_clean_ans (a : Int) (b : Int) (c : Int) (d : Int) : Ans Tryd.prog 46 [RV.agg [DV.int .i64 a, DV.int .i64 b, DV.int .i64 c, DV.int .i64 d]] (RV.agg [DV.int .i64 ((Rc.clean ⟨a, b, c, d⟩).a), DV.int .i64 ((Rc.clean ⟨a, b, c, d⟩).b), DV.int .i64 ((Rc.clean ⟨a, b, c, d⟩).c), DV.int .i64 ((Rc.clean ⟨a, b, c, d⟩).d)]) :=
  ans_of_vcg (Γ := gam) (rect_clean_ann a b c d) mixed_ Tryd.func46 rfl (Nat.le_of_ble_eq_true rfl) fun hwf => by
    refine Eq.mpr (rect_clean_vc a b c d) ?_
    simp only [true_and, and_true, RV.d.injEq, RV.agg.injEq, RV.tup.injEq, DV.bool.injEq, DV.int.injEq, List.cons.injEq, forall_const, Bool.not_false, Bool.not_true, Bool.not_eq_true', Bool.not_eq_false', R13_ValidRect_ans, G_Mod_ans, R13_Empty_ans, R13_clean_ans, R13_Area_ans, R13_Intersect_ans, rect_Valid_ans, rect_Empty_ans]
    grind [Rc.clean, Rc.zero]

def rect_Area_ann (a : Int) (b : Int) (c : Int) (d : Int) : Ann := Ann.leaf
theorem rect_Area_vc (a : Int) (b : Int) (c : Int) (d : Int) : vcg Tryd.prog gam 16 (bodyOf Tryd.f60) (rect_Area_ann a b c d) kn0 (start [RV.agg [DV.int .i64 a, DV.int .i64 b, DV.int .i64 c, DV.int .i64 d]]) (post Tryd.prog Tryd.f60.results.toList (· = RV.d (DV.int .i64 (Rc.area ⟨a, b, c, d⟩)))) =
  ((True) ∧ (True) ∧ (True) ∧ (Ans Tryd.prog 46 [RV.agg [DV.int .i64 a, DV.int .i64 b, DV.int .i64 c, DV.int .i64 d]] (RV.agg [DV.int .i64 ((Rc.clean ⟨a, b, c, d⟩).a), DV.int .i64 ((Rc.clean ⟨a, b, c, d⟩).b), DV.int .i64 ((Rc.clean ⟨a, b, c, d⟩).c), DV.int .i64 ((Rc.clean ⟨a, b, c, d⟩).d)])) ∧ (True) ∧ (True) ∧ (True) ∧ (True) ∧ (True) ∧ (True) ∧ (True) ∧ (True) ∧ (True) ∧ (True) ∧ (True) ∧ (True) ∧ (True) ∧ RV.d (DV.int .i64 (IntKind.wrap .i64 ((IntKind.wrap .i64 (((Rc.clean ⟨a, b, c, d⟩).c) - ((Rc.clean ⟨a, b, c, d⟩).a))) * (IntKind.wrap .i64 (((Rc.clean ⟨a, b, c, d⟩).d) - ((Rc.clean ⟨a, b, c, d⟩).b)))))) = RV.d (DV.int .i64 (Rc.area ⟨a, b, c, d⟩))) := by kernel_rfl
theorem rect_Area_ans (a : Int) (b : Int) (c : Int) (d : Int) : Ans Tryd.prog 60 [RV.agg [DV.int .i64 a, DV.int .i64 b, DV.int .i64 c, DV.int .i64 d]] (RV.d (DV.int .i64 (Rc.area ⟨a, b, c, d⟩))) :=
  ans_of_vcg (Γ := gam) (rect_Area_ann a b c d) mixed_ Tryd.func60 rfl (Nat.le_of_ble_eq_true rfl) fun hwf => by
    refine Eq.mpr (rect_Area_vc a b c d) ?_
    simp only [true_and, and_true, RV.d.injEq, RV.agg.injEq, RV.tup.injEq, DV.bool.injEq, DV.int.injEq, List.cons.injEq, forall_const, Bool.not_false, Bool.not_true, Bool.not_eq_true', Bool.not_eq_false', R13_ValidRect_ans, G_Mod_ans, R13_Empty_ans, R13_clean_ans, R13_Area_ans, R13_Intersect_ans, rect_Valid_ans, rect_Empty_ans, rect_clean_ans]
    exact Rc.area_wrap _

def rect_Intersect_ann (a : Int) (b : Int) (c : Int) (d : Int) (a' : Int) (b' : Int) (c' : Int) (d' : Int) : Ann := Ann.leaf
theorem rect_Intersect_vc (a : Int) (b : Int) (c : Int) (d : Int) (a' : Int) (b' : Int) (c' : Int) (d' : Int) : vcg Tryd.prog gam 34 (bodyOf Tryd.f31) (rect_Intersect_ann a b c d a' b' c' d') kn0 (start [RV.agg [DV.int .i64 a, DV.int .i64 b, DV.int .i64 c, DV.int .i64 d], RV.agg [DV.int .i64 a', DV.int .i64 b', DV.int .i64 c', DV.int .i64 d']]) (post Tryd.prog Tryd.f31.results.toList (· = RV.agg [DV.int .i64 ((Rc.inter ⟨a, b, c, d⟩ ⟨a', b', c', d'⟩).a), DV.int .i64 ((Rc.inter ⟨a, b, c, d⟩ ⟨a', b', c', d'⟩).b), DV.int .i64 ((Rc.inter ⟨a, b, c, d⟩ ⟨a', b', c', d'⟩).c), DV.int .i64 ((Rc.inter ⟨a, b, c, d⟩ ⟨a', b', c', d'⟩).d)])) =
  (let zz0 := [DV.int .i64 (0 : Int), DV.int .i64 (0 : Int), DV.int .i64 (0 : Int), DV.int .i64 (0 : Int)]; let zz1 := (Rc.inter ⟨a, b, c, d⟩ ⟨a', b', c', d'⟩); let zz2 := [DV.int .i64 (zz1.a), DV.int .i64 (zz1.b), DV.int .i64 (zz1.c), DV.int .i64 (zz1.d)]; let zz3 := (Rc.clean ⟨(max a a'), (max b b'), (min c c'), (min d d')⟩); let zz4 := [DV.int .i64 (zz3.a), DV.int .i64 (zz3.b), DV.int .i64 (zz3.c), DV.int .i64 (zz3.d)]; (True) ∧ (True) ∧ (True) ∧ (True) ∧ (Ans Tryd.prog 40 [RV.agg [DV.int .i64 a, DV.int .i64 b, DV.int .i64 c, DV.int .i64 d]] (RV.d (DV.bool (Rc.empty ⟨a, b, c, d⟩)))) ∧ (True) ∧ (((Rc.empty ⟨a, b, c, d⟩) = false → (True) ∧ (Ans Tryd.prog 40 [RV.agg [DV.int .i64 a', DV.int .i64 b', DV.int .i64 c', DV.int .i64 d']] (RV.d (DV.bool (Rc.empty ⟨a', b', c', d'⟩)))) ∧ (True) ∧ (((Rc.empty ⟨a', b', c', d'⟩) = true → (True) ∧ (True) ∧ RV.agg zz0 = RV.agg zz2) ∧ ((Rc.empty ⟨a', b', c', d'⟩) = false → (True) ∧ (True) ∧ (True) ∧ (True) ∧ (True) ∧ (True) ∧ (True) ∧ (True) ∧ (True) ∧ (True) ∧ (True) ∧ (True) ∧ (True) ∧ (True) ∧ (True) ∧ (True) ∧ (True) ∧ (True) ∧ (True) ∧ (True) ∧ (True) ∧ (Ans Tryd.prog 46 [RV.agg [DV.int .i64 (max a a'), DV.int .i64 (max b b'), DV.int .i64 (min c c'), DV.int .i64 (min d d')]] (RV.agg zz4)) ∧ (True) ∧ RV.agg zz4 = RV.agg zz2))) ∧ ((Rc.empty ⟨a, b, c, d⟩) = (!false) → (True) ∧ (True) ∧ (True) ∧ RV.agg zz0 = RV.agg zz2))) := by kernel_rfl
theorem rect_Intersect_ans (a : Int) (b : Int) (c : Int) (d : Int) (a' : Int) (b' : Int) (c' : Int) (d' : Int) : Ans Tryd.prog 31 [RV.agg [DV.int .i64 a, DV.int .i64 b, DV.int .i64 c, DV.int .i64 d], RV.agg [DV.int .i64 a', DV.int .i64 b', DV.int .i64 c', DV.int .i64 d']] (RV.agg [DV.int .i64 ((Rc.inter ⟨a, b, c, d⟩ ⟨a', b', c', d'⟩).a), DV.int .i64 ((Rc.inter ⟨a, b, c, d⟩ ⟨a', b', c', d'⟩).b), DV.int .i64 ((Rc.inter ⟨a, b, c, d⟩ ⟨a', b', c', d'⟩).c), DV.int .i64 ((Rc.inter ⟨a, b, c, d⟩ ⟨a', b', c', d'⟩).d)]) :=
  ans_of_vcg (Γ := gam) (rect_Intersect_ann a b c d a' b' c' d') mixed_ Tryd.func31 rfl (Nat.le_of_ble_eq_true rfl) fun hwf => by
    refine Eq.mpr (rect_Intersect_vc a b c d a' b' c' d') ?_
    simp only [true_and, and_true, RV.d.injEq, RV.agg.injEq, RV.tup.injEq, DV.bool.injEq, DV.int.injEq, List.cons.injEq, forall_const, Bool.not_false, Bool.not_true, Bool.not_eq_true', Bool.not_eq_false', R13_ValidRect_ans, G_Mod_ans, R13_Empty_ans, R13_clean_ans, R13_Area_ans, R13_Intersect_ans, rect_Valid_ans, rect_Empty_ans, rect_clean_ans, rect_Area_ans]
    cases h1 : Rc.empty ⟨a, b, c, d⟩ <;> cases h2 : Rc.empty ⟨a', b', c', d'⟩ <;> simp [Rc.inter, h1, h2, Rc.zero]

end Go.Proofs.YtcaokljobfkajaaDoor

/-
  Count and Rect of package tile as they reckon; awake.
-/
namespace Go.Proofs.YtcaokljobfkajaaDoor
open Go.RowKit
set_option linter.unusedVariables false
set_option linter.unusedSimpArgs false
attribute [local irreducible] Ans AnsO AnsG AnsN AnsI

def cntS (r : Rc) (w h : Int) : Int × Int × Bool :=
  if r.empty then (0, 0, false)
  else if w < 1 ∨ IntKind.wrap .i64 (r.c - r.a) < w ∨ h < 1 ∨ IntKind.wrap .i64 (r.d - r.b) < h then (0, 0, false)
  else (IntKind.wrap .i64 (Int.tdiv (IntKind.wrap .i64 (IntKind.wrap .i64 (IntKind.wrap .i64 (r.c - r.a) + w) - 1)) w), IntKind.wrap .i64 (Int.tdiv (IntKind.wrap .i64 (IntKind.wrap .i64 (IntKind.wrap .i64 (r.d - r.b) + h) - 1)) h), true)
def gamW : Gam where
 pure := fun f xs =>
  if f = 9 then (match xs with | [.d (.int _ n), .d (.int _ k)] => some (RV.d (DV.int .i64 (modS n k))) | _ => none) else
  if f = 42 then (match xs with | [.d (.sl n xs), .d (.int _ i)] => some (RV.d (DV.int .i64 (atS (ints xs) i))) | _ => none) else
  if f = 24 then (match xs with | [] => some (RV.tup [RV.tup [RV.d (DV.int .i64 3), RV.d (DV.int .i64 1)]]) | [.d (.sl n xs), .d (.int _ m)] => some (RV.d (DV.sl ((permL (ints xs) m).length) (is (permL (ints xs) m)))) | _ => none) else
  if f = 40 then (match xs with | [.agg [.int _ a, .int _ b, .int _ c, .int _ d]] => some (RV.d (DV.bool (Rc.empty ⟨a, b, c, d⟩))) | _ => none) else
  if f = 62 then (match xs with | [.agg [.int _ a, .int _ b, .int _ c, .int _ d], .d (.int _ w), .d (.int _ h)] => some (RV.tup [RV.d (DV.int .i64 ((cntS ⟨a, b, c, d⟩ w h).1)), RV.d (DV.int .i64 ((cntS ⟨a, b, c, d⟩ w h).2.1)), RV.d (DV.bool ((cntS ⟨a, b, c, d⟩ w h).2.2))]) | _ => none) else
  none
 modes := fun f =>
  if f = 63 then some ([true, true], 0, 1) else
  if f = 72 then some ([true, true], 0, 1) else
  none
 proc := fun f xs bs =>
  if f = 63 then (match xs, bs with | [AV.one (Cl.d (DV.sl n xs)), AV.one (Cl.d (DV.int _ m))], [] => some ⟨AV.tup [AV.one (Cl.ref 0 ((orderL (ints xs) m).length)), AV.one (Cl.d (DV.bool (orderOk (ints xs) m)))], [Bx.row 3 1 (is (orderL (ints xs) m))], true⟩ | _, _ => none) else
  if f = 72 then (match xs, bs with | [AV.one (Cl.d (DV.sl n xs)), AV.one (Cl.d (DV.int _ m))], [] => some ⟨AV.tup [AV.one (Cl.ref 0 ((orderL (ints xs) m).length)), AV.one (Cl.d (DV.bool (orderOk (ints xs) m)))], [Bx.row 3 1 (is (orderL (ints xs) m))], true⟩ | _, _ => none) else
  none
 iter := fun f cs =>
  none

def tile_Count_ann (a : Int) (b : Int) (c : Int) (d : Int) (w : Int) (h : Int) : Ann := Ann.leaf
theorem tile_Count_vc (a : Int) (b : Int) (c : Int) (d : Int) (w : Int) (h : Int) : vcg Tryd.prog gamW 51 (bodyOf Tryd.f62) (tile_Count_ann a b c d w h) kn0 (start [RV.agg [DV.int .i64 a, DV.int .i64 b, DV.int .i64 c, DV.int .i64 d], RV.d (DV.int .i64 w), RV.d (DV.int .i64 h)]) (post Tryd.prog Tryd.f62.results.toList (· = RV.tup [RV.d (DV.int .i64 ((cntS ⟨a, b, c, d⟩ w h).1)), RV.d (DV.int .i64 ((cntS ⟨a, b, c, d⟩ w h).2.1)), RV.d (DV.bool ((cntS ⟨a, b, c, d⟩ w h).2.2))])) =
  (let zz0 := [RV.d (DV.int .i64 0), RV.d (DV.int .i64 0), RV.d (DV.bool false)]; let zz1 := [RV.d (DV.int .i64 ((cntS ⟨a, b, c, d⟩ w h).1)), RV.d (DV.int .i64 ((cntS ⟨a, b, c, d⟩ w h).2.1)), RV.d (DV.bool ((cntS ⟨a, b, c, d⟩ w h).2.2))]; True ∧ True ∧ True ∧ True ∧ True ∧ (Ans Tryd.prog 40 [RV.agg [DV.int .i64 a, DV.int .i64 b, DV.int .i64 c, DV.int .i64 d]] (RV.d (DV.bool (Rc.empty ⟨a, b, c, d⟩)))) ∧ (((Rc.empty ⟨a, b, c, d⟩) = true → True ∧ True ∧ True ∧ RV.tup zz0 = RV.tup zz1) ∧ ((Rc.empty ⟨a, b, c, d⟩) = false → True ∧ True ∧ True ∧ True ∧ True ∧ True ∧ True ∧ True ∧ True ∧ True ∧ True ∧ True ∧ (true = true) ∧ True ∧ True ∧ True ∧ (((decide (w < (1 : Int))) = false → True ∧ True ∧ True ∧ True ∧ True ∧ (((decide (w > (IntKind.wrap .i64 (c - a)))) = false → True ∧ True ∧ True ∧ True ∧ (((decide (h < (1 : Int))) = false → True ∧ True ∧ True ∧ True ∧ (((decide (h > (IntKind.wrap .i64 (d - b)))) = true → True ∧ True ∧ True ∧ RV.tup zz0 = RV.tup zz1) ∧ ((decide (h > (IntKind.wrap .i64 (d - b)))) = false → True ∧ True ∧ True ∧ True ∧ True ∧ (w ≠ 0) ∧ True ∧ True ∧ True ∧ True ∧ True ∧ (h ≠ 0) ∧ True ∧ True ∧ True ∧ (true = true) ∧ RV.tup [RV.d (DV.int .i64 (IntKind.wrap .i64 (Int.tdiv (IntKind.wrap .i64 ((IntKind.wrap .i64 ((IntKind.wrap .i64 (c - a)) + w)) - (1 : Int))) w))), RV.d (DV.int .i64 (IntKind.wrap .i64 (Int.tdiv (IntKind.wrap .i64 ((IntKind.wrap .i64 ((IntKind.wrap .i64 (d - b)) + h)) - (1 : Int))) h))), RV.d (DV.bool true)] = RV.tup zz1))) ∧ ((decide (h < (1 : Int))) = (!false) → True ∧ True ∧ True ∧ True ∧ RV.tup zz0 = RV.tup zz1))) ∧ ((decide (w > (IntKind.wrap .i64 (c - a)))) = (!false) → True ∧ True ∧ True ∧ True ∧ True ∧ True ∧ RV.tup zz0 = RV.tup zz1))) ∧ ((decide (w < (1 : Int))) = (!false) → True ∧ True ∧ True ∧ True ∧ True ∧ True ∧ True ∧ True ∧ RV.tup zz0 = RV.tup zz1))))) := by kernel_rfl
theorem tile_Count_ans (a : Int) (b : Int) (c : Int) (d : Int) (w : Int) (h : Int) : Ans Tryd.prog 62 [RV.agg [DV.int .i64 a, DV.int .i64 b, DV.int .i64 c, DV.int .i64 d], RV.d (DV.int .i64 w), RV.d (DV.int .i64 h)] (RV.tup [RV.d (DV.int .i64 ((cntS ⟨a, b, c, d⟩ w h).1)), RV.d (DV.int .i64 ((cntS ⟨a, b, c, d⟩ w h).2.1)), RV.d (DV.bool ((cntS ⟨a, b, c, d⟩ w h).2.2))]) :=
  ans_of_vcg (Γ := gamW) (tile_Count_ann a b c d w h) mixed_ Tryd.func62 rfl (Nat.le_of_ble_eq_true rfl) fun hwf => by
    refine Eq.mpr (tile_Count_vc a b c d w h) ?_
    simp only [true_and, and_true, RV.d.injEq, RV.agg.injEq, RV.tup.injEq, DV.bool.injEq, DV.int.injEq, DV.sl.injEq, List.cons.injEq, forall_const, Bool.not_false, Bool.not_true, Bool.not_eq_true', Bool.not_eq_false', decide_eq_true_eq, decide_eq_false_iff_not, Int.toNat_natCast, rect_Empty_ans]
    unfold cntS
    cases he : Rc.empty ⟨a, b, c, d⟩ <;> by_cases h1 : w < 1 <;> by_cases h2 : IntKind.wrap .i64 (c - a) < w <;> by_cases h3 : h < 1 <;> by_cases h4 : IntKind.wrap .i64 (d - b) < h <;> simp [h1, h2, h3, h4] <;> omega

end Go.Proofs.YtcaokljobfkajaaDoor

/-
  Lists of images, and scripts, in plain words.
-/
namespace Go.Proofs.YtcaokljobfkajaaDoor
open Go.RowKit
set_option linter.unusedVariables false
set_option linter.unusedSimpArgs false
set_option maxRecDepth 4000

/-- the cells of an image -/
def Im.ds (m : Im) : List DV := [.int .i64 m.w, .int .i64 m.h, .bool m.so, .int .u16 m.c.a, .int .u16 m.c.b, .int .u16 m.c.c, .int .u16 m.c.al, .int .u16 m.c.f, .int .i64 m.p0.w, .int .i64 m.p0.h, .int .i64 m.p0.s, .sl m.p0.n m.p0.xs, .int .i64 m.p1.w, .int .i64 m.p1.h, .int .i64 m.p1.s, .sl m.p1.n m.p1.xs, .int .i64 m.p2.w, .int .i64 m.p2.h, .int .i64 m.p2.s, .sl m.p2.n m.p2.xs, .int .i64 m.p3.w, .int .i64 m.p3.h, .int .i64 m.p3.s, .sl m.p3.n m.p3.xs, .int .i64 m.p4.w, .int .i64 m.p4.h, .int .i64 m.p4.s, .sl m.p4.n m.p4.xs]
theorem Im.ds_len (m : Im) : m.ds.length = 28 := rfl
def ims (l : List Im) : List DV := l.flatMap Im.ds
theorem ims_length (l : List Im) : (ims l).length = l.length * 28 := by
  induction l with
  | nil => rfl
  | cons o l ih => simp only [ims, List.flatMap_cons, List.length_append, List.length_cons] at ih ⊢; rw [ih, Im.ds_len]; omega
theorem ims_append (l m : List Im) : ims (l ++ m) = ims l ++ ims m := by simp [ims]
theorem ims_cons (m : Im) (l : List Im) : ims (m :: l) = m.ds ++ ims l := by simp [ims]
theorem ims_one (m : Im) : ims [m] = m.ds := by simp [ims]
theorem ims_get {l : List Im} {k : Nat} (h : k < l.length) (j : Nat) (hj : j < 28) : (ims l)[k * 28 + j]? = l[k].ds[j]? := by
  induction l generalizing k with
  | nil => simp at h
  | cons o l ih =>
    rw [ims_cons]
    cases k with
    | zero => simp only [List.getElem_cons_zero]; rw [List.getElem?_append_left (by rw [Im.ds_len]; omega)]; simp
    | succ k =>
      rw [List.getElem?_append_right (by rw [Im.ds_len]; omega)]
      have := ih (k := k) (by simpa using h)
      simp only [List.getElem_cons_succ]
      rw [← this]
      congr 1
      rw [Im.ds_len]; omega
theorem ims_rd {l : List Im} {k : Nat} (h : k < l.length) : (ims l)[k * 28]? = some (.int .i64 l[k].w) ∧ (ims l)[k * 28 + 1]? = some (.int .i64 l[k].h) ∧ (ims l)[k * 28 + 1 + 1]? = some (.bool l[k].so) ∧ (ims l)[k * 28 + 1 + 1 + 1]? = some (.int .u16 l[k].c.a) ∧ (ims l)[k * 28 + 1 + 1 + 1 + 1]? = some (.int .u16 l[k].c.b) ∧ (ims l)[k * 28 + 1 + 1 + 1 + 1 + 1]? = some (.int .u16 l[k].c.c) ∧ (ims l)[k * 28 + 1 + 1 + 1 + 1 + 1 + 1]? = some (.int .u16 l[k].c.al) ∧ (ims l)[k * 28 + 1 + 1 + 1 + 1 + 1 + 1 + 1]? = some (.int .u16 l[k].c.f) ∧ (ims l)[k * 28 + 1 + 1 + 1 + 1 + 1 + 1 + 1 + 1]? = some (.int .i64 l[k].p0.w) ∧ (ims l)[k * 28 + 1 + 1 + 1 + 1 + 1 + 1 + 1 + 1 + 1]? = some (.int .i64 l[k].p0.h) ∧ (ims l)[k * 28 + 1 + 1 + 1 + 1 + 1 + 1 + 1 + 1 + 1 + 1]? = some (.int .i64 l[k].p0.s) ∧ (ims l)[k * 28 + 1 + 1 + 1 + 1 + 1 + 1 + 1 + 1 + 1 + 1 + 1]? = some (.sl l[k].p0.n l[k].p0.xs) ∧ (ims l)[k * 28 + 1 + 1 + 1 + 1 + 1 + 1 + 1 + 1 + 1 + 1 + 1 + 1]? = some (.int .i64 l[k].p1.w) ∧ (ims l)[k * 28 + 1 + 1 + 1 + 1 + 1 + 1 + 1 + 1 + 1 + 1 + 1 + 1 + 1]? = some (.int .i64 l[k].p1.h) ∧ (ims l)[k * 28 + 1 + 1 + 1 + 1 + 1 + 1 + 1 + 1 + 1 + 1 + 1 + 1 + 1 + 1]? = some (.int .i64 l[k].p1.s) ∧ (ims l)[k * 28 + 1 + 1 + 1 + 1 + 1 + 1 + 1 + 1 + 1 + 1 + 1 + 1 + 1 + 1 + 1]? = some (.sl l[k].p1.n l[k].p1.xs) ∧ (ims l)[k * 28 + 1 + 1 + 1 + 1 + 1 + 1 + 1 + 1 + 1 + 1 + 1 + 1 + 1 + 1 + 1 + 1]? = some (.int .i64 l[k].p2.w) ∧ (ims l)[k * 28 + 1 + 1 + 1 + 1 + 1 + 1 + 1 + 1 + 1 + 1 + 1 + 1 + 1 + 1 + 1 + 1 + 1]? = some (.int .i64 l[k].p2.h) ∧ (ims l)[k * 28 + 1 + 1 + 1 + 1 + 1 + 1 + 1 + 1 + 1 + 1 + 1 + 1 + 1 + 1 + 1 + 1 + 1 + 1]? = some (.int .i64 l[k].p2.s) ∧ (ims l)[k * 28 + 1 + 1 + 1 + 1 + 1 + 1 + 1 + 1 + 1 + 1 + 1 + 1 + 1 + 1 + 1 + 1 + 1 + 1 + 1]? = some (.sl l[k].p2.n l[k].p2.xs) ∧ (ims l)[k * 28 + 1 + 1 + 1 + 1 + 1 + 1 + 1 + 1 + 1 + 1 + 1 + 1 + 1 + 1 + 1 + 1 + 1 + 1 + 1 + 1]? = some (.int .i64 l[k].p3.w) ∧ (ims l)[k * 28 + 1 + 1 + 1 + 1 + 1 + 1 + 1 + 1 + 1 + 1 + 1 + 1 + 1 + 1 + 1 + 1 + 1 + 1 + 1 + 1 + 1]? = some (.int .i64 l[k].p3.h) ∧ (ims l)[k * 28 + 1 + 1 + 1 + 1 + 1 + 1 + 1 + 1 + 1 + 1 + 1 + 1 + 1 + 1 + 1 + 1 + 1 + 1 + 1 + 1 + 1 + 1]? = some (.int .i64 l[k].p3.s) ∧ (ims l)[k * 28 + 1 + 1 + 1 + 1 + 1 + 1 + 1 + 1 + 1 + 1 + 1 + 1 + 1 + 1 + 1 + 1 + 1 + 1 + 1 + 1 + 1 + 1 + 1]? = some (.sl l[k].p3.n l[k].p3.xs) ∧ (ims l)[k * 28 + 1 + 1 + 1 + 1 + 1 + 1 + 1 + 1 + 1 + 1 + 1 + 1 + 1 + 1 + 1 + 1 + 1 + 1 + 1 + 1 + 1 + 1 + 1 + 1]? = some (.int .i64 l[k].p4.w) ∧ (ims l)[k * 28 + 1 + 1 + 1 + 1 + 1 + 1 + 1 + 1 + 1 + 1 + 1 + 1 + 1 + 1 + 1 + 1 + 1 + 1 + 1 + 1 + 1 + 1 + 1 + 1 + 1]? = some (.int .i64 l[k].p4.h) ∧ (ims l)[k * 28 + 1 + 1 + 1 + 1 + 1 + 1 + 1 + 1 + 1 + 1 + 1 + 1 + 1 + 1 + 1 + 1 + 1 + 1 + 1 + 1 + 1 + 1 + 1 + 1 + 1 + 1]? = some (.int .i64 l[k].p4.s) ∧ (ims l)[k * 28 + 1 + 1 + 1 + 1 + 1 + 1 + 1 + 1 + 1 + 1 + 1 + 1 + 1 + 1 + 1 + 1 + 1 + 1 + 1 + 1 + 1 + 1 + 1 + 1 + 1 + 1 + 1]? = some (.sl l[k].p4.n l[k].p4.xs) := by
  have g := fun j hj => ims_get h j hj
  exact ⟨g 0 (by omega), g 1 (by omega), g 2 (by omega), g 3 (by omega), g 4 (by omega), g 5 (by omega), g 6 (by omega), g 7 (by omega), g 8 (by omega), g 9 (by omega), g 10 (by omega), g 11 (by omega), g 12 (by omega), g 13 (by omega), g 14 (by omega), g 15 (by omega), g 16 (by omega), g 17 (by omega), g 18 (by omega), g 19 (by omega), g 20 (by omega), g 21 (by omega), g 22 (by omega), g 23 (by omega), g 24 (by omega), g 25 (by omega), g 26 (by omega), g 27 (by omega)⟩
theorem ims_at {l : List Im} {k : Nat} (h : k < l.length) : nAt (ims l) (k * 28) = l[k].w ∧ nAt (ims l) (k * 28 + 1) = l[k].h ∧ bAt (ims l) (k * 28 + 1 + 1) = l[k].so ∧ nAt (ims l) (k * 28 + 1 + 1 + 1) = l[k].c.a ∧ nAt (ims l) (k * 28 + 1 + 1 + 1 + 1) = l[k].c.b ∧ nAt (ims l) (k * 28 + 1 + 1 + 1 + 1 + 1) = l[k].c.c ∧ nAt (ims l) (k * 28 + 1 + 1 + 1 + 1 + 1 + 1) = l[k].c.al ∧ nAt (ims l) (k * 28 + 1 + 1 + 1 + 1 + 1 + 1 + 1) = l[k].c.f ∧ nAt (ims l) (k * 28 + 1 + 1 + 1 + 1 + 1 + 1 + 1 + 1) = l[k].p0.w ∧ nAt (ims l) (k * 28 + 1 + 1 + 1 + 1 + 1 + 1 + 1 + 1 + 1) = l[k].p0.h ∧ nAt (ims l) (k * 28 + 1 + 1 + 1 + 1 + 1 + 1 + 1 + 1 + 1 + 1) = l[k].p0.s ∧ lAt (ims l) (k * 28 + 1 + 1 + 1 + 1 + 1 + 1 + 1 + 1 + 1 + 1 + 1) = l[k].p0.n ∧ cAt (ims l) (k * 28 + 1 + 1 + 1 + 1 + 1 + 1 + 1 + 1 + 1 + 1 + 1) = l[k].p0.xs ∧ nAt (ims l) (k * 28 + 1 + 1 + 1 + 1 + 1 + 1 + 1 + 1 + 1 + 1 + 1 + 1) = l[k].p1.w ∧ nAt (ims l) (k * 28 + 1 + 1 + 1 + 1 + 1 + 1 + 1 + 1 + 1 + 1 + 1 + 1 + 1) = l[k].p1.h ∧ nAt (ims l) (k * 28 + 1 + 1 + 1 + 1 + 1 + 1 + 1 + 1 + 1 + 1 + 1 + 1 + 1 + 1) = l[k].p1.s ∧ lAt (ims l) (k * 28 + 1 + 1 + 1 + 1 + 1 + 1 + 1 + 1 + 1 + 1 + 1 + 1 + 1 + 1 + 1) = l[k].p1.n ∧ cAt (ims l) (k * 28 + 1 + 1 + 1 + 1 + 1 + 1 + 1 + 1 + 1 + 1 + 1 + 1 + 1 + 1 + 1) = l[k].p1.xs ∧ nAt (ims l) (k * 28 + 1 + 1 + 1 + 1 + 1 + 1 + 1 + 1 + 1 + 1 + 1 + 1 + 1 + 1 + 1 + 1) = l[k].p2.w ∧ nAt (ims l) (k * 28 + 1 + 1 + 1 + 1 + 1 + 1 + 1 + 1 + 1 + 1 + 1 + 1 + 1 + 1 + 1 + 1 + 1) = l[k].p2.h ∧ nAt (ims l) (k * 28 + 1 + 1 + 1 + 1 + 1 + 1 + 1 + 1 + 1 + 1 + 1 + 1 + 1 + 1 + 1 + 1 + 1 + 1) = l[k].p2.s ∧ lAt (ims l) (k * 28 + 1 + 1 + 1 + 1 + 1 + 1 + 1 + 1 + 1 + 1 + 1 + 1 + 1 + 1 + 1 + 1 + 1 + 1 + 1) = l[k].p2.n ∧ cAt (ims l) (k * 28 + 1 + 1 + 1 + 1 + 1 + 1 + 1 + 1 + 1 + 1 + 1 + 1 + 1 + 1 + 1 + 1 + 1 + 1 + 1) = l[k].p2.xs ∧ nAt (ims l) (k * 28 + 1 + 1 + 1 + 1 + 1 + 1 + 1 + 1 + 1 + 1 + 1 + 1 + 1 + 1 + 1 + 1 + 1 + 1 + 1 + 1) = l[k].p3.w ∧ nAt (ims l) (k * 28 + 1 + 1 + 1 + 1 + 1 + 1 + 1 + 1 + 1 + 1 + 1 + 1 + 1 + 1 + 1 + 1 + 1 + 1 + 1 + 1 + 1) = l[k].p3.h ∧ nAt (ims l) (k * 28 + 1 + 1 + 1 + 1 + 1 + 1 + 1 + 1 + 1 + 1 + 1 + 1 + 1 + 1 + 1 + 1 + 1 + 1 + 1 + 1 + 1 + 1) = l[k].p3.s ∧ lAt (ims l) (k * 28 + 1 + 1 + 1 + 1 + 1 + 1 + 1 + 1 + 1 + 1 + 1 + 1 + 1 + 1 + 1 + 1 + 1 + 1 + 1 + 1 + 1 + 1 + 1) = l[k].p3.n ∧ cAt (ims l) (k * 28 + 1 + 1 + 1 + 1 + 1 + 1 + 1 + 1 + 1 + 1 + 1 + 1 + 1 + 1 + 1 + 1 + 1 + 1 + 1 + 1 + 1 + 1 + 1) = l[k].p3.xs ∧ nAt (ims l) (k * 28 + 1 + 1 + 1 + 1 + 1 + 1 + 1 + 1 + 1 + 1 + 1 + 1 + 1 + 1 + 1 + 1 + 1 + 1 + 1 + 1 + 1 + 1 + 1 + 1) = l[k].p4.w ∧ nAt (ims l) (k * 28 + 1 + 1 + 1 + 1 + 1 + 1 + 1 + 1 + 1 + 1 + 1 + 1 + 1 + 1 + 1 + 1 + 1 + 1 + 1 + 1 + 1 + 1 + 1 + 1 + 1) = l[k].p4.h ∧ nAt (ims l) (k * 28 + 1 + 1 + 1 + 1 + 1 + 1 + 1 + 1 + 1 + 1 + 1 + 1 + 1 + 1 + 1 + 1 + 1 + 1 + 1 + 1 + 1 + 1 + 1 + 1 + 1 + 1) = l[k].p4.s ∧ lAt (ims l) (k * 28 + 1 + 1 + 1 + 1 + 1 + 1 + 1 + 1 + 1 + 1 + 1 + 1 + 1 + 1 + 1 + 1 + 1 + 1 + 1 + 1 + 1 + 1 + 1 + 1 + 1 + 1 + 1) = l[k].p4.n ∧ cAt (ims l) (k * 28 + 1 + 1 + 1 + 1 + 1 + 1 + 1 + 1 + 1 + 1 + 1 + 1 + 1 + 1 + 1 + 1 + 1 + 1 + 1 + 1 + 1 + 1 + 1 + 1 + 1 + 1 + 1) = l[k].p4.xs := by
  obtain ⟨e0, e1, e2, e3, e4, e5, e6, e7, e8, e9, e10, e11, e12, e13, e14, e15, e16, e17, e18, e19, e20, e21, e22, e23, e24, e25, e26, e27⟩ := ims_rd h
  simp only [nAt, bAt, lAt, cAt, e0, e1, e2, e3, e4, e5, e6, e7, e8, e9, e10, e11, e12, e13, e14, e15, e16, e17, e18, e19, e20, e21, e22, e23, e24, e25, e26, e27, and_self]
def imAt (xs : List DV) (i : Nat) : Im := ⟨nAt xs i, nAt xs (i + 1), bAt xs (i + 2), ⟨nAt xs (i + 3), nAt xs (i + 4), nAt xs (i + 5), nAt xs (i + 6), nAt xs (i + 7)⟩, ⟨nAt xs (i + 8), nAt xs (i + 9), nAt xs (i + 10), lAt xs (i + 11), cAt xs (i + 11)⟩, ⟨nAt xs (i + 12), nAt xs (i + 13), nAt xs (i + 14), lAt xs (i + 15), cAt xs (i + 15)⟩, ⟨nAt xs (i + 16), nAt xs (i + 17), nAt xs (i + 18), lAt xs (i + 19), cAt xs (i + 19)⟩, ⟨nAt xs (i + 20), nAt xs (i + 21), nAt xs (i + 22), lAt xs (i + 23), cAt xs (i + 23)⟩, ⟨nAt xs (i + 24), nAt xs (i + 25), nAt xs (i + 26), lAt xs (i + 27), cAt xs (i + 27)⟩⟩
theorem imAt_ims {l : List Im} {k : Nat} (h : k < l.length) : imAt (ims l) (k * 28) = l[k] := by
  have e := ims_at h
  simp only [imAt, show k * 28 + 2 = k * 28 + 1 + 1 from rfl, show k * 28 + 3 = k * 28 + 1 + 1 + 1 from rfl, show k * 28 + 4 = k * 28 + 1 + 1 + 1 + 1 from rfl, show k * 28 + 5 = k * 28 + 1 + 1 + 1 + 1 + 1 from rfl, show k * 28 + 6 = k * 28 + 1 + 1 + 1 + 1 + 1 + 1 from rfl, show k * 28 + 7 = k * 28 + 1 + 1 + 1 + 1 + 1 + 1 + 1 from rfl, show k * 28 + 8 = k * 28 + 1 + 1 + 1 + 1 + 1 + 1 + 1 + 1 from rfl, show k * 28 + 9 = k * 28 + 1 + 1 + 1 + 1 + 1 + 1 + 1 + 1 + 1 from rfl, show k * 28 + 10 = k * 28 + 1 + 1 + 1 + 1 + 1 + 1 + 1 + 1 + 1 + 1 from rfl, show k * 28 + 11 = k * 28 + 1 + 1 + 1 + 1 + 1 + 1 + 1 + 1 + 1 + 1 + 1 from rfl, show k * 28 + 12 = k * 28 + 1 + 1 + 1 + 1 + 1 + 1 + 1 + 1 + 1 + 1 + 1 + 1 from rfl, show k * 28 + 13 = k * 28 + 1 + 1 + 1 + 1 + 1 + 1 + 1 + 1 + 1 + 1 + 1 + 1 + 1 from rfl, show k * 28 + 14 = k * 28 + 1 + 1 + 1 + 1 + 1 + 1 + 1 + 1 + 1 + 1 + 1 + 1 + 1 + 1 from rfl, show k * 28 + 15 = k * 28 + 1 + 1 + 1 + 1 + 1 + 1 + 1 + 1 + 1 + 1 + 1 + 1 + 1 + 1 + 1 from rfl, show k * 28 + 16 = k * 28 + 1 + 1 + 1 + 1 + 1 + 1 + 1 + 1 + 1 + 1 + 1 + 1 + 1 + 1 + 1 + 1 from rfl, show k * 28 + 17 = k * 28 + 1 + 1 + 1 + 1 + 1 + 1 + 1 + 1 + 1 + 1 + 1 + 1 + 1 + 1 + 1 + 1 + 1 from rfl, show k * 28 + 18 = k * 28 + 1 + 1 + 1 + 1 + 1 + 1 + 1 + 1 + 1 + 1 + 1 + 1 + 1 + 1 + 1 + 1 + 1 + 1 from rfl, show k * 28 + 19 = k * 28 + 1 + 1 + 1 + 1 + 1 + 1 + 1 + 1 + 1 + 1 + 1 + 1 + 1 + 1 + 1 + 1 + 1 + 1 + 1 from rfl, show k * 28 + 20 = k * 28 + 1 + 1 + 1 + 1 + 1 + 1 + 1 + 1 + 1 + 1 + 1 + 1 + 1 + 1 + 1 + 1 + 1 + 1 + 1 + 1 from rfl, show k * 28 + 21 = k * 28 + 1 + 1 + 1 + 1 + 1 + 1 + 1 + 1 + 1 + 1 + 1 + 1 + 1 + 1 + 1 + 1 + 1 + 1 + 1 + 1 + 1 from rfl, show k * 28 + 22 = k * 28 + 1 + 1 + 1 + 1 + 1 + 1 + 1 + 1 + 1 + 1 + 1 + 1 + 1 + 1 + 1 + 1 + 1 + 1 + 1 + 1 + 1 + 1 from rfl, show k * 28 + 23 = k * 28 + 1 + 1 + 1 + 1 + 1 + 1 + 1 + 1 + 1 + 1 + 1 + 1 + 1 + 1 + 1 + 1 + 1 + 1 + 1 + 1 + 1 + 1 + 1 from rfl, show k * 28 + 24 = k * 28 + 1 + 1 + 1 + 1 + 1 + 1 + 1 + 1 + 1 + 1 + 1 + 1 + 1 + 1 + 1 + 1 + 1 + 1 + 1 + 1 + 1 + 1 + 1 + 1 from rfl, show k * 28 + 25 = k * 28 + 1 + 1 + 1 + 1 + 1 + 1 + 1 + 1 + 1 + 1 + 1 + 1 + 1 + 1 + 1 + 1 + 1 + 1 + 1 + 1 + 1 + 1 + 1 + 1 + 1 from rfl, show k * 28 + 26 = k * 28 + 1 + 1 + 1 + 1 + 1 + 1 + 1 + 1 + 1 + 1 + 1 + 1 + 1 + 1 + 1 + 1 + 1 + 1 + 1 + 1 + 1 + 1 + 1 + 1 + 1 + 1 from rfl, show k * 28 + 27 = k * 28 + 1 + 1 + 1 + 1 + 1 + 1 + 1 + 1 + 1 + 1 + 1 + 1 + 1 + 1 + 1 + 1 + 1 + 1 + 1 + 1 + 1 + 1 + 1 + 1 + 1 + 1 + 1 from rfl, e]
def toIms (xs : List DV) : List Im := (List.range (xs.length / 28)).map fun k => imAt xs (k * 28)
theorem toIms_ims (l : List Im) : toIms (ims l) = l := by
  have e : (ims l).length / 28 = l.length := by rw [ims_length]; omega
  unfold toIms
  rw [e]
  refine List.ext_getElem (by simp) fun i h1 h2 => ?_
  simp only [List.getElem_map, List.getElem_range]
  exact imAt_ims h2
def IsIms (n : Nat) (xs : List DV) : Prop := (xs = ims (toIms xs) ∧ n = (toIms xs).length) ∧ ∀ m ∈ toIms xs, m.isU
theorem IsIms.of {n : Nat} {xs : List DV} (h : IsIms n xs) : ∃ l : List Im, (∀ m ∈ l, m.isU) ∧ xs = ims l ∧ n = l.length := ⟨toIms xs, h.2, h.1.1, h.1.2⟩
def IsOps (n : Nat) (xs : List DV) : Prop := xs = ops (toOps xs) ∧ n = (toOps xs).length
theorem isOps_ops {n : Nat} {l : List Oq} (h : n = l.length) : IsOps n (ops l) := ⟨by rw [toOps_ops], by rw [toOps_ops]; exact h⟩
theorem ops_one (o : Oq) : ops [o] = o.cells := by simp [ops]

/-! ### what the generator makes -/
def gOff (n c : Int) : Int := if modS n 3 = 0 then c else c + modS (IntKind.wrap .i64 (Int.tdiv n 3)) 9 - 4
/-- numbers of an operation -/
structure Rw where
  k : Int
  im : Int
  x : Int
  y : Int
  ma : Int
  mx : Int
  my : Int
  op : Int
  ope : Int
  mo : Int
  fl : Int
def gOp (r : Rw) (push : Bool) (n : Int) (c : Rc) (free : Bool) (most : Int) : Oq :=
  let m := decide (modS r.ma 4 = 0)
  ⟨if push then 2 else 1, if push then 0 else modS r.im n, if push then 0 else gOff r.x c.a, if push then 0 else gOff r.y c.b,
    if m then 1 + modS (IntKind.wrap .i64 (Int.tdiv r.ma 4)) n else 0, if m then gOff r.mx c.a else 0, if m then gOff r.my c.b else 0,
    if modS r.op 2 = 0 then gSample (IntKind.wrap .i64 (Int.tdiv r.op 2)) most else most,
    if free && decide (modS r.ope 2 = 0) then 1 + modS (IntKind.wrap .i64 (Int.tdiv r.ope 2)) 12 else 4,
    if modS r.mo 2 = 0 then 1 + modS (IntKind.wrap .i64 (Int.tdiv r.mo 2)) 12 else 1,
    push && decide (modS r.fl 2 = 0), push && decide (modS (IntKind.wrap .i64 (Int.tdiv r.fl 2)) 3 = 0)⟩
def rwAt (xs : List DV) (i : Nat) : Rw := ⟨nAt xs i, nAt xs (i + 1), nAt xs (i + 2), nAt xs (i + 3), nAt xs (i + 4), nAt xs (i + 5), nAt xs (i + 6), nAt xs (i + 7), nAt xs (i + 8), nAt xs (i + 9), nAt xs (i + 10)⟩
structure Scn where
  b : Int
  x : Int
  y : Int
  w : Int
  h : Int
  tw : Int
  th : Int
  on : Nat
  oxs : List DV
  pn : Nat
  pxs : List DV
  rn : Nat
  rxs : List DV
def Scn.c (s : Scn) : Rc := ⟨modS s.x 13 - 6, modS s.y 13 - 6, modS s.x 13 - 6 + (1 + modS s.w 5), modS s.y 13 - 6 + (1 + modS s.h 4)⟩
def Scn.gw (s : Scn) : Int := 1 + modS s.w 5
def Scn.gh (s : Scn) : Int := 1 + modS s.h 4
def Scn.gtw (s : Scn) : Int := 1 + modS s.tw s.gw
def Scn.gth (s : Scn) : Int := 1 + modS s.th s.gh
def Scn.most (s : Scn) : Int := gMax s.b
def Scn.bits (s : Scn) : Int := if s.most > 255 then 16 else 8
def Scn.tiles (s : Scn) : Int := IntKind.wrap .i64 ((cntS s.c s.gtw s.gth).1 * (cntS s.c s.gtw s.gth).2.1)
def Scn.ord (s : Scn) : List Int := permL (ints s.oxs) s.tiles
def Scn.pic (s : Scn) (k : Nat) : Im := gImage (nAt s.pxs (k * 5)) (nAt s.pxs (k * 5 + 1)) (nAt s.pxs (k * 5 + 2)) (nAt s.pxs (k * 5 + 3)) (lAt s.pxs (k * 5 + 4)) (cAt s.pxs (k * 5 + 4)) s.c.a s.c.b s.c.c s.c.d s.most
def Scn.pics (s : Scn) (k : Nat) : List Im := (List.range k).map s.pic
def Scn.solo (s : Scn) : Im := solidIm s.gw s.gh ⟨s.most, 0, 0, s.most, s.most⟩
def Scn.ims (s : Scn) : List Im := if min s.pn 4 = 0 then [s.solo] else s.pics (min s.pn 4)
/-- operations, and the open groups -/
def Scn.step (s : Scn) (r : Rw) (z : List Oq × List Oq) : List Oq × List Oq :=
  if modS r.k 8 = 0 ∧ 0 < z.2.length then (z.1 ++ [popO], z.2.dropLast)
  else
    let o := gOp r (decide (modS r.k 8 < 3)) s.ims.length s.c (ctxB z.2) s.most
    (z.1 ++ [o], if modS r.k 8 < 3 then z.2 ++ [o] else z.2)
def Scn.run (s : Scn) : Nat → List Oq × List Oq
  | 0 => ([], [])
  | k + 1 => s.step (rwAt s.rxs (k * 11)) (s.run k)
def Scn.ops (s : Scn) : List Oq := (s.run (min s.rn 9)).1 ++ List.replicate (s.run (min s.rn 9)).2.length popO
def IsPics (n : Nat) (xs : List DV) : Prop := xs.length = n * 5 ∧ ∀ k, k < n → xs[k * 5]? = some (.int .i64 (nAt xs (k * 5))) ∧ xs[k * 5 + 1]? = some (.int .i64 (nAt xs (k * 5 + 1))) ∧ xs[k * 5 + 1 + 1]? = some (.int .i64 (nAt xs (k * 5 + 1 + 1))) ∧ xs[k * 5 + 1 + 1 + 1]? = some (.int .i64 (nAt xs (k * 5 + 1 + 1 + 1))) ∧ xs[k * 5 + 1 + 1 + 1 + 1]? = some (.sl (lAt xs (k * 5 + 1 + 1 + 1 + 1)) (cAt xs (k * 5 + 1 + 1 + 1 + 1))) ∧ Is5 (lAt xs (k * 5 + 1 + 1 + 1 + 1)) (cAt xs (k * 5 + 1 + 1 + 1 + 1))
def IsRws (n : Nat) (xs : List DV) : Prop := xs.length = n * 11 ∧ ∀ i, i < n * 11 → xs[i]? = some (.int .i64 (nAt xs i))
def Scn.ok (s : Scn) : Prop := (s.oxs = is (ints s.oxs) ∧ s.on = s.oxs.length) ∧ IsPics s.pn s.pxs ∧ IsRws s.rn s.rxs
theorem Scn.facts (s : Scn) : (0 ≤ modS s.x 13 ∧ modS s.x 13 < 13) ∧ (0 ≤ modS s.y 13 ∧ modS s.y 13 < 13) ∧ (1 ≤ s.gw ∧ s.gw ≤ 5) ∧ (1 ≤ s.gh ∧ s.gh ≤ 4) ∧ (1 ≤ s.gtw ∧ s.gtw ≤ s.gw) ∧ (1 ≤ s.gth ∧ s.gth ≤ s.gh) := by
  have a := @modS_in s.x 13 (by omega) (by omega)
  have b := @modS_in s.y 13 (by omega) (by omega)
  have c := @modS_in s.w 5 (by omega) (by omega)
  have d := @modS_in s.h 4 (by omega) (by omega)
  have e : 1 ≤ s.gw ∧ s.gw ≤ 5 := by unfold Scn.gw; omega
  have f : 1 ≤ s.gh ∧ s.gh ≤ 4 := by unfold Scn.gh; omega
  have g := @modS_in s.tw s.gw (by omega) (by omega)
  have h := @modS_in s.th s.gh (by omega) (by omega)
  exact ⟨a, b, e, f, by unfold Scn.gtw; omega, by unfold Scn.gth; omega⟩
theorem Scn.pics_succ (s : Scn) (k : Nat) : s.pics (k + 1) = s.pics k ++ [s.pic k] := by simp [Scn.pics, List.range_succ]
theorem Scn.pics_len (s : Scn) (k : Nat) : (s.pics k).length = k := by simp [Scn.pics]
theorem Scn.ims_len (s : Scn) : 1 ≤ s.ims.length ∧ s.ims.length ≤ 4 := by
  unfold Scn.ims
  split
  · simp
  · rw [Scn.pics_len]; omega
theorem Scn.run_len (s : Scn) (k : Nat) : (s.run k).1.length = k ∧ (s.run k).2.length ≤ k := by
  induction k with
  | zero => simp [Scn.run]
  | succ k ih =>
    simp only [Scn.run, Scn.step]
    split
    · simp; omega
    · simp only []
      split <;> simp <;> omega
theorem Scn.c_facts (s : Scn) : s.c.c - s.c.a = s.gw ∧ s.c.d - s.c.b = s.gh ∧ -6 ≤ s.c.a ∧ s.c.a ≤ 6 ∧ -6 ≤ s.c.b ∧ s.c.b ≤ 6 := by
  have := s.facts
  simp only [Scn.c, Scn.gw, Scn.gh] at this ⊢
  omega
theorem Scn.bits_of (s : Scn) : (gMax s.b > 255 → 16 = s.bits) ∧ (¬ gMax s.b > 255 → 8 = s.bits) := by
  unfold Scn.bits Scn.most
  exact ⟨fun h => by rw [if_pos h], fun h => by rw [if_neg h]⟩
theorem cnt1 {n w : Int} (h : 1 ≤ w) (hw : w ≤ n) (hn : n ≤ 5) : 1 ≤ IntKind.wrap .i64 (Int.tdiv (IntKind.wrap .i64 (IntKind.wrap .i64 (IntKind.wrap .i64 n + w) - 1)) w) ∧ IntKind.wrap .i64 (Int.tdiv (IntKind.wrap .i64 (IntKind.wrap .i64 (IntKind.wrap .i64 n + w) - 1)) w) ≤ n := by
  rw [IntWalk.i64_in n ⟨by omega, by omega⟩, IntWalk.i64_in (n + w) ⟨by omega, by omega⟩, IntWalk.i64_in (n + w - 1) ⟨by omega, by omega⟩, Int.tdiv_eq_ediv_of_nonneg (by omega)]
  have : 1 ≤ (n + w - 1) / w ∧ (n + w - 1) / w ≤ n := by
    rcases (show w = 1 ∨ w = 2 ∨ w = 3 ∨ w = 4 ∨ w = 5 by omega) with rfl | rfl | rfl | rfl | rfl <;> omega
  rw [IntWalk.i64_in _ ⟨by omega, by omega⟩]
  exact this
theorem Scn.cnt (s : Scn) : (cntS s.c s.gtw s.gth).2.2 = true ∧ (1 ≤ (cntS s.c s.gtw s.gth).1 ∧ (cntS s.c s.gtw s.gth).1 ≤ 5) ∧ 1 ≤ (cntS s.c s.gtw s.gth).2.1 ∧ (cntS s.c s.gtw s.gth).2.1 ≤ 4 := by
  obtain ⟨f1, f2, f3, f4, f5, f6⟩ := s.facts
  have CF := s.c_facts
  have he : Rc.empty s.c = false := by
    rw [Rc.empty_iff]; omega
  unfold cntS
  rw [he, if_neg (by simp), CF.1, CF.2.1, if_neg (by rw [IntWalk.i64_in _ ⟨by omega, by omega⟩, IntWalk.i64_in _ ⟨by omega, by omega⟩]; omega)]
  have a := cnt1 f5.1 f5.2 (by omega)
  have b := cnt1 f6.1 f6.2 (by omega)
  exact ⟨rfl, ⟨a.1, Int.le_trans a.2 (by omega)⟩, b.1, Int.le_trans b.2 (by omega)⟩
theorem Scn.tiles_in (s : Scn) : 0 ≤ s.tiles ∧ s.tiles ≤ 20 := by
  obtain ⟨_, a, b⟩ := s.cnt
  unfold Scn.tiles
  generalize (cntS s.c s.gtw s.gth).1 = x at *
  generalize (cntS s.c s.gtw s.gth).2.1 = y at *
  have h1 : 0 ≤ x * y := Int.mul_nonneg (by omega) (by omega)
  have h2 : x * y ≤ 5 * 4 := Int.mul_le_mul a.2 b.2 (by omega) (by omega)
  rw [IntWalk.i64_in _ ⟨by omega, by omega⟩]
  omega
theorem Scn.run_pop {s : Scn} {k : Nat} (h : modS (rwAt s.rxs (k * 11)).k 8 = 0 ∧ 0 < (s.run k).2.length) : s.run (k + 1) = ((s.run k).1 ++ [popO], (s.run k).2.dropLast) := by
  simp only [Scn.run, Scn.step]
  rw [if_pos h]
theorem Scn.run_op {s : Scn} {k : Nat} (h : ¬ (modS (rwAt s.rxs (k * 11)).k 8 = 0 ∧ 0 < (s.run k).2.length)) {o : Oq} (ho : o = gOp (rwAt s.rxs (k * 11)) (decide (modS (rwAt s.rxs (k * 11)).k 8 < 3)) s.ims.length s.c (ctxB (s.run k).2) s.most) :
    (o.kind = 2 → s.run (k + 1) = ((s.run k).1 ++ [o], (s.run k).2 ++ [o])) ∧ (o.kind ≠ 2 → s.run (k + 1) = ((s.run k).1 ++ [o], (s.run k).2)) := by
  have e : s.run (k + 1) = ((s.run k).1 ++ [o], if modS (rwAt s.rxs (k * 11)).k 8 < 3 then (s.run k).2 ++ [o] else (s.run k).2) := by
    simp only [Scn.run, Scn.step]
    rw [if_neg h, ← ho]
  have hk : o.kind = if modS (rwAt s.rxs (k * 11)).k 8 < 3 then 2 else 1 := by
    rw [ho]
    simp [gOp]
  rw [e, hk]
  split <;> simp
theorem ctxB_last {l : List Oq} (h : 0 < l.length) : ctxB l = (l[l.length - 1].iso && !l[l.length - 1].kno) := by
  unfold ctxB
  rw [List.getLast?_eq_getElem?, List.getElem?_eq_getElem (by omega)]
end Go.Proofs.YtcaokljobfkajaaDoor

/-
  The contracts of images, all in one place.
-/
namespace Go.Proofs.YtcaokljobfkajaaDoor
open Go.RowKit
set_option linter.unusedVariables false
set_option linter.unusedSimpArgs false

def gamI : Gam where
 pure := fun f xs =>
  if f = 9 then (match xs with | [.d (.int _ n), .d (.int _ k)] => some (RV.d (DV.int .i64 (modS n k))) | _ => none) else
  if f = 76 then (match xs with | [.d (.int _ l), .d (.sl n xs)] => some (RV.d (DV.bool (withinS l xs))) | _ => none) else
  if f = 55 then (match xs with | [.agg [.int _ a, .int _ b, .int _ c, .int _ d]] => some (RV.d (DV.bool (Rc.valid ⟨a, b, c, d⟩))) | _ => none) else
  if f = 56 then (match xs with | [.agg [.int _ a, .int _ b, .int _ c, .int _ d]] => some (RV.d (DV.bool (Rc.valid ⟨a, b, c, d⟩))) | _ => none) else
  if f = 40 then (match xs with | [.agg [.int _ a, .int _ b, .int _ c, .int _ d]] => some (RV.d (DV.bool (Rc.empty ⟨a, b, c, d⟩))) | _ => none) else
  if f = 46 then (match xs with | [.agg [.int _ a, .int _ b, .int _ c, .int _ d]] => some (RV.agg [DV.int .i64 ((Rc.clean ⟨a, b, c, d⟩).a), DV.int .i64 ((Rc.clean ⟨a, b, c, d⟩).b), DV.int .i64 ((Rc.clean ⟨a, b, c, d⟩).c), DV.int .i64 ((Rc.clean ⟨a, b, c, d⟩).d)]) | _ => none) else
  if f = 60 then (match xs with | [.agg [.int _ a, .int _ b, .int _ c, .int _ d]] => some (RV.d (DV.int .i64 (Rc.area ⟨a, b, c, d⟩))) | _ => none) else
  if f = 31 then (match xs with | [.agg [.int _ a, .int _ b, .int _ c, .int _ d], .agg [.int _ a', .int _ b', .int _ c', .int _ d']] => some (RV.agg [DV.int .i64 ((Rc.inter ⟨a, b, c, d⟩ ⟨a', b', c', d'⟩).a), DV.int .i64 ((Rc.inter ⟨a, b, c, d⟩ ⟨a', b', c', d'⟩).b), DV.int .i64 ((Rc.inter ⟨a, b, c, d⟩ ⟨a', b', c', d'⟩).c), DV.int .i64 ((Rc.inter ⟨a, b, c, d⟩ ⟨a', b', c', d'⟩).d)]) | _ => none) else
  if f = 41 then (match xs with | [.agg [.int _ a, .int _ b, .int _ c, .int _ d]] => some (RV.d (DV.bool (Rc.empty ⟨a, b, c, d⟩))) | _ => none) else
  if f = 47 then (match xs with | [.agg [.int _ a, .int _ b, .int _ c, .int _ d]] => some (RV.agg [DV.int .i64 ((Rc.clean ⟨a, b, c, d⟩).a), DV.int .i64 ((Rc.clean ⟨a, b, c, d⟩).b), DV.int .i64 ((Rc.clean ⟨a, b, c, d⟩).c), DV.int .i64 ((Rc.clean ⟨a, b, c, d⟩).d)]) | _ => none) else
  if f = 70 then (match xs with | [.agg [.int _ a, .int _ b, .int _ c, .int _ d]] => some (RV.d (DV.int .i64 (Rc.area ⟨a, b, c, d⟩))) | _ => none) else
  if f = 32 then (match xs with | [.agg [.int _ a, .int _ b, .int _ c, .int _ d], .agg [.int _ a', .int _ b', .int _ c', .int _ d']] => some (RV.agg [DV.int .i64 ((Rc.inter ⟨a, b, c, d⟩ ⟨a', b', c', d'⟩).a), DV.int .i64 ((Rc.inter ⟨a, b, c, d⟩ ⟨a', b', c', d'⟩).b), DV.int .i64 ((Rc.inter ⟨a, b, c, d⟩ ⟨a', b', c', d'⟩).c), DV.int .i64 ((Rc.inter ⟨a, b, c, d⟩ ⟨a', b', c', d'⟩).d)]) | _ => none) else
  if f = 35 then (match xs with | [.d (.sl n xs)] => some (RV.agg [DV.int .i64 ((hullL (toRcs xs)).a), DV.int .i64 ((hullL (toRcs xs)).b), DV.int .i64 ((hullL (toRcs xs)).c), DV.int .i64 ((hullL (toRcs xs)).d)]) | _ => none) else
  if f = 54 then (match xs with | [.d (.sl n xs)] => some (RV.agg [DV.int .i64 ((hullL (toRcs xs)).a), DV.int .i64 ((hullL (toRcs xs)).b), DV.int .i64 ((hullL (toRcs xs)).c), DV.int .i64 ((hullL (toRcs xs)).d)]) | _ => none) else
  if f = 19 then (match xs with | [.agg [.int _ n0, .int _ n1, .int _ n2, .int _ n3]] => some (RV.agg [DV.int .i64 ((genRc n0 n1 n2 n3).a), DV.int .i64 ((genRc n0 n1 n2 n3).b), DV.int .i64 ((genRc n0 n1 n2 n3).c), DV.int .i64 ((genRc n0 n1 n2 n3).d)]) | _ => none) else
  if f = 58 then (match xs with | [.d (.int _ w), .d (.int _ h)] => some (RV.d (DV.bool (fitsP w h))) | _ => none) else
  if f = 26 then (match xs with | [.d (.int _ w), .d (.int _ h), .agg [.int _ c0, .int _ c1, .int _ c2, .int _ ca, .int _ cf]] => some (RV.agg [DV.int .i64 ((solidIm w h ⟨c0, c1, c2, ca, cf⟩).w), DV.int .i64 ((solidIm w h ⟨c0, c1, c2, ca, cf⟩).h), DV.bool ((solidIm w h ⟨c0, c1, c2, ca, cf⟩).so), DV.int .u16 (((solidIm w h ⟨c0, c1, c2, ca, cf⟩).c).a), DV.int .u16 (((solidIm w h ⟨c0, c1, c2, ca, cf⟩).c).b), DV.int .u16 (((solidIm w h ⟨c0, c1, c2, ca, cf⟩).c).c), DV.int .u16 (((solidIm w h ⟨c0, c1, c2, ca, cf⟩).c).al), DV.int .u16 (((solidIm w h ⟨c0, c1, c2, ca, cf⟩).c).f), DV.int .i64 (((solidIm w h ⟨c0, c1, c2, ca, cf⟩).p0).w), DV.int .i64 (((solidIm w h ⟨c0, c1, c2, ca, cf⟩).p0).h), DV.int .i64 (((solidIm w h ⟨c0, c1, c2, ca, cf⟩).p0).s), DV.sl (((solidIm w h ⟨c0, c1, c2, ca, cf⟩).p0).n) (((solidIm w h ⟨c0, c1, c2, ca, cf⟩).p0).xs), DV.int .i64 (((solidIm w h ⟨c0, c1, c2, ca, cf⟩).p1).w), DV.int .i64 (((solidIm w h ⟨c0, c1, c2, ca, cf⟩).p1).h), DV.int .i64 (((solidIm w h ⟨c0, c1, c2, ca, cf⟩).p1).s), DV.sl (((solidIm w h ⟨c0, c1, c2, ca, cf⟩).p1).n) (((solidIm w h ⟨c0, c1, c2, ca, cf⟩).p1).xs), DV.int .i64 (((solidIm w h ⟨c0, c1, c2, ca, cf⟩).p2).w), DV.int .i64 (((solidIm w h ⟨c0, c1, c2, ca, cf⟩).p2).h), DV.int .i64 (((solidIm w h ⟨c0, c1, c2, ca, cf⟩).p2).s), DV.sl (((solidIm w h ⟨c0, c1, c2, ca, cf⟩).p2).n) (((solidIm w h ⟨c0, c1, c2, ca, cf⟩).p2).xs), DV.int .i64 (((solidIm w h ⟨c0, c1, c2, ca, cf⟩).p3).w), DV.int .i64 (((solidIm w h ⟨c0, c1, c2, ca, cf⟩).p3).h), DV.int .i64 (((solidIm w h ⟨c0, c1, c2, ca, cf⟩).p3).s), DV.sl (((solidIm w h ⟨c0, c1, c2, ca, cf⟩).p3).n) (((solidIm w h ⟨c0, c1, c2, ca, cf⟩).p3).xs), DV.int .i64 (((solidIm w h ⟨c0, c1, c2, ca, cf⟩).p4).w), DV.int .i64 (((solidIm w h ⟨c0, c1, c2, ca, cf⟩).p4).h), DV.int .i64 (((solidIm w h ⟨c0, c1, c2, ca, cf⟩).p4).s), DV.sl (((solidIm w h ⟨c0, c1, c2, ca, cf⟩).p4).n) (((solidIm w h ⟨c0, c1, c2, ca, cf⟩).p4).xs)]) | _ => none) else
  if f = 22 then (match xs with | [.d (.int _ n)] => some (RV.d (DV.int .u16 (gMax n))) | _ => none) else
  if f = 28 then (match xs with | [.d (.int _ n), .d (.int _ most)] => some (RV.d (DV.int .u16 (gSample n most))) | _ => none) else
  if f = 57 then (match xs with | [.agg [.int _ n0, .int _ n1, .int _ n2, .int _ n3, .int _ n4], .d (.int _ most)] => some (RV.agg [DV.int .u16 ((gPixel n0 n1 n2 n3 n4 most).a), DV.int .u16 ((gPixel n0 n1 n2 n3 n4 most).b), DV.int .u16 ((gPixel n0 n1 n2 n3 n4 most).c), DV.int .u16 ((gPixel n0 n1 n2 n3 n4 most).al), DV.int .u16 ((gPixel n0 n1 n2 n3 n4 most).f)]) | _ => none) else
  if f = 43 then (match xs with | [] => some (RV.tup [RV.tup [RV.d (DV.int .i64 43), RV.d (DV.int .i64 5)]]) | [.agg [.int _ mood, .sl L xs], .d (.int _ n), .d (.int _ most)] => some (RV.d (DV.sl n.toNat (pxs (gPixels mood L xs most n.toNat)))) | _ => none) else
  none
 modes := fun f =>
  if f = 44 then some ([true, true, true], 0, 5) else
  none
 proc := fun f xs bs =>
  if f = 44 then (match xs, bs with | [AV.one (Cl.d (DV.int _ w)), AV.one (Cl.d (DV.int _ h)), AV.one (Cl.d (DV.sl n xs))], [] => some ⟨AV.tup [AV.agg [Cl.d (DV.int .i64 ((imOf w h (toPxs xs)).w)), Cl.d (DV.int .i64 ((imOf w h (toPxs xs)).h)), Cl.d (DV.bool ((imOf w h (toPxs xs)).so)), Cl.d (DV.int .u16 ((imOf w h (toPxs xs)).c.a)), Cl.d (DV.int .u16 ((imOf w h (toPxs xs)).c.b)), Cl.d (DV.int .u16 ((imOf w h (toPxs xs)).c.c)), Cl.d (DV.int .u16 ((imOf w h (toPxs xs)).c.al)), Cl.d (DV.int .u16 ((imOf w h (toPxs xs)).c.f)), Cl.d (DV.int .i64 ((imOf w h (toPxs xs)).p0.w)), Cl.d (DV.int .i64 ((imOf w h (toPxs xs)).p0.h)), Cl.d (DV.int .i64 ((imOf w h (toPxs xs)).p0.s)), Cl.ref 0 ((imOf w h (toPxs xs)).p0.n), Cl.d (DV.int .i64 ((imOf w h (toPxs xs)).p1.w)), Cl.d (DV.int .i64 ((imOf w h (toPxs xs)).p1.h)), Cl.d (DV.int .i64 ((imOf w h (toPxs xs)).p1.s)), Cl.ref 1 ((imOf w h (toPxs xs)).p1.n), Cl.d (DV.int .i64 ((imOf w h (toPxs xs)).p2.w)), Cl.d (DV.int .i64 ((imOf w h (toPxs xs)).p2.h)), Cl.d (DV.int .i64 ((imOf w h (toPxs xs)).p2.s)), Cl.ref 2 ((imOf w h (toPxs xs)).p2.n), Cl.d (DV.int .i64 ((imOf w h (toPxs xs)).p3.w)), Cl.d (DV.int .i64 ((imOf w h (toPxs xs)).p3.h)), Cl.d (DV.int .i64 ((imOf w h (toPxs xs)).p3.s)), Cl.ref 3 ((imOf w h (toPxs xs)).p3.n), Cl.d (DV.int .i64 ((imOf w h (toPxs xs)).p4.w)), Cl.d (DV.int .i64 ((imOf w h (toPxs xs)).p4.h)), Cl.d (DV.int .i64 ((imOf w h (toPxs xs)).p4.s)), Cl.ref 4 ((imOf w h (toPxs xs)).p4.n)], AV.one (Cl.d (DV.bool (ofOk w h n)))], [Bx.row 27 1 ((imOf w h (toPxs xs)).p0.xs), Bx.row 27 1 ((imOf w h (toPxs xs)).p1.xs), Bx.row 27 1 ((imOf w h (toPxs xs)).p2.xs), Bx.row 27 1 ((imOf w h (toPxs xs)).p3.xs), Bx.row 27 1 ((imOf w h (toPxs xs)).p4.xs)], true⟩ | _, _ => none) else
  none
 iter := fun f cs =>
  none

end Go.Proofs.YtcaokljobfkajaaDoor

/-
  What the generators make: samples, pixels, rows of pixels.
-/
namespace Go.Proofs.YtcaokljobfkajaaDoor
open Go.RowKit
set_option linter.unusedVariables false
set_option linter.unusedSimpArgs false
attribute [local irreducible] Ans AnsO AnsG AnsN AnsI

set_option maxRecDepth 4000

def G_Max_ann (n : Int) : Ann := Ann.leaf
theorem G_Max_vc (n : Int) : vcg Tryd.prog gamI 6 (bodyOf Tryd.f22) (G_Max_ann n) kn0 (start [RV.d (DV.int .i64 n)]) (post Tryd.prog Tryd.f22.results.toList (· = RV.d (DV.int .u16 (gMax n)))) =
  (True ∧ True ∧ (Ans Tryd.prog 9 [RV.d (DV.int .i64 n), RV.d (DV.int .i64 3)] (RV.d (DV.int .i64 (modS n (3 : Int))))) ∧ True ∧ ((((modS n (3 : Int)) == (2 : Int)) = true → True ∧ RV.d (DV.int .u16 65535) = RV.d (DV.int .u16 (gMax n))) ∧ (((modS n (3 : Int)) == (2 : Int)) = false → True ∧ RV.d (DV.int .u16 255) = RV.d (DV.int .u16 (gMax n))))) := by kernel_rfl
theorem G_Max_ans (n : Int) : Ans Tryd.prog 22 [RV.d (DV.int .i64 n)] (RV.d (DV.int .u16 (gMax n))) :=
  ans_of_vcg (Γ := gamI) (G_Max_ann n) mixed_ Tryd.func22 rfl (Nat.le_of_ble_eq_true rfl) fun hwf => by
    refine Eq.mpr (G_Max_vc n) ?_
    simp only [true_and, and_true, RV.d.injEq, RV.agg.injEq, RV.tup.injEq, DV.bool.injEq, DV.int.injEq, DV.sl.injEq, List.cons.injEq, forall_const, Bool.not_false, Bool.not_true, Bool.not_eq_true', Bool.not_eq_false', decide_eq_true_eq, decide_eq_false_iff_not, Int.toNat_natCast, G_Mod_ans]
    unfold gMax; grind

def G_Sample_ann (n : Int) (most : Int) : Ann := Ann.leaf
theorem G_Sample_vc (n : Int) (most : Int) : vcg Tryd.prog gamI 39 (bodyOf Tryd.f28) (G_Sample_ann n most) kn0 (start [RV.d (DV.int .i64 n), RV.d (DV.int .u16 most)]) (post Tryd.prog Tryd.f28.results.toList (· = RV.d (DV.int .u16 (gSample n most)))) =
  (let zz0 := (DV.int .u16 (gSample n most)); let zz1 := (IntKind.wrap .i64 (Int.tdiv n (8 : Int))); let zz2 := (DV.int .i64 zz1); let zz3 := (IntKind.wrap .i64 ((IntKind.wrap .i64 most) + (1 : Int))); let zz4 := ((((modS n (8 : Int)) == (3 : Int)) = true → True ∧ True ∧ ((8 : Int) ≠ 0) ∧ (Ans Tryd.prog 9 [RV.d zz2, RV.d (DV.int .i64 2)] (RV.d (DV.int .i64 (modS zz1 (2 : Int))))) ∧ True ∧ ((2 : Int) ≠ 0) ∧ True ∧ True ∧ RV.d (DV.int .u16 (IntKind.wrap .u16 (IntKind.wrap .i64 (Int.tdiv (IntKind.wrap .i64 ((IntKind.wrap .i64 most) + (modS zz1 (2 : Int)))) (2 : Int))))) = RV.d zz0) ∧ (((modS n (8 : Int)) == (3 : Int)) = false → True ∧ True ∧ ((((modS n (8 : Int)) == (4 : Int)) = true → True ∧ True ∧ ((8 : Int) ≠ 0) ∧ (Ans Tryd.prog 9 [RV.d zz2, RV.d (DV.int .i64 4)] (RV.d (DV.int .i64 (modS zz1 (4 : Int))))) ∧ True ∧ True ∧ True ∧ RV.d (DV.int .u16 (IntKind.wrap .u16 (min (IntKind.wrap .i64 most) (modS zz1 (4 : Int))))) = RV.d zz0) ∧ (((modS n (8 : Int)) == (4 : Int)) = false → True ∧ ((8 : Int) ≠ 0) ∧ True ∧ True ∧ (Ans Tryd.prog 9 [RV.d zz2, RV.d (DV.int .i64 zz3)] (RV.d (DV.int .i64 (modS zz1 zz3)))) ∧ True ∧ True ∧ RV.d (DV.int .u16 (IntKind.wrap .u16 (modS zz1 zz3))) = RV.d zz0)))); True ∧ True ∧ True ∧ True ∧ True ∧ (Ans Tryd.prog 9 [RV.d (DV.int .i64 n), RV.d (DV.int .i64 8)] (RV.d (DV.int .i64 (modS n (8 : Int))))) ∧ True ∧ True ∧ ((((modS n (8 : Int)) == (0 : Int)) = true → True ∧ RV.d (DV.int .u16 0) = RV.d zz0) ∧ (((modS n (8 : Int)) == (0 : Int)) = false → True ∧ True ∧ ((((modS n (8 : Int)) == (1 : Int)) = true → ((((modS n (8 : Int)) == (1 : Int)) = true → True ∧ True ∧ RV.d (DV.int .u16 most) = RV.d zz0) ∧ (((modS n (8 : Int)) == (1 : Int)) = false → True ∧ True ∧ zz4))) ∧ (((modS n (8 : Int)) == (1 : Int)) = false → True ∧ True ∧ ((((modS n (8 : Int)) == (2 : Int)) = true → True ∧ True ∧ RV.d (DV.int .u16 most) = RV.d zz0) ∧ (((modS n (8 : Int)) == (2 : Int)) = false → True ∧ True ∧ zz4))))))) := by kernel_rfl
theorem G_Sample_ans (n : Int) (most : Int) : Ans Tryd.prog 28 [RV.d (DV.int .i64 n), RV.d (DV.int .u16 most)] (RV.d (DV.int .u16 (gSample n most))) :=
  ans_of_vcg (Γ := gamI) (G_Sample_ann n most) mixed_ Tryd.func28 rfl (Nat.le_of_ble_eq_true rfl) fun hwf => by
    refine Eq.mpr (G_Sample_vc n most) ?_
    simp only [true_and, and_true, RV.d.injEq, RV.agg.injEq, RV.tup.injEq, DV.bool.injEq, DV.int.injEq, DV.sl.injEq, List.cons.injEq, forall_const, Bool.not_false, Bool.not_true, Bool.not_eq_true', Bool.not_eq_false', decide_eq_true_eq, decide_eq_false_iff_not, Int.toNat_natCast, G_Mod_ans, G_Max_ans]
    unfold gSample; grind

def G_Pixel_ann (n0 : Int) (n1 : Int) (n2 : Int) (n3 : Int) (n4 : Int) (most : Int) : Ann := Ann.leaf
theorem G_Pixel_vc (n0 : Int) (n1 : Int) (n2 : Int) (n3 : Int) (n4 : Int) (most : Int) : vcg Tryd.prog gamI 37 (bodyOf Tryd.f57) (G_Pixel_ann n0 n1 n2 n3 n4 most) kn0 (start [RV.agg [DV.int .i64 n0, DV.int .i64 n1, DV.int .i64 n2, DV.int .i64 n3, DV.int .i64 n4], RV.d (DV.int .u16 most)]) (post Tryd.prog Tryd.f57.results.toList (· = RV.agg [DV.int .u16 ((gPixel n0 n1 n2 n3 n4 most).a), DV.int .u16 ((gPixel n0 n1 n2 n3 n4 most).b), DV.int .u16 ((gPixel n0 n1 n2 n3 n4 most).c), DV.int .u16 ((gPixel n0 n1 n2 n3 n4 most).al), DV.int .u16 ((gPixel n0 n1 n2 n3 n4 most).f)])) =
  (let zz0 := (DV.int .u16 (gSample n4 most)); let zz1 := (0 ≤ (3 : Int) ∧ (3 : Int) < ((5 : Nat) : Int)); let zz2 := (IntKind.wrap .i64 (Int.tdiv n3 (3 : Int))); let zz3 := (DV.int .u16 (gSample zz2 (gSample n4 most))); let zz4 := (0 ≤ (0 : Int) ∧ (0 : Int) < ((5 : Nat) : Int)); let zz5 := (0 ≤ (1 : Int) ∧ (1 : Int) < ((5 : Nat) : Int)); let zz6 := (0 ≤ (2 : Int) ∧ (2 : Int) < ((5 : Nat) : Int)); let zz7 := [DV.int .u16 ((gPixel n0 n1 n2 n3 n4 most).a), DV.int .u16 ((gPixel n0 n1 n2 n3 n4 most).b), DV.int .u16 ((gPixel n0 n1 n2 n3 n4 most).c), DV.int .u16 ((gPixel n0 n1 n2 n3 n4 most).al), DV.int .u16 ((gPixel n0 n1 n2 n3 n4 most).f)]; True ∧ True ∧ (0 ≤ (4 : Int) ∧ (4 : Int) < ((5 : Nat) : Int)) ∧ True ∧ True ∧ (Ans Tryd.prog 28 [RV.d (DV.int .i64 n4), RV.d (DV.int .u16 most)] (RV.d zz0)) ∧ True ∧ True ∧ True ∧ zz1 ∧ True ∧ (Ans Tryd.prog 9 [RV.d (DV.int .i64 n3), RV.d (DV.int .i64 3)] (RV.d (DV.int .i64 (modS n3 (3 : Int))))) ∧ True ∧ (((decide ((modS n3 (3 : Int)) > (0 : Int))) = true → zz1 ∧ True ∧ ((3 : Int) ≠ 0) ∧ True ∧ (Ans Tryd.prog 28 [RV.d (DV.int .i64 zz2), RV.d zz0] (RV.d zz3)) ∧ True ∧ zz4 ∧ True ∧ True ∧ (Ans Tryd.prog 28 [RV.d (DV.int .i64 n0), RV.d zz3] (RV.d (DV.int .u16 (gSample n0 (gSample zz2 (gSample n4 most)))))) ∧ zz5 ∧ True ∧ True ∧ (Ans Tryd.prog 28 [RV.d (DV.int .i64 n1), RV.d zz3] (RV.d (DV.int .u16 (gSample n1 (gSample zz2 (gSample n4 most)))))) ∧ zz6 ∧ True ∧ True ∧ (Ans Tryd.prog 28 [RV.d (DV.int .i64 n2), RV.d zz3] (RV.d (DV.int .u16 (gSample n2 (gSample zz2 (gSample n4 most)))))) ∧ True ∧ True ∧ True ∧ True ∧ True ∧ (true = true) ∧ RV.agg [DV.int .u16 (gSample n0 (gSample zz2 (gSample n4 most))), DV.int .u16 (gSample n1 (gSample zz2 (gSample n4 most))), DV.int .u16 (gSample n2 (gSample zz2 (gSample n4 most))), DV.int .u16 (gSample zz2 (gSample n4 most)), DV.int .u16 (gSample n4 most)] = RV.agg zz7) ∧ ((decide ((modS n3 (3 : Int)) > (0 : Int))) = false → zz4 ∧ True ∧ True ∧ (Ans Tryd.prog 28 [RV.d (DV.int .i64 n0), RV.d zz0] (RV.d (DV.int .u16 (gSample n0 (gSample n4 most))))) ∧ zz5 ∧ True ∧ True ∧ (Ans Tryd.prog 28 [RV.d (DV.int .i64 n1), RV.d zz0] (RV.d (DV.int .u16 (gSample n1 (gSample n4 most))))) ∧ zz6 ∧ True ∧ True ∧ (Ans Tryd.prog 28 [RV.d (DV.int .i64 n2), RV.d zz0] (RV.d (DV.int .u16 (gSample n2 (gSample n4 most))))) ∧ True ∧ True ∧ True ∧ True ∧ True ∧ (true = true) ∧ RV.agg [DV.int .u16 (gSample n0 (gSample n4 most)), DV.int .u16 (gSample n1 (gSample n4 most)), DV.int .u16 (gSample n2 (gSample n4 most)), DV.int .u16 (gSample n4 most), DV.int .u16 (gSample n4 most)] = RV.agg zz7))) := by kernel_rfl
theorem G_Pixel_ans (n0 : Int) (n1 : Int) (n2 : Int) (n3 : Int) (n4 : Int) (most : Int) : Ans Tryd.prog 57 [RV.agg [DV.int .i64 n0, DV.int .i64 n1, DV.int .i64 n2, DV.int .i64 n3, DV.int .i64 n4], RV.d (DV.int .u16 most)] (RV.agg [DV.int .u16 ((gPixel n0 n1 n2 n3 n4 most).a), DV.int .u16 ((gPixel n0 n1 n2 n3 n4 most).b), DV.int .u16 ((gPixel n0 n1 n2 n3 n4 most).c), DV.int .u16 ((gPixel n0 n1 n2 n3 n4 most).al), DV.int .u16 ((gPixel n0 n1 n2 n3 n4 most).f)]) :=
  ans_of_vcg (Γ := gamI) (G_Pixel_ann n0 n1 n2 n3 n4 most) mixed_ Tryd.func57 rfl (Nat.le_of_ble_eq_true rfl) fun hwf => by
    refine Eq.mpr (G_Pixel_vc n0 n1 n2 n3 n4 most) ?_
    simp only [true_and, and_true, RV.d.injEq, RV.agg.injEq, RV.tup.injEq, DV.bool.injEq, DV.int.injEq, DV.sl.injEq, List.cons.injEq, forall_const, Bool.not_false, Bool.not_true, Bool.not_eq_true', Bool.not_eq_false', decide_eq_true_eq, decide_eq_false_iff_not, Int.toNat_natCast, G_Mod_ans, G_Max_ans, G_Sample_ans, G_Sample_ans]
    simp [gPixel]; grind

def G_Pixels_ann (mood : Int) (L : Nat) (xs : List DV) (n : Int) (most : Int) : Ann := (Ann.seq Ann.leaf (Ann.seq Ann.leaf (Ann.seq (Ann.seq Ann.leaf (Ann.loop ⟨Nat, fun k => k ≤ n.toNat, fun k => ⟨[(1, AV.one (Cl.d (DV.int .i64 n))), (2, AV.one (Cl.d (DV.int .u16 most))), (3, AV.one (Cl.ptr 3 0)), (7, AV.one (Cl.ref 5000 k)), (8, AV.one (Cl.d (DV.int .i64 ((k : Nat) : Int))))], [(3, Bx.cells [Cl.d (DV.int .i64 mood), Cl.d (DV.sl L xs)]), (5000, Bx.row 43 5 (pxs (gPixels mood L xs most k)))]⟩, fun k => n.toNat - k⟩ fun k => Ann.leaf)) Ann.leaf)))
theorem G_Pixels_vc (mood : Int) (L : Nat) (xs : List DV) (n : Int) (most : Int) : vcg Tryd.prog gamI 65 (bodyOf Tryd.f43) (G_Pixels_ann mood L xs n most) kn0 (start [RV.agg [DV.int .i64 mood, DV.sl L xs], RV.d (DV.int .i64 n), RV.d (DV.int .u16 most)]) (postO 6 43 5 n.toNat (pxs (gPixels mood L xs most n.toNat))) =
  (let zz0 := (DV.int .i64 n = DV.int .i64 n); let zz1 := (DV.int .u16 most = DV.int .u16 most); let zz2 := [DV.int .i64 mood, DV.sl L xs]; let zz3 := (zz2 = zz2); let zz4 := fun (k : Nat) => [DV.int .u16 ((gPixel (nAt xs ((Int.tmod ((k : Nat) : Int) ((L : Nat) : Int)).toNat * 5)) (nAt xs ((Int.tmod ((k : Nat) : Int) ((L : Nat) : Int)).toNat * 5 + 1)) (nAt xs ((Int.tmod ((k : Nat) : Int) ((L : Nat) : Int)).toNat * 5 + 1 + 1)) (nAt xs ((Int.tmod ((k : Nat) : Int) ((L : Nat) : Int)).toNat * 5 + 1 + 1 + 1)) (nAt xs ((Int.tmod ((k : Nat) : Int) ((L : Nat) : Int)).toNat * 5 + 1 + 1 + 1 + 1)) most).a), DV.int .u16 ((gPixel (nAt xs ((Int.tmod ((k : Nat) : Int) ((L : Nat) : Int)).toNat * 5)) (nAt xs ((Int.tmod ((k : Nat) : Int) ((L : Nat) : Int)).toNat * 5 + 1)) (nAt xs ((Int.tmod ((k : Nat) : Int) ((L : Nat) : Int)).toNat * 5 + 1 + 1)) (nAt xs ((Int.tmod ((k : Nat) : Int) ((L : Nat) : Int)).toNat * 5 + 1 + 1 + 1)) (nAt xs ((Int.tmod ((k : Nat) : Int) ((L : Nat) : Int)).toNat * 5 + 1 + 1 + 1 + 1)) most).b), DV.int .u16 ((gPixel (nAt xs ((Int.tmod ((k : Nat) : Int) ((L : Nat) : Int)).toNat * 5)) (nAt xs ((Int.tmod ((k : Nat) : Int) ((L : Nat) : Int)).toNat * 5 + 1)) (nAt xs ((Int.tmod ((k : Nat) : Int) ((L : Nat) : Int)).toNat * 5 + 1 + 1)) (nAt xs ((Int.tmod ((k : Nat) : Int) ((L : Nat) : Int)).toNat * 5 + 1 + 1 + 1)) (nAt xs ((Int.tmod ((k : Nat) : Int) ((L : Nat) : Int)).toNat * 5 + 1 + 1 + 1 + 1)) most).c), DV.int .u16 ((gPixel (nAt xs ((Int.tmod ((k : Nat) : Int) ((L : Nat) : Int)).toNat * 5)) (nAt xs ((Int.tmod ((k : Nat) : Int) ((L : Nat) : Int)).toNat * 5 + 1)) (nAt xs ((Int.tmod ((k : Nat) : Int) ((L : Nat) : Int)).toNat * 5 + 1 + 1)) (nAt xs ((Int.tmod ((k : Nat) : Int) ((L : Nat) : Int)).toNat * 5 + 1 + 1 + 1)) (nAt xs ((Int.tmod ((k : Nat) : Int) ((L : Nat) : Int)).toNat * 5 + 1 + 1 + 1 + 1)) most).al), DV.int .u16 ((gPixel (nAt xs ((Int.tmod ((k : Nat) : Int) ((L : Nat) : Int)).toNat * 5)) (nAt xs ((Int.tmod ((k : Nat) : Int) ((L : Nat) : Int)).toNat * 5 + 1)) (nAt xs ((Int.tmod ((k : Nat) : Int) ((L : Nat) : Int)).toNat * 5 + 1 + 1)) (nAt xs ((Int.tmod ((k : Nat) : Int) ((L : Nat) : Int)).toNat * 5 + 1 + 1 + 1)) (nAt xs ((Int.tmod ((k : Nat) : Int) ((L : Nat) : Int)).toNat * 5 + 1 + 1 + 1 + 1)) most).f)]; let zz5 := (Ans Tryd.prog 9 [RV.d (DV.int .i64 mood), RV.d (DV.int .i64 6)] (RV.d (DV.int .i64 (modS mood (6 : Int))))); let zz6 := fun (k : Nat) => (pxs (gPixels mood L xs most k)); let zz7 := fun (k : Nat) => fun (k' : Nat) => (n.toNat - k' < n.toNat - k); let zz8 := fun (k : Nat) => fun (k' : Nat) => (zz0 ∧ zz1 ∧ (0 = 0) ∧ (k + 1 = k') ∧ (DV.int .i64 (IntKind.wrap .i64 (((k : Nat) : Int) + (1 : Int))) = DV.int .i64 ((k' : Nat) : Int)) ∧ True); let zz9 := fun (k : Nat) => fun (k' : Nat) => ((zz8 k k') ∧ (zz3 ∧ ((zz6 k) ++ ((zz4 k)) = pxs (gPixels mood L xs most k')) ∧ True)); let zz10 := [DV.int .u16 ((gPixel (0 : Int) (0 : Int) (0 : Int) (0 : Int) (0 : Int) most).a), DV.int .u16 ((gPixel (0 : Int) (0 : Int) (0 : Int) (0 : Int) (0 : Int) most).b), DV.int .u16 ((gPixel (0 : Int) (0 : Int) (0 : Int) (0 : Int) (0 : Int) most).c), DV.int .u16 ((gPixel (0 : Int) (0 : Int) (0 : Int) (0 : Int) (0 : Int) most).al), DV.int .u16 ((gPixel (0 : Int) (0 : Int) (0 : Int) (0 : Int) (0 : Int) most).f)]; let zz11 := (Ans Tryd.prog 57 [RV.agg [DV.int .i64 0, DV.int .i64 0, DV.int .i64 0, DV.int .i64 0, DV.int .i64 0], RV.d (DV.int .u16 most)] (RV.agg zz10)); let zz12 := fun (k : Nat) => fun (k' : Nat) => ((zz8 k k') ∧ (zz3 ∧ ((zz6 k) ++ (zz10) = pxs (gPixels mood L xs most k')) ∧ True)); let zz13 := fun (k : Nat) => [DV.int .u16 ((gPixel (nAt xs (((k : Nat) : Int).toNat * 5)) (nAt xs (((k : Nat) : Int).toNat * 5 + 1)) (nAt xs (((k : Nat) : Int).toNat * 5 + 1 + 1)) (nAt xs (((k : Nat) : Int).toNat * 5 + 1 + 1 + 1)) (nAt xs (((k : Nat) : Int).toNat * 5 + 1 + 1 + 1 + 1)) most).a), DV.int .u16 ((gPixel (nAt xs (((k : Nat) : Int).toNat * 5)) (nAt xs (((k : Nat) : Int).toNat * 5 + 1)) (nAt xs (((k : Nat) : Int).toNat * 5 + 1 + 1)) (nAt xs (((k : Nat) : Int).toNat * 5 + 1 + 1 + 1)) (nAt xs (((k : Nat) : Int).toNat * 5 + 1 + 1 + 1 + 1)) most).b), DV.int .u16 ((gPixel (nAt xs (((k : Nat) : Int).toNat * 5)) (nAt xs (((k : Nat) : Int).toNat * 5 + 1)) (nAt xs (((k : Nat) : Int).toNat * 5 + 1 + 1)) (nAt xs (((k : Nat) : Int).toNat * 5 + 1 + 1 + 1)) (nAt xs (((k : Nat) : Int).toNat * 5 + 1 + 1 + 1 + 1)) most).c), DV.int .u16 ((gPixel (nAt xs (((k : Nat) : Int).toNat * 5)) (nAt xs (((k : Nat) : Int).toNat * 5 + 1)) (nAt xs (((k : Nat) : Int).toNat * 5 + 1 + 1)) (nAt xs (((k : Nat) : Int).toNat * 5 + 1 + 1 + 1)) (nAt xs (((k : Nat) : Int).toNat * 5 + 1 + 1 + 1 + 1)) most).al), DV.int .u16 ((gPixel (nAt xs (((k : Nat) : Int).toNat * 5)) (nAt xs (((k : Nat) : Int).toNat * 5 + 1)) (nAt xs (((k : Nat) : Int).toNat * 5 + 1 + 1)) (nAt xs (((k : Nat) : Int).toNat * 5 + 1 + 1 + 1)) (nAt xs (((k : Nat) : Int).toNat * 5 + 1 + 1 + 1 + 1)) most).f)]; let zz14 := fun (k : Nat) => fun (k' : Nat) => ((zz8 k k') ∧ (zz3 ∧ ((zz6 k) ++ ((zz13 k)) = pxs (gPixels mood L xs most k')) ∧ True)); True ∧ True ∧ True ∧ True ∧ ((∃ k : Nat, (k ≤ n.toNat) ∧ ((zz0 ∧ zz1 ∧ (0 = 0) ∧ (0 = k) ∧ (DV.int .i64 0 = DV.int .i64 ((k : Nat) : Int)) ∧ True) ∧ (zz3 ∧ ([] = pxs (gPixels mood L xs most k)) ∧ True))) ∧ ∀ k : Nat, (k ≤ n.toNat) → True ∧ True ∧ True ∧ (((decide (((k : Nat) : Int) < n)) = true → True ∧ True ∧ True ∧ True ∧ True ∧ True ∧ (((decide (((L : Nat) : Int) > (0 : Int))) = true → True ∧ True ∧ True ∧ True ∧ (((L : Nat) : Int) ≠ 0) ∧ True ∧ True ∧ True ∧ True ∧ True ∧ True ∧ True ∧ (((decide ((Int.tmod ((k : Nat) : Int) ((L : Nat) : Int)) < ((L : Nat) : Int))) = true → True ∧ True ∧ True ∧ (0 ≤ Int.tmod ((k : Nat) : Int) ((L : Nat) : Int) ∧ Int.tmod ((k : Nat) : Int) ((L : Nat) : Int) < ((L : Nat) : Int) ∧ (Int.tmod ((k : Nat) : Int) ((L : Nat) : Int)).toNat * 5 < xs.length) ∧ ((xs[(Int.tmod ((k : Nat) : Int) ((L : Nat) : Int)).toNat * 5]? = some (DV.int .i64 (nAt xs ((Int.tmod ((k : Nat) : Int) ((L : Nat) : Int)).toNat * 5)))) ∧ (xs[(Int.tmod ((k : Nat) : Int) ((L : Nat) : Int)).toNat * 5 + 1]? = some (DV.int .i64 (nAt xs ((Int.tmod ((k : Nat) : Int) ((L : Nat) : Int)).toNat * 5 + 1)))) ∧ (xs[(Int.tmod ((k : Nat) : Int) ((L : Nat) : Int)).toNat * 5 + 1 + 1]? = some (DV.int .i64 (nAt xs ((Int.tmod ((k : Nat) : Int) ((L : Nat) : Int)).toNat * 5 + 1 + 1)))) ∧ (xs[(Int.tmod ((k : Nat) : Int) ((L : Nat) : Int)).toNat * 5 + 1 + 1 + 1]? = some (DV.int .i64 (nAt xs ((Int.tmod ((k : Nat) : Int) ((L : Nat) : Int)).toNat * 5 + 1 + 1 + 1)))) ∧ (xs[(Int.tmod ((k : Nat) : Int) ((L : Nat) : Int)).toNat * 5 + 1 + 1 + 1 + 1]? = some (DV.int .i64 (nAt xs ((Int.tmod ((k : Nat) : Int) ((L : Nat) : Int)).toNat * 5 + 1 + 1 + 1 + 1)))) ∧ True) ∧ True ∧ True ∧ True ∧ (Ans Tryd.prog 57 [RV.agg [DV.int .i64 (nAt xs ((Int.tmod ((k : Nat) : Int) ((L : Nat) : Int)).toNat * 5)), DV.int .i64 (nAt xs ((Int.tmod ((k : Nat) : Int) ((L : Nat) : Int)).toNat * 5 + 1)), DV.int .i64 (nAt xs ((Int.tmod ((k : Nat) : Int) ((L : Nat) : Int)).toNat * 5 + 1 + 1)), DV.int .i64 (nAt xs ((Int.tmod ((k : Nat) : Int) ((L : Nat) : Int)).toNat * 5 + 1 + 1 + 1)), DV.int .i64 (nAt xs ((Int.tmod ((k : Nat) : Int) ((L : Nat) : Int)).toNat * 5 + 1 + 1 + 1 + 1))], RV.d (DV.int .u16 most)] (RV.agg (zz4 k))) ∧ True ∧ True ∧ True ∧ True ∧ zz5 ∧ True ∧ True ∧ ((((modS mood (6 : Int)) == (0 : Int)) = true → True ∧ True ∧ True ∧ True ∧ True ∧ (appVc 5 10 k 1 (zz6 k) ([DV.int .u16 0, DV.int .u16 0, DV.int .u16 0, DV.int .u16 0, DV.int .u16 0])) ∧ True ∧ True ∧ True ∧ True ∧ ∃ k' : Nat, (k' ≤ n.toNat) ∧ (zz7 k k') ∧ ((zz8 k k') ∧ (zz3 ∧ ((zz6 k) ++ ([DV.int .u16 0, DV.int .u16 0, DV.int .u16 0, DV.int .u16 0, DV.int .u16 0]) = pxs (gPixels mood L xs most k')) ∧ True))) ∧ (((modS mood (6 : Int)) == (0 : Int)) = false → True ∧ True ∧ ((((modS mood (6 : Int)) == (1 : Int)) = true → True ∧ True ∧ True ∧ True ∧ True ∧ True ∧ True ∧ True ∧ True ∧ (appVc 5 10 k 1 (zz6 k) ([DV.int .u16 ((gPixel (nAt xs ((Int.tmod ((k : Nat) : Int) ((L : Nat) : Int)).toNat * 5)) (nAt xs ((Int.tmod ((k : Nat) : Int) ((L : Nat) : Int)).toNat * 5 + 1)) (nAt xs ((Int.tmod ((k : Nat) : Int) ((L : Nat) : Int)).toNat * 5 + 1 + 1)) (nAt xs ((Int.tmod ((k : Nat) : Int) ((L : Nat) : Int)).toNat * 5 + 1 + 1 + 1)) (nAt xs ((Int.tmod ((k : Nat) : Int) ((L : Nat) : Int)).toNat * 5 + 1 + 1 + 1 + 1)) most).a), DV.int .u16 ((gPixel (nAt xs ((Int.tmod ((k : Nat) : Int) ((L : Nat) : Int)).toNat * 5)) (nAt xs ((Int.tmod ((k : Nat) : Int) ((L : Nat) : Int)).toNat * 5 + 1)) (nAt xs ((Int.tmod ((k : Nat) : Int) ((L : Nat) : Int)).toNat * 5 + 1 + 1)) (nAt xs ((Int.tmod ((k : Nat) : Int) ((L : Nat) : Int)).toNat * 5 + 1 + 1 + 1)) (nAt xs ((Int.tmod ((k : Nat) : Int) ((L : Nat) : Int)).toNat * 5 + 1 + 1 + 1 + 1)) most).b), DV.int .u16 ((gPixel (nAt xs ((Int.tmod ((k : Nat) : Int) ((L : Nat) : Int)).toNat * 5)) (nAt xs ((Int.tmod ((k : Nat) : Int) ((L : Nat) : Int)).toNat * 5 + 1)) (nAt xs ((Int.tmod ((k : Nat) : Int) ((L : Nat) : Int)).toNat * 5 + 1 + 1)) (nAt xs ((Int.tmod ((k : Nat) : Int) ((L : Nat) : Int)).toNat * 5 + 1 + 1 + 1)) (nAt xs ((Int.tmod ((k : Nat) : Int) ((L : Nat) : Int)).toNat * 5 + 1 + 1 + 1 + 1)) most).c), DV.int .u16 most, DV.int .u16 most])) ∧ True ∧ True ∧ True ∧ True ∧ ∃ k' : Nat, (k' ≤ n.toNat) ∧ (zz7 k k') ∧ ((zz8 k k') ∧ (zz3 ∧ ((zz6 k) ++ ([DV.int .u16 ((gPixel (nAt xs ((Int.tmod ((k : Nat) : Int) ((L : Nat) : Int)).toNat * 5)) (nAt xs ((Int.tmod ((k : Nat) : Int) ((L : Nat) : Int)).toNat * 5 + 1)) (nAt xs ((Int.tmod ((k : Nat) : Int) ((L : Nat) : Int)).toNat * 5 + 1 + 1)) (nAt xs ((Int.tmod ((k : Nat) : Int) ((L : Nat) : Int)).toNat * 5 + 1 + 1 + 1)) (nAt xs ((Int.tmod ((k : Nat) : Int) ((L : Nat) : Int)).toNat * 5 + 1 + 1 + 1 + 1)) most).a), DV.int .u16 ((gPixel (nAt xs ((Int.tmod ((k : Nat) : Int) ((L : Nat) : Int)).toNat * 5)) (nAt xs ((Int.tmod ((k : Nat) : Int) ((L : Nat) : Int)).toNat * 5 + 1)) (nAt xs ((Int.tmod ((k : Nat) : Int) ((L : Nat) : Int)).toNat * 5 + 1 + 1)) (nAt xs ((Int.tmod ((k : Nat) : Int) ((L : Nat) : Int)).toNat * 5 + 1 + 1 + 1)) (nAt xs ((Int.tmod ((k : Nat) : Int) ((L : Nat) : Int)).toNat * 5 + 1 + 1 + 1 + 1)) most).b), DV.int .u16 ((gPixel (nAt xs ((Int.tmod ((k : Nat) : Int) ((L : Nat) : Int)).toNat * 5)) (nAt xs ((Int.tmod ((k : Nat) : Int) ((L : Nat) : Int)).toNat * 5 + 1)) (nAt xs ((Int.tmod ((k : Nat) : Int) ((L : Nat) : Int)).toNat * 5 + 1 + 1)) (nAt xs ((Int.tmod ((k : Nat) : Int) ((L : Nat) : Int)).toNat * 5 + 1 + 1 + 1)) (nAt xs ((Int.tmod ((k : Nat) : Int) ((L : Nat) : Int)).toNat * 5 + 1 + 1 + 1 + 1)) most).c), DV.int .u16 most, DV.int .u16 most]) = pxs (gPixels mood L xs most k')) ∧ True))) ∧ (((modS mood (6 : Int)) == (1 : Int)) = false → True ∧ True ∧ ((((modS mood (6 : Int)) == (2 : Int)) = true → True ∧ (k ≤ maxLen) ∧ True ∧ (((decide (((k : Nat) : Int) > (0 : Int))) = true → True ∧ (0 ≤ (0 : Int) ∧ (0 : Int) < ((k : Nat) : Int)) ∧ (((zz6 k)[0]? = some (DV.int .u16 (nAt (zz6 k) 0))) ∧ ((zz6 k)[1]? = some (DV.int .u16 (nAt (zz6 k) 1))) ∧ ((zz6 k)[2]? = some (DV.int .u16 (nAt (zz6 k) 2))) ∧ ((zz6 k)[3]? = some (DV.int .u16 (nAt (zz6 k) 3))) ∧ ((zz6 k)[4]? = some (DV.int .u16 (nAt (zz6 k) 4))) ∧ True) ∧ True ∧ True ∧ True ∧ True ∧ (appVc 5 10 k 1 (zz6 k) ([DV.int .u16 (nAt (zz6 k) 0), DV.int .u16 (nAt (zz6 k) 1), DV.int .u16 (nAt (zz6 k) 2), DV.int .u16 (nAt (zz6 k) 3), DV.int .u16 (nAt (zz6 k) 4)])) ∧ True ∧ True ∧ True ∧ True ∧ ∃ k' : Nat, (k' ≤ n.toNat) ∧ (zz7 k k') ∧ ((zz8 k k') ∧ (zz3 ∧ ((zz6 k) ++ ([DV.int .u16 (nAt (zz6 k) 0), DV.int .u16 (nAt (zz6 k) 1), DV.int .u16 (nAt (zz6 k) 2), DV.int .u16 (nAt (zz6 k) 3), DV.int .u16 (nAt (zz6 k) 4)]) = pxs (gPixels mood L xs most k')) ∧ True))) ∧ ((decide (((k : Nat) : Int) > (0 : Int))) = false → True ∧ True ∧ True ∧ (appVc 5 10 k 1 (zz6 k) ((zz4 k))) ∧ True ∧ True ∧ True ∧ True ∧ ∃ k' : Nat, (k' ≤ n.toNat) ∧ (zz7 k k') ∧ (zz9 k k')))) ∧ (((modS mood (6 : Int)) == (2 : Int)) = false → True ∧ True ∧ True ∧ (appVc 5 10 k 1 (zz6 k) ((zz4 k))) ∧ True ∧ True ∧ True ∧ True ∧ ∃ k' : Nat, (k' ≤ n.toNat) ∧ (zz7 k k') ∧ (zz9 k k')))))))) ∧ ((decide ((Int.tmod ((k : Nat) : Int) ((L : Nat) : Int)) < ((L : Nat) : Int))) = false → True ∧ True ∧ zz11 ∧ True ∧ True ∧ True ∧ True ∧ zz5 ∧ True ∧ True ∧ ((((modS mood (6 : Int)) == (0 : Int)) = true → True ∧ True ∧ True ∧ True ∧ True ∧ (appVc 5 10 k 1 (zz6 k) ([DV.int .u16 0, DV.int .u16 0, DV.int .u16 0, DV.int .u16 0, DV.int .u16 0])) ∧ True ∧ True ∧ True ∧ True ∧ ∃ k' : Nat, (k' ≤ n.toNat) ∧ (zz7 k k') ∧ ((zz8 k k') ∧ (zz3 ∧ ((zz6 k) ++ ([DV.int .u16 0, DV.int .u16 0, DV.int .u16 0, DV.int .u16 0, DV.int .u16 0]) = pxs (gPixels mood L xs most k')) ∧ True))) ∧ (((modS mood (6 : Int)) == (0 : Int)) = false → True ∧ True ∧ ((((modS mood (6 : Int)) == (1 : Int)) = true → True ∧ True ∧ True ∧ True ∧ True ∧ True ∧ True ∧ True ∧ True ∧ (appVc 5 10 k 1 (zz6 k) ([DV.int .u16 ((gPixel (0 : Int) (0 : Int) (0 : Int) (0 : Int) (0 : Int) most).a), DV.int .u16 ((gPixel (0 : Int) (0 : Int) (0 : Int) (0 : Int) (0 : Int) most).b), DV.int .u16 ((gPixel (0 : Int) (0 : Int) (0 : Int) (0 : Int) (0 : Int) most).c), DV.int .u16 most, DV.int .u16 most])) ∧ True ∧ True ∧ True ∧ True ∧ ∃ k' : Nat, (k' ≤ n.toNat) ∧ (zz7 k k') ∧ ((zz8 k k') ∧ (zz3 ∧ ((zz6 k) ++ ([DV.int .u16 ((gPixel (0 : Int) (0 : Int) (0 : Int) (0 : Int) (0 : Int) most).a), DV.int .u16 ((gPixel (0 : Int) (0 : Int) (0 : Int) (0 : Int) (0 : Int) most).b), DV.int .u16 ((gPixel (0 : Int) (0 : Int) (0 : Int) (0 : Int) (0 : Int) most).c), DV.int .u16 most, DV.int .u16 most]) = pxs (gPixels mood L xs most k')) ∧ True))) ∧ (((modS mood (6 : Int)) == (1 : Int)) = false → True ∧ True ∧ ((((modS mood (6 : Int)) == (2 : Int)) = true → True ∧ (k ≤ maxLen) ∧ True ∧ (((decide (((k : Nat) : Int) > (0 : Int))) = true → True ∧ (0 ≤ (0 : Int) ∧ (0 : Int) < ((k : Nat) : Int)) ∧ (((zz6 k)[0]? = some (DV.int .u16 (nAt (zz6 k) 0))) ∧ ((zz6 k)[1]? = some (DV.int .u16 (nAt (zz6 k) 1))) ∧ ((zz6 k)[2]? = some (DV.int .u16 (nAt (zz6 k) 2))) ∧ ((zz6 k)[3]? = some (DV.int .u16 (nAt (zz6 k) 3))) ∧ ((zz6 k)[4]? = some (DV.int .u16 (nAt (zz6 k) 4))) ∧ True) ∧ True ∧ True ∧ True ∧ True ∧ (appVc 5 10 k 1 (zz6 k) ([DV.int .u16 (nAt (zz6 k) 0), DV.int .u16 (nAt (zz6 k) 1), DV.int .u16 (nAt (zz6 k) 2), DV.int .u16 (nAt (zz6 k) 3), DV.int .u16 (nAt (zz6 k) 4)])) ∧ True ∧ True ∧ True ∧ True ∧ ∃ k' : Nat, (k' ≤ n.toNat) ∧ (zz7 k k') ∧ ((zz8 k k') ∧ (zz3 ∧ ((zz6 k) ++ ([DV.int .u16 (nAt (zz6 k) 0), DV.int .u16 (nAt (zz6 k) 1), DV.int .u16 (nAt (zz6 k) 2), DV.int .u16 (nAt (zz6 k) 3), DV.int .u16 (nAt (zz6 k) 4)]) = pxs (gPixels mood L xs most k')) ∧ True))) ∧ ((decide (((k : Nat) : Int) > (0 : Int))) = false → True ∧ True ∧ True ∧ (appVc 5 10 k 1 (zz6 k) (zz10)) ∧ True ∧ True ∧ True ∧ True ∧ ∃ k' : Nat, (k' ≤ n.toNat) ∧ (zz7 k k') ∧ (zz12 k k')))) ∧ (((modS mood (6 : Int)) == (2 : Int)) = false → True ∧ True ∧ True ∧ (appVc 5 10 k 1 (zz6 k) (zz10)) ∧ True ∧ True ∧ True ∧ True ∧ ∃ k' : Nat, (k' ≤ n.toNat) ∧ (zz7 k k') ∧ (zz12 k k')))))))))) ∧ ((decide (((L : Nat) : Int) > (0 : Int))) = false → True ∧ True ∧ True ∧ True ∧ True ∧ True ∧ (((decide (((k : Nat) : Int) < ((L : Nat) : Int))) = true → True ∧ True ∧ True ∧ (0 ≤ ((k : Nat) : Int) ∧ ((k : Nat) : Int) < ((L : Nat) : Int) ∧ ((k : Nat) : Int).toNat * 5 < xs.length) ∧ ((xs[((k : Nat) : Int).toNat * 5]? = some (DV.int .i64 (nAt xs (((k : Nat) : Int).toNat * 5)))) ∧ (xs[((k : Nat) : Int).toNat * 5 + 1]? = some (DV.int .i64 (nAt xs (((k : Nat) : Int).toNat * 5 + 1)))) ∧ (xs[((k : Nat) : Int).toNat * 5 + 1 + 1]? = some (DV.int .i64 (nAt xs (((k : Nat) : Int).toNat * 5 + 1 + 1)))) ∧ (xs[((k : Nat) : Int).toNat * 5 + 1 + 1 + 1]? = some (DV.int .i64 (nAt xs (((k : Nat) : Int).toNat * 5 + 1 + 1 + 1)))) ∧ (xs[((k : Nat) : Int).toNat * 5 + 1 + 1 + 1 + 1]? = some (DV.int .i64 (nAt xs (((k : Nat) : Int).toNat * 5 + 1 + 1 + 1 + 1)))) ∧ True) ∧ True ∧ True ∧ True ∧ (Ans Tryd.prog 57 [RV.agg [DV.int .i64 (nAt xs (((k : Nat) : Int).toNat * 5)), DV.int .i64 (nAt xs (((k : Nat) : Int).toNat * 5 + 1)), DV.int .i64 (nAt xs (((k : Nat) : Int).toNat * 5 + 1 + 1)), DV.int .i64 (nAt xs (((k : Nat) : Int).toNat * 5 + 1 + 1 + 1)), DV.int .i64 (nAt xs (((k : Nat) : Int).toNat * 5 + 1 + 1 + 1 + 1))], RV.d (DV.int .u16 most)] (RV.agg (zz13 k))) ∧ True ∧ True ∧ True ∧ True ∧ zz5 ∧ True ∧ True ∧ ((((modS mood (6 : Int)) == (0 : Int)) = true → True ∧ True ∧ True ∧ True ∧ True ∧ (appVc 5 10 k 1 (zz6 k) ([DV.int .u16 0, DV.int .u16 0, DV.int .u16 0, DV.int .u16 0, DV.int .u16 0])) ∧ True ∧ True ∧ True ∧ True ∧ ∃ k' : Nat, (k' ≤ n.toNat) ∧ (zz7 k k') ∧ ((zz8 k k') ∧ (zz3 ∧ ((zz6 k) ++ ([DV.int .u16 0, DV.int .u16 0, DV.int .u16 0, DV.int .u16 0, DV.int .u16 0]) = pxs (gPixels mood L xs most k')) ∧ True))) ∧ (((modS mood (6 : Int)) == (0 : Int)) = false → True ∧ True ∧ ((((modS mood (6 : Int)) == (1 : Int)) = true → True ∧ True ∧ True ∧ True ∧ True ∧ True ∧ True ∧ True ∧ True ∧ (appVc 5 10 k 1 (zz6 k) ([DV.int .u16 ((gPixel (nAt xs (((k : Nat) : Int).toNat * 5)) (nAt xs (((k : Nat) : Int).toNat * 5 + 1)) (nAt xs (((k : Nat) : Int).toNat * 5 + 1 + 1)) (nAt xs (((k : Nat) : Int).toNat * 5 + 1 + 1 + 1)) (nAt xs (((k : Nat) : Int).toNat * 5 + 1 + 1 + 1 + 1)) most).a), DV.int .u16 ((gPixel (nAt xs (((k : Nat) : Int).toNat * 5)) (nAt xs (((k : Nat) : Int).toNat * 5 + 1)) (nAt xs (((k : Nat) : Int).toNat * 5 + 1 + 1)) (nAt xs (((k : Nat) : Int).toNat * 5 + 1 + 1 + 1)) (nAt xs (((k : Nat) : Int).toNat * 5 + 1 + 1 + 1 + 1)) most).b), DV.int .u16 ((gPixel (nAt xs (((k : Nat) : Int).toNat * 5)) (nAt xs (((k : Nat) : Int).toNat * 5 + 1)) (nAt xs (((k : Nat) : Int).toNat * 5 + 1 + 1)) (nAt xs (((k : Nat) : Int).toNat * 5 + 1 + 1 + 1)) (nAt xs (((k : Nat) : Int).toNat * 5 + 1 + 1 + 1 + 1)) most).c), DV.int .u16 most, DV.int .u16 most])) ∧ True ∧ True ∧ True ∧ True ∧ ∃ k' : Nat, (k' ≤ n.toNat) ∧ (zz7 k k') ∧ ((zz8 k k') ∧ (zz3 ∧ ((zz6 k) ++ ([DV.int .u16 ((gPixel (nAt xs (((k : Nat) : Int).toNat * 5)) (nAt xs (((k : Nat) : Int).toNat * 5 + 1)) (nAt xs (((k : Nat) : Int).toNat * 5 + 1 + 1)) (nAt xs (((k : Nat) : Int).toNat * 5 + 1 + 1 + 1)) (nAt xs (((k : Nat) : Int).toNat * 5 + 1 + 1 + 1 + 1)) most).a), DV.int .u16 ((gPixel (nAt xs (((k : Nat) : Int).toNat * 5)) (nAt xs (((k : Nat) : Int).toNat * 5 + 1)) (nAt xs (((k : Nat) : Int).toNat * 5 + 1 + 1)) (nAt xs (((k : Nat) : Int).toNat * 5 + 1 + 1 + 1)) (nAt xs (((k : Nat) : Int).toNat * 5 + 1 + 1 + 1 + 1)) most).b), DV.int .u16 ((gPixel (nAt xs (((k : Nat) : Int).toNat * 5)) (nAt xs (((k : Nat) : Int).toNat * 5 + 1)) (nAt xs (((k : Nat) : Int).toNat * 5 + 1 + 1)) (nAt xs (((k : Nat) : Int).toNat * 5 + 1 + 1 + 1)) (nAt xs (((k : Nat) : Int).toNat * 5 + 1 + 1 + 1 + 1)) most).c), DV.int .u16 most, DV.int .u16 most]) = pxs (gPixels mood L xs most k')) ∧ True))) ∧ (((modS mood (6 : Int)) == (1 : Int)) = false → True ∧ True ∧ ((((modS mood (6 : Int)) == (2 : Int)) = true → True ∧ (k ≤ maxLen) ∧ True ∧ (((decide (((k : Nat) : Int) > (0 : Int))) = true → True ∧ (0 ≤ (0 : Int) ∧ (0 : Int) < ((k : Nat) : Int)) ∧ (((zz6 k)[0]? = some (DV.int .u16 (nAt (zz6 k) 0))) ∧ ((zz6 k)[1]? = some (DV.int .u16 (nAt (zz6 k) 1))) ∧ ((zz6 k)[2]? = some (DV.int .u16 (nAt (zz6 k) 2))) ∧ ((zz6 k)[3]? = some (DV.int .u16 (nAt (zz6 k) 3))) ∧ ((zz6 k)[4]? = some (DV.int .u16 (nAt (zz6 k) 4))) ∧ True) ∧ True ∧ True ∧ True ∧ True ∧ (appVc 5 10 k 1 (zz6 k) ([DV.int .u16 (nAt (zz6 k) 0), DV.int .u16 (nAt (zz6 k) 1), DV.int .u16 (nAt (zz6 k) 2), DV.int .u16 (nAt (zz6 k) 3), DV.int .u16 (nAt (zz6 k) 4)])) ∧ True ∧ True ∧ True ∧ True ∧ ∃ k' : Nat, (k' ≤ n.toNat) ∧ (zz7 k k') ∧ ((zz8 k k') ∧ (zz3 ∧ ((zz6 k) ++ ([DV.int .u16 (nAt (zz6 k) 0), DV.int .u16 (nAt (zz6 k) 1), DV.int .u16 (nAt (zz6 k) 2), DV.int .u16 (nAt (zz6 k) 3), DV.int .u16 (nAt (zz6 k) 4)]) = pxs (gPixels mood L xs most k')) ∧ True))) ∧ ((decide (((k : Nat) : Int) > (0 : Int))) = false → True ∧ True ∧ True ∧ (appVc 5 10 k 1 (zz6 k) ((zz13 k))) ∧ True ∧ True ∧ True ∧ True ∧ ∃ k' : Nat, (k' ≤ n.toNat) ∧ (zz7 k k') ∧ (zz14 k k')))) ∧ (((modS mood (6 : Int)) == (2 : Int)) = false → True ∧ True ∧ True ∧ (appVc 5 10 k 1 (zz6 k) ((zz13 k))) ∧ True ∧ True ∧ True ∧ True ∧ ∃ k' : Nat, (k' ≤ n.toNat) ∧ (zz7 k k') ∧ (zz14 k k')))))))) ∧ ((decide (((k : Nat) : Int) < ((L : Nat) : Int))) = false → True ∧ True ∧ zz11 ∧ True ∧ True ∧ True ∧ True ∧ zz5 ∧ True ∧ True ∧ ((((modS mood (6 : Int)) == (0 : Int)) = true → True ∧ True ∧ True ∧ True ∧ True ∧ (appVc 5 10 k 1 (zz6 k) ([DV.int .u16 0, DV.int .u16 0, DV.int .u16 0, DV.int .u16 0, DV.int .u16 0])) ∧ True ∧ True ∧ True ∧ True ∧ ∃ k' : Nat, (k' ≤ n.toNat) ∧ (zz7 k k') ∧ ((zz8 k k') ∧ (zz3 ∧ ((zz6 k) ++ ([DV.int .u16 0, DV.int .u16 0, DV.int .u16 0, DV.int .u16 0, DV.int .u16 0]) = pxs (gPixels mood L xs most k')) ∧ True))) ∧ (((modS mood (6 : Int)) == (0 : Int)) = false → True ∧ True ∧ ((((modS mood (6 : Int)) == (1 : Int)) = true → True ∧ True ∧ True ∧ True ∧ True ∧ True ∧ True ∧ True ∧ True ∧ (appVc 5 10 k 1 (zz6 k) ([DV.int .u16 ((gPixel (0 : Int) (0 : Int) (0 : Int) (0 : Int) (0 : Int) most).a), DV.int .u16 ((gPixel (0 : Int) (0 : Int) (0 : Int) (0 : Int) (0 : Int) most).b), DV.int .u16 ((gPixel (0 : Int) (0 : Int) (0 : Int) (0 : Int) (0 : Int) most).c), DV.int .u16 most, DV.int .u16 most])) ∧ True ∧ True ∧ True ∧ True ∧ ∃ k' : Nat, (k' ≤ n.toNat) ∧ (zz7 k k') ∧ ((zz8 k k') ∧ (zz3 ∧ ((zz6 k) ++ ([DV.int .u16 ((gPixel (0 : Int) (0 : Int) (0 : Int) (0 : Int) (0 : Int) most).a), DV.int .u16 ((gPixel (0 : Int) (0 : Int) (0 : Int) (0 : Int) (0 : Int) most).b), DV.int .u16 ((gPixel (0 : Int) (0 : Int) (0 : Int) (0 : Int) (0 : Int) most).c), DV.int .u16 most, DV.int .u16 most]) = pxs (gPixels mood L xs most k')) ∧ True))) ∧ (((modS mood (6 : Int)) == (1 : Int)) = false → True ∧ True ∧ ((((modS mood (6 : Int)) == (2 : Int)) = true → True ∧ (k ≤ maxLen) ∧ True ∧ (((decide (((k : Nat) : Int) > (0 : Int))) = true → True ∧ (0 ≤ (0 : Int) ∧ (0 : Int) < ((k : Nat) : Int)) ∧ (((zz6 k)[0]? = some (DV.int .u16 (nAt (zz6 k) 0))) ∧ ((zz6 k)[1]? = some (DV.int .u16 (nAt (zz6 k) 1))) ∧ ((zz6 k)[2]? = some (DV.int .u16 (nAt (zz6 k) 2))) ∧ ((zz6 k)[3]? = some (DV.int .u16 (nAt (zz6 k) 3))) ∧ ((zz6 k)[4]? = some (DV.int .u16 (nAt (zz6 k) 4))) ∧ True) ∧ True ∧ True ∧ True ∧ True ∧ (appVc 5 10 k 1 (zz6 k) ([DV.int .u16 (nAt (zz6 k) 0), DV.int .u16 (nAt (zz6 k) 1), DV.int .u16 (nAt (zz6 k) 2), DV.int .u16 (nAt (zz6 k) 3), DV.int .u16 (nAt (zz6 k) 4)])) ∧ True ∧ True ∧ True ∧ True ∧ ∃ k' : Nat, (k' ≤ n.toNat) ∧ (zz7 k k') ∧ ((zz8 k k') ∧ (zz3 ∧ ((zz6 k) ++ ([DV.int .u16 (nAt (zz6 k) 0), DV.int .u16 (nAt (zz6 k) 1), DV.int .u16 (nAt (zz6 k) 2), DV.int .u16 (nAt (zz6 k) 3), DV.int .u16 (nAt (zz6 k) 4)]) = pxs (gPixels mood L xs most k')) ∧ True))) ∧ ((decide (((k : Nat) : Int) > (0 : Int))) = false → True ∧ True ∧ True ∧ (appVc 5 10 k 1 (zz6 k) (zz10)) ∧ True ∧ True ∧ True ∧ True ∧ ∃ k' : Nat, (k' ≤ n.toNat) ∧ (zz7 k k') ∧ (zz12 k k')))) ∧ (((modS mood (6 : Int)) == (2 : Int)) = false → True ∧ True ∧ True ∧ (appVc 5 10 k 1 (zz6 k) (zz10)) ∧ True ∧ True ∧ True ∧ True ∧ ∃ k' : Nat, (k' ≤ n.toNat) ∧ (zz7 k k') ∧ (zz12 k k')))))))))))) ∧ ((decide (((k : Nat) : Int) < n)) = false → True ∧ True ∧ (43 = 43 ∧ 5 = 5) ∧ (pxs (gPixels mood L xs most n.toNat)).length = n.toNat * 5 ∧ k = n.toNat ∧ pxs (gPixels mood L xs most k) = pxs (gPixels mood L xs most n.toNat))))) := by kernel_rfl
theorem G_Pixels_ans (mood : Int) (L : Nat) (xs : List DV) (n : Int) (most : Int) (hx : Is5 L xs) (hn : n ≤ 16777216) : AnsO Tryd.prog 43 [RV.agg [DV.int .i64 mood, DV.sl L xs], RV.d (DV.int .i64 n), RV.d (DV.int .u16 most)] 43 5 n.toNat (pxs (gPixels mood L xs most n.toNat)) :=
  ans_of_vcg_own (t := 6) (Γ := gamI) (G_Pixels_ann mood L xs n most) mixed_ Tryd.func43 rfl (Nat.le_of_ble_eq_true rfl) rfl fun hwf => by
    refine Eq.mpr (G_Pixels_vc mood L xs n most) ?_
    simp only [true_and, and_true, RV.d.injEq, RV.agg.injEq, RV.tup.injEq, DV.bool.injEq, DV.int.injEq, DV.sl.injEq, List.cons.injEq, forall_const, Bool.not_false, Bool.not_true, Bool.not_eq_true', Bool.not_eq_false', decide_eq_true_eq, decide_eq_false_iff_not, Int.toNat_natCast, G_Mod_ans, G_Max_ans, G_Sample_ans, G_Sample_ans, G_Pixel_ans, G_Pixel_ans]
    refine ⟨⟨0, Nat.zero_le _, ⟨rfl, rfl⟩, rfl⟩, fun k hk => ⟨fun hlt => ?_, fun hge => ?_⟩⟩
    · have hkn : k < n.toNat := by omega
      have hnn : n.toNat ≤ 16777216 := by omega
      have tm : Int.tmod (k : Int) (L : Int) = ((k % L : Nat) : Int) := rfl
      simp only [tm, Int.toNat_natCast, Nat.add_assoc, Nat.reduceAdd]
      rcases Nat.eq_zero_or_pos L with hL | hL
      · subst hL
        have P1 : gPixel 0 0 0 0 0 most = gPx1 0 xs most k := by simp [gPx1, gNum]
        have P0 : gPx1 0 xs most 0 = gPx1 0 xs most k := by simp [gPx1, gNum]
        simp only [P1]
        (repeat' (first | apply And.intro | intro)) <;> (first | assumption | omega | exact A _ (by omega) | rfl | (rw [pxs_length, gPixels_len]; done) | (unfold maxLen; omega) | exact gFirst (by omega) _ (by omega) | (apply gStep hkn hnn; simp_all [gPx, Px.ds, Px.zero]; done) | (obtain ⟨v0, v1, v2, v3, v4⟩ := gFirstV (mood := mood) (L := L) (xs := xs) (most := most) (k := k) (by omega) (eq_of_beq (by assumption)); apply gStep hkn hnn; simp_all [gPx, Px.ds]; done) | (obtain ⟨v0, v1, v2, v3, v4⟩ := gFirstV (mood := mood) (L := 0) (xs := xs) (most := most) (k := k) (by omega) (eq_of_beq (by assumption)); apply gStep hkn hnn; simp_all [gPx, Px.ds]; done) | (have P2 := P0 (by omega); apply gStep hkn hnn; simp_all [gPx, Px.ds]; done))
      · have hmod := Nat.mod_lt k hL
        have P1 : gPixel (nAt xs (k % L * 5)) (nAt xs (k % L * 5 + 1)) (nAt xs (k % L * 5 + 2)) (nAt xs (k % L * 5 + 3)) (nAt xs (k % L * 5 + 4)) most = gPx1 L xs most k := by simp [gPx1, gNum, hL]
        simp only [P1]
        have P0 : k = 0 → gPx1 L xs most 0 = gPx1 L xs most k := fun h => by rw [h]
        have A := hx.2
        have B := hx.1
        (repeat' (first | apply And.intro | intro)) <;> (first | assumption | omega | exact A _ (by omega) | rfl | (rw [pxs_length, gPixels_len]; done) | (unfold maxLen; omega) | exact gFirst (by omega) _ (by omega) | (apply gStep hkn hnn; simp_all [gPx, Px.ds, Px.zero]; done) | (obtain ⟨v0, v1, v2, v3, v4⟩ := gFirstV (mood := mood) (L := L) (xs := xs) (most := most) (k := k) (by omega) (eq_of_beq (by assumption)); apply gStep hkn hnn; simp_all [gPx, Px.ds]; done) | (obtain ⟨v0, v1, v2, v3, v4⟩ := gFirstV (mood := mood) (L := 0) (xs := xs) (most := most) (k := k) (by omega) (eq_of_beq (by assumption)); apply gStep hkn hnn; simp_all [gPx, Px.ds]; done) | (have P2 := P0 (by omega); apply gStep hkn hnn; simp_all [gPx, Px.ds]; done))
    · have : k = n.toNat := by omega
      subst this
      rw [pxs_length, gPixels_len]
      exact ⟨rfl, rfl, rfl⟩

end Go.Proofs.YtcaokljobfkajaaDoor

/-
  Names of operators and modes: by the package variables, and the reference's.
-/
namespace Go.Proofs.YtcaokljobfkajaaDoor
open Go.RowKit
set_option linter.unusedVariables false
set_option linter.unusedSimpArgs false
attribute [local irreducible] Ans AnsO AnsG AnsN AnsI

set_option maxRecDepth 10000
/-- an operator's name by the table -/
def opNameS (op : Int) : ByteArray := if 1 ≤ op ∧ op < 13 then sAt glob_rules (op.toNat * 4) else ⟨#[]⟩
def ruleS (op : Int) (i : Nat) : Int := if 1 ≤ op ∧ op < 13 then nAt glob_rules (op.toNat * 4 + i) else 0
def modeNameS (op : Int) : ByteArray := if 1 ≤ op ∧ op < 13 then sAt glob_names op.toNat else ⟨#[]⟩
theorem op_cases {op : Int} (h : 1 ≤ op ∧ op < 13) : op = 1 ∨ op = 2 ∨ op = 3 ∨ op = 4 ∨ op = 5 ∨ op = 6 ∨ op = 7 ∨ op = 8 ∨ op = 9 ∨ op = 10 ∨ op = 11 ∨ op = 12 := by omega
theorem opName_empty (op : Int) : ((opNameS op).toList == (⟨#[]⟩ : ByteArray).toList) = !decide (1 ≤ op ∧ op < 13) := by
  by_cases h : 1 ≤ op ∧ op < 13
  · rcases op_cases h with rfl | rfl | rfl | rfl | rfl | rfl | rfl | rfl | rfl | rfl | rfl | rfl <;> decide +kernel
  · simp [opNameS, h]
theorem modeName_empty (op : Int) : ((modeNameS op).toList == (⟨#[]⟩ : ByteArray).toList) = !decide (1 ≤ op ∧ op < 13) := by
  by_cases h : 1 ≤ op ∧ op < 13
  · rcases op_cases h with rfl | rfl | rfl | rfl | rfl | rfl | rfl | rfl | rfl | rfl | rfl | rfl <;> decide +kernel
  · simp [modeNameS, h]

def gamVa : Gam where
 pure := fun f xs =>
  if f = 68 then (match xs with | [.d (.int _ op)] => some (RV.tup [RV.agg [DV.str (opNameS op), DV.int .i64 (ruleS op 1), DV.int .i64 (ruleS op 2), DV.int .i64 (ruleS op 3)], RV.d (DV.bool (decide (1 ≤ op ∧ op < 13)))]) | _ => none) else
  if f = 65 then (match xs with | [.d (.int _ op)] => some (RV.d (DV.str (opNameS op))) | _ => none) else
  if f = 77 then (match xs with | [.d (.int _ op)] => some (RV.d (DV.bool (decide (1 ≤ op ∧ op < 13)))) | _ => none) else
  if f = 66 then (match xs with | [.d (.int _ op)] => some (RV.d (DV.str (modeNameS op))) | _ => none) else
  if f = 78 then (match xs with | [.d (.int _ op)] => some (RV.d (DV.str (opNameS op))) | _ => none) else
  if f = 79 then (match xs with | [.d (.int _ op)] => some (RV.d (DV.str (modeNameS op))) | _ => none) else
  if f = 74 then (match xs with | [.d (.int _ op)] => some (RV.d (DV.bool (decide (1 ≤ op ∧ op < 13)))) | _ => none) else
  if f = 75 then (match xs with | [.d (.int _ op)] => some (RV.d (DV.bool (decide (1 ≤ op ∧ op < 13)))) | _ => none) else
  none
 modes := fun f =>
  none
 proc := fun f xs bs =>
  none
 iter := fun f cs =>
  none

def operator_find_ann (op : Int) : Ann := Ann.leaf
theorem operator_find_vc (op : Int) : vcg Tryd.prog gamVa 14 (bodyOf Tryd.f68) (operator_find_ann op) kn0 (start [RV.d (DV.int .i64 op)]) (post Tryd.prog Tryd.f68.results.toList (· = RV.tup [RV.agg [DV.str (opNameS op), DV.int .i64 (ruleS op 1), DV.int .i64 (ruleS op 2), DV.int .i64 (ruleS op 3)], RV.d (DV.bool (decide (1 ≤ op ∧ op < 13)))])) =
  (let zz0 := [RV.agg [DV.str (⟨#[]⟩ : ByteArray), DV.int .i64 0, DV.int .i64 0, DV.int .i64 0], RV.d (DV.bool false)]; let zz1 := [RV.agg [DV.str (opNameS op), DV.int .i64 (ruleS op 1), DV.int .i64 (ruleS op 2), DV.int .i64 (ruleS op 3)], RV.d (DV.bool (decide (1 ≤ op ∧ op < 13)))]; True ∧ True ∧ True ∧ True ∧ True ∧ (((decide (op < (1 : Int))) = false → True ∧ True ∧ True ∧ (((decide (op ≥ (13 : Int))) = true → True ∧ True ∧ True ∧ RV.tup zz0 = RV.tup zz1) ∧ ((decide (op ≥ (13 : Int))) = false → True ∧ (0 ≤ op ∧ op < ((13 : Nat) : Int)) ∧ ((glob_rules[0 + op.toNat * 4]? = some (DV.str (sAt glob_rules (0 + op.toNat * 4)))) ∧ (glob_rules[0 + op.toNat * 4 + 1]? = some (DV.int .i64 (nAt glob_rules (0 + op.toNat * 4 + 1)))) ∧ (glob_rules[0 + op.toNat * 4 + 1 + 1]? = some (DV.int .i64 (nAt glob_rules (0 + op.toNat * 4 + 1 + 1)))) ∧ (glob_rules[0 + op.toNat * 4 + 1 + 1 + 1]? = some (DV.int .i64 (nAt glob_rules (0 + op.toNat * 4 + 1 + 1 + 1)))) ∧ True) ∧ True ∧ True ∧ RV.tup [RV.agg [DV.str (sAt glob_rules (0 + op.toNat * 4)), DV.int .i64 (nAt glob_rules (0 + op.toNat * 4 + 1)), DV.int .i64 (nAt glob_rules (0 + op.toNat * 4 + 1 + 1)), DV.int .i64 (nAt glob_rules (0 + op.toNat * 4 + 1 + 1 + 1))], RV.d (DV.bool true)] = RV.tup zz1))) ∧ ((decide (op < (1 : Int))) = (!false) → True ∧ True ∧ True ∧ True ∧ RV.tup zz0 = RV.tup zz1))) := by kernel_rfl
theorem operator_find_ans (op : Int) : Ans Tryd.prog 68 [RV.d (DV.int .i64 op)] (RV.tup [RV.agg [DV.str (opNameS op), DV.int .i64 (ruleS op 1), DV.int .i64 (ruleS op 2), DV.int .i64 (ruleS op 3)], RV.d (DV.bool (decide (1 ≤ op ∧ op < 13)))]) :=
  ans_of_vcg (Γ := gamVa) (operator_find_ann op) mixed_ Tryd.func68 rfl (Nat.le_of_ble_eq_true rfl) fun hwf => by
    refine Eq.mpr (operator_find_vc op) ?_
    simp only [true_and, and_true, RV.d.injEq, RV.agg.injEq, RV.tup.injEq, DV.bool.injEq, DV.int.injEq, DV.sl.injEq, List.cons.injEq, forall_const, Bool.not_false, Bool.not_true, Bool.not_eq_true', Bool.not_eq_false', decide_eq_true_eq, decide_eq_false_iff_not, Int.toNat_natCast]
    refine ⟨fun h1 => ⟨fun h2 => ?_, fun h2 => ⟨⟨by omega, by omega⟩, ?_⟩⟩, fun h1 => ?_⟩
    · have h : ¬ (1 ≤ op ∧ op < 13) := by omega
      simp [opNameS, ruleS, h]
    · have h : 1 ≤ op ∧ op < 13 := by omega
      clear h1 h2
      rcases op_cases h with rfl | rfl | rfl | rfl | rfl | rfl | rfl | rfl | rfl | rfl | rfl | rfl <;> exact ⟨⟨rfl, rfl, rfl, rfl⟩, ⟨rfl, rfl, rfl, rfl⟩, rfl⟩
    · have h : ¬ (1 ≤ op ∧ op < 13) := by omega
      simp [opNameS, ruleS, h]

def operator_Name_ann (op : Int) : Ann := Ann.leaf
theorem operator_Name_vc (op : Int) : vcg Tryd.prog gamVa 12 (bodyOf Tryd.f65) (operator_Name_ann op) kn0 (start [RV.d (DV.int .i64 op)]) (post Tryd.prog Tryd.f65.results.toList (· = RV.d (DV.str (opNameS op)))) =
  (True ∧ True ∧ (Ans Tryd.prog 68 [RV.d (DV.int .i64 op)] (RV.tup [RV.agg [DV.str (opNameS op), DV.int .i64 (ruleS op 1), DV.int .i64 (ruleS op 2), DV.int .i64 (ruleS op 3)], RV.d (DV.bool (decide (1 ≤ op ∧ op < 13)))])) ∧ True ∧ True ∧ True ∧ True ∧ True ∧ True ∧ True ∧ True ∧ True ∧ RV.d (DV.str (opNameS op)) = RV.d (DV.str (opNameS op))) := by kernel_rfl
theorem operator_Name_ans (op : Int) : Ans Tryd.prog 65 [RV.d (DV.int .i64 op)] (RV.d (DV.str (opNameS op))) :=
  ans_of_vcg (Γ := gamVa) (operator_Name_ann op) mixed_ Tryd.func65 rfl (Nat.le_of_ble_eq_true rfl) fun hwf => by
    refine Eq.mpr (operator_Name_vc op) ?_
    simp only [true_and, and_true, RV.d.injEq, RV.agg.injEq, RV.tup.injEq, DV.bool.injEq, DV.int.injEq, DV.sl.injEq, List.cons.injEq, forall_const, Bool.not_false, Bool.not_true, Bool.not_eq_true', Bool.not_eq_false', decide_eq_true_eq, decide_eq_false_iff_not, Int.toNat_natCast, operator_find_ans]
    

def blend_valid_ann (op : Int) : Ann := Ann.leaf
theorem blend_valid_vc (op : Int) : vcg Tryd.prog gamVa 9 (bodyOf Tryd.f77) (blend_valid_ann op) kn0 (start [RV.d (DV.int .i64 op)]) (post Tryd.prog Tryd.f77.results.toList (· = RV.d (DV.bool (decide (1 ≤ op ∧ op < 13))))) =
  (let zz0 := (DV.bool (decide (1 ≤ op ∧ op < 13))); True ∧ True ∧ True ∧ True ∧ (((decide (op ≥ (1 : Int))) = true → True ∧ True ∧ True ∧ True ∧ RV.d (DV.bool (decide (op ≤ (12 : Int)))) = RV.d zz0) ∧ ((decide (op ≥ (1 : Int))) = (!true) → True ∧ True ∧ RV.d (DV.bool false) = RV.d zz0))) := by kernel_rfl
theorem blend_valid_ans (op : Int) : Ans Tryd.prog 77 [RV.d (DV.int .i64 op)] (RV.d (DV.bool (decide (1 ≤ op ∧ op < 13)))) :=
  ans_of_vcg (Γ := gamVa) (blend_valid_ann op) mixed_ Tryd.func77 rfl (Nat.le_of_ble_eq_true rfl) fun hwf => by
    refine Eq.mpr (blend_valid_vc op) ?_
    simp only [true_and, and_true, RV.d.injEq, RV.agg.injEq, RV.tup.injEq, DV.bool.injEq, DV.int.injEq, DV.sl.injEq, List.cons.injEq, forall_const, Bool.not_false, Bool.not_true, Bool.not_eq_true', Bool.not_eq_false', decide_eq_true_eq, decide_eq_false_iff_not, Int.toNat_natCast, operator_find_ans, operator_Name_ans]
    by_cases h : op ≥ 1 <;> simp [h] <;> omega

def blend_Name_ann (op : Int) : Ann := Ann.leaf
theorem blend_Name_vc (op : Int) : vcg Tryd.prog gamVa 9 (bodyOf Tryd.f66) (blend_Name_ann op) kn0 (start [RV.d (DV.int .i64 op)]) (post Tryd.prog Tryd.f66.results.toList (· = RV.d (DV.str (modeNameS op)))) =
  (let zz0 := (DV.str (sAt glob_names (0 + op.toNat * 1))); True ∧ True ∧ (Ans Tryd.prog 77 [RV.d (DV.int .i64 op)] (RV.d (DV.bool (decide (1 ≤ op ∧ op < 13))))) ∧ True ∧ (((!(decide (1 ≤ op ∧ op < 13))) = true → True ∧ RV.d (DV.str (⟨#[]⟩ : ByteArray)) = RV.d (DV.str (modeNameS op))) ∧ ((!(decide (1 ≤ op ∧ op < 13))) = false → True ∧ (0 ≤ op ∧ op < ((13 : Nat) : Int)) ∧ ((glob_names[0 + op.toNat * 1]? = some zz0) ∧ True) ∧ True ∧ RV.d zz0 = RV.d (DV.str (modeNameS op))))) := by kernel_rfl
theorem blend_Name_ans (op : Int) : Ans Tryd.prog 66 [RV.d (DV.int .i64 op)] (RV.d (DV.str (modeNameS op))) :=
  ans_of_vcg (Γ := gamVa) (blend_Name_ann op) mixed_ Tryd.func66 rfl (Nat.le_of_ble_eq_true rfl) fun hwf => by
    refine Eq.mpr (blend_Name_vc op) ?_
    simp only [true_and, and_true, RV.d.injEq, RV.agg.injEq, RV.tup.injEq, DV.bool.injEq, DV.int.injEq, DV.sl.injEq, List.cons.injEq, forall_const, Bool.not_false, Bool.not_true, Bool.not_eq_true', Bool.not_eq_false', decide_eq_true_eq, decide_eq_false_iff_not, Int.toNat_natCast, operator_find_ans, operator_Name_ans, blend_valid_ans]
    refine ⟨fun h => by simp [modeNameS, h], fun h => ⟨⟨by omega, by omega⟩, ?_⟩⟩
    rcases op_cases h with rfl | rfl | rfl | rfl | rfl | rfl | rfl | rfl | rfl | rfl | rfl | rfl <;> exact ⟨rfl, rfl⟩

def R06_OpName_ann (op : Int) : Ann := Ann.leaf
theorem R06_OpName_vc (op : Int) : vcg Tryd.prog gamVa 17 (bodyOf Tryd.f78) (R06_OpName_ann op) kn0 (start [RV.d (DV.int .i64 op)]) (post Tryd.prog Tryd.f78.results.toList (· = RV.d (DV.str (opNameS op)))) =
  (let zz0 := (DV.str (⟨#[]⟩ : ByteArray)); let zz1 := (DV.str (sAt ([DV.str (⟨#[]⟩ : ByteArray), DV.str (⟨#[99, 108, 101, 97, 114]⟩ : ByteArray), DV.str (⟨#[115, 114, 99]⟩ : ByteArray), DV.str (⟨#[100, 115, 116]⟩ : ByteArray), DV.str (⟨#[115, 114, 99, 45, 111, 118, 101, 114]⟩ : ByteArray), DV.str (⟨#[100, 115, 116, 45, 111, 118, 101, 114]⟩ : ByteArray), DV.str (⟨#[115, 114, 99, 45, 105, 110]⟩ : ByteArray), DV.str (⟨#[100, 115, 116, 45, 105, 110]⟩ : ByteArray), DV.str (⟨#[115, 114, 99, 45, 111, 117, 116]⟩ : ByteArray), DV.str (⟨#[100, 115, 116, 45, 111, 117, 116]⟩ : ByteArray), DV.str (⟨#[115, 114, 99, 45, 97, 116, 111, 112]⟩ : ByteArray), DV.str (⟨#[100, 115, 116, 45, 97, 116, 111, 112]⟩ : ByteArray), DV.str (⟨#[120, 111, 114]⟩ : ByteArray)]) (op.toNat * 1))); True ∧ True ∧ True ∧ True ∧ True ∧ True ∧ (((decide (op < (1 : Int))) = false → True ∧ True ∧ (13 ≤ maxLen) ∧ True ∧ True ∧ (((decide (op ≥ ((13 : Nat) : Int))) = true → True ∧ RV.d zz0 = RV.d (DV.str (opNameS op))) ∧ ((decide (op ≥ ((13 : Nat) : Int))) = false → True ∧ True ∧ (0 ≤ op ∧ op < ((13 : Nat) : Int)) ∧ ((([DV.str (⟨#[]⟩ : ByteArray), DV.str (⟨#[99, 108, 101, 97, 114]⟩ : ByteArray), DV.str (⟨#[115, 114, 99]⟩ : ByteArray), DV.str (⟨#[100, 115, 116]⟩ : ByteArray), DV.str (⟨#[115, 114, 99, 45, 111, 118, 101, 114]⟩ : ByteArray), DV.str (⟨#[100, 115, 116, 45, 111, 118, 101, 114]⟩ : ByteArray), DV.str (⟨#[115, 114, 99, 45, 105, 110]⟩ : ByteArray), DV.str (⟨#[100, 115, 116, 45, 105, 110]⟩ : ByteArray), DV.str (⟨#[115, 114, 99, 45, 111, 117, 116]⟩ : ByteArray), DV.str (⟨#[100, 115, 116, 45, 111, 117, 116]⟩ : ByteArray), DV.str (⟨#[115, 114, 99, 45, 97, 116, 111, 112]⟩ : ByteArray), DV.str (⟨#[100, 115, 116, 45, 97, 116, 111, 112]⟩ : ByteArray), DV.str (⟨#[120, 111, 114]⟩ : ByteArray)])[op.toNat * 1]? = some zz1) ∧ True) ∧ True ∧ RV.d zz1 = RV.d (DV.str (opNameS op))))) ∧ ((decide (op < (1 : Int))) = (!false) → True ∧ True ∧ RV.d zz0 = RV.d (DV.str (opNameS op))))) := by kernel_rfl
theorem R06_OpName_ans (op : Int) : Ans Tryd.prog 78 [RV.d (DV.int .i64 op)] (RV.d (DV.str (opNameS op))) :=
  ans_of_vcg (Γ := gamVa) (R06_OpName_ann op) mixed_ Tryd.func78 rfl (Nat.le_of_ble_eq_true rfl) fun hwf => by
    refine Eq.mpr (R06_OpName_vc op) ?_
    simp only [true_and, and_true, RV.d.injEq, RV.agg.injEq, RV.tup.injEq, DV.bool.injEq, DV.int.injEq, DV.sl.injEq, List.cons.injEq, forall_const, Bool.not_false, Bool.not_true, Bool.not_eq_true', Bool.not_eq_false', decide_eq_true_eq, decide_eq_false_iff_not, Int.toNat_natCast, operator_find_ans, operator_Name_ans, blend_valid_ans, blend_Name_ans]
    refine ⟨fun h1 => ⟨by decide, fun h2 => ?_, fun h2 => ⟨⟨by omega, by omega⟩, ?_⟩⟩, fun h1 => ?_⟩
    · have h : ¬ (1 ≤ op ∧ op < 13) := by omega
      simp [opNameS, h]
    · have h : 1 ≤ op ∧ op < 13 := by omega
      clear h1 h2
      rcases op_cases h with rfl | rfl | rfl | rfl | rfl | rfl | rfl | rfl | rfl | rfl | rfl | rfl <;> exact ⟨rfl, rfl⟩
    · have h : ¬ (1 ≤ op ∧ op < 13) := by omega
      simp [opNameS, h]

def R06_ModeName_ann (op : Int) : Ann := Ann.leaf
theorem R06_ModeName_vc (op : Int) : vcg Tryd.prog gamVa 17 (bodyOf Tryd.f79) (R06_ModeName_ann op) kn0 (start [RV.d (DV.int .i64 op)]) (post Tryd.prog Tryd.f79.results.toList (· = RV.d (DV.str (modeNameS op)))) =
  (let zz0 := (DV.str (⟨#[]⟩ : ByteArray)); let zz1 := (DV.str (sAt ([DV.str (⟨#[]⟩ : ByteArray), DV.str (⟨#[110, 111, 114, 109, 97, 108]⟩ : ByteArray), DV.str (⟨#[109, 117, 108, 116, 105, 112, 108, 121]⟩ : ByteArray), DV.str (⟨#[115, 99, 114, 101, 101, 110]⟩ : ByteArray), DV.str (⟨#[111, 118, 101, 114, 108, 97, 121]⟩ : ByteArray), DV.str (⟨#[100, 97, 114, 107, 101, 110]⟩ : ByteArray), DV.str (⟨#[108, 105, 103, 104, 116, 101, 110]⟩ : ByteArray), DV.str (⟨#[99, 111, 108, 111, 114, 45, 100, 111, 100, 103, 101]⟩ : ByteArray), DV.str (⟨#[99, 111, 108, 111, 114, 45, 98, 117, 114, 110]⟩ : ByteArray), DV.str (⟨#[104, 97, 114, 100, 45, 108, 105, 103, 104, 116]⟩ : ByteArray), DV.str (⟨#[115, 111, 102, 116, 45, 108, 105, 103, 104, 116]⟩ : ByteArray), DV.str (⟨#[100, 105, 102, 102, 101, 114, 101, 110, 99, 101]⟩ : ByteArray), DV.str (⟨#[101, 120, 99, 108, 117, 115, 105, 111, 110]⟩ : ByteArray)]) (op.toNat * 1))); True ∧ True ∧ True ∧ True ∧ True ∧ True ∧ (((decide (op < (1 : Int))) = false → True ∧ True ∧ (13 ≤ maxLen) ∧ True ∧ True ∧ (((decide (op ≥ ((13 : Nat) : Int))) = true → True ∧ RV.d zz0 = RV.d (DV.str (modeNameS op))) ∧ ((decide (op ≥ ((13 : Nat) : Int))) = false → True ∧ True ∧ (0 ≤ op ∧ op < ((13 : Nat) : Int)) ∧ ((([DV.str (⟨#[]⟩ : ByteArray), DV.str (⟨#[110, 111, 114, 109, 97, 108]⟩ : ByteArray), DV.str (⟨#[109, 117, 108, 116, 105, 112, 108, 121]⟩ : ByteArray), DV.str (⟨#[115, 99, 114, 101, 101, 110]⟩ : ByteArray), DV.str (⟨#[111, 118, 101, 114, 108, 97, 121]⟩ : ByteArray), DV.str (⟨#[100, 97, 114, 107, 101, 110]⟩ : ByteArray), DV.str (⟨#[108, 105, 103, 104, 116, 101, 110]⟩ : ByteArray), DV.str (⟨#[99, 111, 108, 111, 114, 45, 100, 111, 100, 103, 101]⟩ : ByteArray), DV.str (⟨#[99, 111, 108, 111, 114, 45, 98, 117, 114, 110]⟩ : ByteArray), DV.str (⟨#[104, 97, 114, 100, 45, 108, 105, 103, 104, 116]⟩ : ByteArray), DV.str (⟨#[115, 111, 102, 116, 45, 108, 105, 103, 104, 116]⟩ : ByteArray), DV.str (⟨#[100, 105, 102, 102, 101, 114, 101, 110, 99, 101]⟩ : ByteArray), DV.str (⟨#[101, 120, 99, 108, 117, 115, 105, 111, 110]⟩ : ByteArray)])[op.toNat * 1]? = some zz1) ∧ True) ∧ True ∧ RV.d zz1 = RV.d (DV.str (modeNameS op))))) ∧ ((decide (op < (1 : Int))) = (!false) → True ∧ True ∧ RV.d zz0 = RV.d (DV.str (modeNameS op))))) := by kernel_rfl
theorem R06_ModeName_ans (op : Int) : Ans Tryd.prog 79 [RV.d (DV.int .i64 op)] (RV.d (DV.str (modeNameS op))) :=
  ans_of_vcg (Γ := gamVa) (R06_ModeName_ann op) mixed_ Tryd.func79 rfl (Nat.le_of_ble_eq_true rfl) fun hwf => by
    refine Eq.mpr (R06_ModeName_vc op) ?_
    simp only [true_and, and_true, RV.d.injEq, RV.agg.injEq, RV.tup.injEq, DV.bool.injEq, DV.int.injEq, DV.sl.injEq, List.cons.injEq, forall_const, Bool.not_false, Bool.not_true, Bool.not_eq_true', Bool.not_eq_false', decide_eq_true_eq, decide_eq_false_iff_not, Int.toNat_natCast, operator_find_ans, operator_Name_ans, blend_valid_ans, blend_Name_ans, R06_OpName_ans]
    refine ⟨fun h1 => ⟨by decide, fun h2 => ?_, fun h2 => ⟨⟨by omega, by omega⟩, ?_⟩⟩, fun h1 => ?_⟩
    · have h : ¬ (1 ≤ op ∧ op < 13) := by omega
      simp [modeNameS, h]
    · have h : 1 ≤ op ∧ op < 13 := by omega
      clear h1 h2
      rcases op_cases h with rfl | rfl | rfl | rfl | rfl | rfl | rfl | rfl | rfl | rfl | rfl | rfl <;> exact ⟨rfl, rfl⟩
    · have h : ¬ (1 ≤ op ∧ op < 13) := by omega
      simp [modeNameS, h]

def R06_IsOp_ann (op : Int) : Ann := Ann.leaf
theorem R06_IsOp_vc (op : Int) : vcg Tryd.prog gamVa 6 (bodyOf Tryd.f74) (R06_IsOp_ann op) kn0 (start [RV.d (DV.int .i64 op)]) (post Tryd.prog Tryd.f74.results.toList (· = RV.d (DV.bool (decide (1 ≤ op ∧ op < 13))))) =
  (True ∧ True ∧ (Ans Tryd.prog 78 [RV.d (DV.int .i64 op)] (RV.d (DV.str (opNameS op)))) ∧ True ∧ True ∧ RV.d (DV.bool (!((opNameS op).toList == (⟨#[]⟩ : ByteArray).toList))) = RV.d (DV.bool (decide (1 ≤ op ∧ op < 13)))) := by kernel_rfl
theorem R06_IsOp_ans (op : Int) : Ans Tryd.prog 74 [RV.d (DV.int .i64 op)] (RV.d (DV.bool (decide (1 ≤ op ∧ op < 13)))) :=
  ans_of_vcg (Γ := gamVa) (R06_IsOp_ann op) mixed_ Tryd.func74 rfl (Nat.le_of_ble_eq_true rfl) fun hwf => by
    refine Eq.mpr (R06_IsOp_vc op) ?_
    simp only [true_and, and_true, RV.d.injEq, RV.agg.injEq, RV.tup.injEq, DV.bool.injEq, DV.int.injEq, DV.sl.injEq, List.cons.injEq, forall_const, Bool.not_false, Bool.not_true, Bool.not_eq_true', Bool.not_eq_false', decide_eq_true_eq, decide_eq_false_iff_not, Int.toNat_natCast, operator_find_ans, operator_Name_ans, blend_valid_ans, blend_Name_ans, R06_OpName_ans, R06_ModeName_ans]
    rw [opName_empty]; simp

def R06_IsMode_ann (op : Int) : Ann := Ann.leaf
theorem R06_IsMode_vc (op : Int) : vcg Tryd.prog gamVa 6 (bodyOf Tryd.f75) (R06_IsMode_ann op) kn0 (start [RV.d (DV.int .i64 op)]) (post Tryd.prog Tryd.f75.results.toList (· = RV.d (DV.bool (decide (1 ≤ op ∧ op < 13))))) =
  (True ∧ True ∧ (Ans Tryd.prog 79 [RV.d (DV.int .i64 op)] (RV.d (DV.str (modeNameS op)))) ∧ True ∧ True ∧ RV.d (DV.bool (!((modeNameS op).toList == (⟨#[]⟩ : ByteArray).toList))) = RV.d (DV.bool (decide (1 ≤ op ∧ op < 13)))) := by kernel_rfl
theorem R06_IsMode_ans (op : Int) : Ans Tryd.prog 75 [RV.d (DV.int .i64 op)] (RV.d (DV.bool (decide (1 ≤ op ∧ op < 13)))) :=
  ans_of_vcg (Γ := gamVa) (R06_IsMode_ann op) mixed_ Tryd.func75 rfl (Nat.le_of_ble_eq_true rfl) fun hwf => by
    refine Eq.mpr (R06_IsMode_vc op) ?_
    simp only [true_and, and_true, RV.d.injEq, RV.agg.injEq, RV.tup.injEq, DV.bool.injEq, DV.int.injEq, DV.sl.injEq, List.cons.injEq, forall_const, Bool.not_false, Bool.not_true, Bool.not_eq_true', Bool.not_eq_false', decide_eq_true_eq, decide_eq_false_iff_not, Int.toNat_natCast, operator_find_ans, operator_Name_ans, blend_valid_ans, blend_Name_ans, R06_OpName_ans, R06_ModeName_ans, R06_IsOp_ans]
    rw [modeName_empty]; simp

end Go.Proofs.YtcaokljobfkajaaDoor

/-
  Offsets, unused fields, the innermost group.
-/
namespace Go.Proofs.YtcaokljobfkajaaDoor
open Go.RowKit
set_option linter.unusedVariables false
set_option linter.unusedSimpArgs false
attribute [local irreducible] Ans AnsO AnsG AnsN AnsI

def gamVb : Gam where
 pure := fun f xs =>
  if f = 68 then (match xs with | [.d (.int _ op)] => some (RV.tup [RV.agg [DV.str (opNameS op), DV.int .i64 (ruleS op 1), DV.int .i64 (ruleS op 2), DV.int .i64 (ruleS op 3)], RV.d (DV.bool (decide (1 ≤ op ∧ op < 13)))]) | _ => none) else
  if f = 65 then (match xs with | [.d (.int _ op)] => some (RV.d (DV.str (opNameS op))) | _ => none) else
  if f = 77 then (match xs with | [.d (.int _ op)] => some (RV.d (DV.bool (decide (1 ≤ op ∧ op < 13)))) | _ => none) else
  if f = 66 then (match xs with | [.d (.int _ op)] => some (RV.d (DV.str (modeNameS op))) | _ => none) else
  if f = 78 then (match xs with | [.d (.int _ op)] => some (RV.d (DV.str (opNameS op))) | _ => none) else
  if f = 79 then (match xs with | [.d (.int _ op)] => some (RV.d (DV.str (modeNameS op))) | _ => none) else
  if f = 74 then (match xs with | [.d (.int _ op)] => some (RV.d (DV.bool (decide (1 ≤ op ∧ op < 13)))) | _ => none) else
  if f = 75 then (match xs with | [.d (.int _ op)] => some (RV.d (DV.bool (decide (1 ≤ op ∧ op < 13)))) | _ => none) else
  if f = 61 then (match xs with | [.d (.sl n xs)] => some (RV.d (DV.bool ((ints xs).all nearB))) | _ => none) else
  if f = 71 then (match xs with | [.d (.int _ v)] => some (RV.d (DV.bool (!nearB v))) | _ => none) else
  if f = 64 then (match xs with | [.agg [.int _ okind, .int _ oimage, .int _ ox, .int _ oy, .int _ omask, .int _ omx, .int _ omy, .int _ oopac, .int _ ooper, .int _ omode, .bool oiso, .bool okno]] => some (RV.d (DV.bool (Oq.fields ⟨okind, oimage, ox, oy, omask, omx, omy, oopac, ooper, omode, oiso, okno⟩))) | _ => none) else
  if f = 73 then (match xs with | [.agg [.int _ okind, .int _ oimage, .int _ ox, .int _ oy, .int _ omask, .int _ omx, .int _ omy, .int _ oopac, .int _ ooper, .int _ omode, .bool oiso, .bool okno]] => some (RV.d (DV.bool (Oq.spare ⟨okind, oimage, ox, oy, omask, omx, omy, oopac, ooper, omode, oiso, okno⟩))) | _ => none) else
  if f = 67 then (match xs with | [.d (.sl n xs)] => some (RV.d (DV.bool (ctxB (toOps xs)))) | _ => none) else
  none
 modes := fun f =>
  none
 proc := fun f xs bs =>
  none
 iter := fun f cs =>
  none

def R18_far_ann (v : Int) : Ann := Ann.leaf
theorem R18_far_vc (v : Int) : vcg Tryd.prog gamVb 9 (bodyOf Tryd.f71) (R18_far_ann v) kn0 (start [RV.d (DV.int .i64 v)]) (post Tryd.prog Tryd.f71.results.toList (· = RV.d (DV.bool (!nearB v)))) =
  (True ∧ True ∧ True ∧ True ∧ (((decide (v < (-1048576 : Int))) = false → True ∧ True ∧ True ∧ True ∧ RV.d (DV.bool (decide (v > (1048576 : Int)))) = RV.d (DV.bool (!nearB v))) ∧ ((decide (v < (-1048576 : Int))) = (!false) → True ∧ True ∧ RV.d (DV.bool true) = RV.d (DV.bool (!nearB v))))) := by kernel_rfl
theorem R18_far_ans (v : Int) : Ans Tryd.prog 71 [RV.d (DV.int .i64 v)] (RV.d (DV.bool (!nearB v))) :=
  ans_of_vcg (Γ := gamVb) (R18_far_ann v) mixed_ Tryd.func71 rfl (Nat.le_of_ble_eq_true rfl) fun hwf => by
    refine Eq.mpr (R18_far_vc v) ?_
    simp only [true_and, and_true, RV.d.injEq, RV.agg.injEq, RV.tup.injEq, DV.bool.injEq, DV.int.injEq, DV.sl.injEq, List.cons.injEq, forall_const, Bool.not_false, Bool.not_true, Bool.not_eq_true', Bool.not_eq_false', decide_eq_true_eq, decide_eq_false_iff_not, Int.toNat_natCast, operator_find_ans, operator_Name_ans, blend_valid_ans, blend_Name_ans, R06_OpName_ans, R06_ModeName_ans, R06_IsOp_ans, R06_IsMode_ans]
    simp only [nearB, ← decide_not]; by_cases h : v < -1048576 <;> simp [h] <;> omega

def validate_fields_ann (o : Oq) : Ann := Ann.leaf
theorem validate_fields_vc (o : Oq) : vcg Tryd.prog gamVb 54 (bodyOf Tryd.f64) (validate_fields_ann o) kn0 (start [RV.agg [DV.int .i64 o.kind, DV.int .i64 o.image, DV.int .i64 o.x, DV.int .i64 o.y, DV.int .i64 o.mask, DV.int .i64 o.mx, DV.int .i64 o.my, DV.int .u16 o.opac, DV.int .i64 o.oper, DV.int .i64 o.mode, DV.bool o.iso, DV.bool o.kno]]) (post Tryd.prog Tryd.f64.results.toList (· = RV.d (DV.bool (Oq.fields ⟨o.kind, o.image, o.x, o.y, o.mask, o.mx, o.my, o.opac, o.oper, o.mode, o.iso, o.kno⟩)))) =
  (let zz0 := (DV.bool (Oq.fields ⟨o.kind, o.image, o.x, o.y, o.mask, o.mx, o.my, o.opac, o.oper, o.mode, o.iso, o.kno⟩)); let zz1 := (((o.mask != (0 : Int)) = false → True ∧ True ∧ True ∧ True ∧ (((o.mx == (0 : Int)) = true → True ∧ True ∧ True ∧ True ∧ True ∧ True ∧ RV.d (DV.bool (o.my == (0 : Int))) = RV.d zz0) ∧ ((o.mx == (0 : Int)) = (!true) → True ∧ True ∧ True ∧ RV.d (DV.bool false) = RV.d zz0))) ∧ ((o.mask != (0 : Int)) = (!false) → True ∧ True ∧ RV.d (DV.bool true) = RV.d zz0)); let zz2 := (((o.kind == (2 : Int)) = true → True ∧ True ∧ True ∧ True ∧ (((o.image != (0 : Int)) = false → True ∧ True ∧ True ∧ True ∧ True ∧ (((o.x != (0 : Int)) = false → True ∧ True ∧ True ∧ True ∧ True ∧ True ∧ (((o.y != (0 : Int)) = true → True ∧ RV.d (DV.bool false) = RV.d zz0) ∧ ((o.y != (0 : Int)) = false → True ∧ True ∧ True ∧ True ∧ zz1))) ∧ ((o.x != (0 : Int)) = (!false) → True ∧ True ∧ True ∧ True ∧ RV.d (DV.bool false) = RV.d zz0))) ∧ ((o.image != (0 : Int)) = (!false) → True ∧ True ∧ True ∧ True ∧ True ∧ True ∧ RV.d (DV.bool false) = RV.d zz0))) ∧ ((o.kind == (2 : Int)) = (!true) → True ∧ True ∧ True ∧ True ∧ True ∧ True ∧ zz1)); True ∧ True ∧ True ∧ True ∧ True ∧ True ∧ (((o.kind == (3 : Int)) = true → True ∧ True ∧ True ∧ True ∧ RV.d (DV.bool ((o.kind == (3 : Int)) && ((o.image == (0 : Int)) && ((o.x == (0 : Int)) && ((o.y == (0 : Int)) && ((o.mask == (0 : Int)) && ((o.mx == (0 : Int)) && ((o.my == (0 : Int)) && ((o.opac == (0 : Int)) && ((o.oper == (0 : Int)) && ((o.mode == (0 : Int)) && ((o.iso == false) && ((o.kno == false) && true))))))))))))) = RV.d zz0) ∧ ((o.kind == (3 : Int)) = false → True ∧ True ∧ True ∧ True ∧ (((o.kind == (1 : Int)) = true → True ∧ True ∧ True ∧ ((o.iso = false → True ∧ True ∧ True ∧ True ∧ True ∧ ((o.kno = true → True ∧ RV.d (DV.bool false) = RV.d zz0) ∧ (o.kno = false → True ∧ True ∧ True ∧ True ∧ zz2))) ∧ (o.iso = (!false) → True ∧ True ∧ True ∧ True ∧ RV.d (DV.bool false) = RV.d zz0))) ∧ ((o.kind == (1 : Int)) = (!true) → True ∧ True ∧ True ∧ True ∧ True ∧ True ∧ zz2))))) := by kernel_rfl
theorem validate_fields_ans (o : Oq) : Ans Tryd.prog 64 [RV.agg [DV.int .i64 o.kind, DV.int .i64 o.image, DV.int .i64 o.x, DV.int .i64 o.y, DV.int .i64 o.mask, DV.int .i64 o.mx, DV.int .i64 o.my, DV.int .u16 o.opac, DV.int .i64 o.oper, DV.int .i64 o.mode, DV.bool o.iso, DV.bool o.kno]] (RV.d (DV.bool (Oq.fields ⟨o.kind, o.image, o.x, o.y, o.mask, o.mx, o.my, o.opac, o.oper, o.mode, o.iso, o.kno⟩))) :=
  ans_of_vcg (Γ := gamVb) (validate_fields_ann o) mixed_ Tryd.func64 rfl (Nat.le_of_ble_eq_true rfl) fun hwf => by
    refine Eq.mpr (validate_fields_vc o) ?_
    simp only [true_and, and_true, RV.d.injEq, RV.agg.injEq, RV.tup.injEq, DV.bool.injEq, DV.int.injEq, DV.sl.injEq, List.cons.injEq, forall_const, Bool.not_false, Bool.not_true, Bool.not_eq_true', Bool.not_eq_false', decide_eq_true_eq, decide_eq_false_iff_not, Int.toNat_natCast, operator_find_ans, operator_Name_ans, blend_valid_ans, blend_Name_ans, R06_OpName_ans, R06_ModeName_ans, R06_IsOp_ans, R06_IsMode_ans, R18_far_ans]
    obtain ⟨okind, oimage, ox, oy, omask, omx, omy, oopac, ooper, omode, oiso, okno⟩ := o
    simp only [Oq.fields, popO, Oq.mk.injEq]
    have hb : ∀ a c : Int, (a == c) = decide (a = c) := fun _ _ => rfl
    have hn : ∀ a c : Int, (a != c) = !decide (a = c) := fun _ _ => rfl
    simp only [hb, hn]
    cases oiso <;> cases okno <;> by_cases h3 : okind = 3 <;> by_cases h1 : okind = 1 <;> by_cases h2 : okind = 2 <;> by_cases h0 : omask = 0 <;> simp [h3, h1, h2, h0, Bool.or_assoc] <;> first | omega | grind | skip

def R18_spare_ann (o : Oq) : Ann := Ann.leaf
theorem R18_spare_vc (o : Oq) : vcg Tryd.prog gamVb 30 (bodyOf Tryd.f73) (R18_spare_ann o) kn0 (start [RV.agg [DV.int .i64 o.kind, DV.int .i64 o.image, DV.int .i64 o.x, DV.int .i64 o.y, DV.int .i64 o.mask, DV.int .i64 o.mx, DV.int .i64 o.my, DV.int .u16 o.opac, DV.int .i64 o.oper, DV.int .i64 o.mode, DV.bool o.iso, DV.bool o.kno]]) (post Tryd.prog Tryd.f73.results.toList (· = RV.d (DV.bool (Oq.spare ⟨o.kind, o.image, o.x, o.y, o.mask, o.mx, o.my, o.opac, o.oper, o.mode, o.iso, o.kno⟩)))) =
  (let zz0 := (DV.bool (Oq.spare ⟨o.kind, o.image, o.x, o.y, o.mask, o.mx, o.my, o.opac, o.oper, o.mode, o.iso, o.kno⟩)); True ∧ True ∧ True ∧ True ∧ True ∧ True ∧ True ∧ True ∧ True ∧ True ∧ (((o.kind == (3 : Int)) = true → True ∧ True ∧ True ∧ True ∧ RV.d (DV.bool (!((o.kind == o.kind) && ((o.image == (0 : Int)) && ((o.x == (0 : Int)) && ((o.y == (0 : Int)) && ((o.mask == (0 : Int)) && ((o.mx == (0 : Int)) && ((o.my == (0 : Int)) && ((o.opac == (0 : Int)) && ((o.oper == (0 : Int)) && ((o.mode == (0 : Int)) && ((o.iso == false) && ((o.kno == false) && true)))))))))))))) = RV.d zz0) ∧ ((o.kind == (3 : Int)) = false → True ∧ True ∧ True ∧ True ∧ True ∧ (((o.kind == (1 : Int)) = true → True ∧ True ∧ True ∧ True ∧ True ∧ True ∧ True ∧ (((o.mask == (0 : Int)) = true → True ∧ True ∧ True ∧ True ∧ True ∧ True ∧ True ∧ True ∧ RV.d (DV.bool (!((o.kind == o.kind) && ((o.image == o.image) && ((o.x == o.x) && ((o.y == o.y) && ((o.mask == o.mask) && ((o.mx == (0 : Int)) && ((o.my == (0 : Int)) && ((o.opac == o.opac) && ((o.oper == o.oper) && ((o.mode == o.mode) && ((o.iso == false) && ((o.kno == false) && true)))))))))))))) = RV.d zz0) ∧ ((o.mask == (0 : Int)) = false → True ∧ True ∧ True ∧ True ∧ RV.d (DV.bool (!((o.kind == o.kind) && ((o.image == o.image) && ((o.x == o.x) && ((o.y == o.y) && ((o.mask == o.mask) && ((o.mx == o.mx) && ((o.my == o.my) && ((o.opac == o.opac) && ((o.oper == o.oper) && ((o.mode == o.mode) && ((o.iso == false) && ((o.kno == false) && true)))))))))))))) = RV.d zz0))) ∧ ((o.kind == (1 : Int)) = false → True ∧ True ∧ True ∧ True ∧ True ∧ True ∧ True ∧ True ∧ True ∧ (((o.mask == (0 : Int)) = true → True ∧ True ∧ True ∧ True ∧ True ∧ True ∧ True ∧ True ∧ RV.d (DV.bool (!((o.kind == o.kind) && ((o.image == (0 : Int)) && ((o.x == (0 : Int)) && ((o.y == (0 : Int)) && ((o.mask == o.mask) && ((o.mx == (0 : Int)) && ((o.my == (0 : Int)) && ((o.opac == o.opac) && ((o.oper == o.oper) && ((o.mode == o.mode) && ((o.iso == o.iso) && ((o.kno == o.kno) && true)))))))))))))) = RV.d zz0) ∧ ((o.mask == (0 : Int)) = false → True ∧ True ∧ True ∧ True ∧ RV.d (DV.bool (!((o.kind == o.kind) && ((o.image == (0 : Int)) && ((o.x == (0 : Int)) && ((o.y == (0 : Int)) && ((o.mask == o.mask) && ((o.mx == o.mx) && ((o.my == o.my) && ((o.opac == o.opac) && ((o.oper == o.oper) && ((o.mode == o.mode) && ((o.iso == o.iso) && ((o.kno == o.kno) && true)))))))))))))) = RV.d zz0))))))) := by kernel_rfl
theorem R18_spare_ans (o : Oq) : Ans Tryd.prog 73 [RV.agg [DV.int .i64 o.kind, DV.int .i64 o.image, DV.int .i64 o.x, DV.int .i64 o.y, DV.int .i64 o.mask, DV.int .i64 o.mx, DV.int .i64 o.my, DV.int .u16 o.opac, DV.int .i64 o.oper, DV.int .i64 o.mode, DV.bool o.iso, DV.bool o.kno]] (RV.d (DV.bool (Oq.spare ⟨o.kind, o.image, o.x, o.y, o.mask, o.mx, o.my, o.opac, o.oper, o.mode, o.iso, o.kno⟩))) :=
  ans_of_vcg (Γ := gamVb) (R18_spare_ann o) mixed_ Tryd.func73 rfl (Nat.le_of_ble_eq_true rfl) fun hwf => by
    refine Eq.mpr (R18_spare_vc o) ?_
    simp only [true_and, and_true, RV.d.injEq, RV.agg.injEq, RV.tup.injEq, DV.bool.injEq, DV.int.injEq, DV.sl.injEq, List.cons.injEq, forall_const, Bool.not_false, Bool.not_true, Bool.not_eq_true', Bool.not_eq_false', decide_eq_true_eq, decide_eq_false_iff_not, Int.toNat_natCast, operator_find_ans, operator_Name_ans, blend_valid_ans, blend_Name_ans, R06_OpName_ans, R06_ModeName_ans, R06_IsOp_ans, R06_IsMode_ans, R18_far_ans, validate_fields_ans]
    obtain ⟨okind, oimage, ox, oy, omask, omx, omy, oopac, ooper, omode, oiso, okno⟩ := o
    simp only [Oq.spare, popO, Oq.mk.injEq]
    have hb : ∀ a c : Int, (a == c) = decide (a = c) := fun _ _ => rfl
    have hn : ∀ a c : Int, (a != c) = !decide (a = c) := fun _ _ => rfl
    simp only [hb, hn]
    cases oiso <;> cases okno <;> by_cases h3 : okind = 3 <;> by_cases h1 : okind = 1 <;> by_cases h2 : okind = 2 <;> by_cases h0 : omask = 0 <;> simp [h3, h1, h2, h0, Bool.or_assoc] <;> first | omega | grind | skip

def validate_near_ann (n : Nat) (xs : List DV) : Ann := (Ann.seq Ann.leaf (Ann.seq (Ann.seq Ann.leaf (Ann.loop ⟨Nat, fun k => k ≤ n ∧ ((ints xs).take k).all nearB = true, fun k => ⟨[(0, AV.one (Cl.d (DV.sl n xs))), (5, AV.one (Cl.d (DV.sl n xs))), (6, AV.one (Cl.d (DV.int .i64 ((n : Nat) : Int)))), (7, AV.one (Cl.d (DV.int .i64 ((k : Nat) : Int))))], []⟩, fun k => n - k⟩ fun k => Ann.leaf)) Ann.leaf))
theorem validate_near_vc (n : Nat) (xs : List DV) : vcg Tryd.prog gamVb 18 (bodyOf Tryd.f61) (validate_near_ann n xs) kn0 (start [RV.d (DV.sl n xs)]) (post Tryd.prog Tryd.f61.results.toList (· = RV.d (DV.bool ((ints xs).all nearB)))) =
  (let zz0 := fun (k : Nat) => (k ≤ n ∧ ((ints xs).take k).all nearB = true); let zz1 := (DV.int .i64 ((n : Nat) : Int) = DV.int .i64 ((n : Nat) : Int)); let zz2 := (DV.bool ((ints xs).all nearB)); True ∧ True ∧ True ∧ True ∧ ((∃ k : Nat, (zz0 k) ∧ (((DV.sl n xs = DV.sl n xs) ∧ (DV.sl n xs = DV.sl n xs) ∧ zz1 ∧ (DV.int .i64 0 = DV.int .i64 ((k : Nat) : Int)) ∧ True) ∧ (True))) ∧ ∀ k : Nat, (zz0 k) → True ∧ (((decide (((k : Nat) : Int) < ((n : Nat) : Int))) = true → (0 ≤ ((k : Nat) : Int) ∧ ((k : Nat) : Int) < ((n : Nat) : Int) ∧ ((k : Nat) : Int).toNat * 1 < xs.length) ∧ ((xs[((k : Nat) : Int).toNat * 1]? = some (DV.int .i64 (nAt xs (((k : Nat) : Int).toNat * 1)))) ∧ True) ∧ True ∧ True ∧ True ∧ True ∧ (((decide ((nAt xs (((k : Nat) : Int).toNat * 1)) < (-1048576 : Int))) = false → True ∧ True ∧ True ∧ (((decide ((nAt xs (((k : Nat) : Int).toNat * 1)) > (1048576 : Int))) = true → True ∧ RV.d (DV.bool false) = RV.d zz2) ∧ ((decide ((nAt xs (((k : Nat) : Int).toNat * 1)) > (1048576 : Int))) = false → True ∧ True ∧ ∃ k' : Nat, (k' ≤ n ∧ ((ints xs).take k').all nearB = true) ∧ (n - k' < n - k) ∧ (((DV.sl n xs = DV.sl n xs) ∧ (DV.sl n xs = DV.sl n xs) ∧ zz1 ∧ (DV.int .i64 (IntKind.wrap .i64 (((k : Nat) : Int) + (1 : Int))) = DV.int .i64 ((k' : Nat) : Int)) ∧ True) ∧ (True))))) ∧ ((decide ((nAt xs (((k : Nat) : Int).toNat * 1)) < (-1048576 : Int))) = (!false) → True ∧ True ∧ RV.d (DV.bool false) = RV.d zz2))) ∧ ((decide (((k : Nat) : Int) < ((n : Nat) : Int))) = false → True ∧ RV.d (DV.bool true) = RV.d zz2)))) := by kernel_rfl
theorem validate_near_ans (n : Nat) (xs : List DV) (hx : xs = is (ints xs) ∧ n = xs.length) : Ans Tryd.prog 61 [RV.d (DV.sl n xs)] (RV.d (DV.bool ((ints xs).all nearB))) :=
  ans_of_vcg (Γ := gamVb) (validate_near_ann n xs) mixed_ Tryd.func61 rfl (Nat.le_of_ble_eq_true rfl) fun hwf => by
    refine Eq.mpr (validate_near_vc n xs) ?_
    simp only [true_and, and_true, RV.d.injEq, RV.agg.injEq, RV.tup.injEq, DV.bool.injEq, DV.int.injEq, DV.sl.injEq, List.cons.injEq, forall_const, Bool.not_false, Bool.not_true, Bool.not_eq_true', Bool.not_eq_false', decide_eq_true_eq, decide_eq_false_iff_not, Int.toNat_natCast, operator_find_ans, operator_Name_ans, blend_valid_ans, blend_Name_ans, R06_OpName_ans, R06_ModeName_ans, R06_IsOp_ans, R06_IsMode_ans, R18_far_ans, validate_fields_ans, R18_spare_ans]
    obtain ⟨hx, rfl⟩ := hx
    generalize hl : ints xs = l at *
    subst hx
    simp only [is_length, Nat.mul_one] at *
    simp only [RV.wfs, RV.wf, DV.wf, maxLen, is_length] at hwf
    have stop : ∀ k, k < l.length → nearB (l[k]?.getD 0) = false → l.all nearB = false := fun k hk h => by
      rw [List.getElem?_eq_getElem hk] at h
      exact List.all_eq_false.2 ⟨l[k], List.getElem_mem hk, by simpa using h⟩
    refine ⟨⟨0, ⟨Nat.zero_le _, rfl⟩, rfl⟩, fun k hk => ⟨fun hlt => ?_, fun hge => ?_⟩⟩
    · have h : k < l.length := by omega
      have e := nAt_is h
      have s0 := stop k h
      rw [List.getElem?_eq_getElem h] at s0
      simp only [Option.getD_some] at s0
      rw [e]
      refine ⟨⟨by omega, by omega, h⟩, is_at h, fun h1 => ⟨fun h2 => (s0 (by simp [nearB]; omega)).symm, fun h2 => ⟨k + 1, ⟨by omega, ?_⟩, by omega, by rw [IntKind.wrap_i64]; omega⟩⟩, fun h1 => (s0 (by simp [nearB]; omega)).symm⟩
      rw [List.take_succ_eq_append_getElem h, List.all_append, hk.2]
      simp [nearB]; omega
    · have : k = l.length := by omega
      subst this
      rw [List.take_length] at hk
      exact hk.2.symm

def validate_context_ann (n : Nat) (xs : List DV) : Ann := Ann.leaf
theorem validate_context_vc (n : Nat) (xs : List DV) : vcg Tryd.prog gamVb 20 (bodyOf Tryd.f67) (validate_context_ann n xs) kn0 (start [RV.d (DV.sl n xs)]) (post Tryd.prog Tryd.f67.results.toList (· = RV.d (DV.bool (ctxB (toOps xs))))) =
  (True ∧ True ∧ True ∧ True ∧ (((((n : Nat) : Int) == (0 : Int)) = true → True ∧ RV.d (DV.bool true) = RV.d (DV.bool (ctxB (toOps xs)))) ∧ ((((n : Nat) : Int) == (0 : Int)) = false → True ∧ True ∧ True ∧ True ∧ (0 ≤ IntKind.wrap .i64 (((n : Nat) : Int) - (1 : Int)) ∧ IntKind.wrap .i64 (((n : Nat) : Int) - (1 : Int)) < ((n : Nat) : Int) ∧ (IntKind.wrap .i64 (((n : Nat) : Int) - (1 : Int))).toNat * 12 < xs.length) ∧ ((xs[(IntKind.wrap .i64 (((n : Nat) : Int) - (1 : Int))).toNat * 12]? = some (DV.int .i64 (nAt xs ((IntKind.wrap .i64 (((n : Nat) : Int) - (1 : Int))).toNat * 12)))) ∧ (xs[(IntKind.wrap .i64 (((n : Nat) : Int) - (1 : Int))).toNat * 12 + 1]? = some (DV.int .i64 (nAt xs ((IntKind.wrap .i64 (((n : Nat) : Int) - (1 : Int))).toNat * 12 + 1)))) ∧ (xs[(IntKind.wrap .i64 (((n : Nat) : Int) - (1 : Int))).toNat * 12 + 1 + 1]? = some (DV.int .i64 (nAt xs ((IntKind.wrap .i64 (((n : Nat) : Int) - (1 : Int))).toNat * 12 + 1 + 1)))) ∧ (xs[(IntKind.wrap .i64 (((n : Nat) : Int) - (1 : Int))).toNat * 12 + 1 + 1 + 1]? = some (DV.int .i64 (nAt xs ((IntKind.wrap .i64 (((n : Nat) : Int) - (1 : Int))).toNat * 12 + 1 + 1 + 1)))) ∧ (xs[(IntKind.wrap .i64 (((n : Nat) : Int) - (1 : Int))).toNat * 12 + 1 + 1 + 1 + 1]? = some (DV.int .i64 (nAt xs ((IntKind.wrap .i64 (((n : Nat) : Int) - (1 : Int))).toNat * 12 + 1 + 1 + 1 + 1)))) ∧ (xs[(IntKind.wrap .i64 (((n : Nat) : Int) - (1 : Int))).toNat * 12 + 1 + 1 + 1 + 1 + 1]? = some (DV.int .i64 (nAt xs ((IntKind.wrap .i64 (((n : Nat) : Int) - (1 : Int))).toNat * 12 + 1 + 1 + 1 + 1 + 1)))) ∧ (xs[(IntKind.wrap .i64 (((n : Nat) : Int) - (1 : Int))).toNat * 12 + 1 + 1 + 1 + 1 + 1 + 1]? = some (DV.int .i64 (nAt xs ((IntKind.wrap .i64 (((n : Nat) : Int) - (1 : Int))).toNat * 12 + 1 + 1 + 1 + 1 + 1 + 1)))) ∧ (xs[(IntKind.wrap .i64 (((n : Nat) : Int) - (1 : Int))).toNat * 12 + 1 + 1 + 1 + 1 + 1 + 1 + 1]? = some (DV.int .u16 (nAt xs ((IntKind.wrap .i64 (((n : Nat) : Int) - (1 : Int))).toNat * 12 + 1 + 1 + 1 + 1 + 1 + 1 + 1)))) ∧ (xs[(IntKind.wrap .i64 (((n : Nat) : Int) - (1 : Int))).toNat * 12 + 1 + 1 + 1 + 1 + 1 + 1 + 1 + 1]? = some (DV.int .i64 (nAt xs ((IntKind.wrap .i64 (((n : Nat) : Int) - (1 : Int))).toNat * 12 + 1 + 1 + 1 + 1 + 1 + 1 + 1 + 1)))) ∧ (xs[(IntKind.wrap .i64 (((n : Nat) : Int) - (1 : Int))).toNat * 12 + 1 + 1 + 1 + 1 + 1 + 1 + 1 + 1 + 1]? = some (DV.int .i64 (nAt xs ((IntKind.wrap .i64 (((n : Nat) : Int) - (1 : Int))).toNat * 12 + 1 + 1 + 1 + 1 + 1 + 1 + 1 + 1 + 1)))) ∧ (xs[(IntKind.wrap .i64 (((n : Nat) : Int) - (1 : Int))).toNat * 12 + 1 + 1 + 1 + 1 + 1 + 1 + 1 + 1 + 1 + 1]? = some (DV.bool (bAt xs ((IntKind.wrap .i64 (((n : Nat) : Int) - (1 : Int))).toNat * 12 + 1 + 1 + 1 + 1 + 1 + 1 + 1 + 1 + 1 + 1)))) ∧ (xs[(IntKind.wrap .i64 (((n : Nat) : Int) - (1 : Int))).toNat * 12 + 1 + 1 + 1 + 1 + 1 + 1 + 1 + 1 + 1 + 1 + 1]? = some (DV.bool (bAt xs ((IntKind.wrap .i64 (((n : Nat) : Int) - (1 : Int))).toNat * 12 + 1 + 1 + 1 + 1 + 1 + 1 + 1 + 1 + 1 + 1 + 1)))) ∧ True) ∧ True ∧ True ∧ True ∧ True ∧ True ∧ (((bAt xs ((IntKind.wrap .i64 (((n : Nat) : Int) - (1 : Int))).toNat * 12 + 1 + 1 + 1 + 1 + 1 + 1 + 1 + 1 + 1 + 1)) = true → True ∧ True ∧ True ∧ True ∧ True ∧ RV.d (DV.bool (!(bAt xs ((IntKind.wrap .i64 (((n : Nat) : Int) - (1 : Int))).toNat * 12 + 1 + 1 + 1 + 1 + 1 + 1 + 1 + 1 + 1 + 1 + 1)))) = RV.d (DV.bool (ctxB (toOps xs)))) ∧ ((bAt xs ((IntKind.wrap .i64 (((n : Nat) : Int) - (1 : Int))).toNat * 12 + 1 + 1 + 1 + 1 + 1 + 1 + 1 + 1 + 1 + 1)) = (!true) → True ∧ True ∧ RV.d (DV.bool false) = RV.d (DV.bool (ctxB (toOps xs)))))))) := by kernel_rfl
theorem validate_context_ans (n : Nat) (xs : List DV) (hO : xs = ops (toOps xs) ∧ n = (toOps xs).length) : Ans Tryd.prog 67 [RV.d (DV.sl n xs)] (RV.d (DV.bool (ctxB (toOps xs)))) :=
  ans_of_vcg (Γ := gamVb) (validate_context_ann n xs) mixed_ Tryd.func67 rfl (Nat.le_of_ble_eq_true rfl) fun hwf => by
    refine Eq.mpr (validate_context_vc n xs) ?_
    simp only [true_and, and_true, RV.d.injEq, RV.agg.injEq, RV.tup.injEq, DV.bool.injEq, DV.int.injEq, DV.sl.injEq, List.cons.injEq, forall_const, Bool.not_false, Bool.not_true, Bool.not_eq_true', Bool.not_eq_false', decide_eq_true_eq, decide_eq_false_iff_not, Int.toNat_natCast, toOps_ops, operator_find_ans, operator_Name_ans, blend_valid_ans, blend_Name_ans, R06_OpName_ans, R06_ModeName_ans, R06_IsOp_ans, R06_IsMode_ans, R18_far_ans, validate_fields_ans, R18_spare_ans]
    obtain ⟨hO, rfl⟩ := hO
    generalize toOps xs = l at *
    subst hO
    simp only [RV.wfs, RV.wf, DV.wf, maxLen] at hwf
    refine ⟨fun h => ?_, fun h => ?_⟩
    · have : l = [] := by simpa using h
      subst this; rfl
    · obtain ⟨N, hN⟩ : ∃ N, l.length = N + 1 := ⟨l.length - 1, by have : l ≠ [] := fun e => (by subst e; simp at h); have := List.length_pos_iff.2 this; omega⟩
      have e : IntKind.wrap .i64 (((l.length : Nat) : Int) - 1) = ((N : Nat) : Int) := by rw [IntKind.wrap_i64]; omega
      have hN2 : N < l.length := by omega
      have q1 := ops_rd hN2
      have q2 := ops_at hN2
      have q3 : ctxB l = (l[N].iso && !l[N].kno) := by
        unfold ctxB
        rw [List.getLast?_eq_getElem?, show l.length - 1 = N by omega, List.getElem?_eq_getElem hN2]
      simp only [e, Int.toNat_natCast, q3, q2, ops_length]
      refine ⟨⟨by omega, by omega, by omega⟩, q1, fun h => by rw [h]; rfl, fun h => by rw [h]; rfl⟩

end Go.Proofs.YtcaokljobfkajaaDoor

/-
  The error of one operation.
-/
namespace Go.Proofs.YtcaokljobfkajaaDoor
open Go.RowKit
set_option linter.unusedVariables false
set_option linter.unusedSimpArgs false
attribute [local irreducible] Ans AnsO AnsG AnsN AnsI

def mostS (b : Int) : Int := if b = 8 then 255 else if b = 16 then 65535 else 0
def bitsOk (b : Int) : Bool := decide (b = 8 ∨ b = 16)
/-- the error of an operation among open groups -/
def errO (bits : Int) (mn : Nat) (o : Oq) (l : List Oq) : Int :=
  if ¬ (o.kind = 1 ∨ o.kind = 2 ∨ o.kind = 3) then 9
  else if o.fields = false then 10
  else if o.kind = 3 then (if l = [] then 18 else 0)
  else if (o.kind = 1 ∧ (o.image < 0 ∨ o.image ≥ (mn : Int))) ∨ o.mask < 0 ∨ o.mask > (mn : Int) then 11
  else if ¬ (nearB o.x = true ∧ nearB o.y = true ∧ nearB o.mx = true ∧ nearB o.my = true) then 12
  else if o.opac > mostS bits then 13
  else if ¬ (1 ≤ o.oper ∧ o.oper < 13) then 14
  else if ¬ (1 ≤ o.mode ∧ o.mode < 13) then 15
  else if o.oper ≠ 4 ∧ ctxB l = false then 16
  else if o.kind = 2 ∧ 64 ≤ l.length then 17
  else 0
def opErr (bits : Int) (mn : Nat) (ps : List Oq) (i : Int) (l : List Oq) : Int :=
  if 0 ≤ i then match ps[i.toNat]? with
    | some o => errO bits mn o l
    | none => 21
  else 21
def gamVc : Gam where
 pure := fun f xs =>
  if f = 68 then (match xs with | [.d (.int _ op)] => some (RV.tup [RV.agg [DV.str (opNameS op), DV.int .i64 (ruleS op 1), DV.int .i64 (ruleS op 2), DV.int .i64 (ruleS op 3)], RV.d (DV.bool (decide (1 ≤ op ∧ op < 13)))]) | _ => none) else
  if f = 65 then (match xs with | [.d (.int _ op)] => some (RV.d (DV.str (opNameS op))) | _ => none) else
  if f = 77 then (match xs with | [.d (.int _ op)] => some (RV.d (DV.bool (decide (1 ≤ op ∧ op < 13)))) | _ => none) else
  if f = 66 then (match xs with | [.d (.int _ op)] => some (RV.d (DV.str (modeNameS op))) | _ => none) else
  if f = 78 then (match xs with | [.d (.int _ op)] => some (RV.d (DV.str (opNameS op))) | _ => none) else
  if f = 79 then (match xs with | [.d (.int _ op)] => some (RV.d (DV.str (modeNameS op))) | _ => none) else
  if f = 74 then (match xs with | [.d (.int _ op)] => some (RV.d (DV.bool (decide (1 ≤ op ∧ op < 13)))) | _ => none) else
  if f = 75 then (match xs with | [.d (.int _ op)] => some (RV.d (DV.bool (decide (1 ≤ op ∧ op < 13)))) | _ => none) else
  if f = 61 then (match xs with | [.d (.sl n xs)] => some (RV.d (DV.bool ((ints xs).all nearB))) | _ => none) else
  if f = 71 then (match xs with | [.d (.int _ v)] => some (RV.d (DV.bool (!nearB v))) | _ => none) else
  if f = 64 then (match xs with | [.agg [.int _ okind, .int _ oimage, .int _ ox, .int _ oy, .int _ omask, .int _ omx, .int _ omy, .int _ oopac, .int _ ooper, .int _ omode, .bool oiso, .bool okno]] => some (RV.d (DV.bool (Oq.fields ⟨okind, oimage, ox, oy, omask, omx, omy, oopac, ooper, omode, oiso, okno⟩))) | _ => none) else
  if f = 73 then (match xs with | [.agg [.int _ okind, .int _ oimage, .int _ ox, .int _ oy, .int _ omask, .int _ omx, .int _ omy, .int _ oopac, .int _ ooper, .int _ omode, .bool oiso, .bool okno]] => some (RV.d (DV.bool (Oq.spare ⟨okind, oimage, ox, oy, omask, omx, omy, oopac, ooper, omode, oiso, okno⟩))) | _ => none) else
  if f = 67 then (match xs with | [.d (.sl n xs)] => some (RV.d (DV.bool (ctxB (toOps xs)))) | _ => none) else
  if f = 59 then (match xs with | [.d (.int _ b)] => some (RV.tup [RV.d (DV.int .u16 (mostS b)), RV.d (DV.bool (bitsOk b))]) | _ => none) else
  if f = 69 then (match xs with | [.d (.int _ b)] => some (RV.tup [RV.d (DV.int .u16 (mostS b)), RV.d (DV.bool (bitsOk b))]) | _ => none) else
  if f = 49 then (match xs with | [.agg [.int _ bits, .int _ cx0, .int _ cy0, .int _ cx1, .int _ cy1, .int _ tw, .int _ th, .sl on oxs, .sl mn mxs, .sl pn pxs], .d (.int _ at_), .d (.sl n xs)] => some (RV.d (DV.int .i64 (opErr bits mn (toOps pxs) at_ (toOps xs)))) | _ => none) else
  if f = 52 then (match xs with | [.agg [.int _ bits, .int _ cx0, .int _ cy0, .int _ cx1, .int _ cy1, .int _ tw, .int _ th, .sl on oxs, .sl mn mxs, .sl pn pxs], .d (.int _ at_), .d (.sl n xs)] => some (RV.d (DV.int .i64 (opErr bits mn (toOps pxs) at_ (toOps xs)))) | _ => none) else
  none
 modes := fun f =>
  none
 proc := fun f xs bs =>
  none
 iter := fun f cs =>
  none

def sample_Max_ann (b : Int) : Ann := Ann.leaf
theorem sample_Max_vc (b : Int) : vcg Tryd.prog gamVc 9 (bodyOf Tryd.f59) (sample_Max_ann b) kn0 (start [RV.d (DV.int .i64 b)]) (post Tryd.prog Tryd.f59.results.toList (· = RV.tup [RV.d (DV.int .u16 (mostS b)), RV.d (DV.bool (bitsOk b))])) =
  (let zz0 := [RV.d (DV.int .u16 (mostS b)), RV.d (DV.bool (bitsOk b))]; True ∧ True ∧ True ∧ True ∧ True ∧ (((b == (8 : Int)) = true → True ∧ True ∧ RV.tup [RV.d (DV.int .u16 255), RV.d (DV.bool true)] = RV.tup zz0) ∧ ((b == (8 : Int)) = false → True ∧ True ∧ (((b == (16 : Int)) = true → True ∧ True ∧ RV.tup [RV.d (DV.int .u16 65535), RV.d (DV.bool true)] = RV.tup zz0) ∧ ((b == (16 : Int)) = false → True ∧ True ∧ RV.tup [RV.d (DV.int .u16 0), RV.d (DV.bool false)] = RV.tup zz0))))) := by kernel_rfl
theorem sample_Max_ans (b : Int) : Ans Tryd.prog 59 [RV.d (DV.int .i64 b)] (RV.tup [RV.d (DV.int .u16 (mostS b)), RV.d (DV.bool (bitsOk b))]) :=
  ans_of_vcg (Γ := gamVc) (sample_Max_ann b) mixed_ Tryd.func59 rfl (Nat.le_of_ble_eq_true rfl) fun hwf => by
    refine Eq.mpr (sample_Max_vc b) ?_
    simp only [true_and, and_true, RV.d.injEq, RV.agg.injEq, RV.tup.injEq, DV.bool.injEq, DV.int.injEq, DV.sl.injEq, List.cons.injEq, forall_const, Bool.not_false, Bool.not_true, Bool.not_eq_true', Bool.not_eq_false', decide_eq_true_eq, decide_eq_false_iff_not, Int.toNat_natCast, operator_find_ans, operator_Name_ans, blend_valid_ans, blend_Name_ans, R06_OpName_ans, R06_ModeName_ans, R06_IsOp_ans, R06_IsMode_ans, validate_fields_ans, R18_far_ans, R18_spare_ans]
    simp [mostS, bitsOk]; grind

def R01_Max_ann (b : Int) : Ann := Ann.leaf
theorem R01_Max_vc (b : Int) : vcg Tryd.prog gamVc 9 (bodyOf Tryd.f69) (R01_Max_ann b) kn0 (start [RV.d (DV.int .i64 b)]) (post Tryd.prog Tryd.f69.results.toList (· = RV.tup [RV.d (DV.int .u16 (mostS b)), RV.d (DV.bool (bitsOk b))])) =
  (let zz0 := [RV.d (DV.int .u16 (mostS b)), RV.d (DV.bool (bitsOk b))]; True ∧ True ∧ True ∧ True ∧ True ∧ (((b == (8 : Int)) = true → True ∧ True ∧ RV.tup [RV.d (DV.int .u16 255), RV.d (DV.bool true)] = RV.tup zz0) ∧ ((b == (8 : Int)) = false → True ∧ True ∧ (((b == (16 : Int)) = true → True ∧ True ∧ RV.tup [RV.d (DV.int .u16 65535), RV.d (DV.bool true)] = RV.tup zz0) ∧ ((b == (16 : Int)) = false → True ∧ True ∧ RV.tup [RV.d (DV.int .u16 0), RV.d (DV.bool false)] = RV.tup zz0))))) := by kernel_rfl
theorem R01_Max_ans (b : Int) : Ans Tryd.prog 69 [RV.d (DV.int .i64 b)] (RV.tup [RV.d (DV.int .u16 (mostS b)), RV.d (DV.bool (bitsOk b))]) :=
  ans_of_vcg (Γ := gamVc) (R01_Max_ann b) mixed_ Tryd.func69 rfl (Nat.le_of_ble_eq_true rfl) fun hwf => by
    refine Eq.mpr (R01_Max_vc b) ?_
    simp only [true_and, and_true, RV.d.injEq, RV.agg.injEq, RV.tup.injEq, DV.bool.injEq, DV.int.injEq, DV.sl.injEq, List.cons.injEq, forall_const, Bool.not_false, Bool.not_true, Bool.not_eq_true', Bool.not_eq_false', decide_eq_true_eq, decide_eq_false_iff_not, Int.toNat_natCast, operator_find_ans, operator_Name_ans, blend_valid_ans, blend_Name_ans, R06_OpName_ans, R06_ModeName_ans, R06_IsOp_ans, R06_IsMode_ans, validate_fields_ans, R18_far_ans, R18_spare_ans, sample_Max_ans]
    simp [mostS, bitsOk]; grind

def validate_Op_ann (bits : Int) (cx0 : Int) (cy0 : Int) (cx1 : Int) (cy1 : Int) (tw : Int) (th : Int) (on : Nat) (oxs : List DV) (mn : Nat) (mxs : List DV) (pn : Nat) (pxs : List DV) (at_ : Int) (n : Nat) (xs : List DV) : Ann := Ann.leaf
theorem validate_Op_vc (bits : Int) (cx0 : Int) (cy0 : Int) (cx1 : Int) (cy1 : Int) (tw : Int) (th : Int) (on : Nat) (oxs : List DV) (mn : Nat) (mxs : List DV) (pn : Nat) (pxs : List DV) (at_ : Int) (n : Nat) (xs : List DV) : vcg Tryd.prog gamVc 132 (bodyOf Tryd.f49) (validate_Op_ann bits cx0 cy0 cx1 cy1 tw th on oxs mn mxs pn pxs at_ n xs) kn0 (start [RV.agg [DV.int .i64 bits, DV.int .i64 cx0, DV.int .i64 cy0, DV.int .i64 cx1, DV.int .i64 cy1, DV.int .i64 tw, DV.int .i64 th, DV.sl on oxs, DV.sl mn mxs, DV.sl pn pxs], RV.d (DV.int .i64 at_), RV.d (DV.sl n xs)]) (post Tryd.prog Tryd.f49.results.toList (· = RV.d (DV.int .i64 (opErr bits mn (toOps pxs) at_ (toOps xs))))) =
  (let zz0 := (DV.int .i64 (opErr bits mn (toOps pxs) at_ (toOps xs))); let zz1 := (DV.int .i64 (nAt pxs (at_.toNat * 12 + 1 + 1 + 1 + 1 + 1 + 1 + 1 + 1))); let zz2 := (DV.int .i64 (nAt pxs (at_.toNat * 12 + 1 + 1 + 1 + 1 + 1 + 1 + 1 + 1 + 1))); let zz3 := (Ans Tryd.prog 64 [RV.agg [DV.int .i64 (nAt pxs (at_.toNat * 12)), DV.int .i64 (nAt pxs (at_.toNat * 12 + 1)), DV.int .i64 (nAt pxs (at_.toNat * 12 + 1 + 1)), DV.int .i64 (nAt pxs (at_.toNat * 12 + 1 + 1 + 1)), DV.int .i64 (nAt pxs (at_.toNat * 12 + 1 + 1 + 1 + 1)), DV.int .i64 (nAt pxs (at_.toNat * 12 + 1 + 1 + 1 + 1 + 1)), DV.int .i64 (nAt pxs (at_.toNat * 12 + 1 + 1 + 1 + 1 + 1 + 1)), DV.int .u16 (nAt pxs (at_.toNat * 12 + 1 + 1 + 1 + 1 + 1 + 1 + 1)), DV.int .i64 (nAt pxs (at_.toNat * 12 + 1 + 1 + 1 + 1 + 1 + 1 + 1 + 1)), DV.int .i64 (nAt pxs (at_.toNat * 12 + 1 + 1 + 1 + 1 + 1 + 1 + 1 + 1 + 1)), DV.bool (bAt pxs (at_.toNat * 12 + 1 + 1 + 1 + 1 + 1 + 1 + 1 + 1 + 1 + 1)), DV.bool (bAt pxs (at_.toNat * 12 + 1 + 1 + 1 + 1 + 1 + 1 + 1 + 1 + 1 + 1 + 1))]] (RV.d (DV.bool (Oq.fields ⟨(nAt pxs (at_.toNat * 12)), (nAt pxs (at_.toNat * 12 + 1)), (nAt pxs (at_.toNat * 12 + 1 + 1)), (nAt pxs (at_.toNat * 12 + 1 + 1 + 1)), (nAt pxs (at_.toNat * 12 + 1 + 1 + 1 + 1)), (nAt pxs (at_.toNat * 12 + 1 + 1 + 1 + 1 + 1)), (nAt pxs (at_.toNat * 12 + 1 + 1 + 1 + 1 + 1 + 1)), (nAt pxs (at_.toNat * 12 + 1 + 1 + 1 + 1 + 1 + 1 + 1)), (nAt pxs (at_.toNat * 12 + 1 + 1 + 1 + 1 + 1 + 1 + 1 + 1)), (nAt pxs (at_.toNat * 12 + 1 + 1 + 1 + 1 + 1 + 1 + 1 + 1 + 1)), (bAt pxs (at_.toNat * 12 + 1 + 1 + 1 + 1 + 1 + 1 + 1 + 1 + 1 + 1)), (bAt pxs (at_.toNat * 12 + 1 + 1 + 1 + 1 + 1 + 1 + 1 + 1 + 1 + 1 + 1))⟩)))); let zz4 := (Ans Tryd.prog 61 [RV.d (DV.sl 4 ([DV.int .i64 (nAt pxs (at_.toNat * 12 + 1 + 1)), DV.int .i64 (nAt pxs (at_.toNat * 12 + 1 + 1 + 1)), DV.int .i64 (nAt pxs (at_.toNat * 12 + 1 + 1 + 1 + 1 + 1)), DV.int .i64 (nAt pxs (at_.toNat * 12 + 1 + 1 + 1 + 1 + 1 + 1))]))] (RV.d (DV.bool ((ints ([DV.int .i64 (nAt pxs (at_.toNat * 12 + 1 + 1)), DV.int .i64 (nAt pxs (at_.toNat * 12 + 1 + 1 + 1)), DV.int .i64 (nAt pxs (at_.toNat * 12 + 1 + 1 + 1 + 1 + 1)), DV.int .i64 (nAt pxs (at_.toNat * 12 + 1 + 1 + 1 + 1 + 1 + 1))])).all nearB)))); let zz5 := ((((nAt pxs (at_.toNat * 12)) == (2 : Int)) = true → True ∧ True ∧ True ∧ True ∧ True ∧ (((decide (((n : Nat) : Int) ≥ (64 : Int))) = true → True ∧ RV.d (DV.int .i64 17) = RV.d zz0) ∧ ((decide (((n : Nat) : Int) ≥ (64 : Int))) = false → True ∧ RV.d (DV.int .i64 0) = RV.d zz0))) ∧ (((nAt pxs (at_.toNat * 12)) == (2 : Int)) = (!true) → True ∧ True ∧ True ∧ RV.d (DV.int .i64 0) = RV.d zz0)); let zz6 := (((!((ints ([DV.int .i64 (nAt pxs (at_.toNat * 12 + 1 + 1)), DV.int .i64 (nAt pxs (at_.toNat * 12 + 1 + 1 + 1)), DV.int .i64 (nAt pxs (at_.toNat * 12 + 1 + 1 + 1 + 1 + 1)), DV.int .i64 (nAt pxs (at_.toNat * 12 + 1 + 1 + 1 + 1 + 1 + 1))])).all nearB)) = true → True ∧ RV.d (DV.int .i64 12) = RV.d zz0) ∧ ((!((ints ([DV.int .i64 (nAt pxs (at_.toNat * 12 + 1 + 1)), DV.int .i64 (nAt pxs (at_.toNat * 12 + 1 + 1 + 1)), DV.int .i64 (nAt pxs (at_.toNat * 12 + 1 + 1 + 1 + 1 + 1)), DV.int .i64 (nAt pxs (at_.toNat * 12 + 1 + 1 + 1 + 1 + 1 + 1))])).all nearB)) = false → True ∧ True ∧ True ∧ True ∧ True ∧ (((decide ((nAt pxs (at_.toNat * 12 + 1 + 1 + 1 + 1 + 1 + 1 + 1)) > (mostS bits))) = true → True ∧ RV.d (DV.int .i64 13) = RV.d zz0) ∧ ((decide ((nAt pxs (at_.toNat * 12 + 1 + 1 + 1 + 1 + 1 + 1 + 1)) > (mostS bits))) = false → True ∧ True ∧ (Ans Tryd.prog 65 [RV.d zz1] (RV.d (DV.str (opNameS (nAt pxs (at_.toNat * 12 + 1 + 1 + 1 + 1 + 1 + 1 + 1 + 1)))))) ∧ True ∧ True ∧ ((((opNameS (nAt pxs (at_.toNat * 12 + 1 + 1 + 1 + 1 + 1 + 1 + 1 + 1))).toList == (⟨#[]⟩ : ByteArray).toList) = true → True ∧ RV.d (DV.int .i64 14) = RV.d zz0) ∧ (((opNameS (nAt pxs (at_.toNat * 12 + 1 + 1 + 1 + 1 + 1 + 1 + 1 + 1))).toList == (⟨#[]⟩ : ByteArray).toList) = false → True ∧ True ∧ (Ans Tryd.prog 66 [RV.d zz2] (RV.d (DV.str (modeNameS (nAt pxs (at_.toNat * 12 + 1 + 1 + 1 + 1 + 1 + 1 + 1 + 1 + 1)))))) ∧ True ∧ True ∧ ((((modeNameS (nAt pxs (at_.toNat * 12 + 1 + 1 + 1 + 1 + 1 + 1 + 1 + 1 + 1))).toList == (⟨#[]⟩ : ByteArray).toList) = true → True ∧ RV.d (DV.int .i64 15) = RV.d zz0) ∧ (((modeNameS (nAt pxs (at_.toNat * 12 + 1 + 1 + 1 + 1 + 1 + 1 + 1 + 1 + 1))).toList == (⟨#[]⟩ : ByteArray).toList) = false → True ∧ True ∧ True ∧ True ∧ ((((nAt pxs (at_.toNat * 12 + 1 + 1 + 1 + 1 + 1 + 1 + 1 + 1)) != (4 : Int)) = true → True ∧ (Ans Tryd.prog 67 [RV.d (DV.sl n xs)] (RV.d (DV.bool (ctxB (toOps xs))))) ∧ True ∧ True ∧ True ∧ (((!(ctxB (toOps xs))) = true → True ∧ RV.d (DV.int .i64 16) = RV.d zz0) ∧ ((!(ctxB (toOps xs))) = false → True ∧ True ∧ True ∧ True ∧ zz5))) ∧ (((nAt pxs (at_.toNat * 12 + 1 + 1 + 1 + 1 + 1 + 1 + 1 + 1)) != (4 : Int)) = (!true) → True ∧ True ∧ True ∧ True ∧ True ∧ True ∧ zz5)))))))))); let zz7 := (((decide ((nAt pxs (at_.toNat * 12 + 1 + 1 + 1 + 1)) < (0 : Int))) = true → (((decide ((nAt pxs (at_.toNat * 12 + 1 + 1 + 1 + 1)) < (0 : Int))) = true → True ∧ RV.d (DV.int .i64 11) = RV.d zz0) ∧ ((decide ((nAt pxs (at_.toNat * 12 + 1 + 1 + 1 + 1)) < (0 : Int))) = false → True ∧ True ∧ True ∧ True ∧ True ∧ True ∧ True ∧ True ∧ True ∧ zz4 ∧ True ∧ True ∧ zz6))) ∧ ((decide ((nAt pxs (at_.toNat * 12 + 1 + 1 + 1 + 1)) < (0 : Int))) = false → True ∧ True ∧ True ∧ True ∧ True ∧ True ∧ True ∧ (((decide ((nAt pxs (at_.toNat * 12 + 1 + 1 + 1 + 1)) > ((mn : Nat) : Int))) = true → True ∧ RV.d (DV.int .i64 11) = RV.d zz0) ∧ ((decide ((nAt pxs (at_.toNat * 12 + 1 + 1 + 1 + 1)) > ((mn : Nat) : Int))) = false → True ∧ True ∧ True ∧ True ∧ True ∧ True ∧ True ∧ True ∧ True ∧ zz4 ∧ True ∧ True ∧ zz6)))); let zz8 := ((((nAt pxs (at_.toNat * 12)) == (3 : Int)) = true → True ∧ RV.d (DV.int .i64 0) = RV.d zz0) ∧ (((nAt pxs (at_.toNat * 12)) == (3 : Int)) = false → True ∧ True ∧ True ∧ True ∧ ((((nAt pxs (at_.toNat * 12)) == (1 : Int)) = true → True ∧ True ∧ True ∧ True ∧ (((decide ((nAt pxs (at_.toNat * 12 + 1)) < (0 : Int))) = false → True ∧ True ∧ True ∧ True ∧ True ∧ True ∧ True ∧ True ∧ True ∧ (((decide ((nAt pxs (at_.toNat * 12 + 1)) ≥ ((mn : Nat) : Int))) = true → (((decide ((nAt pxs (at_.toNat * 12 + 1)) ≥ ((mn : Nat) : Int))) = true → True ∧ RV.d (DV.int .i64 11) = RV.d zz0) ∧ ((decide ((nAt pxs (at_.toNat * 12 + 1)) ≥ ((mn : Nat) : Int))) = false → True ∧ True ∧ True ∧ True ∧ True ∧ True ∧ True ∧ True ∧ True ∧ zz4 ∧ True ∧ True ∧ zz6))) ∧ ((decide ((nAt pxs (at_.toNat * 12 + 1)) ≥ ((mn : Nat) : Int))) = false → True ∧ True ∧ True ∧ True ∧ zz7))) ∧ ((decide ((nAt pxs (at_.toNat * 12 + 1)) < (0 : Int))) = (!false) → True ∧ True ∧ True ∧ True ∧ RV.d (DV.int .i64 11) = RV.d zz0))) ∧ (((nAt pxs (at_.toNat * 12)) == (1 : Int)) = (!true) → True ∧ True ∧ True ∧ True ∧ True ∧ True ∧ zz7)))); let zz9 := (((!(Oq.fields ⟨(nAt pxs (at_.toNat * 12)), (nAt pxs (at_.toNat * 12 + 1)), (nAt pxs (at_.toNat * 12 + 1 + 1)), (nAt pxs (at_.toNat * 12 + 1 + 1 + 1)), (nAt pxs (at_.toNat * 12 + 1 + 1 + 1 + 1)), (nAt pxs (at_.toNat * 12 + 1 + 1 + 1 + 1 + 1)), (nAt pxs (at_.toNat * 12 + 1 + 1 + 1 + 1 + 1 + 1)), (nAt pxs (at_.toNat * 12 + 1 + 1 + 1 + 1 + 1 + 1 + 1)), (nAt pxs (at_.toNat * 12 + 1 + 1 + 1 + 1 + 1 + 1 + 1 + 1)), (nAt pxs (at_.toNat * 12 + 1 + 1 + 1 + 1 + 1 + 1 + 1 + 1 + 1)), (bAt pxs (at_.toNat * 12 + 1 + 1 + 1 + 1 + 1 + 1 + 1 + 1 + 1 + 1)), (bAt pxs (at_.toNat * 12 + 1 + 1 + 1 + 1 + 1 + 1 + 1 + 1 + 1 + 1 + 1))⟩)) = true → True ∧ RV.d (DV.int .i64 10) = RV.d zz0) ∧ ((!(Oq.fields ⟨(nAt pxs (at_.toNat * 12)), (nAt pxs (at_.toNat * 12 + 1)), (nAt pxs (at_.toNat * 12 + 1 + 1)), (nAt pxs (at_.toNat * 12 + 1 + 1 + 1)), (nAt pxs (at_.toNat * 12 + 1 + 1 + 1 + 1)), (nAt pxs (at_.toNat * 12 + 1 + 1 + 1 + 1 + 1)), (nAt pxs (at_.toNat * 12 + 1 + 1 + 1 + 1 + 1 + 1)), (nAt pxs (at_.toNat * 12 + 1 + 1 + 1 + 1 + 1 + 1 + 1)), (nAt pxs (at_.toNat * 12 + 1 + 1 + 1 + 1 + 1 + 1 + 1 + 1)), (nAt pxs (at_.toNat * 12 + 1 + 1 + 1 + 1 + 1 + 1 + 1 + 1 + 1)), (bAt pxs (at_.toNat * 12 + 1 + 1 + 1 + 1 + 1 + 1 + 1 + 1 + 1 + 1)), (bAt pxs (at_.toNat * 12 + 1 + 1 + 1 + 1 + 1 + 1 + 1 + 1 + 1 + 1 + 1))⟩)) = false → True ∧ True ∧ True ∧ True ∧ ((((nAt pxs (at_.toNat * 12)) == (3 : Int)) = true → True ∧ True ∧ True ∧ True ∧ True ∧ (((((n : Nat) : Int) == (0 : Int)) = true → True ∧ RV.d (DV.int .i64 18) = RV.d zz0) ∧ ((((n : Nat) : Int) == (0 : Int)) = false → True ∧ True ∧ True ∧ True ∧ zz8))) ∧ (((nAt pxs (at_.toNat * 12)) == (3 : Int)) = (!true) → True ∧ True ∧ True ∧ True ∧ True ∧ True ∧ zz8)))); True ∧ True ∧ True ∧ True ∧ True ∧ (((decide (at_ < (0 : Int))) = false → True ∧ True ∧ True ∧ True ∧ True ∧ True ∧ (((decide (at_ ≥ ((pn : Nat) : Int))) = true → True ∧ RV.d (DV.int .i64 21) = RV.d zz0) ∧ ((decide (at_ ≥ ((pn : Nat) : Int))) = false → True ∧ True ∧ True ∧ (0 ≤ at_ ∧ at_ < ((pn : Nat) : Int) ∧ at_.toNat * 12 < pxs.length) ∧ ((pxs[at_.toNat * 12]? = some (DV.int .i64 (nAt pxs (at_.toNat * 12)))) ∧ (pxs[at_.toNat * 12 + 1]? = some (DV.int .i64 (nAt pxs (at_.toNat * 12 + 1)))) ∧ (pxs[at_.toNat * 12 + 1 + 1]? = some (DV.int .i64 (nAt pxs (at_.toNat * 12 + 1 + 1)))) ∧ (pxs[at_.toNat * 12 + 1 + 1 + 1]? = some (DV.int .i64 (nAt pxs (at_.toNat * 12 + 1 + 1 + 1)))) ∧ (pxs[at_.toNat * 12 + 1 + 1 + 1 + 1]? = some (DV.int .i64 (nAt pxs (at_.toNat * 12 + 1 + 1 + 1 + 1)))) ∧ (pxs[at_.toNat * 12 + 1 + 1 + 1 + 1 + 1]? = some (DV.int .i64 (nAt pxs (at_.toNat * 12 + 1 + 1 + 1 + 1 + 1)))) ∧ (pxs[at_.toNat * 12 + 1 + 1 + 1 + 1 + 1 + 1]? = some (DV.int .i64 (nAt pxs (at_.toNat * 12 + 1 + 1 + 1 + 1 + 1 + 1)))) ∧ (pxs[at_.toNat * 12 + 1 + 1 + 1 + 1 + 1 + 1 + 1]? = some (DV.int .u16 (nAt pxs (at_.toNat * 12 + 1 + 1 + 1 + 1 + 1 + 1 + 1)))) ∧ (pxs[at_.toNat * 12 + 1 + 1 + 1 + 1 + 1 + 1 + 1 + 1]? = some zz1) ∧ (pxs[at_.toNat * 12 + 1 + 1 + 1 + 1 + 1 + 1 + 1 + 1 + 1]? = some zz2) ∧ (pxs[at_.toNat * 12 + 1 + 1 + 1 + 1 + 1 + 1 + 1 + 1 + 1 + 1]? = some (DV.bool (bAt pxs (at_.toNat * 12 + 1 + 1 + 1 + 1 + 1 + 1 + 1 + 1 + 1 + 1)))) ∧ (pxs[at_.toNat * 12 + 1 + 1 + 1 + 1 + 1 + 1 + 1 + 1 + 1 + 1 + 1]? = some (DV.bool (bAt pxs (at_.toNat * 12 + 1 + 1 + 1 + 1 + 1 + 1 + 1 + 1 + 1 + 1 + 1)))) ∧ True) ∧ True ∧ True ∧ True ∧ True ∧ (Ans Tryd.prog 59 [RV.d (DV.int .i64 bits)] (RV.tup [RV.d (DV.int .u16 (mostS bits)), RV.d (DV.bool (bitsOk bits))])) ∧ True ∧ True ∧ True ∧ True ∧ True ∧ True ∧ True ∧ True ∧ True ∧ ((((nAt pxs (at_.toNat * 12)) != (1 : Int)) = true → True ∧ True ∧ True ∧ True ∧ True ∧ ((((nAt pxs (at_.toNat * 12)) != (2 : Int)) = true → True ∧ True ∧ True ∧ True ∧ True ∧ ((((nAt pxs (at_.toNat * 12)) != (3 : Int)) = true → True ∧ RV.d (DV.int .i64 9) = RV.d zz0) ∧ (((nAt pxs (at_.toNat * 12)) != (3 : Int)) = false → True ∧ zz3 ∧ True ∧ True ∧ zz9))) ∧ (((nAt pxs (at_.toNat * 12)) != (2 : Int)) = (!true) → True ∧ True ∧ True ∧ zz3 ∧ True ∧ True ∧ zz9))) ∧ (((nAt pxs (at_.toNat * 12)) != (1 : Int)) = (!true) → True ∧ True ∧ True ∧ True ∧ True ∧ zz3 ∧ True ∧ True ∧ zz9))))) ∧ ((decide (at_ < (0 : Int))) = (!false) → True ∧ True ∧ RV.d (DV.int .i64 21) = RV.d zz0))) := by kernel_rfl
theorem validate_Op_ans (bits : Int) (cx0 : Int) (cy0 : Int) (cx1 : Int) (cy1 : Int) (tw : Int) (th : Int) (on : Nat) (oxs : List DV) (mn : Nat) (mxs : List DV) (pn : Nat) (pxs : List DV) (at_ : Int) (n : Nat) (xs : List DV) (hP : pxs = ops (toOps pxs) ∧ pn = (toOps pxs).length) (hO : xs = ops (toOps xs) ∧ n = (toOps xs).length) : Ans Tryd.prog 49 [RV.agg [DV.int .i64 bits, DV.int .i64 cx0, DV.int .i64 cy0, DV.int .i64 cx1, DV.int .i64 cy1, DV.int .i64 tw, DV.int .i64 th, DV.sl on oxs, DV.sl mn mxs, DV.sl pn pxs], RV.d (DV.int .i64 at_), RV.d (DV.sl n xs)] (RV.d (DV.int .i64 (opErr bits mn (toOps pxs) at_ (toOps xs)))) :=
  ans_of_vcg (Γ := gamVc) (validate_Op_ann bits cx0 cy0 cx1 cy1 tw th on oxs mn mxs pn pxs at_ n xs) mixed_ Tryd.func49 rfl (Nat.le_of_ble_eq_true rfl) fun hwf => by
    refine Eq.mpr (validate_Op_vc bits cx0 cy0 cx1 cy1 tw th on oxs mn mxs pn pxs at_ n xs) ?_
    simp only [true_and, and_true, RV.d.injEq, RV.agg.injEq, RV.tup.injEq, DV.bool.injEq, DV.int.injEq, DV.sl.injEq, List.cons.injEq, forall_const, Bool.not_false, Bool.not_true, Bool.not_eq_true', Bool.not_eq_false', decide_eq_true_eq, decide_eq_false_iff_not, Int.toNat_natCast, toOps_ops, operator_find_ans, operator_Name_ans, blend_valid_ans, blend_Name_ans, R06_OpName_ans, R06_ModeName_ans, R06_IsOp_ans, R06_IsMode_ans, validate_fields_ans, R18_far_ans, R18_spare_ans, sample_Max_ans, R01_Max_ans]
    obtain ⟨hO, rfl⟩ := hO
    obtain ⟨hP, rfl⟩ := hP
    generalize toOps pxs = ps at *
    generalize toOps xs = l at *
    subst hO hP
    simp only [RV.wfs, RV.wf, DV.wf, maxLen] at hwf
    have hctx := validate_context_ans l.length (ops l) ⟨by rw [toOps_ops], by rw [toOps_ops]⟩
    rw [toOps_ops] at hctx
    have hnear := fun a b c d => validate_near_ans 4 [DV.int .i64 a, DV.int .i64 b, DV.int .i64 c, DV.int .i64 d] ⟨by simp [ints, is], rfl⟩
    have e0 : at_ < 0 → opErr bits mn ps at_ l = 21 := fun h => by unfold opErr; rw [if_neg (by omega)]
    have e1 : ¬ at_ < 0 → at_ ≥ (ps.length : Int) → opErr bits mn ps at_ l = 21 := fun h h1 => by unfold opErr; rw [if_pos (by omega), List.getElem?_eq_none (by omega)]
    have e2 : ∀ (h : ¬ at_ < 0) (h2 : at_.toNat < ps.length), opErr bits mn ps at_ l = errO bits mn ps[at_.toNat] l := fun h h1 => by unfold opErr; rw [if_pos (by omega), List.getElem?_eq_getElem h1]
    refine ⟨fun h0 => ⟨fun h1 => (e1 h0 h1).symm, fun h1 => ?_⟩, fun h0 => (e0 h0).symm⟩
    have hk : at_.toNat < ps.length := by omega
    have q1 := ops_rd hk
    have q2 := ops_at hk
    have q3 := ops_length ps
    rw [e2 h0 hk]
    simp only [q2, q3]
    refine ⟨⟨by omega, by omega, by omega⟩, q1, ?_⟩
    have hsp := @Oq.spare_fields ps[at_.toNat]
    generalize ps[at_.toNat] = o at *
    clear e0 e1 e2 q1 q2 q3 h0 h1 hk
    have hl : l.length = 0 ↔ l = [] := by simp
    simp only [ints, List.map_cons, List.map_nil, List.all_cons, List.all_nil, Bool.and_true] at hnear ⊢
    have hfl := validate_fields_ans o
    have heta : (⟨o.kind, o.image, o.x, o.y, o.mask, o.mx, o.my, o.opac, o.oper, o.mode, o.iso, o.kno⟩ : Oq) = o := rfl
    simp only [heta] at hfl ⊢
    clear heta
    have hnm := opName_empty o.oper
    have hmd := modeName_empty o.mode
    simp only [hnm, hmd, beq_iff_eq, beq_eq_false_iff_ne, bne_iff_ne, bne_eq_false_iff_eq, Bool.not_eq_true', Bool.not_eq_false', decide_eq_true_eq, decide_eq_false_iff_not]
    (repeat' (first | apply And.intro | intro _)) <;> (first | exact hnear _ _ _ _ | exact hctx | exact hfl | exact R18_far_ans _ | exact R18_spare_ans _ | (unfold errO; clear hnear hctx hfl; grind))

end Go.Proofs.YtcaokljobfkajaaDoor

/-
  The frame of a script.
-/
namespace Go.Proofs.YtcaokljobfkajaaDoor
open Go.RowKit
set_option linter.unusedVariables false
set_option linter.unusedSimpArgs false
attribute [local irreducible] Ans AnsO AnsG AnsN AnsI

/-- the error of a frame -/
def frameE (bits : Int) (c : Rc) (tw th : Int) (l : List Int) (mn pn : Nat) : Int :=
  if bitsOk bits = false then 1
  else if c.empty = true ∨ c.area > 16777216 ∨ nearB c.a = false ∨ nearB c.b = false then 2
  else if (cntS c tw th).2.2 = false then 3
  else if orderOk l (IntKind.wrap .i64 ((cntS c tw th).1 * (cntS c tw th).2.1)) = false then 4
  else if (mn : Int) > 64 ∨ (pn : Int) > 4096 then 5
  else 0
def gamVd : Gam where
 pure := fun f xs =>
  if f = 68 then (match xs with | [.d (.int _ op)] => some (RV.tup [RV.agg [DV.str (opNameS op), DV.int .i64 (ruleS op 1), DV.int .i64 (ruleS op 2), DV.int .i64 (ruleS op 3)], RV.d (DV.bool (decide (1 ≤ op ∧ op < 13)))]) | _ => none) else
  if f = 65 then (match xs with | [.d (.int _ op)] => some (RV.d (DV.str (opNameS op))) | _ => none) else
  if f = 77 then (match xs with | [.d (.int _ op)] => some (RV.d (DV.bool (decide (1 ≤ op ∧ op < 13)))) | _ => none) else
  if f = 66 then (match xs with | [.d (.int _ op)] => some (RV.d (DV.str (modeNameS op))) | _ => none) else
  if f = 78 then (match xs with | [.d (.int _ op)] => some (RV.d (DV.str (opNameS op))) | _ => none) else
  if f = 79 then (match xs with | [.d (.int _ op)] => some (RV.d (DV.str (modeNameS op))) | _ => none) else
  if f = 74 then (match xs with | [.d (.int _ op)] => some (RV.d (DV.bool (decide (1 ≤ op ∧ op < 13)))) | _ => none) else
  if f = 75 then (match xs with | [.d (.int _ op)] => some (RV.d (DV.bool (decide (1 ≤ op ∧ op < 13)))) | _ => none) else
  if f = 61 then (match xs with | [.d (.sl n xs)] => some (RV.d (DV.bool ((ints xs).all nearB))) | _ => none) else
  if f = 71 then (match xs with | [.d (.int _ v)] => some (RV.d (DV.bool (!nearB v))) | _ => none) else
  if f = 64 then (match xs with | [.agg [.int _ okind, .int _ oimage, .int _ ox, .int _ oy, .int _ omask, .int _ omx, .int _ omy, .int _ oopac, .int _ ooper, .int _ omode, .bool oiso, .bool okno]] => some (RV.d (DV.bool (Oq.fields ⟨okind, oimage, ox, oy, omask, omx, omy, oopac, ooper, omode, oiso, okno⟩))) | _ => none) else
  if f = 73 then (match xs with | [.agg [.int _ okind, .int _ oimage, .int _ ox, .int _ oy, .int _ omask, .int _ omx, .int _ omy, .int _ oopac, .int _ ooper, .int _ omode, .bool oiso, .bool okno]] => some (RV.d (DV.bool (Oq.spare ⟨okind, oimage, ox, oy, omask, omx, omy, oopac, ooper, omode, oiso, okno⟩))) | _ => none) else
  if f = 67 then (match xs with | [.d (.sl n xs)] => some (RV.d (DV.bool (ctxB (toOps xs)))) | _ => none) else
  if f = 59 then (match xs with | [.d (.int _ b)] => some (RV.tup [RV.d (DV.int .u16 (mostS b)), RV.d (DV.bool (bitsOk b))]) | _ => none) else
  if f = 69 then (match xs with | [.d (.int _ b)] => some (RV.tup [RV.d (DV.int .u16 (mostS b)), RV.d (DV.bool (bitsOk b))]) | _ => none) else
  if f = 49 then (match xs with | [.agg [.int _ bits, .int _ cx0, .int _ cy0, .int _ cx1, .int _ cy1, .int _ tw, .int _ th, .sl on oxs, .sl mn mxs, .sl pn pxs], .d (.int _ at_), .d (.sl n xs)] => some (RV.d (DV.int .i64 (opErr bits mn (toOps pxs) at_ (toOps xs)))) | _ => none) else
  if f = 52 then (match xs with | [.agg [.int _ bits, .int _ cx0, .int _ cy0, .int _ cx1, .int _ cy1, .int _ tw, .int _ th, .sl on oxs, .sl mn mxs, .sl pn pxs], .d (.int _ at_), .d (.sl n xs)] => some (RV.d (DV.int .i64 (opErr bits mn (toOps pxs) at_ (toOps xs)))) | _ => none) else
  if f = 9 then (match xs with | [.d (.int _ n), .d (.int _ k)] => some (RV.d (DV.int .i64 (modS n k))) | _ => none) else
  if f = 76 then (match xs with | [.d (.int _ l), .d (.sl n xs)] => some (RV.d (DV.bool (withinS l xs))) | _ => none) else
  if f = 55 then (match xs with | [.agg [.int _ a, .int _ b, .int _ c, .int _ d]] => some (RV.d (DV.bool (Rc.valid ⟨a, b, c, d⟩))) | _ => none) else
  if f = 56 then (match xs with | [.agg [.int _ a, .int _ b, .int _ c, .int _ d]] => some (RV.d (DV.bool (Rc.valid ⟨a, b, c, d⟩))) | _ => none) else
  if f = 40 then (match xs with | [.agg [.int _ a, .int _ b, .int _ c, .int _ d]] => some (RV.d (DV.bool (Rc.empty ⟨a, b, c, d⟩))) | _ => none) else
  if f = 46 then (match xs with | [.agg [.int _ a, .int _ b, .int _ c, .int _ d]] => some (RV.agg [DV.int .i64 ((Rc.clean ⟨a, b, c, d⟩).a), DV.int .i64 ((Rc.clean ⟨a, b, c, d⟩).b), DV.int .i64 ((Rc.clean ⟨a, b, c, d⟩).c), DV.int .i64 ((Rc.clean ⟨a, b, c, d⟩).d)]) | _ => none) else
  if f = 60 then (match xs with | [.agg [.int _ a, .int _ b, .int _ c, .int _ d]] => some (RV.d (DV.int .i64 (Rc.area ⟨a, b, c, d⟩))) | _ => none) else
  if f = 31 then (match xs with | [.agg [.int _ a, .int _ b, .int _ c, .int _ d], .agg [.int _ a', .int _ b', .int _ c', .int _ d']] => some (RV.agg [DV.int .i64 ((Rc.inter ⟨a, b, c, d⟩ ⟨a', b', c', d'⟩).a), DV.int .i64 ((Rc.inter ⟨a, b, c, d⟩ ⟨a', b', c', d'⟩).b), DV.int .i64 ((Rc.inter ⟨a, b, c, d⟩ ⟨a', b', c', d'⟩).c), DV.int .i64 ((Rc.inter ⟨a, b, c, d⟩ ⟨a', b', c', d'⟩).d)]) | _ => none) else
  if f = 41 then (match xs with | [.agg [.int _ a, .int _ b, .int _ c, .int _ d]] => some (RV.d (DV.bool (Rc.empty ⟨a, b, c, d⟩))) | _ => none) else
  if f = 47 then (match xs with | [.agg [.int _ a, .int _ b, .int _ c, .int _ d]] => some (RV.agg [DV.int .i64 ((Rc.clean ⟨a, b, c, d⟩).a), DV.int .i64 ((Rc.clean ⟨a, b, c, d⟩).b), DV.int .i64 ((Rc.clean ⟨a, b, c, d⟩).c), DV.int .i64 ((Rc.clean ⟨a, b, c, d⟩).d)]) | _ => none) else
  if f = 70 then (match xs with | [.agg [.int _ a, .int _ b, .int _ c, .int _ d]] => some (RV.d (DV.int .i64 (Rc.area ⟨a, b, c, d⟩))) | _ => none) else
  if f = 32 then (match xs with | [.agg [.int _ a, .int _ b, .int _ c, .int _ d], .agg [.int _ a', .int _ b', .int _ c', .int _ d']] => some (RV.agg [DV.int .i64 ((Rc.inter ⟨a, b, c, d⟩ ⟨a', b', c', d'⟩).a), DV.int .i64 ((Rc.inter ⟨a, b, c, d⟩ ⟨a', b', c', d'⟩).b), DV.int .i64 ((Rc.inter ⟨a, b, c, d⟩ ⟨a', b', c', d'⟩).c), DV.int .i64 ((Rc.inter ⟨a, b, c, d⟩ ⟨a', b', c', d'⟩).d)]) | _ => none) else
  if f = 35 then (match xs with | [.d (.sl n xs)] => some (RV.agg [DV.int .i64 ((hullL (toRcs xs)).a), DV.int .i64 ((hullL (toRcs xs)).b), DV.int .i64 ((hullL (toRcs xs)).c), DV.int .i64 ((hullL (toRcs xs)).d)]) | _ => none) else
  if f = 54 then (match xs with | [.d (.sl n xs)] => some (RV.agg [DV.int .i64 ((hullL (toRcs xs)).a), DV.int .i64 ((hullL (toRcs xs)).b), DV.int .i64 ((hullL (toRcs xs)).c), DV.int .i64 ((hullL (toRcs xs)).d)]) | _ => none) else
  if f = 19 then (match xs with | [.agg [.int _ n0, .int _ n1, .int _ n2, .int _ n3]] => some (RV.agg [DV.int .i64 ((genRc n0 n1 n2 n3).a), DV.int .i64 ((genRc n0 n1 n2 n3).b), DV.int .i64 ((genRc n0 n1 n2 n3).c), DV.int .i64 ((genRc n0 n1 n2 n3).d)]) | _ => none) else
  if f = 42 then (match xs with | [.d (.sl n xs), .d (.int _ i)] => some (RV.d (DV.int .i64 (atS (ints xs) i))) | _ => none) else
  if f = 24 then (match xs with | [] => some (RV.tup [RV.tup [RV.d (DV.int .i64 3), RV.d (DV.int .i64 1)]]) | [.d (.sl n xs), .d (.int _ m)] => some (RV.d (DV.sl ((permL (ints xs) m).length) (is (permL (ints xs) m)))) | _ => none) else
  if f = 62 then (match xs with | [.agg [.int _ a, .int _ b, .int _ c, .int _ d], .d (.int _ w), .d (.int _ h)] => some (RV.tup [RV.d (DV.int .i64 ((cntS ⟨a, b, c, d⟩ w h).1)), RV.d (DV.int .i64 ((cntS ⟨a, b, c, d⟩ w h).2.1)), RV.d (DV.bool ((cntS ⟨a, b, c, d⟩ w h).2.2))]) | _ => none) else
  if f = 23 then (match xs with | [.agg [.int _ a, .int _ b, .int _ c, .int _ d], .d (.int _ w), .d (.int _ h)] => some (RV.tup [RV.d (DV.int .i64 ((cntS ⟨a, b, c, d⟩ w h).1)), RV.d (DV.int .i64 ((cntS ⟨a, b, c, d⟩ w h).2.1)), RV.d (DV.bool ((cntS ⟨a, b, c, d⟩ w h).2.2))]) | _ => none) else
  if f = 48 then (match xs with | [.agg [.int _ bits, .int _ cx0, .int _ cy0, .int _ cx1, .int _ cy1, .int _ tw, .int _ th, .sl on oxs, .sl mn mxs, .sl pn pxs]] => some (RV.d (DV.int .i64 (frameE bits ⟨cx0, cy0, cx1, cy1⟩ tw th (ints oxs) mn pn))) | _ => none) else
  if f = 51 then (match xs with | [.agg [.int _ bits, .int _ cx0, .int _ cy0, .int _ cx1, .int _ cy1, .int _ tw, .int _ th, .sl on oxs, .sl mn mxs, .sl pn pxs]] => some (RV.d (DV.int .i64 (frameE bits ⟨cx0, cy0, cx1, cy1⟩ tw th (ints oxs) mn pn))) | _ => none) else
  none
 modes := fun f =>
  if f = 63 then some ([true, true], 0, 1) else
  if f = 72 then some ([true, true], 0, 1) else
  none
 proc := fun f xs bs =>
  if f = 63 then (match xs, bs with | [AV.one (Cl.d (DV.sl n xs)), AV.one (Cl.d (DV.int _ m))], [] => some ⟨AV.tup [AV.one (Cl.ref 0 ((orderL (ints xs) m).length)), AV.one (Cl.d (DV.bool (orderOk (ints xs) m)))], [Bx.row 3 1 (is (orderL (ints xs) m))], true⟩ | _, _ => none) else
  if f = 72 then (match xs, bs with | [AV.one (Cl.d (DV.sl n xs)), AV.one (Cl.d (DV.int _ m))], [] => some ⟨AV.tup [AV.one (Cl.ref 0 ((orderL (ints xs) m).length)), AV.one (Cl.d (DV.bool (orderOk (ints xs) m)))], [Bx.row 3 1 (is (orderL (ints xs) m))], true⟩ | _, _ => none) else
  none
 iter := fun f cs =>
  none

def R13_Tiles_ann (a : Int) (b : Int) (c : Int) (d : Int) (w : Int) (h : Int) : Ann := Ann.leaf
theorem R13_Tiles_vc (a : Int) (b : Int) (c : Int) (d : Int) (w : Int) (h : Int) : vcg Tryd.prog gamVd 55 (bodyOf Tryd.f23) (R13_Tiles_ann a b c d w h) kn0 (start [RV.agg [DV.int .i64 a, DV.int .i64 b, DV.int .i64 c, DV.int .i64 d], RV.d (DV.int .i64 w), RV.d (DV.int .i64 h)]) (post Tryd.prog Tryd.f23.results.toList (· = RV.tup [RV.d (DV.int .i64 ((cntS ⟨a, b, c, d⟩ w h).1)), RV.d (DV.int .i64 ((cntS ⟨a, b, c, d⟩ w h).2.1)), RV.d (DV.bool ((cntS ⟨a, b, c, d⟩ w h).2.2))])) =
  (let zz0 := [RV.d (DV.int .i64 0), RV.d (DV.int .i64 0), RV.d (DV.bool false)]; let zz1 := [RV.d (DV.int .i64 ((cntS ⟨a, b, c, d⟩ w h).1)), RV.d (DV.int .i64 ((cntS ⟨a, b, c, d⟩ w h).2.1)), RV.d (DV.bool ((cntS ⟨a, b, c, d⟩ w h).2.2))]; True ∧ True ∧ True ∧ True ∧ True ∧ (Ans Tryd.prog 41 [RV.agg [DV.int .i64 a, DV.int .i64 b, DV.int .i64 c, DV.int .i64 d]] (RV.d (DV.bool (Rc.empty ⟨a, b, c, d⟩)))) ∧ True ∧ (((Rc.empty ⟨a, b, c, d⟩) = false → True ∧ True ∧ True ∧ True ∧ (((decide (w < (1 : Int))) = false → True ∧ True ∧ True ∧ True ∧ (((decide (h < (1 : Int))) = false → True ∧ True ∧ True ∧ True ∧ True ∧ True ∧ True ∧ True ∧ True ∧ (((decide (w > (IntKind.wrap .i64 (c - a)))) = false → True ∧ True ∧ True ∧ True ∧ True ∧ True ∧ True ∧ True ∧ (((decide (h > (IntKind.wrap .i64 (d - b)))) = true → True ∧ True ∧ True ∧ RV.tup zz0 = RV.tup zz1) ∧ ((decide (h > (IntKind.wrap .i64 (d - b)))) = false → True ∧ True ∧ True ∧ True ∧ True ∧ True ∧ True ∧ (w ≠ 0) ∧ True ∧ True ∧ True ∧ True ∧ True ∧ True ∧ True ∧ True ∧ (h ≠ 0) ∧ True ∧ True ∧ True ∧ True ∧ (true = true) ∧ RV.tup [RV.d (DV.int .i64 (IntKind.wrap .i64 ((IntKind.wrap .i64 (Int.tdiv (IntKind.wrap .i64 ((IntKind.wrap .i64 (c - a)) - (1 : Int))) w)) + (1 : Int)))), RV.d (DV.int .i64 (IntKind.wrap .i64 ((IntKind.wrap .i64 (Int.tdiv (IntKind.wrap .i64 ((IntKind.wrap .i64 (d - b)) - (1 : Int))) h)) + (1 : Int)))), RV.d (DV.bool true)] = RV.tup zz1))) ∧ ((decide (w > (IntKind.wrap .i64 (c - a)))) = (!false) → True ∧ True ∧ True ∧ True ∧ RV.tup zz0 = RV.tup zz1))) ∧ ((decide (h < (1 : Int))) = (!false) → True ∧ True ∧ True ∧ True ∧ True ∧ True ∧ RV.tup zz0 = RV.tup zz1))) ∧ ((decide (w < (1 : Int))) = (!false) → True ∧ True ∧ True ∧ True ∧ True ∧ True ∧ True ∧ True ∧ RV.tup zz0 = RV.tup zz1))) ∧ ((Rc.empty ⟨a, b, c, d⟩) = (!false) → True ∧ True ∧ True ∧ True ∧ True ∧ True ∧ True ∧ True ∧ True ∧ True ∧ RV.tup zz0 = RV.tup zz1))) := by kernel_rfl
theorem R13_Tiles_ans (a : Int) (b : Int) (c : Int) (d : Int) (w : Int) (h : Int) : Ans Tryd.prog 23 [RV.agg [DV.int .i64 a, DV.int .i64 b, DV.int .i64 c, DV.int .i64 d], RV.d (DV.int .i64 w), RV.d (DV.int .i64 h)] (RV.tup [RV.d (DV.int .i64 ((cntS ⟨a, b, c, d⟩ w h).1)), RV.d (DV.int .i64 ((cntS ⟨a, b, c, d⟩ w h).2.1)), RV.d (DV.bool ((cntS ⟨a, b, c, d⟩ w h).2.2))]) :=
  ans_of_vcg (Γ := gamVd) (R13_Tiles_ann a b c d w h) mixed_ Tryd.func23 rfl (Nat.le_of_ble_eq_true rfl) fun hwf => by
    refine Eq.mpr (R13_Tiles_vc a b c d w h) ?_
    simp only [true_and, and_true, RV.d.injEq, RV.agg.injEq, RV.tup.injEq, DV.bool.injEq, DV.int.injEq, DV.sl.injEq, List.cons.injEq, forall_const, Bool.not_false, Bool.not_true, Bool.not_eq_true', Bool.not_eq_false', decide_eq_true_eq, decide_eq_false_iff_not, Int.toNat_natCast, rect_Empty_ans, R13_Empty_ans, rect_Area_ans, R13_Area_ans, sample_Max_ans, R01_Max_ans, R18_far_ans]
    unfold cntS
    cases he : Rc.empty ⟨a, b, c, d⟩
    · obtain ⟨e1, e2, e3, e4, e5, e6⟩ := (Rc.empty_iff _).1 he
      simp only at e1 e2 e3 e4 e5 e6
      have w1 : IntKind.wrap .i64 (c - a) = c - a := by rw [IntKind.wrap_i64]; omega
      have w2 : IntKind.wrap .i64 (d - b) = d - b := by rw [IntKind.wrap_i64]; omega
      simp only [w1, w2]
      have hq : ∀ W v : Int, 1 ≤ v → v ≤ W → W ≤ 2147483648 → IntKind.wrap .i64 (IntKind.wrap .i64 (Int.tdiv (IntKind.wrap .i64 (W - 1)) v) + 1) = IntKind.wrap .i64 (Int.tdiv (IntKind.wrap .i64 (IntKind.wrap .i64 (W + v) - 1)) v) := fun W v h1 h2 h3 => by
        have a1 : IntKind.wrap .i64 (W - 1) = W - 1 := by rw [IntKind.wrap_i64]; omega
        have a2 : IntKind.wrap .i64 (W + v) = W + v := by rw [IntKind.wrap_i64]; omega
        have a3 : IntKind.wrap .i64 (W + v - 1) = W + v - 1 := by rw [IntKind.wrap_i64]; omega
        rw [a1, a2, a3, Int.tdiv_eq_ediv_of_nonneg (by omega), Int.tdiv_eq_ediv_of_nonneg (by omega)]
        have b1 : (W + v - 1) / v = (W - 1) / v + 1 := by rw [show W + v - 1 = (W - 1) + 1 * v by omega, Int.add_mul_ediv_right _ _ (by omega)]
        rw [b1]
        have b2 : 0 ≤ (W - 1) / v := Int.ediv_nonneg (by omega) (by omega)
        have b3 : (W - 1) / v ≤ W - 1 := Int.ediv_le_self _ (by omega)
        rw [IntKind.wrap_i64 ((W - 1) / v)]
        congr 1
        omega
      by_cases h1 : w < 1 <;> by_cases h3 : h < 1 <;> by_cases h2 : c - a < w <;> by_cases h4 : d - b < h <;> simp [h1, h2, h3, h4] <;> first | omega | exact ⟨by omega, by omega, hq _ _ (by omega) (by omega) (by omega), hq _ _ (by omega) (by omega) (by omega)⟩
    · simp

def validate_Frame_ann (bits : Int) (cx0 : Int) (cy0 : Int) (cx1 : Int) (cy1 : Int) (tw : Int) (th : Int) (on : Nat) (oxs : List DV) (mn : Nat) (mxs : List DV) (pn : Nat) (pxs : List DV) : Ann := Ann.leaf
theorem validate_Frame_vc (bits : Int) (cx0 : Int) (cy0 : Int) (cx1 : Int) (cy1 : Int) (tw : Int) (th : Int) (on : Nat) (oxs : List DV) (mn : Nat) (mxs : List DV) (pn : Nat) (pxs : List DV) : vcg Tryd.prog gamVd 70 (bodyOf Tryd.f48) (validate_Frame_ann bits cx0 cy0 cx1 cy1 tw th on oxs mn mxs pn pxs) kn0 (start [RV.agg [DV.int .i64 bits, DV.int .i64 cx0, DV.int .i64 cy0, DV.int .i64 cx1, DV.int .i64 cy1, DV.int .i64 tw, DV.int .i64 th, DV.sl on oxs, DV.sl mn mxs, DV.sl pn pxs]]) (post Tryd.prog Tryd.f48.results.toList (· = RV.d (DV.int .i64 (frameE bits ⟨cx0, cy0, cx1, cy1⟩ tw th (ints oxs) mn pn)))) =
  (let zz0 := (DV.int .i64 (frameE bits ⟨cx0, cy0, cx1, cy1⟩ tw th (ints oxs) mn pn)); let zz1 := [DV.int .i64 cx0, DV.int .i64 cy0, DV.int .i64 cx1, DV.int .i64 cy1]; let zz2 := [RV.agg zz1]; let zz3 := (Rc.empty ⟨cx0, cy0, cx1, cy1⟩); let zz4 := (Rc.area ⟨cx0, cy0, cx1, cy1⟩); let zz5 := (IntKind.wrap .i64 (((cntS ⟨cx0, cy0, cx1, cy1⟩ tw th).1) * ((cntS ⟨cx0, cy0, cx1, cy1⟩ tw th).2.1))); True ∧ True ∧ True ∧ True ∧ (Ans Tryd.prog 59 [RV.d (DV.int .i64 bits)] (RV.tup [RV.d (DV.int .u16 (mostS bits)), RV.d (DV.bool (bitsOk bits))])) ∧ True ∧ True ∧ True ∧ True ∧ True ∧ True ∧ True ∧ (((!(bitsOk bits)) = true → True ∧ RV.d (DV.int .i64 1) = RV.d zz0) ∧ ((!(bitsOk bits)) = false → True ∧ True ∧ True ∧ True ∧ True ∧ (Ans Tryd.prog 40 zz2 (RV.d (DV.bool zz3))) ∧ True ∧ ((zz3 = false → True ∧ (Ans Tryd.prog 60 zz2 (RV.d (DV.int .i64 zz4))) ∧ True ∧ True ∧ True ∧ (((decide (zz4 > (16777216 : Int))) = false → True ∧ True ∧ True ∧ True ∧ True ∧ (Ans Tryd.prog 61 [RV.d (DV.sl 2 ([DV.int .i64 cx0, DV.int .i64 cy0]))] (RV.d (DV.bool ((ints ([DV.int .i64 cx0, DV.int .i64 cy0])).all nearB)))) ∧ True ∧ True ∧ (((!((ints ([DV.int .i64 cx0, DV.int .i64 cy0])).all nearB)) = true → True ∧ RV.d (DV.int .i64 2) = RV.d zz0) ∧ ((!((ints ([DV.int .i64 cx0, DV.int .i64 cy0])).all nearB)) = false → True ∧ True ∧ True ∧ True ∧ True ∧ (Ans Tryd.prog 62 [RV.agg zz1, RV.d (DV.int .i64 tw), RV.d (DV.int .i64 th)] (RV.tup [RV.d (DV.int .i64 ((cntS ⟨cx0, cy0, cx1, cy1⟩ tw th).1)), RV.d (DV.int .i64 ((cntS ⟨cx0, cy0, cx1, cy1⟩ tw th).2.1)), RV.d (DV.bool ((cntS ⟨cx0, cy0, cx1, cy1⟩ tw th).2.2))])) ∧ True ∧ True ∧ True ∧ True ∧ True ∧ True ∧ True ∧ True ∧ True ∧ (((!((cntS ⟨cx0, cy0, cx1, cy1⟩ tw th).2.2)) = true → True ∧ RV.d (DV.int .i64 3) = RV.d zz0) ∧ ((!((cntS ⟨cx0, cy0, cx1, cy1⟩ tw th).2.2)) = false → True ∧ True ∧ True ∧ True ∧ True ∧ (AnsG Tryd.prog 63 0 [AV.one (Cl.d (DV.sl on oxs)), AV.one (Cl.d (DV.int .i64 zz5))] [] ⟨AV.tup [AV.one (Cl.ref 0 ((orderL (ints oxs) zz5).length)), AV.one (Cl.d (DV.bool (orderOk (ints oxs) zz5)))], [Bx.row 3 1 (is (orderL (ints oxs) zz5))], true⟩) ∧ True ∧ True ∧ True ∧ True ∧ True ∧ True ∧ True ∧ (((!(orderOk (ints oxs) zz5)) = true → True ∧ RV.d (DV.int .i64 4) = RV.d zz0) ∧ ((!(orderOk (ints oxs) zz5)) = false → True ∧ True ∧ True ∧ True ∧ True ∧ (((decide (((mn : Nat) : Int) > (64 : Int))) = false → True ∧ True ∧ True ∧ True ∧ True ∧ (((decide (((pn : Nat) : Int) > (4096 : Int))) = true → True ∧ RV.d (DV.int .i64 5) = RV.d zz0) ∧ ((decide (((pn : Nat) : Int) > (4096 : Int))) = false → True ∧ RV.d (DV.int .i64 0) = RV.d zz0))) ∧ ((decide (((mn : Nat) : Int) > (64 : Int))) = (!false) → True ∧ True ∧ RV.d (DV.int .i64 5) = RV.d zz0))))))))) ∧ ((decide (zz4 > (16777216 : Int))) = (!false) → True ∧ True ∧ RV.d (DV.int .i64 2) = RV.d zz0))) ∧ (zz3 = (!false) → True ∧ True ∧ True ∧ True ∧ RV.d (DV.int .i64 2) = RV.d zz0))))) := by kernel_rfl
theorem validate_Frame_ans (bits : Int) (cx0 : Int) (cy0 : Int) (cx1 : Int) (cy1 : Int) (tw : Int) (th : Int) (on : Nat) (oxs : List DV) (mn : Nat) (mxs : List DV) (pn : Nat) (pxs : List DV) (hO : oxs = is (ints oxs) ∧ on = oxs.length) : Ans Tryd.prog 48 [RV.agg [DV.int .i64 bits, DV.int .i64 cx0, DV.int .i64 cy0, DV.int .i64 cx1, DV.int .i64 cy1, DV.int .i64 tw, DV.int .i64 th, DV.sl on oxs, DV.sl mn mxs, DV.sl pn pxs]] (RV.d (DV.int .i64 (frameE bits ⟨cx0, cy0, cx1, cy1⟩ tw th (ints oxs) mn pn))) :=
  ans_of_vcg (Γ := gamVd) (validate_Frame_ann bits cx0 cy0 cx1 cy1 tw th on oxs mn mxs pn pxs) mixed_ Tryd.func48 rfl (Nat.le_of_ble_eq_true rfl) fun hwf => by
    refine Eq.mpr (validate_Frame_vc bits cx0 cy0 cx1 cy1 tw th on oxs mn mxs pn pxs) ?_
    simp only [true_and, and_true, RV.d.injEq, RV.agg.injEq, RV.tup.injEq, DV.bool.injEq, DV.int.injEq, DV.sl.injEq, List.cons.injEq, forall_const, Bool.not_false, Bool.not_true, Bool.not_eq_true', Bool.not_eq_false', decide_eq_true_eq, decide_eq_false_iff_not, Int.toNat_natCast, rect_Empty_ans, R13_Empty_ans, rect_Area_ans, R13_Area_ans, sample_Max_ans, R01_Max_ans, R18_far_ans, R13_Tiles_ans]
    obtain ⟨hO, rfl⟩ := hO
    generalize ints oxs = l at *
    subst hO
    have hord := fun M => tile_Order_ans (is l).length (is l) M ⟨by rw [ints_is], rfl⟩
    have hnear := fun a b => validate_near_ans 2 [DV.int .i64 a, DV.int .i64 b] ⟨by simp [ints, is], rfl⟩
    have hcnt := tile_Count_ans cx0 cy0 cx1 cy1 tw th
    simp only [ints_is] at hord
    simp only [ints, List.map_cons, List.map_nil, List.all_cons, List.all_nil, Bool.and_true] at hnear ⊢
    have he : 1 = 1 := rfl
    (repeat' (first | apply And.intro | intro _)) <;> (first | exact hnear _ _ | exact hcnt | exact hord _ | exact R18_far_ans _ | rfl | (unfold frameE; clear hnear hcnt hord; simp only; grind))

end Go.Proofs.YtcaokljobfkajaaDoor

/-
  All operations of a script.
-/
namespace Go.Proofs.YtcaokljobfkajaaDoor
open Go.RowKit
set_option linter.unusedVariables false
set_option linter.unusedSimpArgs false
attribute [local irreducible] Ans AnsO AnsG AnsN AnsI

theorem ops_take : ∀ (l : List Oq) (k : Nat), (ops l).take (k * 12) = ops (l.take k)
  | [], k => by simp [ops]
  | o :: l, 0 => by simp [ops]
  | o :: l, k + 1 => by
    have e : ops (o :: l) = o.cells ++ ops l := by simp [ops]
    have e2 : ops ((o :: l).take (k + 1)) = o.cells ++ ops (l.take k) := by simp [ops]
    rw [e, e2, List.take_append, List.take_of_length_le (by simp [Oq.cells]; omega), ← ops_take l k]
    congr 2
    simp [Oq.cells]; omega
/-- the open groups behind an operation -/
def stepO (o : Oq) (st : List Oq) : List Oq := if o.kind = 2 then st ++ [o] else if o.kind = 3 then st.dropLast else st
def runO (bits : Int) (mn : Nat) : List Oq → Int → List Oq → Int × Int
  | [], i, st => if st = [] then (0, 0) else (18, i)
  | o :: r, i, st => if errO bits mn o st = 0 then runO bits mn r (i + 1) (stepO o st) else (errO bits mn o st, i)
def opsE (bits : Int) (c : Rc) (tw th : Int) (l : List Int) (mn : Nat) (ps : List Oq) : Int × Int :=
  if frameE bits c tw th l mn ps.length = 0 then runO bits mn ps 0 [] else (frameE bits c tw th l mn ps.length, 0)
def gamVe : Gam where
 pure := fun f xs =>
  if f = 68 then (match xs with | [.d (.int _ op)] => some (RV.tup [RV.agg [DV.str (opNameS op), DV.int .i64 (ruleS op 1), DV.int .i64 (ruleS op 2), DV.int .i64 (ruleS op 3)], RV.d (DV.bool (decide (1 ≤ op ∧ op < 13)))]) | _ => none) else
  if f = 65 then (match xs with | [.d (.int _ op)] => some (RV.d (DV.str (opNameS op))) | _ => none) else
  if f = 77 then (match xs with | [.d (.int _ op)] => some (RV.d (DV.bool (decide (1 ≤ op ∧ op < 13)))) | _ => none) else
  if f = 66 then (match xs with | [.d (.int _ op)] => some (RV.d (DV.str (modeNameS op))) | _ => none) else
  if f = 78 then (match xs with | [.d (.int _ op)] => some (RV.d (DV.str (opNameS op))) | _ => none) else
  if f = 79 then (match xs with | [.d (.int _ op)] => some (RV.d (DV.str (modeNameS op))) | _ => none) else
  if f = 74 then (match xs with | [.d (.int _ op)] => some (RV.d (DV.bool (decide (1 ≤ op ∧ op < 13)))) | _ => none) else
  if f = 75 then (match xs with | [.d (.int _ op)] => some (RV.d (DV.bool (decide (1 ≤ op ∧ op < 13)))) | _ => none) else
  if f = 61 then (match xs with | [.d (.sl n xs)] => some (RV.d (DV.bool ((ints xs).all nearB))) | _ => none) else
  if f = 71 then (match xs with | [.d (.int _ v)] => some (RV.d (DV.bool (!nearB v))) | _ => none) else
  if f = 64 then (match xs with | [.agg [.int _ okind, .int _ oimage, .int _ ox, .int _ oy, .int _ omask, .int _ omx, .int _ omy, .int _ oopac, .int _ ooper, .int _ omode, .bool oiso, .bool okno]] => some (RV.d (DV.bool (Oq.fields ⟨okind, oimage, ox, oy, omask, omx, omy, oopac, ooper, omode, oiso, okno⟩))) | _ => none) else
  if f = 73 then (match xs with | [.agg [.int _ okind, .int _ oimage, .int _ ox, .int _ oy, .int _ omask, .int _ omx, .int _ omy, .int _ oopac, .int _ ooper, .int _ omode, .bool oiso, .bool okno]] => some (RV.d (DV.bool (Oq.spare ⟨okind, oimage, ox, oy, omask, omx, omy, oopac, ooper, omode, oiso, okno⟩))) | _ => none) else
  if f = 67 then (match xs with | [.d (.sl n xs)] => some (RV.d (DV.bool (ctxB (toOps xs)))) | _ => none) else
  if f = 59 then (match xs with | [.d (.int _ b)] => some (RV.tup [RV.d (DV.int .u16 (mostS b)), RV.d (DV.bool (bitsOk b))]) | _ => none) else
  if f = 69 then (match xs with | [.d (.int _ b)] => some (RV.tup [RV.d (DV.int .u16 (mostS b)), RV.d (DV.bool (bitsOk b))]) | _ => none) else
  if f = 49 then (match xs with | [.agg [.int _ bits, .int _ cx0, .int _ cy0, .int _ cx1, .int _ cy1, .int _ tw, .int _ th, .sl on oxs, .sl mn mxs, .sl pn pxs], .d (.int _ at_), .d (.sl n xs)] => some (RV.d (DV.int .i64 (opErr bits mn (toOps pxs) at_ (toOps xs)))) | _ => none) else
  if f = 52 then (match xs with | [.agg [.int _ bits, .int _ cx0, .int _ cy0, .int _ cx1, .int _ cy1, .int _ tw, .int _ th, .sl on oxs, .sl mn mxs, .sl pn pxs], .d (.int _ at_), .d (.sl n xs)] => some (RV.d (DV.int .i64 (opErr bits mn (toOps pxs) at_ (toOps xs)))) | _ => none) else
  if f = 9 then (match xs with | [.d (.int _ n), .d (.int _ k)] => some (RV.d (DV.int .i64 (modS n k))) | _ => none) else
  if f = 76 then (match xs with | [.d (.int _ l), .d (.sl n xs)] => some (RV.d (DV.bool (withinS l xs))) | _ => none) else
  if f = 55 then (match xs with | [.agg [.int _ a, .int _ b, .int _ c, .int _ d]] => some (RV.d (DV.bool (Rc.valid ⟨a, b, c, d⟩))) | _ => none) else
  if f = 56 then (match xs with | [.agg [.int _ a, .int _ b, .int _ c, .int _ d]] => some (RV.d (DV.bool (Rc.valid ⟨a, b, c, d⟩))) | _ => none) else
  if f = 40 then (match xs with | [.agg [.int _ a, .int _ b, .int _ c, .int _ d]] => some (RV.d (DV.bool (Rc.empty ⟨a, b, c, d⟩))) | _ => none) else
  if f = 46 then (match xs with | [.agg [.int _ a, .int _ b, .int _ c, .int _ d]] => some (RV.agg [DV.int .i64 ((Rc.clean ⟨a, b, c, d⟩).a), DV.int .i64 ((Rc.clean ⟨a, b, c, d⟩).b), DV.int .i64 ((Rc.clean ⟨a, b, c, d⟩).c), DV.int .i64 ((Rc.clean ⟨a, b, c, d⟩).d)]) | _ => none) else
  if f = 60 then (match xs with | [.agg [.int _ a, .int _ b, .int _ c, .int _ d]] => some (RV.d (DV.int .i64 (Rc.area ⟨a, b, c, d⟩))) | _ => none) else
  if f = 31 then (match xs with | [.agg [.int _ a, .int _ b, .int _ c, .int _ d], .agg [.int _ a', .int _ b', .int _ c', .int _ d']] => some (RV.agg [DV.int .i64 ((Rc.inter ⟨a, b, c, d⟩ ⟨a', b', c', d'⟩).a), DV.int .i64 ((Rc.inter ⟨a, b, c, d⟩ ⟨a', b', c', d'⟩).b), DV.int .i64 ((Rc.inter ⟨a, b, c, d⟩ ⟨a', b', c', d'⟩).c), DV.int .i64 ((Rc.inter ⟨a, b, c, d⟩ ⟨a', b', c', d'⟩).d)]) | _ => none) else
  if f = 41 then (match xs with | [.agg [.int _ a, .int _ b, .int _ c, .int _ d]] => some (RV.d (DV.bool (Rc.empty ⟨a, b, c, d⟩))) | _ => none) else
  if f = 47 then (match xs with | [.agg [.int _ a, .int _ b, .int _ c, .int _ d]] => some (RV.agg [DV.int .i64 ((Rc.clean ⟨a, b, c, d⟩).a), DV.int .i64 ((Rc.clean ⟨a, b, c, d⟩).b), DV.int .i64 ((Rc.clean ⟨a, b, c, d⟩).c), DV.int .i64 ((Rc.clean ⟨a, b, c, d⟩).d)]) | _ => none) else
  if f = 70 then (match xs with | [.agg [.int _ a, .int _ b, .int _ c, .int _ d]] => some (RV.d (DV.int .i64 (Rc.area ⟨a, b, c, d⟩))) | _ => none) else
  if f = 32 then (match xs with | [.agg [.int _ a, .int _ b, .int _ c, .int _ d], .agg [.int _ a', .int _ b', .int _ c', .int _ d']] => some (RV.agg [DV.int .i64 ((Rc.inter ⟨a, b, c, d⟩ ⟨a', b', c', d'⟩).a), DV.int .i64 ((Rc.inter ⟨a, b, c, d⟩ ⟨a', b', c', d'⟩).b), DV.int .i64 ((Rc.inter ⟨a, b, c, d⟩ ⟨a', b', c', d'⟩).c), DV.int .i64 ((Rc.inter ⟨a, b, c, d⟩ ⟨a', b', c', d'⟩).d)]) | _ => none) else
  if f = 35 then (match xs with | [.d (.sl n xs)] => some (RV.agg [DV.int .i64 ((hullL (toRcs xs)).a), DV.int .i64 ((hullL (toRcs xs)).b), DV.int .i64 ((hullL (toRcs xs)).c), DV.int .i64 ((hullL (toRcs xs)).d)]) | _ => none) else
  if f = 54 then (match xs with | [.d (.sl n xs)] => some (RV.agg [DV.int .i64 ((hullL (toRcs xs)).a), DV.int .i64 ((hullL (toRcs xs)).b), DV.int .i64 ((hullL (toRcs xs)).c), DV.int .i64 ((hullL (toRcs xs)).d)]) | _ => none) else
  if f = 19 then (match xs with | [.agg [.int _ n0, .int _ n1, .int _ n2, .int _ n3]] => some (RV.agg [DV.int .i64 ((genRc n0 n1 n2 n3).a), DV.int .i64 ((genRc n0 n1 n2 n3).b), DV.int .i64 ((genRc n0 n1 n2 n3).c), DV.int .i64 ((genRc n0 n1 n2 n3).d)]) | _ => none) else
  if f = 42 then (match xs with | [.d (.sl n xs), .d (.int _ i)] => some (RV.d (DV.int .i64 (atS (ints xs) i))) | _ => none) else
  if f = 24 then (match xs with | [] => some (RV.tup [RV.tup [RV.d (DV.int .i64 3), RV.d (DV.int .i64 1)]]) | [.d (.sl n xs), .d (.int _ m)] => some (RV.d (DV.sl ((permL (ints xs) m).length) (is (permL (ints xs) m)))) | _ => none) else
  if f = 62 then (match xs with | [.agg [.int _ a, .int _ b, .int _ c, .int _ d], .d (.int _ w), .d (.int _ h)] => some (RV.tup [RV.d (DV.int .i64 ((cntS ⟨a, b, c, d⟩ w h).1)), RV.d (DV.int .i64 ((cntS ⟨a, b, c, d⟩ w h).2.1)), RV.d (DV.bool ((cntS ⟨a, b, c, d⟩ w h).2.2))]) | _ => none) else
  if f = 23 then (match xs with | [.agg [.int _ a, .int _ b, .int _ c, .int _ d], .d (.int _ w), .d (.int _ h)] => some (RV.tup [RV.d (DV.int .i64 ((cntS ⟨a, b, c, d⟩ w h).1)), RV.d (DV.int .i64 ((cntS ⟨a, b, c, d⟩ w h).2.1)), RV.d (DV.bool ((cntS ⟨a, b, c, d⟩ w h).2.2))]) | _ => none) else
  if f = 48 then (match xs with | [.agg [.int _ bits, .int _ cx0, .int _ cy0, .int _ cx1, .int _ cy1, .int _ tw, .int _ th, .sl on oxs, .sl mn mxs, .sl pn pxs]] => some (RV.d (DV.int .i64 (frameE bits ⟨cx0, cy0, cx1, cy1⟩ tw th (ints oxs) mn pn))) | _ => none) else
  if f = 51 then (match xs with | [.agg [.int _ bits, .int _ cx0, .int _ cy0, .int _ cx1, .int _ cy1, .int _ tw, .int _ th, .sl on oxs, .sl mn mxs, .sl pn pxs]] => some (RV.d (DV.int .i64 (frameE bits ⟨cx0, cy0, cx1, cy1⟩ tw th (ints oxs) mn pn))) | _ => none) else
  if f = 33 then (match xs with | [.agg [.int _ bits, .int _ cx0, .int _ cy0, .int _ cx1, .int _ cy1, .int _ tw, .int _ th, .sl on oxs, .sl mn mxs, .sl pn pxs]] => some (RV.tup [RV.d (DV.int .i64 ((opsE bits ⟨cx0, cy0, cx1, cy1⟩ tw th (ints oxs) mn (toOps pxs)).1)), RV.d (DV.int .i64 ((opsE bits ⟨cx0, cy0, cx1, cy1⟩ tw th (ints oxs) mn (toOps pxs)).2))]) | _ => none) else
  if f = 36 then (match xs with | [.agg [.int _ bits, .int _ cx0, .int _ cy0, .int _ cx1, .int _ cy1, .int _ tw, .int _ th, .sl on oxs, .sl mn mxs, .sl pn pxs]] => some (RV.tup [RV.d (DV.int .i64 ((opsE bits ⟨cx0, cy0, cx1, cy1⟩ tw th (ints oxs) mn (toOps pxs)).1)), RV.d (DV.int .i64 ((opsE bits ⟨cx0, cy0, cx1, cy1⟩ tw th (ints oxs) mn (toOps pxs)).2))]) | _ => none) else
  none
 modes := fun f =>
  if f = 63 then some ([true, true], 0, 1) else
  if f = 72 then some ([true, true], 0, 1) else
  none
 proc := fun f xs bs =>
  if f = 63 then (match xs, bs with | [AV.one (Cl.d (DV.sl n xs)), AV.one (Cl.d (DV.int _ m))], [] => some ⟨AV.tup [AV.one (Cl.ref 0 ((orderL (ints xs) m).length)), AV.one (Cl.d (DV.bool (orderOk (ints xs) m)))], [Bx.row 3 1 (is (orderL (ints xs) m))], true⟩ | _, _ => none) else
  if f = 72 then (match xs, bs with | [AV.one (Cl.d (DV.sl n xs)), AV.one (Cl.d (DV.int _ m))], [] => some ⟨AV.tup [AV.one (Cl.ref 0 ((orderL (ints xs) m).length)), AV.one (Cl.d (DV.bool (orderOk (ints xs) m)))], [Bx.row 3 1 (is (orderL (ints xs) m))], true⟩ | _, _ => none) else
  none
 iter := fun f cs =>
  none

def validate_Ops_ann (bits : Int) (cx0 : Int) (cy0 : Int) (cx1 : Int) (cy1 : Int) (tw : Int) (th : Int) (on : Nat) (oxs : List DV) (mn : Nat) (mxs : List DV) (pn : Nat) (pxs : List DV) : Ann := (Ann.seq Ann.leaf (Ann.seq Ann.leaf (Ann.seq Ann.leaf (Ann.seq (Ann.seq Ann.leaf (Ann.loop ⟨Nat × List Oq, fun z : Nat × List Oq => z.1 ≤ pn ∧ z.2.length ≤ 64 ∧ runO bits mn ((toOps pxs).drop z.1) (z.1 : Int) z.2 = runO bits mn (toOps pxs) 0 [], fun z : Nat × List Oq => ⟨[(1, AV.one (Cl.ptr 1 0)), (5, AV.one (Cl.ref 1005 z.2.length)), (15, AV.one (Cl.d (DV.sl pn pxs))), (16, AV.one (Cl.d (DV.int .i64 ((pn : Nat) : Int)))), (17, AV.one (Cl.d (DV.int .i64 ((z.1 : Nat) : Int))))], [(1, Bx.cells [Cl.d (DV.int .i64 bits), Cl.d (DV.int .i64 cx0), Cl.d (DV.int .i64 cy0), Cl.d (DV.int .i64 cx1), Cl.d (DV.int .i64 cy1), Cl.d (DV.int .i64 tw), Cl.d (DV.int .i64 th), Cl.d (DV.sl on oxs), Cl.d (DV.sl mn mxs), Cl.d (DV.sl pn pxs)]), (1005, Bx.row 29 12 (ops z.2))]⟩, fun z : Nat × List Oq => pn - z.1⟩ fun z => Ann.leaf)) Ann.leaf))))
theorem validate_Ops_vc (bits : Int) (cx0 : Int) (cy0 : Int) (cx1 : Int) (cy1 : Int) (tw : Int) (th : Int) (on : Nat) (oxs : List DV) (mn : Nat) (mxs : List DV) (pn : Nat) (pxs : List DV) : vcg Tryd.prog gamVe 52 (bodyOf Tryd.f33) (validate_Ops_ann bits cx0 cy0 cx1 cy1 tw th on oxs mn mxs pn pxs) kn0 (start [RV.agg [DV.int .i64 bits, DV.int .i64 cx0, DV.int .i64 cy0, DV.int .i64 cx1, DV.int .i64 cy1, DV.int .i64 tw, DV.int .i64 th, DV.sl on oxs, DV.sl mn mxs, DV.sl pn pxs]]) (post Tryd.prog Tryd.f33.results.toList (· = RV.tup [RV.d (DV.int .i64 ((opsE bits ⟨cx0, cy0, cx1, cy1⟩ tw th (ints oxs) mn (toOps pxs)).1)), RV.d (DV.int .i64 ((opsE bits ⟨cx0, cy0, cx1, cy1⟩ tw th (ints oxs) mn (toOps pxs)).2))])) =
  (let zz0 := [DV.int .i64 bits, DV.int .i64 cx0, DV.int .i64 cy0, DV.int .i64 cx1, DV.int .i64 cy1, DV.int .i64 tw, DV.int .i64 th, DV.sl on oxs, DV.sl mn mxs, DV.sl pn pxs]; let zz1 := (DV.int .i64 (frameE bits ⟨cx0, cy0, cx1, cy1⟩ tw th (ints oxs) mn pn)); let zz2 := [RV.d (DV.int .i64 ((opsE bits ⟨cx0, cy0, cx1, cy1⟩ tw th (ints oxs) mn (toOps pxs)).1)), RV.d (DV.int .i64 ((opsE bits ⟨cx0, cy0, cx1, cy1⟩ tw th (ints oxs) mn (toOps pxs)).2))]; let zz3 := fun (z : Nat × List Oq) => (z.1 ≤ pn ∧ z.2.length ≤ 64 ∧ runO bits mn ((toOps pxs).drop z.1) (z.1 : Int) z.2 = runO bits mn (toOps pxs) 0 []); let zz4 := (DV.sl pn pxs = DV.sl pn pxs); let zz5 := (DV.int .i64 ((pn : Nat) : Int) = DV.int .i64 ((pn : Nat) : Int)); let zz6 := (zz0 = zz0); let zz7 := fun (z' : Nat × List Oq) => (z'.1 ≤ pn ∧ z'.2.length ≤ 64 ∧ runO bits mn ((toOps pxs).drop z'.1) (z'.1 : Int) z'.2 = runO bits mn (toOps pxs) 0 []); let zz8 := fun (z : Nat × List Oq) => fun (z' : Nat × List Oq) => (DV.int .i64 (IntKind.wrap .i64 (((z.1 : Nat) : Int) + (1 : Int))) = DV.int .i64 ((z'.1 : Nat) : Int)); True ∧ True ∧ True ∧ True ∧ (Ans Tryd.prog 48 [RV.agg zz0] (RV.d zz1)) ∧ True ∧ True ∧ True ∧ ((((frameE bits ⟨cx0, cy0, cx1, cy1⟩ tw th (ints oxs) mn pn) != (0 : Int)) = true → True ∧ True ∧ True ∧ RV.tup [RV.d zz1, RV.d (DV.int .i64 0)] = RV.tup zz2) ∧ (((frameE bits ⟨cx0, cy0, cx1, cy1⟩ tw th (ints oxs) mn pn) != (0 : Int)) = false → True ∧ True ∧ True ∧ True ∧ True ∧ ((∃ z : Nat × List Oq, (zz3 z) ∧ (((0 = 0) ∧ (0 = z.2.length) ∧ zz4 ∧ zz5 ∧ (DV.int .i64 0 = DV.int .i64 ((z.1 : Nat) : Int)) ∧ True) ∧ (zz6 ∧ ([] = ops z.2) ∧ True))) ∧ ∀ z : Nat × List Oq, (zz3 z) → True ∧ (((decide (((z.1 : Nat) : Int) < ((pn : Nat) : Int))) = true → True ∧ (0 ≤ ((z.1 : Nat) : Int) ∧ ((z.1 : Nat) : Int) < ((pn : Nat) : Int) ∧ ((z.1 : Nat) : Int).toNat * 12 < pxs.length) ∧ ((pxs[((z.1 : Nat) : Int).toNat * 12]? = some (DV.int .i64 (nAt pxs (((z.1 : Nat) : Int).toNat * 12)))) ∧ (pxs[((z.1 : Nat) : Int).toNat * 12 + 1]? = some (DV.int .i64 (nAt pxs (((z.1 : Nat) : Int).toNat * 12 + 1)))) ∧ (pxs[((z.1 : Nat) : Int).toNat * 12 + 1 + 1]? = some (DV.int .i64 (nAt pxs (((z.1 : Nat) : Int).toNat * 12 + 1 + 1)))) ∧ (pxs[((z.1 : Nat) : Int).toNat * 12 + 1 + 1 + 1]? = some (DV.int .i64 (nAt pxs (((z.1 : Nat) : Int).toNat * 12 + 1 + 1 + 1)))) ∧ (pxs[((z.1 : Nat) : Int).toNat * 12 + 1 + 1 + 1 + 1]? = some (DV.int .i64 (nAt pxs (((z.1 : Nat) : Int).toNat * 12 + 1 + 1 + 1 + 1)))) ∧ (pxs[((z.1 : Nat) : Int).toNat * 12 + 1 + 1 + 1 + 1 + 1]? = some (DV.int .i64 (nAt pxs (((z.1 : Nat) : Int).toNat * 12 + 1 + 1 + 1 + 1 + 1)))) ∧ (pxs[((z.1 : Nat) : Int).toNat * 12 + 1 + 1 + 1 + 1 + 1 + 1]? = some (DV.int .i64 (nAt pxs (((z.1 : Nat) : Int).toNat * 12 + 1 + 1 + 1 + 1 + 1 + 1)))) ∧ (pxs[((z.1 : Nat) : Int).toNat * 12 + 1 + 1 + 1 + 1 + 1 + 1 + 1]? = some (DV.int .u16 (nAt pxs (((z.1 : Nat) : Int).toNat * 12 + 1 + 1 + 1 + 1 + 1 + 1 + 1)))) ∧ (pxs[((z.1 : Nat) : Int).toNat * 12 + 1 + 1 + 1 + 1 + 1 + 1 + 1 + 1]? = some (DV.int .i64 (nAt pxs (((z.1 : Nat) : Int).toNat * 12 + 1 + 1 + 1 + 1 + 1 + 1 + 1 + 1)))) ∧ (pxs[((z.1 : Nat) : Int).toNat * 12 + 1 + 1 + 1 + 1 + 1 + 1 + 1 + 1 + 1]? = some (DV.int .i64 (nAt pxs (((z.1 : Nat) : Int).toNat * 12 + 1 + 1 + 1 + 1 + 1 + 1 + 1 + 1 + 1)))) ∧ (pxs[((z.1 : Nat) : Int).toNat * 12 + 1 + 1 + 1 + 1 + 1 + 1 + 1 + 1 + 1 + 1]? = some (DV.bool (bAt pxs (((z.1 : Nat) : Int).toNat * 12 + 1 + 1 + 1 + 1 + 1 + 1 + 1 + 1 + 1 + 1)))) ∧ (pxs[((z.1 : Nat) : Int).toNat * 12 + 1 + 1 + 1 + 1 + 1 + 1 + 1 + 1 + 1 + 1 + 1]? = some (DV.bool (bAt pxs (((z.1 : Nat) : Int).toNat * 12 + 1 + 1 + 1 + 1 + 1 + 1 + 1 + 1 + 1 + 1 + 1)))) ∧ True) ∧ True ∧ True ∧ True ∧ True ∧ True ∧ True ∧ (Ans Tryd.prog 49 [RV.agg zz0, RV.d (DV.int .i64 ((z.1 : Nat) : Int)), RV.d (DV.sl z.2.length (ops z.2))] (RV.d (DV.int .i64 (opErr bits mn (toOps pxs) ((z.1 : Nat) : Int) (toOps (ops z.2)))))) ∧ True ∧ True ∧ True ∧ ((((opErr bits mn (toOps pxs) ((z.1 : Nat) : Int) (toOps (ops z.2))) != (0 : Int)) = true → True ∧ True ∧ True ∧ True ∧ RV.tup [RV.d (DV.int .i64 (opErr bits mn (toOps pxs) ((z.1 : Nat) : Int) (toOps (ops z.2)))), RV.d (DV.int .i64 ((z.1 : Nat) : Int))] = RV.tup zz2) ∧ (((opErr bits mn (toOps pxs) ((z.1 : Nat) : Int) (toOps (ops z.2))) != (0 : Int)) = false → True ∧ True ∧ True ∧ True ∧ ((((nAt pxs (((z.1 : Nat) : Int).toNat * 12)) == (2 : Int)) = true → True ∧ True ∧ True ∧ (appVc 12 88 z.2.length 1 (ops z.2) ([DV.int .i64 (nAt pxs (((z.1 : Nat) : Int).toNat * 12)), DV.int .i64 (nAt pxs (((z.1 : Nat) : Int).toNat * 12 + 1)), DV.int .i64 (nAt pxs (((z.1 : Nat) : Int).toNat * 12 + 1 + 1)), DV.int .i64 (nAt pxs (((z.1 : Nat) : Int).toNat * 12 + 1 + 1 + 1)), DV.int .i64 (nAt pxs (((z.1 : Nat) : Int).toNat * 12 + 1 + 1 + 1 + 1)), DV.int .i64 (nAt pxs (((z.1 : Nat) : Int).toNat * 12 + 1 + 1 + 1 + 1 + 1)), DV.int .i64 (nAt pxs (((z.1 : Nat) : Int).toNat * 12 + 1 + 1 + 1 + 1 + 1 + 1)), DV.int .u16 (nAt pxs (((z.1 : Nat) : Int).toNat * 12 + 1 + 1 + 1 + 1 + 1 + 1 + 1)), DV.int .i64 (nAt pxs (((z.1 : Nat) : Int).toNat * 12 + 1 + 1 + 1 + 1 + 1 + 1 + 1 + 1)), DV.int .i64 (nAt pxs (((z.1 : Nat) : Int).toNat * 12 + 1 + 1 + 1 + 1 + 1 + 1 + 1 + 1 + 1)), DV.bool (bAt pxs (((z.1 : Nat) : Int).toNat * 12 + 1 + 1 + 1 + 1 + 1 + 1 + 1 + 1 + 1 + 1)), DV.bool (bAt pxs (((z.1 : Nat) : Int).toNat * 12 + 1 + 1 + 1 + 1 + 1 + 1 + 1 + 1 + 1 + 1 + 1))])) ∧ True ∧ True ∧ True ∧ ∃ z' : Nat × List Oq, (zz7 z') ∧ (pn - z'.1 < pn - z.1) ∧ (((0 = 0) ∧ (z.2.length + 1 = z'.2.length) ∧ zz4 ∧ zz5 ∧ (zz8 z z') ∧ True) ∧ (zz6 ∧ ((ops z.2) ++ ([DV.int .i64 (nAt pxs (((z.1 : Nat) : Int).toNat * 12)), DV.int .i64 (nAt pxs (((z.1 : Nat) : Int).toNat * 12 + 1)), DV.int .i64 (nAt pxs (((z.1 : Nat) : Int).toNat * 12 + 1 + 1)), DV.int .i64 (nAt pxs (((z.1 : Nat) : Int).toNat * 12 + 1 + 1 + 1)), DV.int .i64 (nAt pxs (((z.1 : Nat) : Int).toNat * 12 + 1 + 1 + 1 + 1)), DV.int .i64 (nAt pxs (((z.1 : Nat) : Int).toNat * 12 + 1 + 1 + 1 + 1 + 1)), DV.int .i64 (nAt pxs (((z.1 : Nat) : Int).toNat * 12 + 1 + 1 + 1 + 1 + 1 + 1)), DV.int .u16 (nAt pxs (((z.1 : Nat) : Int).toNat * 12 + 1 + 1 + 1 + 1 + 1 + 1 + 1)), DV.int .i64 (nAt pxs (((z.1 : Nat) : Int).toNat * 12 + 1 + 1 + 1 + 1 + 1 + 1 + 1 + 1)), DV.int .i64 (nAt pxs (((z.1 : Nat) : Int).toNat * 12 + 1 + 1 + 1 + 1 + 1 + 1 + 1 + 1 + 1)), DV.bool (bAt pxs (((z.1 : Nat) : Int).toNat * 12 + 1 + 1 + 1 + 1 + 1 + 1 + 1 + 1 + 1 + 1)), DV.bool (bAt pxs (((z.1 : Nat) : Int).toNat * 12 + 1 + 1 + 1 + 1 + 1 + 1 + 1 + 1 + 1 + 1 + 1))]) = ops z'.2) ∧ True))) ∧ (((nAt pxs (((z.1 : Nat) : Int).toNat * 12)) == (2 : Int)) = false → True ∧ True ∧ ((((nAt pxs (((z.1 : Nat) : Int).toNat * 12)) == (3 : Int)) = true → True ∧ True ∧ (z.2.length ≤ maxLen) ∧ True ∧ (0 ≤ IntKind.wrap .i64 (((z.2.length : Nat) : Int) - (1 : Int)) ∧ IntKind.wrap .i64 (((z.2.length : Nat) : Int) - (1 : Int)) ≤ ((z.2.length : Nat) : Int)) ∧ True ∧ True ∧ True ∧ ∃ z' : Nat × List Oq, (zz7 z') ∧ (pn - z'.1 < pn - z.1) ∧ (((0 = 0) ∧ ((IntKind.wrap .i64 (((z.2.length : Nat) : Int) - (1 : Int))).toNat = z'.2.length) ∧ zz4 ∧ zz5 ∧ (zz8 z z') ∧ True) ∧ (zz6 ∧ (List.take ((IntKind.wrap .i64 (((z.2.length : Nat) : Int) - (1 : Int))).toNat * 12) (ops z.2) = ops z'.2) ∧ True))) ∧ (((nAt pxs (((z.1 : Nat) : Int).toNat * 12)) == (3 : Int)) = false → True ∧ True ∧ ∃ z' : Nat × List Oq, (zz7 z') ∧ (pn - z'.1 < pn - z.1) ∧ (((0 = 0) ∧ (z.2.length = z'.2.length) ∧ zz4 ∧ zz5 ∧ (zz8 z z') ∧ True) ∧ (zz6 ∧ (ops z.2 = ops z'.2) ∧ True))))))))) ∧ ((decide (((z.1 : Nat) : Int) < ((pn : Nat) : Int))) = false → True ∧ (z.2.length ≤ maxLen) ∧ True ∧ (((decide (((z.2.length : Nat) : Int) > (0 : Int))) = true → True ∧ True ∧ True ∧ True ∧ True ∧ (true = true) ∧ RV.tup [RV.d (DV.int .i64 18), RV.d (DV.int .i64 ((pn : Nat) : Int))] = RV.tup zz2) ∧ ((decide (((z.2.length : Nat) : Int) > (0 : Int))) = false → True ∧ True ∧ RV.tup [RV.d (DV.int .i64 0), RV.d (DV.int .i64 0)] = RV.tup zz2)))))))) := by kernel_rfl
theorem validate_Ops_ans (bits : Int) (cx0 : Int) (cy0 : Int) (cx1 : Int) (cy1 : Int) (tw : Int) (th : Int) (on : Nat) (oxs : List DV) (mn : Nat) (mxs : List DV) (pn : Nat) (pxs : List DV) (hP : pxs = ops (toOps pxs) ∧ pn = (toOps pxs).length) (hO : oxs = is (ints oxs) ∧ on = oxs.length) : Ans Tryd.prog 33 [RV.agg [DV.int .i64 bits, DV.int .i64 cx0, DV.int .i64 cy0, DV.int .i64 cx1, DV.int .i64 cy1, DV.int .i64 tw, DV.int .i64 th, DV.sl on oxs, DV.sl mn mxs, DV.sl pn pxs]] (RV.tup [RV.d (DV.int .i64 ((opsE bits ⟨cx0, cy0, cx1, cy1⟩ tw th (ints oxs) mn (toOps pxs)).1)), RV.d (DV.int .i64 ((opsE bits ⟨cx0, cy0, cx1, cy1⟩ tw th (ints oxs) mn (toOps pxs)).2))]) :=
  ans_of_vcg (Γ := gamVe) (validate_Ops_ann bits cx0 cy0 cx1 cy1 tw th on oxs mn mxs pn pxs) mixed_ Tryd.func33 rfl (Nat.le_of_ble_eq_true rfl) fun hwf => by
    refine Eq.mpr (validate_Ops_vc bits cx0 cy0 cx1 cy1 tw th on oxs mn mxs pn pxs) ?_
    simp only [true_and, and_true, RV.d.injEq, RV.agg.injEq, RV.tup.injEq, DV.bool.injEq, DV.int.injEq, DV.sl.injEq, List.cons.injEq, forall_const, Bool.not_false, Bool.not_true, Bool.not_eq_true', Bool.not_eq_false', decide_eq_true_eq, decide_eq_false_iff_not, Int.toNat_natCast, toOps_ops]
    obtain ⟨hP, rfl⟩ := hP
    have hfr := validate_Frame_ans bits cx0 cy0 cx1 cy1 tw th on oxs mn mxs (toOps pxs).length pxs hO
    have hop := fun i st => validate_Op_ans bits cx0 cy0 cx1 cy1 tw th on oxs mn mxs (toOps pxs).length pxs i (List.length st) (ops st) ⟨hP, rfl⟩ ⟨by rw [toOps_ops], by rw [toOps_ops]⟩
    simp only [toOps_ops] at hop
    generalize toOps pxs = ps at *
    subst hP
    simp only [RV.wfs, RV.wf, DV.wf, DV.wfs, maxLen] at hwf
    have hpl : ps.length ≤ 9223372036854775807 := by omega
    have hE : ∀ E : Int, frameE bits ⟨cx0, cy0, cx1, cy1⟩ tw th (ints oxs) mn ps.length = E → opsE bits ⟨cx0, cy0, cx1, cy1⟩ tw th (ints oxs) mn ps = if E = 0 then runO bits mn ps 0 [] else (E, 0) := fun E h => by unfold opsE; rw [h]
    generalize frameE bits ⟨cx0, cy0, cx1, cy1⟩ tw th (ints oxs) mn ps.length = FE at *
    rw [hE FE rfl]
    clear hE
    refine ⟨hfr, fun hne => ?_, fun he => ⟨?_, fun z hz => ⟨fun hlt => ?_, fun hge => ?_⟩⟩⟩
    · have : FE ≠ 0 := by simpa using hne
      simp [this]
    · exact ⟨(0, []), ⟨Nat.zero_le _, Nat.zero_le _, rfl⟩, ⟨rfl, rfl⟩, rfl⟩
    · obtain ⟨k, st⟩ := z
      obtain ⟨z1, z2, z3⟩ := hz
      simp only at *
      have hk : k < ps.length := by omega
      have q1 := ops_rd hk
      have q2 := ops_at hk
      have q3 := ops_length ps
      have q4 := ops_length st
      have hoe : opErr bits mn ps ((k : Nat) : Int) st = errO bits mn ps[k] st := by unfold opErr; rw [if_pos (by omega), Int.toNat_natCast, List.getElem?_eq_getElem hk]
      have hop1 := hop ((k : Nat) : Int) st
      have hd : ps.drop k = ps[k] :: ps.drop (k + 1) := List.drop_eq_getElem_cons hk
      rw [hd] at z3
      simp only [runO] at z3
      simp only [hoe] at hop1 ⊢
      have hF : FE = 0 := by simpa using he
      have hpush : errO bits mn ps[k] st = 0 → ps[k].kind = 2 → st.length < 64 := fun h1 h2 => by
        unfold errO at h1
        grind
      have hpop : errO bits mn ps[k] st = 0 → ps[k].kind = 3 → st ≠ [] := fun h1 h2 => by
        unfold errO at h1
        grind
      have w1 : IntKind.wrap .i64 (((k : Nat) : Int) + 1) = ((k + 1 : Nat) : Int) := by rw [IntKind.wrap_i64]; omega
      simp only [q2, hF, if_true]
      refine ⟨⟨by omega, by omega, by omega⟩, q1, hop1, fun hne => ?_, fun h0 => ?_⟩
      · have h0 : errO bits mn ps[k] st ≠ 0 := by simpa using hne
        rw [if_neg h0] at z3
        rw [← z3]; exact ⟨rfl, rfl⟩
      · have h0 : errO bits mn ps[k] st = 0 := by simpa using h0
        rw [if_pos h0] at z3
        have s2 : ps[k].kind = 2 → runO bits mn (ps.drop (k + 1)) ((k + 1 : Nat) : Int) (st ++ [ps[k]]) = runO bits mn ps 0 [] := fun h => by
          rw [← z3]; simp [stepO, h]
        have s3 : ps[k].kind = 3 → runO bits mn (ps.drop (k + 1)) ((k + 1 : Nat) : Int) st.dropLast = runO bits mn ps 0 [] := fun h => by
          rw [← z3]; simp [stepO, h]
        have s1 : ps[k].kind ≠ 2 → ps[k].kind ≠ 3 → runO bits mn (ps.drop (k + 1)) ((k + 1 : Nat) : Int) st = runO bits mn ps 0 [] := fun h h' => by
          rw [← z3]; simp [stepO, h, h']
        have hd2 : st ≠ [] → IntKind.wrap .i64 (((st.length : Nat) : Int) - 1) = ((st.length - 1 : Nat) : Int) := fun h => by
          have := List.length_pos_iff.2 h
          rw [IntKind.wrap_i64]; omega
        have hd3 : (ops st).take ((st.length - 1) * 12) = ops st.dropLast := by rw [ops_take, List.dropLast_eq_take]
        have cells : ops [ps[k]] = ps[k].cells := by simp [ops]
        refine ⟨fun h2 => ?_, fun h2 => ⟨fun h3 => ?_, fun h3 => ?_⟩⟩
        · have h2 : ps[k].kind = 2 := by simpa using h2
          have hl := hpush h0 h2
          refine ⟨⟨by rw [q4], rfl, by simp only [maxLen]; omega, by omega⟩, (k + 1, st ++ [ps[k]]), ⟨by omega, by simp; omega, s2 h2⟩, by omega, ⟨by simp, w1⟩, by rw [ops_append, cells]; rfl⟩
        · have h3 : ps[k].kind = 3 := by simpa using h3
          have hne := hpop h0 h3
          rw [hd2 hne]
          simp only [Int.toNat_natCast]
          refine ⟨by simp only [maxLen]; omega, ⟨by omega, by omega⟩, (k + 1, st.dropLast), ⟨by omega, by simp; omega, s3 h3⟩, by omega, ⟨by simp, w1⟩, hd3⟩
        · have h2 : ps[k].kind ≠ 2 := by simpa using h2
          have h3 : ps[k].kind ≠ 3 := by simpa using h3
          exact ⟨(k + 1, st), ⟨by omega, z2, s1 h2 h3⟩, by omega, ⟨rfl, w1⟩, rfl⟩
    · obtain ⟨k, st⟩ := z
      obtain ⟨z1, z2, z3⟩ := hz
      simp only at *
      have hk : k = ps.length := by omega
      subst hk
      rw [List.drop_length] at z3
      simp only [runO] at z3
      have hF : FE = 0 := by simpa using he
      simp only [hF, if_true]
      rw [← z3]
      refine ⟨by simp only [maxLen]; omega, fun h => ?_, fun h => ?_⟩
      · have : st ≠ [] := fun e => by subst e; simp at h
        simp [this]
      · have : st = [] := List.length_eq_zero_iff.1 (by omega)
        simp [this]

end Go.Proofs.YtcaokljobfkajaaDoor

