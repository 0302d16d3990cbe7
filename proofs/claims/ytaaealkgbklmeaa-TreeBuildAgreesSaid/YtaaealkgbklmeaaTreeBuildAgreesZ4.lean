/-
  Part 4 of what TreeBuildAgrees rests on.
-/
import Derived.Test.YtaaealkgbklmeaaTreeBuildAgreesZ3
import Derived.Test.YtaaealkgbklmeaaRows
import Derived.JoinedOf
import Derived.KernelRfl
/-
  The levels of the nodes of a forest.
-/
namespace Go.Proofs.Ytaaealkgbklmeaa
open Go.RowKit
set_option linter.unusedVariables false
set_option linter.unusedSimpArgs false
attribute [local irreducible] Ans AnsO AnsG AnsN AnsI
set_option maxRecDepth 4000
theorem kid_rd {l : Nodes} {k : Nat} (h : k < l.length) : (nodesD l)[k * 13 + 12]? = some (DV.sl l[k].2.length (is l[k].2)) := by rw [nodesD_get h 12 (by omega)]; rfl
theorem kid_l {l : Nodes} {k : Nat} (h : k < l.length) : lAt (nodesD l) (k * 13 + 12) = l[k].2.length := by simp only [lAt, kid_rd h]
theorem kid_c {l : Nodes} {k : Nat} (h : k < l.length) : cAt (nodesD l) (k * 13 + 12) = is l[k].2 := by simp only [cAt, kid_rd h]
def gamTv : Gam where
 pure := fun f xs =>
  if f = 21 then (match xs with | [.agg [.sl an axs, .sl ar ars]] => some (RV.tup [RV.d (DV.sl ((parP (toNodes (axs)) (ints (ars))).1.length) (is (parP (toNodes (axs)) (ints (ars))).1)), RV.d (DV.bool ((parP (toNodes (axs)) (ints (ars))).2))]) | _ => none) else
  if f = 27 then (match xs with | [] => some (RV.tup [RV.tup [RV.d (DV.int .i64 3), RV.d (DV.int .i64 1)]]) | [.d (.sl n xs)] => some (RV.d (DV.sl n xs)) | _ => none) else
  none
 modes := fun f =>
  none
 proc := fun f xs bs =>
  none
 iter := fun f cs =>
  none
def tree_levels_ann (ns : Nodes) (rs : List Int) : Ann := let zz0 := (6, AV.one (Cl.ref 23 ns.length)); let zz1 := (1, Bx.cells [Cl.d (DV.sl ns.length (nodesD ns)), Cl.d (DV.sl rs.length (is rs))]); let zz2 := fun (y : Nat × List Int × List Int) => (10, AV.one (Cl.d (DV.int .i64 ((y.1 : Nat) : Int)))); (Ann.seq Ann.leaf (Ann.seq Ann.leaf (Ann.seq Ann.leaf (Ann.seq Ann.leaf (Ann.seq (Ann.seq Ann.leaf (Ann.loop ⟨Nat × List Int, fun z : Nat × List Int => z.1 ≤ rs.length ∧ z.2.length = ns.length ∧ lev1 (rs.drop z.1) z.2 = lev1 rs (List.replicate ns.length 0), fun z : Nat × List Int => ⟨[(1, AV.one (Cl.ptr 1 0)), zz0, (7, AV.one (Cl.ref 26 rs.length)), (27, AV.one (Cl.ref 26 rs.length)), (28, AV.one (Cl.d (DV.int .i64 ((rs.length : Nat) : Int)))), (29, AV.one (Cl.d (DV.int .i64 ((z.1 : Nat) : Int))))], [zz1, (23, Bx.row 3 1 (is z.2)), (26, Bx.row 3 1 (is rs))]⟩, fun z : Nat × List Int => rs.length - z.1⟩ fun z => Ann.leaf)) (Ann.seq (Ann.seq Ann.leaf (Ann.loop ⟨Nat × List Int × List Int, fun y : Nat × List Int × List Int => y.1 ≤ y.2.1.length ∧ y.2.2.length = ns.length ∧ LevOK ns rs y.1 y.2.1 ∧ levGo ns (ns.length - y.1) y.1 y.2.1 y.2.2 = levR ns rs, fun y : Nat × List Int × List Int => ⟨[(1, AV.one (Cl.ptr 1 0)), zz0, (7, AV.one (Cl.ref 9007 y.2.1.length)), (zz2 y)], [zz1, (23, Bx.row 3 1 (is y.2.2)), (9007, Bx.row 3 1 (is y.2.1))]⟩, fun y : Nat × List Int × List Int => ns.length - y.1⟩ fun y => (Ann.seq Ann.leaf (Ann.seq (Ann.seq Ann.leaf (Ann.loop ⟨Nat × List Int × List Int, fun x : Nat × List Int × List Int => x.1 ≤ (kidsAt ns (outAt y.2.1 (y.1 : Int))).length ∧ x.2.2.length = ns.length ∧ x.2.1 = y.2.1 ++ (kidsAt ns (outAt y.2.1 (y.1 : Int))).take x.1 ∧ levK (outAt y.2.1 (y.1 : Int)) ((kidsAt ns (outAt y.2.1 (y.1 : Int))).drop x.1) x.2.2 = levK (outAt y.2.1 (y.1 : Int)) (kidsAt ns (outAt y.2.1 (y.1 : Int))) y.2.2, fun x : Nat × List Int × List Int => ⟨[(1, AV.one (Cl.ptr 1 0)), zz0, (7, AV.one (Cl.ref 9008 x.2.1.length)), (zz2 y), (51, AV.one (Cl.d (DV.sl (lAt (nodesD ns) ((nAt (is y.2.1) (((y.1 : Nat) : Int).toNat * 1)).toNat * 13 + 12)) (cAt (nodesD ns) ((nAt (is y.2.1) (((y.1 : Nat) : Int).toNat * 1)).toNat * 13 + 12))))), (52, AV.one (Cl.d (DV.int .i64 ((lAt (nodesD ns) ((nAt (is y.2.1) (((y.1 : Nat) : Int).toNat * 1)).toNat * 13 + 12) : Nat) : Int)))), (53, AV.one (Cl.d (DV.int .i64 ((x.1 : Nat) : Int))))], [zz1, (23, Bx.row 3 1 (is x.2.2)), (9008, Bx.row 3 1 (is x.2.1))]⟩, fun x : Nat × List Int × List Int => (kidsAt ns (outAt y.2.1 (y.1 : Int))).length - x.1⟩ fun x => Ann.leaf)) Ann.leaf)))) Ann.leaf))))))
theorem tree_levels_vc (ns : Nodes) (rs : List Int) : vcg Try.prog gamTv 80 (bodyOf Try.f23) (tree_levels_ann ns rs) kn0 (start [RV.agg [DV.sl ns.length (nodesD ns), DV.sl rs.length (is rs)]]) (post Try.prog Try.f23.results.toList (· = RV.tup [RV.d (DV.sl ((levP (toNodes (nodesD ns)) (ints (is rs))).1.length) (is (levP (toNodes (nodesD ns)) (ints (is rs))).1)), RV.d (DV.bool ((levP (toNodes (nodesD ns)) (ints (is rs))).2))])) =
  (let zz0 := [DV.sl ns.length (nodesD ns), DV.sl rs.length (is rs)]; let zz1 := [RV.d (DV.sl ((levP (toNodes (nodesD ns)) (ints (is rs))).1.length) (is (levP (toNodes (nodesD ns)) (ints (is rs))).1)), RV.d (DV.bool ((levP (toNodes (nodesD ns)) (ints (is rs))).2))]; let zz2 := (List.replicate ns.length 0); let zz3 := fun (z : Nat × List Int) => (z.1 ≤ rs.length ∧ z.2.length = ns.length ∧ lev1 (rs.drop z.1) z.2 = lev1 rs zz2); let zz4 := (DV.int .i64 ((rs.length : Nat) : Int) = DV.int .i64 ((rs.length : Nat) : Int)); let zz5 := (zz0 = zz0); let zz6 := fun (y : Nat × List Int × List Int) => (y.1 ≤ y.2.1.length ∧ y.2.2.length = ns.length ∧ LevOK ns rs y.1 y.2.1 ∧ levGo ns (ns.length - y.1) y.1 y.2.1 y.2.2 = levR ns rs); let zz7 := fun (y : Nat × List Int × List Int) => fun (x : Nat × List Int × List Int) => (x.1 ≤ (kidsAt ns (outAt y.2.1 (y.1 : Int))).length ∧ x.2.2.length = ns.length ∧ x.2.1 = y.2.1 ++ (kidsAt ns (outAt y.2.1 (y.1 : Int))).take x.1 ∧ levK (outAt y.2.1 (y.1 : Int)) ((kidsAt ns (outAt y.2.1 (y.1 : Int))).drop x.1) x.2.2 = levK (outAt y.2.1 (y.1 : Int)) (kidsAt ns (outAt y.2.1 (y.1 : Int))) y.2.2); let zz8 := fun (y : Nat × List Int × List Int) => (DV.int .i64 ((y.1 : Nat) : Int) = DV.int .i64 ((y.1 : Nat) : Int)); let zz9 := fun (y : Nat × List Int × List Int) => (DV.sl (lAt (nodesD ns) ((nAt (is y.2.1) (((y.1 : Nat) : Int).toNat * 1)).toNat * 13 + 12)) (cAt (nodesD ns) ((nAt (is y.2.1) (((y.1 : Nat) : Int).toNat * 1)).toNat * 13 + 12)) = DV.sl (lAt (nodesD ns) ((nAt (is y.2.1) (((y.1 : Nat) : Int).toNat * 1)).toNat * 13 + 12)) (cAt (nodesD ns) ((nAt (is y.2.1) (((y.1 : Nat) : Int).toNat * 1)).toNat * 13 + 12))); let zz10 := fun (y : Nat × List Int × List Int) => (DV.int .i64 ((lAt (nodesD ns) ((nAt (is y.2.1) (((y.1 : Nat) : Int).toNat * 1)).toNat * 13 + 12) : Nat) : Int) = DV.int .i64 ((lAt (nodesD ns) ((nAt (is y.2.1) (((y.1 : Nat) : Int).toNat * 1)).toNat * 13 + 12) : Nat) : Int)); True ∧ True ∧ True ∧ True ∧ (Ans Try.prog 21 [RV.agg zz0] (RV.tup [RV.d (DV.sl ((parP (toNodes ((nodesD ns))) (ints ((is rs)))).1.length) (is (parP (toNodes ((nodesD ns))) (ints ((is rs)))).1)), RV.d (DV.bool ((parP (toNodes ((nodesD ns))) (ints ((is rs)))).2))])) ∧ True ∧ True ∧ True ∧ True ∧ True ∧ True ∧ True ∧ (((!((parP (toNodes ((nodesD ns))) (ints ((is rs)))).2)) = true → True ∧ True ∧ RV.tup [RV.d (DV.sl 0 ([])), RV.d (DV.bool false)] = RV.tup zz1) ∧ ((!((parP (toNodes ((nodesD ns))) (ints ((is rs)))).2)) = false → True ∧ True ∧ True ∧ (0 ≤ ((ns.length : Nat) : Int) ∧ ((ns.length : Nat) : Int) ≤ ((ns.length : Nat) : Int) ∧ ((ns.length : Nat) : Int) ≤ ((maxLen : Nat) : Int) ∧ ((8 : Nat) : Int) * ((ns.length : Nat) : Int) ≤ 281474976710656) ∧ True ∧ True ∧ True ∧ (AnsO Try.prog 27 [RV.d (DV.sl rs.length (is rs))] 3 1 rs.length (is rs)) ∧ True ∧ True ∧ (rs.length ≤ maxLen) ∧ True ∧ ((∃ z : Nat × List Int, (zz3 z) ∧ (((0 = 0) ∧ (((ns.length : Nat) : Int).toNat = ns.length) ∧ (rs.length = rs.length) ∧ (rs.length = rs.length) ∧ zz4 ∧ (DV.int .i64 0 = DV.int .i64 ((z.1 : Nat) : Int)) ∧ True) ∧ (zz5 ∧ (List.replicate ((ns.length : Nat) : Int).toNat (DV.int .i64 0) = is z.2) ∧ ((is rs) = (is rs)) ∧ True))) ∧ ∀ z : Nat × List Int, (zz3 z) → True ∧ (((decide (((z.1 : Nat) : Int) < ((rs.length : Nat) : Int))) = true → (0 ≤ ((z.1 : Nat) : Int) ∧ ((z.1 : Nat) : Int) < ((rs.length : Nat) : Int)) ∧ (((is rs)[((z.1 : Nat) : Int).toNat * 1]? = some (DV.int .i64 (nAt (is rs) (((z.1 : Nat) : Int).toNat * 1)))) ∧ True) ∧ True ∧ True ∧ True ∧ (0 ≤ nAt (is rs) (((z.1 : Nat) : Int).toNat * 1) ∧ nAt (is rs) (((z.1 : Nat) : Int).toNat * 1) < ((ns.length : Nat) : Int)) ∧ ((nAt (is rs) (((z.1 : Nat) : Int).toNat * 1)).toNat * 1 + 1 ≤ (is z.2).length) ∧ True ∧ True ∧ ∃ z' : Nat × List Int, (z'.1 ≤ rs.length ∧ z'.2.length = ns.length ∧ lev1 (rs.drop z'.1) z'.2 = lev1 rs zz2) ∧ (rs.length - z'.1 < rs.length - z.1) ∧ (((0 = 0) ∧ (ns.length = ns.length) ∧ (rs.length = rs.length) ∧ (rs.length = rs.length) ∧ zz4 ∧ (DV.int .i64 (IntKind.wrap .i64 (((z.1 : Nat) : Int) + (1 : Int))) = DV.int .i64 ((z'.1 : Nat) : Int)) ∧ True) ∧ (zz5 ∧ (List.set (is z.2) ((nAt (is rs) (((z.1 : Nat) : Int).toNat * 1)).toNat * 1) (DV.int .i64 1) = is z'.2) ∧ ((is rs) = (is rs)) ∧ True))) ∧ ((decide (((z.1 : Nat) : Int) < ((rs.length : Nat) : Int))) = false → True ∧ ((∃ y : Nat × List Int × List Int, (zz6 y) ∧ (((0 = 0) ∧ (ns.length = ns.length) ∧ (rs.length = y.2.1.length) ∧ (DV.int .i64 0 = DV.int .i64 ((y.1 : Nat) : Int)) ∧ True) ∧ (zz5 ∧ (is z.2 = is y.2.2) ∧ ((is rs) = is y.2.1) ∧ True))) ∧ ∀ y : Nat × List Int × List Int, (zz6 y) → True ∧ True ∧ (y.2.1.length ≤ maxLen) ∧ True ∧ (((decide (((y.1 : Nat) : Int) < ((y.2.1.length : Nat) : Int))) = true → True ∧ True ∧ True ∧ True ∧ (0 ≤ ((y.1 : Nat) : Int) ∧ ((y.1 : Nat) : Int) < ((y.2.1.length : Nat) : Int)) ∧ (((is y.2.1)[((y.1 : Nat) : Int).toNat * 1]? = some (DV.int .i64 (nAt (is y.2.1) (((y.1 : Nat) : Int).toNat * 1)))) ∧ True) ∧ (0 ≤ nAt (is y.2.1) (((y.1 : Nat) : Int).toNat * 1) ∧ nAt (is y.2.1) (((y.1 : Nat) : Int).toNat * 1) < ((ns.length : Nat) : Int) ∧ (nAt (is y.2.1) (((y.1 : Nat) : Int).toNat * 1)).toNat * 13 < (nodesD ns).length) ∧ True ∧ (((nodesD ns)[(nAt (is y.2.1) (((y.1 : Nat) : Int).toNat * 1)).toNat * 13 + 12]? = some (DV.sl (lAt (nodesD ns) ((nAt (is y.2.1) (((y.1 : Nat) : Int).toNat * 1)).toNat * 13 + 12)) (cAt (nodesD ns) ((nAt (is y.2.1) (((y.1 : Nat) : Int).toNat * 1)).toNat * 13 + 12)))) ∧ True) ∧ True ∧ True ∧ (true = true) ∧ ((∃ x : Nat × List Int × List Int, (zz7 y x) ∧ (((0 = 0) ∧ (ns.length = ns.length) ∧ (y.2.1.length = x.2.1.length) ∧ (zz8 y) ∧ (zz9 y) ∧ (zz10 y) ∧ (DV.int .i64 0 = DV.int .i64 ((x.1 : Nat) : Int)) ∧ True) ∧ (zz5 ∧ (is y.2.2 = is x.2.2) ∧ (is y.2.1 = is x.2.1) ∧ True))) ∧ ∀ x : Nat × List Int × List Int, (zz7 y x) → True ∧ (((decide (((x.1 : Nat) : Int) < ((lAt (nodesD ns) ((nAt (is y.2.1) (((y.1 : Nat) : Int).toNat * 1)).toNat * 13 + 12) : Nat) : Int))) = true → (0 ≤ ((x.1 : Nat) : Int) ∧ ((x.1 : Nat) : Int) < ((lAt (nodesD ns) ((nAt (is y.2.1) (((y.1 : Nat) : Int).toNat * 1)).toNat * 13 + 12) : Nat) : Int) ∧ ((x.1 : Nat) : Int).toNat * 1 < (cAt (nodesD ns) ((nAt (is y.2.1) (((y.1 : Nat) : Int).toNat * 1)).toNat * 13 + 12)).length) ∧ (((cAt (nodesD ns) ((nAt (is y.2.1) (((y.1 : Nat) : Int).toNat * 1)).toNat * 13 + 12))[((x.1 : Nat) : Int).toNat * 1]? = some (DV.int .i64 (nAt (cAt (nodesD ns) ((nAt (is y.2.1) (((y.1 : Nat) : Int).toNat * 1)).toNat * 13 + 12)) (((x.1 : Nat) : Int).toNat * 1)))) ∧ True) ∧ True ∧ True ∧ True ∧ True ∧ True ∧ True ∧ (0 ≤ ((y.1 : Nat) : Int) ∧ ((y.1 : Nat) : Int) < ((x.2.1.length : Nat) : Int)) ∧ (((is x.2.1)[((y.1 : Nat) : Int).toNat * 1]? = some (DV.int .i64 (nAt (is x.2.1) (((y.1 : Nat) : Int).toNat * 1)))) ∧ True) ∧ (0 ≤ nAt (is x.2.1) (((y.1 : Nat) : Int).toNat * 1) ∧ nAt (is x.2.1) (((y.1 : Nat) : Int).toNat * 1) < ((ns.length : Nat) : Int)) ∧ (((is x.2.2)[(nAt (is x.2.1) (((y.1 : Nat) : Int).toNat * 1)).toNat * 1]? = some (DV.int .i64 (nAt (is x.2.2) ((nAt (is x.2.1) (((y.1 : Nat) : Int).toNat * 1)).toNat * 1)))) ∧ True) ∧ True ∧ (0 ≤ nAt (cAt (nodesD ns) ((nAt (is y.2.1) (((y.1 : Nat) : Int).toNat * 1)).toNat * 13 + 12)) (((x.1 : Nat) : Int).toNat * 1) ∧ nAt (cAt (nodesD ns) ((nAt (is y.2.1) (((y.1 : Nat) : Int).toNat * 1)).toNat * 13 + 12)) (((x.1 : Nat) : Int).toNat * 1) < ((ns.length : Nat) : Int)) ∧ ((nAt (cAt (nodesD ns) ((nAt (is y.2.1) (((y.1 : Nat) : Int).toNat * 1)).toNat * 13 + 12)) (((x.1 : Nat) : Int).toNat * 1)).toNat * 1 + 1 ≤ (is x.2.2).length) ∧ True ∧ True ∧ True ∧ (appVc 1 8 x.2.1.length 1 (is x.2.1) ([DV.int .i64 (nAt (cAt (nodesD ns) ((nAt (is y.2.1) (((y.1 : Nat) : Int).toNat * 1)).toNat * 13 + 12)) (((x.1 : Nat) : Int).toNat * 1))])) ∧ True ∧ True ∧ True ∧ ∃ x' : Nat × List Int × List Int, (x'.1 ≤ (kidsAt ns (outAt y.2.1 (y.1 : Int))).length ∧ x'.2.2.length = ns.length ∧ x'.2.1 = y.2.1 ++ (kidsAt ns (outAt y.2.1 (y.1 : Int))).take x'.1 ∧ levK (outAt y.2.1 (y.1 : Int)) ((kidsAt ns (outAt y.2.1 (y.1 : Int))).drop x'.1) x'.2.2 = levK (outAt y.2.1 (y.1 : Int)) (kidsAt ns (outAt y.2.1 (y.1 : Int))) y.2.2) ∧ ((kidsAt ns (outAt y.2.1 (y.1 : Int))).length - x'.1 < (kidsAt ns (outAt y.2.1 (y.1 : Int))).length - x.1) ∧ (((0 = 0) ∧ (ns.length = ns.length) ∧ (x.2.1.length + 1 = x'.2.1.length) ∧ (zz8 y) ∧ (zz9 y) ∧ (zz10 y) ∧ (DV.int .i64 (IntKind.wrap .i64 (((x.1 : Nat) : Int) + (1 : Int))) = DV.int .i64 ((x'.1 : Nat) : Int)) ∧ True) ∧ (zz5 ∧ (List.set (is x.2.2) ((nAt (cAt (nodesD ns) ((nAt (is y.2.1) (((y.1 : Nat) : Int).toNat * 1)).toNat * 13 + 12)) (((x.1 : Nat) : Int).toNat * 1)).toNat * 1) (DV.int .i64 (IntKind.wrap .i64 ((nAt (is x.2.2) ((nAt (is x.2.1) (((y.1 : Nat) : Int).toNat * 1)).toNat * 1)) + (1 : Int)))) = is x'.2.2) ∧ ((is x.2.1) ++ ([DV.int .i64 (nAt (cAt (nodesD ns) ((nAt (is y.2.1) (((y.1 : Nat) : Int).toNat * 1)).toNat * 13 + 12)) (((x.1 : Nat) : Int).toNat * 1))]) = is x'.2.1) ∧ True))) ∧ ((decide (((x.1 : Nat) : Int) < ((lAt (nodesD ns) ((nAt (is y.2.1) (((y.1 : Nat) : Int).toNat * 1)).toNat * 13 + 12) : Nat) : Int))) = false → True ∧ True ∧ True ∧ ∃ y' : Nat × List Int × List Int, (y'.1 ≤ y'.2.1.length ∧ y'.2.2.length = ns.length ∧ LevOK ns rs y'.1 y'.2.1 ∧ levGo ns (ns.length - y'.1) y'.1 y'.2.1 y'.2.2 = levR ns rs) ∧ (ns.length - y'.1 < ns.length - y.1) ∧ (((0 = 0) ∧ (ns.length = ns.length) ∧ (x.2.1.length = y'.2.1.length) ∧ (DV.int .i64 (IntKind.wrap .i64 (((y.1 : Nat) : Int) + (1 : Int))) = DV.int .i64 ((y'.1 : Nat) : Int)) ∧ True) ∧ (zz5 ∧ (is x.2.2 = is y'.2.2) ∧ (is x.2.1 = is y'.2.1) ∧ True)))))) ∧ ((decide (((y.1 : Nat) : Int) < ((y.2.1.length : Nat) : Int))) = false → True ∧ True ∧ (y.2.1.length ≤ maxLen) ∧ True ∧ True ∧ True ∧ True ∧ True ∧ True ∧ (true = true) ∧ RV.tup [RV.d (DV.sl ns.length (is y.2.2)), RV.d (DV.bool (((y.2.1.length : Nat) : Int) == ((ns.length : Nat) : Int)))] = RV.tup zz1))))))))) := by kernel_rfl
theorem tree_levels_ans (ns : Nodes) (rs : List Int) (hl : ns.length ≤ 100000) (hg : Good ns rs) : Ans Try.prog 23 [RV.agg [DV.sl ns.length (nodesD ns), DV.sl rs.length (is rs)]] (RV.tup [RV.d (DV.sl ((levP (toNodes (nodesD ns)) (ints (is rs))).1.length) (is (levP (toNodes (nodesD ns)) (ints (is rs))).1)), RV.d (DV.bool ((levP (toNodes (nodesD ns)) (ints (is rs))).2))]) :=
  ans_of_vcg (Γ := gamTv) (tree_levels_ann ns rs) mixed_ Try.func23 rfl (Nat.le_of_ble_eq_true rfl) fun hwf => by
    refine Eq.mpr (tree_levels_vc ns rs) ?_
    simp only [true_and, and_true, RV.d.injEq, RV.agg.injEq, RV.tup.injEq, DV.bool.injEq, DV.int.injEq, DV.sl.injEq, List.cons.injEq, forall_const, Bool.not_false, Bool.not_true, Bool.not_eq_true', Bool.not_eq_false', decide_eq_true_eq, decide_eq_false_iff_not, Int.toNat_natCast]
    have aP := tree_parents_ans ns rs hl
    have hrs : rs.length ≤ ns.length := (LevOK.start hg).few
    have hM : ∀ n : Nat, n ≤ 100000 → n ≤ maxLen := fun n h => by unfold maxLen; omega
    have is_s : ∀ (L : List Int) (j : Nat) (v : Int), (is L).set j (.int .i64 v) = is (L.set j v) := fun L j v => by simp [is]
    clear hwf
    simp only [toNodes_nodesD, ints_is] at aP ⊢
    refine ⟨aP, fun hp => ?_, fun hp => ?_⟩
    · unfold levP
      rw [if_neg (by rw [hp]; decide)]
      exact ⟨⟨rfl, rfl⟩, rfl⟩
    · have hm := hM _ hl
      refine ⟨⟨by omega, by omega, by omega, by omega⟩, CloneI_own _ _ (is_length _) (by omega), hM _ (by omega), ⟨(0, List.replicate ns.length 0), ⟨Nat.zero_le _, by simp, rfl⟩, rfl, by simp [is]⟩, fun z hz => ⟨fun hlt => ?_, fun hge => ?_⟩⟩
      · obtain ⟨k, out⟩ := z
        obtain ⟨z1, z2, z3⟩ := hz
        simp only at *
        have hk : k < rs.length := by omega
        obtain ⟨q1, q2⟩ := is_rd hk
        have hin := hg.inr rs[k] (List.mem_append_left _ (List.getElem_mem hk))
        have w1 : IntKind.wrap .i64 ((k : Int) + 1) = ((k + 1 : Nat) : Int) := by rw [IntWalk.i64_in _ ⟨by omega, by omega⟩]; omega
        rw [List.drop_eq_getElem_cons hk, lev1] at z3
        simp only [Nat.mul_one, q2, is_s, w1]
        generalize rs[k] = a at *
        refine ⟨⟨by omega, by omega⟩, q1, hin, by rw [is_length, z2]; omega, (k + 1, out.set a.toNat 1), ⟨by simp only; omega, by simp only [List.length_set]; exact z2, z3⟩, by simp only; omega, rfl, rfl⟩
      · obtain ⟨k, out⟩ := z
        obtain ⟨z1, z2, z3⟩ := hz
        simp only at *
        have hk : k = rs.length := by omega
        subst hk
        rw [List.drop_length, lev1] at z3
        refine ⟨⟨(0, rs, out), ⟨Nat.zero_le _, z2, LevOK.start hg, by simp only [Nat.sub_zero]; rw [z3]; rfl⟩, ⟨rfl, rfl⟩, rfl, rfl⟩, fun y hy => ?_⟩
        obtain ⟨i, L, o⟩ := y
        obtain ⟨y1, y2, y3, y4⟩ := hy
        simp only at *
        have hfew := y3.few
        refine ⟨hM _ (by omega), fun hlt => ?_, fun hge => ?_⟩
        · have hi : i < L.length := by omega
          obtain ⟨q1, q2⟩ := is_rd hi
          obtain ⟨a, ha⟩ : ∃ a, L[i] = a := ⟨_, rfl⟩
          have haL : L[i]? = some a := by rw [← ha]; exact List.getElem?_eq_getElem hi
          have hain := y3.inr a (List.mem_of_getElem? haL)
          obtain ⟨m, rfl⟩ : ∃ m : Nat, a = m := ⟨a.toNat, by omega⟩
          have hmn : m < ns.length := by omega
          have hoa : outAt L (i : Int) = (m : Int) := by simp [outAt, haL]
          have hok := y3.next hg haL
          have e12 := kid_rd hmn
          have l12 := kid_l hmn
          have c12 := kid_c hmn
          have w1 : IntKind.wrap .i64 ((i : Int) + 1) = ((i + 1 : Nat) : Int) := by rw [IntWalk.i64_in _ ⟨by omega, by omega⟩]; omega
          rw [show ns.length - i = (ns.length - (i + 1)) + 1 by omega, levGo_step haL] at y4
          have hnd : m * 13 < (nodesD ns).length := by rw [nodesD_len]; omega
          have hKf : L.length + (kidsAt ns (m : Int)).length ≤ ns.length := by
            have := hok.few
            rw [List.length_append] at this
            exact this
          have hKin : ∀ x ∈ kidsAt ns (m : Int), 0 ≤ x ∧ x < (ns.length : Int) := fun x hx => hok.inr x (List.mem_append_right _ hx)
          simp only [Nat.mul_one, q2, ha, Int.toNat_natCast, l12, c12, hoa, w1, kidsAt_of hmn, is_s] at *
          generalize ns[m].2 = K at *
          refine ⟨⟨by omega, by omega⟩, q1, ⟨by omega, by omega, hnd⟩, e12, ⟨(0, L, o), ⟨Nat.zero_le _, y2, by simp, rfl⟩, ⟨rfl, rfl⟩, rfl, rfl⟩, fun x hx => ?_⟩
          obtain ⟨j, M, p⟩ := x
          obtain ⟨x1, x2, x3, x4⟩ := hx
          simp only at *
          have hMl : M.length = L.length + j := by rw [x3, List.length_append, List.length_take]; omega
          refine ⟨fun hlt => ?_, fun hge => ?_⟩
          · have hj : j < K.length := by omega
            obtain ⟨r1, r2⟩ := is_rd hj
            have hMi : M[i]? = some (m : Int) := by rw [x3, List.getElem?_append_left hi, haL]
            have hMi2 : (is M)[i]? = some (.int .i64 (m : Int)) := by simp [is, hMi]
            have hMi3 : nAt (is M) i = (m : Int) := by simp [nAt, hMi2]
            have hpm : (is p)[m]? = some (.int .i64 (outAt p (m : Int))) := by
              simp [is, outAt, List.getElem?_eq_getElem (show m < p.length by omega)]
            have hpm2 : nAt (is p) m = outAt p (m : Int) := by simp [nAt, hpm]
            have hKj := hKin K[j] (List.getElem_mem hj)
            have w2 : IntKind.wrap .i64 ((j : Int) + 1) = ((j + 1 : Nat) : Int) := by rw [IntWalk.i64_in _ ⟨by omega, by omega⟩]; omega
            rw [List.drop_eq_getElem_cons hj, levK] at x4
            have htk : L ++ K.take (j + 1) = M ++ [K[j]] := by rw [x3, List.append_assoc, List.take_add_one, List.getElem?_eq_getElem hj]; rfl
            simp only [r2, hMi3, hpm2, w2, Int.toNat_natCast]
            generalize K[j] = b at *
            refine ⟨⟨by omega, by omega, by rw [is_length]; omega⟩, r1, ⟨by omega, by omega⟩, hMi2, ⟨by omega, by omega⟩, hpm, hKj, by rw [is_length]; omega, ⟨by rw [is_length]; omega, rfl, hM _ (by omega), by omega⟩, (j + 1, M ++ [b], p.set b.toNat (IntKind.wrap .i64 (outAt p (m : Int) + 1))), ⟨by simp only; omega, by simp only [List.length_set]; exact x2, htk.symm, x4⟩, by simp only; omega, ⟨by simp, rfl⟩, rfl, by simp [is]⟩
          · have hj : j = K.length := by omega
            subst hj
            rw [List.take_length] at x3
            rw [List.drop_length, levK] at x4
            subst x3 x4
            exact ⟨(i + 1, _, _), ⟨by simp only [List.length_append]; omega, by simp only [levK_len]; exact y2, hok, y4⟩, by simp only; omega, ⟨rfl, rfl⟩, rfl, rfl⟩
        · have hi : L.length ≤ i := by omega
          rw [levGo_end hi] at y4
          unfold levP
          rw [if_pos hp, ← y4]
          refine ⟨hM _ (by omega), ⟨y2.symm, rfl⟩, ?_⟩
          rw [Bool.eq_iff_iff]
          simp
          omega
end Go.Proofs.Ytaaealkgbklmeaa
/-
  Max over numbers: the walk.
-/
namespace Go.Proofs.Ytaaealkgbklmeaa
open Go.RowKit
set_option linter.unusedVariables false
set_option linter.unusedSimpArgs false
def maxLI : List Int → Int
  | [] => 0
  | a :: l => l.foldl max a
theorem maxLI_take {l : List Int} {k : Nat} (h1 : 1 ≤ k) (hk : k < l.length) : maxLI (l.take (k + 1)) = max (maxLI (l.take k)) l[k] := by
  cases l with
  | nil => simp at hk
  | cons a l =>
    obtain ⟨m, rfl⟩ : ∃ m, k = m + 1 := ⟨k - 1, by omega⟩
    have hm : m < l.length := by simpa using hk
    simp only [List.take_succ_cons, maxLI, List.getElem_cons_succ]
    rw [List.take_add_one, List.getElem?_eq_getElem hm, Option.toList_some, List.foldl_append]
    rfl
theorem run_max_two {P : Program} (w : World) (ts : Array TypeId) (t : TypeId) (k k' : IntKind) (x y : Int) : (Builtin.max_ ts t #[.int k x, .int k' y]).run P w = .ok (.int k (max x y)) w := by
  rw [run_max_int2, show (if y > x then y else x) = max x y from by omega]
theorem max_walk (xs : List Int) (hl : xs.length ≤ 9223372036854775807) (h0 : 0 < xs.length) (cap : Nat) (w : World) (ga off : Nat) (hc : ∀ k (h : k < xs.length), w.cell? ⟨ga, off + k, none⟩ = some (.int .i64 xs[k])) :
    Calls Try.prog 24 #[.slice (some ⟨ga, off, none⟩) xs.length cap] w fun e w' => e = .returned (.int .i64 (maxLI xs)) ∧ w' = w := by
  have hcU := PLift.up hc
  obtain ⟨x0, hx0⟩ : ∃ x, xs[0] = x := ⟨_, rfl⟩
  have hc0 : w.cell? ⟨ga, off, none⟩ = some (.int .i64 x0) := by rw [← hx0]; exact hc 0 h0
  have hm0 : Aside (maxLI (xs.take 1) = x0) := by
    show _ = _
    cases xs with
    | nil => simp at h0
    | cons a l => simpa [maxLI] using hx0
  clear hc hx0
  have hn1 : ¬ (xs.length : Int) < 1 := by omega
  have hn0 : (0 : Int) < (xs.length : Int) := by omega
  have hmx := fun w => @run_max_two Try.prog w
  go_enter Try.func24, Try.ntmps24
  go_wp2
  go_loopg [3, 4] xs.length (fun g s3 s4 wx => ∃ (k : Nat), g = xs.length + 1 - k ∧ 1 ≤ k ∧ k ≤ xs.length ∧ s4 = .int .i64 k ∧ wx = w ∧ s3 = .int .i64 (maxLI (xs.take k)))
  case atStart => exact ⟨1, by omega, Nat.le_refl _, h0, rfl, rfl, by rw [hm0.out]⟩
  case round =>
    obtain ⟨k, hg, h1, hk, rfl, rfl, rfl⟩ := hrel
    have hAG : Aside (gk = xs.length + 1 - k) := hg
    clear hg
    obtain ⟨m, hm⟩ : ∃ m, maxLI (xs.take k) = m := ⟨_, rfl⟩
    rw [hm]
    have hmA : Aside (maxLI (xs.take k) = m) := hm
    clear hm
    by_cases hkl : k < xs.length
    · obtain ⟨x, hx⟩ : ∃ x, xs[k] = x := ⟨_, rfl⟩
      have hxc : wr.cell? ⟨ga, off + k, none⟩ = some (.int .i64 x) := by rw [← hx]; exact hcU.down k hkl
      have hkz : (k : Int) < (xs.length : Int) := by omega
      have hxA : Aside (xs[k] = x) := hx
      clear hx
      go_wp2
      go_roundg (xs.length + 1 - (k + 1))
      case measure => have := hAG.out; omega
      case rel =>
        refine ⟨k + 1, rfl, by omega, by omega, by simp, rfl, ?_⟩
        rw [maxLI_take h1 hkl, hmA.out, hxA.out]
    · have : k = xs.length := by omega
      subst this
      go_wp2
      go_ret
      rw [← hmA.out, List.take_length]
      exact ⟨rfl, rfl⟩
theorem MaxI_ans (l : List Int) (h0 : 0 < l.length) : Ans Try.prog 24 [RV.d (.sl l.length (is l))] (RV.d (.int .i64 (maxLI l))) := by
  intro w S vs hG hR
  obtain ⟨vs⟩ := vs
  match vs, hR with
  | [v], hR =>
    simp only [RepRs, RepR] at hR
    have hwf := hR.1.wf
    obtain ⟨A, cap, g, f, rfl, h1, h2, h3⟩ := ints_arg hR.1
    obtain ⟨rfl, h4⟩ := h1 h0
    refine (max_walk l h3 h0 cap w g f h2).mono fun e w' h => ?_
    obtain ⟨rfl, rfl⟩ := h
    refine ⟨_, rfl, ?_, Below.refl _ _⟩
    simp only [RepR, RepD, true_and]
    have hmem : ∀ (l : List Int) (a : Int), l.foldl max a = a ∨ l.foldl max a ∈ l := by
      intro l
      induction l with
      | nil => intro a; exact .inl rfl
      | cons b l ih =>
        intro a
        rw [List.foldl_cons]
        rcases ih (max a b) with e | e
        · rw [e]
          rcases Int.le_total a b with h | h
          · rw [Int.max_eq_right h]; exact .inr (List.mem_cons_self ..)
          · rw [Int.max_eq_left h]; exact .inl rfl
        · exact .inr (List.mem_cons_of_mem _ e)
    have hin : maxLI l ∈ l := by
      cases l with
      | nil => simp at h0
      | cons a l =>
        rcases hmem l a with e | e
        · rw [maxLI, e]; exact List.mem_cons_self ..
        · exact List.mem_cons_of_mem _ e
    simp only [DV.wf] at hwf
    have hds : ∀ {l : List Int}, DV.wfs (is l) → ∀ n ∈ l, inK .i64 n := by
      intro l
      induction l with
      | nil => intro _ n h; cases h
      | cons a l ih =>
        intro h n hn
        simp only [is, List.map_cons, DV.wfs, DV.wf] at h
        rcases List.mem_cons.1 hn with rfl | hn
        · exact (inK_iff _ _).2 h.1
        · exact ih h.2 n hn
    exact hds hwf.2 _ hin
end Go.Proofs.Ytaaealkgbklmeaa
/-
  The depth of a forest, its parents, and whether it is valid.
-/
namespace Go.Proofs.Ytaaealkgbklmeaa
open Go.RowKit
set_option linter.unusedVariables false
set_option linter.unusedSimpArgs false
attribute [local irreducible] Ans AnsO AnsG AnsN AnsI
set_option maxRecDepth 4000
def depthP (ns : Nodes) (rs : List Int) : Int := if (levP ns rs).2 = true ∧ 0 < (levP ns rs).1.length then maxLI (levP ns rs).1 else 0
def gamTx : Gam where
 pure := fun f xs =>
  if f = 23 then (match xs with | [.agg [.sl an axs, .sl ar ars]] => some (RV.tup [RV.d (DV.sl ((levP (toNodes (axs)) (ints (ars))).1.length) (is (levP (toNodes (axs)) (ints (ars))).1)), RV.d (DV.bool ((levP (toNodes (axs)) (ints (ars))).2))]) | _ => none) else
  if f = 24 then (match xs with | [.d (.sl n xs)] => some (RV.d (DV.int .i64 (maxLI (ints (xs))))) | _ => none) else
  none
 modes := fun f =>
  none
 proc := fun f xs bs =>
  none
 iter := fun f cs =>
  none
def tree_Depth_ann (ns : Nodes) (rs : List Int) : Ann := Ann.leaf
theorem tree_Depth_vc (ns : Nodes) (rs : List Int) : vcg Try.prog gamTx 19 (bodyOf Try.f20) (tree_Depth_ann ns rs) kn0 (start [RV.agg [DV.sl ns.length (nodesD ns), DV.sl rs.length (is rs)]]) (post Try.prog Try.f20.results.toList (· = RV.d (DV.int .i64 (depthP (toNodes (nodesD ns)) (ints (is rs)))))) =
  (let zz0 := (DV.sl ((levP (toNodes ((nodesD ns))) (ints ((is rs)))).1.length) (is (levP (toNodes ((nodesD ns))) (ints ((is rs)))).1)); let zz1 := (DV.int .i64 (depthP (toNodes (nodesD ns)) (ints (is rs)))); let zz2 := (DV.int .i64 (maxLI (ints ((is (levP (toNodes ((nodesD ns))) (ints ((is rs)))).1))))); True ∧ True ∧ True ∧ (Ans Try.prog 23 [RV.agg [DV.sl ns.length (nodesD ns), DV.sl rs.length (is rs)]] (RV.tup [RV.d zz0, RV.d (DV.bool ((levP (toNodes ((nodesD ns))) (ints ((is rs)))).2))])) ∧ True ∧ True ∧ True ∧ True ∧ True ∧ True ∧ True ∧ True ∧ (((!((levP (toNodes ((nodesD ns))) (ints ((is rs)))).2)) = false → True ∧ True ∧ True ∧ True ∧ ((((((levP (toNodes ((nodesD ns))) (ints ((is rs)))).1.length : Nat) : Int) == (0 : Int)) = true → True ∧ RV.d (DV.int .i64 0) = RV.d zz1) ∧ (((((levP (toNodes ((nodesD ns))) (ints ((is rs)))).1.length : Nat) : Int) == (0 : Int)) = false → True ∧ (Ans Try.prog 24 [RV.d zz0] (RV.d zz2)) ∧ True ∧ RV.d zz2 = RV.d zz1))) ∧ ((!((levP (toNodes ((nodesD ns))) (ints ((is rs)))).2)) = (!false) → True ∧ True ∧ RV.d (DV.int .i64 0) = RV.d zz1))) := by kernel_rfl
theorem tree_Depth_ans (ns : Nodes) (rs : List Int) (hl : ns.length ≤ 100000) (hg : Good ns rs) : Ans Try.prog 20 [RV.agg [DV.sl ns.length (nodesD ns), DV.sl rs.length (is rs)]] (RV.d (DV.int .i64 (depthP (toNodes (nodesD ns)) (ints (is rs))))) :=
  ans_of_vcg (Γ := gamTx) (tree_Depth_ann ns rs) mixed_ Try.func20 rfl (Nat.le_of_ble_eq_true rfl) fun hwf => by
    refine Eq.mpr (tree_Depth_vc ns rs) ?_
    simp only [true_and, and_true, RV.d.injEq, RV.agg.injEq, RV.tup.injEq, DV.bool.injEq, DV.int.injEq, DV.sl.injEq, List.cons.injEq, forall_const, Bool.not_false, Bool.not_true, Bool.not_eq_true', Bool.not_eq_false', decide_eq_true_eq, decide_eq_false_iff_not, Int.toNat_natCast]
    have aL := tree_levels_ans ns rs hl hg
    clear hwf
    simp only [toNodes_nodesD, ints_is] at aL ⊢
    unfold depthP
    refine ⟨aL, fun h => ⟨fun h0 => ?_, fun h0 => ?_⟩, fun h => ?_⟩
    · rw [if_neg (by simp at h0; rw [h0]; simp)]
    · have h1 : 0 < (levP ns rs).1.length := by
        rcases Nat.eq_zero_or_pos (levP ns rs).1.length with e | e
        · rw [e] at h0; simp at h0
        · exact e
      rw [if_pos ⟨h, h1⟩]
      exact ⟨MaxI_ans _ h1, rfl⟩
    · rw [if_neg (by rw [h]; simp)]
end Go.Proofs.Ytaaealkgbklmeaa
/-
  The example that the statements begin with.
-/
namespace Go.Proofs.Ytaaealkgbklmeaa
open Go.RowKit
set_option linter.unusedVariables false
set_option linter.unusedSimpArgs false
def opK (k : Int) : Oq := ⟨k, 0, 0, 0, 0, 0, 0, 0, 0, 0, false, false⟩
def awL : List Oq := [opK 1, opK 2, opK 1, opK 3]
def awN : Nodes := [(opK 1, []), (opK 2, [2]), (opK 1, [])]
theorem aw_build : buildT awL = (awN, [0, 1], 0) := rfl
end Go.Proofs.Ytaaealkgbklmeaa
/-
  The example that the statements begin with.
-/
namespace Go.Proofs.Ytaaealkgbklmeaa
open Go.RowKit
set_option linter.unusedVariables false
set_option linter.unusedSimpArgs false
attribute [local irreducible] Ans AnsO AnsG AnsN AnsI
set_option maxRecDepth 4000
theorem aw_good : Good awN [0, 1] := ⟨by decide, by decide⟩
theorem aw_depth : depthP awN [0, 1] = 2 := rfl
def gamTz : Gam where
 pure := fun f xs =>
  if f = 8 then (match xs with | [.d (.sl pn pxs)] => some (RV.tup [RV.agg [DV.sl ((buildT (toOps (pxs))).1.length) (nodesD (buildT (toOps (pxs))).1), DV.sl ((buildT (toOps (pxs))).2.1.length) (is (buildT (toOps (pxs))).2.1)], RV.d (DV.int .i64 ((buildT (toOps (pxs))).2.2))]) | _ => none) else
  if f = 18 then (match xs with | [.d (.sl n xs), .d (.sl m ys)] => some (RV.d (DV.bool (decide (ints (xs) = ints (ys))))) | _ => none) else
  if f = 20 then (match xs with | [.agg [.sl an axs, .sl ar ars]] => some (RV.d (DV.int .i64 (depthP (toNodes (axs)) (ints (ars))))) | _ => none) else
  none
 modes := fun f =>
  none
 proc := fun f xs bs =>
  none
 iter := fun f cs =>
  none
def L21_awake_ann : Ann := Ann.leaf
theorem L21_awake_vc : vcg Try.prog gamTz 40 (bodyOf Try.f9) (L21_awake_ann ) kn0 (start []) (post Try.prog Try.f9.results.toList (· = RV.d (DV.bool true))) =
  (let zz0 := [DV.sl ((buildT (toOps (([DV.int .i64 1, DV.int .i64 0, DV.int .i64 0, DV.int .i64 0, DV.int .i64 0, DV.int .i64 0, DV.int .i64 0, DV.int .u16 0, DV.int .i64 0, DV.int .i64 0, DV.bool false, DV.bool false, DV.int .i64 2, DV.int .i64 0, DV.int .i64 0, DV.int .i64 0, DV.int .i64 0, DV.int .i64 0, DV.int .i64 0, DV.int .u16 0, DV.int .i64 0, DV.int .i64 0, DV.bool false, DV.bool false, DV.int .i64 1, DV.int .i64 0, DV.int .i64 0, DV.int .i64 0, DV.int .i64 0, DV.int .i64 0, DV.int .i64 0, DV.int .u16 0, DV.int .i64 0, DV.int .i64 0, DV.bool false, DV.bool false, DV.int .i64 3, DV.int .i64 0, DV.int .i64 0, DV.int .i64 0, DV.int .i64 0, DV.int .i64 0, DV.int .i64 0, DV.int .u16 0, DV.int .i64 0, DV.int .i64 0, DV.bool false, DV.bool false])))).1.length) (nodesD (buildT (toOps (([DV.int .i64 1, DV.int .i64 0, DV.int .i64 0, DV.int .i64 0, DV.int .i64 0, DV.int .i64 0, DV.int .i64 0, DV.int .u16 0, DV.int .i64 0, DV.int .i64 0, DV.bool false, DV.bool false, DV.int .i64 2, DV.int .i64 0, DV.int .i64 0, DV.int .i64 0, DV.int .i64 0, DV.int .i64 0, DV.int .i64 0, DV.int .u16 0, DV.int .i64 0, DV.int .i64 0, DV.bool false, DV.bool false, DV.int .i64 1, DV.int .i64 0, DV.int .i64 0, DV.int .i64 0, DV.int .i64 0, DV.int .i64 0, DV.int .i64 0, DV.int .u16 0, DV.int .i64 0, DV.int .i64 0, DV.bool false, DV.bool false, DV.int .i64 3, DV.int .i64 0, DV.int .i64 0, DV.int .i64 0, DV.int .i64 0, DV.int .i64 0, DV.int .i64 0, DV.int .u16 0, DV.int .i64 0, DV.int .i64 0, DV.bool false, DV.bool false])))).1), DV.sl ((buildT (toOps (([DV.int .i64 1, DV.int .i64 0, DV.int .i64 0, DV.int .i64 0, DV.int .i64 0, DV.int .i64 0, DV.int .i64 0, DV.int .u16 0, DV.int .i64 0, DV.int .i64 0, DV.bool false, DV.bool false, DV.int .i64 2, DV.int .i64 0, DV.int .i64 0, DV.int .i64 0, DV.int .i64 0, DV.int .i64 0, DV.int .i64 0, DV.int .u16 0, DV.int .i64 0, DV.int .i64 0, DV.bool false, DV.bool false, DV.int .i64 1, DV.int .i64 0, DV.int .i64 0, DV.int .i64 0, DV.int .i64 0, DV.int .i64 0, DV.int .i64 0, DV.int .u16 0, DV.int .i64 0, DV.int .i64 0, DV.bool false, DV.bool false, DV.int .i64 3, DV.int .i64 0, DV.int .i64 0, DV.int .i64 0, DV.int .i64 0, DV.int .i64 0, DV.int .i64 0, DV.int .u16 0, DV.int .i64 0, DV.int .i64 0, DV.bool false, DV.bool false])))).2.1.length) (is (buildT (toOps (([DV.int .i64 1, DV.int .i64 0, DV.int .i64 0, DV.int .i64 0, DV.int .i64 0, DV.int .i64 0, DV.int .i64 0, DV.int .u16 0, DV.int .i64 0, DV.int .i64 0, DV.bool false, DV.bool false, DV.int .i64 2, DV.int .i64 0, DV.int .i64 0, DV.int .i64 0, DV.int .i64 0, DV.int .i64 0, DV.int .i64 0, DV.int .u16 0, DV.int .i64 0, DV.int .i64 0, DV.bool false, DV.bool false, DV.int .i64 1, DV.int .i64 0, DV.int .i64 0, DV.int .i64 0, DV.int .i64 0, DV.int .i64 0, DV.int .i64 0, DV.int .u16 0, DV.int .i64 0, DV.int .i64 0, DV.bool false, DV.bool false, DV.int .i64 3, DV.int .i64 0, DV.int .i64 0, DV.int .i64 0, DV.int .i64 0, DV.int .i64 0, DV.int .i64 0, DV.int .u16 0, DV.int .i64 0, DV.int .i64 0, DV.bool false, DV.bool false])))).2.1)]; let zz1 := (DV.sl (lAt (nodesD (buildT (toOps (([DV.int .i64 1, DV.int .i64 0, DV.int .i64 0, DV.int .i64 0, DV.int .i64 0, DV.int .i64 0, DV.int .i64 0, DV.int .u16 0, DV.int .i64 0, DV.int .i64 0, DV.bool false, DV.bool false, DV.int .i64 2, DV.int .i64 0, DV.int .i64 0, DV.int .i64 0, DV.int .i64 0, DV.int .i64 0, DV.int .i64 0, DV.int .u16 0, DV.int .i64 0, DV.int .i64 0, DV.bool false, DV.bool false, DV.int .i64 1, DV.int .i64 0, DV.int .i64 0, DV.int .i64 0, DV.int .i64 0, DV.int .i64 0, DV.int .i64 0, DV.int .u16 0, DV.int .i64 0, DV.int .i64 0, DV.bool false, DV.bool false, DV.int .i64 3, DV.int .i64 0, DV.int .i64 0, DV.int .i64 0, DV.int .i64 0, DV.int .i64 0, DV.int .i64 0, DV.int .u16 0, DV.int .i64 0, DV.int .i64 0, DV.bool false, DV.bool false])))).1) 25) (cAt (nodesD (buildT (toOps (([DV.int .i64 1, DV.int .i64 0, DV.int .i64 0, DV.int .i64 0, DV.int .i64 0, DV.int .i64 0, DV.int .i64 0, DV.int .u16 0, DV.int .i64 0, DV.int .i64 0, DV.bool false, DV.bool false, DV.int .i64 2, DV.int .i64 0, DV.int .i64 0, DV.int .i64 0, DV.int .i64 0, DV.int .i64 0, DV.int .i64 0, DV.int .u16 0, DV.int .i64 0, DV.int .i64 0, DV.bool false, DV.bool false, DV.int .i64 1, DV.int .i64 0, DV.int .i64 0, DV.int .i64 0, DV.int .i64 0, DV.int .i64 0, DV.int .i64 0, DV.int .u16 0, DV.int .i64 0, DV.int .i64 0, DV.bool false, DV.bool false, DV.int .i64 3, DV.int .i64 0, DV.int .i64 0, DV.int .i64 0, DV.int .i64 0, DV.int .i64 0, DV.int .i64 0, DV.int .u16 0, DV.int .i64 0, DV.int .i64 0, DV.bool false, DV.bool false])))).1) 25)); True ∧ True ∧ True ∧ True ∧ True ∧ True ∧ (Ans Try.prog 8 [RV.d (DV.sl 4 ([DV.int .i64 1, DV.int .i64 0, DV.int .i64 0, DV.int .i64 0, DV.int .i64 0, DV.int .i64 0, DV.int .i64 0, DV.int .u16 0, DV.int .i64 0, DV.int .i64 0, DV.bool false, DV.bool false, DV.int .i64 2, DV.int .i64 0, DV.int .i64 0, DV.int .i64 0, DV.int .i64 0, DV.int .i64 0, DV.int .i64 0, DV.int .u16 0, DV.int .i64 0, DV.int .i64 0, DV.bool false, DV.bool false, DV.int .i64 1, DV.int .i64 0, DV.int .i64 0, DV.int .i64 0, DV.int .i64 0, DV.int .i64 0, DV.int .i64 0, DV.int .u16 0, DV.int .i64 0, DV.int .i64 0, DV.bool false, DV.bool false, DV.int .i64 3, DV.int .i64 0, DV.int .i64 0, DV.int .i64 0, DV.int .i64 0, DV.int .i64 0, DV.int .i64 0, DV.int .u16 0, DV.int .i64 0, DV.int .i64 0, DV.bool false, DV.bool false]))] (RV.tup [RV.agg zz0, RV.d (DV.int .i64 ((buildT (toOps (([DV.int .i64 1, DV.int .i64 0, DV.int .i64 0, DV.int .i64 0, DV.int .i64 0, DV.int .i64 0, DV.int .i64 0, DV.int .u16 0, DV.int .i64 0, DV.int .i64 0, DV.bool false, DV.bool false, DV.int .i64 2, DV.int .i64 0, DV.int .i64 0, DV.int .i64 0, DV.int .i64 0, DV.int .i64 0, DV.int .i64 0, DV.int .u16 0, DV.int .i64 0, DV.int .i64 0, DV.bool false, DV.bool false, DV.int .i64 1, DV.int .i64 0, DV.int .i64 0, DV.int .i64 0, DV.int .i64 0, DV.int .i64 0, DV.int .i64 0, DV.int .u16 0, DV.int .i64 0, DV.int .i64 0, DV.bool false, DV.bool false, DV.int .i64 3, DV.int .i64 0, DV.int .i64 0, DV.int .i64 0, DV.int .i64 0, DV.int .i64 0, DV.int .i64 0, DV.int .u16 0, DV.int .i64 0, DV.int .i64 0, DV.bool false, DV.bool false])))).2.2))])) ∧ True ∧ True ∧ True ∧ True ∧ True ∧ True ∧ True ∧ True ∧ True ∧ (((((buildT (toOps (([DV.int .i64 1, DV.int .i64 0, DV.int .i64 0, DV.int .i64 0, DV.int .i64 0, DV.int .i64 0, DV.int .i64 0, DV.int .u16 0, DV.int .i64 0, DV.int .i64 0, DV.bool false, DV.bool false, DV.int .i64 2, DV.int .i64 0, DV.int .i64 0, DV.int .i64 0, DV.int .i64 0, DV.int .i64 0, DV.int .i64 0, DV.int .u16 0, DV.int .i64 0, DV.int .i64 0, DV.bool false, DV.bool false, DV.int .i64 1, DV.int .i64 0, DV.int .i64 0, DV.int .i64 0, DV.int .i64 0, DV.int .i64 0, DV.int .i64 0, DV.int .u16 0, DV.int .i64 0, DV.int .i64 0, DV.bool false, DV.bool false, DV.int .i64 3, DV.int .i64 0, DV.int .i64 0, DV.int .i64 0, DV.int .i64 0, DV.int .i64 0, DV.int .i64 0, DV.int .u16 0, DV.int .i64 0, DV.int .i64 0, DV.bool false, DV.bool false])))).2.2) == (0 : Int)) = true → True ∧ True ∧ True ∧ True ∧ True ∧ True ∧ ((((((buildT (toOps (([DV.int .i64 1, DV.int .i64 0, DV.int .i64 0, DV.int .i64 0, DV.int .i64 0, DV.int .i64 0, DV.int .i64 0, DV.int .u16 0, DV.int .i64 0, DV.int .i64 0, DV.bool false, DV.bool false, DV.int .i64 2, DV.int .i64 0, DV.int .i64 0, DV.int .i64 0, DV.int .i64 0, DV.int .i64 0, DV.int .i64 0, DV.int .u16 0, DV.int .i64 0, DV.int .i64 0, DV.bool false, DV.bool false, DV.int .i64 1, DV.int .i64 0, DV.int .i64 0, DV.int .i64 0, DV.int .i64 0, DV.int .i64 0, DV.int .i64 0, DV.int .u16 0, DV.int .i64 0, DV.int .i64 0, DV.bool false, DV.bool false, DV.int .i64 3, DV.int .i64 0, DV.int .i64 0, DV.int .i64 0, DV.int .i64 0, DV.int .i64 0, DV.int .i64 0, DV.int .u16 0, DV.int .i64 0, DV.int .i64 0, DV.bool false, DV.bool false])))).1.length : Nat) : Int) == (3 : Int)) = true → True ∧ True ∧ True ∧ (Ans Try.prog 18 [RV.d (DV.sl ((buildT (toOps (([DV.int .i64 1, DV.int .i64 0, DV.int .i64 0, DV.int .i64 0, DV.int .i64 0, DV.int .i64 0, DV.int .i64 0, DV.int .u16 0, DV.int .i64 0, DV.int .i64 0, DV.bool false, DV.bool false, DV.int .i64 2, DV.int .i64 0, DV.int .i64 0, DV.int .i64 0, DV.int .i64 0, DV.int .i64 0, DV.int .i64 0, DV.int .u16 0, DV.int .i64 0, DV.int .i64 0, DV.bool false, DV.bool false, DV.int .i64 1, DV.int .i64 0, DV.int .i64 0, DV.int .i64 0, DV.int .i64 0, DV.int .i64 0, DV.int .i64 0, DV.int .u16 0, DV.int .i64 0, DV.int .i64 0, DV.bool false, DV.bool false, DV.int .i64 3, DV.int .i64 0, DV.int .i64 0, DV.int .i64 0, DV.int .i64 0, DV.int .i64 0, DV.int .i64 0, DV.int .u16 0, DV.int .i64 0, DV.int .i64 0, DV.bool false, DV.bool false])))).2.1.length) (is (buildT (toOps (([DV.int .i64 1, DV.int .i64 0, DV.int .i64 0, DV.int .i64 0, DV.int .i64 0, DV.int .i64 0, DV.int .i64 0, DV.int .u16 0, DV.int .i64 0, DV.int .i64 0, DV.bool false, DV.bool false, DV.int .i64 2, DV.int .i64 0, DV.int .i64 0, DV.int .i64 0, DV.int .i64 0, DV.int .i64 0, DV.int .i64 0, DV.int .u16 0, DV.int .i64 0, DV.int .i64 0, DV.bool false, DV.bool false, DV.int .i64 1, DV.int .i64 0, DV.int .i64 0, DV.int .i64 0, DV.int .i64 0, DV.int .i64 0, DV.int .i64 0, DV.int .u16 0, DV.int .i64 0, DV.int .i64 0, DV.bool false, DV.bool false, DV.int .i64 3, DV.int .i64 0, DV.int .i64 0, DV.int .i64 0, DV.int .i64 0, DV.int .i64 0, DV.int .i64 0, DV.int .u16 0, DV.int .i64 0, DV.int .i64 0, DV.bool false, DV.bool false])))).2.1)), RV.d (DV.sl 2 ([DV.int .i64 0, DV.int .i64 1]))] (RV.d (DV.bool (decide (ints ((is (buildT (toOps (([DV.int .i64 1, DV.int .i64 0, DV.int .i64 0, DV.int .i64 0, DV.int .i64 0, DV.int .i64 0, DV.int .i64 0, DV.int .u16 0, DV.int .i64 0, DV.int .i64 0, DV.bool false, DV.bool false, DV.int .i64 2, DV.int .i64 0, DV.int .i64 0, DV.int .i64 0, DV.int .i64 0, DV.int .i64 0, DV.int .i64 0, DV.int .u16 0, DV.int .i64 0, DV.int .i64 0, DV.bool false, DV.bool false, DV.int .i64 1, DV.int .i64 0, DV.int .i64 0, DV.int .i64 0, DV.int .i64 0, DV.int .i64 0, DV.int .i64 0, DV.int .u16 0, DV.int .i64 0, DV.int .i64 0, DV.bool false, DV.bool false, DV.int .i64 3, DV.int .i64 0, DV.int .i64 0, DV.int .i64 0, DV.int .i64 0, DV.int .i64 0, DV.int .i64 0, DV.int .u16 0, DV.int .i64 0, DV.int .i64 0, DV.bool false, DV.bool false])))).2.1)) = ints (([DV.int .i64 0, DV.int .i64 1]))))))) ∧ True ∧ True ∧ (((decide (ints ((is (buildT (toOps (([DV.int .i64 1, DV.int .i64 0, DV.int .i64 0, DV.int .i64 0, DV.int .i64 0, DV.int .i64 0, DV.int .i64 0, DV.int .u16 0, DV.int .i64 0, DV.int .i64 0, DV.bool false, DV.bool false, DV.int .i64 2, DV.int .i64 0, DV.int .i64 0, DV.int .i64 0, DV.int .i64 0, DV.int .i64 0, DV.int .i64 0, DV.int .u16 0, DV.int .i64 0, DV.int .i64 0, DV.bool false, DV.bool false, DV.int .i64 1, DV.int .i64 0, DV.int .i64 0, DV.int .i64 0, DV.int .i64 0, DV.int .i64 0, DV.int .i64 0, DV.int .u16 0, DV.int .i64 0, DV.int .i64 0, DV.bool false, DV.bool false, DV.int .i64 3, DV.int .i64 0, DV.int .i64 0, DV.int .i64 0, DV.int .i64 0, DV.int .i64 0, DV.int .i64 0, DV.int .u16 0, DV.int .i64 0, DV.int .i64 0, DV.bool false, DV.bool false])))).2.1)) = ints (([DV.int .i64 0, DV.int .i64 1])))) = true → True ∧ True ∧ (0 ≤ (1 : Int) ∧ (1 : Int) < (((buildT (toOps (([DV.int .i64 1, DV.int .i64 0, DV.int .i64 0, DV.int .i64 0, DV.int .i64 0, DV.int .i64 0, DV.int .i64 0, DV.int .u16 0, DV.int .i64 0, DV.int .i64 0, DV.bool false, DV.bool false, DV.int .i64 2, DV.int .i64 0, DV.int .i64 0, DV.int .i64 0, DV.int .i64 0, DV.int .i64 0, DV.int .i64 0, DV.int .u16 0, DV.int .i64 0, DV.int .i64 0, DV.bool false, DV.bool false, DV.int .i64 1, DV.int .i64 0, DV.int .i64 0, DV.int .i64 0, DV.int .i64 0, DV.int .i64 0, DV.int .i64 0, DV.int .u16 0, DV.int .i64 0, DV.int .i64 0, DV.bool false, DV.bool false, DV.int .i64 3, DV.int .i64 0, DV.int .i64 0, DV.int .i64 0, DV.int .i64 0, DV.int .i64 0, DV.int .i64 0, DV.int .u16 0, DV.int .i64 0, DV.int .i64 0, DV.bool false, DV.bool false])))).1.length : Nat) : Int) ∧ 13 < (nodesD (buildT (toOps (([DV.int .i64 1, DV.int .i64 0, DV.int .i64 0, DV.int .i64 0, DV.int .i64 0, DV.int .i64 0, DV.int .i64 0, DV.int .u16 0, DV.int .i64 0, DV.int .i64 0, DV.bool false, DV.bool false, DV.int .i64 2, DV.int .i64 0, DV.int .i64 0, DV.int .i64 0, DV.int .i64 0, DV.int .i64 0, DV.int .i64 0, DV.int .u16 0, DV.int .i64 0, DV.int .i64 0, DV.bool false, DV.bool false, DV.int .i64 1, DV.int .i64 0, DV.int .i64 0, DV.int .i64 0, DV.int .i64 0, DV.int .i64 0, DV.int .i64 0, DV.int .u16 0, DV.int .i64 0, DV.int .i64 0, DV.bool false, DV.bool false, DV.int .i64 3, DV.int .i64 0, DV.int .i64 0, DV.int .i64 0, DV.int .i64 0, DV.int .i64 0, DV.int .i64 0, DV.int .u16 0, DV.int .i64 0, DV.int .i64 0, DV.bool false, DV.bool false])))).1).length) ∧ True ∧ (((nodesD (buildT (toOps (([DV.int .i64 1, DV.int .i64 0, DV.int .i64 0, DV.int .i64 0, DV.int .i64 0, DV.int .i64 0, DV.int .i64 0, DV.int .u16 0, DV.int .i64 0, DV.int .i64 0, DV.bool false, DV.bool false, DV.int .i64 2, DV.int .i64 0, DV.int .i64 0, DV.int .i64 0, DV.int .i64 0, DV.int .i64 0, DV.int .i64 0, DV.int .u16 0, DV.int .i64 0, DV.int .i64 0, DV.bool false, DV.bool false, DV.int .i64 1, DV.int .i64 0, DV.int .i64 0, DV.int .i64 0, DV.int .i64 0, DV.int .i64 0, DV.int .i64 0, DV.int .u16 0, DV.int .i64 0, DV.int .i64 0, DV.bool false, DV.bool false, DV.int .i64 3, DV.int .i64 0, DV.int .i64 0, DV.int .i64 0, DV.int .i64 0, DV.int .i64 0, DV.int .i64 0, DV.int .u16 0, DV.int .i64 0, DV.int .i64 0, DV.bool false, DV.bool false])))).1)[25]? = some zz1) ∧ True) ∧ True ∧ (Ans Try.prog 18 [RV.d zz1, RV.d (DV.sl 1 ([DV.int .i64 2]))] (RV.d (DV.bool (decide (ints ((cAt (nodesD (buildT (toOps (([DV.int .i64 1, DV.int .i64 0, DV.int .i64 0, DV.int .i64 0, DV.int .i64 0, DV.int .i64 0, DV.int .i64 0, DV.int .u16 0, DV.int .i64 0, DV.int .i64 0, DV.bool false, DV.bool false, DV.int .i64 2, DV.int .i64 0, DV.int .i64 0, DV.int .i64 0, DV.int .i64 0, DV.int .i64 0, DV.int .i64 0, DV.int .u16 0, DV.int .i64 0, DV.int .i64 0, DV.bool false, DV.bool false, DV.int .i64 1, DV.int .i64 0, DV.int .i64 0, DV.int .i64 0, DV.int .i64 0, DV.int .i64 0, DV.int .i64 0, DV.int .u16 0, DV.int .i64 0, DV.int .i64 0, DV.bool false, DV.bool false, DV.int .i64 3, DV.int .i64 0, DV.int .i64 0, DV.int .i64 0, DV.int .i64 0, DV.int .i64 0, DV.int .i64 0, DV.int .u16 0, DV.int .i64 0, DV.int .i64 0, DV.bool false, DV.bool false])))).1) 25)) = ints (([DV.int .i64 2]))))))) ∧ True ∧ True ∧ (((decide (ints ((cAt (nodesD (buildT (toOps (([DV.int .i64 1, DV.int .i64 0, DV.int .i64 0, DV.int .i64 0, DV.int .i64 0, DV.int .i64 0, DV.int .i64 0, DV.int .u16 0, DV.int .i64 0, DV.int .i64 0, DV.bool false, DV.bool false, DV.int .i64 2, DV.int .i64 0, DV.int .i64 0, DV.int .i64 0, DV.int .i64 0, DV.int .i64 0, DV.int .i64 0, DV.int .u16 0, DV.int .i64 0, DV.int .i64 0, DV.bool false, DV.bool false, DV.int .i64 1, DV.int .i64 0, DV.int .i64 0, DV.int .i64 0, DV.int .i64 0, DV.int .i64 0, DV.int .i64 0, DV.int .u16 0, DV.int .i64 0, DV.int .i64 0, DV.bool false, DV.bool false, DV.int .i64 3, DV.int .i64 0, DV.int .i64 0, DV.int .i64 0, DV.int .i64 0, DV.int .i64 0, DV.int .i64 0, DV.int .u16 0, DV.int .i64 0, DV.int .i64 0, DV.bool false, DV.bool false])))).1) 25)) = ints (([DV.int .i64 2])))) = true → True ∧ (Ans Try.prog 20 [RV.agg zz0] (RV.d (DV.int .i64 (depthP (toNodes ((nodesD (buildT (toOps (([DV.int .i64 1, DV.int .i64 0, DV.int .i64 0, DV.int .i64 0, DV.int .i64 0, DV.int .i64 0, DV.int .i64 0, DV.int .u16 0, DV.int .i64 0, DV.int .i64 0, DV.bool false, DV.bool false, DV.int .i64 2, DV.int .i64 0, DV.int .i64 0, DV.int .i64 0, DV.int .i64 0, DV.int .i64 0, DV.int .i64 0, DV.int .u16 0, DV.int .i64 0, DV.int .i64 0, DV.bool false, DV.bool false, DV.int .i64 1, DV.int .i64 0, DV.int .i64 0, DV.int .i64 0, DV.int .i64 0, DV.int .i64 0, DV.int .i64 0, DV.int .u16 0, DV.int .i64 0, DV.int .i64 0, DV.bool false, DV.bool false, DV.int .i64 3, DV.int .i64 0, DV.int .i64 0, DV.int .i64 0, DV.int .i64 0, DV.int .i64 0, DV.int .i64 0, DV.int .u16 0, DV.int .i64 0, DV.int .i64 0, DV.bool false, DV.bool false])))).1))) (ints ((is (buildT (toOps (([DV.int .i64 1, DV.int .i64 0, DV.int .i64 0, DV.int .i64 0, DV.int .i64 0, DV.int .i64 0, DV.int .i64 0, DV.int .u16 0, DV.int .i64 0, DV.int .i64 0, DV.bool false, DV.bool false, DV.int .i64 2, DV.int .i64 0, DV.int .i64 0, DV.int .i64 0, DV.int .i64 0, DV.int .i64 0, DV.int .i64 0, DV.int .u16 0, DV.int .i64 0, DV.int .i64 0, DV.bool false, DV.bool false, DV.int .i64 1, DV.int .i64 0, DV.int .i64 0, DV.int .i64 0, DV.int .i64 0, DV.int .i64 0, DV.int .i64 0, DV.int .u16 0, DV.int .i64 0, DV.int .i64 0, DV.bool false, DV.bool false, DV.int .i64 3, DV.int .i64 0, DV.int .i64 0, DV.int .i64 0, DV.int .i64 0, DV.int .i64 0, DV.int .i64 0, DV.int .u16 0, DV.int .i64 0, DV.int .i64 0, DV.bool false, DV.bool false])))).2.1))))))) ∧ True ∧ True ∧ True ∧ RV.d (DV.bool ((depthP (toNodes ((nodesD (buildT (toOps (([DV.int .i64 1, DV.int .i64 0, DV.int .i64 0, DV.int .i64 0, DV.int .i64 0, DV.int .i64 0, DV.int .i64 0, DV.int .u16 0, DV.int .i64 0, DV.int .i64 0, DV.bool false, DV.bool false, DV.int .i64 2, DV.int .i64 0, DV.int .i64 0, DV.int .i64 0, DV.int .i64 0, DV.int .i64 0, DV.int .i64 0, DV.int .u16 0, DV.int .i64 0, DV.int .i64 0, DV.bool false, DV.bool false, DV.int .i64 1, DV.int .i64 0, DV.int .i64 0, DV.int .i64 0, DV.int .i64 0, DV.int .i64 0, DV.int .i64 0, DV.int .u16 0, DV.int .i64 0, DV.int .i64 0, DV.bool false, DV.bool false, DV.int .i64 3, DV.int .i64 0, DV.int .i64 0, DV.int .i64 0, DV.int .i64 0, DV.int .i64 0, DV.int .i64 0, DV.int .u16 0, DV.int .i64 0, DV.int .i64 0, DV.bool false, DV.bool false])))).1))) (ints ((is (buildT (toOps (([DV.int .i64 1, DV.int .i64 0, DV.int .i64 0, DV.int .i64 0, DV.int .i64 0, DV.int .i64 0, DV.int .i64 0, DV.int .u16 0, DV.int .i64 0, DV.int .i64 0, DV.bool false, DV.bool false, DV.int .i64 2, DV.int .i64 0, DV.int .i64 0, DV.int .i64 0, DV.int .i64 0, DV.int .i64 0, DV.int .i64 0, DV.int .u16 0, DV.int .i64 0, DV.int .i64 0, DV.bool false, DV.bool false, DV.int .i64 1, DV.int .i64 0, DV.int .i64 0, DV.int .i64 0, DV.int .i64 0, DV.int .i64 0, DV.int .i64 0, DV.int .u16 0, DV.int .i64 0, DV.int .i64 0, DV.bool false, DV.bool false, DV.int .i64 3, DV.int .i64 0, DV.int .i64 0, DV.int .i64 0, DV.int .i64 0, DV.int .i64 0, DV.int .i64 0, DV.int .u16 0, DV.int .i64 0, DV.int .i64 0, DV.bool false, DV.bool false])))).2.1)))) == (2 : Int))) = RV.d (DV.bool true)) ∧ ((decide (ints ((cAt (nodesD (buildT (toOps (([DV.int .i64 1, DV.int .i64 0, DV.int .i64 0, DV.int .i64 0, DV.int .i64 0, DV.int .i64 0, DV.int .i64 0, DV.int .u16 0, DV.int .i64 0, DV.int .i64 0, DV.bool false, DV.bool false, DV.int .i64 2, DV.int .i64 0, DV.int .i64 0, DV.int .i64 0, DV.int .i64 0, DV.int .i64 0, DV.int .i64 0, DV.int .u16 0, DV.int .i64 0, DV.int .i64 0, DV.bool false, DV.bool false, DV.int .i64 1, DV.int .i64 0, DV.int .i64 0, DV.int .i64 0, DV.int .i64 0, DV.int .i64 0, DV.int .i64 0, DV.int .u16 0, DV.int .i64 0, DV.int .i64 0, DV.bool false, DV.bool false, DV.int .i64 3, DV.int .i64 0, DV.int .i64 0, DV.int .i64 0, DV.int .i64 0, DV.int .i64 0, DV.int .i64 0, DV.int .u16 0, DV.int .i64 0, DV.int .i64 0, DV.bool false, DV.bool false])))).1) 25)) = ints (([DV.int .i64 2])))) = (!true) → True ∧ True ∧ RV.d (DV.bool false) = RV.d (DV.bool true)))) ∧ ((decide (ints ((is (buildT (toOps (([DV.int .i64 1, DV.int .i64 0, DV.int .i64 0, DV.int .i64 0, DV.int .i64 0, DV.int .i64 0, DV.int .i64 0, DV.int .u16 0, DV.int .i64 0, DV.int .i64 0, DV.bool false, DV.bool false, DV.int .i64 2, DV.int .i64 0, DV.int .i64 0, DV.int .i64 0, DV.int .i64 0, DV.int .i64 0, DV.int .i64 0, DV.int .u16 0, DV.int .i64 0, DV.int .i64 0, DV.bool false, DV.bool false, DV.int .i64 1, DV.int .i64 0, DV.int .i64 0, DV.int .i64 0, DV.int .i64 0, DV.int .i64 0, DV.int .i64 0, DV.int .u16 0, DV.int .i64 0, DV.int .i64 0, DV.bool false, DV.bool false, DV.int .i64 3, DV.int .i64 0, DV.int .i64 0, DV.int .i64 0, DV.int .i64 0, DV.int .i64 0, DV.int .i64 0, DV.int .u16 0, DV.int .i64 0, DV.int .i64 0, DV.bool false, DV.bool false])))).2.1)) = ints (([DV.int .i64 0, DV.int .i64 1])))) = (!true) → True ∧ True ∧ True ∧ True ∧ RV.d (DV.bool false) = RV.d (DV.bool true)))) ∧ (((((buildT (toOps (([DV.int .i64 1, DV.int .i64 0, DV.int .i64 0, DV.int .i64 0, DV.int .i64 0, DV.int .i64 0, DV.int .i64 0, DV.int .u16 0, DV.int .i64 0, DV.int .i64 0, DV.bool false, DV.bool false, DV.int .i64 2, DV.int .i64 0, DV.int .i64 0, DV.int .i64 0, DV.int .i64 0, DV.int .i64 0, DV.int .i64 0, DV.int .u16 0, DV.int .i64 0, DV.int .i64 0, DV.bool false, DV.bool false, DV.int .i64 1, DV.int .i64 0, DV.int .i64 0, DV.int .i64 0, DV.int .i64 0, DV.int .i64 0, DV.int .i64 0, DV.int .u16 0, DV.int .i64 0, DV.int .i64 0, DV.bool false, DV.bool false, DV.int .i64 3, DV.int .i64 0, DV.int .i64 0, DV.int .i64 0, DV.int .i64 0, DV.int .i64 0, DV.int .i64 0, DV.int .u16 0, DV.int .i64 0, DV.int .i64 0, DV.bool false, DV.bool false])))).1.length : Nat) : Int) == (3 : Int)) = (!true) → True ∧ True ∧ True ∧ True ∧ True ∧ True ∧ RV.d (DV.bool false) = RV.d (DV.bool true)))) ∧ ((((buildT (toOps (([DV.int .i64 1, DV.int .i64 0, DV.int .i64 0, DV.int .i64 0, DV.int .i64 0, DV.int .i64 0, DV.int .i64 0, DV.int .u16 0, DV.int .i64 0, DV.int .i64 0, DV.bool false, DV.bool false, DV.int .i64 2, DV.int .i64 0, DV.int .i64 0, DV.int .i64 0, DV.int .i64 0, DV.int .i64 0, DV.int .i64 0, DV.int .u16 0, DV.int .i64 0, DV.int .i64 0, DV.bool false, DV.bool false, DV.int .i64 1, DV.int .i64 0, DV.int .i64 0, DV.int .i64 0, DV.int .i64 0, DV.int .i64 0, DV.int .i64 0, DV.int .u16 0, DV.int .i64 0, DV.int .i64 0, DV.bool false, DV.bool false, DV.int .i64 3, DV.int .i64 0, DV.int .i64 0, DV.int .i64 0, DV.int .i64 0, DV.int .i64 0, DV.int .i64 0, DV.int .u16 0, DV.int .i64 0, DV.int .i64 0, DV.bool false, DV.bool false])))).2.2) == (0 : Int)) = (!true) → True ∧ True ∧ True ∧ True ∧ True ∧ True ∧ True ∧ True ∧ RV.d (DV.bool false) = RV.d (DV.bool true)))) := by kernel_rfl
theorem L21_awake_ans : Ans Try.prog 9 [] (RV.d (DV.bool true)) :=
  ans_of_vcg (Γ := gamTz) (L21_awake_ann ) mixed_ Try.func9 rfl (Nat.le_of_ble_eq_true rfl) fun hwf => by
    refine Eq.mpr (L21_awake_vc ) ?_
    simp only [true_and, and_true, RV.d.injEq, RV.agg.injEq, RV.tup.injEq, DV.bool.injEq, DV.int.injEq, DV.sl.injEq, List.cons.injEq, forall_const, Bool.not_false, Bool.not_true, Bool.not_eq_true', Bool.not_eq_false', decide_eq_true_eq, decide_eq_false_iff_not, Int.toNat_natCast]
    have eL : ([DV.int .i64 1, DV.int .i64 0, DV.int .i64 0, DV.int .i64 0, DV.int .i64 0, DV.int .i64 0, DV.int .i64 0, DV.int .u16 0, DV.int .i64 0, DV.int .i64 0, DV.bool false, DV.bool false, DV.int .i64 2, DV.int .i64 0, DV.int .i64 0, DV.int .i64 0, DV.int .i64 0, DV.int .i64 0, DV.int .i64 0, DV.int .u16 0, DV.int .i64 0, DV.int .i64 0, DV.bool false, DV.bool false, DV.int .i64 1, DV.int .i64 0, DV.int .i64 0, DV.int .i64 0, DV.int .i64 0, DV.int .i64 0, DV.int .i64 0, DV.int .u16 0, DV.int .i64 0, DV.int .i64 0, DV.bool false, DV.bool false, DV.int .i64 3, DV.int .i64 0, DV.int .i64 0, DV.int .i64 0, DV.int .i64 0, DV.int .i64 0, DV.int .i64 0, DV.int .u16 0, DV.int .i64 0, DV.int .i64 0, DV.bool false, DV.bool false] : List DV) = ops awL := rfl
    have aB := tree_Build_ans awL (by decide)
    have aD := tree_Depth_ans awN [0, 1] (by decide) aw_good
    rw [aw_build] at aB
    simp only [eL, toOps_ops, aw_build, toNodes_nodesD, ints_is, aw_depth, treeD] at aB aD ⊢
    have n12 : lAt (nodesD awN) 25 = 1 := rfl
    have c12 : cAt (nodesD awN) 25 = is [2] := rfl
    have e1 : ([DV.int .i64 0, DV.int .i64 1] : List DV) = is [0, 1] := rfl
    have e2 : ([DV.int .i64 2] : List DV) = is [2] := rfl
    have a1 := R18_SameInts_ans [0, 1] [0, 1]
    have a2 := R18_SameInts_ans [2] [2]
    clear hwf eL
    simp only [n12, c12, e1, e2, ints_is] at a1 a2 ⊢
    refine ⟨aB, fun _ => ⟨fun _ => ⟨a1, fun _ => ⟨⟨by omega, by decide, by decide⟩, rfl, a2, fun _ => ⟨aD, rfl⟩, fun h => absurd trivial h⟩, fun h => absurd trivial h⟩, fun h => absurd h (by decide)⟩, fun h => absurd h (by decide)⟩
end Go.Proofs.Ytaaealkgbklmeaa
/-
  The statements' lists of operations: what they are made of.
-/
namespace Go.Proofs.Ytaaealkgbklmeaa
open Go.RowKit
set_option linter.unusedVariables false
set_option linter.unusedSimpArgs false
theorem genL_len : ∀ (l : List Int) (op : Int), (genL l op).1.length = l.length
  | [], _ => rfl
  | n :: l, op => by simp [genL, genL_len l]
theorem genL_open : ∀ (l : List Int) (op : Int), op - l.length ≤ (genL l op).2 ∧ (genL l op).2 ≤ op + l.length
  | [], op => by simp [genL]
  | n :: l, op => by
    have h := genL_open l (stepL n op)
    have hs : op - 1 ≤ stepL n op ∧ stepL n op ≤ op + 1 := by unfold stepL; split <;> (try split) <;> omega
    simp only [genL, List.length_cons]
    omega
theorem listL_len (l : List Int) (c : Bool) : (listL l c).length ≤ 80 := by
  unfold listL
  have h1 := genL_len (l.take 40) 0
  have h2 := genL_open (l.take 40) 0
  have h3 : (l.take 40).length ≤ 40 := by rw [List.length_take]; omega
  rw [List.length_append, h1]
  split
  · rw [List.length_replicate]; omega
  · simp only [List.length_nil]; omega
end Go.Proofs.Ytaaealkgbklmeaa
/-
  TreeBuildAgrees answers true, whatever it is handed.
-/
namespace Go.Proofs.Ytaaealkgbklmeaa
open Go.RowKit
set_option linter.unusedVariables false
set_option linter.unusedSimpArgs false
attribute [local irreducible] Ans AnsO AnsG AnsN AnsI
set_option maxRecDepth 4000
def gamTreeBuildAgrees : Gam where
 pure := fun f xs =>
  if f = 7 then (match xs with | [.d (.sl pn pxs), .d (.bool c)] => some (RV.d (DV.sl ((listL (ints (pxs)) c).length) (ops (listL (ints (pxs)) c)))) | _ => none) else
  if f = 8 then (match xs with | [.d (.sl pn pxs)] => some (RV.tup [RV.agg [DV.sl ((buildT (toOps (pxs))).1.length) (nodesD (buildT (toOps (pxs))).1), DV.sl ((buildT (toOps (pxs))).2.1.length) (is (buildT (toOps (pxs))).2.1)], RV.d (DV.int .i64 ((buildT (toOps (pxs))).2.2))]) | _ => none) else
  if f = 15 then (match xs with | [.d (.sl pn pxs)] => some (RV.tup [RV.agg [DV.sl ((buildT (toOps (pxs))).1.length) (nodesD (buildT (toOps (pxs))).1), DV.sl ((buildT (toOps (pxs))).2.1.length) (is (buildT (toOps (pxs))).2.1)], RV.d (DV.int .i64 ((buildT (toOps (pxs))).2.2))]) | _ => none) else
  if f = 16 then (match xs with | [.d (.sl pn pxs)] => some (RV.tup [RV.d (DV.sl ((endsS (toOps (pxs))).1.length) (is (endsS (toOps (pxs))).1)), RV.d (DV.int .i64 ((endsS (toOps (pxs))).2))]) | _ => none) else
  if f = 17 then (match xs with | [.d (.sl pn pxs)] => some (RV.tup [RV.d (DV.sl ((endsS (toOps (pxs))).1.length) (is (endsS (toOps (pxs))).1)), RV.d (DV.int .i64 ((endsS (toOps (pxs))).2))]) | _ => none) else
  if f = 9 then (match xs with | [] => some (RV.d (DV.bool true)) | _ => none) else
  if f = 13 then (match xs with | [.agg [.sl an axs, .sl ar ars], .agg [.sl bn bxs, .sl br brs]] => some (RV.d (DV.bool (decide (ints (ars) = ints (brs)) && decide (toNodes (axs) = toNodes (bxs))))) | _ => none) else
  if f = 18 then (match xs with | [.d (.sl n xs), .d (.sl m ys)] => some (RV.d (DV.bool (decide (ints (xs) = ints (ys))))) | _ => none) else
  none
 modes := fun f =>
  none
 proc := fun f xs bs =>
  none
 iter := fun f cs =>
  none
def L21_TreeBuildAgrees_ann (pn : Nat) (pxs : List DV) (c : Bool) : Ann := Ann.leaf
theorem L21_TreeBuildAgrees_vc (pn : Nat) (pxs : List DV) (c : Bool) : vcg Try.prog gamTreeBuildAgrees 58 (bodyOf Try.f5) (L21_TreeBuildAgrees_ann pn pxs c) kn0 (start [RV.d (DV.sl pn pxs), RV.d (DV.bool c)]) (post Try.prog Try.f5.results.toList (· = RV.d (DV.bool true))) =
  (let zz0 := (DV.sl ((listL (ints (pxs)) c).length) (ops (listL (ints (pxs)) c))); let zz1 := [RV.d zz0]; let zz2 := [DV.sl ((buildT (toOps ((ops (listL (ints (pxs)) c))))).1.length) (nodesD (buildT (toOps ((ops (listL (ints (pxs)) c))))).1), DV.sl ((buildT (toOps ((ops (listL (ints (pxs)) c))))).2.1.length) (is (buildT (toOps ((ops (listL (ints (pxs)) c))))).2.1)]; let zz3 := (RV.tup [RV.agg zz2, RV.d (DV.int .i64 ((buildT (toOps ((ops (listL (ints (pxs)) c))))).2.2))]); let zz4 := (DV.sl ((endsS (toOps ((ops (listL (ints (pxs)) c))))).1.length) (is (endsS (toOps ((ops (listL (ints (pxs)) c))))).1)); let zz5 := (RV.tup [RV.d zz4, RV.d (DV.int .i64 ((endsS (toOps ((ops (listL (ints (pxs)) c))))).2))]); let zz6 := (DV.bool (decide (ints ((is (endsS (toOps ((ops (listL (ints (pxs)) c))))).1)) = ints ((is (endsS (toOps ((ops (listL (ints (pxs)) c))))).1))))); True ∧ True ∧ True ∧ (Ans Try.prog 7 [RV.d (DV.sl pn pxs), RV.d (DV.bool c)] (RV.d zz0)) ∧ True ∧ True ∧ (Ans Try.prog 8 zz1 zz3) ∧ True ∧ True ∧ True ∧ True ∧ True ∧ True ∧ True ∧ (Ans Try.prog 15 zz1 zz3) ∧ True ∧ True ∧ True ∧ True ∧ True ∧ True ∧ True ∧ (Ans Try.prog 16 zz1 zz5) ∧ True ∧ True ∧ True ∧ True ∧ True ∧ True ∧ (Ans Try.prog 17 zz1 zz5) ∧ True ∧ True ∧ True ∧ True ∧ True ∧ (Ans Try.prog 9 [] (RV.d (DV.bool true))) ∧ True ∧ ((true = true → True ∧ True ∧ True ∧ True ∧ True ∧ (((((buildT (toOps ((ops (listL (ints (pxs)) c))))).2.2) == ((buildT (toOps ((ops (listL (ints (pxs)) c))))).2.2)) = true → True ∧ True ∧ (Ans Try.prog 13 [RV.agg zz2, RV.agg zz2] (RV.d (DV.bool (decide (ints ((is (buildT (toOps ((ops (listL (ints (pxs)) c))))).2.1)) = ints ((is (buildT (toOps ((ops (listL (ints (pxs)) c))))).2.1))) && decide (toNodes ((nodesD (buildT (toOps ((ops (listL (ints (pxs)) c))))).1)) = toNodes ((nodesD (buildT (toOps ((ops (listL (ints (pxs)) c))))).1))))))) ∧ True ∧ True ∧ (((decide (ints ((is (buildT (toOps ((ops (listL (ints (pxs)) c))))).2.1)) = ints ((is (buildT (toOps ((ops (listL (ints (pxs)) c))))).2.1))) && decide (toNodes ((nodesD (buildT (toOps ((ops (listL (ints (pxs)) c))))).1)) = toNodes ((nodesD (buildT (toOps ((ops (listL (ints (pxs)) c))))).1)))) = true → True ∧ True ∧ True ∧ True ∧ True ∧ (((((endsS (toOps ((ops (listL (ints (pxs)) c))))).2) == ((endsS (toOps ((ops (listL (ints (pxs)) c))))).2)) = true → True ∧ True ∧ (Ans Try.prog 18 [RV.d zz4, RV.d zz4] (RV.d zz6)) ∧ True ∧ True ∧ RV.d zz6 = RV.d (DV.bool true)) ∧ ((((endsS (toOps ((ops (listL (ints (pxs)) c))))).2) == ((endsS (toOps ((ops (listL (ints (pxs)) c))))).2)) = (!true) → True ∧ True ∧ RV.d (DV.bool false) = RV.d (DV.bool true)))) ∧ ((decide (ints ((is (buildT (toOps ((ops (listL (ints (pxs)) c))))).2.1)) = ints ((is (buildT (toOps ((ops (listL (ints (pxs)) c))))).2.1))) && decide (toNodes ((nodesD (buildT (toOps ((ops (listL (ints (pxs)) c))))).1)) = toNodes ((nodesD (buildT (toOps ((ops (listL (ints (pxs)) c))))).1)))) = (!true) → True ∧ True ∧ True ∧ True ∧ RV.d (DV.bool false) = RV.d (DV.bool true)))) ∧ ((((buildT (toOps ((ops (listL (ints (pxs)) c))))).2.2) == ((buildT (toOps ((ops (listL (ints (pxs)) c))))).2.2)) = (!true) → True ∧ True ∧ True ∧ True ∧ True ∧ True ∧ RV.d (DV.bool false) = RV.d (DV.bool true)))) ∧ (true = (!true) → True ∧ True ∧ True ∧ True ∧ True ∧ True ∧ True ∧ True ∧ RV.d (DV.bool false) = RV.d (DV.bool true)))) := by kernel_rfl
theorem L21_TreeBuildAgrees_ans (pn : Nat) (pxs : List DV) (c : Bool) (hx : pxs = is (ints pxs) ∧ pn = pxs.length) : Ans Try.prog 5 [RV.d (DV.sl pn pxs), RV.d (DV.bool c)] (RV.d (DV.bool true)) :=
  ans_of_vcg (Γ := gamTreeBuildAgrees) (L21_TreeBuildAgrees_ann pn pxs c) mixed_ Try.func5 rfl (Nat.le_of_ble_eq_true rfl) fun hwf => by
    refine Eq.mpr (L21_TreeBuildAgrees_vc pn pxs c) ?_
    simp only [true_and, and_true, RV.d.injEq, RV.agg.injEq, RV.tup.injEq, DV.bool.injEq, DV.int.injEq, DV.sl.injEq, List.cons.injEq, forall_const, Bool.not_false, Bool.not_true, Bool.not_eq_true', Bool.not_eq_false', decide_eq_true_eq, decide_eq_false_iff_not, Int.toNat_natCast]
    obtain ⟨l, rfl, rfl⟩ : ∃ l, pxs = is l ∧ pn = l.length := ⟨ints pxs, hx.1, by rw [hx.2, hx.1, is_length, ints_is]⟩
    have h80 : (listL l c).length ≤ 100000 := by have := listL_len l c; omega
    have aL := L21_list_ans l c
    clear hx
    have aB := tree_Build_ans (listL l c) h80
    have aR := ref_Build_ans (listL l c) h80
    have aE := tree_Ends_ans (listL l c) h80
    have aF := R18_Ends_ans (listL l c) h80
    have aS := R18_SameTree_ans (buildT (listL l c)).1 (buildT (listL l c)).2.1 (buildT (listL l c)).1 (buildT (listL l c)).2.1
    have aI := R18_SameInts_ans (endsS (listL l c)).1 (endsS (listL l c)).1
    clear hwf
    simp only [treeD, ints_is, toOps_ops, toNodes_nodesD, decide_true, Bool.and_self] at aL aB aR aE aF aS aI ⊢
    refine ⟨aL, aB, aR, aE, aF, L21_awake_ans, ⟨fun _ => ⟨aS, fun _ => ⟨fun _ => aI, fun h => ?_⟩, fun h => ?_⟩, fun h => ?_⟩, fun h => ?_⟩
    all_goals simp at h
end Go.Proofs.Ytaaealkgbklmeaa
/-
  The program's own closed facts, once: each a declaration of its own.
-/
namespace Go.Proofs.Ytaaealkgbklmeaa.closed
open Go
set_option linter.unusedVariables false
set_option linter.unusedSimpArgs false
set_option maxRecDepth 100000 in
theorem headWord : Try.prog.initOrder = String.ofList [Char.ofNat 104, Char.ofNat 97, Char.ofNat 114, Char.ofNat 110, Char.ofNat 101, Char.ofNat 115, Char.ofNat 115, Char.ofNat 32, Char.ofNat 99, Char.ofNat 50, Char.ofNat 51, Char.ofNat 100, Char.ofNat 52, Char.ofNat 56, Char.ofNat 52, Char.ofNat 99, Char.ofNat 101, Char.ofNat 53, Char.ofNat 98, Char.ofNat 56, Char.ofNat 53, Char.ofNat 54, Char.ofNat 54, Char.ofNat 99, Char.ofNat 54, Char.ofNat 51, Char.ofNat 54, Char.ofNat 49, Char.ofNat 50, Char.ofNat 54, Char.ofNat 102, Char.ofNat 50, Char.ofNat 102, Char.ofNat 48, Char.ofNat 97, Char.ofNat 54, Char.ofNat 55, Char.ofNat 57, Char.ofNat 99, Char.ofNat 48, Char.ofNat 55, Char.ofNat 51, Char.ofNat 53, Char.ofNat 54, Char.ofNat 57, Char.ofNat 54, Char.ofNat 54, Char.ofNat 54, Char.ofNat 99, Char.ofNat 53, Char.ofNat 49, Char.ofNat 53, Char.ofNat 101, Char.ofNat 54, Char.ofNat 56, Char.ofNat 98, Char.ofNat 97, Char.ofNat 49, Char.ofNat 98, Char.ofNat 98, Char.ofNat 52, Char.ofNat 53, Char.ofNat 99, Char.ofNat 51, Char.ofNat 54, Char.ofNat 55, Char.ofNat 98, Char.ofNat 99, Char.ofNat 100, Char.ofNat 53, Char.ofNat 57, Char.ofNat 99, Char.ofNat 32, Char.ofNat 99, Char.ofNat 117, Char.ofNat 116, Char.ofNat 32, Char.ofNat 97, Char.ofNat 116, Char.ofNat 32, Char.ofNat 99, Char.ofNat 111, Char.ofNat 109, Char.ofNat 112, Char.ofNat 111, Char.ofNat 115, Char.ofNat 105, Char.ofNat 116, Char.ofNat 111, Char.ofNat 114, Char.ofNat 47, Char.ofNat 99, Char.ofNat 111, Char.ofNat 109, Char.ofNat 112, Char.ofNat 111, Char.ofNat 115, Char.ofNat 105, Char.ofNat 116, Char.ofNat 111, Char.ofNat 114, Char.ofNat 108, Char.ofNat 97, Char.ofNat 119, Char.ofNat 50, Char.ofNat 49, Char.ofNat 46, Char.ofNat 84, Char.ofNat 114, Char.ofNat 101, Char.ofNat 101, Char.ofNat 78, Char.ofNat 117, Char.ofNat 109, Char.ofNat 98, Char.ofNat 101, Char.ofNat 114, Char.ofNat 115, Char.ofNat 71, Char.ofNat 114, Char.ofNat 111, Char.ofNat 119, Char.ofNat 32, Char.ofNat 99, Char.ofNat 111, Char.ofNat 109, Char.ofNat 112, Char.ofNat 111, Char.ofNat 115, Char.ofNat 105, Char.ofNat 116, Char.ofNat 111, Char.ofNat 114, Char.ofNat 47, Char.ofNat 99, Char.ofNat 111, Char.ofNat 109, Char.ofNat 112, Char.ofNat 111, Char.ofNat 115, Char.ofNat 105, Char.ofNat 116, Char.ofNat 111, Char.ofNat 114, Char.ofNat 108, Char.ofNat 97, Char.ofNat 119, Char.ofNat 50, Char.ofNat 49, Char.ofNat 46, Char.ofNat 84, Char.ofNat 114, Char.ofNat 101, Char.ofNat 101, Char.ofNat 82, Char.ofNat 111, Char.ofNat 117, Char.ofNat 110, Char.ofNat 100, Char.ofNat 84, Char.ofNat 114, Char.ofNat 105, Char.ofNat 112, Char.ofNat 32, Char.ofNat 99, Char.ofNat 111, Char.ofNat 109, Char.ofNat 112, Char.ofNat 111, Char.ofNat 115, Char.ofNat 105, Char.ofNat 116, Char.ofNat 111, Char.ofNat 114, Char.ofNat 47, Char.ofNat 99, Char.ofNat 111, Char.ofNat 109, Char.ofNat 112, Char.ofNat 111, Char.ofNat 115, Char.ofNat 105, Char.ofNat 116, Char.ofNat 111, Char.ofNat 114, Char.ofNat 108, Char.ofNat 97, Char.ofNat 119, Char.ofNat 50, Char.ofNat 49, Char.ofNat 46, Char.ofNat 84, Char.ofNat 114, Char.ofNat 101, Char.ofNat 101, Char.ofNat 66, Char.ofNat 117, Char.ofNat 105, Char.ofNat 108, Char.ofNat 100, Char.ofNat 65, Char.ofNat 103, Char.ofNat 114, Char.ofNat 101, Char.ofNat 101, Char.ofNat 115, Char.ofNat 32, Char.ofNat 99, Char.ofNat 111, Char.ofNat 109, Char.ofNat 112, Char.ofNat 111, Char.ofNat 115, Char.ofNat 105, Char.ofNat 116, Char.ofNat 111, Char.ofNat 114, Char.ofNat 47, Char.ofNat 99, Char.ofNat 111, Char.ofNat 109, Char.ofNat 112, Char.ofNat 111, Char.ofNat 115, Char.ofNat 105, Char.ofNat 116, Char.ofNat 111, Char.ofNat 114, Char.ofNat 108, Char.ofNat 97, Char.ofNat 119, Char.ofNat 50, Char.ofNat 49, Char.ofNat 46, Char.ofNat 84, Char.ofNat 114, Char.ofNat 101, Char.ofNat 101, Char.ofNat 69, Char.ofNat 110, Char.ofNat 100, Char.ofNat 115, Char.ofNat 78, Char.ofNat 101, Char.ofNat 115, Char.ofNat 116] := by kernel_rfl
set_option maxRecDepth 100000 in
theorem headSigns : Try.prog.initOrder.toList = [Char.ofNat 104, Char.ofNat 97, Char.ofNat 114, Char.ofNat 110, Char.ofNat 101, Char.ofNat 115, Char.ofNat 115, Char.ofNat 32, Char.ofNat 99, Char.ofNat 50, Char.ofNat 51, Char.ofNat 100, Char.ofNat 52, Char.ofNat 56, Char.ofNat 52, Char.ofNat 99, Char.ofNat 101, Char.ofNat 53, Char.ofNat 98, Char.ofNat 56, Char.ofNat 53, Char.ofNat 54, Char.ofNat 54, Char.ofNat 99, Char.ofNat 54, Char.ofNat 51, Char.ofNat 54, Char.ofNat 49, Char.ofNat 50, Char.ofNat 54, Char.ofNat 102, Char.ofNat 50, Char.ofNat 102, Char.ofNat 48, Char.ofNat 97, Char.ofNat 54, Char.ofNat 55, Char.ofNat 57, Char.ofNat 99, Char.ofNat 48, Char.ofNat 55, Char.ofNat 51, Char.ofNat 53, Char.ofNat 54, Char.ofNat 57, Char.ofNat 54, Char.ofNat 54, Char.ofNat 54, Char.ofNat 99, Char.ofNat 53, Char.ofNat 49, Char.ofNat 53, Char.ofNat 101, Char.ofNat 54, Char.ofNat 56, Char.ofNat 98, Char.ofNat 97, Char.ofNat 49, Char.ofNat 98, Char.ofNat 98, Char.ofNat 52, Char.ofNat 53, Char.ofNat 99, Char.ofNat 51, Char.ofNat 54, Char.ofNat 55, Char.ofNat 98, Char.ofNat 99, Char.ofNat 100, Char.ofNat 53, Char.ofNat 57, Char.ofNat 99, Char.ofNat 32, Char.ofNat 99, Char.ofNat 117, Char.ofNat 116, Char.ofNat 32, Char.ofNat 97, Char.ofNat 116, Char.ofNat 32, Char.ofNat 99, Char.ofNat 111, Char.ofNat 109, Char.ofNat 112, Char.ofNat 111, Char.ofNat 115, Char.ofNat 105, Char.ofNat 116, Char.ofNat 111, Char.ofNat 114, Char.ofNat 47, Char.ofNat 99, Char.ofNat 111, Char.ofNat 109, Char.ofNat 112, Char.ofNat 111, Char.ofNat 115, Char.ofNat 105, Char.ofNat 116, Char.ofNat 111, Char.ofNat 114, Char.ofNat 108, Char.ofNat 97, Char.ofNat 119, Char.ofNat 50, Char.ofNat 49, Char.ofNat 46, Char.ofNat 84, Char.ofNat 114, Char.ofNat 101, Char.ofNat 101, Char.ofNat 78, Char.ofNat 117, Char.ofNat 109, Char.ofNat 98, Char.ofNat 101, Char.ofNat 114, Char.ofNat 115, Char.ofNat 71, Char.ofNat 114, Char.ofNat 111, Char.ofNat 119, Char.ofNat 32, Char.ofNat 99, Char.ofNat 111, Char.ofNat 109, Char.ofNat 112, Char.ofNat 111, Char.ofNat 115, Char.ofNat 105, Char.ofNat 116, Char.ofNat 111, Char.ofNat 114, Char.ofNat 47, Char.ofNat 99, Char.ofNat 111, Char.ofNat 109, Char.ofNat 112, Char.ofNat 111, Char.ofNat 115, Char.ofNat 105, Char.ofNat 116, Char.ofNat 111, Char.ofNat 114, Char.ofNat 108, Char.ofNat 97, Char.ofNat 119, Char.ofNat 50, Char.ofNat 49, Char.ofNat 46, Char.ofNat 84, Char.ofNat 114, Char.ofNat 101, Char.ofNat 101, Char.ofNat 82, Char.ofNat 111, Char.ofNat 117, Char.ofNat 110, Char.ofNat 100, Char.ofNat 84, Char.ofNat 114, Char.ofNat 105, Char.ofNat 112, Char.ofNat 32, Char.ofNat 99, Char.ofNat 111, Char.ofNat 109, Char.ofNat 112, Char.ofNat 111, Char.ofNat 115, Char.ofNat 105, Char.ofNat 116, Char.ofNat 111, Char.ofNat 114, Char.ofNat 47, Char.ofNat 99, Char.ofNat 111, Char.ofNat 109, Char.ofNat 112, Char.ofNat 111, Char.ofNat 115, Char.ofNat 105, Char.ofNat 116, Char.ofNat 111, Char.ofNat 114, Char.ofNat 108, Char.ofNat 97, Char.ofNat 119, Char.ofNat 50, Char.ofNat 49, Char.ofNat 46, Char.ofNat 84, Char.ofNat 114, Char.ofNat 101, Char.ofNat 101, Char.ofNat 66, Char.ofNat 117, Char.ofNat 105, Char.ofNat 108, Char.ofNat 100, Char.ofNat 65, Char.ofNat 103, Char.ofNat 114, Char.ofNat 101, Char.ofNat 101, Char.ofNat 115, Char.ofNat 32, Char.ofNat 99, Char.ofNat 111, Char.ofNat 109, Char.ofNat 112, Char.ofNat 111, Char.ofNat 115, Char.ofNat 105, Char.ofNat 116, Char.ofNat 111, Char.ofNat 114, Char.ofNat 47, Char.ofNat 99, Char.ofNat 111, Char.ofNat 109, Char.ofNat 112, Char.ofNat 111, Char.ofNat 115, Char.ofNat 105, Char.ofNat 116, Char.ofNat 111, Char.ofNat 114, Char.ofNat 108, Char.ofNat 97, Char.ofNat 119, Char.ofNat 50, Char.ofNat 49, Char.ofNat 46, Char.ofNat 84, Char.ofNat 114, Char.ofNat 101, Char.ofNat 101, Char.ofNat 69, Char.ofNat 110, Char.ofNat 100, Char.ofNat 115, Char.ofNat 78, Char.ofNat 101, Char.ofNat 115, Char.ofNat 116] := by rw [headWord, String.toList_ofList]
set_option maxRecDepth 100000 in
theorem enters : Try.prog.mayEnter = true := by
  unfold Program.mayEnter Program.doorFits
  rw [headSigns]
  kernel_rfl
set_option maxRecDepth 100000 in
theorem liftsNot : Try.prog.liftsFinal = false := by
  unfold Program.liftsFinal Program.headLifts
  rw [headSigns]
  kernel_rfl
set_option maxRecDepth 100000 in
theorem made : Try.prog.make = some .cut := by
  unfold Program.make
  rw [headSigns]
  kernel_rfl
theorem own : ownKnob Try.prog.godebug = none := by kernel_rfl
theorem laidOut : laidOutB Try.prog = true := by kernel_rfl
theorem mapsRow : mapsRowed Try.prog = true := by kernel_rfl
theorem noStops : (Try.prog.stops == []) = true := by kernel_rfl
theorem noKnobs : (Try.prog.stopKnobs == []) = true := by kernel_rfl
theorem plain : Try.prog.plainKeys = true := by kernel_rfl
theorem heard : Try.prog.stopsHeard = true := by kernel_rfl
end Go.Proofs.Ytaaealkgbklmeaa.closed
