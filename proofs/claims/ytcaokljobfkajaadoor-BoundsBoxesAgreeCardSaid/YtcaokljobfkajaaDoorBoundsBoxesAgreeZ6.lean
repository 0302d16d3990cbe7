/-
  Part 6 of what BoundsBoxesAgree rests on.
-/
import Derived.Test.YtcaokljobfkajaaDoorBoundsBoxesAgreeZ5
import Derived.Test.YtcaokljobfkajaaDoorBoundsBoxesAgreeZ3
import Derived.Test.YtcaokljobfkajaaDoorBoundsBoxesAgreeZ2
import Derived.Test.YtcaokljobfkajaaDoorRows
import Derived.JoinedOf
import Derived.KernelRfl
import Derived.Test.YtcaokljobfkajaaDoorBoundsBoxesAgreeZ1
import Derived.MakeChecks
import Derived.LaidHandle
import Derived.LaidMore
import Derived.Stop.Joined
/-
  What is active, as the program and the reference find it.
-/
namespace Go.Proofs.YtcaokljobfkajaaDoor
open Go.RowKit
set_option linter.unusedVariables false
set_option linter.unusedSimpArgs false
attribute [local irreducible] Ans AnsO AnsG AnsN AnsI

set_option maxRecDepth 4000
theorem actTo_succ (s : Scr) (r : Rc) (i j : Nat) : actTo s r i (j + 1) = (actTo s r i j && (!(decide ((opAt s j).kind = 2) && decide (i < enAt s j)) || hitB s r j)) := by
  unfold actTo
  rw [List.range_succ, List.all_append, Bool.and_assoc]
  simp
def gamBd : Gam where
 pure := fun f xs =>
  if f = 15 then (match xs with | [.agg [.int _ bits, .int _ cx0, .int _ cy0, .int _ cx1, .int _ cy1, .int _ tw, .int _ th, .sl on oxs, .sl mn mxs, .sl pn pxs]] => some (RV.tup [RV.d (DV.sl ((boxesS (⟨bits, ⟨cx0, cy0, cx1, cy1⟩, tw, th, ints oxs, toIms mxs, toOps pxs⟩ : Scr)).1.length) (rcs (boxesS (⟨bits, ⟨cx0, cy0, cx1, cy1⟩, tw, th, ints oxs, toIms mxs, toOps pxs⟩ : Scr)).1)), RV.d (DV.int .i64 ((boxesS (⟨bits, ⟨cx0, cy0, cx1, cy1⟩, tw, th, ints oxs, toIms mxs, toOps pxs⟩ : Scr)).2))]) | _ => none) else
  if f = 16 then (match xs with | [.agg [.int _ bits, .int _ cx0, .int _ cy0, .int _ cx1, .int _ cy1, .int _ tw, .int _ th, .sl on oxs, .sl mn mxs, .sl pn pxs]] => some (RV.tup [RV.d (DV.sl ((boxesS (⟨bits, ⟨cx0, cy0, cx1, cy1⟩, tw, th, ints oxs, toIms mxs, toOps pxs⟩ : Scr)).1.length) (rcs (boxesS (⟨bits, ⟨cx0, cy0, cx1, cy1⟩, tw, th, ints oxs, toIms mxs, toOps pxs⟩ : Scr)).1)), RV.d (DV.int .i64 ((boxesS (⟨bits, ⟨cx0, cy0, cx1, cy1⟩, tw, th, ints oxs, toIms mxs, toOps pxs⟩ : Scr)).2))]) | _ => none) else
  if f = 39 then (match xs with | [.d (.sl pn pxs)] => some (RV.tup [RV.d (DV.sl ((endsS (toOps (pxs))).1.length) (is (endsS (toOps (pxs))).1)), RV.d (DV.int .i64 ((endsS (toOps (pxs))).2))]) | _ => none) else
  if f = 37 then (match xs with | [.d (.sl pn pxs)] => some (RV.tup [RV.d (DV.sl ((endsS (toOps (pxs))).1.length) (is (endsS (toOps (pxs))).1)), RV.d (DV.int .i64 ((endsS (toOps (pxs))).2))]) | _ => none) else
  if f = 31 then (match xs with | [.agg [.int _ a, .int _ b, .int _ c, .int _ d], .agg [.int _ a', .int _ b', .int _ c', .int _ d']] => some (RV.agg [DV.int .i64 ((Rc.inter ⟨a, b, c, d⟩ ⟨a', b', c', d'⟩).a), DV.int .i64 ((Rc.inter ⟨a, b, c, d⟩ ⟨a', b', c', d'⟩).b), DV.int .i64 ((Rc.inter ⟨a, b, c, d⟩ ⟨a', b', c', d'⟩).c), DV.int .i64 ((Rc.inter ⟨a, b, c, d⟩ ⟨a', b', c', d'⟩).d)]) | _ => none) else
  if f = 32 then (match xs with | [.agg [.int _ a, .int _ b, .int _ c, .int _ d], .agg [.int _ a', .int _ b', .int _ c', .int _ d']] => some (RV.agg [DV.int .i64 ((Rc.inter ⟨a, b, c, d⟩ ⟨a', b', c', d'⟩).a), DV.int .i64 ((Rc.inter ⟨a, b, c, d⟩ ⟨a', b', c', d'⟩).b), DV.int .i64 ((Rc.inter ⟨a, b, c, d⟩ ⟨a', b', c', d'⟩).c), DV.int .i64 ((Rc.inter ⟨a, b, c, d⟩ ⟨a', b', c', d'⟩).d)]) | _ => none) else
  if f = 40 then (match xs with | [.agg [.int _ a, .int _ b, .int _ c, .int _ d]] => some (RV.d (DV.bool (Rc.empty ⟨a, b, c, d⟩))) | _ => none) else
  if f = 41 then (match xs with | [.agg [.int _ a, .int _ b, .int _ c, .int _ d]] => some (RV.d (DV.bool (Rc.empty ⟨a, b, c, d⟩))) | _ => none) else
  none
 modes := fun f =>
  none
 proc := fun f xs bs =>
  none
 iter := fun f cs =>
  none

def bounds_Active_ann (s : Scr) (r : Rc) : Ann := (Ann.seq Ann.leaf (Ann.seq Ann.leaf (Ann.seq Ann.leaf (Ann.seq Ann.leaf (Ann.seq Ann.leaf (Ann.seq (Ann.seq Ann.leaf (Ann.loop ⟨Nat, fun k => k ≤ s.ops.length ∧ Live s r k, fun k => ⟨[(2, AV.one (Cl.ptr 2 0)), (3, AV.one (Cl.ptr 3 0)), (6, AV.one (Cl.d (DV.sl ((boxesS (⟨s.bits, ⟨s.c.a, s.c.b, s.c.c, s.c.d⟩, s.tw, s.th, ints (is s.ord), toIms (ims s.ims), toOps (ops s.ops)⟩ : Scr)).1.length) (rcs (boxesS (⟨s.bits, ⟨s.c.a, s.c.b, s.c.c, s.c.d⟩, s.tw, s.th, ints (is s.ord), toIms (ims s.ims), toOps (ops s.ops)⟩ : Scr)).1)))), (8, AV.one (Cl.d (DV.sl ((endsS (toOps ((ops s.ops)))).1.length) (is (endsS (toOps ((ops s.ops)))).1)))), (10, AV.one (Cl.ref 28 s.ops.length)), (11, AV.one (Cl.d (DV.int .i64 ((k : Nat) : Int))))], [(2, Bx.cells [Cl.d (DV.int .i64 s.bits), Cl.d (DV.int .i64 s.c.a), Cl.d (DV.int .i64 s.c.b), Cl.d (DV.int .i64 s.c.c), Cl.d (DV.int .i64 s.c.d), Cl.d (DV.int .i64 s.tw), Cl.d (DV.int .i64 s.th), Cl.d (DV.sl s.ord.length (is s.ord)), Cl.d (DV.sl s.ims.length (ims s.ims)), Cl.d (DV.sl s.ops.length (ops s.ops))]), (3, Bx.cells [Cl.d (DV.int .i64 r.a), Cl.d (DV.int .i64 r.b), Cl.d (DV.int .i64 r.c), Cl.d (DV.int .i64 r.d)]), (28, Bx.row 4 1 (bs (actUp s r k)))]⟩, fun k => s.ops.length - k⟩ fun k => Ann.leaf)) Ann.leaf))))))
theorem bounds_Active_vc (s : Scr) (r : Rc) : vcg Tryd.prog gamBd 65 (bodyOf Tryd.f20) (bounds_Active_ann s r) kn0 (start [RV.agg [DV.int .i64 s.bits, DV.int .i64 s.c.a, DV.int .i64 s.c.b, DV.int .i64 s.c.c, DV.int .i64 s.c.d, DV.int .i64 s.tw, DV.int .i64 s.th, DV.sl s.ord.length (is s.ord), DV.sl s.ims.length (ims s.ims), DV.sl s.ops.length (ops s.ops)], RV.agg [DV.int .i64 r.a, DV.int .i64 r.b, DV.int .i64 r.c, DV.int .i64 r.d]]) (post Tryd.prog Tryd.f20.results.toList (· = RV.tup [RV.d (DV.sl ((activeS s r).1.length) (bs (activeS s r).1)), RV.d (DV.int .i64 ((activeS s r).2))])) =
  (let zz0 := [DV.int .i64 s.bits, DV.int .i64 s.c.a, DV.int .i64 s.c.b, DV.int .i64 s.c.c, DV.int .i64 s.c.d, DV.int .i64 s.tw, DV.int .i64 s.th, DV.sl s.ord.length (is s.ord), DV.sl s.ims.length (ims s.ims), DV.sl s.ops.length (ops s.ops)]; let zz1 := [RV.d (DV.sl ((activeS s r).1.length) (bs (activeS s r).1)), RV.d (DV.int .i64 ((activeS s r).2))]; let zz2 := fun (k : Nat) => (k ≤ s.ops.length ∧ Live s r k); let zz3 := (DV.sl ((boxesS (⟨s.bits, s.c, s.tw, s.th, ints (is s.ord), toIms (ims s.ims), toOps (ops s.ops)⟩ : Scr)).1.length) (rcs (boxesS (⟨s.bits, s.c, s.tw, s.th, ints (is s.ord), toIms (ims s.ims), toOps (ops s.ops)⟩ : Scr)).1) = DV.sl ((boxesS (⟨s.bits, s.c, s.tw, s.th, ints (is s.ord), toIms (ims s.ims), toOps (ops s.ops)⟩ : Scr)).1.length) (rcs (boxesS (⟨s.bits, s.c, s.tw, s.th, ints (is s.ord), toIms (ims s.ims), toOps (ops s.ops)⟩ : Scr)).1)); let zz4 := (DV.sl ((endsS (toOps ((ops s.ops)))).1.length) (is (endsS (toOps ((ops s.ops)))).1) = DV.sl ((endsS (toOps ((ops s.ops)))).1.length) (is (endsS (toOps ((ops s.ops)))).1)); let zz5 := (zz0 = zz0); let zz6 := [DV.int .i64 r.a, DV.int .i64 r.b, DV.int .i64 r.c, DV.int .i64 r.d]; let zz7 := (zz6 = zz6); let zz8 := fun (k : Nat) => [DV.int .i64 ((Rc.inter ⟨(nAt (rcs (boxesS (⟨s.bits, s.c, s.tw, s.th, ints (is s.ord), toIms (ims s.ims), toOps (ops s.ops)⟩ : Scr)).1) (((k : Nat) : Int).toNat * 4)), (nAt (rcs (boxesS (⟨s.bits, s.c, s.tw, s.th, ints (is s.ord), toIms (ims s.ims), toOps (ops s.ops)⟩ : Scr)).1) (((k : Nat) : Int).toNat * 4 + 1)), (nAt (rcs (boxesS (⟨s.bits, s.c, s.tw, s.th, ints (is s.ord), toIms (ims s.ims), toOps (ops s.ops)⟩ : Scr)).1) (((k : Nat) : Int).toNat * 4 + 1 + 1)), (nAt (rcs (boxesS (⟨s.bits, s.c, s.tw, s.th, ints (is s.ord), toIms (ims s.ims), toOps (ops s.ops)⟩ : Scr)).1) (((k : Nat) : Int).toNat * 4 + 1 + 1 + 1))⟩ r).a), DV.int .i64 ((Rc.inter ⟨(nAt (rcs (boxesS (⟨s.bits, s.c, s.tw, s.th, ints (is s.ord), toIms (ims s.ims), toOps (ops s.ops)⟩ : Scr)).1) (((k : Nat) : Int).toNat * 4)), (nAt (rcs (boxesS (⟨s.bits, s.c, s.tw, s.th, ints (is s.ord), toIms (ims s.ims), toOps (ops s.ops)⟩ : Scr)).1) (((k : Nat) : Int).toNat * 4 + 1)), (nAt (rcs (boxesS (⟨s.bits, s.c, s.tw, s.th, ints (is s.ord), toIms (ims s.ims), toOps (ops s.ops)⟩ : Scr)).1) (((k : Nat) : Int).toNat * 4 + 1 + 1)), (nAt (rcs (boxesS (⟨s.bits, s.c, s.tw, s.th, ints (is s.ord), toIms (ims s.ims), toOps (ops s.ops)⟩ : Scr)).1) (((k : Nat) : Int).toNat * 4 + 1 + 1 + 1))⟩ r).b), DV.int .i64 ((Rc.inter ⟨(nAt (rcs (boxesS (⟨s.bits, s.c, s.tw, s.th, ints (is s.ord), toIms (ims s.ims), toOps (ops s.ops)⟩ : Scr)).1) (((k : Nat) : Int).toNat * 4)), (nAt (rcs (boxesS (⟨s.bits, s.c, s.tw, s.th, ints (is s.ord), toIms (ims s.ims), toOps (ops s.ops)⟩ : Scr)).1) (((k : Nat) : Int).toNat * 4 + 1)), (nAt (rcs (boxesS (⟨s.bits, s.c, s.tw, s.th, ints (is s.ord), toIms (ims s.ims), toOps (ops s.ops)⟩ : Scr)).1) (((k : Nat) : Int).toNat * 4 + 1 + 1)), (nAt (rcs (boxesS (⟨s.bits, s.c, s.tw, s.th, ints (is s.ord), toIms (ims s.ims), toOps (ops s.ops)⟩ : Scr)).1) (((k : Nat) : Int).toNat * 4 + 1 + 1 + 1))⟩ r).c), DV.int .i64 ((Rc.inter ⟨(nAt (rcs (boxesS (⟨s.bits, s.c, s.tw, s.th, ints (is s.ord), toIms (ims s.ims), toOps (ops s.ops)⟩ : Scr)).1) (((k : Nat) : Int).toNat * 4)), (nAt (rcs (boxesS (⟨s.bits, s.c, s.tw, s.th, ints (is s.ord), toIms (ims s.ims), toOps (ops s.ops)⟩ : Scr)).1) (((k : Nat) : Int).toNat * 4 + 1)), (nAt (rcs (boxesS (⟨s.bits, s.c, s.tw, s.th, ints (is s.ord), toIms (ims s.ims), toOps (ops s.ops)⟩ : Scr)).1) (((k : Nat) : Int).toNat * 4 + 1 + 1)), (nAt (rcs (boxesS (⟨s.bits, s.c, s.tw, s.th, ints (is s.ord), toIms (ims s.ims), toOps (ops s.ops)⟩ : Scr)).1) (((k : Nat) : Int).toNat * 4 + 1 + 1 + 1))⟩ r).d)]; let zz9 := fun (k : Nat) => (0 ≤ ((k : Nat) : Int) ∧ ((k : Nat) : Int) < ((s.ops.length : Nat) : Int)); let zz10 := fun (k' : Nat) => (k' ≤ s.ops.length ∧ Live s r k'); let zz11 := fun (k : Nat) => fun (k' : Nat) => (s.ops.length - k' < s.ops.length - k); let zz12 := (s.ops.length = s.ops.length); let zz13 := fun (k : Nat) => fun (k' : Nat) => (zz5 ∧ zz7 ∧ (List.set (bs (actUp s r k)) (((k : Nat) : Int).toNat * 1) (DV.bool (!(Rc.empty (Rc.inter ⟨(nAt (rcs (boxesS (⟨s.bits, s.c, s.tw, s.th, ints (is s.ord), toIms (ims s.ims), toOps (ops s.ops)⟩ : Scr)).1) (((k : Nat) : Int).toNat * 4)), (nAt (rcs (boxesS (⟨s.bits, s.c, s.tw, s.th, ints (is s.ord), toIms (ims s.ims), toOps (ops s.ops)⟩ : Scr)).1) (((k : Nat) : Int).toNat * 4 + 1)), (nAt (rcs (boxesS (⟨s.bits, s.c, s.tw, s.th, ints (is s.ord), toIms (ims s.ims), toOps (ops s.ops)⟩ : Scr)).1) (((k : Nat) : Int).toNat * 4 + 1 + 1)), (nAt (rcs (boxesS (⟨s.bits, s.c, s.tw, s.th, ints (is s.ord), toIms (ims s.ims), toOps (ops s.ops)⟩ : Scr)).1) (((k : Nat) : Int).toNat * 4 + 1 + 1 + 1))⟩ r)))) = bs (actUp s r k')) ∧ True); let zz14 := fun (k : Nat) => fun (k' : Nat) => (((0 = 0) ∧ (0 = 0) ∧ zz3 ∧ zz4 ∧ zz12 ∧ (DV.int .i64 (IntKind.wrap .i64 (((k : Nat) : Int) + (1 : Int))) = DV.int .i64 ((k' : Nat) : Int)) ∧ True) ∧ (zz13 k k')); True ∧ True ∧ True ∧ True ∧ True ∧ (Ans Tryd.prog 15 [RV.agg zz0] (RV.tup [RV.d (DV.sl ((boxesS (⟨s.bits, s.c, s.tw, s.th, ints (is s.ord), toIms (ims s.ims), toOps (ops s.ops)⟩ : Scr)).1.length) (rcs (boxesS (⟨s.bits, s.c, s.tw, s.th, ints (is s.ord), toIms (ims s.ims), toOps (ops s.ops)⟩ : Scr)).1)), RV.d (DV.int .i64 ((boxesS (⟨s.bits, s.c, s.tw, s.th, ints (is s.ord), toIms (ims s.ims), toOps (ops s.ops)⟩ : Scr)).2))])) ∧ True ∧ True ∧ True ∧ True ∧ True ∧ True ∧ True ∧ (((((boxesS (⟨s.bits, s.c, s.tw, s.th, ints (is s.ord), toIms (ims s.ims), toOps (ops s.ops)⟩ : Scr)).2) != (0 : Int)) = true → True ∧ True ∧ True ∧ RV.tup [RV.d (DV.sl 0 ([])), RV.d (DV.int .i64 ((boxesS (⟨s.bits, s.c, s.tw, s.th, ints (is s.ord), toIms (ims s.ims), toOps (ops s.ops)⟩ : Scr)).2))] = RV.tup zz1) ∧ ((((boxesS (⟨s.bits, s.c, s.tw, s.th, ints (is s.ord), toIms (ims s.ims), toOps (ops s.ops)⟩ : Scr)).2) != (0 : Int)) = false → True ∧ True ∧ (Ans Tryd.prog 39 [RV.d (DV.sl s.ops.length (ops s.ops))] (RV.tup [RV.d (DV.sl ((endsS (toOps ((ops s.ops)))).1.length) (is (endsS (toOps ((ops s.ops)))).1)), RV.d (DV.int .i64 ((endsS (toOps ((ops s.ops)))).2))])) ∧ True ∧ True ∧ True ∧ True ∧ True ∧ True ∧ True ∧ (0 ≤ (((boxesS (⟨s.bits, s.c, s.tw, s.th, ints (is s.ord), toIms (ims s.ims), toOps (ops s.ops)⟩ : Scr)).1.length : Nat) : Int) ∧ (((boxesS (⟨s.bits, s.c, s.tw, s.th, ints (is s.ord), toIms (ims s.ims), toOps (ops s.ops)⟩ : Scr)).1.length : Nat) : Int) ≤ (((boxesS (⟨s.bits, s.c, s.tw, s.th, ints (is s.ord), toIms (ims s.ims), toOps (ops s.ops)⟩ : Scr)).1.length : Nat) : Int) ∧ (((boxesS (⟨s.bits, s.c, s.tw, s.th, ints (is s.ord), toIms (ims s.ims), toOps (ops s.ops)⟩ : Scr)).1.length : Nat) : Int) ≤ ((maxLen : Nat) : Int) ∧ ((1 : Nat) : Int) * (((boxesS (⟨s.bits, s.c, s.tw, s.th, ints (is s.ord), toIms (ims s.ims), toOps (ops s.ops)⟩ : Scr)).1.length : Nat) : Int) ≤ 281474976710656) ∧ True ∧ True ∧ ((∃ k : Nat, (zz2 k) ∧ (((0 = 0) ∧ (0 = 0) ∧ zz3 ∧ zz4 ∧ ((((boxesS (⟨s.bits, s.c, s.tw, s.th, ints (is s.ord), toIms (ims s.ims), toOps (ops s.ops)⟩ : Scr)).1.length : Nat) : Int).toNat = s.ops.length) ∧ (DV.int .i64 0 = DV.int .i64 ((k : Nat) : Int)) ∧ True) ∧ (zz5 ∧ zz7 ∧ (List.replicate (((boxesS (⟨s.bits, s.c, s.tw, s.th, ints (is s.ord), toIms (ims s.ims), toOps (ops s.ops)⟩ : Scr)).1.length : Nat) : Int).toNat (DV.bool false) = bs (actUp s r k)) ∧ True))) ∧ ∀ k : Nat, (zz2 k) → True ∧ True ∧ True ∧ True ∧ (((decide (((k : Nat) : Int) < (((boxesS (⟨s.bits, s.c, s.tw, s.th, ints (is s.ord), toIms (ims s.ims), toOps (ops s.ops)⟩ : Scr)).1.length : Nat) : Int))) = true → True ∧ True ∧ True ∧ True ∧ (0 ≤ ((k : Nat) : Int) ∧ ((k : Nat) : Int) < (((boxesS (⟨s.bits, s.c, s.tw, s.th, ints (is s.ord), toIms (ims s.ims), toOps (ops s.ops)⟩ : Scr)).1.length : Nat) : Int) ∧ ((k : Nat) : Int).toNat * 4 < (rcs (boxesS (⟨s.bits, s.c, s.tw, s.th, ints (is s.ord), toIms (ims s.ims), toOps (ops s.ops)⟩ : Scr)).1).length) ∧ (((rcs (boxesS (⟨s.bits, s.c, s.tw, s.th, ints (is s.ord), toIms (ims s.ims), toOps (ops s.ops)⟩ : Scr)).1)[((k : Nat) : Int).toNat * 4]? = some (DV.int .i64 (nAt (rcs (boxesS (⟨s.bits, s.c, s.tw, s.th, ints (is s.ord), toIms (ims s.ims), toOps (ops s.ops)⟩ : Scr)).1) (((k : Nat) : Int).toNat * 4)))) ∧ ((rcs (boxesS (⟨s.bits, s.c, s.tw, s.th, ints (is s.ord), toIms (ims s.ims), toOps (ops s.ops)⟩ : Scr)).1)[((k : Nat) : Int).toNat * 4 + 1]? = some (DV.int .i64 (nAt (rcs (boxesS (⟨s.bits, s.c, s.tw, s.th, ints (is s.ord), toIms (ims s.ims), toOps (ops s.ops)⟩ : Scr)).1) (((k : Nat) : Int).toNat * 4 + 1)))) ∧ ((rcs (boxesS (⟨s.bits, s.c, s.tw, s.th, ints (is s.ord), toIms (ims s.ims), toOps (ops s.ops)⟩ : Scr)).1)[((k : Nat) : Int).toNat * 4 + 1 + 1]? = some (DV.int .i64 (nAt (rcs (boxesS (⟨s.bits, s.c, s.tw, s.th, ints (is s.ord), toIms (ims s.ims), toOps (ops s.ops)⟩ : Scr)).1) (((k : Nat) : Int).toNat * 4 + 1 + 1)))) ∧ ((rcs (boxesS (⟨s.bits, s.c, s.tw, s.th, ints (is s.ord), toIms (ims s.ims), toOps (ops s.ops)⟩ : Scr)).1)[((k : Nat) : Int).toNat * 4 + 1 + 1 + 1]? = some (DV.int .i64 (nAt (rcs (boxesS (⟨s.bits, s.c, s.tw, s.th, ints (is s.ord), toIms (ims s.ims), toOps (ops s.ops)⟩ : Scr)).1) (((k : Nat) : Int).toNat * 4 + 1 + 1 + 1)))) ∧ True) ∧ True ∧ (Ans Tryd.prog 31 [RV.agg [DV.int .i64 (nAt (rcs (boxesS (⟨s.bits, s.c, s.tw, s.th, ints (is s.ord), toIms (ims s.ims), toOps (ops s.ops)⟩ : Scr)).1) (((k : Nat) : Int).toNat * 4)), DV.int .i64 (nAt (rcs (boxesS (⟨s.bits, s.c, s.tw, s.th, ints (is s.ord), toIms (ims s.ims), toOps (ops s.ops)⟩ : Scr)).1) (((k : Nat) : Int).toNat * 4 + 1)), DV.int .i64 (nAt (rcs (boxesS (⟨s.bits, s.c, s.tw, s.th, ints (is s.ord), toIms (ims s.ims), toOps (ops s.ops)⟩ : Scr)).1) (((k : Nat) : Int).toNat * 4 + 1 + 1)), DV.int .i64 (nAt (rcs (boxesS (⟨s.bits, s.c, s.tw, s.th, ints (is s.ord), toIms (ims s.ims), toOps (ops s.ops)⟩ : Scr)).1) (((k : Nat) : Int).toNat * 4 + 1 + 1 + 1))], RV.agg zz6] (RV.agg (zz8 k))) ∧ (Ans Tryd.prog 40 [RV.agg (zz8 k)] (RV.d (DV.bool (Rc.empty (Rc.inter ⟨(nAt (rcs (boxesS (⟨s.bits, s.c, s.tw, s.th, ints (is s.ord), toIms (ims s.ims), toOps (ops s.ops)⟩ : Scr)).1) (((k : Nat) : Int).toNat * 4)), (nAt (rcs (boxesS (⟨s.bits, s.c, s.tw, s.th, ints (is s.ord), toIms (ims s.ims), toOps (ops s.ops)⟩ : Scr)).1) (((k : Nat) : Int).toNat * 4 + 1)), (nAt (rcs (boxesS (⟨s.bits, s.c, s.tw, s.th, ints (is s.ord), toIms (ims s.ims), toOps (ops s.ops)⟩ : Scr)).1) (((k : Nat) : Int).toNat * 4 + 1 + 1)), (nAt (rcs (boxesS (⟨s.bits, s.c, s.tw, s.th, ints (is s.ord), toIms (ims s.ims), toOps (ops s.ops)⟩ : Scr)).1) (((k : Nat) : Int).toNat * 4 + 1 + 1 + 1))⟩ r))))) ∧ True ∧ (zz9 k) ∧ (((k : Nat) : Int).toNat * 1 + 1 ≤ (bs (actUp s r k)).length) ∧ (true = true) ∧ True ∧ True ∧ True ∧ (0 ≤ ((k : Nat) : Int) ∧ ((k : Nat) : Int) < ((s.ops.length : Nat) : Int) ∧ ((k : Nat) : Int).toNat * 12 < (ops s.ops).length) ∧ True ∧ (((ops s.ops)[((k : Nat) : Int).toNat * 12 + 0]? = some (DV.int .i64 (nAt (ops s.ops) (((k : Nat) : Int).toNat * 12 + 0)))) ∧ True) ∧ True ∧ True ∧ ((((nAt (ops s.ops) (((k : Nat) : Int).toNat * 12 + 0)) == (2 : Int)) = true → True ∧ True ∧ (zz9 k) ∧ (((List.set (bs (actUp s r k)) (((k : Nat) : Int).toNat * 1) (DV.bool (!(Rc.empty (Rc.inter ⟨(nAt (rcs (boxesS (⟨s.bits, s.c, s.tw, s.th, ints (is s.ord), toIms (ims s.ims), toOps (ops s.ops)⟩ : Scr)).1) (((k : Nat) : Int).toNat * 4)), (nAt (rcs (boxesS (⟨s.bits, s.c, s.tw, s.th, ints (is s.ord), toIms (ims s.ims), toOps (ops s.ops)⟩ : Scr)).1) (((k : Nat) : Int).toNat * 4 + 1)), (nAt (rcs (boxesS (⟨s.bits, s.c, s.tw, s.th, ints (is s.ord), toIms (ims s.ims), toOps (ops s.ops)⟩ : Scr)).1) (((k : Nat) : Int).toNat * 4 + 1 + 1)), (nAt (rcs (boxesS (⟨s.bits, s.c, s.tw, s.th, ints (is s.ord), toIms (ims s.ims), toOps (ops s.ops)⟩ : Scr)).1) (((k : Nat) : Int).toNat * 4 + 1 + 1 + 1))⟩ r)))))[((k : Nat) : Int).toNat * 1]? = some (DV.bool (bAt (List.set (bs (actUp s r k)) (((k : Nat) : Int).toNat * 1) (DV.bool (!(Rc.empty (Rc.inter ⟨(nAt (rcs (boxesS (⟨s.bits, s.c, s.tw, s.th, ints (is s.ord), toIms (ims s.ims), toOps (ops s.ops)⟩ : Scr)).1) (((k : Nat) : Int).toNat * 4)), (nAt (rcs (boxesS (⟨s.bits, s.c, s.tw, s.th, ints (is s.ord), toIms (ims s.ims), toOps (ops s.ops)⟩ : Scr)).1) (((k : Nat) : Int).toNat * 4 + 1)), (nAt (rcs (boxesS (⟨s.bits, s.c, s.tw, s.th, ints (is s.ord), toIms (ims s.ims), toOps (ops s.ops)⟩ : Scr)).1) (((k : Nat) : Int).toNat * 4 + 1 + 1)), (nAt (rcs (boxesS (⟨s.bits, s.c, s.tw, s.th, ints (is s.ord), toIms (ims s.ims), toOps (ops s.ops)⟩ : Scr)).1) (((k : Nat) : Int).toNat * 4 + 1 + 1 + 1))⟩ r))))) (((k : Nat) : Int).toNat * 1)))) ∧ True) ∧ True ∧ True ∧ (((!(bAt (List.set (bs (actUp s r k)) (((k : Nat) : Int).toNat * 1) (DV.bool (!(Rc.empty (Rc.inter ⟨(nAt (rcs (boxesS (⟨s.bits, s.c, s.tw, s.th, ints (is s.ord), toIms (ims s.ims), toOps (ops s.ops)⟩ : Scr)).1) (((k : Nat) : Int).toNat * 4)), (nAt (rcs (boxesS (⟨s.bits, s.c, s.tw, s.th, ints (is s.ord), toIms (ims s.ims), toOps (ops s.ops)⟩ : Scr)).1) (((k : Nat) : Int).toNat * 4 + 1)), (nAt (rcs (boxesS (⟨s.bits, s.c, s.tw, s.th, ints (is s.ord), toIms (ims s.ims), toOps (ops s.ops)⟩ : Scr)).1) (((k : Nat) : Int).toNat * 4 + 1 + 1)), (nAt (rcs (boxesS (⟨s.bits, s.c, s.tw, s.th, ints (is s.ord), toIms (ims s.ims), toOps (ops s.ops)⟩ : Scr)).1) (((k : Nat) : Int).toNat * 4 + 1 + 1 + 1))⟩ r))))) (((k : Nat) : Int).toNat * 1))) = true → True ∧ True ∧ (0 ≤ ((k : Nat) : Int) ∧ ((k : Nat) : Int) < (((endsS (toOps ((ops s.ops)))).1.length : Nat) : Int) ∧ ((k : Nat) : Int).toNat * 1 < (is (endsS (toOps ((ops s.ops)))).1).length) ∧ (((is (endsS (toOps ((ops s.ops)))).1)[((k : Nat) : Int).toNat * 1]? = some (DV.int .i64 (nAt (is (endsS (toOps ((ops s.ops)))).1) (((k : Nat) : Int).toNat * 1)))) ∧ True) ∧ True ∧ True ∧ True ∧ True ∧ ∃ k' : Nat, (zz10 k') ∧ (zz11 k k') ∧ (((0 = 0) ∧ (0 = 0) ∧ zz3 ∧ zz4 ∧ zz12 ∧ (DV.int .i64 (IntKind.wrap .i64 ((nAt (is (endsS (toOps ((ops s.ops)))).1) (((k : Nat) : Int).toNat * 1)) + (1 : Int))) = DV.int .i64 ((k' : Nat) : Int)) ∧ True) ∧ (zz13 k k'))) ∧ ((!(bAt (List.set (bs (actUp s r k)) (((k : Nat) : Int).toNat * 1) (DV.bool (!(Rc.empty (Rc.inter ⟨(nAt (rcs (boxesS (⟨s.bits, s.c, s.tw, s.th, ints (is s.ord), toIms (ims s.ims), toOps (ops s.ops)⟩ : Scr)).1) (((k : Nat) : Int).toNat * 4)), (nAt (rcs (boxesS (⟨s.bits, s.c, s.tw, s.th, ints (is s.ord), toIms (ims s.ims), toOps (ops s.ops)⟩ : Scr)).1) (((k : Nat) : Int).toNat * 4 + 1)), (nAt (rcs (boxesS (⟨s.bits, s.c, s.tw, s.th, ints (is s.ord), toIms (ims s.ims), toOps (ops s.ops)⟩ : Scr)).1) (((k : Nat) : Int).toNat * 4 + 1 + 1)), (nAt (rcs (boxesS (⟨s.bits, s.c, s.tw, s.th, ints (is s.ord), toIms (ims s.ims), toOps (ops s.ops)⟩ : Scr)).1) (((k : Nat) : Int).toNat * 4 + 1 + 1 + 1))⟩ r))))) (((k : Nat) : Int).toNat * 1))) = false → True ∧ True ∧ True ∧ ∃ k' : Nat, (zz10 k') ∧ (zz11 k k') ∧ (zz14 k k')))) ∧ (((nAt (ops s.ops) (((k : Nat) : Int).toNat * 12 + 0)) == (2 : Int)) = (!true) → True ∧ True ∧ True ∧ True ∧ ∃ k' : Nat, (zz10 k') ∧ (zz11 k k') ∧ (zz14 k k')))) ∧ ((decide (((k : Nat) : Int) < (((boxesS (⟨s.bits, s.c, s.tw, s.th, ints (is s.ord), toIms (ims s.ims), toOps (ops s.ops)⟩ : Scr)).1.length : Nat) : Int))) = false → True ∧ True ∧ True ∧ RV.tup [RV.d (DV.sl s.ops.length (bs (actUp s r k))), RV.d (DV.int .i64 0)] = RV.tup zz1)))))) := by kernel_rfl
theorem bounds_Active_ans (s : Scr) (r : Rc) : Ans Tryd.prog 20 [RV.agg [DV.int .i64 s.bits, DV.int .i64 s.c.a, DV.int .i64 s.c.b, DV.int .i64 s.c.c, DV.int .i64 s.c.d, DV.int .i64 s.tw, DV.int .i64 s.th, DV.sl s.ord.length (is s.ord), DV.sl s.ims.length (ims s.ims), DV.sl s.ops.length (ops s.ops)], RV.agg [DV.int .i64 r.a, DV.int .i64 r.b, DV.int .i64 r.c, DV.int .i64 r.d]] (RV.tup [RV.d (DV.sl ((activeS s r).1.length) (bs (activeS s r).1)), RV.d (DV.int .i64 ((activeS s r).2))]) :=
  ans_of_vcg (Γ := gamBd) (bounds_Active_ann s r) mixed_ Tryd.func20 rfl (Nat.le_of_ble_eq_true rfl) fun hwf => by
    refine Eq.mpr (bounds_Active_vc s r) ?_
    simp only [true_and, and_true, RV.d.injEq, RV.agg.injEq, RV.tup.injEq, DV.bool.injEq, DV.int.injEq, DV.sl.injEq, List.cons.injEq, forall_const, Bool.not_false, Bool.not_true, Bool.not_eq_true', Bool.not_eq_false', decide_eq_true_eq, decide_eq_false_iff_not, Int.toNat_natCast, R13_Intersect_ans, rect_Intersect_ans, rect_Empty_ans, R13_Empty_ans]
    (try simp only [scr_eta, scr_eta2, ints_is, toIms_ims, toOps_ops])
    have hsE : (⟨s.bits, s.c, s.tw, s.th, s.ord, s.ims, s.ops⟩ : Scr) = s := rfl
    (try simp only [hsE])
    clear hsE
    have bA := bounds_Boxes_ans s
    try simp only [scr_eta, scr_eta2, ints_is, toIms_ims, toOps_ops] at bA
    by_cases h0 : ¬ s.run.1 = 0
    · have e1 := boxes_err h0
      have e2 : activeS s r = ([], s.run.1) := by unfold activeS; rw [if_neg h0]
      rw [e1] at bA
      rw [e1, e2]
      exact ⟨bA, fun _ => ⟨⟨rfl, rfl⟩, rfl⟩, fun h => absurd (by simpa using h) h0⟩
    have h0 : s.run.1 = 0 := Decidable.not_not.1 h0
    obtain ⟨_, e2, e3⟩ := boxes_in h0
    have eA : activeS s r = ((List.range s.ops.length).map (actAt s r), 0) := by unfold activeS; rw [if_pos h0]
    refine ⟨bA, fun h => absurd e2 (by simpa using h), fun _ => ?_⟩
    obtain ⟨fl1, fl2⟩ := frame_len (run_frame h0).1
    have hM : ∀ n : Nat, n ≤ 10000 → n ≤ maxLen := fun n h => by unfold maxLen; omega
    have el := (ends_len h0).1
    have eE := tree_Ends_ans s.ops (by omega)
    rw [toOps_ops] at eE
    rw [eA]
    simp only [e3]
    clear hwf bA
    refine ⟨eE, ⟨by omega, Int.le_refl _, by have := hM s.ops.length (by omega); omega, by omega⟩, ⟨0, ⟨Nat.zero_le _, live_zero s r⟩, ⟨trivial, rfl⟩, by rw [actUp_zero, bs_repl]⟩, fun k hk => ⟨fun hlt => ?_, fun hge => ?_⟩⟩
    · obtain ⟨hk0, hL⟩ := hk
      have hk : k < s.ops.length := by omega
      have b1 := rcs_at (boxesS s).1 k (by omega)
      have b2 := rcs_nAt (show k < (boxesS s).1.length by omega)
      have eb : (boxesS s).1[k] = bxAt s k := by unfold bxAt; rw [List.getElem?_eq_getElem (by omega)]; rfl
      rw [eb] at b1 b2
      have heta : (⟨(bxAt s k).a, (bxAt s k).b, (bxAt s k).c, (bxAt s k).d⟩ : Rc) = bxAt s k := rfl
      have eh : (!((bxAt s k).inter r).empty) = hitB s r k := rfl
      simp only [b2, heta, eh]
      have q1 := ops_rd hk
      have q2 := ops_at hk
      have eo : opAt s k = s.ops[k] := opAt_lt hk
      have w1 : IntKind.wrap .i64 ((k : Int) + 1) = ((k + 1 : Nat) : Int) := wrap_succ (by omega)
      simp only [Nat.add_zero, Nat.mul_one, q2, ← eo, bs_set, ← live_act hL, actUp_succ]
      have ng := is_get (ends_at h0 hk)
      have ne := is_nAt (ends_at h0 hk)
      have ei := enAt_in h0 hk
      have g : (actUp s r (k + 1))[k]? = some (hitB s r k) := by rw [← live_act hL]; simp [actUp, hk]
      have gb := bs_bAt g
      have gg := bs_get g
      simp only [gb, ne, w1]
      refine ⟨⟨by omega, by omega, by rw [rcs_length]; omega⟩, b1, rect_Intersect_ans _ _ _ _ _ _ _ _, rect_Empty_ans _ _ _ _, ⟨by omega, by omega⟩, by rw [bs_length, actUp_len]; omega, ⟨by omega, by omega, by rw [ops_length]; omega⟩, by rw [eo]; exact q1.1, fun h2 => ⟨⟨by omega, by omega⟩, gg, fun hb => ?_, fun hb => ?_⟩, fun h2 => ?_⟩
      · have h2 : (opAt s k).kind = 2 := by simpa using h2
        obtain ⟨l1, l2⟩ := live_skip h0 hk hL h2 hb
        have l3 : actUp s r (k + 1) = actUp s r k := by
          rw [← actUp_succ, live_act hL, hb]
          refine List.ext_getElem (by simp) fun i i1 i2 => ?_
          rw [List.getElem_set]
          split
          · rename_i e; subst e; simp [actUp]
          · rfl
        exact ⟨⟨by omega, by omega, by rw [is_length]; omega⟩, ng, enAt s k + 1, ⟨by omega, l1⟩, by omega, by rw [IntWalk.i64_in _ ⟨by omega, by omega⟩]; omega, by rw [l2, l3]⟩
      · exact ⟨k + 1, ⟨by omega, live_succ hL (by rw [hb]; simp)⟩, by omega, rfl, rfl⟩
      · have h2 : (opAt s k).kind ≠ 2 := by simpa using h2
        exact ⟨k + 1, ⟨by omega, live_succ hL (fun h => h2 h.1)⟩, by omega, rfl, rfl⟩
    · obtain ⟨hk0, hL⟩ := hk
      have : k = s.ops.length := by omega
      subst this
      rw [actUp_all]
      exact ⟨⟨by simp, rfl⟩, trivial⟩

def R22_Active_ann (s : Scr) (r : Rc) : Ann := let zz0 := (6, AV.one (Cl.d (DV.sl ((boxesS (⟨s.bits, ⟨s.c.a, s.c.b, s.c.c, s.c.d⟩, s.tw, s.th, ints (is s.ord), toIms (ims s.ims), toOps (ops s.ops)⟩ : Scr)).1.length) (rcs (boxesS (⟨s.bits, ⟨s.c.a, s.c.b, s.c.c, s.c.d⟩, s.tw, s.th, ints (is s.ord), toIms (ims s.ims), toOps (ops s.ops)⟩ : Scr)).1)))); let zz1 := (8, AV.one (Cl.d (DV.sl ((endsS (toOps ((ops s.ops)))).1.length) (is (endsS (toOps ((ops s.ops)))).1)))); let zz2 := (10, AV.one (Cl.ref 29 s.ops.length)); let zz3 := fun (k : Nat) => (11, AV.one (Cl.d (DV.int .i64 ((k : Nat) : Int)))); let zz4 := (2, Bx.cells [Cl.d (DV.int .i64 s.bits), Cl.d (DV.int .i64 s.c.a), Cl.d (DV.int .i64 s.c.b), Cl.d (DV.int .i64 s.c.c), Cl.d (DV.int .i64 s.c.d), Cl.d (DV.int .i64 s.tw), Cl.d (DV.int .i64 s.th), Cl.d (DV.sl s.ord.length (is s.ord)), Cl.d (DV.sl s.ims.length (ims s.ims)), Cl.d (DV.sl s.ops.length (ops s.ops))]); let zz5 := (3, Bx.cells [Cl.d (DV.int .i64 r.a), Cl.d (DV.int .i64 r.b), Cl.d (DV.int .i64 r.c), Cl.d (DV.int .i64 r.d)]); (Ann.seq Ann.leaf (Ann.seq Ann.leaf (Ann.seq Ann.leaf (Ann.seq Ann.leaf (Ann.seq Ann.leaf (Ann.seq (Ann.seq Ann.leaf (Ann.loop ⟨Nat, fun k => k ≤ s.ops.length, fun k => ⟨[(2, AV.one (Cl.ptr 2 0)), (3, AV.one (Cl.ptr 3 0)), zz0, zz1, zz2, (zz3 k)], [zz4, zz5, (29, Bx.row 4 1 (bs (actUp s r k)))]⟩, fun k => s.ops.length - k⟩ fun k => (Ann.seq Ann.leaf (Ann.seq (Ann.seq Ann.leaf (Ann.seq Ann.leaf (Ann.loop ⟨Nat, fun j => j ≤ k, fun j => ⟨[(2, AV.one (Cl.ptr 2 0)), (3, AV.one (Cl.ptr 3 0)), zz0, zz1, zz2, (zz3 k), (12, AV.one (Cl.d (DV.int .i64 ((j : Nat) : Int))))], [zz4, zz5, (29, Bx.row 4 1 (bs ((actUp s r k).set k (actTo s r k j))))]⟩, fun j => k - j⟩ fun j => Ann.leaf))) Ann.leaf)))) Ann.leaf))))))
theorem R22_Active_vc (s : Scr) (r : Rc) : vcg Tryd.prog gamBd 85 (bodyOf Tryd.f21) (R22_Active_ann s r) kn0 (start [RV.agg [DV.int .i64 s.bits, DV.int .i64 s.c.a, DV.int .i64 s.c.b, DV.int .i64 s.c.c, DV.int .i64 s.c.d, DV.int .i64 s.tw, DV.int .i64 s.th, DV.sl s.ord.length (is s.ord), DV.sl s.ims.length (ims s.ims), DV.sl s.ops.length (ops s.ops)], RV.agg [DV.int .i64 r.a, DV.int .i64 r.b, DV.int .i64 r.c, DV.int .i64 r.d]]) (post Tryd.prog Tryd.f21.results.toList (· = RV.tup [RV.d (DV.sl ((activeS s r).1.length) (bs (activeS s r).1)), RV.d (DV.int .i64 ((activeS s r).2))])) =
  (let zz0 := [DV.int .i64 s.bits, DV.int .i64 s.c.a, DV.int .i64 s.c.b, DV.int .i64 s.c.c, DV.int .i64 s.c.d, DV.int .i64 s.tw, DV.int .i64 s.th, DV.sl s.ord.length (is s.ord), DV.sl s.ims.length (ims s.ims), DV.sl s.ops.length (ops s.ops)]; let zz1 := [RV.d (DV.sl ((activeS s r).1.length) (bs (activeS s r).1)), RV.d (DV.int .i64 ((activeS s r).2))]; let zz2 := (DV.sl ((boxesS (⟨s.bits, s.c, s.tw, s.th, ints (is s.ord), toIms (ims s.ims), toOps (ops s.ops)⟩ : Scr)).1.length) (rcs (boxesS (⟨s.bits, s.c, s.tw, s.th, ints (is s.ord), toIms (ims s.ims), toOps (ops s.ops)⟩ : Scr)).1) = DV.sl ((boxesS (⟨s.bits, s.c, s.tw, s.th, ints (is s.ord), toIms (ims s.ims), toOps (ops s.ops)⟩ : Scr)).1.length) (rcs (boxesS (⟨s.bits, s.c, s.tw, s.th, ints (is s.ord), toIms (ims s.ims), toOps (ops s.ops)⟩ : Scr)).1)); let zz3 := (DV.sl ((endsS (toOps ((ops s.ops)))).1.length) (is (endsS (toOps ((ops s.ops)))).1) = DV.sl ((endsS (toOps ((ops s.ops)))).1.length) (is (endsS (toOps ((ops s.ops)))).1)); let zz4 := (zz0 = zz0); let zz5 := [DV.int .i64 r.a, DV.int .i64 r.b, DV.int .i64 r.c, DV.int .i64 r.d]; let zz6 := (zz5 = zz5); let zz7 := fun (k : Nat) => [DV.int .i64 ((Rc.inter ⟨(nAt (rcs (boxesS (⟨s.bits, s.c, s.tw, s.th, ints (is s.ord), toIms (ims s.ims), toOps (ops s.ops)⟩ : Scr)).1) (((k : Nat) : Int).toNat * 4)), (nAt (rcs (boxesS (⟨s.bits, s.c, s.tw, s.th, ints (is s.ord), toIms (ims s.ims), toOps (ops s.ops)⟩ : Scr)).1) (((k : Nat) : Int).toNat * 4 + 1)), (nAt (rcs (boxesS (⟨s.bits, s.c, s.tw, s.th, ints (is s.ord), toIms (ims s.ims), toOps (ops s.ops)⟩ : Scr)).1) (((k : Nat) : Int).toNat * 4 + 1 + 1)), (nAt (rcs (boxesS (⟨s.bits, s.c, s.tw, s.th, ints (is s.ord), toIms (ims s.ims), toOps (ops s.ops)⟩ : Scr)).1) (((k : Nat) : Int).toNat * 4 + 1 + 1 + 1))⟩ r).a), DV.int .i64 ((Rc.inter ⟨(nAt (rcs (boxesS (⟨s.bits, s.c, s.tw, s.th, ints (is s.ord), toIms (ims s.ims), toOps (ops s.ops)⟩ : Scr)).1) (((k : Nat) : Int).toNat * 4)), (nAt (rcs (boxesS (⟨s.bits, s.c, s.tw, s.th, ints (is s.ord), toIms (ims s.ims), toOps (ops s.ops)⟩ : Scr)).1) (((k : Nat) : Int).toNat * 4 + 1)), (nAt (rcs (boxesS (⟨s.bits, s.c, s.tw, s.th, ints (is s.ord), toIms (ims s.ims), toOps (ops s.ops)⟩ : Scr)).1) (((k : Nat) : Int).toNat * 4 + 1 + 1)), (nAt (rcs (boxesS (⟨s.bits, s.c, s.tw, s.th, ints (is s.ord), toIms (ims s.ims), toOps (ops s.ops)⟩ : Scr)).1) (((k : Nat) : Int).toNat * 4 + 1 + 1 + 1))⟩ r).b), DV.int .i64 ((Rc.inter ⟨(nAt (rcs (boxesS (⟨s.bits, s.c, s.tw, s.th, ints (is s.ord), toIms (ims s.ims), toOps (ops s.ops)⟩ : Scr)).1) (((k : Nat) : Int).toNat * 4)), (nAt (rcs (boxesS (⟨s.bits, s.c, s.tw, s.th, ints (is s.ord), toIms (ims s.ims), toOps (ops s.ops)⟩ : Scr)).1) (((k : Nat) : Int).toNat * 4 + 1)), (nAt (rcs (boxesS (⟨s.bits, s.c, s.tw, s.th, ints (is s.ord), toIms (ims s.ims), toOps (ops s.ops)⟩ : Scr)).1) (((k : Nat) : Int).toNat * 4 + 1 + 1)), (nAt (rcs (boxesS (⟨s.bits, s.c, s.tw, s.th, ints (is s.ord), toIms (ims s.ims), toOps (ops s.ops)⟩ : Scr)).1) (((k : Nat) : Int).toNat * 4 + 1 + 1 + 1))⟩ r).c), DV.int .i64 ((Rc.inter ⟨(nAt (rcs (boxesS (⟨s.bits, s.c, s.tw, s.th, ints (is s.ord), toIms (ims s.ims), toOps (ops s.ops)⟩ : Scr)).1) (((k : Nat) : Int).toNat * 4)), (nAt (rcs (boxesS (⟨s.bits, s.c, s.tw, s.th, ints (is s.ord), toIms (ims s.ims), toOps (ops s.ops)⟩ : Scr)).1) (((k : Nat) : Int).toNat * 4 + 1)), (nAt (rcs (boxesS (⟨s.bits, s.c, s.tw, s.th, ints (is s.ord), toIms (ims s.ims), toOps (ops s.ops)⟩ : Scr)).1) (((k : Nat) : Int).toNat * 4 + 1 + 1)), (nAt (rcs (boxesS (⟨s.bits, s.c, s.tw, s.th, ints (is s.ord), toIms (ims s.ims), toOps (ops s.ops)⟩ : Scr)).1) (((k : Nat) : Int).toNat * 4 + 1 + 1 + 1))⟩ r).d)]; let zz8 := fun (k : Nat) => (0 ≤ ((k : Nat) : Int) ∧ ((k : Nat) : Int) < ((s.ops.length : Nat) : Int)); let zz9 := (s.ops.length = s.ops.length); let zz10 := fun (k : Nat) => (DV.int .i64 ((k : Nat) : Int) = DV.int .i64 ((k : Nat) : Int)); let zz11 := fun (j : Nat) => [DV.int .i64 ((Rc.inter ⟨(nAt (rcs (boxesS (⟨s.bits, s.c, s.tw, s.th, ints (is s.ord), toIms (ims s.ims), toOps (ops s.ops)⟩ : Scr)).1) (((j : Nat) : Int).toNat * 4)), (nAt (rcs (boxesS (⟨s.bits, s.c, s.tw, s.th, ints (is s.ord), toIms (ims s.ims), toOps (ops s.ops)⟩ : Scr)).1) (((j : Nat) : Int).toNat * 4 + 1)), (nAt (rcs (boxesS (⟨s.bits, s.c, s.tw, s.th, ints (is s.ord), toIms (ims s.ims), toOps (ops s.ops)⟩ : Scr)).1) (((j : Nat) : Int).toNat * 4 + 1 + 1)), (nAt (rcs (boxesS (⟨s.bits, s.c, s.tw, s.th, ints (is s.ord), toIms (ims s.ims), toOps (ops s.ops)⟩ : Scr)).1) (((j : Nat) : Int).toNat * 4 + 1 + 1 + 1))⟩ r).a), DV.int .i64 ((Rc.inter ⟨(nAt (rcs (boxesS (⟨s.bits, s.c, s.tw, s.th, ints (is s.ord), toIms (ims s.ims), toOps (ops s.ops)⟩ : Scr)).1) (((j : Nat) : Int).toNat * 4)), (nAt (rcs (boxesS (⟨s.bits, s.c, s.tw, s.th, ints (is s.ord), toIms (ims s.ims), toOps (ops s.ops)⟩ : Scr)).1) (((j : Nat) : Int).toNat * 4 + 1)), (nAt (rcs (boxesS (⟨s.bits, s.c, s.tw, s.th, ints (is s.ord), toIms (ims s.ims), toOps (ops s.ops)⟩ : Scr)).1) (((j : Nat) : Int).toNat * 4 + 1 + 1)), (nAt (rcs (boxesS (⟨s.bits, s.c, s.tw, s.th, ints (is s.ord), toIms (ims s.ims), toOps (ops s.ops)⟩ : Scr)).1) (((j : Nat) : Int).toNat * 4 + 1 + 1 + 1))⟩ r).b), DV.int .i64 ((Rc.inter ⟨(nAt (rcs (boxesS (⟨s.bits, s.c, s.tw, s.th, ints (is s.ord), toIms (ims s.ims), toOps (ops s.ops)⟩ : Scr)).1) (((j : Nat) : Int).toNat * 4)), (nAt (rcs (boxesS (⟨s.bits, s.c, s.tw, s.th, ints (is s.ord), toIms (ims s.ims), toOps (ops s.ops)⟩ : Scr)).1) (((j : Nat) : Int).toNat * 4 + 1)), (nAt (rcs (boxesS (⟨s.bits, s.c, s.tw, s.th, ints (is s.ord), toIms (ims s.ims), toOps (ops s.ops)⟩ : Scr)).1) (((j : Nat) : Int).toNat * 4 + 1 + 1)), (nAt (rcs (boxesS (⟨s.bits, s.c, s.tw, s.th, ints (is s.ord), toIms (ims s.ims), toOps (ops s.ops)⟩ : Scr)).1) (((j : Nat) : Int).toNat * 4 + 1 + 1 + 1))⟩ r).c), DV.int .i64 ((Rc.inter ⟨(nAt (rcs (boxesS (⟨s.bits, s.c, s.tw, s.th, ints (is s.ord), toIms (ims s.ims), toOps (ops s.ops)⟩ : Scr)).1) (((j : Nat) : Int).toNat * 4)), (nAt (rcs (boxesS (⟨s.bits, s.c, s.tw, s.th, ints (is s.ord), toIms (ims s.ims), toOps (ops s.ops)⟩ : Scr)).1) (((j : Nat) : Int).toNat * 4 + 1)), (nAt (rcs (boxesS (⟨s.bits, s.c, s.tw, s.th, ints (is s.ord), toIms (ims s.ims), toOps (ops s.ops)⟩ : Scr)).1) (((j : Nat) : Int).toNat * 4 + 1 + 1)), (nAt (rcs (boxesS (⟨s.bits, s.c, s.tw, s.th, ints (is s.ord), toIms (ims s.ims), toOps (ops s.ops)⟩ : Scr)).1) (((j : Nat) : Int).toNat * 4 + 1 + 1 + 1))⟩ r).d)]; let zz12 := fun (k : Nat) => fun (j : Nat) => (((k : Nat) : Int).toNat * 1 + 1 ≤ (bs ((actUp s r k).set k (actTo s r k j))).length); let zz13 := fun (k : Nat) => fun (j : Nat) => fun (j' : Nat) => ((0 = 0) ∧ (0 = 0) ∧ zz2 ∧ zz3 ∧ zz9 ∧ (zz10 k) ∧ (DV.int .i64 (IntKind.wrap .i64 (((j : Nat) : Int) + (1 : Int))) = DV.int .i64 ((j' : Nat) : Int)) ∧ True); let zz14 := fun (k : Nat) => fun (j : Nat) => fun (j' : Nat) => ((zz13 k j j') ∧ (zz4 ∧ zz6 ∧ (bs ((actUp s r k).set k (actTo s r k j)) = bs ((actUp s r k).set k (actTo s r k j'))) ∧ True)); True ∧ True ∧ True ∧ True ∧ True ∧ (Ans Tryd.prog 16 [RV.agg zz0] (RV.tup [RV.d (DV.sl ((boxesS (⟨s.bits, s.c, s.tw, s.th, ints (is s.ord), toIms (ims s.ims), toOps (ops s.ops)⟩ : Scr)).1.length) (rcs (boxesS (⟨s.bits, s.c, s.tw, s.th, ints (is s.ord), toIms (ims s.ims), toOps (ops s.ops)⟩ : Scr)).1)), RV.d (DV.int .i64 ((boxesS (⟨s.bits, s.c, s.tw, s.th, ints (is s.ord), toIms (ims s.ims), toOps (ops s.ops)⟩ : Scr)).2))])) ∧ True ∧ True ∧ True ∧ True ∧ True ∧ True ∧ True ∧ (((((boxesS (⟨s.bits, s.c, s.tw, s.th, ints (is s.ord), toIms (ims s.ims), toOps (ops s.ops)⟩ : Scr)).2) != (0 : Int)) = true → True ∧ True ∧ True ∧ RV.tup [RV.d (DV.sl 0 ([])), RV.d (DV.int .i64 ((boxesS (⟨s.bits, s.c, s.tw, s.th, ints (is s.ord), toIms (ims s.ims), toOps (ops s.ops)⟩ : Scr)).2))] = RV.tup zz1) ∧ ((((boxesS (⟨s.bits, s.c, s.tw, s.th, ints (is s.ord), toIms (ims s.ims), toOps (ops s.ops)⟩ : Scr)).2) != (0 : Int)) = false → True ∧ True ∧ (Ans Tryd.prog 37 [RV.d (DV.sl s.ops.length (ops s.ops))] (RV.tup [RV.d (DV.sl ((endsS (toOps ((ops s.ops)))).1.length) (is (endsS (toOps ((ops s.ops)))).1)), RV.d (DV.int .i64 ((endsS (toOps ((ops s.ops)))).2))])) ∧ True ∧ True ∧ True ∧ True ∧ True ∧ True ∧ True ∧ (0 ≤ (((boxesS (⟨s.bits, s.c, s.tw, s.th, ints (is s.ord), toIms (ims s.ims), toOps (ops s.ops)⟩ : Scr)).1.length : Nat) : Int) ∧ (((boxesS (⟨s.bits, s.c, s.tw, s.th, ints (is s.ord), toIms (ims s.ims), toOps (ops s.ops)⟩ : Scr)).1.length : Nat) : Int) ≤ (((boxesS (⟨s.bits, s.c, s.tw, s.th, ints (is s.ord), toIms (ims s.ims), toOps (ops s.ops)⟩ : Scr)).1.length : Nat) : Int) ∧ (((boxesS (⟨s.bits, s.c, s.tw, s.th, ints (is s.ord), toIms (ims s.ims), toOps (ops s.ops)⟩ : Scr)).1.length : Nat) : Int) ≤ ((maxLen : Nat) : Int) ∧ ((1 : Nat) : Int) * (((boxesS (⟨s.bits, s.c, s.tw, s.th, ints (is s.ord), toIms (ims s.ims), toOps (ops s.ops)⟩ : Scr)).1.length : Nat) : Int) ≤ 281474976710656) ∧ True ∧ True ∧ ((∃ k : Nat, (k ≤ s.ops.length) ∧ (((0 = 0) ∧ (0 = 0) ∧ zz2 ∧ zz3 ∧ ((((boxesS (⟨s.bits, s.c, s.tw, s.th, ints (is s.ord), toIms (ims s.ims), toOps (ops s.ops)⟩ : Scr)).1.length : Nat) : Int).toNat = s.ops.length) ∧ (DV.int .i64 0 = DV.int .i64 ((k : Nat) : Int)) ∧ True) ∧ (zz4 ∧ zz6 ∧ (List.replicate (((boxesS (⟨s.bits, s.c, s.tw, s.th, ints (is s.ord), toIms (ims s.ims), toOps (ops s.ops)⟩ : Scr)).1.length : Nat) : Int).toNat (DV.bool false) = bs (actUp s r k)) ∧ True))) ∧ ∀ k : Nat, (k ≤ s.ops.length) → True ∧ True ∧ True ∧ True ∧ (((decide (((k : Nat) : Int) < (((boxesS (⟨s.bits, s.c, s.tw, s.th, ints (is s.ord), toIms (ims s.ims), toOps (ops s.ops)⟩ : Scr)).1.length : Nat) : Int))) = true → True ∧ True ∧ True ∧ True ∧ (0 ≤ ((k : Nat) : Int) ∧ ((k : Nat) : Int) < (((boxesS (⟨s.bits, s.c, s.tw, s.th, ints (is s.ord), toIms (ims s.ims), toOps (ops s.ops)⟩ : Scr)).1.length : Nat) : Int) ∧ ((k : Nat) : Int).toNat * 4 < (rcs (boxesS (⟨s.bits, s.c, s.tw, s.th, ints (is s.ord), toIms (ims s.ims), toOps (ops s.ops)⟩ : Scr)).1).length) ∧ (((rcs (boxesS (⟨s.bits, s.c, s.tw, s.th, ints (is s.ord), toIms (ims s.ims), toOps (ops s.ops)⟩ : Scr)).1)[((k : Nat) : Int).toNat * 4]? = some (DV.int .i64 (nAt (rcs (boxesS (⟨s.bits, s.c, s.tw, s.th, ints (is s.ord), toIms (ims s.ims), toOps (ops s.ops)⟩ : Scr)).1) (((k : Nat) : Int).toNat * 4)))) ∧ ((rcs (boxesS (⟨s.bits, s.c, s.tw, s.th, ints (is s.ord), toIms (ims s.ims), toOps (ops s.ops)⟩ : Scr)).1)[((k : Nat) : Int).toNat * 4 + 1]? = some (DV.int .i64 (nAt (rcs (boxesS (⟨s.bits, s.c, s.tw, s.th, ints (is s.ord), toIms (ims s.ims), toOps (ops s.ops)⟩ : Scr)).1) (((k : Nat) : Int).toNat * 4 + 1)))) ∧ ((rcs (boxesS (⟨s.bits, s.c, s.tw, s.th, ints (is s.ord), toIms (ims s.ims), toOps (ops s.ops)⟩ : Scr)).1)[((k : Nat) : Int).toNat * 4 + 1 + 1]? = some (DV.int .i64 (nAt (rcs (boxesS (⟨s.bits, s.c, s.tw, s.th, ints (is s.ord), toIms (ims s.ims), toOps (ops s.ops)⟩ : Scr)).1) (((k : Nat) : Int).toNat * 4 + 1 + 1)))) ∧ ((rcs (boxesS (⟨s.bits, s.c, s.tw, s.th, ints (is s.ord), toIms (ims s.ims), toOps (ops s.ops)⟩ : Scr)).1)[((k : Nat) : Int).toNat * 4 + 1 + 1 + 1]? = some (DV.int .i64 (nAt (rcs (boxesS (⟨s.bits, s.c, s.tw, s.th, ints (is s.ord), toIms (ims s.ims), toOps (ops s.ops)⟩ : Scr)).1) (((k : Nat) : Int).toNat * 4 + 1 + 1 + 1)))) ∧ True) ∧ True ∧ (Ans Tryd.prog 32 [RV.agg [DV.int .i64 (nAt (rcs (boxesS (⟨s.bits, s.c, s.tw, s.th, ints (is s.ord), toIms (ims s.ims), toOps (ops s.ops)⟩ : Scr)).1) (((k : Nat) : Int).toNat * 4)), DV.int .i64 (nAt (rcs (boxesS (⟨s.bits, s.c, s.tw, s.th, ints (is s.ord), toIms (ims s.ims), toOps (ops s.ops)⟩ : Scr)).1) (((k : Nat) : Int).toNat * 4 + 1)), DV.int .i64 (nAt (rcs (boxesS (⟨s.bits, s.c, s.tw, s.th, ints (is s.ord), toIms (ims s.ims), toOps (ops s.ops)⟩ : Scr)).1) (((k : Nat) : Int).toNat * 4 + 1 + 1)), DV.int .i64 (nAt (rcs (boxesS (⟨s.bits, s.c, s.tw, s.th, ints (is s.ord), toIms (ims s.ims), toOps (ops s.ops)⟩ : Scr)).1) (((k : Nat) : Int).toNat * 4 + 1 + 1 + 1))], RV.agg zz5] (RV.agg (zz7 k))) ∧ (Ans Tryd.prog 41 [RV.agg (zz7 k)] (RV.d (DV.bool (Rc.empty (Rc.inter ⟨(nAt (rcs (boxesS (⟨s.bits, s.c, s.tw, s.th, ints (is s.ord), toIms (ims s.ims), toOps (ops s.ops)⟩ : Scr)).1) (((k : Nat) : Int).toNat * 4)), (nAt (rcs (boxesS (⟨s.bits, s.c, s.tw, s.th, ints (is s.ord), toIms (ims s.ims), toOps (ops s.ops)⟩ : Scr)).1) (((k : Nat) : Int).toNat * 4 + 1)), (nAt (rcs (boxesS (⟨s.bits, s.c, s.tw, s.th, ints (is s.ord), toIms (ims s.ims), toOps (ops s.ops)⟩ : Scr)).1) (((k : Nat) : Int).toNat * 4 + 1 + 1)), (nAt (rcs (boxesS (⟨s.bits, s.c, s.tw, s.th, ints (is s.ord), toIms (ims s.ims), toOps (ops s.ops)⟩ : Scr)).1) (((k : Nat) : Int).toNat * 4 + 1 + 1 + 1))⟩ r))))) ∧ True ∧ (zz8 k) ∧ (((k : Nat) : Int).toNat * 1 + 1 ≤ (bs (actUp s r k)).length) ∧ (true = true) ∧ True ∧ ((∃ j : Nat, (j ≤ k) ∧ (((0 = 0) ∧ (0 = 0) ∧ zz2 ∧ zz3 ∧ zz9 ∧ (zz10 k) ∧ (DV.int .i64 0 = DV.int .i64 ((j : Nat) : Int)) ∧ True) ∧ (zz4 ∧ zz6 ∧ (List.set (bs (actUp s r k)) (((k : Nat) : Int).toNat * 1) (DV.bool (!(Rc.empty (Rc.inter ⟨(nAt (rcs (boxesS (⟨s.bits, s.c, s.tw, s.th, ints (is s.ord), toIms (ims s.ims), toOps (ops s.ops)⟩ : Scr)).1) (((k : Nat) : Int).toNat * 4)), (nAt (rcs (boxesS (⟨s.bits, s.c, s.tw, s.th, ints (is s.ord), toIms (ims s.ims), toOps (ops s.ops)⟩ : Scr)).1) (((k : Nat) : Int).toNat * 4 + 1)), (nAt (rcs (boxesS (⟨s.bits, s.c, s.tw, s.th, ints (is s.ord), toIms (ims s.ims), toOps (ops s.ops)⟩ : Scr)).1) (((k : Nat) : Int).toNat * 4 + 1 + 1)), (nAt (rcs (boxesS (⟨s.bits, s.c, s.tw, s.th, ints (is s.ord), toIms (ims s.ims), toOps (ops s.ops)⟩ : Scr)).1) (((k : Nat) : Int).toNat * 4 + 1 + 1 + 1))⟩ r)))) = bs ((actUp s r k).set k (actTo s r k j))) ∧ True))) ∧ ∀ j : Nat, (j ≤ k) → True ∧ True ∧ True ∧ (((decide (((j : Nat) : Int) < ((k : Nat) : Int))) = true → True ∧ True ∧ True ∧ (0 ≤ ((j : Nat) : Int) ∧ ((j : Nat) : Int) < ((s.ops.length : Nat) : Int) ∧ ((j : Nat) : Int).toNat * 12 < (ops s.ops).length) ∧ True ∧ (((ops s.ops)[((j : Nat) : Int).toNat * 12 + 0]? = some (DV.int .i64 (nAt (ops s.ops) (((j : Nat) : Int).toNat * 12 + 0)))) ∧ True) ∧ True ∧ True ∧ ((((nAt (ops s.ops) (((j : Nat) : Int).toNat * 12 + 0)) == (2 : Int)) = true → True ∧ True ∧ (0 ≤ ((j : Nat) : Int) ∧ ((j : Nat) : Int) < (((endsS (toOps ((ops s.ops)))).1.length : Nat) : Int) ∧ ((j : Nat) : Int).toNat * 1 < (is (endsS (toOps ((ops s.ops)))).1).length) ∧ (((is (endsS (toOps ((ops s.ops)))).1)[((j : Nat) : Int).toNat * 1]? = some (DV.int .i64 (nAt (is (endsS (toOps ((ops s.ops)))).1) (((j : Nat) : Int).toNat * 1)))) ∧ True) ∧ True ∧ True ∧ True ∧ (((decide ((nAt (is (endsS (toOps ((ops s.ops)))).1) (((j : Nat) : Int).toNat * 1)) > ((k : Nat) : Int))) = true → True ∧ True ∧ True ∧ True ∧ (zz8 k) ∧ (((bs ((actUp s r k).set k (actTo s r k j)))[((k : Nat) : Int).toNat * 1]? = some (DV.bool (bAt (bs ((actUp s r k).set k (actTo s r k j))) (((k : Nat) : Int).toNat * 1)))) ∧ True) ∧ True ∧ (((bAt (bs ((actUp s r k).set k (actTo s r k j))) (((k : Nat) : Int).toNat * 1)) = true → True ∧ True ∧ (0 ≤ ((j : Nat) : Int) ∧ ((j : Nat) : Int) < (((boxesS (⟨s.bits, s.c, s.tw, s.th, ints (is s.ord), toIms (ims s.ims), toOps (ops s.ops)⟩ : Scr)).1.length : Nat) : Int) ∧ ((j : Nat) : Int).toNat * 4 < (rcs (boxesS (⟨s.bits, s.c, s.tw, s.th, ints (is s.ord), toIms (ims s.ims), toOps (ops s.ops)⟩ : Scr)).1).length) ∧ (((rcs (boxesS (⟨s.bits, s.c, s.tw, s.th, ints (is s.ord), toIms (ims s.ims), toOps (ops s.ops)⟩ : Scr)).1)[((j : Nat) : Int).toNat * 4]? = some (DV.int .i64 (nAt (rcs (boxesS (⟨s.bits, s.c, s.tw, s.th, ints (is s.ord), toIms (ims s.ims), toOps (ops s.ops)⟩ : Scr)).1) (((j : Nat) : Int).toNat * 4)))) ∧ ((rcs (boxesS (⟨s.bits, s.c, s.tw, s.th, ints (is s.ord), toIms (ims s.ims), toOps (ops s.ops)⟩ : Scr)).1)[((j : Nat) : Int).toNat * 4 + 1]? = some (DV.int .i64 (nAt (rcs (boxesS (⟨s.bits, s.c, s.tw, s.th, ints (is s.ord), toIms (ims s.ims), toOps (ops s.ops)⟩ : Scr)).1) (((j : Nat) : Int).toNat * 4 + 1)))) ∧ ((rcs (boxesS (⟨s.bits, s.c, s.tw, s.th, ints (is s.ord), toIms (ims s.ims), toOps (ops s.ops)⟩ : Scr)).1)[((j : Nat) : Int).toNat * 4 + 1 + 1]? = some (DV.int .i64 (nAt (rcs (boxesS (⟨s.bits, s.c, s.tw, s.th, ints (is s.ord), toIms (ims s.ims), toOps (ops s.ops)⟩ : Scr)).1) (((j : Nat) : Int).toNat * 4 + 1 + 1)))) ∧ ((rcs (boxesS (⟨s.bits, s.c, s.tw, s.th, ints (is s.ord), toIms (ims s.ims), toOps (ops s.ops)⟩ : Scr)).1)[((j : Nat) : Int).toNat * 4 + 1 + 1 + 1]? = some (DV.int .i64 (nAt (rcs (boxesS (⟨s.bits, s.c, s.tw, s.th, ints (is s.ord), toIms (ims s.ims), toOps (ops s.ops)⟩ : Scr)).1) (((j : Nat) : Int).toNat * 4 + 1 + 1 + 1)))) ∧ True) ∧ True ∧ (Ans Tryd.prog 32 [RV.agg [DV.int .i64 (nAt (rcs (boxesS (⟨s.bits, s.c, s.tw, s.th, ints (is s.ord), toIms (ims s.ims), toOps (ops s.ops)⟩ : Scr)).1) (((j : Nat) : Int).toNat * 4)), DV.int .i64 (nAt (rcs (boxesS (⟨s.bits, s.c, s.tw, s.th, ints (is s.ord), toIms (ims s.ims), toOps (ops s.ops)⟩ : Scr)).1) (((j : Nat) : Int).toNat * 4 + 1)), DV.int .i64 (nAt (rcs (boxesS (⟨s.bits, s.c, s.tw, s.th, ints (is s.ord), toIms (ims s.ims), toOps (ops s.ops)⟩ : Scr)).1) (((j : Nat) : Int).toNat * 4 + 1 + 1)), DV.int .i64 (nAt (rcs (boxesS (⟨s.bits, s.c, s.tw, s.th, ints (is s.ord), toIms (ims s.ims), toOps (ops s.ops)⟩ : Scr)).1) (((j : Nat) : Int).toNat * 4 + 1 + 1 + 1))], RV.agg zz5] (RV.agg (zz11 j))) ∧ (Ans Tryd.prog 41 [RV.agg (zz11 j)] (RV.d (DV.bool (Rc.empty (Rc.inter ⟨(nAt (rcs (boxesS (⟨s.bits, s.c, s.tw, s.th, ints (is s.ord), toIms (ims s.ims), toOps (ops s.ops)⟩ : Scr)).1) (((j : Nat) : Int).toNat * 4)), (nAt (rcs (boxesS (⟨s.bits, s.c, s.tw, s.th, ints (is s.ord), toIms (ims s.ims), toOps (ops s.ops)⟩ : Scr)).1) (((j : Nat) : Int).toNat * 4 + 1)), (nAt (rcs (boxesS (⟨s.bits, s.c, s.tw, s.th, ints (is s.ord), toIms (ims s.ims), toOps (ops s.ops)⟩ : Scr)).1) (((j : Nat) : Int).toNat * 4 + 1 + 1)), (nAt (rcs (boxesS (⟨s.bits, s.c, s.tw, s.th, ints (is s.ord), toIms (ims s.ims), toOps (ops s.ops)⟩ : Scr)).1) (((j : Nat) : Int).toNat * 4 + 1 + 1 + 1))⟩ r))))) ∧ True ∧ True ∧ (zz8 k) ∧ (zz12 k j) ∧ (true = true) ∧ True ∧ True ∧ True ∧ ∃ j' : Nat, (j' ≤ k) ∧ (k - j' < k - j) ∧ ((zz13 k j j') ∧ (zz4 ∧ zz6 ∧ (List.set (bs ((actUp s r k).set k (actTo s r k j))) (((k : Nat) : Int).toNat * 1) (DV.bool (!(Rc.empty (Rc.inter ⟨(nAt (rcs (boxesS (⟨s.bits, s.c, s.tw, s.th, ints (is s.ord), toIms (ims s.ims), toOps (ops s.ops)⟩ : Scr)).1) (((j : Nat) : Int).toNat * 4)), (nAt (rcs (boxesS (⟨s.bits, s.c, s.tw, s.th, ints (is s.ord), toIms (ims s.ims), toOps (ops s.ops)⟩ : Scr)).1) (((j : Nat) : Int).toNat * 4 + 1)), (nAt (rcs (boxesS (⟨s.bits, s.c, s.tw, s.th, ints (is s.ord), toIms (ims s.ims), toOps (ops s.ops)⟩ : Scr)).1) (((j : Nat) : Int).toNat * 4 + 1 + 1)), (nAt (rcs (boxesS (⟨s.bits, s.c, s.tw, s.th, ints (is s.ord), toIms (ims s.ims), toOps (ops s.ops)⟩ : Scr)).1) (((j : Nat) : Int).toNat * 4 + 1 + 1 + 1))⟩ r)))) = bs ((actUp s r k).set k (actTo s r k j'))) ∧ True))) ∧ ((bAt (bs ((actUp s r k).set k (actTo s r k j))) (((k : Nat) : Int).toNat * 1)) = (!true) → True ∧ (zz8 k) ∧ (zz12 k j) ∧ (true = true) ∧ True ∧ True ∧ True ∧ ∃ j' : Nat, (j' ≤ k) ∧ (k - j' < k - j) ∧ ((zz13 k j j') ∧ (zz4 ∧ zz6 ∧ (List.set (bs ((actUp s r k).set k (actTo s r k j))) (((k : Nat) : Int).toNat * 1) (DV.bool false) = bs ((actUp s r k).set k (actTo s r k j'))) ∧ True))))) ∧ ((decide ((nAt (is (endsS (toOps ((ops s.ops)))).1) (((j : Nat) : Int).toNat * 1)) > ((k : Nat) : Int))) = false → True ∧ True ∧ True ∧ ∃ j' : Nat, (j' ≤ k) ∧ (k - j' < k - j) ∧ (zz14 k j j')))) ∧ (((nAt (ops s.ops) (((j : Nat) : Int).toNat * 12 + 0)) == (2 : Int)) = (!true) → True ∧ True ∧ True ∧ True ∧ ∃ j' : Nat, (j' ≤ k) ∧ (k - j' < k - j) ∧ (zz14 k j j')))) ∧ ((decide (((j : Nat) : Int) < ((k : Nat) : Int))) = false → True ∧ True ∧ True ∧ ∃ k' : Nat, (k' ≤ s.ops.length) ∧ (s.ops.length - k' < s.ops.length - k) ∧ (((0 = 0) ∧ (0 = 0) ∧ zz2 ∧ zz3 ∧ zz9 ∧ (DV.int .i64 (IntKind.wrap .i64 (((k : Nat) : Int) + (1 : Int))) = DV.int .i64 ((k' : Nat) : Int)) ∧ True) ∧ (zz4 ∧ zz6 ∧ (bs ((actUp s r k).set k (actTo s r k j)) = bs (actUp s r k')) ∧ True)))))) ∧ ((decide (((k : Nat) : Int) < (((boxesS (⟨s.bits, s.c, s.tw, s.th, ints (is s.ord), toIms (ims s.ims), toOps (ops s.ops)⟩ : Scr)).1.length : Nat) : Int))) = false → True ∧ True ∧ True ∧ RV.tup [RV.d (DV.sl s.ops.length (bs (actUp s r k))), RV.d (DV.int .i64 0)] = RV.tup zz1)))))) := by kernel_rfl
theorem R22_Active_ans (s : Scr) (r : Rc) : Ans Tryd.prog 21 [RV.agg [DV.int .i64 s.bits, DV.int .i64 s.c.a, DV.int .i64 s.c.b, DV.int .i64 s.c.c, DV.int .i64 s.c.d, DV.int .i64 s.tw, DV.int .i64 s.th, DV.sl s.ord.length (is s.ord), DV.sl s.ims.length (ims s.ims), DV.sl s.ops.length (ops s.ops)], RV.agg [DV.int .i64 r.a, DV.int .i64 r.b, DV.int .i64 r.c, DV.int .i64 r.d]] (RV.tup [RV.d (DV.sl ((activeS s r).1.length) (bs (activeS s r).1)), RV.d (DV.int .i64 ((activeS s r).2))]) :=
  ans_of_vcg (Γ := gamBd) (R22_Active_ann s r) mixed_ Tryd.func21 rfl (Nat.le_of_ble_eq_true rfl) fun hwf => by
    refine Eq.mpr (R22_Active_vc s r) ?_
    simp only [true_and, and_true, RV.d.injEq, RV.agg.injEq, RV.tup.injEq, DV.bool.injEq, DV.int.injEq, DV.sl.injEq, List.cons.injEq, forall_const, Bool.not_false, Bool.not_true, Bool.not_eq_true', Bool.not_eq_false', decide_eq_true_eq, decide_eq_false_iff_not, Int.toNat_natCast, R13_Intersect_ans, rect_Intersect_ans, rect_Empty_ans, R13_Empty_ans]
    (try simp only [scr_eta, scr_eta2, ints_is, toIms_ims, toOps_ops])
    have hsE : (⟨s.bits, s.c, s.tw, s.th, s.ord, s.ims, s.ops⟩ : Scr) = s := rfl
    (try simp only [hsE])
    clear hsE
    have bA := R22_Boxes_ans s
    try simp only [scr_eta, scr_eta2, ints_is, toIms_ims, toOps_ops] at bA
    by_cases h0 : ¬ s.run.1 = 0
    · have e1 := boxes_err h0
      have e2 : activeS s r = ([], s.run.1) := by unfold activeS; rw [if_neg h0]
      rw [e1] at bA
      rw [e1, e2]
      exact ⟨bA, fun _ => ⟨⟨rfl, rfl⟩, rfl⟩, fun h => absurd (by simpa using h) h0⟩
    have h0 : s.run.1 = 0 := Decidable.not_not.1 h0
    obtain ⟨_, e2, e3⟩ := boxes_in h0
    have eA : activeS s r = ((List.range s.ops.length).map (actAt s r), 0) := by unfold activeS; rw [if_pos h0]
    refine ⟨bA, fun h => absurd e2 (by simpa using h), fun _ => ?_⟩
    obtain ⟨fl1, fl2⟩ := frame_len (run_frame h0).1
    have hM : ∀ n : Nat, n ≤ 10000 → n ≤ maxLen := fun n h => by unfold maxLen; omega
    have el := (ends_len h0).1
    have eE := R18_Ends_ans s.ops (by omega)
    rw [toOps_ops] at eE
    rw [eA]
    simp only [e3]
    clear hwf bA
    refine ⟨eE, ⟨by omega, Int.le_refl _, by have := hM s.ops.length (by omega); omega, by omega⟩, ⟨0, Nat.zero_le _, ⟨trivial, rfl⟩, by rw [actUp_zero, bs_repl]⟩, fun k hk => ⟨fun hlt => ?_, fun hge => ?_⟩⟩
    · have hk : k < s.ops.length := by omega
      have b1 := rcs_at (boxesS s).1 k (by omega)
      have b2 := rcs_nAt (show k < (boxesS s).1.length by omega)
      have eb : (boxesS s).1[k] = bxAt s k := by unfold bxAt; rw [List.getElem?_eq_getElem (by omega)]; rfl
      rw [eb] at b1 b2
      have heta : (⟨(bxAt s k).a, (bxAt s k).b, (bxAt s k).c, (bxAt s k).d⟩ : Rc) = bxAt s k := rfl
      have eh : (!((bxAt s k).inter r).empty) = hitB s r k := rfl
      simp only [b2, heta, eh]
      have q1 := ops_rd hk
      have q2 := ops_at hk
      have eo : opAt s k = s.ops[k] := opAt_lt hk
      have w1 : IntKind.wrap .i64 ((k : Int) + 1) = ((k + 1 : Nat) : Int) := wrap_succ (by omega)
      simp only [Nat.add_zero, Nat.mul_one, q2, ← eo, bs_set, w1]
      have lu := actUp_len s r k
      refine ⟨⟨by omega, by omega, by rw [rcs_length]; omega⟩, b1, R13_Intersect_ans _ _ _ _ _ _ _ _, R13_Empty_ans _ _ _ _, ⟨by omega, by omega⟩, by rw [bs_length, actUp_len]; omega, ⟨0, Nat.zero_le _, rfl, by simp [actTo]⟩, fun j hj => ⟨fun jlt => ?_, fun jge => ?_⟩⟩
      · clear b1 b2 eb heta eh q1 q2 eo
        have hj2 : j < k := by omega
        have hj3 : j < s.ops.length := by omega
        have b1 := rcs_at (boxesS s).1 j (by omega)
        have b2 := rcs_nAt (show j < (boxesS s).1.length by omega)
        have eb : (boxesS s).1[j] = bxAt s j := by unfold bxAt; rw [List.getElem?_eq_getElem (by omega)]; rfl
        rw [eb] at b1 b2
        have heta : (⟨(bxAt s j).a, (bxAt s j).b, (bxAt s j).c, (bxAt s j).d⟩ : Rc) = bxAt s j := rfl
        have eh : (!((bxAt s j).inter r).empty) = hitB s r j := rfl
        have q1 := ops_rd hj3
        have q2 := ops_at hj3
        have eo : opAt s j = s.ops[j] := opAt_lt hj3
        have wj : IntKind.wrap .i64 ((j : Int) + 1) = ((j + 1 : Nat) : Int) := wrap_succ (by omega)
        have ng := is_get (ends_at h0 hj3)
        have ne := is_nAt (ends_at h0 hj3)
        have g : ((actUp s r k).set k (actTo s r k j))[k]? = some (actTo s r k j) := by rw [List.getElem?_set_self (by omega)]
        have gb := bs_bAt g
        have gg := bs_get g
        have hsu := actTo_succ s r k j
        simp only [b2, heta, eh, q2, ← eo, wj, ne, gb, List.set_set]
        refine ⟨⟨by omega, by omega, by rw [ops_length]; omega⟩, by rw [eo]; exact q1.1, fun h2 => ⟨⟨by omega, by omega, by rw [is_length]; omega⟩, ng, fun h3 => ⟨⟨by omega, by omega⟩, gg, fun h4 => ?_, fun h4 => ?_⟩, fun h3 => ?_⟩, fun h2 => ?_⟩
        · have h2 : (opAt s j).kind = 2 := by simpa using h2
          have h3 : k < enAt s j := by omega
          refine ⟨⟨by omega, by omega, by rw [rcs_length]; omega⟩, b1, R13_Intersect_ans _ _ _ _ _ _ _ _, R13_Empty_ans _ _ _ _, ⟨by omega, by omega⟩, by rw [bs_length, List.length_set]; omega, j + 1, by omega, by omega, rfl, ?_⟩
          rw [hsu, h4]
          simp [h2, h3]
        · refine ⟨⟨by omega, by omega⟩, by rw [bs_length, List.length_set]; omega, j + 1, by omega, by omega, rfl, ?_⟩
          rw [hsu, h4, Bool.false_and]
        · refine ⟨j + 1, by omega, by omega, rfl, ?_⟩
          have h3 : ¬ k < enAt s j := by omega
          rw [hsu]
          simp [h3]
        · refine ⟨j + 1, by omega, by omega, rfl, ?_⟩
          have h2 : ¬ (opAt s j).kind = 2 := by simpa using h2
          rw [hsu]
          simp [h2]
      · have : j = k := by omega
        subst this
        exact ⟨j + 1, by omega, by omega, rfl, by rw [← actUp_succ]; rfl⟩
    · have : k = s.ops.length := by omega
      subst this
      rw [actUp_all]
      exact ⟨⟨by simp, rfl⟩, trivial⟩

end Go.Proofs.YtcaokljobfkajaaDoor

/-
  Small things of the laws of bounds.
-/
namespace Go.Proofs.YtcaokljobfkajaaDoor
open Go.RowKit
set_option linter.unusedVariables false
set_option linter.unusedSimpArgs false
attribute [local irreducible] Ans AnsO AnsG AnsN AnsI

set_option maxRecDepth 4000
/-- a rectangle of a canvas, out of numbers -/
def prtB (r : Rc) (n0 n1 n2 n3 : Int) : Rc :=
  let w := IntKind.wrap .i64 (r.c - r.a)
  let h := IntKind.wrap .i64 (r.d - r.b)
  let x := modS n0 w
  let y := modS n1 h
  ⟨IntKind.wrap .i64 (r.a + x), IntKind.wrap .i64 (r.b + y), IntKind.wrap .i64 (IntKind.wrap .i64 (IntKind.wrap .i64 (r.a + x) + 1) + modS n2 (IntKind.wrap .i64 (w - x))), IntKind.wrap .i64 (IntKind.wrap .i64 (IntKind.wrap .i64 (r.b + y) + 1) + modS n3 (IntKind.wrap .i64 (h - y)))⟩
def awS : Scr := ⟨8, ⟨0, 0, 9, 9⟩, 9, 9, [], [⟨2, 2, true, ⟨0, 0, 0, 0, 0⟩, ⟨0, 0, 0, 0, []⟩, ⟨0, 0, 0, 0, []⟩, ⟨0, 0, 0, 0, []⟩, ⟨0, 0, 0, 0, []⟩, ⟨0, 0, 0, 0, []⟩⟩], [⟨1, 0, 8, 0, 0, 0, 0, 255, 4, 1, false, false⟩, ⟨1, 0, 0, 0, 0, 0, 0, 255, 6, 1, false, false⟩]⟩
theorem awS_boxes : boxesS awS = ([⟨8, 0, 9, 2⟩, ⟨0, 0, 9, 9⟩], 0) := by kernel_rfl
def gamBe : Gam where
 pure := fun f xs =>
  if f = 15 then (match xs with | [.agg [.int _ bits, .int _ cx0, .int _ cy0, .int _ cx1, .int _ cy1, .int _ tw, .int _ th, .sl on oxs, .sl mn mxs, .sl pn pxs]] => some (RV.tup [RV.d (DV.sl ((boxesS (⟨bits, ⟨cx0, cy0, cx1, cy1⟩, tw, th, ints oxs, toIms mxs, toOps pxs⟩ : Scr)).1.length) (rcs (boxesS (⟨bits, ⟨cx0, cy0, cx1, cy1⟩, tw, th, ints oxs, toIms mxs, toOps pxs⟩ : Scr)).1)), RV.d (DV.int .i64 ((boxesS (⟨bits, ⟨cx0, cy0, cx1, cy1⟩, tw, th, ints oxs, toIms mxs, toOps pxs⟩ : Scr)).2))]) | _ => none) else
  if f = 9 then (match xs with | [.d (.int _ n), .d (.int _ k)] => some (RV.d (DV.int .i64 (modS n k))) | _ => none) else
  none
 modes := fun f =>
  none
 proc := fun f xs bs =>
  none
 iter := fun f cs =>
  none

def L24_same_ann (x : List Rc) (y : List Rc) : Ann := (Ann.seq Ann.leaf (Ann.seq Ann.leaf (Ann.seq (Ann.seq Ann.leaf (Ann.loop ⟨Nat, fun k => k ≤ x.length ∧ x.take k = y.take k, fun k => ⟨[(0, AV.one (Cl.d (DV.sl x.length (rcs x)))), (1, AV.one (Cl.d (DV.sl y.length (rcs y)))), (5, AV.one (Cl.d (DV.int .i64 ((k : Nat) : Int))))], []⟩, fun k => x.length - k⟩ fun k => Ann.leaf)) Ann.leaf)))
theorem L24_same_vc (x : List Rc) (y : List Rc) : vcg Tryd.prog gamBe 26 (bodyOf Tryd.f17) (L24_same_ann x y) kn0 (start [RV.d (DV.sl x.length (rcs x)), RV.d (DV.sl y.length (rcs y))]) (post Tryd.prog Tryd.f17.results.toList (· = RV.d (DV.bool (decide (toRcs (rcs x) = toRcs (rcs y)))))) =
  (let zz0 := (DV.bool (decide (toRcs (rcs x) = toRcs (rcs y)))); let zz1 := fun (k : Nat) => (k ≤ x.length ∧ x.take k = y.take k); let zz2 := (DV.sl x.length (rcs x) = DV.sl x.length (rcs x)); let zz3 := (DV.sl y.length (rcs y) = DV.sl y.length (rcs y)); True ∧ True ∧ True ∧ True ∧ True ∧ True ∧ (((((x.length : Nat) : Int) != ((y.length : Nat) : Int)) = true → True ∧ RV.d (DV.bool false) = RV.d zz0) ∧ ((((x.length : Nat) : Int) != ((y.length : Nat) : Int)) = false → True ∧ ((∃ k : Nat, (zz1 k) ∧ ((zz2 ∧ zz3 ∧ (DV.int .i64 0 = DV.int .i64 ((k : Nat) : Int)) ∧ True) ∧ (True))) ∧ ∀ k : Nat, (zz1 k) → True ∧ True ∧ True ∧ True ∧ (((decide (((k : Nat) : Int) < ((x.length : Nat) : Int))) = true → True ∧ True ∧ (0 ≤ ((k : Nat) : Int) ∧ ((k : Nat) : Int) < ((x.length : Nat) : Int) ∧ ((k : Nat) : Int).toNat * 4 < (rcs x).length) ∧ (((rcs x)[((k : Nat) : Int).toNat * 4]? = some (DV.int .i64 (nAt (rcs x) (((k : Nat) : Int).toNat * 4)))) ∧ ((rcs x)[((k : Nat) : Int).toNat * 4 + 1]? = some (DV.int .i64 (nAt (rcs x) (((k : Nat) : Int).toNat * 4 + 1)))) ∧ ((rcs x)[((k : Nat) : Int).toNat * 4 + 1 + 1]? = some (DV.int .i64 (nAt (rcs x) (((k : Nat) : Int).toNat * 4 + 1 + 1)))) ∧ ((rcs x)[((k : Nat) : Int).toNat * 4 + 1 + 1 + 1]? = some (DV.int .i64 (nAt (rcs x) (((k : Nat) : Int).toNat * 4 + 1 + 1 + 1)))) ∧ True) ∧ True ∧ True ∧ (0 ≤ ((k : Nat) : Int) ∧ ((k : Nat) : Int) < ((y.length : Nat) : Int) ∧ ((k : Nat) : Int).toNat * 4 < (rcs y).length) ∧ (((rcs y)[((k : Nat) : Int).toNat * 4]? = some (DV.int .i64 (nAt (rcs y) (((k : Nat) : Int).toNat * 4)))) ∧ ((rcs y)[((k : Nat) : Int).toNat * 4 + 1]? = some (DV.int .i64 (nAt (rcs y) (((k : Nat) : Int).toNat * 4 + 1)))) ∧ ((rcs y)[((k : Nat) : Int).toNat * 4 + 1 + 1]? = some (DV.int .i64 (nAt (rcs y) (((k : Nat) : Int).toNat * 4 + 1 + 1)))) ∧ ((rcs y)[((k : Nat) : Int).toNat * 4 + 1 + 1 + 1]? = some (DV.int .i64 (nAt (rcs y) (((k : Nat) : Int).toNat * 4 + 1 + 1 + 1)))) ∧ True) ∧ True ∧ (true = true) ∧ (((!(((nAt (rcs x) (((k : Nat) : Int).toNat * 4)) == (nAt (rcs y) (((k : Nat) : Int).toNat * 4))) && (((nAt (rcs x) (((k : Nat) : Int).toNat * 4 + 1)) == (nAt (rcs y) (((k : Nat) : Int).toNat * 4 + 1))) && (((nAt (rcs x) (((k : Nat) : Int).toNat * 4 + 1 + 1)) == (nAt (rcs y) (((k : Nat) : Int).toNat * 4 + 1 + 1))) && (((nAt (rcs x) (((k : Nat) : Int).toNat * 4 + 1 + 1 + 1)) == (nAt (rcs y) (((k : Nat) : Int).toNat * 4 + 1 + 1 + 1))) && true))))) = true → True ∧ RV.d (DV.bool false) = RV.d zz0) ∧ ((!(((nAt (rcs x) (((k : Nat) : Int).toNat * 4)) == (nAt (rcs y) (((k : Nat) : Int).toNat * 4))) && (((nAt (rcs x) (((k : Nat) : Int).toNat * 4 + 1)) == (nAt (rcs y) (((k : Nat) : Int).toNat * 4 + 1))) && (((nAt (rcs x) (((k : Nat) : Int).toNat * 4 + 1 + 1)) == (nAt (rcs y) (((k : Nat) : Int).toNat * 4 + 1 + 1))) && (((nAt (rcs x) (((k : Nat) : Int).toNat * 4 + 1 + 1 + 1)) == (nAt (rcs y) (((k : Nat) : Int).toNat * 4 + 1 + 1 + 1))) && true))))) = false → True ∧ True ∧ True ∧ ∃ k' : Nat, (k' ≤ x.length ∧ x.take k' = y.take k') ∧ (x.length - k' < x.length - k) ∧ ((zz2 ∧ zz3 ∧ (DV.int .i64 (IntKind.wrap .i64 (((k : Nat) : Int) + (1 : Int))) = DV.int .i64 ((k' : Nat) : Int)) ∧ True) ∧ (True))))) ∧ ((decide (((k : Nat) : Int) < ((x.length : Nat) : Int))) = false → True ∧ RV.d (DV.bool true) = RV.d zz0)))))) := by kernel_rfl
theorem L24_same_ans (x : List Rc) (y : List Rc) : Ans Tryd.prog 17 [RV.d (DV.sl x.length (rcs x)), RV.d (DV.sl y.length (rcs y))] (RV.d (DV.bool (decide (toRcs (rcs x) = toRcs (rcs y))))) :=
  ans_of_vcg (Γ := gamBe) (L24_same_ann x y) mixed_ Tryd.func17 rfl (Nat.le_of_ble_eq_true rfl) fun hwf => by
    refine Eq.mpr (L24_same_vc x y) ?_
    simp only [true_and, and_true, RV.d.injEq, RV.agg.injEq, RV.tup.injEq, DV.bool.injEq, DV.int.injEq, DV.sl.injEq, List.cons.injEq, forall_const, Bool.not_false, Bool.not_true, Bool.not_eq_true', Bool.not_eq_false', decide_eq_true_eq, decide_eq_false_iff_not, Int.toNat_natCast, G_Mod_ans]
    simp only [toRcs_rcs]
    simp only [RV.wfs, RV.wf, DV.wf, maxLen] at hwf
    refine ⟨fun hne => ?_, fun he => ⟨⟨0, ⟨Nat.zero_le _, rfl⟩, rfl⟩, fun k hk => ⟨fun hlt => ?_, fun hge => ?_⟩⟩⟩
    · have : x ≠ y := fun h => by rw [h] at hne; simp at hne
      simp [this]
    · have he : x.length = y.length := by simp at he; omega
      have h : k < x.length := by omega
      have h' : k < y.length := by omega
      have e1 := rcs_nAt h
      have q1 := rcs_at x k h
      have e2 := rcs_nAt h'
      have q2 := rcs_at y k h'
      have hw : IntKind.wrap .i64 ((k : Int) + 1) = ((k + 1 : Nat) : Int) := by rw [IntWalk.i64_in _ ⟨by omega, by omega⟩]; omega
      simp only [e1, e2]
      refine ⟨⟨by omega, by omega, by rw [rcs_length]; omega⟩, q1, ⟨by omega, by omega, by rw [rcs_length]; omega⟩, q2, fun hd => ?_, fun hd => ?_⟩
      · have : x ≠ y := fun hll => by subst hll; simp at hd
        simp [this]
      · refine ⟨k + 1, ⟨by omega, ?_⟩, by omega, hw⟩
        have hr : x[k] = y[k] := by
          generalize x[k] = r at *
          generalize y[k] = q at *
          obtain ⟨r1, r2, r3, r4⟩ := r
          obtain ⟨t1, t2, t3, t4⟩ := q
          simp at hd ⊢
          omega
        rw [List.take_succ_eq_append_getElem h, List.take_succ_eq_append_getElem h', hk.2, hr]
    · have he : x.length = y.length := by simp at he; omega
      have hk2 := hk.2
      rw [List.take_of_length_le (by omega), List.take_of_length_le (by omega)] at hk2
      simp [hk2]

def L24_awake_ann : Ann := (Ann.seq Ann.leaf (Ann.cut ⟨Unit, fun u : Unit => True, fun u : Unit => ⟨[(1, AV.one (Cl.ptr 1 0))], [(1, Bx.cells [Cl.d (DV.int .i64 awS.bits), Cl.d (DV.int .i64 awS.c.a), Cl.d (DV.int .i64 awS.c.b), Cl.d (DV.int .i64 awS.c.c), Cl.d (DV.int .i64 awS.c.d), Cl.d (DV.int .i64 awS.tw), Cl.d (DV.int .i64 awS.th), Cl.ref 7000 awS.ord.length, Cl.ref 7001 awS.ims.length, Cl.ref 7002 awS.ops.length]), (7000, Bx.row 3 1 (is awS.ord)), (7001, Bx.row 49 28 (ims awS.ims)), (7002, Bx.row 29 12 (ops awS.ops))]⟩, fun u : Unit => 0⟩ Ann.leaf fun u => Ann.leaf))
theorem L24_awake_vc : vcg Tryd.prog gamBe 38 (bodyOf Tryd.f10) (L24_awake_ann ) kn0 (start []) (post Tryd.prog Tryd.f10.results.toList (· = RV.d (DV.bool true))) =
  (True ∧ (True ∧ True ∧ True ∧ True ∧ True ∧ True ∧ True ∧ True ∧ True ∧ ∃ u : Unit, True ∧ (((0 = 0) ∧ True) ∧ (((DV.int .i64 8 = DV.int .i64 awS.bits) ∧ (DV.int .i64 0 = DV.int .i64 awS.c.a) ∧ (DV.int .i64 0 = DV.int .i64 awS.c.b) ∧ (DV.int .i64 9 = DV.int .i64 awS.c.c) ∧ (DV.int .i64 9 = DV.int .i64 awS.c.d) ∧ (DV.int .i64 9 = DV.int .i64 awS.tw) ∧ (DV.int .i64 9 = DV.int .i64 awS.th) ∧ (0 = awS.ord.length) ∧ (1 = awS.ims.length) ∧ (2 = awS.ops.length) ∧ True) ∧ ([] = is awS.ord) ∧ ([DV.int .i64 2, DV.int .i64 2, DV.bool true, DV.int .u16 0, DV.int .u16 0, DV.int .u16 0, DV.int .u16 0, DV.int .u16 0, DV.int .i64 0, DV.int .i64 0, DV.int .i64 0, DV.sl 0 ([]), DV.int .i64 0, DV.int .i64 0, DV.int .i64 0, DV.sl 0 ([]), DV.int .i64 0, DV.int .i64 0, DV.int .i64 0, DV.sl 0 ([]), DV.int .i64 0, DV.int .i64 0, DV.int .i64 0, DV.sl 0 ([]), DV.int .i64 0, DV.int .i64 0, DV.int .i64 0, DV.sl 0 ([])] = ims awS.ims) ∧ ([DV.int .i64 1, DV.int .i64 0, DV.int .i64 8, DV.int .i64 0, DV.int .i64 0, DV.int .i64 0, DV.int .i64 0, DV.int .u16 255, DV.int .i64 4, DV.int .i64 1, DV.bool false, DV.bool false, DV.int .i64 1, DV.int .i64 0, DV.int .i64 0, DV.int .i64 0, DV.int .i64 0, DV.int .i64 0, DV.int .i64 0, DV.int .u16 255, DV.int .i64 6, DV.int .i64 1, DV.bool false, DV.bool false] = ops awS.ops) ∧ True))) ∧ ∀ u : Unit, (True) → True ∧ (Ans Tryd.prog 15 [RV.agg [DV.int .i64 awS.bits, DV.int .i64 awS.c.a, DV.int .i64 awS.c.b, DV.int .i64 awS.c.c, DV.int .i64 awS.c.d, DV.int .i64 awS.tw, DV.int .i64 awS.th, DV.sl awS.ord.length (is awS.ord), DV.sl awS.ims.length (ims awS.ims), DV.sl awS.ops.length (ops awS.ops)]] (RV.tup [RV.d (DV.sl ((boxesS (⟨awS.bits, awS.c, awS.tw, awS.th, ints (is awS.ord), toIms (ims awS.ims), toOps (ops awS.ops)⟩ : Scr)).1.length) (rcs (boxesS (⟨awS.bits, awS.c, awS.tw, awS.th, ints (is awS.ord), toIms (ims awS.ims), toOps (ops awS.ops)⟩ : Scr)).1)), RV.d (DV.int .i64 ((boxesS (⟨awS.bits, awS.c, awS.tw, awS.th, ints (is awS.ord), toIms (ims awS.ims), toOps (ops awS.ops)⟩ : Scr)).2))])) ∧ True ∧ True ∧ True ∧ True ∧ True ∧ True ∧ True ∧ True ∧ (((((boxesS (⟨awS.bits, awS.c, awS.tw, awS.th, ints (is awS.ord), toIms (ims awS.ims), toOps (ops awS.ops)⟩ : Scr)).2) == (0 : Int)) = true → True ∧ True ∧ True ∧ True ∧ True ∧ ((((((boxesS (⟨awS.bits, awS.c, awS.tw, awS.th, ints (is awS.ord), toIms (ims awS.ims), toOps (ops awS.ops)⟩ : Scr)).1.length : Nat) : Int) == (2 : Int)) = true → True ∧ (0 ≤ (0 : Int) ∧ (0 : Int) < (((boxesS (⟨awS.bits, awS.c, awS.tw, awS.th, ints (is awS.ord), toIms (ims awS.ims), toOps (ops awS.ops)⟩ : Scr)).1.length : Nat) : Int) ∧ 0 < (rcs (boxesS (⟨awS.bits, awS.c, awS.tw, awS.th, ints (is awS.ord), toIms (ims awS.ims), toOps (ops awS.ops)⟩ : Scr)).1).length) ∧ (((rcs (boxesS (⟨awS.bits, awS.c, awS.tw, awS.th, ints (is awS.ord), toIms (ims awS.ims), toOps (ops awS.ops)⟩ : Scr)).1)[0]? = some (DV.int .i64 (nAt (rcs (boxesS (⟨awS.bits, awS.c, awS.tw, awS.th, ints (is awS.ord), toIms (ims awS.ims), toOps (ops awS.ops)⟩ : Scr)).1) 0))) ∧ ((rcs (boxesS (⟨awS.bits, awS.c, awS.tw, awS.th, ints (is awS.ord), toIms (ims awS.ims), toOps (ops awS.ops)⟩ : Scr)).1)[1]? = some (DV.int .i64 (nAt (rcs (boxesS (⟨awS.bits, awS.c, awS.tw, awS.th, ints (is awS.ord), toIms (ims awS.ims), toOps (ops awS.ops)⟩ : Scr)).1) 1))) ∧ ((rcs (boxesS (⟨awS.bits, awS.c, awS.tw, awS.th, ints (is awS.ord), toIms (ims awS.ims), toOps (ops awS.ops)⟩ : Scr)).1)[2]? = some (DV.int .i64 (nAt (rcs (boxesS (⟨awS.bits, awS.c, awS.tw, awS.th, ints (is awS.ord), toIms (ims awS.ims), toOps (ops awS.ops)⟩ : Scr)).1) 2))) ∧ ((rcs (boxesS (⟨awS.bits, awS.c, awS.tw, awS.th, ints (is awS.ord), toIms (ims awS.ims), toOps (ops awS.ops)⟩ : Scr)).1)[3]? = some (DV.int .i64 (nAt (rcs (boxesS (⟨awS.bits, awS.c, awS.tw, awS.th, ints (is awS.ord), toIms (ims awS.ims), toOps (ops awS.ops)⟩ : Scr)).1) 3))) ∧ True) ∧ True ∧ True ∧ True ∧ True ∧ (((((nAt (rcs (boxesS (⟨awS.bits, awS.c, awS.tw, awS.th, ints (is awS.ord), toIms (ims awS.ims), toOps (ops awS.ops)⟩ : Scr)).1) 0) == (8 : Int)) && (((nAt (rcs (boxesS (⟨awS.bits, awS.c, awS.tw, awS.th, ints (is awS.ord), toIms (ims awS.ims), toOps (ops awS.ops)⟩ : Scr)).1) 1) == (0 : Int)) && (((nAt (rcs (boxesS (⟨awS.bits, awS.c, awS.tw, awS.th, ints (is awS.ord), toIms (ims awS.ims), toOps (ops awS.ops)⟩ : Scr)).1) 2) == (9 : Int)) && (((nAt (rcs (boxesS (⟨awS.bits, awS.c, awS.tw, awS.th, ints (is awS.ord), toIms (ims awS.ims), toOps (ops awS.ops)⟩ : Scr)).1) 3) == (2 : Int)) && true)))) = true → True ∧ (0 ≤ (1 : Int) ∧ (1 : Int) < (((boxesS (⟨awS.bits, awS.c, awS.tw, awS.th, ints (is awS.ord), toIms (ims awS.ims), toOps (ops awS.ops)⟩ : Scr)).1.length : Nat) : Int) ∧ 4 < (rcs (boxesS (⟨awS.bits, awS.c, awS.tw, awS.th, ints (is awS.ord), toIms (ims awS.ims), toOps (ops awS.ops)⟩ : Scr)).1).length) ∧ (((rcs (boxesS (⟨awS.bits, awS.c, awS.tw, awS.th, ints (is awS.ord), toIms (ims awS.ims), toOps (ops awS.ops)⟩ : Scr)).1)[4]? = some (DV.int .i64 (nAt (rcs (boxesS (⟨awS.bits, awS.c, awS.tw, awS.th, ints (is awS.ord), toIms (ims awS.ims), toOps (ops awS.ops)⟩ : Scr)).1) 4))) ∧ ((rcs (boxesS (⟨awS.bits, awS.c, awS.tw, awS.th, ints (is awS.ord), toIms (ims awS.ims), toOps (ops awS.ops)⟩ : Scr)).1)[5]? = some (DV.int .i64 (nAt (rcs (boxesS (⟨awS.bits, awS.c, awS.tw, awS.th, ints (is awS.ord), toIms (ims awS.ims), toOps (ops awS.ops)⟩ : Scr)).1) 5))) ∧ ((rcs (boxesS (⟨awS.bits, awS.c, awS.tw, awS.th, ints (is awS.ord), toIms (ims awS.ims), toOps (ops awS.ops)⟩ : Scr)).1)[6]? = some (DV.int .i64 (nAt (rcs (boxesS (⟨awS.bits, awS.c, awS.tw, awS.th, ints (is awS.ord), toIms (ims awS.ims), toOps (ops awS.ops)⟩ : Scr)).1) 6))) ∧ ((rcs (boxesS (⟨awS.bits, awS.c, awS.tw, awS.th, ints (is awS.ord), toIms (ims awS.ims), toOps (ops awS.ops)⟩ : Scr)).1)[7]? = some (DV.int .i64 (nAt (rcs (boxesS (⟨awS.bits, awS.c, awS.tw, awS.th, ints (is awS.ord), toIms (ims awS.ims), toOps (ops awS.ops)⟩ : Scr)).1) 7))) ∧ True) ∧ True ∧ True ∧ True ∧ True ∧ True ∧ (true = true) ∧ RV.d (DV.bool (((nAt (rcs (boxesS (⟨awS.bits, awS.c, awS.tw, awS.th, ints (is awS.ord), toIms (ims awS.ims), toOps (ops awS.ops)⟩ : Scr)).1) 4) == awS.c.a) && (((nAt (rcs (boxesS (⟨awS.bits, awS.c, awS.tw, awS.th, ints (is awS.ord), toIms (ims awS.ims), toOps (ops awS.ops)⟩ : Scr)).1) 5) == awS.c.b) && (((nAt (rcs (boxesS (⟨awS.bits, awS.c, awS.tw, awS.th, ints (is awS.ord), toIms (ims awS.ims), toOps (ops awS.ops)⟩ : Scr)).1) 6) == awS.c.c) && (((nAt (rcs (boxesS (⟨awS.bits, awS.c, awS.tw, awS.th, ints (is awS.ord), toIms (ims awS.ims), toOps (ops awS.ops)⟩ : Scr)).1) 7) == awS.c.d) && true))))) = RV.d (DV.bool true)) ∧ ((((nAt (rcs (boxesS (⟨awS.bits, awS.c, awS.tw, awS.th, ints (is awS.ord), toIms (ims awS.ims), toOps (ops awS.ops)⟩ : Scr)).1) 0) == (8 : Int)) && (((nAt (rcs (boxesS (⟨awS.bits, awS.c, awS.tw, awS.th, ints (is awS.ord), toIms (ims awS.ims), toOps (ops awS.ops)⟩ : Scr)).1) 1) == (0 : Int)) && (((nAt (rcs (boxesS (⟨awS.bits, awS.c, awS.tw, awS.th, ints (is awS.ord), toIms (ims awS.ims), toOps (ops awS.ops)⟩ : Scr)).1) 2) == (9 : Int)) && (((nAt (rcs (boxesS (⟨awS.bits, awS.c, awS.tw, awS.th, ints (is awS.ord), toIms (ims awS.ims), toOps (ops awS.ops)⟩ : Scr)).1) 3) == (2 : Int)) && true)))) = (!true) → True ∧ True ∧ (true = true) ∧ RV.d (DV.bool false) = RV.d (DV.bool true)))) ∧ (((((boxesS (⟨awS.bits, awS.c, awS.tw, awS.th, ints (is awS.ord), toIms (ims awS.ims), toOps (ops awS.ops)⟩ : Scr)).1.length : Nat) : Int) == (2 : Int)) = (!true) → True ∧ True ∧ True ∧ True ∧ (true = true) ∧ RV.d (DV.bool false) = RV.d (DV.bool true)))) ∧ ((((boxesS (⟨awS.bits, awS.c, awS.tw, awS.th, ints (is awS.ord), toIms (ims awS.ims), toOps (ops awS.ops)⟩ : Scr)).2) == (0 : Int)) = (!true) → True ∧ True ∧ True ∧ True ∧ True ∧ True ∧ (true = true) ∧ RV.d (DV.bool false) = RV.d (DV.bool true)))) := by kernel_rfl
theorem L24_awake_ans : Ans Tryd.prog 10 [] (RV.d (DV.bool true)) :=
  ans_of_vcg (Γ := gamBe) (L24_awake_ann ) mixed_ Tryd.func10 rfl (Nat.le_of_ble_eq_true rfl) fun hwf => by
    refine Eq.mpr (L24_awake_vc ) ?_
    simp only [true_and, and_true, RV.d.injEq, RV.agg.injEq, RV.tup.injEq, DV.bool.injEq, DV.int.injEq, DV.sl.injEq, List.cons.injEq, forall_const, Bool.not_false, Bool.not_true, Bool.not_eq_true', Bool.not_eq_false', decide_eq_true_eq, decide_eq_false_iff_not, Int.toNat_natCast, G_Mod_ans]
    have eS : (⟨awS.bits, awS.c, awS.tw, awS.th, ints (is awS.ord), toIms (ims awS.ims), toOps (ops awS.ops)⟩ : Scr) = awS := scr_eta awS
    have a := bounds_Boxes_ans awS
    simp only [eS, awS_boxes] at a ⊢
    refine ⟨⟨(), ⟨rfl, rfl, rfl, rfl, rfl, rfl, rfl, rfl, rfl, rfl⟩, rfl, rfl, rfl⟩, a, ?_⟩
    simp [rcs, Rc.cells, nAt, awS]

def G_Part_ann (r : Rc) (n0 : Int) (n1 : Int) (n2 : Int) (n3 : Int) : Ann := Ann.leaf
theorem G_Part_vc (r : Rc) (n0 : Int) (n1 : Int) (n2 : Int) (n3 : Int) : vcg Tryd.prog gamBe 60 (bodyOf Tryd.f18) (G_Part_ann r n0 n1 n2 n3) kn0 (start [RV.agg [DV.int .i64 r.a, DV.int .i64 r.b, DV.int .i64 r.c, DV.int .i64 r.d], RV.agg [DV.int .i64 n0, DV.int .i64 n1, DV.int .i64 n2, DV.int .i64 n3]]) (post Tryd.prog Tryd.f18.results.toList (· = RV.agg [DV.int .i64 ((prtB r n0 n1 n2 n3).a), DV.int .i64 ((prtB r n0 n1 n2 n3).b), DV.int .i64 ((prtB r n0 n1 n2 n3).c), DV.int .i64 ((prtB r n0 n1 n2 n3).d)])) =
  (let zz0 := (IntKind.wrap .i64 (r.c - r.a)); let zz1 := (IntKind.wrap .i64 (r.d - r.b)); let zz2 := (IntKind.wrap .i64 (zz0 - (modS n0 zz0))); let zz3 := (IntKind.wrap .i64 (zz1 - (modS n1 zz1))); let zz4 := (IntKind.wrap .i64 (r.a + (modS n0 zz0))); let zz5 := (IntKind.wrap .i64 (r.b + (modS n1 zz1))); True ∧ True ∧ True ∧ True ∧ True ∧ True ∧ True ∧ True ∧ True ∧ True ∧ True ∧ True ∧ True ∧ True ∧ True ∧ (true = true) ∧ (0 ≤ (0 : Int) ∧ (0 : Int) < ((4 : Nat) : Int)) ∧ True ∧ True ∧ (Ans Tryd.prog 9 [RV.d (DV.int .i64 n0), RV.d (DV.int .i64 zz0)] (RV.d (DV.int .i64 (modS n0 zz0)))) ∧ (0 ≤ (1 : Int) ∧ (1 : Int) < ((4 : Nat) : Int)) ∧ True ∧ True ∧ (Ans Tryd.prog 9 [RV.d (DV.int .i64 n1), RV.d (DV.int .i64 zz1)] (RV.d (DV.int .i64 (modS n1 zz1)))) ∧ True ∧ True ∧ (true = true) ∧ True ∧ True ∧ True ∧ True ∧ True ∧ True ∧ True ∧ True ∧ True ∧ True ∧ True ∧ True ∧ True ∧ (0 ≤ (2 : Int) ∧ (2 : Int) < ((4 : Nat) : Int)) ∧ True ∧ True ∧ True ∧ True ∧ (Ans Tryd.prog 9 [RV.d (DV.int .i64 n2), RV.d (DV.int .i64 zz2)] (RV.d (DV.int .i64 (modS n2 zz2)))) ∧ True ∧ True ∧ True ∧ True ∧ True ∧ True ∧ (0 ≤ (3 : Int) ∧ (3 : Int) < ((4 : Nat) : Int)) ∧ True ∧ True ∧ True ∧ True ∧ (Ans Tryd.prog 9 [RV.d (DV.int .i64 n3), RV.d (DV.int .i64 zz3)] (RV.d (DV.int .i64 (modS n3 zz3)))) ∧ True ∧ True ∧ True ∧ (true = true) ∧ RV.agg [DV.int .i64 zz4, DV.int .i64 zz5, DV.int .i64 (IntKind.wrap .i64 ((IntKind.wrap .i64 (zz4 + (1 : Int))) + (modS n2 zz2))), DV.int .i64 (IntKind.wrap .i64 ((IntKind.wrap .i64 (zz5 + (1 : Int))) + (modS n3 zz3)))] = RV.agg [DV.int .i64 ((prtB r n0 n1 n2 n3).a), DV.int .i64 ((prtB r n0 n1 n2 n3).b), DV.int .i64 ((prtB r n0 n1 n2 n3).c), DV.int .i64 ((prtB r n0 n1 n2 n3).d)]) := by kernel_rfl
theorem G_Part_ans (r : Rc) (n0 : Int) (n1 : Int) (n2 : Int) (n3 : Int) : Ans Tryd.prog 18 [RV.agg [DV.int .i64 r.a, DV.int .i64 r.b, DV.int .i64 r.c, DV.int .i64 r.d], RV.agg [DV.int .i64 n0, DV.int .i64 n1, DV.int .i64 n2, DV.int .i64 n3]] (RV.agg [DV.int .i64 ((prtB r n0 n1 n2 n3).a), DV.int .i64 ((prtB r n0 n1 n2 n3).b), DV.int .i64 ((prtB r n0 n1 n2 n3).c), DV.int .i64 ((prtB r n0 n1 n2 n3).d)]) :=
  ans_of_vcg (Γ := gamBe) (G_Part_ann r n0 n1 n2 n3) mixed_ Tryd.func18 rfl (Nat.le_of_ble_eq_true rfl) fun hwf => by
    refine Eq.mpr (G_Part_vc r n0 n1 n2 n3) ?_
    simp only [true_and, and_true, RV.d.injEq, RV.agg.injEq, RV.tup.injEq, DV.bool.injEq, DV.int.injEq, DV.sl.injEq, List.cons.injEq, forall_const, Bool.not_false, Bool.not_true, Bool.not_eq_true', Bool.not_eq_false', decide_eq_true_eq, decide_eq_false_iff_not, Int.toNat_natCast, G_Mod_ans]
    simp [prtB]

end Go.Proofs.YtcaokljobfkajaaDoor

/-
  What a law is handed, in plain words: scenes, lists of operations.
-/
namespace Go.Proofs.YtcaokljobfkajaaDoor
open Go.RowKit
set_option linter.unusedVariables false
set_option linter.unusedSimpArgs false

def Leaves (P : Program) (ls : List TypeId) (n : Nat) (xs : List DV) : Prop :=
  xs.length = n * ls.length ∧ ∀ (j : Nat) d, xs[j]? = some d → ∃ t', ls[j % ls.length]? = some t' ∧ ∃ q, LeafD P q t' d
theorem Leaves.at_ {P : Program} {ls : List TypeId} {n : Nat} {xs : List DV} (h : Leaves P ls n xs) {k r : Nat} {t : TypeId} (hk : k < n) (hr : ls[r]? = some t) : ∃ d q, xs[k * ls.length + r]? = some d ∧ LeafD P q t d := by
  obtain ⟨hn, hx⟩ := h
  have hr' : r < ls.length := (List.getElem?_eq_some_iff.1 hr).1
  have hle : (k + 1) * ls.length ≤ n * ls.length := Nat.mul_le_mul_right _ (by omega)
  rw [Nat.add_mul] at hle
  have hj : k * ls.length + r < xs.length := by omega
  obtain ⟨t', a, q, b⟩ := hx _ _ (List.getElem?_eq_getElem hj)
  rw [Nat.mul_comm k, Nat.mul_add_mod, Nat.mod_eq_of_lt hr', hr] at a
  injection a with a
  subst a
  exact ⟨_, q, List.getElem?_eq_getElem hj, b⟩
theorem Leaves.int {P : Program} {ls : List TypeId} {n : Nat} {xs : List DV} (h : Leaves P ls n xs) {k r : Nat} {t : TypeId} {kk : IntKind} (hk : k < n) (hr : ls[r]? = some t) (hu : P.underlying t = some (.int kk)) : xs[k * ls.length + r]? = some (.int kk (nAt xs (k * ls.length + r))) := by
  obtain ⟨d, q, e, b⟩ := h.at_ hk hr
  obtain ⟨v, rfl⟩ := b.int hu
  simp only [nAt, e]
theorem Leaves.bool {P : Program} {ls : List TypeId} {n : Nat} {xs : List DV} (h : Leaves P ls n xs) {k r : Nat} {t : TypeId} (hk : k < n) (hr : ls[r]? = some t) (hu : P.underlying t = some .bool) : xs[k * ls.length + r]? = some (.bool (bAt xs (k * ls.length + r))) := by
  obtain ⟨d, q, e, b⟩ := h.at_ hk hr
  obtain ⟨v, rfl⟩ := b.bool hu
  simp only [bAt, e]
theorem Leaves.sl {P : Program} {ls : List TypeId} {n : Nat} {xs : List DV} (h : Leaves P ls n xs) {k r : Nat} {t e : TypeId} {ms : List TypeId} (hk : k < n) (hr : ls[r]? = some t) (hu : P.underlying t = some (.slice e)) (hl : lv P e = some ms) :
    xs[k * ls.length + r]? = some (.sl (lAt xs (k * ls.length + r)) (cAt xs (k * ls.length + r))) ∧ Leaves P ms (lAt xs (k * ls.length + r)) (cAt xs (k * ls.length + r)) := by
  obtain ⟨d, q, e1, b⟩ := h.at_ hk hr
  obtain ⟨m, ys, rfl, _, h1, h2⟩ := b.slice hu hl
  simp only [lAt, cAt, e1]
  exact ⟨trivial, h1, h2⟩
theorem Leaves.ints {P : Program} {t : TypeId} {n : Nat} {xs : List DV} (h : Leaves P [t] n xs) (hu : P.underlying t = some (.int .i64)) : xs = is (ints xs) ∧ n = xs.length :=
  isI_of (by have := h.1; simpa using this) fun j d hj => by obtain ⟨t', a, q, b⟩ := h.2 j d hj; exact intLeaf1 hu a b
theorem Leaves.five {P : Program} {t : TypeId} {n : Nat} {xs : List DV} (h : Leaves P [t, t, t, t, t] n xs) (hu : P.underlying t = some (.int .i64)) : Is5 n xs :=
  is5_of h.1 fun j d hj => by obtain ⟨t', a, q, b⟩ := h.2 j d hj; exact intLeaf5 hu a b
theorem Leaves.pics {P : Program} {t ts e : TypeId} {n : Nat} {xs : List DV} (h : Leaves P [t, t, t, t, ts] n xs) (hu : P.underlying t = some (.int .i64)) (hs : P.underlying ts = some (.slice e)) (hl : lv P e = some [t, t, t, t, t]) : IsPics n xs :=
  ⟨h.1, fun k hk => ⟨h.int (r := 0) hk rfl hu, h.int (r := 1) hk rfl hu, h.int (r := 2) hk rfl hu, h.int (r := 3) hk rfl hu, (h.sl (r := 4) hk rfl hs hl).1, (h.sl (r := 4) hk rfl hs hl).2.five hu⟩⟩
theorem Leaves.raws {P : Program} {t : TypeId} {n : Nat} {xs : List DV} (h : Leaves P [t, t, t, t, t, t, t, t, t, t, t] n xs) (hu : P.underlying t = some (.int .i64)) : IsRws n xs := by
  refine ⟨h.1, fun i hi => ?_⟩
  have hr : [t, t, t, t, t, t, t, t, t, t, t][i % 11]? = some t := by
    have h2 : i % 11 < 11 := Nat.mod_lt _ (by omega)
    generalize i % 11 = r at *
    match r, h2 with
    | 0, _ | 1, _ | 2, _ | 3, _ | 4, _ | 5, _ | 6, _ | 7, _ | 8, _ | 9, _ | 10, _ => rfl
  have := h.int (k := i / 11) (r := i % 11) (by omega) hr hu
  have e : i / 11 * [t, t, t, t, t, t, t, t, t, t, t].length + i % 11 = i := by show i / 11 * 11 + i % 11 = i; omega
  rw [e] at this
  exact this
theorem blocks_eq {xs ys : List DV} {n m : Nat} (hx : xs.length = n * m) (hy : ys.length = n * m) (h : ∀ k, k < n → ∀ j, j < m → xs[k * m + j]? = ys[k * m + j]?) : xs = ys := by
  refine List.ext_getElem? fun i => ?_
  by_cases hi : i < n * m
  · have hm : 0 < m := by
      rcases Nat.eq_zero_or_pos m with h0 | h0
      · subst h0; simp at hi
      · exact h0
    have := h (i / m) (Nat.div_lt_of_lt_mul (by rw [Nat.mul_comm]; exact hi)) (i % m) (Nat.mod_lt _ hm)
    have e : i / m * m + i % m = i := by rw [Nat.mul_comm]; exact Nat.div_add_mod i m
    rw [e] at this
    exact this
  · rw [List.getElem?_eq_none (by omega), List.getElem?_eq_none (by omega)]
theorem Leaves.ops {P : Program} {t u b : TypeId} {n : Nat} {xs : List DV} (h : Leaves P [t, t, t, t, t, t, t, u, t, t, b, b] n xs) (ht : P.underlying t = some (.int .i64)) (hu : P.underlying u = some (.int .u16)) (hb : P.underlying b = some .bool) : IsOps n xs := by
  have hl : xs.length = n * 12 := h.1
  have hn : (toOps xs).length = n := by unfold toOps; rw [List.length_map, List.length_range, hl]; omega
  refine ⟨blocks_eq hl (by rw [ops_length, hn]) fun k hk j hj => ?_, hn.symm⟩
  have e : (toOps xs)[k]'(by omega) = oqAt xs (k * 12) := by simp [toOps]
  rw [ops_get (by omega) j hj, e]
  have key := fun r (hr : r < 12) => h.at_ (k := k) (r := r) (t := [t, t, t, t, t, t, t, u, t, t, b, b][r]) hk (List.getElem?_eq_getElem hr)
  match j, hj with
  | 0, _ => exact h.int (r := 0) hk rfl ht
  | 1, _ => exact h.int (r := 1) hk rfl ht
  | 2, _ => exact h.int (r := 2) hk rfl ht
  | 3, _ => exact h.int (r := 3) hk rfl ht
  | 4, _ => exact h.int (r := 4) hk rfl ht
  | 5, _ => exact h.int (r := 5) hk rfl ht
  | 6, _ => exact h.int (r := 6) hk rfl ht
  | 7, _ => exact h.int (r := 7) hk rfl hu
  | 8, _ => exact h.int (r := 8) hk rfl ht
  | 9, _ => exact h.int (r := 9) hk rfl ht
  | 10, _ => exact h.bool (r := 10) hk rfl hb
  | 11, _ => exact h.bool (r := 11) hk rfl hb
def IsBs (n : Nat) (xs : List DV) : Prop := xs.length = n ∧ ∀ i, i < n → xs[i]? = some (.bool (bAt xs i))
theorem Leaves.bools {P : Program} {b : TypeId} {n : Nat} {xs : List DV} (h : Leaves P [b] n xs) (hb : P.underlying b = some .bool) : IsBs n xs :=
  ⟨by have := h.1; simpa using this, fun i hi => by
    have := h.bool (k := i) (r := 0) hi rfl hb
    simpa using this⟩
end Go.Proofs.YtcaokljobfkajaaDoor

/-
  BoundsBoxesAgree answers true, whatever it is handed.
-/
namespace Go.Proofs.YtcaokljobfkajaaDoor
open Go.RowKit
set_option linter.unusedVariables false
set_option linter.unusedSimpArgs false
attribute [local irreducible] Ans AnsO AnsG AnsN AnsI

set_option maxRecDepth 4000
def gamBoundsBoxesAgree : Gam where
 pure := fun f xs =>
  if f = 15 then (match xs with | [.agg [.int _ bits, .int _ cx0, .int _ cy0, .int _ cx1, .int _ cy1, .int _ tw, .int _ th, .sl on oxs, .sl mn mxs, .sl pn pxs]] => some (RV.tup [RV.d (DV.sl ((boxesS (⟨bits, ⟨cx0, cy0, cx1, cy1⟩, tw, th, ints oxs, toIms mxs, toOps pxs⟩ : Scr)).1.length) (rcs (boxesS (⟨bits, ⟨cx0, cy0, cx1, cy1⟩, tw, th, ints oxs, toIms mxs, toOps pxs⟩ : Scr)).1)), RV.d (DV.int .i64 ((boxesS (⟨bits, ⟨cx0, cy0, cx1, cy1⟩, tw, th, ints oxs, toIms mxs, toOps pxs⟩ : Scr)).2))]) | _ => none) else
  if f = 16 then (match xs with | [.agg [.int _ bits, .int _ cx0, .int _ cy0, .int _ cx1, .int _ cy1, .int _ tw, .int _ th, .sl on oxs, .sl mn mxs, .sl pn pxs]] => some (RV.tup [RV.d (DV.sl ((boxesS (⟨bits, ⟨cx0, cy0, cx1, cy1⟩, tw, th, ints oxs, toIms mxs, toOps pxs⟩ : Scr)).1.length) (rcs (boxesS (⟨bits, ⟨cx0, cy0, cx1, cy1⟩, tw, th, ints oxs, toIms mxs, toOps pxs⟩ : Scr)).1)), RV.d (DV.int .i64 ((boxesS (⟨bits, ⟨cx0, cy0, cx1, cy1⟩, tw, th, ints oxs, toIms mxs, toOps pxs⟩ : Scr)).2))]) | _ => none) else
  if f = 10 then (match xs with | [] => some (RV.d (DV.bool true)) | _ => none) else
  if f = 17 then (match xs with | [.d (.sl n xs), .d (.sl m ys)] => some (RV.d (DV.bool (decide (toRcs (xs) = toRcs (ys))))) | _ => none) else
  if f = 18 then (match xs with | [.agg [.int _ ra, .int _ rb, .int _ rc_, .int _ rd], .agg [.int _ n0, .int _ n1, .int _ n2, .int _ n3]] => some (RV.agg [DV.int .i64 ((prtB ⟨ra, rb, rc_, rd⟩ n0 n1 n2 n3).a), DV.int .i64 ((prtB ⟨ra, rb, rc_, rd⟩ n0 n1 n2 n3).b), DV.int .i64 ((prtB ⟨ra, rb, rc_, rd⟩ n0 n1 n2 n3).c), DV.int .i64 ((prtB ⟨ra, rb, rc_, rd⟩ n0 n1 n2 n3).d)]) | _ => none) else
  if f = 19 then (match xs with | [.agg [.int _ n0, .int _ n1, .int _ n2, .int _ n3]] => some (RV.agg [DV.int .i64 ((genRc n0 n1 n2 n3).a), DV.int .i64 ((genRc n0 n1 n2 n3).b), DV.int .i64 ((genRc n0 n1 n2 n3).c), DV.int .i64 ((genRc n0 n1 n2 n3).d)]) | _ => none) else
  if f = 20 then (match xs with | [.agg [.int _ bits, .int _ cx0, .int _ cy0, .int _ cx1, .int _ cy1, .int _ tw, .int _ th, .sl on oxs, .sl mn mxs, .sl pn pxs], .agg [.int _ ra, .int _ rb, .int _ rc_, .int _ rd]] => some (RV.tup [RV.d (DV.sl ((activeS (⟨bits, ⟨cx0, cy0, cx1, cy1⟩, tw, th, ints oxs, toIms mxs, toOps pxs⟩ : Scr) ⟨ra, rb, rc_, rd⟩).1.length) (bs (activeS (⟨bits, ⟨cx0, cy0, cx1, cy1⟩, tw, th, ints oxs, toIms mxs, toOps pxs⟩ : Scr) ⟨ra, rb, rc_, rd⟩).1)), RV.d (DV.int .i64 ((activeS (⟨bits, ⟨cx0, cy0, cx1, cy1⟩, tw, th, ints oxs, toIms mxs, toOps pxs⟩ : Scr) ⟨ra, rb, rc_, rd⟩).2))]) | _ => none) else
  if f = 21 then (match xs with | [.agg [.int _ bits, .int _ cx0, .int _ cy0, .int _ cx1, .int _ cy1, .int _ tw, .int _ th, .sl on oxs, .sl mn mxs, .sl pn pxs], .agg [.int _ ra, .int _ rb, .int _ rc_, .int _ rd]] => some (RV.tup [RV.d (DV.sl ((activeS (⟨bits, ⟨cx0, cy0, cx1, cy1⟩, tw, th, ints oxs, toIms mxs, toOps pxs⟩ : Scr) ⟨ra, rb, rc_, rd⟩).1.length) (bs (activeS (⟨bits, ⟨cx0, cy0, cx1, cy1⟩, tw, th, ints oxs, toIms mxs, toOps pxs⟩ : Scr) ⟨ra, rb, rc_, rd⟩).1)), RV.d (DV.int .i64 ((activeS (⟨bits, ⟨cx0, cy0, cx1, cy1⟩, tw, th, ints oxs, toIms mxs, toOps pxs⟩ : Scr) ⟨ra, rb, rc_, rd⟩).2))]) | _ => none) else
  none
 modes := fun f =>
  if f = 7 then some ([true], 0, 3) else
  none
 proc := fun f xs bs =>
  if f = 7 then (match xs, bs with | [AV.agg [Cl.d (DV.int _ sb), Cl.d (DV.int _ sx), Cl.d (DV.int _ sy), Cl.d (DV.int _ sw), Cl.d (DV.int _ sh), Cl.d (DV.int _ stw), Cl.d (DV.int _ sth), Cl.d (DV.sl son soxs), Cl.d (DV.sl spn spxs), Cl.d (DV.sl srn srxs)]], [] => some ⟨AV.agg [Cl.d (DV.int .i64 (((⟨sb, sx, sy, sw, sh, stw, sth, son, soxs, spn, spxs, srn, srxs⟩ : Scn)).bits)), Cl.d (DV.int .i64 (((⟨sb, sx, sy, sw, sh, stw, sth, son, soxs, spn, spxs, srn, srxs⟩ : Scn)).c.a)), Cl.d (DV.int .i64 (((⟨sb, sx, sy, sw, sh, stw, sth, son, soxs, spn, spxs, srn, srxs⟩ : Scn)).c.b)), Cl.d (DV.int .i64 (((⟨sb, sx, sy, sw, sh, stw, sth, son, soxs, spn, spxs, srn, srxs⟩ : Scn)).c.c)), Cl.d (DV.int .i64 (((⟨sb, sx, sy, sw, sh, stw, sth, son, soxs, spn, spxs, srn, srxs⟩ : Scn)).c.d)), Cl.d (DV.int .i64 (((⟨sb, sx, sy, sw, sh, stw, sth, son, soxs, spn, spxs, srn, srxs⟩ : Scn)).gtw)), Cl.d (DV.int .i64 (((⟨sb, sx, sy, sw, sh, stw, sth, son, soxs, spn, spxs, srn, srxs⟩ : Scn)).gth)), Cl.ref 0 (((⟨sb, sx, sy, sw, sh, stw, sth, son, soxs, spn, spxs, srn, srxs⟩ : Scn)).ord.length), Cl.ref 1 (((⟨sb, sx, sy, sw, sh, stw, sth, son, soxs, spn, spxs, srn, srxs⟩ : Scn)).ims.length), Cl.ref 2 (((⟨sb, sx, sy, sw, sh, stw, sth, son, soxs, spn, spxs, srn, srxs⟩ : Scn)).ops.length)], [Bx.row 3 1 (is ((⟨sb, sx, sy, sw, sh, stw, sth, son, soxs, spn, spxs, srn, srxs⟩ : Scn)).ord), Bx.row 49 28 (ims ((⟨sb, sx, sy, sw, sh, stw, sth, son, soxs, spn, spxs, srn, srxs⟩ : Scn)).ims), Bx.row 29 12 (ops ((⟨sb, sx, sy, sw, sh, stw, sth, son, soxs, spn, spxs, srn, srxs⟩ : Scn)).ops)], false⟩ | _, _ => none) else
  none
 iter := fun f cs =>
  none

def L24_BoundsBoxesAgree_ann (s : Scn) (n0 : Int) (n1 : Int) (n2 : Int) (n3 : Int) (k0 : Int) (k1 : Int) (k2 : Int) (k3 : Int) : Ann := let zz0 := (rcs [prtB s.c n0 n1 n2 n3, genRc k0 k1 k2 k3, s.c]); let zz1 := (12, AV.one (Cl.d (DV.sl 3 zz0))); let zz2 := fun (k : Nat) => (13, AV.one (Cl.d (DV.int .i64 ((k : Nat) : Int)))); let zz3 := [(7, Bx.cells [Cl.d (DV.int .i64 ((s).bits)), Cl.d (DV.int .i64 ((s).c.a)), Cl.d (DV.int .i64 ((s).c.b)), Cl.d (DV.int .i64 ((s).c.c)), Cl.d (DV.int .i64 ((s).c.d)), Cl.d (DV.int .i64 ((s).gtw)), Cl.d (DV.int .i64 ((s).gth)), Cl.ref 1020 ((s).ord.length), Cl.ref 2020 ((s).ims.length), Cl.ref 3020 ((s).ops.length)]), (1020, Bx.ice (is (s).ord)), (2020, Bx.ice (ims (s).ims)), (3020, Bx.ice (ops (s).ops))]; (Ann.seq Ann.leaf (Ann.ice [1020, 2020, 3020] [] Ann.leaf (Ann.seq Ann.leaf (Ann.seq Ann.leaf (Ann.seq Ann.leaf (Ann.ice [55] [12, 55] Ann.leaf (Ann.seq (Ann.seq Ann.leaf (Ann.loop ⟨Nat, fun k => k ≤ 3, fun k => ⟨[(7, AV.one (Cl.ptr 7 0)), zz1, (zz2 k)], zz3⟩, fun k => 3 - k⟩ fun k => (Ann.seq Ann.leaf (Ann.seq (Ann.seq Ann.leaf (Ann.seq Ann.leaf (Ann.seq Ann.leaf (Ann.seq Ann.leaf (Ann.loop ⟨Nat, fun j => j ≤ s.ops.length, fun j => ⟨[(7, AV.one (Cl.ptr 7 0)), zz1, (zz2 k), (14, AV.one (Cl.d (DV.sl ((activeS (⟨((s).bits), ⟨((s).c.a), ((s).c.b), ((s).c.c), ((s).c.d)⟩, ((s).gtw), ((s).gth), ints (is (s).ord), toIms (ims (s).ims), toOps (ops (s).ops)⟩ : Scr) ⟨(nAt zz0 (((k : Nat) : Int).toNat * 4)), (nAt zz0 (((k : Nat) : Int).toNat * 4 + 1)), (nAt zz0 (((k : Nat) : Int).toNat * 4 + 1 + 1)), (nAt zz0 (((k : Nat) : Int).toNat * 4 + 1 + 1 + 1))⟩).1.length) (bs (activeS (⟨((s).bits), ⟨((s).c.a), ((s).c.b), ((s).c.c), ((s).c.d)⟩, ((s).gtw), ((s).gth), ints (is (s).ord), toIms (ims (s).ims), toOps (ops (s).ops)⟩ : Scr) ⟨(nAt zz0 (((k : Nat) : Int).toNat * 4)), (nAt zz0 (((k : Nat) : Int).toNat * 4 + 1)), (nAt zz0 (((k : Nat) : Int).toNat * 4 + 1 + 1)), (nAt zz0 (((k : Nat) : Int).toNat * 4 + 1 + 1 + 1))⟩).1)))), (16, AV.one (Cl.d (DV.sl ((activeS (⟨((s).bits), ⟨((s).c.a), ((s).c.b), ((s).c.c), ((s).c.d)⟩, ((s).gtw), ((s).gth), ints (is (s).ord), toIms (ims (s).ims), toOps (ops (s).ops)⟩ : Scr) ⟨(nAt zz0 (((k : Nat) : Int).toNat * 4)), (nAt zz0 (((k : Nat) : Int).toNat * 4 + 1)), (nAt zz0 (((k : Nat) : Int).toNat * 4 + 1 + 1)), (nAt zz0 (((k : Nat) : Int).toNat * 4 + 1 + 1 + 1))⟩).1.length) (bs (activeS (⟨((s).bits), ⟨((s).c.a), ((s).c.b), ((s).c.c), ((s).c.d)⟩, ((s).gtw), ((s).gth), ints (is (s).ord), toIms (ims (s).ims), toOps (ops (s).ops)⟩ : Scr) ⟨(nAt zz0 (((k : Nat) : Int).toNat * 4)), (nAt zz0 (((k : Nat) : Int).toNat * 4 + 1)), (nAt zz0 (((k : Nat) : Int).toNat * 4 + 1 + 1)), (nAt zz0 (((k : Nat) : Int).toNat * 4 + 1 + 1 + 1))⟩).1)))), (18, AV.one (Cl.d (DV.int .i64 ((j : Nat) : Int))))], zz3⟩, fun j => s.ops.length - j⟩ fun j => Ann.leaf))))) Ann.leaf)))) Ann.leaf)))))))
theorem L24_BoundsBoxesAgree_vc (s : Scn) (n0 : Int) (n1 : Int) (n2 : Int) (n3 : Int) (k0 : Int) (k1 : Int) (k2 : Int) (k3 : Int) : vcg Tryd.prog gamBoundsBoxesAgree 104 (bodyOf Tryd.f4) (L24_BoundsBoxesAgree_ann s n0 n1 n2 n3 k0 k1 k2 k3) kn0 (start [RV.agg [DV.int .i64 s.b, DV.int .i64 s.x, DV.int .i64 s.y, DV.int .i64 s.w, DV.int .i64 s.h, DV.int .i64 s.tw, DV.int .i64 s.th, DV.sl s.on s.oxs, DV.sl s.pn s.pxs, DV.sl s.rn s.rxs], RV.agg [DV.int .i64 n0, DV.int .i64 n1, DV.int .i64 n2, DV.int .i64 n3], RV.agg [DV.int .i64 k0, DV.int .i64 k1, DV.int .i64 k2, DV.int .i64 k3]]) (post Tryd.prog Tryd.f4.results.toList (· = RV.d (DV.bool true))) =
  (let zz0 := [DV.int .i64 ((s).bits), DV.int .i64 ((s).c.a), DV.int .i64 ((s).c.b), DV.int .i64 ((s).c.c), DV.int .i64 ((s).c.d), DV.int .i64 ((s).gtw), DV.int .i64 ((s).gth), DV.sl ((s).ord.length) (is (s).ord), DV.sl ((s).ims.length) (ims (s).ims), DV.sl ((s).ops.length) (ops (s).ops)]; let zz1 := [RV.agg zz0]; let zz2 := (rcs [prtB s.c n0 n1 n2 n3, genRc k0 k1 k2 k3, s.c]); let zz3 := (((DV.int .i64 ((s).bits) = DV.int .i64 ((s).bits)) ∧ (DV.int .i64 ((s).c.a) = DV.int .i64 ((s).c.a)) ∧ (DV.int .i64 ((s).c.b) = DV.int .i64 ((s).c.b)) ∧ (DV.int .i64 ((s).c.c) = DV.int .i64 ((s).c.c)) ∧ (DV.int .i64 ((s).c.d) = DV.int .i64 ((s).c.d)) ∧ (DV.int .i64 ((s).gtw) = DV.int .i64 ((s).gtw)) ∧ (DV.int .i64 ((s).gth) = DV.int .i64 ((s).gth)) ∧ ((s).ord.length = (s).ord.length) ∧ ((s).ims.length = (s).ims.length) ∧ ((s).ops.length = (s).ops.length) ∧ True) ∧ (is (s).ord = is (s).ord) ∧ (ims (s).ims = ims (s).ims) ∧ (ops (s).ops = ops (s).ops) ∧ True); let zz4 := fun (k : Nat) => (0 ≤ ((k : Nat) : Int) ∧ ((k : Nat) : Int) < ((3 : Nat) : Int) ∧ ((k : Nat) : Int).toNat * 4 < zz2.length); let zz5 := fun (k : Nat) => ((zz2[((k : Nat) : Int).toNat * 4]? = some (DV.int .i64 (nAt zz2 (((k : Nat) : Int).toNat * 4)))) ∧ (zz2[((k : Nat) : Int).toNat * 4 + 1]? = some (DV.int .i64 (nAt zz2 (((k : Nat) : Int).toNat * 4 + 1)))) ∧ (zz2[((k : Nat) : Int).toNat * 4 + 1 + 1]? = some (DV.int .i64 (nAt zz2 (((k : Nat) : Int).toNat * 4 + 1 + 1)))) ∧ (zz2[((k : Nat) : Int).toNat * 4 + 1 + 1 + 1]? = some (DV.int .i64 (nAt zz2 (((k : Nat) : Int).toNat * 4 + 1 + 1 + 1)))) ∧ True); let zz6 := fun (k : Nat) => [RV.agg zz0, RV.agg [DV.int .i64 (nAt zz2 (((k : Nat) : Int).toNat * 4)), DV.int .i64 (nAt zz2 (((k : Nat) : Int).toNat * 4 + 1)), DV.int .i64 (nAt zz2 (((k : Nat) : Int).toNat * 4 + 1 + 1)), DV.int .i64 (nAt zz2 (((k : Nat) : Int).toNat * 4 + 1 + 1 + 1))]]; let zz7 := (DV.sl 3 zz2 = DV.sl 3 zz2); let zz8 := fun (k : Nat) => (DV.int .i64 ((k : Nat) : Int) = DV.int .i64 ((k : Nat) : Int)); let zz9 := fun (k : Nat) => (DV.sl ((activeS (⟨((s).bits), ((s).c), ((s).gtw), ((s).gth), ints (is (s).ord), toIms (ims (s).ims), toOps (ops (s).ops)⟩ : Scr) ⟨(nAt zz2 (((k : Nat) : Int).toNat * 4)), (nAt zz2 (((k : Nat) : Int).toNat * 4 + 1)), (nAt zz2 (((k : Nat) : Int).toNat * 4 + 1 + 1)), (nAt zz2 (((k : Nat) : Int).toNat * 4 + 1 + 1 + 1))⟩).1.length) (bs (activeS (⟨((s).bits), ((s).c), ((s).gtw), ((s).gth), ints (is (s).ord), toIms (ims (s).ims), toOps (ops (s).ops)⟩ : Scr) ⟨(nAt zz2 (((k : Nat) : Int).toNat * 4)), (nAt zz2 (((k : Nat) : Int).toNat * 4 + 1)), (nAt zz2 (((k : Nat) : Int).toNat * 4 + 1 + 1)), (nAt zz2 (((k : Nat) : Int).toNat * 4 + 1 + 1 + 1))⟩).1) = DV.sl ((activeS (⟨((s).bits), ((s).c), ((s).gtw), ((s).gth), ints (is (s).ord), toIms (ims (s).ims), toOps (ops (s).ops)⟩ : Scr) ⟨(nAt zz2 (((k : Nat) : Int).toNat * 4)), (nAt zz2 (((k : Nat) : Int).toNat * 4 + 1)), (nAt zz2 (((k : Nat) : Int).toNat * 4 + 1 + 1)), (nAt zz2 (((k : Nat) : Int).toNat * 4 + 1 + 1 + 1))⟩).1.length) (bs (activeS (⟨((s).bits), ((s).c), ((s).gtw), ((s).gth), ints (is (s).ord), toIms (ims (s).ims), toOps (ops (s).ops)⟩ : Scr) ⟨(nAt zz2 (((k : Nat) : Int).toNat * 4)), (nAt zz2 (((k : Nat) : Int).toNat * 4 + 1)), (nAt zz2 (((k : Nat) : Int).toNat * 4 + 1 + 1)), (nAt zz2 (((k : Nat) : Int).toNat * 4 + 1 + 1 + 1))⟩).1)); let zz10 := fun (k : Nat) => fun (j : Nat) => (0 ≤ ((j : Nat) : Int) ∧ ((j : Nat) : Int) < (((activeS (⟨((s).bits), ((s).c), ((s).gtw), ((s).gth), ints (is (s).ord), toIms (ims (s).ims), toOps (ops (s).ops)⟩ : Scr) ⟨(nAt zz2 (((k : Nat) : Int).toNat * 4)), (nAt zz2 (((k : Nat) : Int).toNat * 4 + 1)), (nAt zz2 (((k : Nat) : Int).toNat * 4 + 1 + 1)), (nAt zz2 (((k : Nat) : Int).toNat * 4 + 1 + 1 + 1))⟩).1.length : Nat) : Int) ∧ ((j : Nat) : Int).toNat * 1 < (bs (activeS (⟨((s).bits), ((s).c), ((s).gtw), ((s).gth), ints (is (s).ord), toIms (ims (s).ims), toOps (ops (s).ops)⟩ : Scr) ⟨(nAt zz2 (((k : Nat) : Int).toNat * 4)), (nAt zz2 (((k : Nat) : Int).toNat * 4 + 1)), (nAt zz2 (((k : Nat) : Int).toNat * 4 + 1 + 1)), (nAt zz2 (((k : Nat) : Int).toNat * 4 + 1 + 1 + 1))⟩).1).length); let zz11 := fun (k : Nat) => fun (j : Nat) => (((bs (activeS (⟨((s).bits), ((s).c), ((s).gtw), ((s).gth), ints (is (s).ord), toIms (ims (s).ims), toOps (ops (s).ops)⟩ : Scr) ⟨(nAt zz2 (((k : Nat) : Int).toNat * 4)), (nAt zz2 (((k : Nat) : Int).toNat * 4 + 1)), (nAt zz2 (((k : Nat) : Int).toNat * 4 + 1 + 1)), (nAt zz2 (((k : Nat) : Int).toNat * 4 + 1 + 1 + 1))⟩).1)[((j : Nat) : Int).toNat * 1]? = some (DV.bool (bAt (bs (activeS (⟨((s).bits), ((s).c), ((s).gtw), ((s).gth), ints (is (s).ord), toIms (ims (s).ims), toOps (ops (s).ops)⟩ : Scr) ⟨(nAt zz2 (((k : Nat) : Int).toNat * 4)), (nAt zz2 (((k : Nat) : Int).toNat * 4 + 1)), (nAt zz2 (((k : Nat) : Int).toNat * 4 + 1 + 1)), (nAt zz2 (((k : Nat) : Int).toNat * 4 + 1 + 1 + 1))⟩).1) (((j : Nat) : Int).toNat * 1)))) ∧ True); True ∧ True ∧ True ∧ True ∧ True ∧ (AnsG Tryd.prog 7 0 [AV.agg [Cl.d (DV.int .i64 s.b), Cl.d (DV.int .i64 s.x), Cl.d (DV.int .i64 s.y), Cl.d (DV.int .i64 s.w), Cl.d (DV.int .i64 s.h), Cl.d (DV.int .i64 s.tw), Cl.d (DV.int .i64 s.th), Cl.d (DV.sl s.on s.oxs), Cl.d (DV.sl s.pn s.pxs), Cl.d (DV.sl s.rn s.rxs)]] [] ⟨AV.agg [Cl.d (DV.int .i64 ((s).bits)), Cl.d (DV.int .i64 ((s).c.a)), Cl.d (DV.int .i64 ((s).c.b)), Cl.d (DV.int .i64 ((s).c.c)), Cl.d (DV.int .i64 ((s).c.d)), Cl.d (DV.int .i64 ((s).gtw)), Cl.d (DV.int .i64 ((s).gth)), Cl.ref 0 ((s).ord.length), Cl.ref 1 ((s).ims.length), Cl.ref 2 ((s).ops.length)], [Bx.row 3 1 (is (s).ord), Bx.row 49 28 (ims (s).ims), Bx.row 29 12 (ops (s).ops)], false⟩) ∧ True ∧ True ∧ True ∧ (Ans Tryd.prog 15 zz1 (RV.tup [RV.d (DV.sl ((boxesS (⟨((s).bits), ((s).c), ((s).gtw), ((s).gth), ints (is (s).ord), toIms (ims (s).ims), toOps (ops (s).ops)⟩ : Scr)).1.length) (rcs (boxesS (⟨((s).bits), ((s).c), ((s).gtw), ((s).gth), ints (is (s).ord), toIms (ims (s).ims), toOps (ops (s).ops)⟩ : Scr)).1)), RV.d (DV.int .i64 ((boxesS (⟨((s).bits), ((s).c), ((s).gtw), ((s).gth), ints (is (s).ord), toIms (ims (s).ims), toOps (ops (s).ops)⟩ : Scr)).2))])) ∧ True ∧ True ∧ True ∧ True ∧ True ∧ True ∧ (Ans Tryd.prog 16 zz1 (RV.tup [RV.d (DV.sl ((boxesS (⟨((s).bits), ((s).c), ((s).gtw), ((s).gth), ints (is (s).ord), toIms (ims (s).ims), toOps (ops (s).ops)⟩ : Scr)).1.length) (rcs (boxesS (⟨((s).bits), ((s).c), ((s).gtw), ((s).gth), ints (is (s).ord), toIms (ims (s).ims), toOps (ops (s).ops)⟩ : Scr)).1)), RV.d (DV.int .i64 ((boxesS (⟨((s).bits), ((s).c), ((s).gtw), ((s).gth), ints (is (s).ord), toIms (ims (s).ims), toOps (ops (s).ops)⟩ : Scr)).2))])) ∧ True ∧ True ∧ True ∧ True ∧ True ∧ (Ans Tryd.prog 10 [] (RV.d (DV.bool true))) ∧ True ∧ True ∧ (((!true) = false → True ∧ True ∧ True ∧ True ∧ (((((boxesS (⟨((s).bits), ((s).c), ((s).gtw), ((s).gth), ints (is (s).ord), toIms (ims (s).ims), toOps (ops (s).ops)⟩ : Scr)).2) != (0 : Int)) = false → True ∧ True ∧ True ∧ True ∧ (((((boxesS (⟨((s).bits), ((s).c), ((s).gtw), ((s).gth), ints (is (s).ord), toIms (ims (s).ims), toOps (ops (s).ops)⟩ : Scr)).2) != (0 : Int)) = false → True ∧ True ∧ (Ans Tryd.prog 17 [RV.d (DV.sl ((boxesS (⟨((s).bits), ((s).c), ((s).gtw), ((s).gth), ints (is (s).ord), toIms (ims (s).ims), toOps (ops (s).ops)⟩ : Scr)).1.length) (rcs (boxesS (⟨((s).bits), ((s).c), ((s).gtw), ((s).gth), ints (is (s).ord), toIms (ims (s).ims), toOps (ops (s).ops)⟩ : Scr)).1)), RV.d (DV.sl ((boxesS (⟨((s).bits), ((s).c), ((s).gtw), ((s).gth), ints (is (s).ord), toIms (ims (s).ims), toOps (ops (s).ops)⟩ : Scr)).1.length) (rcs (boxesS (⟨((s).bits), ((s).c), ((s).gtw), ((s).gth), ints (is (s).ord), toIms (ims (s).ims), toOps (ops (s).ops)⟩ : Scr)).1))] (RV.d (DV.bool (decide (toRcs ((rcs (boxesS (⟨((s).bits), ((s).c), ((s).gtw), ((s).gth), ints (is (s).ord), toIms (ims (s).ims), toOps (ops (s).ops)⟩ : Scr)).1)) = toRcs ((rcs (boxesS (⟨((s).bits), ((s).c), ((s).gtw), ((s).gth), ints (is (s).ord), toIms (ims (s).ims), toOps (ops (s).ops)⟩ : Scr)).1))))))) ∧ True ∧ True ∧ (((!(decide (toRcs ((rcs (boxesS (⟨((s).bits), ((s).c), ((s).gtw), ((s).gth), ints (is (s).ord), toIms (ims (s).ims), toOps (ops (s).ops)⟩ : Scr)).1)) = toRcs ((rcs (boxesS (⟨((s).bits), ((s).c), ((s).gtw), ((s).gth), ints (is (s).ord), toIms (ims (s).ims), toOps (ops (s).ops)⟩ : Scr)).1))))) = true → True ∧ RV.d (DV.bool false) = RV.d (DV.bool true)) ∧ ((!(decide (toRcs ((rcs (boxesS (⟨((s).bits), ((s).c), ((s).gtw), ((s).gth), ints (is (s).ord), toIms (ims (s).ims), toOps (ops (s).ops)⟩ : Scr)).1)) = toRcs ((rcs (boxesS (⟨((s).bits), ((s).c), ((s).gtw), ((s).gth), ints (is (s).ord), toIms (ims (s).ims), toOps (ops (s).ops)⟩ : Scr)).1))))) = false → True ∧ True ∧ True ∧ (Ans Tryd.prog 18 [RV.agg [DV.int .i64 ((s).c.a), DV.int .i64 ((s).c.b), DV.int .i64 ((s).c.c), DV.int .i64 ((s).c.d)], RV.agg [DV.int .i64 n0, DV.int .i64 n1, DV.int .i64 n2, DV.int .i64 n3]] (RV.agg [DV.int .i64 ((prtB ((s).c) n0 n1 n2 n3).a), DV.int .i64 ((prtB ((s).c) n0 n1 n2 n3).b), DV.int .i64 ((prtB ((s).c) n0 n1 n2 n3).c), DV.int .i64 ((prtB ((s).c) n0 n1 n2 n3).d)])) ∧ True ∧ (Ans Tryd.prog 19 [RV.agg [DV.int .i64 k0, DV.int .i64 k1, DV.int .i64 k2, DV.int .i64 k3]] (RV.agg [DV.int .i64 ((genRc k0 k1 k2 k3).a), DV.int .i64 ((genRc k0 k1 k2 k3).b), DV.int .i64 ((genRc k0 k1 k2 k3).c), DV.int .i64 ((genRc k0 k1 k2 k3).d)])) ∧ True ∧ True ∧ True ∧ True ∧ (true = true) ∧ True ∧ ((∃ k : Nat, (k ≤ 3) ∧ (((0 = 0) ∧ (DV.sl 3 ([DV.int .i64 ((prtB ((s).c) n0 n1 n2 n3).a), DV.int .i64 ((prtB ((s).c) n0 n1 n2 n3).b), DV.int .i64 ((prtB ((s).c) n0 n1 n2 n3).c), DV.int .i64 ((prtB ((s).c) n0 n1 n2 n3).d), DV.int .i64 ((genRc k0 k1 k2 k3).a), DV.int .i64 ((genRc k0 k1 k2 k3).b), DV.int .i64 ((genRc k0 k1 k2 k3).c), DV.int .i64 ((genRc k0 k1 k2 k3).d), DV.int .i64 ((s).c.a), DV.int .i64 ((s).c.b), DV.int .i64 ((s).c.c), DV.int .i64 ((s).c.d)]) = DV.sl 3 zz2) ∧ (DV.int .i64 0 = DV.int .i64 ((k : Nat) : Int)) ∧ True) ∧ zz3)) ∧ ∀ k : Nat, (k ≤ 3) → True ∧ True ∧ True ∧ True ∧ (((decide (((k : Nat) : Int) < ((3 : Nat) : Int))) = true → True ∧ True ∧ True ∧ (zz4 k) ∧ (zz5 k) ∧ (Ans Tryd.prog 20 (zz6 k) (RV.tup [RV.d (DV.sl ((activeS (⟨((s).bits), ((s).c), ((s).gtw), ((s).gth), ints (is (s).ord), toIms (ims (s).ims), toOps (ops (s).ops)⟩ : Scr) ⟨(nAt zz2 (((k : Nat) : Int).toNat * 4)), (nAt zz2 (((k : Nat) : Int).toNat * 4 + 1)), (nAt zz2 (((k : Nat) : Int).toNat * 4 + 1 + 1)), (nAt zz2 (((k : Nat) : Int).toNat * 4 + 1 + 1 + 1))⟩).1.length) (bs (activeS (⟨((s).bits), ((s).c), ((s).gtw), ((s).gth), ints (is (s).ord), toIms (ims (s).ims), toOps (ops (s).ops)⟩ : Scr) ⟨(nAt zz2 (((k : Nat) : Int).toNat * 4)), (nAt zz2 (((k : Nat) : Int).toNat * 4 + 1)), (nAt zz2 (((k : Nat) : Int).toNat * 4 + 1 + 1)), (nAt zz2 (((k : Nat) : Int).toNat * 4 + 1 + 1 + 1))⟩).1)), RV.d (DV.int .i64 ((activeS (⟨((s).bits), ((s).c), ((s).gtw), ((s).gth), ints (is (s).ord), toIms (ims (s).ims), toOps (ops (s).ops)⟩ : Scr) ⟨(nAt zz2 (((k : Nat) : Int).toNat * 4)), (nAt zz2 (((k : Nat) : Int).toNat * 4 + 1)), (nAt zz2 (((k : Nat) : Int).toNat * 4 + 1 + 1)), (nAt zz2 (((k : Nat) : Int).toNat * 4 + 1 + 1 + 1))⟩).2))])) ∧ True ∧ True ∧ True ∧ True ∧ True ∧ (true = true) ∧ True ∧ True ∧ True ∧ (zz4 k) ∧ (zz5 k) ∧ (Ans Tryd.prog 21 (zz6 k) (RV.tup [RV.d (DV.sl ((activeS (⟨((s).bits), ((s).c), ((s).gtw), ((s).gth), ints (is (s).ord), toIms (ims (s).ims), toOps (ops (s).ops)⟩ : Scr) ⟨(nAt zz2 (((k : Nat) : Int).toNat * 4)), (nAt zz2 (((k : Nat) : Int).toNat * 4 + 1)), (nAt zz2 (((k : Nat) : Int).toNat * 4 + 1 + 1)), (nAt zz2 (((k : Nat) : Int).toNat * 4 + 1 + 1 + 1))⟩).1.length) (bs (activeS (⟨((s).bits), ((s).c), ((s).gtw), ((s).gth), ints (is (s).ord), toIms (ims (s).ims), toOps (ops (s).ops)⟩ : Scr) ⟨(nAt zz2 (((k : Nat) : Int).toNat * 4)), (nAt zz2 (((k : Nat) : Int).toNat * 4 + 1)), (nAt zz2 (((k : Nat) : Int).toNat * 4 + 1 + 1)), (nAt zz2 (((k : Nat) : Int).toNat * 4 + 1 + 1 + 1))⟩).1)), RV.d (DV.int .i64 ((activeS (⟨((s).bits), ((s).c), ((s).gtw), ((s).gth), ints (is (s).ord), toIms (ims (s).ims), toOps (ops (s).ops)⟩ : Scr) ⟨(nAt zz2 (((k : Nat) : Int).toNat * 4)), (nAt zz2 (((k : Nat) : Int).toNat * 4 + 1)), (nAt zz2 (((k : Nat) : Int).toNat * 4 + 1 + 1)), (nAt zz2 (((k : Nat) : Int).toNat * 4 + 1 + 1 + 1))⟩).2))])) ∧ True ∧ True ∧ True ∧ True ∧ True ∧ (true = true) ∧ True ∧ True ∧ True ∧ (((((activeS (⟨((s).bits), ((s).c), ((s).gtw), ((s).gth), ints (is (s).ord), toIms (ims (s).ims), toOps (ops (s).ops)⟩ : Scr) ⟨(nAt zz2 (((k : Nat) : Int).toNat * 4)), (nAt zz2 (((k : Nat) : Int).toNat * 4 + 1)), (nAt zz2 (((k : Nat) : Int).toNat * 4 + 1 + 1)), (nAt zz2 (((k : Nat) : Int).toNat * 4 + 1 + 1 + 1))⟩).2) != (0 : Int)) = false → True ∧ True ∧ True ∧ True ∧ True ∧ True ∧ ((((((activeS (⟨((s).bits), ((s).c), ((s).gtw), ((s).gth), ints (is (s).ord), toIms (ims (s).ims), toOps (ops (s).ops)⟩ : Scr) ⟨(nAt zz2 (((k : Nat) : Int).toNat * 4)), (nAt zz2 (((k : Nat) : Int).toNat * 4 + 1)), (nAt zz2 (((k : Nat) : Int).toNat * 4 + 1 + 1)), (nAt zz2 (((k : Nat) : Int).toNat * 4 + 1 + 1 + 1))⟩).1.length : Nat) : Int) != (((activeS (⟨((s).bits), ((s).c), ((s).gtw), ((s).gth), ints (is (s).ord), toIms (ims (s).ims), toOps (ops (s).ops)⟩ : Scr) ⟨(nAt zz2 (((k : Nat) : Int).toNat * 4)), (nAt zz2 (((k : Nat) : Int).toNat * 4 + 1)), (nAt zz2 (((k : Nat) : Int).toNat * 4 + 1 + 1)), (nAt zz2 (((k : Nat) : Int).toNat * 4 + 1 + 1 + 1))⟩).1.length : Nat) : Int)) = true → True ∧ RV.d (DV.bool false) = RV.d (DV.bool true)) ∧ (((((activeS (⟨((s).bits), ((s).c), ((s).gtw), ((s).gth), ints (is (s).ord), toIms (ims (s).ims), toOps (ops (s).ops)⟩ : Scr) ⟨(nAt zz2 (((k : Nat) : Int).toNat * 4)), (nAt zz2 (((k : Nat) : Int).toNat * 4 + 1)), (nAt zz2 (((k : Nat) : Int).toNat * 4 + 1 + 1)), (nAt zz2 (((k : Nat) : Int).toNat * 4 + 1 + 1 + 1))⟩).1.length : Nat) : Int) != (((activeS (⟨((s).bits), ((s).c), ((s).gtw), ((s).gth), ints (is (s).ord), toIms (ims (s).ims), toOps (ops (s).ops)⟩ : Scr) ⟨(nAt zz2 (((k : Nat) : Int).toNat * 4)), (nAt zz2 (((k : Nat) : Int).toNat * 4 + 1)), (nAt zz2 (((k : Nat) : Int).toNat * 4 + 1 + 1)), (nAt zz2 (((k : Nat) : Int).toNat * 4 + 1 + 1 + 1))⟩).1.length : Nat) : Int)) = false → True ∧ ((∃ j : Nat, (j ≤ s.ops.length) ∧ (((0 = 0) ∧ zz7 ∧ (zz8 k) ∧ (zz9 k) ∧ (zz9 k) ∧ (DV.int .i64 0 = DV.int .i64 ((j : Nat) : Int)) ∧ True) ∧ zz3)) ∧ ∀ j : Nat, (j ≤ s.ops.length) → True ∧ True ∧ True ∧ True ∧ (((decide (((j : Nat) : Int) < (((activeS (⟨((s).bits), ((s).c), ((s).gtw), ((s).gth), ints (is (s).ord), toIms (ims (s).ims), toOps (ops (s).ops)⟩ : Scr) ⟨(nAt zz2 (((k : Nat) : Int).toNat * 4)), (nAt zz2 (((k : Nat) : Int).toNat * 4 + 1)), (nAt zz2 (((k : Nat) : Int).toNat * 4 + 1 + 1)), (nAt zz2 (((k : Nat) : Int).toNat * 4 + 1 + 1 + 1))⟩).1.length : Nat) : Int))) = true → True ∧ True ∧ (zz10 k j) ∧ (zz11 k j) ∧ True ∧ True ∧ (zz10 k j) ∧ (zz11 k j) ∧ True ∧ (true = true) ∧ (((!((bAt (bs (activeS (⟨((s).bits), ((s).c), ((s).gtw), ((s).gth), ints (is (s).ord), toIms (ims (s).ims), toOps (ops (s).ops)⟩ : Scr) ⟨(nAt zz2 (((k : Nat) : Int).toNat * 4)), (nAt zz2 (((k : Nat) : Int).toNat * 4 + 1)), (nAt zz2 (((k : Nat) : Int).toNat * 4 + 1 + 1)), (nAt zz2 (((k : Nat) : Int).toNat * 4 + 1 + 1 + 1))⟩).1) (((j : Nat) : Int).toNat * 1)) == (bAt (bs (activeS (⟨((s).bits), ((s).c), ((s).gtw), ((s).gth), ints (is (s).ord), toIms (ims (s).ims), toOps (ops (s).ops)⟩ : Scr) ⟨(nAt zz2 (((k : Nat) : Int).toNat * 4)), (nAt zz2 (((k : Nat) : Int).toNat * 4 + 1)), (nAt zz2 (((k : Nat) : Int).toNat * 4 + 1 + 1)), (nAt zz2 (((k : Nat) : Int).toNat * 4 + 1 + 1 + 1))⟩).1) (((j : Nat) : Int).toNat * 1)))) = true → True ∧ RV.d (DV.bool false) = RV.d (DV.bool true)) ∧ ((!((bAt (bs (activeS (⟨((s).bits), ((s).c), ((s).gtw), ((s).gth), ints (is (s).ord), toIms (ims (s).ims), toOps (ops (s).ops)⟩ : Scr) ⟨(nAt zz2 (((k : Nat) : Int).toNat * 4)), (nAt zz2 (((k : Nat) : Int).toNat * 4 + 1)), (nAt zz2 (((k : Nat) : Int).toNat * 4 + 1 + 1)), (nAt zz2 (((k : Nat) : Int).toNat * 4 + 1 + 1 + 1))⟩).1) (((j : Nat) : Int).toNat * 1)) == (bAt (bs (activeS (⟨((s).bits), ((s).c), ((s).gtw), ((s).gth), ints (is (s).ord), toIms (ims (s).ims), toOps (ops (s).ops)⟩ : Scr) ⟨(nAt zz2 (((k : Nat) : Int).toNat * 4)), (nAt zz2 (((k : Nat) : Int).toNat * 4 + 1)), (nAt zz2 (((k : Nat) : Int).toNat * 4 + 1 + 1)), (nAt zz2 (((k : Nat) : Int).toNat * 4 + 1 + 1 + 1))⟩).1) (((j : Nat) : Int).toNat * 1)))) = false → True ∧ True ∧ True ∧ ∃ j' : Nat, (j' ≤ s.ops.length) ∧ (s.ops.length - j' < s.ops.length - j) ∧ (((0 = 0) ∧ zz7 ∧ (zz8 k) ∧ (zz9 k) ∧ (zz9 k) ∧ (DV.int .i64 (IntKind.wrap .i64 (((j : Nat) : Int) + (1 : Int))) = DV.int .i64 ((j' : Nat) : Int)) ∧ True) ∧ zz3)))) ∧ ((decide (((j : Nat) : Int) < (((activeS (⟨((s).bits), ((s).c), ((s).gtw), ((s).gth), ints (is (s).ord), toIms (ims (s).ims), toOps (ops (s).ops)⟩ : Scr) ⟨(nAt zz2 (((k : Nat) : Int).toNat * 4)), (nAt zz2 (((k : Nat) : Int).toNat * 4 + 1)), (nAt zz2 (((k : Nat) : Int).toNat * 4 + 1 + 1)), (nAt zz2 (((k : Nat) : Int).toNat * 4 + 1 + 1 + 1))⟩).1.length : Nat) : Int))) = false → True ∧ True ∧ True ∧ ∃ k' : Nat, (k' ≤ 3) ∧ (3 - k' < 3 - k) ∧ (((0 = 0) ∧ zz7 ∧ (DV.int .i64 (IntKind.wrap .i64 (((k : Nat) : Int) + (1 : Int))) = DV.int .i64 ((k' : Nat) : Int)) ∧ True) ∧ zz3))))))) ∧ ((((activeS (⟨((s).bits), ((s).c), ((s).gtw), ((s).gth), ints (is (s).ord), toIms (ims (s).ims), toOps (ops (s).ops)⟩ : Scr) ⟨(nAt zz2 (((k : Nat) : Int).toNat * 4)), (nAt zz2 (((k : Nat) : Int).toNat * 4 + 1)), (nAt zz2 (((k : Nat) : Int).toNat * 4 + 1 + 1)), (nAt zz2 (((k : Nat) : Int).toNat * 4 + 1 + 1 + 1))⟩).2) != (0 : Int)) = (!false) → True ∧ True ∧ RV.d (DV.bool false) = RV.d (DV.bool true)))) ∧ ((decide (((k : Nat) : Int) < ((3 : Nat) : Int))) = false → True ∧ RV.d (DV.bool true) = RV.d (DV.bool true))))))) ∧ ((((boxesS (⟨((s).bits), ((s).c), ((s).gtw), ((s).gth), ints (is (s).ord), toIms (ims (s).ims), toOps (ops (s).ops)⟩ : Scr)).2) != (0 : Int)) = (!false) → True ∧ True ∧ RV.d (DV.bool false) = RV.d (DV.bool true)))) ∧ ((((boxesS (⟨((s).bits), ((s).c), ((s).gtw), ((s).gth), ints (is (s).ord), toIms (ims (s).ims), toOps (ops (s).ops)⟩ : Scr)).2) != (0 : Int)) = (!false) → True ∧ True ∧ True ∧ True ∧ RV.d (DV.bool false) = RV.d (DV.bool true)))) ∧ ((!true) = (!false) → True ∧ True ∧ True ∧ True ∧ True ∧ True ∧ RV.d (DV.bool false) = RV.d (DV.bool true)))) := by kernel_rfl
theorem L24_BoundsBoxesAgree_ans (s : Scn) (n0 : Int) (n1 : Int) (n2 : Int) (n3 : Int) (k0 : Int) (k1 : Int) (k2 : Int) (k3 : Int) (hs : s.ok) : Ans Tryd.prog 4 [RV.agg [DV.int .i64 s.b, DV.int .i64 s.x, DV.int .i64 s.y, DV.int .i64 s.w, DV.int .i64 s.h, DV.int .i64 s.tw, DV.int .i64 s.th, DV.sl s.on s.oxs, DV.sl s.pn s.pxs, DV.sl s.rn s.rxs], RV.agg [DV.int .i64 n0, DV.int .i64 n1, DV.int .i64 n2, DV.int .i64 n3], RV.agg [DV.int .i64 k0, DV.int .i64 k1, DV.int .i64 k2, DV.int .i64 k3]] (RV.d (DV.bool true)) :=
  ans_of_vcg (Γ := gamBoundsBoxesAgree) (L24_BoundsBoxesAgree_ann s n0 n1 n2 n3 k0 k1 k2 k3) mixed_ Tryd.func4 rfl (Nat.le_of_ble_eq_true rfl) fun hwf => by
    refine Eq.mpr (L24_BoundsBoxesAgree_vc s n0 n1 n2 n3 k0 k1 k2 k3) ?_
    simp only [true_and, and_true, RV.d.injEq, RV.agg.injEq, RV.tup.injEq, DV.bool.injEq, DV.int.injEq, DV.sl.injEq, List.cons.injEq, forall_const, Bool.not_false, Bool.not_true, Bool.not_eq_true', Bool.not_eq_false', decide_eq_true_eq, decide_eq_false_iff_not, Int.toNat_natCast, L24_awake_ans, G_Mod_ans]
    simp only [ints_is, toIms_ims, toOps_ops]
    have hS : (⟨s.bits, s.c, s.gtw, s.gth, s.ord, s.ims, s.ops⟩ : Scr) = s.scr := rfl
    simp only [hS]
    have hr : s.scr.run.1 = 0 := by rw [s.scr_run]
    have hso : s.scr.ops = s.ops := rfl
    have lo := s.ops_len
    have CF := s.c_facts
    have FF := s.facts
    have hM : ∀ n : Nat, n ≤ 100 → n ≤ maxLen := fun n h => by unfold maxLen; omega
    have b1 := bounds_Boxes_ans s.scr
    have b2 := R22_Boxes_ans s.scr
    have e0 : (boxesS s.scr).2 = 0 := (boxes_in hr).2.1
    have sm := L24_same_ans (boxesS s.scr).1 (boxesS s.scr).1
    have gp := G_Part_ans s.c n0 n1 n2 n3
    have gr := G_Rect_ans k0 k1 k2 k3
    generalize hL : [DV.int .i64 (prtB s.c n0 n1 n2 n3).a, DV.int .i64 (prtB s.c n0 n1 n2 n3).b, DV.int .i64 (prtB s.c n0 n1 n2 n3).c, DV.int .i64 (prtB s.c n0 n1 n2 n3).d, DV.int .i64 (genRc k0 k1 k2 k3).a, DV.int .i64 (genRc k0 k1 k2 k3).b, DV.int .i64 (genRc k0 k1 k2 k3).c, DV.int .i64 (genRc k0 k1 k2 k3).d, DV.int .i64 s.c.a, DV.int .i64 s.c.b, DV.int .i64 s.c.c, DV.int .i64 s.c.d] = L
    have hL2 : L = rcs [prtB s.c n0 n1 n2 n3, genRc k0 k1 k2 k3, s.c] := by rw [← hL]; rfl
    clear hL
    subst hL2
    generalize prtB s.c n0 n1 n2 n3 = r1 at *
    generalize genRc k0 k1 k2 k3 = r2 at *
    refine ⟨G_Script_ans s hs, b1, b2, ?_⟩
    clear b1 b2
    have nf : false = true → false = true := id
    simp only [e0, toRcs_rcs, decide_true, bne_self_eq_false] at sm ⊢
    refine ⟨⟨fun _ => ⟨fun _ => ⟨sm, fun h => absurd trivial h, gp, gr, ⟨0, by omega, trivial, rfl⟩, fun k hk => ⟨fun hlt => ?_, fun hge => trivial⟩⟩, nf⟩, nf⟩, nf⟩
    have h3 : k < [r1, r2, s.c].length := by simp; omega
    have c1 := rcs_at _ k h3
    have c2 := rcs_nAt h3
    have w1 : IntKind.wrap .i64 ((k : Int) + 1) = ((k + 1 : Nat) : Int) := wrap_succ (by omega)
    have lL : (rcs [r1, r2, s.c]).length = 12 := by rw [rcs_length]; rfl
    generalize [r1, r2, s.c][k] = q at *
    have heta : (⟨q.a, q.b, q.c, q.d⟩ : Rc) = q := rfl
    have a1 := bounds_Active_ans s.scr q
    have a2 := R22_Active_ans s.scr q
    have eA : activeS s.scr q = ((List.range s.ops.length).map (actAt s.scr q), 0) := by unfold activeS; rw [if_pos hr, hso]
    have hin : 0 ≤ (k : Int) ∧ (k : Int) < ((3 : Nat) : Int) ∧ k * 4 < 12 := ⟨by omega, by omega, by omega⟩
    simp only [c2, heta, eA, lL, w1] at a1 a2 ⊢
    simp only [List.length_map, List.length_range, bne_self_eq_false, Nat.mul_one] at a1 a2 ⊢
    refine ⟨hin, c1, a1, hin, c1, a2, ?_⟩
    clear a1 a2 c1 c2
    refine ⟨fun _ => ⟨nf, fun _ => ⟨⟨0, Nat.zero_le _, rfl⟩, fun j hj => ⟨fun jlt => ?_, fun jge => ⟨k + 1, by omega, by omega, rfl⟩⟩⟩⟩, nf⟩
    have hj2 : j < s.ops.length := by omega
    have g : ((List.range s.ops.length).map (actAt s.scr q))[j]? = some (actAt s.scr q j) := by simp [hj2]
    have lb : (bs ((List.range s.ops.length).map (actAt s.scr q))).length = s.ops.length := by rw [bs_length]; simp
    have wj : IntKind.wrap .i64 ((j : Int) + 1) = ((j + 1 : Nat) : Int) := wrap_succ (by omega)
    have hjn : 0 ≤ (j : Int) ∧ (j : Int) < (s.ops.length : Int) ∧ j < s.ops.length := ⟨by omega, by omega, hj2⟩
    simp only [bs_bAt g, lb, wj]
    exact ⟨hjn, bs_get g, hjn, bs_get g, fun h => by simp at h, fun _ => ⟨j + 1, by omega, by omega, rfl⟩⟩

end Go.Proofs.YtcaokljobfkajaaDoor

/-
  The program's own closed facts, once: each a declaration of its own.
-/
namespace Go.Proofs.YtcaokljobfkajaaDoor.closed
open Go
set_option linter.unusedVariables false
set_option linter.unusedSimpArgs false

set_option maxRecDepth 100000 in
theorem headWord : Tryd.prog.initOrder = String.ofList [Char.ofNat 104, Char.ofNat 97, Char.ofNat 114, Char.ofNat 110, Char.ofNat 101, Char.ofNat 115, Char.ofNat 115, Char.ofNat 32, Char.ofNat 51, Char.ofNat 49, Char.ofNat 101, Char.ofNat 99, Char.ofNat 102, Char.ofNat 49, Char.ofNat 53, Char.ofNat 50, Char.ofNat 53, Char.ofNat 99, Char.ofNat 52, Char.ofNat 101, Char.ofNat 101, Char.ofNat 57, Char.ofNat 48, Char.ofNat 57, Char.ofNat 51, Char.ofNat 98, Char.ofNat 49, Char.ofNat 101, Char.ofNat 98, Char.ofNat 99, Char.ofNat 49, Char.ofNat 56, Char.ofNat 50, Char.ofNat 99, Char.ofNat 98, Char.ofNat 97, Char.ofNat 102, Char.ofNat 99, Char.ofNat 56, Char.ofNat 97, Char.ofNat 100, Char.ofNat 52, Char.ofNat 100, Char.ofNat 53, Char.ofNat 102, Char.ofNat 50, Char.ofNat 55, Char.ofNat 54, Char.ofNat 56, Char.ofNat 56, Char.ofNat 99, Char.ofNat 57, Char.ofNat 50, Char.ofNat 97, Char.ofNat 49, Char.ofNat 54, Char.ofNat 55, Char.ofNat 49, Char.ofNat 57, Char.ofNat 97, Char.ofNat 57, Char.ofNat 98, Char.ofNat 50, Char.ofNat 52, Char.ofNat 57, Char.ofNat 57, Char.ofNat 98, Char.ofNat 56, Char.ofNat 99, Char.ofNat 99, Char.ofNat 97, Char.ofNat 48, Char.ofNat 32, Char.ofNat 99, Char.ofNat 117, Char.ofNat 116, Char.ofNat 32, Char.ofNat 97, Char.ofNat 116, Char.ofNat 32, Char.ofNat 99, Char.ofNat 111, Char.ofNat 109, Char.ofNat 112, Char.ofNat 111, Char.ofNat 115, Char.ofNat 105, Char.ofNat 116, Char.ofNat 111, Char.ofNat 114, Char.ofNat 47, Char.ofNat 99, Char.ofNat 111, Char.ofNat 109, Char.ofNat 112, Char.ofNat 111, Char.ofNat 115, Char.ofNat 105, Char.ofNat 116, Char.ofNat 111, Char.ofNat 114, Char.ofNat 108, Char.ofNat 97, Char.ofNat 119, Char.ofNat 50, Char.ofNat 52, Char.ofNat 46, Char.ofNat 66, Char.ofNat 111, Char.ofNat 117, Char.ofNat 110, Char.ofNat 100, Char.ofNat 115, Char.ofNat 82, Char.ofNat 101, Char.ofNat 99, Char.ofNat 116, Char.ofNat 115, Char.ofNat 65, Char.ofNat 103, Char.ofNat 114, Char.ofNat 101, Char.ofNat 101, Char.ofNat 32, Char.ofNat 99, Char.ofNat 111, Char.ofNat 109, Char.ofNat 112, Char.ofNat 111, Char.ofNat 115, Char.ofNat 105, Char.ofNat 116, Char.ofNat 111, Char.ofNat 114, Char.ofNat 47, Char.ofNat 99, Char.ofNat 111, Char.ofNat 109, Char.ofNat 112, Char.ofNat 111, Char.ofNat 115, Char.ofNat 105, Char.ofNat 116, Char.ofNat 111, Char.ofNat 114, Char.ofNat 108, Char.ofNat 97, Char.ofNat 119, Char.ofNat 50, Char.ofNat 52, Char.ofNat 46, Char.ofNat 66, Char.ofNat 111, Char.ofNat 117, Char.ofNat 110, Char.ofNat 100, Char.ofNat 115, Char.ofNat 66, Char.ofNat 111, Char.ofNat 120, Char.ofNat 101, Char.ofNat 115, Char.ofNat 65, Char.ofNat 103, Char.ofNat 114, Char.ofNat 101, Char.ofNat 101, Char.ofNat 32, Char.ofNat 99, Char.ofNat 111, Char.ofNat 109, Char.ofNat 112, Char.ofNat 111, Char.ofNat 115, Char.ofNat 105, Char.ofNat 116, Char.ofNat 111, Char.ofNat 114, Char.ofNat 47, Char.ofNat 99, Char.ofNat 111, Char.ofNat 109, Char.ofNat 112, Char.ofNat 111, Char.ofNat 115, Char.ofNat 105, Char.ofNat 116, Char.ofNat 111, Char.ofNat 114, Char.ofNat 108, Char.ofNat 97, Char.ofNat 119, Char.ofNat 50, Char.ofNat 52, Char.ofNat 46, Char.ofNat 66, Char.ofNat 111, Char.ofNat 117, Char.ofNat 110, Char.ofNat 100, Char.ofNat 115, Char.ofNat 82, Char.ofNat 101, Char.ofNat 106, Char.ofNat 101, Char.ofNat 99, Char.ofNat 116, Char.ofNat 115, Char.ofNat 32, Char.ofNat 99, Char.ofNat 111, Char.ofNat 109, Char.ofNat 112, Char.ofNat 111, Char.ofNat 115, Char.ofNat 105, Char.ofNat 116, Char.ofNat 111, Char.ofNat 114, Char.ofNat 47, Char.ofNat 99, Char.ofNat 111, Char.ofNat 109, Char.ofNat 112, Char.ofNat 111, Char.ofNat 115, Char.ofNat 105, Char.ofNat 116, Char.ofNat 111, Char.ofNat 114, Char.ofNat 108, Char.ofNat 97, Char.ofNat 119, Char.ofNat 50, Char.ofNat 52, Char.ofNat 46, Char.ofNat 66, Char.ofNat 111, Char.ofNat 117, Char.ofNat 110, Char.ofNat 100, Char.ofNat 115, Char.ofNat 65, Char.ofNat 99, Char.ofNat 116, Char.ofNat 105, Char.ofNat 118, Char.ofNat 101, Char.ofNat 73, Char.ofNat 115, Char.ofNat 66, Char.ofNat 97, Char.ofNat 108, Char.ofNat 97, Char.ofNat 110, Char.ofNat 99, Char.ofNat 101, Char.ofNat 100] := by kernel_rfl
set_option maxRecDepth 100000 in
theorem headSigns : Tryd.prog.initOrder.toList = [Char.ofNat 104, Char.ofNat 97, Char.ofNat 114, Char.ofNat 110, Char.ofNat 101, Char.ofNat 115, Char.ofNat 115, Char.ofNat 32, Char.ofNat 51, Char.ofNat 49, Char.ofNat 101, Char.ofNat 99, Char.ofNat 102, Char.ofNat 49, Char.ofNat 53, Char.ofNat 50, Char.ofNat 53, Char.ofNat 99, Char.ofNat 52, Char.ofNat 101, Char.ofNat 101, Char.ofNat 57, Char.ofNat 48, Char.ofNat 57, Char.ofNat 51, Char.ofNat 98, Char.ofNat 49, Char.ofNat 101, Char.ofNat 98, Char.ofNat 99, Char.ofNat 49, Char.ofNat 56, Char.ofNat 50, Char.ofNat 99, Char.ofNat 98, Char.ofNat 97, Char.ofNat 102, Char.ofNat 99, Char.ofNat 56, Char.ofNat 97, Char.ofNat 100, Char.ofNat 52, Char.ofNat 100, Char.ofNat 53, Char.ofNat 102, Char.ofNat 50, Char.ofNat 55, Char.ofNat 54, Char.ofNat 56, Char.ofNat 56, Char.ofNat 99, Char.ofNat 57, Char.ofNat 50, Char.ofNat 97, Char.ofNat 49, Char.ofNat 54, Char.ofNat 55, Char.ofNat 49, Char.ofNat 57, Char.ofNat 97, Char.ofNat 57, Char.ofNat 98, Char.ofNat 50, Char.ofNat 52, Char.ofNat 57, Char.ofNat 57, Char.ofNat 98, Char.ofNat 56, Char.ofNat 99, Char.ofNat 99, Char.ofNat 97, Char.ofNat 48, Char.ofNat 32, Char.ofNat 99, Char.ofNat 117, Char.ofNat 116, Char.ofNat 32, Char.ofNat 97, Char.ofNat 116, Char.ofNat 32, Char.ofNat 99, Char.ofNat 111, Char.ofNat 109, Char.ofNat 112, Char.ofNat 111, Char.ofNat 115, Char.ofNat 105, Char.ofNat 116, Char.ofNat 111, Char.ofNat 114, Char.ofNat 47, Char.ofNat 99, Char.ofNat 111, Char.ofNat 109, Char.ofNat 112, Char.ofNat 111, Char.ofNat 115, Char.ofNat 105, Char.ofNat 116, Char.ofNat 111, Char.ofNat 114, Char.ofNat 108, Char.ofNat 97, Char.ofNat 119, Char.ofNat 50, Char.ofNat 52, Char.ofNat 46, Char.ofNat 66, Char.ofNat 111, Char.ofNat 117, Char.ofNat 110, Char.ofNat 100, Char.ofNat 115, Char.ofNat 82, Char.ofNat 101, Char.ofNat 99, Char.ofNat 116, Char.ofNat 115, Char.ofNat 65, Char.ofNat 103, Char.ofNat 114, Char.ofNat 101, Char.ofNat 101, Char.ofNat 32, Char.ofNat 99, Char.ofNat 111, Char.ofNat 109, Char.ofNat 112, Char.ofNat 111, Char.ofNat 115, Char.ofNat 105, Char.ofNat 116, Char.ofNat 111, Char.ofNat 114, Char.ofNat 47, Char.ofNat 99, Char.ofNat 111, Char.ofNat 109, Char.ofNat 112, Char.ofNat 111, Char.ofNat 115, Char.ofNat 105, Char.ofNat 116, Char.ofNat 111, Char.ofNat 114, Char.ofNat 108, Char.ofNat 97, Char.ofNat 119, Char.ofNat 50, Char.ofNat 52, Char.ofNat 46, Char.ofNat 66, Char.ofNat 111, Char.ofNat 117, Char.ofNat 110, Char.ofNat 100, Char.ofNat 115, Char.ofNat 66, Char.ofNat 111, Char.ofNat 120, Char.ofNat 101, Char.ofNat 115, Char.ofNat 65, Char.ofNat 103, Char.ofNat 114, Char.ofNat 101, Char.ofNat 101, Char.ofNat 32, Char.ofNat 99, Char.ofNat 111, Char.ofNat 109, Char.ofNat 112, Char.ofNat 111, Char.ofNat 115, Char.ofNat 105, Char.ofNat 116, Char.ofNat 111, Char.ofNat 114, Char.ofNat 47, Char.ofNat 99, Char.ofNat 111, Char.ofNat 109, Char.ofNat 112, Char.ofNat 111, Char.ofNat 115, Char.ofNat 105, Char.ofNat 116, Char.ofNat 111, Char.ofNat 114, Char.ofNat 108, Char.ofNat 97, Char.ofNat 119, Char.ofNat 50, Char.ofNat 52, Char.ofNat 46, Char.ofNat 66, Char.ofNat 111, Char.ofNat 117, Char.ofNat 110, Char.ofNat 100, Char.ofNat 115, Char.ofNat 82, Char.ofNat 101, Char.ofNat 106, Char.ofNat 101, Char.ofNat 99, Char.ofNat 116, Char.ofNat 115, Char.ofNat 32, Char.ofNat 99, Char.ofNat 111, Char.ofNat 109, Char.ofNat 112, Char.ofNat 111, Char.ofNat 115, Char.ofNat 105, Char.ofNat 116, Char.ofNat 111, Char.ofNat 114, Char.ofNat 47, Char.ofNat 99, Char.ofNat 111, Char.ofNat 109, Char.ofNat 112, Char.ofNat 111, Char.ofNat 115, Char.ofNat 105, Char.ofNat 116, Char.ofNat 111, Char.ofNat 114, Char.ofNat 108, Char.ofNat 97, Char.ofNat 119, Char.ofNat 50, Char.ofNat 52, Char.ofNat 46, Char.ofNat 66, Char.ofNat 111, Char.ofNat 117, Char.ofNat 110, Char.ofNat 100, Char.ofNat 115, Char.ofNat 65, Char.ofNat 99, Char.ofNat 116, Char.ofNat 105, Char.ofNat 118, Char.ofNat 101, Char.ofNat 73, Char.ofNat 115, Char.ofNat 66, Char.ofNat 97, Char.ofNat 108, Char.ofNat 97, Char.ofNat 110, Char.ofNat 99, Char.ofNat 101, Char.ofNat 100] := by rw [headWord, String.toList_ofList]
set_option maxRecDepth 100000 in
theorem enters : Tryd.prog.mayEnter = true := by
  unfold Program.mayEnter Program.doorFits
  rw [headSigns]
  kernel_rfl
set_option maxRecDepth 100000 in
theorem liftsNot : Tryd.prog.liftsFinal = false := by
  unfold Program.liftsFinal Program.headLifts
  rw [headSigns]
  kernel_rfl
set_option maxRecDepth 100000 in
theorem made : Tryd.prog.make = some .cut := by
  unfold Program.make
  rw [headSigns]
  kernel_rfl
theorem own : ownKnob Tryd.prog.godebug = none := by kernel_rfl
theorem laidOut : laidOutB Tryd.prog = true := by kernel_rfl
theorem mapsRow : mapsRowed Tryd.prog = true := by kernel_rfl
theorem noStops : (Tryd.prog.stops == []) = true := by kernel_rfl
theorem noKnobs : (Tryd.prog.stopKnobs == []) = true := by kernel_rfl
theorem plain : Tryd.prog.plainKeys = true := by kernel_rfl
theorem heard : Tryd.prog.stopsHeard = true := by kernel_rfl
end Go.Proofs.YtcaokljobfkajaaDoor.closed

/-
  What package variables that are laid by the program's text hold, cell by cell; and from a law's walk to a row that lists them.
-/
namespace Go.Proofs.YtcaokljobfkajaaDoor
open Go.RowKit Go.ChangeShapes Go.WideShapes
set_option linter.unusedVariables false
set_option linter.unusedSimpArgs false

def cellAt {H : Type} (P : Program) : Nat → TypeId → DataW H → Nat → Option DV
  | 0, _, _, _ => none
  | fuel + 1, t, d, i =>
    match P.underlying t, d with
    | some (.int k), .lit (.int k' n) => if i = 0 ∧ k' = k then some (.int k n) else none
    | some .bool, .lit (.bool b) => if i = 0 then some (.bool b) else none
    | some .string, .lit (.string s) => if i = 0 ∧ s.length ≤ maxLen then some (.str ⟨s.toArray⟩) else none
    | some (.struct fs), .agg ds => (fs.toList.zip ds).findSome? fun x => if x.1.offset ≤ i ∧ i < x.1.offset + P.cellsOf x.1.type then cellAt P fuel x.1.type x.2 (i - x.1.offset) else none
    | some (.array _ e), .agg ds => if P.cellsOf e = 0 then none else match ds[i / P.cellsOf e]? with
      | some d => cellAt P fuel e d (i % P.cellsOf e)
      | none => none
    | _, _ => none

section
variable {H : Type} {enc : TypeId × Value → H} {P : Program} {w : World}
theorem cell_of_trod {sp : Nat → Bool} {va : Bool} {V : Nat → Prop} : ∀ (fuel : Nat) (t : TypeId) (cs : List Value) (d : DataW H) (ps : List MemPlace) (q i : Nat) (dv : DV),
    DataW.trod enc P w 0 sp va fuel t cs = some (d, ps) → cellAt P q t d i = some dv → ∃ u, cs[i]? = some u ∧ RepD w V dv u := by
  intro fuel
  induction fuel with
  | zero => intro t cs d ps q i dv h; simp [DataW.trod] at h
  | succ fuel ih =>
    intro t cs d ps q i dv h hq
    cases q with
    | zero => simp [cellAt] at hq
    | succ q =>
    unfold DataW.trod at h
    unfold cellAt at hq
    split at h
    · rename_i b hu
      simp only [Option.some.injEq, Prod.mk.injEq] at h
      obtain ⟨rfl, _⟩ := h
      simp only [hu] at hq
      split at hq
      · rename_i e; subst e; cases hq; exact ⟨_, rfl, by simp only [RepD]⟩
      · cases hq
    · rename_i k k' n hu
      split at h
      · rename_i hk
        obtain ⟨rfl, hwf⟩ := hk
        simp only [Option.some.injEq, Prod.mk.injEq] at h
        obtain ⟨rfl, _⟩ := h
        simp only [hu] at hq
        split at hq
        · rename_i e; obtain ⟨rfl, _⟩ := e; cases hq; exact ⟨_, rfl, by simp only [RepD]; exact ⟨trivial, hwf⟩⟩
        · cases hq
      · cases h
    · rename_i hu
      simp only [hu] at hq
      cases hq
    · rename_i s hu
      split at h
      · simp only [Option.some.injEq, Prod.mk.injEq] at h
        obtain ⟨rfl, _⟩ := h
        simp only [hu] at hq
        split at hq
        · rename_i e; obtain ⟨rfl, hl⟩ := e; cases hq
          exact ⟨_, rfl, by simp only [RepD]; exact ⟨by simp, by simpa using hl⟩⟩
        · cases hq
      · cases h
    · rename_i hu; simp only [hu] at hq; cases hq
    · rename_i hu; simp only [hu] at hq; cases hq
    · rename_i hu; simp only [hu] at hq; cases hq
    · rename_i hu; simp only [hu] at hq; cases hq
    · rename_i fs hu
      split at h
      · obtain ⟨xs, hxs, h⟩ := Option.map_eq_some_iff.1 h
        simp only [Prod.mk.injEq] at h
        obtain ⟨rfl, _⟩ := h
        simp only [hu] at hq
        obtain ⟨x, hx, hx2⟩ := List.exists_of_findSome?_eq_some hq
        split at hx2
        · rename_i hr
          obtain ⟨j, hj, e⟩ := List.getElem_of_mem hx
          rw [List.getElem_zip] at e
          simp only [List.length_zip, List.length_map] at hj
          have h1 := mapM_some_get hxs j _ (List.getElem?_eq_getElem (by omega))
          rw [List.getElem?_eq_getElem (show j < xs.length by omega)] at h1
          subst e
          simp only [List.getElem_map] at hx2 hr
          obtain ⟨u, hu1, hu2⟩ := ih _ _ _ _ q _ dv h1 hx2
          refine ⟨u, ?_, hu2⟩
          rw [List.getElem?_take, if_pos (by omega), List.getElem?_drop] at hu1
          rwa [show _ + (i - _) = i from Nat.add_sub_of_le hr.1] at hu1
        · cases hx2
      · cases h
    · rename_i n e hu
      split at h
      · obtain ⟨xs, hxs, h⟩ := Option.map_eq_some_iff.1 h
        simp only [Prod.mk.injEq] at h
        obtain ⟨rfl, _⟩ := h
        simp only [hu] at hq
        split at hq
        · cases hq
        · rename_i hne
          split at hq
          · rename_i d hd
            rw [List.getElem?_map] at hd
            obtain ⟨x, hx, rfl⟩ := Option.map_eq_some_iff.1 hd
            have hl := mapM_some_length hxs
            simp only [List.length_range] at hl
            have hlt : i / P.cellsOf e < xs.length := (List.getElem?_eq_some_iff.1 hx).1
            have h1 := mapM_some_get hxs (i / P.cellsOf e) (i / P.cellsOf e) (List.getElem?_range (by omega))
            rw [hx] at h1
            obtain ⟨u, hu1, hu2⟩ := ih _ _ _ _ q _ dv h1 hq
            refine ⟨u, ?_, hu2⟩
            rw [List.getElem?_take, if_pos (Nat.mod_lt _ (Nat.pos_of_ne_zero hne)), List.getElem?_drop, Nat.mul_comm] at hu1
            rwa [Nat.div_add_mod] at hu1
          · cases hq
      · cases h
    all_goals first | (cases h; done) | (clear h ih; simp_all; done) | (clear h ih; split at hq <;> simp_all; done)
end

/-- the table says what the laid variables hold -/
def tabOK (P : Program) (laid : List (String × DataW Unit)) (p : Nat × List DV) : Prop :=
  ∃ x t, x ∈ laid ∧ P.globalNamed x.1 = some p.1 ∧ (P.globals[p.1]?).map (·.type) = some t ∧ (List.range p.2.length).map (cellAt P 6 t x.2) = p.2.map some
theorem laidVars_mem {P : Program} {w : World} : ∀ {l : List (String × DataW Unit)} {ps : List MemPlace}, DataW.LaidVars P w l ps → ∀ x ∈ l, ∃ g t cs fuel p, P.globalNamed x.1 = some g ∧ (P.globals[g]?).map (·.type) = some t ∧ w.var? P x.1 = some cs ∧ DataW.trod (fun _ => ()) P w 0 (fun _ => true) false fuel t cs.toList = some (x.2, p)
  | [], _, _, x, hx => by cases hx
  | (n, d) :: r, ps, h, x, hx => by
    obtain ⟨g, t, cs, fuel, p, q, h1, h2, h3, h4, h5, _⟩ := h
    rcases List.mem_cons.1 hx with rfl | hx
    · exact ⟨g, t, cs, fuel, p, h1, h2, h3, h4⟩
    · exact laidVars_mem h5 x hx
theorem globOK_of {P : Program} {laid : List (String × DataW Unit)} {w : World} (hm : laidMetH P laid w) (hp : (laid.all fun x => x.2.handleName?.isNone) = true) (ht : ∀ p ∈ globTab, tabOK P laid p) : GlobOK w (fun _ => True) := by
  rw [MakeChecks.laidMetH_plain _ _ _ hp] at hm
  obtain ⟨ps, hl, _⟩ := hm
  intro p hp _
  obtain ⟨x, t, hx, h1, h2, h3⟩ := ht p hp
  obtain ⟨g, t', cs, fuel, q, g1, g2, g3, g4⟩ := laidVars_mem hl x hx
  rw [g1] at h1; injection h1 with h1; subst h1
  rw [g2] at h2; injection h2 with h2; subst h2
  refine ⟨trivial, RepCells.of_at fun i d hi => ?_⟩
  have hlt : i < p.2.length := (List.getElem?_eq_some_iff.1 hi).1
  have h4 : ((List.range p.2.length).map (cellAt P 6 t' x.2))[i]? = (p.2.map some)[i]? := by rw [h3]
  rw [List.getElem?_map, List.getElem?_range hlt, List.getElem?_map, hi] at h4
  simp only [Option.map_some, Option.some.injEq] at h4
  obtain ⟨u, hu1, hu2⟩ := cell_of_trod (V := fun _ => True) fuel t' cs.toList x.2 q 6 i d g4 h4
  refine ⟨u, ?_, hu2⟩
  rw [Nat.zero_add, World.var?_cell g1 g3 i, ← Array.getElem?_toList]
  exact hu1

/-- FROM A LAW's WALK TO ITS ROW, with package variables laid by the text. -/
theorem law_lift_laid {H : Type} {enc : TypeId × Value → H} {C : Checked} {os : Os} {f : FuncId} {fn : Func} {s : ChangeSpec} {tb : TypeId} {laid : List (String × DataW Unit)}
    (own : ownKnob C.prog.godebug = none) (started : os.Started) (noInit : C.prog.inits.idxOf? f = none) (hfn : C.prog.funcs[f]? = some fn)
    (witness : ∃ (w : World) (tape : Tape) (i : Input), w.os = os ∧ (w.forCall tape i).Shaped C.prog ∧ i.vars = [] ∧ Input.okWide C.prog (w.forCall tape i) .any w.heap.size f i ∧
      ((s.pre enc C.prog fn [] false (w.forCall tape i).memory i.args ∧ laidMetH C.prog laid (w.forCall tape i).memory) ∧ sizedMet enc C.prog fn (OpenSpec.ofChange s) false (w.forCall tape i).memory i.args) ∧ ({} : Assume).holds C.prog (lone (Frame.enter C.prog f i.args .normal) [] (w.forCall tape i)))
    (hspec : ∀ ds : List (DataW H), ds.length = fn.params.toList.length → s.fn H ds = { results := [.lit (.bool true)], args := ds }) (hvars : s.vars = [])
    (hres : fn.resultTypes = #[tb]) (hb : C.prog.underlying tb = some .bool) (laidO : laidOutB C.prog = true)
    (hread : ∀ t ∈ fn.params.toList, C.prog.readableRec t = true ∧ t < C.prog.types.size)
    (hp : (laid.all fun x => x.2.handleName?.isNone) = true) (ht : ∀ p ∈ globTab, tabOK C.prog laid p)
    (walk : ∀ (W : World) (args : Array Value), GlobOK W (fun _ => True) → Args C.prog W fn.params.toList args.toList → Calls C.prog f args W fun e W' => e = .returned (.bool true) ∧ Below W.heap.size W W') :
    ReturnsInHanded {} C os f .any (fun w args => (s.pre enc C.prog fn [] false w args ∧ laidMetH C.prog laid w) ∧ sizedMet enc C.prog fn (OpenSpec.ofChange s) false w args) (s.post enc C.prog fn false true false false) := by
  refine returnsInHanded_of_change_and (X := fun w _ => laidMetH C.prog laid w) (fun _ _ _ hh h => laidMetH.of_heap hh h) own started noInit hfn witness ?_
  intro W base args ds gs before hval hW _ hsz hlaid _
  have hW' := hW
  obtain ⟨p, q, hA, hV, rfl, _, _⟩ := hW
  rw [hvars] at hV
  obtain ⟨rfl, rfl⟩ := trodVars_none hV
  have hvt : s.plain.varTypes C.prog = [] := by simp [ChangeSpec.plain, DataSpec.varTypes, hvars]
  rw [hvt, List.append_nil, List.append_nil] at hsz
  obtain ⟨ha, hlen⟩ := args_of_trodAll hA (fun n hn => by simpa using List.all_eq_true.1 hsz n hn) (fun j t v ht hv => cells_of_okWide (hval j t v (by simpa using ht) (by simpa using hv)))
  refine (walk W args (globOK_of hlaid hp ht) ha).mono fun e W' ⟨he, bel⟩ => ?_
  subst he
  have hs := hspec ds hlen
  refine ⟨_, rfl, ds, [], p ++ [], [], p, [], hW', ?_, ?_, ?_, bel.frame _, fun h => by cases h⟩
  · rw [List.append_nil, hs, hres]
    exact trodAll_mk1 (shut_bool hb _)
  · rw [List.append_nil, hs]
    exact trodAll_below laidO bel hread hA
  · rw [List.append_nil, hs, hvars]
    rfl
end Go.Proofs.YtcaokljobfkajaaDoor

/-
  The table of package variables is what the rows list; the door's own run meets it.
-/
namespace Go.Proofs.YtcaokljobfkajaaDoor
open Go.RowKit
set_option linter.unusedVariables false
set_option linter.unusedSimpArgs false

abbrev laidL : List (String × DataW Unit) := [("compositor/operator.rules", Rows.laid_compositor_operator_rules), ("compositor/blend.names", Rows.laid_compositor_blend_names)]
set_option maxRecDepth 100000 in
theorem tab_ok : ∀ p ∈ globTab, tabOK Tryd.prog laidL p := by
  intro p hp
  simp only [globTab, List.mem_cons, List.not_mem_nil, or_false] at hp
  rcases hp with rfl | rfl
  · exact ⟨("compositor/blend.names", Rows.laid_compositor_blend_names), 117, (List.mem_cons_of_mem _ List.mem_cons_self), by kernel_rfl, by kernel_rfl, by kernel_rfl⟩
  · exact ⟨("compositor/operator.rules", Rows.laid_compositor_operator_rules), 118, List.mem_cons_self, by kernel_rfl, by kernel_rfl, by kernel_rfl⟩
theorem laid_plain : (laidL.all fun x => x.2.handleName?.isNone) = true := by kernel_rfl
set_option maxRecDepth 100000 in
theorem door_met (os : Os) (args : Array Value) : laidMetH Tryd.prog laidL ((World.doorLaid Tryd.prog 400 os).forCall (fun _ _ => 0) ⟨#[], args, []⟩).memory :=
  laidMetH_of_parts3 (fuel := 8) (laidMet_of_run' 8 (by kernel_rfl) (by kernel_rfl)) (by kernel_rfl) (by kernel_rfl)
end Go.Proofs.YtcaokljobfkajaaDoor

