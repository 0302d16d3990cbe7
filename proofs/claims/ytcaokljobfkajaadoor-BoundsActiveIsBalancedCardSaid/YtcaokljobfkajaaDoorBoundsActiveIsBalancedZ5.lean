/-
  Part 5 of what BoundsActiveIsBalanced rests on.
-/
import Derived.Test.YtcaokljobfkajaaDoorBoundsActiveIsBalancedZ4
import Derived.Test.YtcaokljobfkajaaDoorBoundsActiveIsBalancedZ3
import Derived.Test.YtcaokljobfkajaaDoorBoundsActiveIsBalancedZ2
import Derived.Test.YtcaokljobfkajaaDoorRows
import Derived.JoinedOf
import Derived.KernelRfl
import Derived.Test.YtcaokljobfkajaaDoorBoundsActiveIsBalancedZ1
import Derived.MakeChecks
import Derived.LaidHandle
import Derived.LaidMore
import Derived.Stop.Joined
/-
  Boxes of all operations, as the program finds them.
-/
namespace Go.Proofs.YtcaokljobfkajaaDoor
open Go.RowKit
set_option linter.unusedVariables false
set_option linter.unusedSimpArgs false
attribute [local irreducible] Ans AnsO AnsG AnsN AnsI

set_option maxRecDepth 4000
theorem rcs_sets {l : List Rc} {k : Nat} (h : k < l.length) (r : Rc) : sets (rcs l) (k * 4) r.cells = rcs (l.set k r) := flat_sets (f := Rc.cells) (m := 4) (fun _ => rfl) h r
theorem rcs_take (l : List Rc) (k : Nat) : (rcs l).take (k * 4) = rcs (l.take k) := flat_take (f := Rc.cells) (m := 4) (fun _ => rfl) l k
theorem rcs_app (l m : List Rc) : rcs (l ++ m) = rcs l ++ rcs m := by simp [rcs]
theorem rcs_one (r : Rc) : rcs [r] = r.cells := by simp [rcs]
theorem repl_rcs : ∀ n : Nat, repl n Rc.zero.cells = rcs (List.replicate n Rc.zero)
  | 0 => rfl
  | n + 1 => by
    have h := repl_rcs n
    unfold repl at h ⊢
    rw [List.replicate_succ, List.flatten_cons, h, List.replicate_succ]
    rfl
def gamBb : Gam where
 pure := fun f xs =>
  if f = 33 then (match xs with | [.agg [.int _ bits, .int _ cx0, .int _ cy0, .int _ cx1, .int _ cy1, .int _ tw, .int _ th, .sl on oxs, .sl mn mxs, .sl pn pxs]] => some (RV.tup [RV.d (DV.int .i64 ((opsE bits ⟨cx0, cy0, cx1, cy1⟩ tw th (ints oxs) mn (toOps pxs)).1)), RV.d (DV.int .i64 ((opsE bits ⟨cx0, cy0, cx1, cy1⟩ tw th (ints oxs) mn (toOps pxs)).2))]) | _ => none) else
  if f = 11 then (match xs with | [.agg [.int _ bits, .int _ cx0, .int _ cy0, .int _ cx1, .int _ cy1, .int _ tw, .int _ th, .sl on oxs, .sl mn mxs, .sl pn pxs], .agg [.int _ okind, .int _ oimage, .int _ ox, .int _ oy, .int _ omask, .int _ omx, .int _ omy, .int _ oopac, .int _ ooper, .int _ omode, .bool oiso, .bool okno]] => some (RV.agg [DV.int .i64 ((imgR (⟨bits, ⟨cx0, cy0, cx1, cy1⟩, tw, th, ints oxs, toIms mxs, toOps pxs⟩ : Scr) (⟨okind, oimage, ox, oy, omask, omx, omy, oopac, ooper, omode, oiso, okno⟩ : Oq)).a), DV.int .i64 ((imgR (⟨bits, ⟨cx0, cy0, cx1, cy1⟩, tw, th, ints oxs, toIms mxs, toOps pxs⟩ : Scr) (⟨okind, oimage, ox, oy, omask, omx, omy, oopac, ooper, omode, oiso, okno⟩ : Oq)).b), DV.int .i64 ((imgR (⟨bits, ⟨cx0, cy0, cx1, cy1⟩, tw, th, ints oxs, toIms mxs, toOps pxs⟩ : Scr) (⟨okind, oimage, ox, oy, omask, omx, omy, oopac, ooper, omode, oiso, okno⟩ : Oq)).c), DV.int .i64 ((imgR (⟨bits, ⟨cx0, cy0, cx1, cy1⟩, tw, th, ints oxs, toIms mxs, toOps pxs⟩ : Scr) (⟨okind, oimage, ox, oy, omask, omx, omy, oopac, ooper, omode, oiso, okno⟩ : Oq)).d)]) | _ => none) else
  if f = 34 then (match xs with | [.agg [.int _ bits, .int _ cx0, .int _ cy0, .int _ cx1, .int _ cy1, .int _ tw, .int _ th, .sl on oxs, .sl mn mxs, .sl pn pxs], .agg [.int _ okind, .int _ oimage, .int _ ox, .int _ oy, .int _ omask, .int _ omx, .int _ omy, .int _ oopac, .int _ ooper, .int _ omode, .bool oiso, .bool okno], .agg [.int _ ra, .int _ rb, .int _ rc_, .int _ rd]] => some (RV.agg [DV.int .i64 ((boxF (⟨bits, ⟨cx0, cy0, cx1, cy1⟩, tw, th, ints oxs, toIms mxs, toOps pxs⟩ : Scr) (⟨okind, oimage, ox, oy, omask, omx, omy, oopac, ooper, omode, oiso, okno⟩ : Oq) ⟨ra, rb, rc_, rd⟩).a), DV.int .i64 ((boxF (⟨bits, ⟨cx0, cy0, cx1, cy1⟩, tw, th, ints oxs, toIms mxs, toOps pxs⟩ : Scr) (⟨okind, oimage, ox, oy, omask, omx, omy, oopac, ooper, omode, oiso, okno⟩ : Oq) ⟨ra, rb, rc_, rd⟩).b), DV.int .i64 ((boxF (⟨bits, ⟨cx0, cy0, cx1, cy1⟩, tw, th, ints oxs, toIms mxs, toOps pxs⟩ : Scr) (⟨okind, oimage, ox, oy, omask, omx, omy, oopac, ooper, omode, oiso, okno⟩ : Oq) ⟨ra, rb, rc_, rd⟩).c), DV.int .i64 ((boxF (⟨bits, ⟨cx0, cy0, cx1, cy1⟩, tw, th, ints oxs, toIms mxs, toOps pxs⟩ : Scr) (⟨okind, oimage, ox, oy, omask, omx, omy, oopac, ooper, omode, oiso, okno⟩ : Oq) ⟨ra, rb, rc_, rd⟩).d)]) | _ => none) else
  if f = 35 then (match xs with | [.d (.sl n xs)] => some (RV.agg [DV.int .i64 ((hullL (toRcs xs)).a), DV.int .i64 ((hullL (toRcs xs)).b), DV.int .i64 ((hullL (toRcs xs)).c), DV.int .i64 ((hullL (toRcs xs)).d)]) | _ => none) else
  none
 modes := fun f =>
  none
 proc := fun f xs bs =>
  none
 iter := fun f cs =>
  none

def bounds_Boxes_ann (s : Scr) : Ann := let zz0 := (6, AV.one (Cl.ref 24 (((s.ops.length : Nat) : Int).toNat))); let zz1 := (DV.sl s.ops.length (ops s.ops)); let zz2 := (28, AV.one (Cl.d zz1)); let zz3 := (29, AV.one (Cl.d (DV.int .i64 ((s.ops.length : Nat) : Int)))); let zz4 := fun (k : Nat) => (30, AV.one (Cl.d (DV.int .i64 ((k : Nat) : Int)))); let zz5 := (1, Bx.cells [Cl.d (DV.int .i64 s.bits), Cl.d (DV.int .i64 s.c.a), Cl.d (DV.int .i64 s.c.b), Cl.d (DV.int .i64 s.c.c), Cl.d (DV.int .i64 s.c.d), Cl.d (DV.int .i64 s.tw), Cl.d (DV.int .i64 s.th), Cl.d (DV.sl s.ord.length (is s.ord)), Cl.d (DV.sl s.ims.length (ims s.ims)), Cl.d zz1]); (Ann.seq Ann.leaf (Ann.seq Ann.leaf (Ann.seq Ann.leaf (Ann.seq Ann.leaf (Ann.seq Ann.leaf (Ann.seq (Ann.seq Ann.leaf (Ann.loop ⟨Nat, fun k => k ≤ s.ops.length, fun k => ⟨[(1, AV.one (Cl.ptr 1 0)), zz0, (7, AV.one (Cl.ref 9001 ((runB s k).2.1.length))), (8, AV.one (Cl.ref 9002 ((runB s k).2.2.length))), zz2, zz3, (zz4 k)], [zz5, (24, Bx.row 33 4 (rcs (runB s k).1)), (9001, Bx.row 3 1 (is (runB s k).2.1)), (9002, Bx.row 33 4 (rcs (runB s k).2.2))]⟩, fun k => s.ops.length - k⟩ fun k => (Ann.seq Ann.leaf (Ann.seq Ann.leaf (Ann.seq (Ann.seq Ann.leaf (Ann.cut ⟨Bst, fun y : Bst => ((s.ops[k]?).getD popO).kind ≠ 2 ∧ y = stepA s k ((s.ops[k]?).getD popO) (runB s k), fun y : Bst => ⟨[(1, AV.one (Cl.ptr 1 0)), zz0, (7, AV.one (Cl.ref 9001 y.2.1.length)), (8, AV.one (Cl.ref 9002 y.2.2.length)), (9, AV.one (Cl.d (DV.int .i64 ((k : Nat) : Int)))), zz2, zz3, (zz4 k)], [zz5, (24, Bx.row 33 4 (rcs y.1)), (9001, Bx.row 3 1 (is y.2.1)), (9002, Bx.row 33 4 (rcs y.2.2))]⟩, fun y : Bst => 0⟩ Ann.leaf fun y => Ann.leaf)) Ann.leaf))))) Ann.leaf))))))
theorem bounds_Boxes_vc (s : Scr) : vcg Tryd.prog gamBb 115 (bodyOf Tryd.f15) (bounds_Boxes_ann s) kn0 (start [RV.agg [DV.int .i64 s.bits, DV.int .i64 s.c.a, DV.int .i64 s.c.b, DV.int .i64 s.c.c, DV.int .i64 s.c.d, DV.int .i64 s.tw, DV.int .i64 s.th, DV.sl s.ord.length (is s.ord), DV.sl s.ims.length (ims s.ims), DV.sl s.ops.length (ops s.ops)]]) (post Tryd.prog Tryd.f15.results.toList (· = RV.tup [RV.d (DV.sl ((boxesS s).1.length) (rcs (boxesS s).1)), RV.d (DV.int .i64 ((boxesS s).2))])) =
  (let zz0 := [DV.int .i64 s.bits, DV.int .i64 s.c.a, DV.int .i64 s.c.b, DV.int .i64 s.c.c, DV.int .i64 s.c.d, DV.int .i64 s.tw, DV.int .i64 s.th, DV.sl s.ord.length (is s.ord), DV.sl s.ims.length (ims s.ims), DV.sl s.ops.length (ops s.ops)]; let zz1 := (DV.int .i64 ((opsE s.bits s.c s.tw s.th (ints (is s.ord)) s.ims.length (toOps (ops s.ops))).1)); let zz2 := [RV.d (DV.sl ((boxesS s).1.length) (rcs (boxesS s).1)), RV.d (DV.int .i64 ((boxesS s).2))]; let zz3 := (((s.ops.length : Nat) : Int).toNat = ((s.ops.length : Nat) : Int).toNat); let zz4 := (DV.sl s.ops.length (ops s.ops) = DV.sl s.ops.length (ops s.ops)); let zz5 := (DV.int .i64 ((s.ops.length : Nat) : Int) = DV.int .i64 ((s.ops.length : Nat) : Int)); let zz6 := (zz0 = zz0); let zz7 := [DV.int .i64 0, DV.int .i64 0, DV.int .i64 0, DV.int .i64 0]; let zz8 := fun (k : Nat) => fun (k' : Nat) => (s.ops.length - k' < s.ops.length - k); let zz9 := fun (k : Nat) => fun (k' : Nat) => (DV.int .i64 (IntKind.wrap .i64 (((k : Nat) : Int) + (1 : Int))) = DV.int .i64 ((k' : Nat) : Int)); let zz10 := fun (k : Nat) => [DV.int .i64 (nAt (ops s.ops) (((k : Nat) : Int).toNat * 12)), DV.int .i64 (nAt (ops s.ops) (((k : Nat) : Int).toNat * 12 + 1)), DV.int .i64 (nAt (ops s.ops) (((k : Nat) : Int).toNat * 12 + 1 + 1)), DV.int .i64 (nAt (ops s.ops) (((k : Nat) : Int).toNat * 12 + 1 + 1 + 1)), DV.int .i64 (nAt (ops s.ops) (((k : Nat) : Int).toNat * 12 + 1 + 1 + 1 + 1)), DV.int .i64 (nAt (ops s.ops) (((k : Nat) : Int).toNat * 12 + 1 + 1 + 1 + 1 + 1)), DV.int .i64 (nAt (ops s.ops) (((k : Nat) : Int).toNat * 12 + 1 + 1 + 1 + 1 + 1 + 1)), DV.int .u16 (nAt (ops s.ops) (((k : Nat) : Int).toNat * 12 + 1 + 1 + 1 + 1 + 1 + 1 + 1)), DV.int .i64 (nAt (ops s.ops) (((k : Nat) : Int).toNat * 12 + 1 + 1 + 1 + 1 + 1 + 1 + 1 + 1)), DV.int .i64 (nAt (ops s.ops) (((k : Nat) : Int).toNat * 12 + 1 + 1 + 1 + 1 + 1 + 1 + 1 + 1 + 1)), DV.bool (bAt (ops s.ops) (((k : Nat) : Int).toNat * 12 + 1 + 1 + 1 + 1 + 1 + 1 + 1 + 1 + 1 + 1)), DV.bool (bAt (ops s.ops) (((k : Nat) : Int).toNat * 12 + 1 + 1 + 1 + 1 + 1 + 1 + 1 + 1 + 1 + 1 + 1))]; let zz11 := fun (k : Nat) => [DV.int .i64 ((imgR (⟨s.bits, s.c, s.tw, s.th, ints (is s.ord), toIms (ims s.ims), toOps (ops s.ops)⟩ : Scr) (⟨(nAt (ops s.ops) (((k : Nat) : Int).toNat * 12)), (nAt (ops s.ops) (((k : Nat) : Int).toNat * 12 + 1)), (nAt (ops s.ops) (((k : Nat) : Int).toNat * 12 + 1 + 1)), (nAt (ops s.ops) (((k : Nat) : Int).toNat * 12 + 1 + 1 + 1)), (nAt (ops s.ops) (((k : Nat) : Int).toNat * 12 + 1 + 1 + 1 + 1)), (nAt (ops s.ops) (((k : Nat) : Int).toNat * 12 + 1 + 1 + 1 + 1 + 1)), (nAt (ops s.ops) (((k : Nat) : Int).toNat * 12 + 1 + 1 + 1 + 1 + 1 + 1)), (nAt (ops s.ops) (((k : Nat) : Int).toNat * 12 + 1 + 1 + 1 + 1 + 1 + 1 + 1)), (nAt (ops s.ops) (((k : Nat) : Int).toNat * 12 + 1 + 1 + 1 + 1 + 1 + 1 + 1 + 1)), (nAt (ops s.ops) (((k : Nat) : Int).toNat * 12 + 1 + 1 + 1 + 1 + 1 + 1 + 1 + 1 + 1)), (bAt (ops s.ops) (((k : Nat) : Int).toNat * 12 + 1 + 1 + 1 + 1 + 1 + 1 + 1 + 1 + 1 + 1)), (bAt (ops s.ops) (((k : Nat) : Int).toNat * 12 + 1 + 1 + 1 + 1 + 1 + 1 + 1 + 1 + 1 + 1 + 1))⟩ : Oq)).a), DV.int .i64 ((imgR (⟨s.bits, s.c, s.tw, s.th, ints (is s.ord), toIms (ims s.ims), toOps (ops s.ops)⟩ : Scr) (⟨(nAt (ops s.ops) (((k : Nat) : Int).toNat * 12)), (nAt (ops s.ops) (((k : Nat) : Int).toNat * 12 + 1)), (nAt (ops s.ops) (((k : Nat) : Int).toNat * 12 + 1 + 1)), (nAt (ops s.ops) (((k : Nat) : Int).toNat * 12 + 1 + 1 + 1)), (nAt (ops s.ops) (((k : Nat) : Int).toNat * 12 + 1 + 1 + 1 + 1)), (nAt (ops s.ops) (((k : Nat) : Int).toNat * 12 + 1 + 1 + 1 + 1 + 1)), (nAt (ops s.ops) (((k : Nat) : Int).toNat * 12 + 1 + 1 + 1 + 1 + 1 + 1)), (nAt (ops s.ops) (((k : Nat) : Int).toNat * 12 + 1 + 1 + 1 + 1 + 1 + 1 + 1)), (nAt (ops s.ops) (((k : Nat) : Int).toNat * 12 + 1 + 1 + 1 + 1 + 1 + 1 + 1 + 1)), (nAt (ops s.ops) (((k : Nat) : Int).toNat * 12 + 1 + 1 + 1 + 1 + 1 + 1 + 1 + 1 + 1)), (bAt (ops s.ops) (((k : Nat) : Int).toNat * 12 + 1 + 1 + 1 + 1 + 1 + 1 + 1 + 1 + 1 + 1)), (bAt (ops s.ops) (((k : Nat) : Int).toNat * 12 + 1 + 1 + 1 + 1 + 1 + 1 + 1 + 1 + 1 + 1 + 1))⟩ : Oq)).b), DV.int .i64 ((imgR (⟨s.bits, s.c, s.tw, s.th, ints (is s.ord), toIms (ims s.ims), toOps (ops s.ops)⟩ : Scr) (⟨(nAt (ops s.ops) (((k : Nat) : Int).toNat * 12)), (nAt (ops s.ops) (((k : Nat) : Int).toNat * 12 + 1)), (nAt (ops s.ops) (((k : Nat) : Int).toNat * 12 + 1 + 1)), (nAt (ops s.ops) (((k : Nat) : Int).toNat * 12 + 1 + 1 + 1)), (nAt (ops s.ops) (((k : Nat) : Int).toNat * 12 + 1 + 1 + 1 + 1)), (nAt (ops s.ops) (((k : Nat) : Int).toNat * 12 + 1 + 1 + 1 + 1 + 1)), (nAt (ops s.ops) (((k : Nat) : Int).toNat * 12 + 1 + 1 + 1 + 1 + 1 + 1)), (nAt (ops s.ops) (((k : Nat) : Int).toNat * 12 + 1 + 1 + 1 + 1 + 1 + 1 + 1)), (nAt (ops s.ops) (((k : Nat) : Int).toNat * 12 + 1 + 1 + 1 + 1 + 1 + 1 + 1 + 1)), (nAt (ops s.ops) (((k : Nat) : Int).toNat * 12 + 1 + 1 + 1 + 1 + 1 + 1 + 1 + 1 + 1)), (bAt (ops s.ops) (((k : Nat) : Int).toNat * 12 + 1 + 1 + 1 + 1 + 1 + 1 + 1 + 1 + 1 + 1)), (bAt (ops s.ops) (((k : Nat) : Int).toNat * 12 + 1 + 1 + 1 + 1 + 1 + 1 + 1 + 1 + 1 + 1 + 1))⟩ : Oq)).c), DV.int .i64 ((imgR (⟨s.bits, s.c, s.tw, s.th, ints (is s.ord), toIms (ims s.ims), toOps (ops s.ops)⟩ : Scr) (⟨(nAt (ops s.ops) (((k : Nat) : Int).toNat * 12)), (nAt (ops s.ops) (((k : Nat) : Int).toNat * 12 + 1)), (nAt (ops s.ops) (((k : Nat) : Int).toNat * 12 + 1 + 1)), (nAt (ops s.ops) (((k : Nat) : Int).toNat * 12 + 1 + 1 + 1)), (nAt (ops s.ops) (((k : Nat) : Int).toNat * 12 + 1 + 1 + 1 + 1)), (nAt (ops s.ops) (((k : Nat) : Int).toNat * 12 + 1 + 1 + 1 + 1 + 1)), (nAt (ops s.ops) (((k : Nat) : Int).toNat * 12 + 1 + 1 + 1 + 1 + 1 + 1)), (nAt (ops s.ops) (((k : Nat) : Int).toNat * 12 + 1 + 1 + 1 + 1 + 1 + 1 + 1)), (nAt (ops s.ops) (((k : Nat) : Int).toNat * 12 + 1 + 1 + 1 + 1 + 1 + 1 + 1 + 1)), (nAt (ops s.ops) (((k : Nat) : Int).toNat * 12 + 1 + 1 + 1 + 1 + 1 + 1 + 1 + 1 + 1)), (bAt (ops s.ops) (((k : Nat) : Int).toNat * 12 + 1 + 1 + 1 + 1 + 1 + 1 + 1 + 1 + 1 + 1)), (bAt (ops s.ops) (((k : Nat) : Int).toNat * 12 + 1 + 1 + 1 + 1 + 1 + 1 + 1 + 1 + 1 + 1 + 1))⟩ : Oq)).d)]; let zz12 := fun (k : Nat) => [DV.int .i64 ((boxF (⟨s.bits, s.c, s.tw, s.th, ints (is s.ord), toIms (ims s.ims), toOps (ops s.ops)⟩ : Scr) (⟨(nAt (ops s.ops) (((k : Nat) : Int).toNat * 12)), (nAt (ops s.ops) (((k : Nat) : Int).toNat * 12 + 1)), (nAt (ops s.ops) (((k : Nat) : Int).toNat * 12 + 1 + 1)), (nAt (ops s.ops) (((k : Nat) : Int).toNat * 12 + 1 + 1 + 1)), (nAt (ops s.ops) (((k : Nat) : Int).toNat * 12 + 1 + 1 + 1 + 1)), (nAt (ops s.ops) (((k : Nat) : Int).toNat * 12 + 1 + 1 + 1 + 1 + 1)), (nAt (ops s.ops) (((k : Nat) : Int).toNat * 12 + 1 + 1 + 1 + 1 + 1 + 1)), (nAt (ops s.ops) (((k : Nat) : Int).toNat * 12 + 1 + 1 + 1 + 1 + 1 + 1 + 1)), (nAt (ops s.ops) (((k : Nat) : Int).toNat * 12 + 1 + 1 + 1 + 1 + 1 + 1 + 1 + 1)), (nAt (ops s.ops) (((k : Nat) : Int).toNat * 12 + 1 + 1 + 1 + 1 + 1 + 1 + 1 + 1 + 1)), (bAt (ops s.ops) (((k : Nat) : Int).toNat * 12 + 1 + 1 + 1 + 1 + 1 + 1 + 1 + 1 + 1 + 1)), (bAt (ops s.ops) (((k : Nat) : Int).toNat * 12 + 1 + 1 + 1 + 1 + 1 + 1 + 1 + 1 + 1 + 1 + 1))⟩ : Oq) (imgR (⟨s.bits, s.c, s.tw, s.th, ints (is s.ord), toIms (ims s.ims), toOps (ops s.ops)⟩ : Scr) (⟨(nAt (ops s.ops) (((k : Nat) : Int).toNat * 12)), (nAt (ops s.ops) (((k : Nat) : Int).toNat * 12 + 1)), (nAt (ops s.ops) (((k : Nat) : Int).toNat * 12 + 1 + 1)), (nAt (ops s.ops) (((k : Nat) : Int).toNat * 12 + 1 + 1 + 1)), (nAt (ops s.ops) (((k : Nat) : Int).toNat * 12 + 1 + 1 + 1 + 1)), (nAt (ops s.ops) (((k : Nat) : Int).toNat * 12 + 1 + 1 + 1 + 1 + 1)), (nAt (ops s.ops) (((k : Nat) : Int).toNat * 12 + 1 + 1 + 1 + 1 + 1 + 1)), (nAt (ops s.ops) (((k : Nat) : Int).toNat * 12 + 1 + 1 + 1 + 1 + 1 + 1 + 1)), (nAt (ops s.ops) (((k : Nat) : Int).toNat * 12 + 1 + 1 + 1 + 1 + 1 + 1 + 1 + 1)), (nAt (ops s.ops) (((k : Nat) : Int).toNat * 12 + 1 + 1 + 1 + 1 + 1 + 1 + 1 + 1 + 1)), (bAt (ops s.ops) (((k : Nat) : Int).toNat * 12 + 1 + 1 + 1 + 1 + 1 + 1 + 1 + 1 + 1 + 1)), (bAt (ops s.ops) (((k : Nat) : Int).toNat * 12 + 1 + 1 + 1 + 1 + 1 + 1 + 1 + 1 + 1 + 1 + 1))⟩ : Oq))).a), DV.int .i64 ((boxF (⟨s.bits, s.c, s.tw, s.th, ints (is s.ord), toIms (ims s.ims), toOps (ops s.ops)⟩ : Scr) (⟨(nAt (ops s.ops) (((k : Nat) : Int).toNat * 12)), (nAt (ops s.ops) (((k : Nat) : Int).toNat * 12 + 1)), (nAt (ops s.ops) (((k : Nat) : Int).toNat * 12 + 1 + 1)), (nAt (ops s.ops) (((k : Nat) : Int).toNat * 12 + 1 + 1 + 1)), (nAt (ops s.ops) (((k : Nat) : Int).toNat * 12 + 1 + 1 + 1 + 1)), (nAt (ops s.ops) (((k : Nat) : Int).toNat * 12 + 1 + 1 + 1 + 1 + 1)), (nAt (ops s.ops) (((k : Nat) : Int).toNat * 12 + 1 + 1 + 1 + 1 + 1 + 1)), (nAt (ops s.ops) (((k : Nat) : Int).toNat * 12 + 1 + 1 + 1 + 1 + 1 + 1 + 1)), (nAt (ops s.ops) (((k : Nat) : Int).toNat * 12 + 1 + 1 + 1 + 1 + 1 + 1 + 1 + 1)), (nAt (ops s.ops) (((k : Nat) : Int).toNat * 12 + 1 + 1 + 1 + 1 + 1 + 1 + 1 + 1 + 1)), (bAt (ops s.ops) (((k : Nat) : Int).toNat * 12 + 1 + 1 + 1 + 1 + 1 + 1 + 1 + 1 + 1 + 1)), (bAt (ops s.ops) (((k : Nat) : Int).toNat * 12 + 1 + 1 + 1 + 1 + 1 + 1 + 1 + 1 + 1 + 1 + 1))⟩ : Oq) (imgR (⟨s.bits, s.c, s.tw, s.th, ints (is s.ord), toIms (ims s.ims), toOps (ops s.ops)⟩ : Scr) (⟨(nAt (ops s.ops) (((k : Nat) : Int).toNat * 12)), (nAt (ops s.ops) (((k : Nat) : Int).toNat * 12 + 1)), (nAt (ops s.ops) (((k : Nat) : Int).toNat * 12 + 1 + 1)), (nAt (ops s.ops) (((k : Nat) : Int).toNat * 12 + 1 + 1 + 1)), (nAt (ops s.ops) (((k : Nat) : Int).toNat * 12 + 1 + 1 + 1 + 1)), (nAt (ops s.ops) (((k : Nat) : Int).toNat * 12 + 1 + 1 + 1 + 1 + 1)), (nAt (ops s.ops) (((k : Nat) : Int).toNat * 12 + 1 + 1 + 1 + 1 + 1 + 1)), (nAt (ops s.ops) (((k : Nat) : Int).toNat * 12 + 1 + 1 + 1 + 1 + 1 + 1 + 1)), (nAt (ops s.ops) (((k : Nat) : Int).toNat * 12 + 1 + 1 + 1 + 1 + 1 + 1 + 1 + 1)), (nAt (ops s.ops) (((k : Nat) : Int).toNat * 12 + 1 + 1 + 1 + 1 + 1 + 1 + 1 + 1 + 1)), (bAt (ops s.ops) (((k : Nat) : Int).toNat * 12 + 1 + 1 + 1 + 1 + 1 + 1 + 1 + 1 + 1 + 1)), (bAt (ops s.ops) (((k : Nat) : Int).toNat * 12 + 1 + 1 + 1 + 1 + 1 + 1 + 1 + 1 + 1 + 1 + 1))⟩ : Oq))).b), DV.int .i64 ((boxF (⟨s.bits, s.c, s.tw, s.th, ints (is s.ord), toIms (ims s.ims), toOps (ops s.ops)⟩ : Scr) (⟨(nAt (ops s.ops) (((k : Nat) : Int).toNat * 12)), (nAt (ops s.ops) (((k : Nat) : Int).toNat * 12 + 1)), (nAt (ops s.ops) (((k : Nat) : Int).toNat * 12 + 1 + 1)), (nAt (ops s.ops) (((k : Nat) : Int).toNat * 12 + 1 + 1 + 1)), (nAt (ops s.ops) (((k : Nat) : Int).toNat * 12 + 1 + 1 + 1 + 1)), (nAt (ops s.ops) (((k : Nat) : Int).toNat * 12 + 1 + 1 + 1 + 1 + 1)), (nAt (ops s.ops) (((k : Nat) : Int).toNat * 12 + 1 + 1 + 1 + 1 + 1 + 1)), (nAt (ops s.ops) (((k : Nat) : Int).toNat * 12 + 1 + 1 + 1 + 1 + 1 + 1 + 1)), (nAt (ops s.ops) (((k : Nat) : Int).toNat * 12 + 1 + 1 + 1 + 1 + 1 + 1 + 1 + 1)), (nAt (ops s.ops) (((k : Nat) : Int).toNat * 12 + 1 + 1 + 1 + 1 + 1 + 1 + 1 + 1 + 1)), (bAt (ops s.ops) (((k : Nat) : Int).toNat * 12 + 1 + 1 + 1 + 1 + 1 + 1 + 1 + 1 + 1 + 1)), (bAt (ops s.ops) (((k : Nat) : Int).toNat * 12 + 1 + 1 + 1 + 1 + 1 + 1 + 1 + 1 + 1 + 1 + 1))⟩ : Oq) (imgR (⟨s.bits, s.c, s.tw, s.th, ints (is s.ord), toIms (ims s.ims), toOps (ops s.ops)⟩ : Scr) (⟨(nAt (ops s.ops) (((k : Nat) : Int).toNat * 12)), (nAt (ops s.ops) (((k : Nat) : Int).toNat * 12 + 1)), (nAt (ops s.ops) (((k : Nat) : Int).toNat * 12 + 1 + 1)), (nAt (ops s.ops) (((k : Nat) : Int).toNat * 12 + 1 + 1 + 1)), (nAt (ops s.ops) (((k : Nat) : Int).toNat * 12 + 1 + 1 + 1 + 1)), (nAt (ops s.ops) (((k : Nat) : Int).toNat * 12 + 1 + 1 + 1 + 1 + 1)), (nAt (ops s.ops) (((k : Nat) : Int).toNat * 12 + 1 + 1 + 1 + 1 + 1 + 1)), (nAt (ops s.ops) (((k : Nat) : Int).toNat * 12 + 1 + 1 + 1 + 1 + 1 + 1 + 1)), (nAt (ops s.ops) (((k : Nat) : Int).toNat * 12 + 1 + 1 + 1 + 1 + 1 + 1 + 1 + 1)), (nAt (ops s.ops) (((k : Nat) : Int).toNat * 12 + 1 + 1 + 1 + 1 + 1 + 1 + 1 + 1 + 1)), (bAt (ops s.ops) (((k : Nat) : Int).toNat * 12 + 1 + 1 + 1 + 1 + 1 + 1 + 1 + 1 + 1 + 1)), (bAt (ops s.ops) (((k : Nat) : Int).toNat * 12 + 1 + 1 + 1 + 1 + 1 + 1 + 1 + 1 + 1 + 1 + 1))⟩ : Oq))).c), DV.int .i64 ((boxF (⟨s.bits, s.c, s.tw, s.th, ints (is s.ord), toIms (ims s.ims), toOps (ops s.ops)⟩ : Scr) (⟨(nAt (ops s.ops) (((k : Nat) : Int).toNat * 12)), (nAt (ops s.ops) (((k : Nat) : Int).toNat * 12 + 1)), (nAt (ops s.ops) (((k : Nat) : Int).toNat * 12 + 1 + 1)), (nAt (ops s.ops) (((k : Nat) : Int).toNat * 12 + 1 + 1 + 1)), (nAt (ops s.ops) (((k : Nat) : Int).toNat * 12 + 1 + 1 + 1 + 1)), (nAt (ops s.ops) (((k : Nat) : Int).toNat * 12 + 1 + 1 + 1 + 1 + 1)), (nAt (ops s.ops) (((k : Nat) : Int).toNat * 12 + 1 + 1 + 1 + 1 + 1 + 1)), (nAt (ops s.ops) (((k : Nat) : Int).toNat * 12 + 1 + 1 + 1 + 1 + 1 + 1 + 1)), (nAt (ops s.ops) (((k : Nat) : Int).toNat * 12 + 1 + 1 + 1 + 1 + 1 + 1 + 1 + 1)), (nAt (ops s.ops) (((k : Nat) : Int).toNat * 12 + 1 + 1 + 1 + 1 + 1 + 1 + 1 + 1 + 1)), (bAt (ops s.ops) (((k : Nat) : Int).toNat * 12 + 1 + 1 + 1 + 1 + 1 + 1 + 1 + 1 + 1 + 1)), (bAt (ops s.ops) (((k : Nat) : Int).toNat * 12 + 1 + 1 + 1 + 1 + 1 + 1 + 1 + 1 + 1 + 1 + 1))⟩ : Oq) (imgR (⟨s.bits, s.c, s.tw, s.th, ints (is s.ord), toIms (ims s.ims), toOps (ops s.ops)⟩ : Scr) (⟨(nAt (ops s.ops) (((k : Nat) : Int).toNat * 12)), (nAt (ops s.ops) (((k : Nat) : Int).toNat * 12 + 1)), (nAt (ops s.ops) (((k : Nat) : Int).toNat * 12 + 1 + 1)), (nAt (ops s.ops) (((k : Nat) : Int).toNat * 12 + 1 + 1 + 1)), (nAt (ops s.ops) (((k : Nat) : Int).toNat * 12 + 1 + 1 + 1 + 1)), (nAt (ops s.ops) (((k : Nat) : Int).toNat * 12 + 1 + 1 + 1 + 1 + 1)), (nAt (ops s.ops) (((k : Nat) : Int).toNat * 12 + 1 + 1 + 1 + 1 + 1 + 1)), (nAt (ops s.ops) (((k : Nat) : Int).toNat * 12 + 1 + 1 + 1 + 1 + 1 + 1 + 1)), (nAt (ops s.ops) (((k : Nat) : Int).toNat * 12 + 1 + 1 + 1 + 1 + 1 + 1 + 1 + 1)), (nAt (ops s.ops) (((k : Nat) : Int).toNat * 12 + 1 + 1 + 1 + 1 + 1 + 1 + 1 + 1 + 1)), (bAt (ops s.ops) (((k : Nat) : Int).toNat * 12 + 1 + 1 + 1 + 1 + 1 + 1 + 1 + 1 + 1 + 1)), (bAt (ops s.ops) (((k : Nat) : Int).toNat * 12 + 1 + 1 + 1 + 1 + 1 + 1 + 1 + 1 + 1 + 1 + 1))⟩ : Oq))).d)]; let zz13 := fun (k : Nat) => (0 ≤ ((k : Nat) : Int) ∧ ((k : Nat) : Int) < ((((s.ops.length : Nat) : Int).toNat : Nat) : Int)); let zz14 := fun (k : Nat) => (((k : Nat) : Int).toNat * 4 + 4 ≤ (rcs (runB s k).1).length); let zz15 := fun (k : Nat) => fun (y : Bst) => (((s.ops[k]?).getD popO).kind ≠ 2 ∧ y = stepA s k ((s.ops[k]?).getD popO) (runB s k)); let zz16 := fun (k : Nat) => (DV.int .i64 ((k : Nat) : Int) = DV.int .i64 ((k : Nat) : Int)); let zz17 := fun (k : Nat) => ((runB s k).2.1.length ≤ maxLen); let zz18 := fun (k : Nat) => ((runB s k).2.2.length ≤ maxLen); let zz19 := fun (k : Nat) => [DV.int .i64 ((boxF (⟨s.bits, s.c, s.tw, s.th, ints (is s.ord), toIms (ims s.ims), toOps (ops s.ops)⟩ : Scr) (⟨(nAt (ops s.ops) ((nAt (is (runB s k).2.1) ((IntKind.wrap .i64 ((((runB s k).2.1.length : Nat) : Int) - (1 : Int))).toNat * 1)).toNat * 12)), (nAt (ops s.ops) ((nAt (is (runB s k).2.1) ((IntKind.wrap .i64 ((((runB s k).2.1.length : Nat) : Int) - (1 : Int))).toNat * 1)).toNat * 12 + 1)), (nAt (ops s.ops) ((nAt (is (runB s k).2.1) ((IntKind.wrap .i64 ((((runB s k).2.1.length : Nat) : Int) - (1 : Int))).toNat * 1)).toNat * 12 + 1 + 1)), (nAt (ops s.ops) ((nAt (is (runB s k).2.1) ((IntKind.wrap .i64 ((((runB s k).2.1.length : Nat) : Int) - (1 : Int))).toNat * 1)).toNat * 12 + 1 + 1 + 1)), (nAt (ops s.ops) ((nAt (is (runB s k).2.1) ((IntKind.wrap .i64 ((((runB s k).2.1.length : Nat) : Int) - (1 : Int))).toNat * 1)).toNat * 12 + 1 + 1 + 1 + 1)), (nAt (ops s.ops) ((nAt (is (runB s k).2.1) ((IntKind.wrap .i64 ((((runB s k).2.1.length : Nat) : Int) - (1 : Int))).toNat * 1)).toNat * 12 + 1 + 1 + 1 + 1 + 1)), (nAt (ops s.ops) ((nAt (is (runB s k).2.1) ((IntKind.wrap .i64 ((((runB s k).2.1.length : Nat) : Int) - (1 : Int))).toNat * 1)).toNat * 12 + 1 + 1 + 1 + 1 + 1 + 1)), (nAt (ops s.ops) ((nAt (is (runB s k).2.1) ((IntKind.wrap .i64 ((((runB s k).2.1.length : Nat) : Int) - (1 : Int))).toNat * 1)).toNat * 12 + 1 + 1 + 1 + 1 + 1 + 1 + 1)), (nAt (ops s.ops) ((nAt (is (runB s k).2.1) ((IntKind.wrap .i64 ((((runB s k).2.1.length : Nat) : Int) - (1 : Int))).toNat * 1)).toNat * 12 + 1 + 1 + 1 + 1 + 1 + 1 + 1 + 1)), (nAt (ops s.ops) ((nAt (is (runB s k).2.1) ((IntKind.wrap .i64 ((((runB s k).2.1.length : Nat) : Int) - (1 : Int))).toNat * 1)).toNat * 12 + 1 + 1 + 1 + 1 + 1 + 1 + 1 + 1 + 1)), (bAt (ops s.ops) ((nAt (is (runB s k).2.1) ((IntKind.wrap .i64 ((((runB s k).2.1.length : Nat) : Int) - (1 : Int))).toNat * 1)).toNat * 12 + 1 + 1 + 1 + 1 + 1 + 1 + 1 + 1 + 1 + 1)), (bAt (ops s.ops) ((nAt (is (runB s k).2.1) ((IntKind.wrap .i64 ((((runB s k).2.1.length : Nat) : Int) - (1 : Int))).toNat * 1)).toNat * 12 + 1 + 1 + 1 + 1 + 1 + 1 + 1 + 1 + 1 + 1 + 1))⟩ : Oq) ⟨(nAt (rcs (runB s k).2.2) ((IntKind.wrap .i64 ((((runB s k).2.2.length : Nat) : Int) - (1 : Int))).toNat * 4)), (nAt (rcs (runB s k).2.2) ((IntKind.wrap .i64 ((((runB s k).2.2.length : Nat) : Int) - (1 : Int))).toNat * 4 + 1)), (nAt (rcs (runB s k).2.2) ((IntKind.wrap .i64 ((((runB s k).2.2.length : Nat) : Int) - (1 : Int))).toNat * 4 + 1 + 1)), (nAt (rcs (runB s k).2.2) ((IntKind.wrap .i64 ((((runB s k).2.2.length : Nat) : Int) - (1 : Int))).toNat * 4 + 1 + 1 + 1))⟩).a), DV.int .i64 ((boxF (⟨s.bits, s.c, s.tw, s.th, ints (is s.ord), toIms (ims s.ims), toOps (ops s.ops)⟩ : Scr) (⟨(nAt (ops s.ops) ((nAt (is (runB s k).2.1) ((IntKind.wrap .i64 ((((runB s k).2.1.length : Nat) : Int) - (1 : Int))).toNat * 1)).toNat * 12)), (nAt (ops s.ops) ((nAt (is (runB s k).2.1) ((IntKind.wrap .i64 ((((runB s k).2.1.length : Nat) : Int) - (1 : Int))).toNat * 1)).toNat * 12 + 1)), (nAt (ops s.ops) ((nAt (is (runB s k).2.1) ((IntKind.wrap .i64 ((((runB s k).2.1.length : Nat) : Int) - (1 : Int))).toNat * 1)).toNat * 12 + 1 + 1)), (nAt (ops s.ops) ((nAt (is (runB s k).2.1) ((IntKind.wrap .i64 ((((runB s k).2.1.length : Nat) : Int) - (1 : Int))).toNat * 1)).toNat * 12 + 1 + 1 + 1)), (nAt (ops s.ops) ((nAt (is (runB s k).2.1) ((IntKind.wrap .i64 ((((runB s k).2.1.length : Nat) : Int) - (1 : Int))).toNat * 1)).toNat * 12 + 1 + 1 + 1 + 1)), (nAt (ops s.ops) ((nAt (is (runB s k).2.1) ((IntKind.wrap .i64 ((((runB s k).2.1.length : Nat) : Int) - (1 : Int))).toNat * 1)).toNat * 12 + 1 + 1 + 1 + 1 + 1)), (nAt (ops s.ops) ((nAt (is (runB s k).2.1) ((IntKind.wrap .i64 ((((runB s k).2.1.length : Nat) : Int) - (1 : Int))).toNat * 1)).toNat * 12 + 1 + 1 + 1 + 1 + 1 + 1)), (nAt (ops s.ops) ((nAt (is (runB s k).2.1) ((IntKind.wrap .i64 ((((runB s k).2.1.length : Nat) : Int) - (1 : Int))).toNat * 1)).toNat * 12 + 1 + 1 + 1 + 1 + 1 + 1 + 1)), (nAt (ops s.ops) ((nAt (is (runB s k).2.1) ((IntKind.wrap .i64 ((((runB s k).2.1.length : Nat) : Int) - (1 : Int))).toNat * 1)).toNat * 12 + 1 + 1 + 1 + 1 + 1 + 1 + 1 + 1)), (nAt (ops s.ops) ((nAt (is (runB s k).2.1) ((IntKind.wrap .i64 ((((runB s k).2.1.length : Nat) : Int) - (1 : Int))).toNat * 1)).toNat * 12 + 1 + 1 + 1 + 1 + 1 + 1 + 1 + 1 + 1)), (bAt (ops s.ops) ((nAt (is (runB s k).2.1) ((IntKind.wrap .i64 ((((runB s k).2.1.length : Nat) : Int) - (1 : Int))).toNat * 1)).toNat * 12 + 1 + 1 + 1 + 1 + 1 + 1 + 1 + 1 + 1 + 1)), (bAt (ops s.ops) ((nAt (is (runB s k).2.1) ((IntKind.wrap .i64 ((((runB s k).2.1.length : Nat) : Int) - (1 : Int))).toNat * 1)).toNat * 12 + 1 + 1 + 1 + 1 + 1 + 1 + 1 + 1 + 1 + 1 + 1))⟩ : Oq) ⟨(nAt (rcs (runB s k).2.2) ((IntKind.wrap .i64 ((((runB s k).2.2.length : Nat) : Int) - (1 : Int))).toNat * 4)), (nAt (rcs (runB s k).2.2) ((IntKind.wrap .i64 ((((runB s k).2.2.length : Nat) : Int) - (1 : Int))).toNat * 4 + 1)), (nAt (rcs (runB s k).2.2) ((IntKind.wrap .i64 ((((runB s k).2.2.length : Nat) : Int) - (1 : Int))).toNat * 4 + 1 + 1)), (nAt (rcs (runB s k).2.2) ((IntKind.wrap .i64 ((((runB s k).2.2.length : Nat) : Int) - (1 : Int))).toNat * 4 + 1 + 1 + 1))⟩).b), DV.int .i64 ((boxF (⟨s.bits, s.c, s.tw, s.th, ints (is s.ord), toIms (ims s.ims), toOps (ops s.ops)⟩ : Scr) (⟨(nAt (ops s.ops) ((nAt (is (runB s k).2.1) ((IntKind.wrap .i64 ((((runB s k).2.1.length : Nat) : Int) - (1 : Int))).toNat * 1)).toNat * 12)), (nAt (ops s.ops) ((nAt (is (runB s k).2.1) ((IntKind.wrap .i64 ((((runB s k).2.1.length : Nat) : Int) - (1 : Int))).toNat * 1)).toNat * 12 + 1)), (nAt (ops s.ops) ((nAt (is (runB s k).2.1) ((IntKind.wrap .i64 ((((runB s k).2.1.length : Nat) : Int) - (1 : Int))).toNat * 1)).toNat * 12 + 1 + 1)), (nAt (ops s.ops) ((nAt (is (runB s k).2.1) ((IntKind.wrap .i64 ((((runB s k).2.1.length : Nat) : Int) - (1 : Int))).toNat * 1)).toNat * 12 + 1 + 1 + 1)), (nAt (ops s.ops) ((nAt (is (runB s k).2.1) ((IntKind.wrap .i64 ((((runB s k).2.1.length : Nat) : Int) - (1 : Int))).toNat * 1)).toNat * 12 + 1 + 1 + 1 + 1)), (nAt (ops s.ops) ((nAt (is (runB s k).2.1) ((IntKind.wrap .i64 ((((runB s k).2.1.length : Nat) : Int) - (1 : Int))).toNat * 1)).toNat * 12 + 1 + 1 + 1 + 1 + 1)), (nAt (ops s.ops) ((nAt (is (runB s k).2.1) ((IntKind.wrap .i64 ((((runB s k).2.1.length : Nat) : Int) - (1 : Int))).toNat * 1)).toNat * 12 + 1 + 1 + 1 + 1 + 1 + 1)), (nAt (ops s.ops) ((nAt (is (runB s k).2.1) ((IntKind.wrap .i64 ((((runB s k).2.1.length : Nat) : Int) - (1 : Int))).toNat * 1)).toNat * 12 + 1 + 1 + 1 + 1 + 1 + 1 + 1)), (nAt (ops s.ops) ((nAt (is (runB s k).2.1) ((IntKind.wrap .i64 ((((runB s k).2.1.length : Nat) : Int) - (1 : Int))).toNat * 1)).toNat * 12 + 1 + 1 + 1 + 1 + 1 + 1 + 1 + 1)), (nAt (ops s.ops) ((nAt (is (runB s k).2.1) ((IntKind.wrap .i64 ((((runB s k).2.1.length : Nat) : Int) - (1 : Int))).toNat * 1)).toNat * 12 + 1 + 1 + 1 + 1 + 1 + 1 + 1 + 1 + 1)), (bAt (ops s.ops) ((nAt (is (runB s k).2.1) ((IntKind.wrap .i64 ((((runB s k).2.1.length : Nat) : Int) - (1 : Int))).toNat * 1)).toNat * 12 + 1 + 1 + 1 + 1 + 1 + 1 + 1 + 1 + 1 + 1)), (bAt (ops s.ops) ((nAt (is (runB s k).2.1) ((IntKind.wrap .i64 ((((runB s k).2.1.length : Nat) : Int) - (1 : Int))).toNat * 1)).toNat * 12 + 1 + 1 + 1 + 1 + 1 + 1 + 1 + 1 + 1 + 1 + 1))⟩ : Oq) ⟨(nAt (rcs (runB s k).2.2) ((IntKind.wrap .i64 ((((runB s k).2.2.length : Nat) : Int) - (1 : Int))).toNat * 4)), (nAt (rcs (runB s k).2.2) ((IntKind.wrap .i64 ((((runB s k).2.2.length : Nat) : Int) - (1 : Int))).toNat * 4 + 1)), (nAt (rcs (runB s k).2.2) ((IntKind.wrap .i64 ((((runB s k).2.2.length : Nat) : Int) - (1 : Int))).toNat * 4 + 1 + 1)), (nAt (rcs (runB s k).2.2) ((IntKind.wrap .i64 ((((runB s k).2.2.length : Nat) : Int) - (1 : Int))).toNat * 4 + 1 + 1 + 1))⟩).c), DV.int .i64 ((boxF (⟨s.bits, s.c, s.tw, s.th, ints (is s.ord), toIms (ims s.ims), toOps (ops s.ops)⟩ : Scr) (⟨(nAt (ops s.ops) ((nAt (is (runB s k).2.1) ((IntKind.wrap .i64 ((((runB s k).2.1.length : Nat) : Int) - (1 : Int))).toNat * 1)).toNat * 12)), (nAt (ops s.ops) ((nAt (is (runB s k).2.1) ((IntKind.wrap .i64 ((((runB s k).2.1.length : Nat) : Int) - (1 : Int))).toNat * 1)).toNat * 12 + 1)), (nAt (ops s.ops) ((nAt (is (runB s k).2.1) ((IntKind.wrap .i64 ((((runB s k).2.1.length : Nat) : Int) - (1 : Int))).toNat * 1)).toNat * 12 + 1 + 1)), (nAt (ops s.ops) ((nAt (is (runB s k).2.1) ((IntKind.wrap .i64 ((((runB s k).2.1.length : Nat) : Int) - (1 : Int))).toNat * 1)).toNat * 12 + 1 + 1 + 1)), (nAt (ops s.ops) ((nAt (is (runB s k).2.1) ((IntKind.wrap .i64 ((((runB s k).2.1.length : Nat) : Int) - (1 : Int))).toNat * 1)).toNat * 12 + 1 + 1 + 1 + 1)), (nAt (ops s.ops) ((nAt (is (runB s k).2.1) ((IntKind.wrap .i64 ((((runB s k).2.1.length : Nat) : Int) - (1 : Int))).toNat * 1)).toNat * 12 + 1 + 1 + 1 + 1 + 1)), (nAt (ops s.ops) ((nAt (is (runB s k).2.1) ((IntKind.wrap .i64 ((((runB s k).2.1.length : Nat) : Int) - (1 : Int))).toNat * 1)).toNat * 12 + 1 + 1 + 1 + 1 + 1 + 1)), (nAt (ops s.ops) ((nAt (is (runB s k).2.1) ((IntKind.wrap .i64 ((((runB s k).2.1.length : Nat) : Int) - (1 : Int))).toNat * 1)).toNat * 12 + 1 + 1 + 1 + 1 + 1 + 1 + 1)), (nAt (ops s.ops) ((nAt (is (runB s k).2.1) ((IntKind.wrap .i64 ((((runB s k).2.1.length : Nat) : Int) - (1 : Int))).toNat * 1)).toNat * 12 + 1 + 1 + 1 + 1 + 1 + 1 + 1 + 1)), (nAt (ops s.ops) ((nAt (is (runB s k).2.1) ((IntKind.wrap .i64 ((((runB s k).2.1.length : Nat) : Int) - (1 : Int))).toNat * 1)).toNat * 12 + 1 + 1 + 1 + 1 + 1 + 1 + 1 + 1 + 1)), (bAt (ops s.ops) ((nAt (is (runB s k).2.1) ((IntKind.wrap .i64 ((((runB s k).2.1.length : Nat) : Int) - (1 : Int))).toNat * 1)).toNat * 12 + 1 + 1 + 1 + 1 + 1 + 1 + 1 + 1 + 1 + 1)), (bAt (ops s.ops) ((nAt (is (runB s k).2.1) ((IntKind.wrap .i64 ((((runB s k).2.1.length : Nat) : Int) - (1 : Int))).toNat * 1)).toNat * 12 + 1 + 1 + 1 + 1 + 1 + 1 + 1 + 1 + 1 + 1 + 1))⟩ : Oq) ⟨(nAt (rcs (runB s k).2.2) ((IntKind.wrap .i64 ((((runB s k).2.2.length : Nat) : Int) - (1 : Int))).toNat * 4)), (nAt (rcs (runB s k).2.2) ((IntKind.wrap .i64 ((((runB s k).2.2.length : Nat) : Int) - (1 : Int))).toNat * 4 + 1)), (nAt (rcs (runB s k).2.2) ((IntKind.wrap .i64 ((((runB s k).2.2.length : Nat) : Int) - (1 : Int))).toNat * 4 + 1 + 1)), (nAt (rcs (runB s k).2.2) ((IntKind.wrap .i64 ((((runB s k).2.2.length : Nat) : Int) - (1 : Int))).toNat * 4 + 1 + 1 + 1))⟩).d)]; let zz20 := fun (k : Nat) => fun (y : Bst) => [DV.int .i64 ((hullL (toRcs ([DV.int .i64 (nAt (rcs y.2.2) ((IntKind.wrap .i64 (((y.2.2.length : Nat) : Int) - (1 : Int))).toNat * 4)), DV.int .i64 (nAt (rcs y.2.2) ((IntKind.wrap .i64 (((y.2.2.length : Nat) : Int) - (1 : Int))).toNat * 4 + 1)), DV.int .i64 (nAt (rcs y.2.2) ((IntKind.wrap .i64 (((y.2.2.length : Nat) : Int) - (1 : Int))).toNat * 4 + 1 + 1)), DV.int .i64 (nAt (rcs y.2.2) ((IntKind.wrap .i64 (((y.2.2.length : Nat) : Int) - (1 : Int))).toNat * 4 + 1 + 1 + 1)), DV.int .i64 (nAt (rcs y.1) (((k : Nat) : Int).toNat * 4)), DV.int .i64 (nAt (rcs y.1) (((k : Nat) : Int).toNat * 4 + 1)), DV.int .i64 (nAt (rcs y.1) (((k : Nat) : Int).toNat * 4 + 1 + 1)), DV.int .i64 (nAt (rcs y.1) (((k : Nat) : Int).toNat * 4 + 1 + 1 + 1))]))).a), DV.int .i64 ((hullL (toRcs ([DV.int .i64 (nAt (rcs y.2.2) ((IntKind.wrap .i64 (((y.2.2.length : Nat) : Int) - (1 : Int))).toNat * 4)), DV.int .i64 (nAt (rcs y.2.2) ((IntKind.wrap .i64 (((y.2.2.length : Nat) : Int) - (1 : Int))).toNat * 4 + 1)), DV.int .i64 (nAt (rcs y.2.2) ((IntKind.wrap .i64 (((y.2.2.length : Nat) : Int) - (1 : Int))).toNat * 4 + 1 + 1)), DV.int .i64 (nAt (rcs y.2.2) ((IntKind.wrap .i64 (((y.2.2.length : Nat) : Int) - (1 : Int))).toNat * 4 + 1 + 1 + 1)), DV.int .i64 (nAt (rcs y.1) (((k : Nat) : Int).toNat * 4)), DV.int .i64 (nAt (rcs y.1) (((k : Nat) : Int).toNat * 4 + 1)), DV.int .i64 (nAt (rcs y.1) (((k : Nat) : Int).toNat * 4 + 1 + 1)), DV.int .i64 (nAt (rcs y.1) (((k : Nat) : Int).toNat * 4 + 1 + 1 + 1))]))).b), DV.int .i64 ((hullL (toRcs ([DV.int .i64 (nAt (rcs y.2.2) ((IntKind.wrap .i64 (((y.2.2.length : Nat) : Int) - (1 : Int))).toNat * 4)), DV.int .i64 (nAt (rcs y.2.2) ((IntKind.wrap .i64 (((y.2.2.length : Nat) : Int) - (1 : Int))).toNat * 4 + 1)), DV.int .i64 (nAt (rcs y.2.2) ((IntKind.wrap .i64 (((y.2.2.length : Nat) : Int) - (1 : Int))).toNat * 4 + 1 + 1)), DV.int .i64 (nAt (rcs y.2.2) ((IntKind.wrap .i64 (((y.2.2.length : Nat) : Int) - (1 : Int))).toNat * 4 + 1 + 1 + 1)), DV.int .i64 (nAt (rcs y.1) (((k : Nat) : Int).toNat * 4)), DV.int .i64 (nAt (rcs y.1) (((k : Nat) : Int).toNat * 4 + 1)), DV.int .i64 (nAt (rcs y.1) (((k : Nat) : Int).toNat * 4 + 1 + 1)), DV.int .i64 (nAt (rcs y.1) (((k : Nat) : Int).toNat * 4 + 1 + 1 + 1))]))).c), DV.int .i64 ((hullL (toRcs ([DV.int .i64 (nAt (rcs y.2.2) ((IntKind.wrap .i64 (((y.2.2.length : Nat) : Int) - (1 : Int))).toNat * 4)), DV.int .i64 (nAt (rcs y.2.2) ((IntKind.wrap .i64 (((y.2.2.length : Nat) : Int) - (1 : Int))).toNat * 4 + 1)), DV.int .i64 (nAt (rcs y.2.2) ((IntKind.wrap .i64 (((y.2.2.length : Nat) : Int) - (1 : Int))).toNat * 4 + 1 + 1)), DV.int .i64 (nAt (rcs y.2.2) ((IntKind.wrap .i64 (((y.2.2.length : Nat) : Int) - (1 : Int))).toNat * 4 + 1 + 1 + 1)), DV.int .i64 (nAt (rcs y.1) (((k : Nat) : Int).toNat * 4)), DV.int .i64 (nAt (rcs y.1) (((k : Nat) : Int).toNat * 4 + 1)), DV.int .i64 (nAt (rcs y.1) (((k : Nat) : Int).toNat * 4 + 1 + 1)), DV.int .i64 (nAt (rcs y.1) (((k : Nat) : Int).toNat * 4 + 1 + 1 + 1))]))).d)]; True ∧ True ∧ True ∧ True ∧ (Ans Tryd.prog 33 [RV.agg zz0] (RV.tup [RV.d zz1, RV.d (DV.int .i64 ((opsE s.bits s.c s.tw s.th (ints (is s.ord)) s.ims.length (toOps (ops s.ops))).2))])) ∧ True ∧ True ∧ True ∧ True ∧ True ∧ True ∧ True ∧ (((((opsE s.bits s.c s.tw s.th (ints (is s.ord)) s.ims.length (toOps (ops s.ops))).1) != (0 : Int)) = true → True ∧ True ∧ True ∧ RV.tup [RV.d (DV.sl 0 ([])), RV.d zz1] = RV.tup zz2) ∧ ((((opsE s.bits s.c s.tw s.th (ints (is s.ord)) s.ims.length (toOps (ops s.ops))).1) != (0 : Int)) = false → True ∧ True ∧ True ∧ (0 ≤ ((s.ops.length : Nat) : Int) ∧ ((s.ops.length : Nat) : Int) ≤ ((s.ops.length : Nat) : Int) ∧ ((s.ops.length : Nat) : Int) ≤ ((maxLen : Nat) : Int) ∧ ((32 : Nat) : Int) * ((s.ops.length : Nat) : Int) ≤ 281474976710656) ∧ True ∧ True ∧ True ∧ True ∧ True ∧ True ∧ True ∧ True ∧ True ∧ ((∃ k : Nat, (k ≤ s.ops.length) ∧ (((0 = 0) ∧ zz3 ∧ (0 = (runB s k).2.1.length) ∧ (1 = (runB s k).2.2.length) ∧ zz4 ∧ zz5 ∧ (DV.int .i64 0 = DV.int .i64 ((k : Nat) : Int)) ∧ True) ∧ (zz6 ∧ (repl ((s.ops.length : Nat) : Int).toNat zz7 = rcs (runB s k).1) ∧ ([] = is (runB s k).2.1) ∧ (zz7 = rcs (runB s k).2.2) ∧ True))) ∧ ∀ k : Nat, (k ≤ s.ops.length) → True ∧ (((decide (((k : Nat) : Int) < ((s.ops.length : Nat) : Int))) = true → True ∧ (0 ≤ ((k : Nat) : Int) ∧ ((k : Nat) : Int) < ((s.ops.length : Nat) : Int) ∧ ((k : Nat) : Int).toNat * 12 < (ops s.ops).length) ∧ (((ops s.ops)[((k : Nat) : Int).toNat * 12]? = some (DV.int .i64 (nAt (ops s.ops) (((k : Nat) : Int).toNat * 12)))) ∧ ((ops s.ops)[((k : Nat) : Int).toNat * 12 + 1]? = some (DV.int .i64 (nAt (ops s.ops) (((k : Nat) : Int).toNat * 12 + 1)))) ∧ ((ops s.ops)[((k : Nat) : Int).toNat * 12 + 1 + 1]? = some (DV.int .i64 (nAt (ops s.ops) (((k : Nat) : Int).toNat * 12 + 1 + 1)))) ∧ ((ops s.ops)[((k : Nat) : Int).toNat * 12 + 1 + 1 + 1]? = some (DV.int .i64 (nAt (ops s.ops) (((k : Nat) : Int).toNat * 12 + 1 + 1 + 1)))) ∧ ((ops s.ops)[((k : Nat) : Int).toNat * 12 + 1 + 1 + 1 + 1]? = some (DV.int .i64 (nAt (ops s.ops) (((k : Nat) : Int).toNat * 12 + 1 + 1 + 1 + 1)))) ∧ ((ops s.ops)[((k : Nat) : Int).toNat * 12 + 1 + 1 + 1 + 1 + 1]? = some (DV.int .i64 (nAt (ops s.ops) (((k : Nat) : Int).toNat * 12 + 1 + 1 + 1 + 1 + 1)))) ∧ ((ops s.ops)[((k : Nat) : Int).toNat * 12 + 1 + 1 + 1 + 1 + 1 + 1]? = some (DV.int .i64 (nAt (ops s.ops) (((k : Nat) : Int).toNat * 12 + 1 + 1 + 1 + 1 + 1 + 1)))) ∧ ((ops s.ops)[((k : Nat) : Int).toNat * 12 + 1 + 1 + 1 + 1 + 1 + 1 + 1]? = some (DV.int .u16 (nAt (ops s.ops) (((k : Nat) : Int).toNat * 12 + 1 + 1 + 1 + 1 + 1 + 1 + 1)))) ∧ ((ops s.ops)[((k : Nat) : Int).toNat * 12 + 1 + 1 + 1 + 1 + 1 + 1 + 1 + 1]? = some (DV.int .i64 (nAt (ops s.ops) (((k : Nat) : Int).toNat * 12 + 1 + 1 + 1 + 1 + 1 + 1 + 1 + 1)))) ∧ ((ops s.ops)[((k : Nat) : Int).toNat * 12 + 1 + 1 + 1 + 1 + 1 + 1 + 1 + 1 + 1]? = some (DV.int .i64 (nAt (ops s.ops) (((k : Nat) : Int).toNat * 12 + 1 + 1 + 1 + 1 + 1 + 1 + 1 + 1 + 1)))) ∧ ((ops s.ops)[((k : Nat) : Int).toNat * 12 + 1 + 1 + 1 + 1 + 1 + 1 + 1 + 1 + 1 + 1]? = some (DV.bool (bAt (ops s.ops) (((k : Nat) : Int).toNat * 12 + 1 + 1 + 1 + 1 + 1 + 1 + 1 + 1 + 1 + 1)))) ∧ ((ops s.ops)[((k : Nat) : Int).toNat * 12 + 1 + 1 + 1 + 1 + 1 + 1 + 1 + 1 + 1 + 1 + 1]? = some (DV.bool (bAt (ops s.ops) (((k : Nat) : Int).toNat * 12 + 1 + 1 + 1 + 1 + 1 + 1 + 1 + 1 + 1 + 1 + 1)))) ∧ True) ∧ True ∧ True ∧ True ∧ (True ∧ True ∧ True ∧ True ∧ ((((nAt (ops s.ops) (((k : Nat) : Int).toNat * 12)) == (2 : Int)) = true → True ∧ True ∧ True ∧ (appVc 1 8 ((runB s k).2.1.length) 1 (is (runB s k).2.1) ([DV.int .i64 ((k : Nat) : Int)])) ∧ True ∧ True ∧ True ∧ (appVc 4 32 ((runB s k).2.2.length) 1 (rcs (runB s k).2.2) (zz7)) ∧ True ∧ True ∧ True ∧ True ∧ ∃ k' : Nat, (k' ≤ s.ops.length) ∧ (zz8 k k') ∧ (((0 = 0) ∧ zz3 ∧ (((runB s k).2.1.length) + 1 = (runB s k').2.1.length) ∧ (((runB s k).2.2.length) + 1 = (runB s k').2.2.length) ∧ zz4 ∧ zz5 ∧ (zz9 k k') ∧ True) ∧ (zz6 ∧ (rcs (runB s k).1 = rcs (runB s k').1) ∧ ((is (runB s k).2.1) ++ ([DV.int .i64 ((k : Nat) : Int)]) = is (runB s k').2.1) ∧ ((rcs (runB s k).2.2) ++ (zz7) = rcs (runB s k').2.2) ∧ True))) ∧ (((nAt (ops s.ops) (((k : Nat) : Int).toNat * 12)) == (2 : Int)) = false → True ∧ True ∧ ((((nAt (ops s.ops) (((k : Nat) : Int).toNat * 12)) == (1 : Int)) = true → True ∧ True ∧ True ∧ True ∧ True ∧ True ∧ (Ans Tryd.prog 11 [RV.agg zz0, RV.agg (zz10 k)] (RV.agg (zz11 k))) ∧ (Ans Tryd.prog 34 [RV.agg zz0, RV.agg (zz10 k), RV.agg (zz11 k)] (RV.agg (zz12 k))) ∧ (zz13 k) ∧ (zz14 k) ∧ (true = true) ∧ ∃ y : Bst, (zz15 k y) ∧ (((0 = 0) ∧ zz3 ∧ ((runB s k).2.1.length = y.2.1.length) ∧ ((runB s k).2.2.length = y.2.2.length) ∧ (zz16 k) ∧ zz4 ∧ zz5 ∧ (zz16 k) ∧ True) ∧ (zz6 ∧ (sets (rcs (runB s k).1) (((k : Nat) : Int).toNat * 4) ((zz12 k)) = rcs y.1) ∧ (is (runB s k).2.1 = is y.2.1) ∧ (rcs (runB s k).2.2 = rcs y.2.2) ∧ True))) ∧ (((nAt (ops s.ops) (((k : Nat) : Int).toNat * 12)) == (1 : Int)) = false → True ∧ True ∧ (zz17 k) ∧ True ∧ (0 ≤ IntKind.wrap .i64 ((((runB s k).2.1.length : Nat) : Int) - (1 : Int)) ∧ IntKind.wrap .i64 ((((runB s k).2.1.length : Nat) : Int) - (1 : Int)) < (((runB s k).2.1.length : Nat) : Int)) ∧ (((is (runB s k).2.1)[(IntKind.wrap .i64 ((((runB s k).2.1.length : Nat) : Int) - (1 : Int))).toNat * 1]? = some (DV.int .i64 (nAt (is (runB s k).2.1) ((IntKind.wrap .i64 ((((runB s k).2.1.length : Nat) : Int) - (1 : Int))).toNat * 1)))) ∧ True) ∧ True ∧ True ∧ True ∧ True ∧ True ∧ True ∧ True ∧ (0 ≤ nAt (is (runB s k).2.1) ((IntKind.wrap .i64 ((((runB s k).2.1.length : Nat) : Int) - (1 : Int))).toNat * 1) ∧ nAt (is (runB s k).2.1) ((IntKind.wrap .i64 ((((runB s k).2.1.length : Nat) : Int) - (1 : Int))).toNat * 1) < ((s.ops.length : Nat) : Int) ∧ (nAt (is (runB s k).2.1) ((IntKind.wrap .i64 ((((runB s k).2.1.length : Nat) : Int) - (1 : Int))).toNat * 1)).toNat * 12 < (ops s.ops).length) ∧ (((ops s.ops)[(nAt (is (runB s k).2.1) ((IntKind.wrap .i64 ((((runB s k).2.1.length : Nat) : Int) - (1 : Int))).toNat * 1)).toNat * 12]? = some (DV.int .i64 (nAt (ops s.ops) ((nAt (is (runB s k).2.1) ((IntKind.wrap .i64 ((((runB s k).2.1.length : Nat) : Int) - (1 : Int))).toNat * 1)).toNat * 12)))) ∧ ((ops s.ops)[(nAt (is (runB s k).2.1) ((IntKind.wrap .i64 ((((runB s k).2.1.length : Nat) : Int) - (1 : Int))).toNat * 1)).toNat * 12 + 1]? = some (DV.int .i64 (nAt (ops s.ops) ((nAt (is (runB s k).2.1) ((IntKind.wrap .i64 ((((runB s k).2.1.length : Nat) : Int) - (1 : Int))).toNat * 1)).toNat * 12 + 1)))) ∧ ((ops s.ops)[(nAt (is (runB s k).2.1) ((IntKind.wrap .i64 ((((runB s k).2.1.length : Nat) : Int) - (1 : Int))).toNat * 1)).toNat * 12 + 1 + 1]? = some (DV.int .i64 (nAt (ops s.ops) ((nAt (is (runB s k).2.1) ((IntKind.wrap .i64 ((((runB s k).2.1.length : Nat) : Int) - (1 : Int))).toNat * 1)).toNat * 12 + 1 + 1)))) ∧ ((ops s.ops)[(nAt (is (runB s k).2.1) ((IntKind.wrap .i64 ((((runB s k).2.1.length : Nat) : Int) - (1 : Int))).toNat * 1)).toNat * 12 + 1 + 1 + 1]? = some (DV.int .i64 (nAt (ops s.ops) ((nAt (is (runB s k).2.1) ((IntKind.wrap .i64 ((((runB s k).2.1.length : Nat) : Int) - (1 : Int))).toNat * 1)).toNat * 12 + 1 + 1 + 1)))) ∧ ((ops s.ops)[(nAt (is (runB s k).2.1) ((IntKind.wrap .i64 ((((runB s k).2.1.length : Nat) : Int) - (1 : Int))).toNat * 1)).toNat * 12 + 1 + 1 + 1 + 1]? = some (DV.int .i64 (nAt (ops s.ops) ((nAt (is (runB s k).2.1) ((IntKind.wrap .i64 ((((runB s k).2.1.length : Nat) : Int) - (1 : Int))).toNat * 1)).toNat * 12 + 1 + 1 + 1 + 1)))) ∧ ((ops s.ops)[(nAt (is (runB s k).2.1) ((IntKind.wrap .i64 ((((runB s k).2.1.length : Nat) : Int) - (1 : Int))).toNat * 1)).toNat * 12 + 1 + 1 + 1 + 1 + 1]? = some (DV.int .i64 (nAt (ops s.ops) ((nAt (is (runB s k).2.1) ((IntKind.wrap .i64 ((((runB s k).2.1.length : Nat) : Int) - (1 : Int))).toNat * 1)).toNat * 12 + 1 + 1 + 1 + 1 + 1)))) ∧ ((ops s.ops)[(nAt (is (runB s k).2.1) ((IntKind.wrap .i64 ((((runB s k).2.1.length : Nat) : Int) - (1 : Int))).toNat * 1)).toNat * 12 + 1 + 1 + 1 + 1 + 1 + 1]? = some (DV.int .i64 (nAt (ops s.ops) ((nAt (is (runB s k).2.1) ((IntKind.wrap .i64 ((((runB s k).2.1.length : Nat) : Int) - (1 : Int))).toNat * 1)).toNat * 12 + 1 + 1 + 1 + 1 + 1 + 1)))) ∧ ((ops s.ops)[(nAt (is (runB s k).2.1) ((IntKind.wrap .i64 ((((runB s k).2.1.length : Nat) : Int) - (1 : Int))).toNat * 1)).toNat * 12 + 1 + 1 + 1 + 1 + 1 + 1 + 1]? = some (DV.int .u16 (nAt (ops s.ops) ((nAt (is (runB s k).2.1) ((IntKind.wrap .i64 ((((runB s k).2.1.length : Nat) : Int) - (1 : Int))).toNat * 1)).toNat * 12 + 1 + 1 + 1 + 1 + 1 + 1 + 1)))) ∧ ((ops s.ops)[(nAt (is (runB s k).2.1) ((IntKind.wrap .i64 ((((runB s k).2.1.length : Nat) : Int) - (1 : Int))).toNat * 1)).toNat * 12 + 1 + 1 + 1 + 1 + 1 + 1 + 1 + 1]? = some (DV.int .i64 (nAt (ops s.ops) ((nAt (is (runB s k).2.1) ((IntKind.wrap .i64 ((((runB s k).2.1.length : Nat) : Int) - (1 : Int))).toNat * 1)).toNat * 12 + 1 + 1 + 1 + 1 + 1 + 1 + 1 + 1)))) ∧ ((ops s.ops)[(nAt (is (runB s k).2.1) ((IntKind.wrap .i64 ((((runB s k).2.1.length : Nat) : Int) - (1 : Int))).toNat * 1)).toNat * 12 + 1 + 1 + 1 + 1 + 1 + 1 + 1 + 1 + 1]? = some (DV.int .i64 (nAt (ops s.ops) ((nAt (is (runB s k).2.1) ((IntKind.wrap .i64 ((((runB s k).2.1.length : Nat) : Int) - (1 : Int))).toNat * 1)).toNat * 12 + 1 + 1 + 1 + 1 + 1 + 1 + 1 + 1 + 1)))) ∧ ((ops s.ops)[(nAt (is (runB s k).2.1) ((IntKind.wrap .i64 ((((runB s k).2.1.length : Nat) : Int) - (1 : Int))).toNat * 1)).toNat * 12 + 1 + 1 + 1 + 1 + 1 + 1 + 1 + 1 + 1 + 1]? = some (DV.bool (bAt (ops s.ops) ((nAt (is (runB s k).2.1) ((IntKind.wrap .i64 ((((runB s k).2.1.length : Nat) : Int) - (1 : Int))).toNat * 1)).toNat * 12 + 1 + 1 + 1 + 1 + 1 + 1 + 1 + 1 + 1 + 1)))) ∧ ((ops s.ops)[(nAt (is (runB s k).2.1) ((IntKind.wrap .i64 ((((runB s k).2.1.length : Nat) : Int) - (1 : Int))).toNat * 1)).toNat * 12 + 1 + 1 + 1 + 1 + 1 + 1 + 1 + 1 + 1 + 1 + 1]? = some (DV.bool (bAt (ops s.ops) ((nAt (is (runB s k).2.1) ((IntKind.wrap .i64 ((((runB s k).2.1.length : Nat) : Int) - (1 : Int))).toNat * 1)).toNat * 12 + 1 + 1 + 1 + 1 + 1 + 1 + 1 + 1 + 1 + 1 + 1)))) ∧ True) ∧ True ∧ True ∧ (zz18 k) ∧ True ∧ (0 ≤ IntKind.wrap .i64 ((((runB s k).2.2.length : Nat) : Int) - (1 : Int)) ∧ IntKind.wrap .i64 ((((runB s k).2.2.length : Nat) : Int) - (1 : Int)) < (((runB s k).2.2.length : Nat) : Int)) ∧ (((rcs (runB s k).2.2)[(IntKind.wrap .i64 ((((runB s k).2.2.length : Nat) : Int) - (1 : Int))).toNat * 4]? = some (DV.int .i64 (nAt (rcs (runB s k).2.2) ((IntKind.wrap .i64 ((((runB s k).2.2.length : Nat) : Int) - (1 : Int))).toNat * 4)))) ∧ ((rcs (runB s k).2.2)[(IntKind.wrap .i64 ((((runB s k).2.2.length : Nat) : Int) - (1 : Int))).toNat * 4 + 1]? = some (DV.int .i64 (nAt (rcs (runB s k).2.2) ((IntKind.wrap .i64 ((((runB s k).2.2.length : Nat) : Int) - (1 : Int))).toNat * 4 + 1)))) ∧ ((rcs (runB s k).2.2)[(IntKind.wrap .i64 ((((runB s k).2.2.length : Nat) : Int) - (1 : Int))).toNat * 4 + 1 + 1]? = some (DV.int .i64 (nAt (rcs (runB s k).2.2) ((IntKind.wrap .i64 ((((runB s k).2.2.length : Nat) : Int) - (1 : Int))).toNat * 4 + 1 + 1)))) ∧ ((rcs (runB s k).2.2)[(IntKind.wrap .i64 ((((runB s k).2.2.length : Nat) : Int) - (1 : Int))).toNat * 4 + 1 + 1 + 1]? = some (DV.int .i64 (nAt (rcs (runB s k).2.2) ((IntKind.wrap .i64 ((((runB s k).2.2.length : Nat) : Int) - (1 : Int))).toNat * 4 + 1 + 1 + 1)))) ∧ True) ∧ (Ans Tryd.prog 34 [RV.agg zz0, RV.agg [DV.int .i64 (nAt (ops s.ops) ((nAt (is (runB s k).2.1) ((IntKind.wrap .i64 ((((runB s k).2.1.length : Nat) : Int) - (1 : Int))).toNat * 1)).toNat * 12)), DV.int .i64 (nAt (ops s.ops) ((nAt (is (runB s k).2.1) ((IntKind.wrap .i64 ((((runB s k).2.1.length : Nat) : Int) - (1 : Int))).toNat * 1)).toNat * 12 + 1)), DV.int .i64 (nAt (ops s.ops) ((nAt (is (runB s k).2.1) ((IntKind.wrap .i64 ((((runB s k).2.1.length : Nat) : Int) - (1 : Int))).toNat * 1)).toNat * 12 + 1 + 1)), DV.int .i64 (nAt (ops s.ops) ((nAt (is (runB s k).2.1) ((IntKind.wrap .i64 ((((runB s k).2.1.length : Nat) : Int) - (1 : Int))).toNat * 1)).toNat * 12 + 1 + 1 + 1)), DV.int .i64 (nAt (ops s.ops) ((nAt (is (runB s k).2.1) ((IntKind.wrap .i64 ((((runB s k).2.1.length : Nat) : Int) - (1 : Int))).toNat * 1)).toNat * 12 + 1 + 1 + 1 + 1)), DV.int .i64 (nAt (ops s.ops) ((nAt (is (runB s k).2.1) ((IntKind.wrap .i64 ((((runB s k).2.1.length : Nat) : Int) - (1 : Int))).toNat * 1)).toNat * 12 + 1 + 1 + 1 + 1 + 1)), DV.int .i64 (nAt (ops s.ops) ((nAt (is (runB s k).2.1) ((IntKind.wrap .i64 ((((runB s k).2.1.length : Nat) : Int) - (1 : Int))).toNat * 1)).toNat * 12 + 1 + 1 + 1 + 1 + 1 + 1)), DV.int .u16 (nAt (ops s.ops) ((nAt (is (runB s k).2.1) ((IntKind.wrap .i64 ((((runB s k).2.1.length : Nat) : Int) - (1 : Int))).toNat * 1)).toNat * 12 + 1 + 1 + 1 + 1 + 1 + 1 + 1)), DV.int .i64 (nAt (ops s.ops) ((nAt (is (runB s k).2.1) ((IntKind.wrap .i64 ((((runB s k).2.1.length : Nat) : Int) - (1 : Int))).toNat * 1)).toNat * 12 + 1 + 1 + 1 + 1 + 1 + 1 + 1 + 1)), DV.int .i64 (nAt (ops s.ops) ((nAt (is (runB s k).2.1) ((IntKind.wrap .i64 ((((runB s k).2.1.length : Nat) : Int) - (1 : Int))).toNat * 1)).toNat * 12 + 1 + 1 + 1 + 1 + 1 + 1 + 1 + 1 + 1)), DV.bool (bAt (ops s.ops) ((nAt (is (runB s k).2.1) ((IntKind.wrap .i64 ((((runB s k).2.1.length : Nat) : Int) - (1 : Int))).toNat * 1)).toNat * 12 + 1 + 1 + 1 + 1 + 1 + 1 + 1 + 1 + 1 + 1)), DV.bool (bAt (ops s.ops) ((nAt (is (runB s k).2.1) ((IntKind.wrap .i64 ((((runB s k).2.1.length : Nat) : Int) - (1 : Int))).toNat * 1)).toNat * 12 + 1 + 1 + 1 + 1 + 1 + 1 + 1 + 1 + 1 + 1 + 1))], RV.agg [DV.int .i64 (nAt (rcs (runB s k).2.2) ((IntKind.wrap .i64 ((((runB s k).2.2.length : Nat) : Int) - (1 : Int))).toNat * 4)), DV.int .i64 (nAt (rcs (runB s k).2.2) ((IntKind.wrap .i64 ((((runB s k).2.2.length : Nat) : Int) - (1 : Int))).toNat * 4 + 1)), DV.int .i64 (nAt (rcs (runB s k).2.2) ((IntKind.wrap .i64 ((((runB s k).2.2.length : Nat) : Int) - (1 : Int))).toNat * 4 + 1 + 1)), DV.int .i64 (nAt (rcs (runB s k).2.2) ((IntKind.wrap .i64 ((((runB s k).2.2.length : Nat) : Int) - (1 : Int))).toNat * 4 + 1 + 1 + 1))]] (RV.agg (zz19 k))) ∧ (zz13 k) ∧ (zz14 k) ∧ (true = true) ∧ True ∧ True ∧ True ∧ True ∧ (zz13 k) ∧ (((sets (rcs (runB s k).1) (((k : Nat) : Int).toNat * 4) ((zz19 k)))[((k : Nat) : Int).toNat * 4]? = some (DV.int .i64 (nAt (sets (rcs (runB s k).1) (((k : Nat) : Int).toNat * 4) ((zz19 k))) (((k : Nat) : Int).toNat * 4)))) ∧ ((sets (rcs (runB s k).1) (((k : Nat) : Int).toNat * 4) ((zz19 k)))[((k : Nat) : Int).toNat * 4 + 1]? = some (DV.int .i64 (nAt (sets (rcs (runB s k).1) (((k : Nat) : Int).toNat * 4) ((zz19 k))) (((k : Nat) : Int).toNat * 4 + 1)))) ∧ ((sets (rcs (runB s k).1) (((k : Nat) : Int).toNat * 4) ((zz19 k)))[((k : Nat) : Int).toNat * 4 + 1 + 1]? = some (DV.int .i64 (nAt (sets (rcs (runB s k).1) (((k : Nat) : Int).toNat * 4) ((zz19 k))) (((k : Nat) : Int).toNat * 4 + 1 + 1)))) ∧ ((sets (rcs (runB s k).1) (((k : Nat) : Int).toNat * 4) ((zz19 k)))[((k : Nat) : Int).toNat * 4 + 1 + 1 + 1]? = some (DV.int .i64 (nAt (sets (rcs (runB s k).1) (((k : Nat) : Int).toNat * 4) ((zz19 k))) (((k : Nat) : Int).toNat * 4 + 1 + 1 + 1)))) ∧ True) ∧ (0 ≤ nAt (is (runB s k).2.1) ((IntKind.wrap .i64 ((((runB s k).2.1.length : Nat) : Int) - (1 : Int))).toNat * 1) ∧ nAt (is (runB s k).2.1) ((IntKind.wrap .i64 ((((runB s k).2.1.length : Nat) : Int) - (1 : Int))).toNat * 1) < ((((s.ops.length : Nat) : Int).toNat : Nat) : Int)) ∧ ((nAt (is (runB s k).2.1) ((IntKind.wrap .i64 ((((runB s k).2.1.length : Nat) : Int) - (1 : Int))).toNat * 1)).toNat * 4 + 4 ≤ (sets (rcs (runB s k).1) (((k : Nat) : Int).toNat * 4) ((zz19 k))).length) ∧ True ∧ True ∧ (zz17 k) ∧ True ∧ (0 ≤ IntKind.wrap .i64 ((((runB s k).2.1.length : Nat) : Int) - (1 : Int)) ∧ IntKind.wrap .i64 ((((runB s k).2.1.length : Nat) : Int) - (1 : Int)) ≤ (((runB s k).2.1.length : Nat) : Int)) ∧ True ∧ True ∧ (zz18 k) ∧ True ∧ (0 ≤ IntKind.wrap .i64 ((((runB s k).2.2.length : Nat) : Int) - (1 : Int)) ∧ IntKind.wrap .i64 ((((runB s k).2.2.length : Nat) : Int) - (1 : Int)) ≤ (((runB s k).2.2.length : Nat) : Int)) ∧ True ∧ True ∧ (true = true) ∧ ∃ y : Bst, (zz15 k y) ∧ (((0 = 0) ∧ zz3 ∧ ((IntKind.wrap .i64 ((((runB s k).2.1.length : Nat) : Int) - (1 : Int))).toNat = y.2.1.length) ∧ ((IntKind.wrap .i64 ((((runB s k).2.2.length : Nat) : Int) - (1 : Int))).toNat = y.2.2.length) ∧ (zz16 k) ∧ zz4 ∧ zz5 ∧ (zz16 k) ∧ True) ∧ (zz6 ∧ (sets (sets (rcs (runB s k).1) (((k : Nat) : Int).toNat * 4) ((zz19 k))) ((nAt (is (runB s k).2.1) ((IntKind.wrap .i64 ((((runB s k).2.1.length : Nat) : Int) - (1 : Int))).toNat * 1)).toNat * 4) ([DV.int .i64 (nAt (sets (rcs (runB s k).1) (((k : Nat) : Int).toNat * 4) ((zz19 k))) (((k : Nat) : Int).toNat * 4)), DV.int .i64 (nAt (sets (rcs (runB s k).1) (((k : Nat) : Int).toNat * 4) ((zz19 k))) (((k : Nat) : Int).toNat * 4 + 1)), DV.int .i64 (nAt (sets (rcs (runB s k).1) (((k : Nat) : Int).toNat * 4) ((zz19 k))) (((k : Nat) : Int).toNat * 4 + 1 + 1)), DV.int .i64 (nAt (sets (rcs (runB s k).1) (((k : Nat) : Int).toNat * 4) ((zz19 k))) (((k : Nat) : Int).toNat * 4 + 1 + 1 + 1))]) = rcs y.1) ∧ (List.take ((IntKind.wrap .i64 ((((runB s k).2.1.length : Nat) : Int) - (1 : Int))).toNat * 1) (is (runB s k).2.1) = is y.2.1) ∧ (List.take ((IntKind.wrap .i64 ((((runB s k).2.2.length : Nat) : Int) - (1 : Int))).toNat * 4) (rcs (runB s k).2.2) = rcs y.2.2) ∧ True))))))) ∧ ∀ y : Bst, (zz15 k y) → True ∧ True ∧ (y.2.2.length ≤ maxLen) ∧ True ∧ (0 ≤ IntKind.wrap .i64 (((y.2.2.length : Nat) : Int) - (1 : Int)) ∧ IntKind.wrap .i64 (((y.2.2.length : Nat) : Int) - (1 : Int)) < ((y.2.2.length : Nat) : Int)) ∧ True ∧ True ∧ True ∧ True ∧ (((rcs y.2.2)[(IntKind.wrap .i64 (((y.2.2.length : Nat) : Int) - (1 : Int))).toNat * 4]? = some (DV.int .i64 (nAt (rcs y.2.2) ((IntKind.wrap .i64 (((y.2.2.length : Nat) : Int) - (1 : Int))).toNat * 4)))) ∧ ((rcs y.2.2)[(IntKind.wrap .i64 (((y.2.2.length : Nat) : Int) - (1 : Int))).toNat * 4 + 1]? = some (DV.int .i64 (nAt (rcs y.2.2) ((IntKind.wrap .i64 (((y.2.2.length : Nat) : Int) - (1 : Int))).toNat * 4 + 1)))) ∧ ((rcs y.2.2)[(IntKind.wrap .i64 (((y.2.2.length : Nat) : Int) - (1 : Int))).toNat * 4 + 1 + 1]? = some (DV.int .i64 (nAt (rcs y.2.2) ((IntKind.wrap .i64 (((y.2.2.length : Nat) : Int) - (1 : Int))).toNat * 4 + 1 + 1)))) ∧ ((rcs y.2.2)[(IntKind.wrap .i64 (((y.2.2.length : Nat) : Int) - (1 : Int))).toNat * 4 + 1 + 1 + 1]? = some (DV.int .i64 (nAt (rcs y.2.2) ((IntKind.wrap .i64 (((y.2.2.length : Nat) : Int) - (1 : Int))).toNat * 4 + 1 + 1 + 1)))) ∧ True) ∧ True ∧ True ∧ (zz13 k) ∧ (((rcs y.1)[((k : Nat) : Int).toNat * 4]? = some (DV.int .i64 (nAt (rcs y.1) (((k : Nat) : Int).toNat * 4)))) ∧ ((rcs y.1)[((k : Nat) : Int).toNat * 4 + 1]? = some (DV.int .i64 (nAt (rcs y.1) (((k : Nat) : Int).toNat * 4 + 1)))) ∧ ((rcs y.1)[((k : Nat) : Int).toNat * 4 + 1 + 1]? = some (DV.int .i64 (nAt (rcs y.1) (((k : Nat) : Int).toNat * 4 + 1 + 1)))) ∧ ((rcs y.1)[((k : Nat) : Int).toNat * 4 + 1 + 1 + 1]? = some (DV.int .i64 (nAt (rcs y.1) (((k : Nat) : Int).toNat * 4 + 1 + 1 + 1)))) ∧ True) ∧ True ∧ (Ans Tryd.prog 35 [RV.d (DV.sl 2 ([DV.int .i64 (nAt (rcs y.2.2) ((IntKind.wrap .i64 (((y.2.2.length : Nat) : Int) - (1 : Int))).toNat * 4)), DV.int .i64 (nAt (rcs y.2.2) ((IntKind.wrap .i64 (((y.2.2.length : Nat) : Int) - (1 : Int))).toNat * 4 + 1)), DV.int .i64 (nAt (rcs y.2.2) ((IntKind.wrap .i64 (((y.2.2.length : Nat) : Int) - (1 : Int))).toNat * 4 + 1 + 1)), DV.int .i64 (nAt (rcs y.2.2) ((IntKind.wrap .i64 (((y.2.2.length : Nat) : Int) - (1 : Int))).toNat * 4 + 1 + 1 + 1)), DV.int .i64 (nAt (rcs y.1) (((k : Nat) : Int).toNat * 4)), DV.int .i64 (nAt (rcs y.1) (((k : Nat) : Int).toNat * 4 + 1)), DV.int .i64 (nAt (rcs y.1) (((k : Nat) : Int).toNat * 4 + 1 + 1)), DV.int .i64 (nAt (rcs y.1) (((k : Nat) : Int).toNat * 4 + 1 + 1 + 1))]))] (RV.agg (zz20 k y))) ∧ True ∧ ((IntKind.wrap .i64 (((y.2.2.length : Nat) : Int) - (1 : Int))).toNat * 4 + 4 ≤ (rcs y.2.2).length) ∧ (true = true) ∧ True ∧ True ∧ ∃ k' : Nat, (k' ≤ s.ops.length) ∧ (zz8 k k') ∧ (((0 = 0) ∧ zz3 ∧ (y.2.1.length = (runB s k').2.1.length) ∧ (y.2.2.length = (runB s k').2.2.length) ∧ zz4 ∧ zz5 ∧ (zz9 k k') ∧ True) ∧ (zz6 ∧ (rcs y.1 = rcs (runB s k').1) ∧ (is y.2.1 = is (runB s k').2.1) ∧ (sets (rcs y.2.2) ((IntKind.wrap .i64 (((y.2.2.length : Nat) : Int) - (1 : Int))).toNat * 4) ((zz20 k y)) = rcs (runB s k').2.2) ∧ True))) ∧ ((decide (((k : Nat) : Int) < ((s.ops.length : Nat) : Int))) = false → True ∧ True ∧ True ∧ RV.tup [RV.d (DV.sl (((s.ops.length : Nat) : Int).toNat) (rcs (runB s k).1)), RV.d (DV.int .i64 0)] = RV.tup zz2)))))) := by kernel_rfl
theorem bounds_Boxes_ans (s : Scr) : Ans Tryd.prog 15 [RV.agg [DV.int .i64 s.bits, DV.int .i64 s.c.a, DV.int .i64 s.c.b, DV.int .i64 s.c.c, DV.int .i64 s.c.d, DV.int .i64 s.tw, DV.int .i64 s.th, DV.sl s.ord.length (is s.ord), DV.sl s.ims.length (ims s.ims), DV.sl s.ops.length (ops s.ops)]] (RV.tup [RV.d (DV.sl ((boxesS s).1.length) (rcs (boxesS s).1)), RV.d (DV.int .i64 ((boxesS s).2))]) :=
  ans_of_vcg (Γ := gamBb) (bounds_Boxes_ann s) mixed_ Tryd.func15 rfl (Nat.le_of_ble_eq_true rfl) fun hwf => by
    refine Eq.mpr (bounds_Boxes_vc s) ?_
    simp only [true_and, and_true, RV.d.injEq, RV.agg.injEq, RV.tup.injEq, DV.bool.injEq, DV.int.injEq, DV.sl.injEq, List.cons.injEq, forall_const, Bool.not_false, Bool.not_true, Bool.not_eq_true', Bool.not_eq_false', decide_eq_true_eq, decide_eq_false_iff_not, Int.toNat_natCast]
    (try simp only [scr_eta, scr_eta2, ints_is, toIms_ims, toOps_ops])
    have hsE : (⟨s.bits, s.c, s.tw, s.th, s.ord, s.ims, s.ops⟩ : Scr) = s := rfl
    (try simp only [hsE])
    clear hsE
    have eB : boxesS s = if s.run.1 = 0 then ((runB s s.ops.length).1, 0) else ([], s.run.1) := rfl
    have oA := validate_Ops_scr s
    have hE : opsE s.bits s.c s.tw s.th s.ord s.ims.length s.ops = s.run := rfl
    simp only [hE]
    refine ⟨oA, fun h => ?_, fun h => ?_⟩
    · have h : s.run.1 ≠ 0 := by simpa using h
      rw [eB, if_neg h]; exact ⟨⟨rfl, rfl⟩, rfl⟩
    · have h0 : s.run.1 = 0 := by simpa using h
      have F := runB_facts h0
      obtain ⟨fl1, fl2⟩ := frame_len (run_frame h0).1
      have hM : ∀ n : Nat, n ≤ 10000 → n ≤ maxLen := fun n h => by unfold maxLen; omega
      rw [eB, if_pos h0]
      clear eB hE oA h hwf
      refine ⟨⟨by omega, Int.le_refl _, by have := hM s.ops.length (by omega); omega, by omega⟩, ⟨0, Nat.zero_le _, ⟨rfl, rfl, rfl⟩, repl_rcs _, rfl, rfl⟩, fun k hk => ⟨fun hlt => ?_, fun hge => ?_⟩⟩
      · have hlt : k < s.ops.length := by omega
        obtain ⟨st, g1, g2, g3, g4, g5, g6, g7⟩ := F k hk
        have q1 := ops_rd hlt
        have q2 := ops_at hlt
        have eo : (s.ops[k]?).getD popO = s.ops[k] := by rw [List.getElem?_eq_getElem hlt]; rfl
        obtain ⟨he1, he2⟩ := okO_next g1 g2 hlt
        have w1 : IntKind.wrap .i64 ((k : Int) + 1) = ((k + 1 : Nat) : Int) := wrap_succ (by omega)
        have rS : runB s (k + 1) = stepB s k s.ops[k] (runB s k) := by rw [← eo]; rfl
        have oeta : (⟨s.ops[k].kind, s.ops[k].image, s.ops[k].x, s.ops[k].y, s.ops[k].mask, s.ops[k].mx, s.ops[k].my, s.ops[k].opac, s.ops[k].oper, s.ops[k].mode, s.ops[k].iso, s.ops[k].kno⟩ : Oq) = s.ops[k] := rfl
        simp only [q2, eo, oeta, w1]
        generalize s.ops[k] = o at *
        clear oeta eo
        generalize hz : runB s k = z at *
        obtain ⟨z1, z2, z3⟩ := z
        simp only at *
        refine ⟨⟨by omega, by omega, by rw [ops_length]; omega⟩, q1, ⟨fun hp => ?_, fun hp => ⟨fun hd => ?_, fun hd => ?_⟩⟩, fun y hy => ?_⟩
        · have hk2 : o.kind = 2 := by simpa using hp
          have e : runB s (k + 1) = (z1, z2 ++ [(k : Int)], z3 ++ [Rc.zero]) := by rw [rS]; unfold stepB; rw [if_pos hk2]
          refine ⟨⟨by simp [is_length], rfl, hM _ (by omega), by omega⟩, ⟨by simp [rcs_length], rfl, hM _ (by omega), by omega⟩, k + 1, by omega, by omega, ⟨?_, ?_, rfl⟩, ?_, ?_, ?_⟩
          · rw [e]; simp
          · rw [e]; simp
          · rw [e]
          · rw [e]; simp [is]
          · rw [e, rcs_app, rcs_one]; rfl
        · have hk1 : o.kind = 1 := by simpa using hd
          have e : stepA s k o (z1, z2, z3) = (z1.set k (boxF s o (imgR s o)), z2, z3) := by unfold stepA; rw [if_pos hk1]
          exact ⟨bounds_ImageRect_ans s o, bounds_box_ans s o (imgR s o), ⟨by omega, by omega⟩, by rw [rcs_length]; omega, _, ⟨by omega, e.symm⟩, ⟨rfl, rfl⟩, rcs_sets (by omega) _, rfl, rfl⟩
        · have hk1 : o.kind ≠ 1 := by simpa using hd
          have hk2 : o.kind ≠ 2 := by simpa using hp
          have hz2 : 0 < z2.length := by
            rcases errO_kind he1 with h | h | ⟨_, h⟩
            · exact absurd h hk1
            · exact absurd h hk2
            · have := List.length_pos_iff.2 h; omega
          have w2 : IntKind.wrap .i64 ((z2.length : Int) - 1) = ((z2.length - 1 : Nat) : Int) := by rw [IntWalk.i64_in _ ⟨by omega, by omega⟩]; omega
          have w3 : IntKind.wrap .i64 ((z3.length : Int) - 1) = ((z3.length - 1 : Nat) : Int) := by rw [IntWalk.i64_in _ ⟨by omega, by omega⟩]; omega
          obtain ⟨p, hp2⟩ : ∃ p, z2[z2.length - 1]? = some p := ⟨_, List.getElem?_eq_getElem (by omega)⟩
          obtain ⟨h, hh2⟩ : ∃ h, z3[z3.length - 1]? = some h := ⟨_, List.getElem?_eq_getElem (by omega)⟩
          have hpb := g7 p (List.mem_of_getElem? hp2)
          have hpl : p.toNat < s.ops.length := by omega
          have n2 : nAt (is z2) (z2.length - 1) = p := by simp [nAt, is, hp2]
          have n2' : (is z2)[z2.length - 1]? = some (.int .i64 p) := by simp [is, hp2]
          have hl3 : z3.length - 1 < z3.length := by omega
          have eh : z3[z3.length - 1] = h := by rw [List.getElem?_eq_getElem hl3] at hh2; exact Option.some.inj hh2
          have r1 := rcs_at z3 _ hl3
          have r2 := rcs_nAt hl3
          rw [eh] at r1 r2
          have q1' := ops_rd hpl
          have q2' := ops_at hpl
          have eop : (s.ops[p.toNat]?).getD popO = s.ops[p.toNat] := by rw [List.getElem?_eq_getElem hpl]; rfl
          have e : stepA s k o (z1, z2, z3) = ((z1.set k (boxF s s.ops[p.toNat] h)).set p.toNat (boxF s s.ops[p.toNat] h), z2.dropLast, z3.dropLast) := by
            unfold stepA
            rw [if_neg hk1]
            simp only [hp2, hh2, Option.getD_some, eop]
          have oeta : (⟨s.ops[p.toNat].kind, s.ops[p.toNat].image, s.ops[p.toNat].x, s.ops[p.toNat].y, s.ops[p.toNat].mask, s.ops[p.toNat].mx, s.ops[p.toNat].my, s.ops[p.toNat].opac, s.ops[p.toNat].oper, s.ops[p.toNat].mode, s.ops[p.toNat].iso, s.ops[p.toNat].kno⟩ : Oq) = s.ops[p.toNat] := rfl
          have heta : (⟨h.a, h.b, h.c, h.d⟩ : Rc) = h := rfl
          simp only [w2, w3, Int.toNat_natCast, Nat.mul_one, n2, r2, q2', oeta, heta]
          have bx := bounds_box_ans s s.ops[p.toNat] h
          generalize s.ops[p.toNat] = q at *
          clear oeta heta eop
          generalize boxF s q h = B at *
          have es : sets (rcs z1) (k * 4) [DV.int .i64 B.a, DV.int .i64 B.b, DV.int .i64 B.c, DV.int .i64 B.d] = rcs (z1.set k B) := rcs_sets (by omega) B
          have hl1 : k < (z1.set k B).length := by simp; omega
          have b1 := rcs_at (z1.set k B) k hl1
          have b2 := rcs_nAt hl1
          rw [List.getElem_set_self] at b1 b2
          simp only [es, b2]
          have es2 : sets (rcs (z1.set k B)) (p.toNat * 4) [DV.int .i64 B.a, DV.int .i64 B.b, DV.int .i64 B.c, DV.int .i64 B.d] = rcs ((z1.set k B).set p.toNat B) := rcs_sets (by simp; omega) B
          simp only [es2]
          refine ⟨hM _ (by omega), ⟨by omega, by omega⟩, n2', ⟨by omega, by omega, by rw [ops_length]; omega⟩, q1', hM _ (by omega), ⟨by omega, by omega⟩, r1, bx, ⟨by omega, by omega⟩, by rw [rcs_length]; omega, ⟨by omega, by omega⟩, b1, ⟨by omega, by omega⟩, by rw [rcs_length, List.length_set]; omega, hM _ (by omega), ⟨by omega, by omega⟩, hM _ (by omega), ⟨by omega, by omega⟩, _, ⟨hk2, e.symm⟩, ⟨by simp, by simp⟩, rfl, ?_, ?_⟩
          · rw [List.dropLast_eq_take]; simp [is]
          · show _ = rcs z3.dropLast
            rw [List.dropLast_eq_take, rcs_take]
        · obtain ⟨y1, y2, y3⟩ := y
          obtain ⟨hk2, hy⟩ := hy
          simp only at hk2 hy ⊢
          have yl : 0 < y3.length ∧ y3.length ≤ 5000 ∧ y1.length = s.ops.length := by
            unfold stepA at hy
            split at hy
            · simp only [Prod.mk.injEq] at hy
              obtain ⟨rfl, rfl, rfl⟩ := hy
              rw [List.length_set]; omega
            · rename_i hk1
              simp only [Prod.mk.injEq] at hy
              obtain ⟨rfl, rfl, rfl⟩ := hy
              have hz2 : 0 < z2.length := by
                rcases errO_kind he1 with h | h | ⟨_, h⟩
                · exact absurd h hk1
                · exact absurd h hk2
                · have := List.length_pos_iff.2 h; omega
              simp; omega
          obtain ⟨yl1, yl2, yl3⟩ := yl
          have w3 : IntKind.wrap .i64 ((y3.length : Int) - 1) = ((y3.length - 1 : Nat) : Int) := by rw [IntWalk.i64_in _ ⟨by omega, by omega⟩]; omega
          have hl3 : y3.length - 1 < y3.length := by omega
          have hl1 : k < y1.length := by omega
          have r1 := rcs_at y3 _ hl3
          have r2 := rcs_nAt hl3
          have b1 := rcs_at y1 _ hl1
          have b2 := rcs_nAt hl1
          have e : runB s (k + 1) = (y1, y2, y3.set (y3.length - 1) (hullL [y3[y3.length - 1], y1[k]])) := by
            rw [rS]
            unfold stepB
            rw [if_neg hk2]
            simp only [← hy, topB]
            rw [List.getElem?_eq_getElem hl3, List.getElem?_eq_getElem hl1]
            rfl
          simp only [w3, Int.toNat_natCast, r2, b2]
          generalize y3[y3.length - 1] = c at *
          generalize y1[k] = B at *
          have hu := rect_Hull_ans 2 (rcs [c, B]) (isRcs_rcs [c, B])
          have et : toRcs [DV.int .i64 c.a, DV.int .i64 c.b, DV.int .i64 c.c, DV.int .i64 c.d, DV.int .i64 B.a, DV.int .i64 B.b, DV.int .i64 B.c, DV.int .i64 B.d] = [c, B] := rfl
          simp only [toRcs_rcs] at hu
          simp only [et]
          refine ⟨hM _ (by omega), ⟨by omega, by omega⟩, r1, ⟨by omega, by omega⟩, b1, hu, by rw [rcs_length]; omega, k + 1, by omega, by omega, ⟨?_, ?_, rfl⟩, ?_, ?_, ?_⟩
          · rw [e]
          · rw [e]; simp
          · rw [e]
          · rw [e]
          · rw [e]; exact rcs_sets hl3 _
      · have : k = s.ops.length := by omega
        subst this
        exact ⟨⟨by have := (F _ hk).choose_spec.2.2.1; exact this.symm, rfl⟩, rfl⟩

end Go.Proofs.YtcaokljobfkajaaDoor

/-
  The ends of operations, as the program and the reference find them.
-/
namespace Go.Proofs.YtcaokljobfkajaaDoor
open Go.RowKit
set_option linter.unusedVariables false
set_option linter.unusedSimpArgs false
attribute [local irreducible] Ans AnsO AnsG AnsN AnsI

set_option maxRecDepth 4000
def gamEn : Gam where
 pure := fun f xs =>
  none
 modes := fun f =>
  none
 proc := fun f xs bs =>
  none
 iter := fun f cs =>
  none

def tree_Ends_ann (l : List Oq) : Ann := (Ann.seq Ann.leaf (Ann.seq Ann.leaf (Ann.seq Ann.leaf (Ann.seq (Ann.seq Ann.leaf (Ann.loop ⟨Nat × List Int × List Int, fun z : Nat × List Int × List Int => z.1 ≤ l.length ∧ z.2.1.length = l.length ∧ z.2.2.length ≤ z.1 ∧ (∀ p ∈ z.2.2, 0 ≤ p ∧ p < (l.length : Int)) ∧ runE (l.drop z.1) z.1 z.2.1 z.2.2 = endsS l, fun z : Nat × List Int × List Int => ⟨[(4, AV.one (Cl.ref 10 l.length)), (5, AV.one (Cl.ref 9005 z.2.2.length)), (11, AV.one (Cl.d (DV.sl l.length (ops l)))), (12, AV.one (Cl.d (DV.int .i64 ((l.length : Nat) : Int)))), (13, AV.one (Cl.d (DV.int .i64 ((z.1 : Nat) : Int))))], [(10, Bx.row 3 1 (is z.2.1)), (9005, Bx.row 3 1 (is z.2.2))]⟩, fun z : Nat × List Int × List Int => l.length - z.1⟩ fun z => Ann.leaf)) Ann.leaf))))
theorem tree_Ends_vc (l : List Oq) : vcg Tryd.prog gamEn 56 (bodyOf Tryd.f39) (tree_Ends_ann l) kn0 (start [RV.d (DV.sl l.length (ops l))]) (post Tryd.prog Tryd.f39.results.toList (· = RV.tup [RV.d (DV.sl ((endsS (toOps (ops l))).1.length) (is (endsS (toOps (ops l))).1)), RV.d (DV.int .i64 ((endsS (toOps (ops l))).2))])) =
  (let zz0 := (DV.sl l.length (ops l) = DV.sl l.length (ops l)); let zz1 := (DV.int .i64 ((l.length : Nat) : Int) = DV.int .i64 ((l.length : Nat) : Int)); let zz2 := fun (z : Nat × List Int × List Int) => fun (z' : Nat × List Int × List Int) => (l.length - z'.1 < l.length - z.1); let zz3 := fun (z : Nat × List Int × List Int) => fun (z' : Nat × List Int × List Int) => (DV.int .i64 (IntKind.wrap .i64 (((z.1 : Nat) : Int) + (1 : Int))) = DV.int .i64 ((z'.1 : Nat) : Int)); let zz4 := fun (z : Nat × List Int × List Int) => fun (z' : Nat × List Int × List Int) => (List.set (is z.2.1) (((z.1 : Nat) : Int).toNat * 1) (DV.int .i64 ((z.1 : Nat) : Int)) = is z'.2.1); let zz5 := [RV.d (DV.sl 0 ([])), RV.d (DV.int .i64 18)]; let zz6 := [RV.d (DV.sl ((endsS (toOps (ops l))).1.length) (is (endsS (toOps (ops l))).1)), RV.d (DV.int .i64 ((endsS (toOps (ops l))).2))]; True ∧ True ∧ True ∧ True ∧ (0 ≤ ((l.length : Nat) : Int) ∧ ((l.length : Nat) : Int) ≤ ((l.length : Nat) : Int) ∧ ((l.length : Nat) : Int) ≤ ((maxLen : Nat) : Int) ∧ ((8 : Nat) : Int) * ((l.length : Nat) : Int) ≤ 281474976710656) ∧ True ∧ True ∧ True ∧ True ∧ True ∧ ((∃ z : Nat × List Int × List Int, (z.1 ≤ l.length ∧ z.2.1.length = l.length ∧ z.2.2.length ≤ z.1 ∧ (∀ p ∈ z.2.2, 0 ≤ p ∧ p < (l.length : Int)) ∧ runE (l.drop z.1) z.1 z.2.1 z.2.2 = endsS l) ∧ (((((l.length : Nat) : Int).toNat = l.length) ∧ (0 = z.2.2.length) ∧ zz0 ∧ zz1 ∧ (DV.int .i64 0 = DV.int .i64 ((z.1 : Nat) : Int)) ∧ True) ∧ ((List.replicate ((l.length : Nat) : Int).toNat (DV.int .i64 0) = is z.2.1) ∧ ([] = is z.2.2) ∧ True))) ∧ ∀ z : Nat × List Int × List Int, (z.1 ≤ l.length ∧ z.2.1.length = l.length ∧ z.2.2.length ≤ z.1 ∧ (∀ p ∈ z.2.2, 0 ≤ p ∧ p < (l.length : Int)) ∧ runE (l.drop z.1) z.1 z.2.1 z.2.2 = endsS l) → True ∧ (((decide (((z.1 : Nat) : Int) < ((l.length : Nat) : Int))) = true → True ∧ (0 ≤ ((z.1 : Nat) : Int) ∧ ((z.1 : Nat) : Int) < ((l.length : Nat) : Int) ∧ ((z.1 : Nat) : Int).toNat * 12 < (ops l).length) ∧ (((ops l)[((z.1 : Nat) : Int).toNat * 12]? = some (DV.int .i64 (nAt (ops l) (((z.1 : Nat) : Int).toNat * 12)))) ∧ ((ops l)[((z.1 : Nat) : Int).toNat * 12 + 1]? = some (DV.int .i64 (nAt (ops l) (((z.1 : Nat) : Int).toNat * 12 + 1)))) ∧ ((ops l)[((z.1 : Nat) : Int).toNat * 12 + 1 + 1]? = some (DV.int .i64 (nAt (ops l) (((z.1 : Nat) : Int).toNat * 12 + 1 + 1)))) ∧ ((ops l)[((z.1 : Nat) : Int).toNat * 12 + 1 + 1 + 1]? = some (DV.int .i64 (nAt (ops l) (((z.1 : Nat) : Int).toNat * 12 + 1 + 1 + 1)))) ∧ ((ops l)[((z.1 : Nat) : Int).toNat * 12 + 1 + 1 + 1 + 1]? = some (DV.int .i64 (nAt (ops l) (((z.1 : Nat) : Int).toNat * 12 + 1 + 1 + 1 + 1)))) ∧ ((ops l)[((z.1 : Nat) : Int).toNat * 12 + 1 + 1 + 1 + 1 + 1]? = some (DV.int .i64 (nAt (ops l) (((z.1 : Nat) : Int).toNat * 12 + 1 + 1 + 1 + 1 + 1)))) ∧ ((ops l)[((z.1 : Nat) : Int).toNat * 12 + 1 + 1 + 1 + 1 + 1 + 1]? = some (DV.int .i64 (nAt (ops l) (((z.1 : Nat) : Int).toNat * 12 + 1 + 1 + 1 + 1 + 1 + 1)))) ∧ ((ops l)[((z.1 : Nat) : Int).toNat * 12 + 1 + 1 + 1 + 1 + 1 + 1 + 1]? = some (DV.int .u16 (nAt (ops l) (((z.1 : Nat) : Int).toNat * 12 + 1 + 1 + 1 + 1 + 1 + 1 + 1)))) ∧ ((ops l)[((z.1 : Nat) : Int).toNat * 12 + 1 + 1 + 1 + 1 + 1 + 1 + 1 + 1]? = some (DV.int .i64 (nAt (ops l) (((z.1 : Nat) : Int).toNat * 12 + 1 + 1 + 1 + 1 + 1 + 1 + 1 + 1)))) ∧ ((ops l)[((z.1 : Nat) : Int).toNat * 12 + 1 + 1 + 1 + 1 + 1 + 1 + 1 + 1 + 1]? = some (DV.int .i64 (nAt (ops l) (((z.1 : Nat) : Int).toNat * 12 + 1 + 1 + 1 + 1 + 1 + 1 + 1 + 1 + 1)))) ∧ ((ops l)[((z.1 : Nat) : Int).toNat * 12 + 1 + 1 + 1 + 1 + 1 + 1 + 1 + 1 + 1 + 1]? = some (DV.bool (bAt (ops l) (((z.1 : Nat) : Int).toNat * 12 + 1 + 1 + 1 + 1 + 1 + 1 + 1 + 1 + 1 + 1)))) ∧ ((ops l)[((z.1 : Nat) : Int).toNat * 12 + 1 + 1 + 1 + 1 + 1 + 1 + 1 + 1 + 1 + 1 + 1]? = some (DV.bool (bAt (ops l) (((z.1 : Nat) : Int).toNat * 12 + 1 + 1 + 1 + 1 + 1 + 1 + 1 + 1 + 1 + 1 + 1)))) ∧ True) ∧ True ∧ True ∧ True ∧ True ∧ True ∧ True ∧ (0 ≤ ((z.1 : Nat) : Int) ∧ ((z.1 : Nat) : Int) < ((l.length : Nat) : Int)) ∧ (((z.1 : Nat) : Int).toNat * 1 + 1 ≤ (is z.2.1).length) ∧ True ∧ True ∧ True ∧ True ∧ ((((nAt (ops l) (((z.1 : Nat) : Int).toNat * 12)) == (1 : Int)) = true → True ∧ True ∧ ∃ z' : Nat × List Int × List Int, (z'.1 ≤ l.length ∧ z'.2.1.length = l.length ∧ z'.2.2.length ≤ z'.1 ∧ (∀ p ∈ z'.2.2, 0 ≤ p ∧ p < (l.length : Int)) ∧ runE (l.drop z'.1) z'.1 z'.2.1 z'.2.2 = endsS l) ∧ (zz2 z z') ∧ (((l.length = l.length) ∧ (z.2.2.length = z'.2.2.length) ∧ zz0 ∧ zz1 ∧ (zz3 z z') ∧ True) ∧ ((zz4 z z') ∧ (is z.2.2 = is z'.2.2) ∧ True))) ∧ (((nAt (ops l) (((z.1 : Nat) : Int).toNat * 12)) == (1 : Int)) = false → True ∧ True ∧ ((((nAt (ops l) (((z.1 : Nat) : Int).toNat * 12)) == (2 : Int)) = true → True ∧ True ∧ True ∧ (appVc 1 8 z.2.2.length 1 (is z.2.2) ([DV.int .i64 ((z.1 : Nat) : Int)])) ∧ True ∧ True ∧ True ∧ ∃ z' : Nat × List Int × List Int, (z'.1 ≤ l.length ∧ z'.2.1.length = l.length ∧ z'.2.2.length ≤ z'.1 ∧ (∀ p ∈ z'.2.2, 0 ≤ p ∧ p < (l.length : Int)) ∧ runE (l.drop z'.1) z'.1 z'.2.1 z'.2.2 = endsS l) ∧ (zz2 z z') ∧ (((l.length = l.length) ∧ (z.2.2.length + 1 = z'.2.2.length) ∧ zz0 ∧ zz1 ∧ (zz3 z z') ∧ True) ∧ ((zz4 z z') ∧ ((is z.2.2) ++ ([DV.int .i64 ((z.1 : Nat) : Int)]) = is z'.2.2) ∧ True))) ∧ (((nAt (ops l) (((z.1 : Nat) : Int).toNat * 12)) == (2 : Int)) = false → True ∧ True ∧ ((((nAt (ops l) (((z.1 : Nat) : Int).toNat * 12)) == (3 : Int)) = true → True ∧ (z.2.2.length ≤ maxLen) ∧ True ∧ (((((z.2.2.length : Nat) : Int) == (0 : Int)) = true → True ∧ True ∧ RV.tup zz5 = RV.tup zz6) ∧ ((((z.2.2.length : Nat) : Int) == (0 : Int)) = false → True ∧ True ∧ True ∧ (z.2.2.length ≤ maxLen) ∧ True ∧ (0 ≤ IntKind.wrap .i64 (((z.2.2.length : Nat) : Int) - (1 : Int)) ∧ IntKind.wrap .i64 (((z.2.2.length : Nat) : Int) - (1 : Int)) < ((z.2.2.length : Nat) : Int)) ∧ (((is z.2.2)[(IntKind.wrap .i64 (((z.2.2.length : Nat) : Int) - (1 : Int))).toNat * 1]? = some (DV.int .i64 (nAt (is z.2.2) ((IntKind.wrap .i64 (((z.2.2.length : Nat) : Int) - (1 : Int))).toNat * 1)))) ∧ True) ∧ True ∧ (0 ≤ nAt (is z.2.2) ((IntKind.wrap .i64 (((z.2.2.length : Nat) : Int) - (1 : Int))).toNat * 1) ∧ nAt (is z.2.2) ((IntKind.wrap .i64 (((z.2.2.length : Nat) : Int) - (1 : Int))).toNat * 1) < ((l.length : Nat) : Int)) ∧ ((nAt (is z.2.2) ((IntKind.wrap .i64 (((z.2.2.length : Nat) : Int) - (1 : Int))).toNat * 1)).toNat * 1 + 1 ≤ (List.set (is z.2.1) (((z.1 : Nat) : Int).toNat * 1) (DV.int .i64 ((z.1 : Nat) : Int))).length) ∧ True ∧ True ∧ (z.2.2.length ≤ maxLen) ∧ True ∧ (0 ≤ IntKind.wrap .i64 (((z.2.2.length : Nat) : Int) - (1 : Int)) ∧ IntKind.wrap .i64 (((z.2.2.length : Nat) : Int) - (1 : Int)) ≤ ((z.2.2.length : Nat) : Int)) ∧ True ∧ True ∧ True ∧ ∃ z' : Nat × List Int × List Int, (z'.1 ≤ l.length ∧ z'.2.1.length = l.length ∧ z'.2.2.length ≤ z'.1 ∧ (∀ p ∈ z'.2.2, 0 ≤ p ∧ p < (l.length : Int)) ∧ runE (l.drop z'.1) z'.1 z'.2.1 z'.2.2 = endsS l) ∧ (zz2 z z') ∧ (((l.length = l.length) ∧ ((IntKind.wrap .i64 (((z.2.2.length : Nat) : Int) - (1 : Int))).toNat = z'.2.2.length) ∧ zz0 ∧ zz1 ∧ (zz3 z z') ∧ True) ∧ ((List.set (List.set (is z.2.1) (((z.1 : Nat) : Int).toNat * 1) (DV.int .i64 ((z.1 : Nat) : Int))) ((nAt (is z.2.2) ((IntKind.wrap .i64 (((z.2.2.length : Nat) : Int) - (1 : Int))).toNat * 1)).toNat * 1) (DV.int .i64 ((z.1 : Nat) : Int)) = is z'.2.1) ∧ (List.take ((IntKind.wrap .i64 (((z.2.2.length : Nat) : Int) - (1 : Int))).toNat * 1) (is z.2.2) = is z'.2.2) ∧ True))))) ∧ (((nAt (ops l) (((z.1 : Nat) : Int).toNat * 12)) == (3 : Int)) = false → True ∧ True ∧ RV.tup [RV.d (DV.sl 0 ([])), RV.d (DV.int .i64 9)] = RV.tup zz6))))))) ∧ ((decide (((z.1 : Nat) : Int) < ((l.length : Nat) : Int))) = false → True ∧ (z.2.2.length ≤ maxLen) ∧ True ∧ (((decide (((z.2.2.length : Nat) : Int) > (0 : Int))) = true → True ∧ True ∧ RV.tup zz5 = RV.tup zz6) ∧ ((decide (((z.2.2.length : Nat) : Int) > (0 : Int))) = false → True ∧ True ∧ True ∧ RV.tup [RV.d (DV.sl l.length (is z.2.1)), RV.d (DV.int .i64 0)] = RV.tup zz6)))))) := by kernel_rfl
theorem tree_Ends_ans (l : List Oq) (hl : l.length ≤ 100000) : Ans Tryd.prog 39 [RV.d (DV.sl l.length (ops l))] (RV.tup [RV.d (DV.sl ((endsS (toOps (ops l))).1.length) (is (endsS (toOps (ops l))).1)), RV.d (DV.int .i64 ((endsS (toOps (ops l))).2))]) :=
  ans_of_vcg (Γ := gamEn) (tree_Ends_ann l) mixed_ Tryd.func39 rfl (Nat.le_of_ble_eq_true rfl) fun hwf => by
    refine Eq.mpr (tree_Ends_vc l) ?_
    simp only [true_and, and_true, RV.d.injEq, RV.agg.injEq, RV.tup.injEq, DV.bool.injEq, DV.int.injEq, DV.sl.injEq, List.cons.injEq, forall_const, Bool.not_false, Bool.not_true, Bool.not_eq_true', Bool.not_eq_false', decide_eq_true_eq, decide_eq_false_iff_not, Int.toNat_natCast]
    simp only [toOps_ops]
    have hM : ∀ n : Nat, n ≤ 100000 → n ≤ maxLen := fun n h => by unfold maxLen; omega
    clear hwf
    refine ⟨⟨by omega, by omega, by have := hM _ hl; omega, by omega⟩, ⟨(0, List.replicate l.length 0, []), ⟨Nat.zero_le _, by simp, by simp, by simp, rfl⟩, ?_⟩, fun z hz => ⟨fun hlt => ?_, fun hge => ?_⟩⟩
    · exact ⟨⟨rfl, rfl⟩, by simp [is], rfl⟩
    · obtain ⟨k, out, op⟩ := z
      obtain ⟨z1, z2, z3, z4, z5⟩ := hz
      simp only at *
      have hk : k < l.length := by omega
      have q1 := ops_rd hk
      have q2 := ops_at hk
      have w1 : IntKind.wrap .i64 ((k : Int) + 1) = ((k + 1 : Nat) : Int) := by rw [IntWalk.i64_in _ ⟨by omega, by omega⟩]; omega
      have hd : l.drop k = l[k] :: l.drop (k + 1) := List.drop_eq_getElem_cons hk
      have is_s : ∀ (L : List Int) (j : Nat) (v : Int), (is L).set j (.int .i64 v) = is (L.set j v) := fun L j v => by simp [is]
      have io : (is out).length = out.length := is_length out
      rw [hd, runE] at z5
      simp only [Nat.add_zero, q2, w1, Nat.mul_one, is_s]
      generalize l[k] = o at *
      refine ⟨⟨by omega, by omega, by rw [ops_length]; omega⟩, q1, ⟨by omega, by omega⟩, by omega, fun h1 => ?_, fun h1 => ⟨fun h2 => ?_, fun h2 => ⟨fun h3 => ?_, fun h3 => ?_⟩⟩⟩
      · have h1 : o.kind = 1 := by simpa using h1
        rw [if_pos h1] at z5
        exact ⟨(k + 1, out.set k k, op), ⟨by simp only; omega, by simp only [List.length_set]; omega, by simp only; omega, z4, z5⟩, by simp only; omega, ⟨rfl, rfl⟩, rfl, rfl⟩
      · have h1 : ¬ o.kind = 1 := by simpa using h1
        have h2 : o.kind = 2 := by simpa using h2
        rw [if_neg h1, if_pos h2] at z5
        refine ⟨⟨by simp [is_length], rfl, hM _ (by omega), by omega⟩, (k + 1, out.set k k, op ++ [(k : Int)]), ⟨by simp only; omega, by simp only [List.length_set]; omega, by simp; omega, ?_, z5⟩, by simp only; omega, ⟨by simp, rfl⟩, rfl, by simp [is]⟩
        intro p hp
        rcases List.mem_append.1 hp with hp | hp
        · exact z4 p hp
        · rw [List.mem_singleton] at hp; omega
      · have h1 : ¬ o.kind = 1 := by simpa using h1
        have h2 : ¬ o.kind = 2 := by simpa using h2
        have h3 : o.kind = 3 := by simpa using h3
        rw [if_neg h1, if_neg h2, if_pos h3] at z5
        refine ⟨hM _ (by omega), fun h4 => ?_, fun h4 => ?_⟩
        · have h4 : op = [] := List.length_eq_zero_iff.1 (by simpa using h4)
          rw [if_pos h4] at z5
          rw [← z5]
          exact ⟨⟨rfl, rfl⟩, rfl⟩
        · have h4 : 0 < op.length := by
            have : ¬ op.length = 0 := by simpa using h4
            omega
          have h5 : op ≠ [] := by intro e; rw [e] at h4; simp at h4
          rw [if_neg h5] at z5
          have w2 : IntKind.wrap .i64 ((op.length : Int) - 1) = ((op.length - 1 : Nat) : Int) := by rw [IntWalk.i64_in _ ⟨by omega, by omega⟩]; omega
          obtain ⟨p, hp2⟩ : ∃ p, op[op.length - 1]? = some p := ⟨_, List.getElem?_eq_getElem (by omega)⟩
          have hpb := z4 p (List.mem_of_getElem? hp2)
          have n2 : nAt (is op) (op.length - 1) = p := by simp [nAt, is, hp2]
          have n2' : (is op)[op.length - 1]? = some (.int .i64 p) := by simp [is, hp2]
          rw [hp2, Option.getD_some] at z5
          simp only [w2, Int.toNat_natCast, n2]
          refine ⟨hM _ (by omega), ⟨by omega, by omega⟩, n2', ⟨by omega, by omega⟩, by rw [is_length, List.length_set]; omega, hM _ (by omega), ⟨by omega, by omega⟩, (k + 1, (out.set k k).set p.toNat k, op.dropLast), ⟨by simp only; omega, by simp only [List.length_set]; omega, by simp; omega, fun q hq => z4 q (List.dropLast_subset _ hq), z5⟩, by simp only; omega, ⟨by simp, rfl⟩, rfl, ?_⟩
          simp [is, List.dropLast_eq_take]
      · have h1 : ¬ o.kind = 1 := by simpa using h1
        have h2 : ¬ o.kind = 2 := by simpa using h2
        have h3 : ¬ o.kind = 3 := by simpa using h3
        rw [if_neg h1, if_neg h2, if_neg h3] at z5
        rw [← z5]
        exact ⟨⟨rfl, rfl⟩, rfl⟩
    · obtain ⟨k, out, op⟩ := z
      obtain ⟨z1, z2, z3, z4, z5⟩ := hz
      simp only at *
      have hk : k = l.length := by omega
      subst hk
      rw [List.drop_length, runE] at z5
      refine ⟨hM _ (by omega), fun h => ?_, fun h => ?_⟩
      · have h5 : op ≠ [] := by intro e; rw [e] at h; simp at h
        rw [if_neg h5] at z5
        rw [← z5]
        exact ⟨⟨rfl, rfl⟩, rfl⟩
      · have h5 : op = [] := List.length_eq_zero_iff.1 (by omega)
        rw [if_pos h5] at z5
        rw [← z5]
        exact ⟨⟨z2.symm, rfl⟩, rfl⟩

end Go.Proofs.YtcaokljobfkajaaDoor

/-
  Boxes of all operations, as the reference finds them.
-/
namespace Go.Proofs.YtcaokljobfkajaaDoor
open Go.RowKit
set_option linter.unusedVariables false
set_option linter.unusedSimpArgs false
attribute [local irreducible] Ans AnsO AnsG AnsN AnsI

set_option maxRecDepth 4000
theorem Occ.next {s : Scr} (hv : s.run.1 = 0) {k : Nat} {f : Fo} (h : Occ s (foOf s) k f) (hf : 0 < f.size) : ∃ f2, Occ s (foOf s) (enAt s k + 1) f2 ∧ enAt s k + 1 + f2.size = k + f.size ∧ boxAll s f = bxAt s k :: boxAll s f2 ∧ (opAt s k).kind ≠ 3 ∧ k ≤ enAt s k ∧ k < s.ops.length := by
  have hz := foOf_size hv
  have hs := (foOf_spec hv).2
  have g : ∀ {q : Nat} {o : Oq}, (foOf s).flat[q]? = some o → opAt s q = o := fun {q o} hq => by
    unfold opAt
    have : s.ops[q]? = some o := by rw [← hq]; exact congrArg (fun l : List Oq => l[q]?) hs
    rw [this]; rfl
  cases f with
  | nil => simp [Fo.size] at hf
  | draw o r =>
    obtain ⟨k1, k0, k2, k3, k4, k5⟩ := h.draw
    have hk : k < s.ops.length := by omega
    have e : enAt s k = k := by rw [(enAt_fo hv hk).2, k3]
    exact ⟨r, by rw [e]; exact k5, by rw [e]; simp only [Fo.size]; omega, by rw [bxAt_fo hv hk, k4]; rfl, by rw [g k2, k1]; decide, by omega, hk⟩
  | grp o kf r =>
    obtain ⟨k1, k0, k2, k3, k4, k5, k6, k7, k8, k9⟩ := h.grp
    have hk : k < s.ops.length := by omega
    have e : enAt s k = k + kf.size + 1 := by rw [(enAt_fo hv hk).2, k4]
    exact ⟨r, by rw [e]; exact k9, by rw [e]; simp only [Fo.size]; omega, by rw [bxAt_fo hv hk, k6]; rfl, by rw [g k2, k1]; decide, by omega, hk⟩
theorem opAt_lt {s : Scr} {p : Nat} (h : p < s.ops.length) : opAt s p = s.ops[p] := by unfold opAt; rw [List.getElem?_eq_getElem h]; rfl
end Go.Proofs.YtcaokljobfkajaaDoor

/-
  What is active is balanced, and grows with the rectangle; the script of the generator: in plain words.
-/
namespace Go.Proofs.YtcaokljobfkajaaDoor
open Go.RowKit
set_option linter.unusedVariables false
set_option linter.unusedSimpArgs false

theorem enAt_strict {s : Scr} (h : s.run.1 = 0) {p q : Nat} (hp : p < s.ops.length) (h1 : p < q) (h2 : q < enAt s p) : enAt s q < enAt s p := by
  have he := enAt_in h hp
  have := endN_strict (foOf s) 0 p q (by omega) (by rw [← foOf_size h]; omega) h1 (by rw [← (enAt_fo h hp).2]; exact h2)
  rw [(enAt_fo h hp).2, (enAt_fo h (p := q) (by omega)).2]
  exact this
theorem actAt_iff (s : Scr) (r : Rc) (i : Nat) : actAt s r i = true ↔ hitB s r i = true ∧ ∀ j, j < i → (opAt s j).kind = 2 → i < enAt s j → hitB s r j = true := by
  unfold actAt actTo
  rw [Bool.and_eq_true, List.all_eq_true]
  refine and_congr_right fun _ => ⟨fun h j h1 h2 h3 => ?_, fun h j h1 => ?_⟩
  · have := h j (List.mem_range.2 h1)
    simpa [h2, h3] using this
  · have := h j (List.mem_range.1 h1)
    by_cases c1 : (opAt s j).kind = 2 <;> by_cases c2 : i < enAt s j <;> simp [c1, c2]
    exact this c1 c2
theorem act_pop {s : Scr} (h : s.run.1 = 0) (r : Rc) {p : Nat} (hp : p < s.ops.length) (h2 : (opAt s p).kind = 2) : actAt s r (enAt s p) = actAt s r p := by
  obtain ⟨p1, p2, p3, p4⟩ := push_ends h hp h2
  have he := enAt_in h hp
  rw [Bool.eq_iff_iff, actAt_iff, actAt_iff]
  have e : hitB s r (enAt s p) = hitB s r p := by unfold hitB; rw [p3]
  rw [e]
  refine and_congr_right fun hb => ⟨fun g j j1 j2 j3 => ?_, fun g j j1 j2 j3 => ?_⟩
  · refine g j (by omega) j2 ?_
    exact enAt_strict h (by omega) j1 j3
  · rcases Nat.lt_trichotomy j p with c | c | c
    · exact g j c j2 (by omega)
    · subst c; exact hb
    · have := enAt_strict h hp c j1
      omega

/-! ### the open groups among what is active -/
def openTo (s : Scr) (r : Rc) : Nat → Int
  | 0 => 0
  | k + 1 => if actAt s r k then (if (opAt s k).kind = 2 then openTo s r k + 1 else if (opAt s k).kind = 3 then openTo s r k - 1 else openTo s r k) else openTo s r k
theorem openTo_in (s : Scr) (r : Rc) : ∀ k : Nat, -(k : Int) ≤ openTo s r k ∧ openTo s r k ≤ k
  | 0 => by simp [openTo]
  | k + 1 => by
    have := openTo_in s r k
    unfold openTo
    split
    · split
      · omega
      · split <;> omega
    · omega
theorem open_fo {s : Scr} (h : s.run.1 = 0) (r : Rc) : ∀ (f : Fo) (n : Nat), Occ s (foOf s) n f → openTo s r (n + f.size) = openTo s r n ∧ ∀ p, n ≤ p → p ≤ n + f.size → openTo s r n ≤ openTo s r p
  | .nil, n, ho => by
    refine ⟨rfl, fun p p1 p2 => ?_⟩
    simp only [Fo.size] at p2
    have : p = n := by omega
    rw [this]
    exact Int.le_refl _
  | .draw o f, n, ho => by
    obtain ⟨k1, k0, k2, k3, k4, k5⟩ := ho.draw
    have hn : n < s.ops.length := by rw [foOf_size h]; exact k0
    have e : opAt s n = o := by
      unfold opAt
      have : s.ops[n]? = some o := by rw [← k2]; exact congrArg (fun l : List Oq => l[n]?) (foOf_spec h).2
      rw [this]; rfl
    have e1 : openTo s r (n + 1) = openTo s r n := by
      rw [openTo, e, k1]
      simp
    obtain ⟨i1, i2⟩ := open_fo h r f (n + 1) k5
    simp only [Fo.size]
    refine ⟨by rw [show n + (f.size + 1) = n + 1 + f.size by omega, i1, e1], fun p p1 p2 => ?_⟩
    by_cases c : p = n
    · rw [c]; exact Int.le_refl _
    · rw [← e1]; exact i2 p (by omega) (by omega)
  | .grp o k f, n, ho => by
    obtain ⟨k1, k0, k2, k3, k4, k5, k6, k7, k8, k9⟩ := ho.grp
    have hn : n + k.size + 1 < s.ops.length := by rw [foOf_size h]; exact k0
    have g : ∀ {q : Nat} {o : Oq}, (foOf s).flat[q]? = some o → opAt s q = o := fun {q o} hq => by
      unfold opAt
      have : s.ops[q]? = some o := by rw [← hq]; exact congrArg (fun l : List Oq => l[q]?) (foOf_spec h).2
      rw [this]; rfl
    have e := g k2
    have e' := g k3
    have ek : (opAt s n).kind = 2 := by rw [e]; exact k1
    have ea : actAt s r (n + k.size + 1) = actAt s r n := by
      rw [← act_pop h r (by omega) ek, (enAt_fo h (by omega)).2, k4]
    have e1 : openTo s r (n + 1) = if actAt s r n then openTo s r n + 1 else openTo s r n := by
      rw [openTo, ek]
      simp
    have e2 : openTo s r (n + k.size + 1 + 1) = if actAt s r n then openTo s r (n + k.size + 1) - 1 else openTo s r (n + k.size + 1) := by
      rw [openTo, ea, e', popO_kind]
      simp
    obtain ⟨i1, i2⟩ := open_fo h r k (n + 1) k8
    obtain ⟨j1, j2⟩ := open_fo h r f (n + k.size + 2) k9
    rw [show n + 1 + k.size = n + k.size + 1 by omega] at i1
    have e3 : openTo s r (n + k.size + 2) = openTo s r n := by
      rw [show n + k.size + 2 = n + k.size + 1 + 1 by omega, e2, i1, e1]
      split <;> omega
    simp only [Fo.size]
    refine ⟨by rw [show n + (k.size + f.size + 2) = n + k.size + 2 + f.size by omega, j1, e3], fun p p1 p2 => ?_⟩
    by_cases c : p = n
    · rw [c]; exact Int.le_refl _
    · by_cases c2 : p ≤ n + k.size + 1
      · have := i2 p (by omega) (by omega)
        rw [e1] at this
        split at this <;> omega
      · have := j2 p (by omega) (by omega)
        omega
theorem open_all {s : Scr} (h : s.run.1 = 0) (r : Rc) : openTo s r s.ops.length = 0 ∧ ∀ p, p ≤ s.ops.length → 0 ≤ openTo s r p := by
  have := open_fo h r (foOf s) 0 (Occ.whole s (foOf_spec h).1)
  rw [← foOf_size h, Nat.zero_add] at this
  exact ⟨this.1, fun p hp => this.2 p (by omega) hp⟩

/-! ### a smaller rectangle -/
theorem inter_grow {b r c : Rc} (h1 : c.a ≤ r.a) (h2 : c.b ≤ r.b) (h3 : r.c ≤ c.c) (h4 : r.d ≤ c.d) (hc : c.empty = false) (h : (Rc.inter b r).empty = false) : (Rc.inter b c).empty = false := by
  unfold Rc.inter at h ⊢
  split at h
  · cases h
  · rename_i hn
    simp only [Bool.or_eq_true, not_or, Bool.not_eq_true] at hn
    rw [hn.1, hc, if_neg (by decide)]
    have z : (Rc.empty ⟨max b.a r.a, max b.b r.b, min b.c r.c, min b.d r.d⟩) = false := by
      cases q : Rc.empty ⟨max b.a r.a, max b.b r.b, min b.c r.c, min b.d r.d⟩ with
      | false => rfl
      | true => rw [Rc.clean_zero q] at h; cases h
    have q : (Rc.empty ⟨max b.a c.a, max b.b c.b, min b.c c.c, min b.d c.d⟩) = false := by
      have n1 := hn.1
      rw [Rc.empty_iff] at *
      simp only at *
      omega
    rw [Rc.clean_of q, q]
theorem act_grow {s : Scr} {r c : Rc} (h1 : c.a ≤ r.a) (h2 : c.b ≤ r.b) (h3 : r.c ≤ c.c) (h4 : r.d ≤ c.d) (hc : c.empty = false) {i : Nat} (h : actAt s r i = true) : actAt s c i = true := by
  have g : ∀ j, hitB s r j = true → hitB s c j = true := fun j hj => by
    unfold hitB at *
    rw [Bool.not_eq_true'] at *
    exact inter_grow h1 h2 h3 h4 hc hj
  rw [actAt_iff] at *
  exact ⟨g i h.1, fun j a b d => g j (h.2 j a b d)⟩

/-! ### the generator's script -/
def Scn.scr (s : Scn) : Scr := ⟨s.bits, s.c, s.gtw, s.gth, s.ord, s.ims, s.ops⟩
theorem Scn.scr_run (s : Scn) : s.scr.run = (0, 0) := by
  have li := s.ims_len
  have lo := s.ops_len
  have f := s.frame_ok (mn := s.ims.length) (pn := s.ops.length) (by omega) (by omega)
  show opsE s.bits s.c s.gtw s.gth s.ord s.ims.length s.ops = _
  unfold opsE
  rw [if_pos f]
  exact s.ops_run
end Go.Proofs.YtcaokljobfkajaaDoor

/-
  What is active, as the program and the reference find it.
-/
namespace Go.Proofs.YtcaokljobfkajaaDoor
open Go.RowKit
set_option linter.unusedVariables false
set_option linter.unusedSimpArgs false
attribute [local irreducible] Ans AnsO AnsG AnsN AnsI

set_option maxRecDepth 4000
def gamBd : Gam where
 pure := fun f xs =>
  if f = 15 then (match xs with | [.agg [.int _ bits, .int _ cx0, .int _ cy0, .int _ cx1, .int _ cy1, .int _ tw, .int _ th, .sl on oxs, .sl mn mxs, .sl pn pxs]] => some (RV.tup [RV.d (DV.sl ((boxesS (⟨bits, ⟨cx0, cy0, cx1, cy1⟩, tw, th, ints oxs, toIms mxs, toOps pxs⟩ : Scr)).1.length) (rcs (boxesS (⟨bits, ⟨cx0, cy0, cx1, cy1⟩, tw, th, ints oxs, toIms mxs, toOps pxs⟩ : Scr)).1)), RV.d (DV.int .i64 ((boxesS (⟨bits, ⟨cx0, cy0, cx1, cy1⟩, tw, th, ints oxs, toIms mxs, toOps pxs⟩ : Scr)).2))]) | _ => none) else
  if f = 16 then (match xs with | [.agg [.int _ bits, .int _ cx0, .int _ cy0, .int _ cx1, .int _ cy1, .int _ tw, .int _ th, .sl on oxs, .sl mn mxs, .sl pn pxs]] => some (RV.tup [RV.d (DV.sl ((boxesS (⟨bits, ⟨cx0, cy0, cx1, cy1⟩, tw, th, ints oxs, toIms mxs, toOps pxs⟩ : Scr)).1.length) (rcs (boxesS (⟨bits, ⟨cx0, cy0, cx1, cy1⟩, tw, th, ints oxs, toIms mxs, toOps pxs⟩ : Scr)).1)), RV.d (DV.int .i64 ((boxesS (⟨bits, ⟨cx0, cy0, cx1, cy1⟩, tw, th, ints oxs, toIms mxs, toOps pxs⟩ : Scr)).2))]) | _ => none) else
  if f = 39 then (match xs with | [.d (.sl pn pxs)] => some (RV.tup [RV.d (DV.sl ((endsS (toOps (pxs))).1.length) (is (endsS (toOps (pxs))).1)), RV.d (DV.int .i64 ((endsS (toOps (pxs))).2))]) | _ => none) else
  if f = 37 then (match xs with | [.d (.sl pn pxs)] => some (RV.tup [RV.d (DV.sl ((endsS (toOps (pxs))).1.length) (is (endsS (toOps (pxs))).1)), RV.d (DV.int .i64 ((endsS (toOps (pxs))).2))]) | _ => none) else
  if f = 31 then (match xs with | [.agg [.int _ a, .int _ b, .int _ c, .int _ d], .agg [.int _ a', .int _ b', .int _ c', .int _ d']] => some (RV.agg [DV.int .i64 ((Rc.inter ⟨a, b, c, d⟩ ⟨a', b', c', d'⟩).a), DV.int .i64 ((Rc.inter ⟨a, b, c, d⟩ ⟨a', b', c', d'⟩).b), DV.int .i64 ((Rc.inter ⟨a, b, c, d⟩ ⟨a', b', c', d'⟩).c), DV.int .i64 ((Rc.inter ⟨a, b, c, d⟩ ⟨a', b', c', d'⟩).d)]) | _ => none) else
  if f = 32 then (match xs with | [.agg [.int _ a, .int _ b, .int _ c, .int _ d], .agg [.int _ a', .int _ b', .int _ c', .int _ d']] => some (RV.agg [DV.int .i64 ((Rc.inter ⟨a, b, c, d⟩ ⟨a', b', c', d'⟩).a), DV.int .i64 ((Rc.inter ⟨a, b, c, d⟩ ⟨a', b', c', d'⟩).b), DV.int .i64 ((Rc.inter ⟨a, b, c, d⟩ ⟨a', b', c', d'⟩).c), DV.int .i64 ((Rc.inter ⟨a, b, c, d⟩ ⟨a', b', c', d'⟩).d)]) | _ => none) else
  if f = 40 then (match xs with | [.agg [.int _ a, .int _ b, .int _ c, .int _ d]] => some (RV.d (DV.bool (Rc.empty ⟨a, b, c, d⟩))) | _ => none) else
  if f = 41 then (match xs with | [.agg [.int _ a, .int _ b, .int _ c, .int _ d]] => some (RV.d (DV.bool (Rc.empty ⟨a, b, c, d⟩))) | _ => none) else
  none
 modes := fun f =>
  none
 proc := fun f xs bs =>
  none
 iter := fun f cs =>
  none

def bounds_Active_ann (s : Scr) (r : Rc) : Ann := (Ann.seq Ann.leaf (Ann.seq Ann.leaf (Ann.seq Ann.leaf (Ann.seq Ann.leaf (Ann.seq Ann.leaf (Ann.seq (Ann.seq Ann.leaf (Ann.loop ⟨Nat, fun k => k ≤ s.ops.length ∧ Live s r k, fun k => ⟨[(2, AV.one (Cl.ptr 2 0)), (3, AV.one (Cl.ptr 3 0)), (6, AV.one (Cl.d (DV.sl ((boxesS (⟨s.bits, ⟨s.c.a, s.c.b, s.c.c, s.c.d⟩, s.tw, s.th, ints (is s.ord), toIms (ims s.ims), toOps (ops s.ops)⟩ : Scr)).1.length) (rcs (boxesS (⟨s.bits, ⟨s.c.a, s.c.b, s.c.c, s.c.d⟩, s.tw, s.th, ints (is s.ord), toIms (ims s.ims), toOps (ops s.ops)⟩ : Scr)).1)))), (8, AV.one (Cl.d (DV.sl ((endsS (toOps ((ops s.ops)))).1.length) (is (endsS (toOps ((ops s.ops)))).1)))), (10, AV.one (Cl.ref 28 s.ops.length)), (11, AV.one (Cl.d (DV.int .i64 ((k : Nat) : Int))))], [(2, Bx.cells [Cl.d (DV.int .i64 s.bits), Cl.d (DV.int .i64 s.c.a), Cl.d (DV.int .i64 s.c.b), Cl.d (DV.int .i64 s.c.c), Cl.d (DV.int .i64 s.c.d), Cl.d (DV.int .i64 s.tw), Cl.d (DV.int .i64 s.th), Cl.d (DV.sl s.ord.length (is s.ord)), Cl.d (DV.sl s.ims.length (ims s.ims)), Cl.d (DV.sl s.ops.length (ops s.ops))]), (3, Bx.cells [Cl.d (DV.int .i64 r.a), Cl.d (DV.int .i64 r.b), Cl.d (DV.int .i64 r.c), Cl.d (DV.int .i64 r.d)]), (28, Bx.row 4 1 (bs (actUp s r k)))]⟩, fun k => s.ops.length - k⟩ fun k => Ann.leaf)) Ann.leaf))))))
theorem bounds_Active_vc (s : Scr) (r : Rc) : vcg Tryd.prog gamBd 65 (bodyOf Tryd.f20) (bounds_Active_ann s r) kn0 (start [RV.agg [DV.int .i64 s.bits, DV.int .i64 s.c.a, DV.int .i64 s.c.b, DV.int .i64 s.c.c, DV.int .i64 s.c.d, DV.int .i64 s.tw, DV.int .i64 s.th, DV.sl s.ord.length (is s.ord), DV.sl s.ims.length (ims s.ims), DV.sl s.ops.length (ops s.ops)], RV.agg [DV.int .i64 r.a, DV.int .i64 r.b, DV.int .i64 r.c, DV.int .i64 r.d]]) (post Tryd.prog Tryd.f20.results.toList (· = RV.tup [RV.d (DV.sl ((activeS s r).1.length) (bs (activeS s r).1)), RV.d (DV.int .i64 ((activeS s r).2))])) =
  (let zz0 := [DV.int .i64 s.bits, DV.int .i64 s.c.a, DV.int .i64 s.c.b, DV.int .i64 s.c.c, DV.int .i64 s.c.d, DV.int .i64 s.tw, DV.int .i64 s.th, DV.sl s.ord.length (is s.ord), DV.sl s.ims.length (ims s.ims), DV.sl s.ops.length (ops s.ops)]; let zz1 := [RV.d (DV.sl ((activeS s r).1.length) (bs (activeS s r).1)), RV.d (DV.int .i64 ((activeS s r).2))]; let zz2 := fun (k : Nat) => (k ≤ s.ops.length ∧ Live s r k); let zz3 := (DV.sl ((boxesS (⟨s.bits, s.c, s.tw, s.th, ints (is s.ord), toIms (ims s.ims), toOps (ops s.ops)⟩ : Scr)).1.length) (rcs (boxesS (⟨s.bits, s.c, s.tw, s.th, ints (is s.ord), toIms (ims s.ims), toOps (ops s.ops)⟩ : Scr)).1) = DV.sl ((boxesS (⟨s.bits, s.c, s.tw, s.th, ints (is s.ord), toIms (ims s.ims), toOps (ops s.ops)⟩ : Scr)).1.length) (rcs (boxesS (⟨s.bits, s.c, s.tw, s.th, ints (is s.ord), toIms (ims s.ims), toOps (ops s.ops)⟩ : Scr)).1)); let zz4 := (DV.sl ((endsS (toOps ((ops s.ops)))).1.length) (is (endsS (toOps ((ops s.ops)))).1) = DV.sl ((endsS (toOps ((ops s.ops)))).1.length) (is (endsS (toOps ((ops s.ops)))).1)); let zz5 := (zz0 = zz0); let zz6 := [DV.int .i64 r.a, DV.int .i64 r.b, DV.int .i64 r.c, DV.int .i64 r.d]; let zz7 := (zz6 = zz6); let zz8 := fun (k : Nat) => [DV.int .i64 ((Rc.inter ⟨(nAt (rcs (boxesS (⟨s.bits, s.c, s.tw, s.th, ints (is s.ord), toIms (ims s.ims), toOps (ops s.ops)⟩ : Scr)).1) (((k : Nat) : Int).toNat * 4)), (nAt (rcs (boxesS (⟨s.bits, s.c, s.tw, s.th, ints (is s.ord), toIms (ims s.ims), toOps (ops s.ops)⟩ : Scr)).1) (((k : Nat) : Int).toNat * 4 + 1)), (nAt (rcs (boxesS (⟨s.bits, s.c, s.tw, s.th, ints (is s.ord), toIms (ims s.ims), toOps (ops s.ops)⟩ : Scr)).1) (((k : Nat) : Int).toNat * 4 + 1 + 1)), (nAt (rcs (boxesS (⟨s.bits, s.c, s.tw, s.th, ints (is s.ord), toIms (ims s.ims), toOps (ops s.ops)⟩ : Scr)).1) (((k : Nat) : Int).toNat * 4 + 1 + 1 + 1))⟩ r).a), DV.int .i64 ((Rc.inter ⟨(nAt (rcs (boxesS (⟨s.bits, s.c, s.tw, s.th, ints (is s.ord), toIms (ims s.ims), toOps (ops s.ops)⟩ : Scr)).1) (((k : Nat) : Int).toNat * 4)), (nAt (rcs (boxesS (⟨s.bits, s.c, s.tw, s.th, ints (is s.ord), toIms (ims s.ims), toOps (ops s.ops)⟩ : Scr)).1) (((k : Nat) : Int).toNat * 4 + 1)), (nAt (rcs (boxesS (⟨s.bits, s.c, s.tw, s.th, ints (is s.ord), toIms (ims s.ims), toOps (ops s.ops)⟩ : Scr)).1) (((k : Nat) : Int).toNat * 4 + 1 + 1)), (nAt (rcs (boxesS (⟨s.bits, s.c, s.tw, s.th, ints (is s.ord), toIms (ims s.ims), toOps (ops s.ops)⟩ : Scr)).1) (((k : Nat) : Int).toNat * 4 + 1 + 1 + 1))⟩ r).b), DV.int .i64 ((Rc.inter ⟨(nAt (rcs (boxesS (⟨s.bits, s.c, s.tw, s.th, ints (is s.ord), toIms (ims s.ims), toOps (ops s.ops)⟩ : Scr)).1) (((k : Nat) : Int).toNat * 4)), (nAt (rcs (boxesS (⟨s.bits, s.c, s.tw, s.th, ints (is s.ord), toIms (ims s.ims), toOps (ops s.ops)⟩ : Scr)).1) (((k : Nat) : Int).toNat * 4 + 1)), (nAt (rcs (boxesS (⟨s.bits, s.c, s.tw, s.th, ints (is s.ord), toIms (ims s.ims), toOps (ops s.ops)⟩ : Scr)).1) (((k : Nat) : Int).toNat * 4 + 1 + 1)), (nAt (rcs (boxesS (⟨s.bits, s.c, s.tw, s.th, ints (is s.ord), toIms (ims s.ims), toOps (ops s.ops)⟩ : Scr)).1) (((k : Nat) : Int).toNat * 4 + 1 + 1 + 1))⟩ r).c), DV.int .i64 ((Rc.inter ⟨(nAt (rcs (boxesS (⟨s.bits, s.c, s.tw, s.th, ints (is s.ord), toIms (ims s.ims), toOps (ops s.ops)⟩ : Scr)).1) (((k : Nat) : Int).toNat * 4)), (nAt (rcs (boxesS (⟨s.bits, s.c, s.tw, s.th, ints (is s.ord), toIms (ims s.ims), toOps (ops s.ops)⟩ : Scr)).1) (((k : Nat) : Int).toNat * 4 + 1)), (nAt (rcs (boxesS (⟨s.bits, s.c, s.tw, s.th, ints (is s.ord), toIms (ims s.ims), toOps (ops s.ops)⟩ : Scr)).1) (((k : Nat) : Int).toNat * 4 + 1 + 1)), (nAt (rcs (boxesS (⟨s.bits, s.c, s.tw, s.th, ints (is s.ord), toIms (ims s.ims), toOps (ops s.ops)⟩ : Scr)).1) (((k : Nat) : Int).toNat * 4 + 1 + 1 + 1))⟩ r).d)]; let zz9 := fun (k : Nat) => (0 ≤ ((k : Nat) : Int) ∧ ((k : Nat) : Int) < ((s.ops.length : Nat) : Int)); let zz10 := fun (k' : Nat) => (k' ≤ s.ops.length ∧ Live s r k'); let zz11 := fun (k : Nat) => fun (k' : Nat) => (s.ops.length - k' < s.ops.length - k); let zz12 := (s.ops.length = s.ops.length); let zz13 := fun (k : Nat) => fun (k' : Nat) => (zz5 ∧ zz7 ∧ (List.set (bs (actUp s r k)) (((k : Nat) : Int).toNat * 1) (DV.bool (!(Rc.empty (Rc.inter ⟨(nAt (rcs (boxesS (⟨s.bits, s.c, s.tw, s.th, ints (is s.ord), toIms (ims s.ims), toOps (ops s.ops)⟩ : Scr)).1) (((k : Nat) : Int).toNat * 4)), (nAt (rcs (boxesS (⟨s.bits, s.c, s.tw, s.th, ints (is s.ord), toIms (ims s.ims), toOps (ops s.ops)⟩ : Scr)).1) (((k : Nat) : Int).toNat * 4 + 1)), (nAt (rcs (boxesS (⟨s.bits, s.c, s.tw, s.th, ints (is s.ord), toIms (ims s.ims), toOps (ops s.ops)⟩ : Scr)).1) (((k : Nat) : Int).toNat * 4 + 1 + 1)), (nAt (rcs (boxesS (⟨s.bits, s.c, s.tw, s.th, ints (is s.ord), toIms (ims s.ims), toOps (ops s.ops)⟩ : Scr)).1) (((k : Nat) : Int).toNat * 4 + 1 + 1 + 1))⟩ r)))) = bs (actUp s r k')) ∧ True); let zz14 := fun (k : Nat) => fun (k' : Nat) => (((0 = 0) ∧ (0 = 0) ∧ zz3 ∧ zz4 ∧ zz12 ∧ (DV.int .i64 (IntKind.wrap .i64 (((k : Nat) : Int) + (1 : Int))) = DV.int .i64 ((k' : Nat) : Int)) ∧ True) ∧ (zz13 k k')); True ∧ True ∧ True ∧ True ∧ True ∧ (Ans Tryd.prog 15 [RV.agg zz0] (RV.tup [RV.d (DV.sl ((boxesS (⟨s.bits, s.c, s.tw, s.th, ints (is s.ord), toIms (ims s.ims), toOps (ops s.ops)⟩ : Scr)).1.length) (rcs (boxesS (⟨s.bits, s.c, s.tw, s.th, ints (is s.ord), toIms (ims s.ims), toOps (ops s.ops)⟩ : Scr)).1)), RV.d (DV.int .i64 ((boxesS (⟨s.bits, s.c, s.tw, s.th, ints (is s.ord), toIms (ims s.ims), toOps (ops s.ops)⟩ : Scr)).2))])) ∧ True ∧ True ∧ True ∧ True ∧ True ∧ True ∧ True ∧ (((((boxesS (⟨s.bits, s.c, s.tw, s.th, ints (is s.ord), toIms (ims s.ims), toOps (ops s.ops)⟩ : Scr)).2) != (0 : Int)) = true → True ∧ True ∧ True ∧ RV.tup [RV.d (DV.sl 0 ([])), RV.d (DV.int .i64 ((boxesS (⟨s.bits, s.c, s.tw, s.th, ints (is s.ord), toIms (ims s.ims), toOps (ops s.ops)⟩ : Scr)).2))] = RV.tup zz1) ∧ ((((boxesS (⟨s.bits, s.c, s.tw, s.th, ints (is s.ord), toIms (ims s.ims), toOps (ops s.ops)⟩ : Scr)).2) != (0 : Int)) = false → True ∧ True ∧ (Ans Tryd.prog 39 [RV.d (DV.sl s.ops.length (ops s.ops))] (RV.tup [RV.d (DV.sl ((endsS (toOps ((ops s.ops)))).1.length) (is (endsS (toOps ((ops s.ops)))).1)), RV.d (DV.int .i64 ((endsS (toOps ((ops s.ops)))).2))])) ∧ True ∧ True ∧ True ∧ True ∧ True ∧ True ∧ True ∧ (0 ≤ (((boxesS (⟨s.bits, s.c, s.tw, s.th, ints (is s.ord), toIms (ims s.ims), toOps (ops s.ops)⟩ : Scr)).1.length : Nat) : Int) ∧ (((boxesS (⟨s.bits, s.c, s.tw, s.th, ints (is s.ord), toIms (ims s.ims), toOps (ops s.ops)⟩ : Scr)).1.length : Nat) : Int) ≤ (((boxesS (⟨s.bits, s.c, s.tw, s.th, ints (is s.ord), toIms (ims s.ims), toOps (ops s.ops)⟩ : Scr)).1.length : Nat) : Int) ∧ (((boxesS (⟨s.bits, s.c, s.tw, s.th, ints (is s.ord), toIms (ims s.ims), toOps (ops s.ops)⟩ : Scr)).1.length : Nat) : Int) ≤ ((maxLen : Nat) : Int) ∧ ((1 : Nat) : Int) * (((boxesS (⟨s.bits, s.c, s.tw, s.th, ints (is s.ord), toIms (ims s.ims), toOps (ops s.ops)⟩ : Scr)).1.length : Nat) : Int) ≤ 281474976710656) ∧ True ∧ True ∧ ((∃ k : Nat, (zz2 k) ∧ (((0 = 0) ∧ (0 = 0) ∧ zz3 ∧ zz4 ∧ ((((boxesS (⟨s.bits, s.c, s.tw, s.th, ints (is s.ord), toIms (ims s.ims), toOps (ops s.ops)⟩ : Scr)).1.length : Nat) : Int).toNat = s.ops.length) ∧ (DV.int .i64 0 = DV.int .i64 ((k : Nat) : Int)) ∧ True) ∧ (zz5 ∧ zz7 ∧ (List.replicate (((boxesS (⟨s.bits, s.c, s.tw, s.th, ints (is s.ord), toIms (ims s.ims), toOps (ops s.ops)⟩ : Scr)).1.length : Nat) : Int).toNat (DV.bool false) = bs (actUp s r k)) ∧ True))) ∧ ∀ k : Nat, (zz2 k) → True ∧ True ∧ True ∧ True ∧ (((decide (((k : Nat) : Int) < (((boxesS (⟨s.bits, s.c, s.tw, s.th, ints (is s.ord), toIms (ims s.ims), toOps (ops s.ops)⟩ : Scr)).1.length : Nat) : Int))) = true → True ∧ True ∧ True ∧ True ∧ (0 ≤ ((k : Nat) : Int) ∧ ((k : Nat) : Int) < (((boxesS (⟨s.bits, s.c, s.tw, s.th, ints (is s.ord), toIms (ims s.ims), toOps (ops s.ops)⟩ : Scr)).1.length : Nat) : Int) ∧ ((k : Nat) : Int).toNat * 4 < (rcs (boxesS (⟨s.bits, s.c, s.tw, s.th, ints (is s.ord), toIms (ims s.ims), toOps (ops s.ops)⟩ : Scr)).1).length) ∧ (((rcs (boxesS (⟨s.bits, s.c, s.tw, s.th, ints (is s.ord), toIms (ims s.ims), toOps (ops s.ops)⟩ : Scr)).1)[((k : Nat) : Int).toNat * 4]? = some (DV.int .i64 (nAt (rcs (boxesS (⟨s.bits, s.c, s.tw, s.th, ints (is s.ord), toIms (ims s.ims), toOps (ops s.ops)⟩ : Scr)).1) (((k : Nat) : Int).toNat * 4)))) ∧ ((rcs (boxesS (⟨s.bits, s.c, s.tw, s.th, ints (is s.ord), toIms (ims s.ims), toOps (ops s.ops)⟩ : Scr)).1)[((k : Nat) : Int).toNat * 4 + 1]? = some (DV.int .i64 (nAt (rcs (boxesS (⟨s.bits, s.c, s.tw, s.th, ints (is s.ord), toIms (ims s.ims), toOps (ops s.ops)⟩ : Scr)).1) (((k : Nat) : Int).toNat * 4 + 1)))) ∧ ((rcs (boxesS (⟨s.bits, s.c, s.tw, s.th, ints (is s.ord), toIms (ims s.ims), toOps (ops s.ops)⟩ : Scr)).1)[((k : Nat) : Int).toNat * 4 + 1 + 1]? = some (DV.int .i64 (nAt (rcs (boxesS (⟨s.bits, s.c, s.tw, s.th, ints (is s.ord), toIms (ims s.ims), toOps (ops s.ops)⟩ : Scr)).1) (((k : Nat) : Int).toNat * 4 + 1 + 1)))) ∧ ((rcs (boxesS (⟨s.bits, s.c, s.tw, s.th, ints (is s.ord), toIms (ims s.ims), toOps (ops s.ops)⟩ : Scr)).1)[((k : Nat) : Int).toNat * 4 + 1 + 1 + 1]? = some (DV.int .i64 (nAt (rcs (boxesS (⟨s.bits, s.c, s.tw, s.th, ints (is s.ord), toIms (ims s.ims), toOps (ops s.ops)⟩ : Scr)).1) (((k : Nat) : Int).toNat * 4 + 1 + 1 + 1)))) ∧ True) ∧ True ∧ (Ans Tryd.prog 31 [RV.agg [DV.int .i64 (nAt (rcs (boxesS (⟨s.bits, s.c, s.tw, s.th, ints (is s.ord), toIms (ims s.ims), toOps (ops s.ops)⟩ : Scr)).1) (((k : Nat) : Int).toNat * 4)), DV.int .i64 (nAt (rcs (boxesS (⟨s.bits, s.c, s.tw, s.th, ints (is s.ord), toIms (ims s.ims), toOps (ops s.ops)⟩ : Scr)).1) (((k : Nat) : Int).toNat * 4 + 1)), DV.int .i64 (nAt (rcs (boxesS (⟨s.bits, s.c, s.tw, s.th, ints (is s.ord), toIms (ims s.ims), toOps (ops s.ops)⟩ : Scr)).1) (((k : Nat) : Int).toNat * 4 + 1 + 1)), DV.int .i64 (nAt (rcs (boxesS (⟨s.bits, s.c, s.tw, s.th, ints (is s.ord), toIms (ims s.ims), toOps (ops s.ops)⟩ : Scr)).1) (((k : Nat) : Int).toNat * 4 + 1 + 1 + 1))], RV.agg zz6] (RV.agg (zz8 k))) ∧ (Ans Tryd.prog 40 [RV.agg (zz8 k)] (RV.d (DV.bool (Rc.empty (Rc.inter ⟨(nAt (rcs (boxesS (⟨s.bits, s.c, s.tw, s.th, ints (is s.ord), toIms (ims s.ims), toOps (ops s.ops)⟩ : Scr)).1) (((k : Nat) : Int).toNat * 4)), (nAt (rcs (boxesS (⟨s.bits, s.c, s.tw, s.th, ints (is s.ord), toIms (ims s.ims), toOps (ops s.ops)⟩ : Scr)).1) (((k : Nat) : Int).toNat * 4 + 1)), (nAt (rcs (boxesS (⟨s.bits, s.c, s.tw, s.th, ints (is s.ord), toIms (ims s.ims), toOps (ops s.ops)⟩ : Scr)).1) (((k : Nat) : Int).toNat * 4 + 1 + 1)), (nAt (rcs (boxesS (⟨s.bits, s.c, s.tw, s.th, ints (is s.ord), toIms (ims s.ims), toOps (ops s.ops)⟩ : Scr)).1) (((k : Nat) : Int).toNat * 4 + 1 + 1 + 1))⟩ r))))) ∧ True ∧ (zz9 k) ∧ (((k : Nat) : Int).toNat * 1 + 1 ≤ (bs (actUp s r k)).length) ∧ (true = true) ∧ True ∧ True ∧ True ∧ (0 ≤ ((k : Nat) : Int) ∧ ((k : Nat) : Int) < ((s.ops.length : Nat) : Int) ∧ ((k : Nat) : Int).toNat * 12 < (ops s.ops).length) ∧ True ∧ (((ops s.ops)[((k : Nat) : Int).toNat * 12 + 0]? = some (DV.int .i64 (nAt (ops s.ops) (((k : Nat) : Int).toNat * 12 + 0)))) ∧ True) ∧ True ∧ True ∧ ((((nAt (ops s.ops) (((k : Nat) : Int).toNat * 12 + 0)) == (2 : Int)) = true → True ∧ True ∧ (zz9 k) ∧ (((List.set (bs (actUp s r k)) (((k : Nat) : Int).toNat * 1) (DV.bool (!(Rc.empty (Rc.inter ⟨(nAt (rcs (boxesS (⟨s.bits, s.c, s.tw, s.th, ints (is s.ord), toIms (ims s.ims), toOps (ops s.ops)⟩ : Scr)).1) (((k : Nat) : Int).toNat * 4)), (nAt (rcs (boxesS (⟨s.bits, s.c, s.tw, s.th, ints (is s.ord), toIms (ims s.ims), toOps (ops s.ops)⟩ : Scr)).1) (((k : Nat) : Int).toNat * 4 + 1)), (nAt (rcs (boxesS (⟨s.bits, s.c, s.tw, s.th, ints (is s.ord), toIms (ims s.ims), toOps (ops s.ops)⟩ : Scr)).1) (((k : Nat) : Int).toNat * 4 + 1 + 1)), (nAt (rcs (boxesS (⟨s.bits, s.c, s.tw, s.th, ints (is s.ord), toIms (ims s.ims), toOps (ops s.ops)⟩ : Scr)).1) (((k : Nat) : Int).toNat * 4 + 1 + 1 + 1))⟩ r)))))[((k : Nat) : Int).toNat * 1]? = some (DV.bool (bAt (List.set (bs (actUp s r k)) (((k : Nat) : Int).toNat * 1) (DV.bool (!(Rc.empty (Rc.inter ⟨(nAt (rcs (boxesS (⟨s.bits, s.c, s.tw, s.th, ints (is s.ord), toIms (ims s.ims), toOps (ops s.ops)⟩ : Scr)).1) (((k : Nat) : Int).toNat * 4)), (nAt (rcs (boxesS (⟨s.bits, s.c, s.tw, s.th, ints (is s.ord), toIms (ims s.ims), toOps (ops s.ops)⟩ : Scr)).1) (((k : Nat) : Int).toNat * 4 + 1)), (nAt (rcs (boxesS (⟨s.bits, s.c, s.tw, s.th, ints (is s.ord), toIms (ims s.ims), toOps (ops s.ops)⟩ : Scr)).1) (((k : Nat) : Int).toNat * 4 + 1 + 1)), (nAt (rcs (boxesS (⟨s.bits, s.c, s.tw, s.th, ints (is s.ord), toIms (ims s.ims), toOps (ops s.ops)⟩ : Scr)).1) (((k : Nat) : Int).toNat * 4 + 1 + 1 + 1))⟩ r))))) (((k : Nat) : Int).toNat * 1)))) ∧ True) ∧ True ∧ True ∧ (((!(bAt (List.set (bs (actUp s r k)) (((k : Nat) : Int).toNat * 1) (DV.bool (!(Rc.empty (Rc.inter ⟨(nAt (rcs (boxesS (⟨s.bits, s.c, s.tw, s.th, ints (is s.ord), toIms (ims s.ims), toOps (ops s.ops)⟩ : Scr)).1) (((k : Nat) : Int).toNat * 4)), (nAt (rcs (boxesS (⟨s.bits, s.c, s.tw, s.th, ints (is s.ord), toIms (ims s.ims), toOps (ops s.ops)⟩ : Scr)).1) (((k : Nat) : Int).toNat * 4 + 1)), (nAt (rcs (boxesS (⟨s.bits, s.c, s.tw, s.th, ints (is s.ord), toIms (ims s.ims), toOps (ops s.ops)⟩ : Scr)).1) (((k : Nat) : Int).toNat * 4 + 1 + 1)), (nAt (rcs (boxesS (⟨s.bits, s.c, s.tw, s.th, ints (is s.ord), toIms (ims s.ims), toOps (ops s.ops)⟩ : Scr)).1) (((k : Nat) : Int).toNat * 4 + 1 + 1 + 1))⟩ r))))) (((k : Nat) : Int).toNat * 1))) = true → True ∧ True ∧ (0 ≤ ((k : Nat) : Int) ∧ ((k : Nat) : Int) < (((endsS (toOps ((ops s.ops)))).1.length : Nat) : Int) ∧ ((k : Nat) : Int).toNat * 1 < (is (endsS (toOps ((ops s.ops)))).1).length) ∧ (((is (endsS (toOps ((ops s.ops)))).1)[((k : Nat) : Int).toNat * 1]? = some (DV.int .i64 (nAt (is (endsS (toOps ((ops s.ops)))).1) (((k : Nat) : Int).toNat * 1)))) ∧ True) ∧ True ∧ True ∧ True ∧ True ∧ ∃ k' : Nat, (zz10 k') ∧ (zz11 k k') ∧ (((0 = 0) ∧ (0 = 0) ∧ zz3 ∧ zz4 ∧ zz12 ∧ (DV.int .i64 (IntKind.wrap .i64 ((nAt (is (endsS (toOps ((ops s.ops)))).1) (((k : Nat) : Int).toNat * 1)) + (1 : Int))) = DV.int .i64 ((k' : Nat) : Int)) ∧ True) ∧ (zz13 k k'))) ∧ ((!(bAt (List.set (bs (actUp s r k)) (((k : Nat) : Int).toNat * 1) (DV.bool (!(Rc.empty (Rc.inter ⟨(nAt (rcs (boxesS (⟨s.bits, s.c, s.tw, s.th, ints (is s.ord), toIms (ims s.ims), toOps (ops s.ops)⟩ : Scr)).1) (((k : Nat) : Int).toNat * 4)), (nAt (rcs (boxesS (⟨s.bits, s.c, s.tw, s.th, ints (is s.ord), toIms (ims s.ims), toOps (ops s.ops)⟩ : Scr)).1) (((k : Nat) : Int).toNat * 4 + 1)), (nAt (rcs (boxesS (⟨s.bits, s.c, s.tw, s.th, ints (is s.ord), toIms (ims s.ims), toOps (ops s.ops)⟩ : Scr)).1) (((k : Nat) : Int).toNat * 4 + 1 + 1)), (nAt (rcs (boxesS (⟨s.bits, s.c, s.tw, s.th, ints (is s.ord), toIms (ims s.ims), toOps (ops s.ops)⟩ : Scr)).1) (((k : Nat) : Int).toNat * 4 + 1 + 1 + 1))⟩ r))))) (((k : Nat) : Int).toNat * 1))) = false → True ∧ True ∧ True ∧ ∃ k' : Nat, (zz10 k') ∧ (zz11 k k') ∧ (zz14 k k')))) ∧ (((nAt (ops s.ops) (((k : Nat) : Int).toNat * 12 + 0)) == (2 : Int)) = (!true) → True ∧ True ∧ True ∧ True ∧ ∃ k' : Nat, (zz10 k') ∧ (zz11 k k') ∧ (zz14 k k')))) ∧ ((decide (((k : Nat) : Int) < (((boxesS (⟨s.bits, s.c, s.tw, s.th, ints (is s.ord), toIms (ims s.ims), toOps (ops s.ops)⟩ : Scr)).1.length : Nat) : Int))) = false → True ∧ True ∧ True ∧ RV.tup [RV.d (DV.sl s.ops.length (bs (actUp s r k))), RV.d (DV.int .i64 0)] = RV.tup zz1)))))) := by kernel_rfl
theorem bounds_Active_ans (s : Scr) (r : Rc) : Ans Tryd.prog 20 [RV.agg [DV.int .i64 s.bits, DV.int .i64 s.c.a, DV.int .i64 s.c.b, DV.int .i64 s.c.c, DV.int .i64 s.c.d, DV.int .i64 s.tw, DV.int .i64 s.th, DV.sl s.ord.length (is s.ord), DV.sl s.ims.length (ims s.ims), DV.sl s.ops.length (ops s.ops)], RV.agg [DV.int .i64 r.a, DV.int .i64 r.b, DV.int .i64 r.c, DV.int .i64 r.d]] (RV.tup [RV.d (DV.sl ((activeS s r).1.length) (bs (activeS s r).1)), RV.d (DV.int .i64 ((activeS s r).2))]) :=
  ans_of_vcg (Γ := gamBd) (bounds_Active_ann s r) mixed_ Tryd.func20 rfl (Nat.le_of_ble_eq_true rfl) fun hwf => by
    refine Eq.mpr (bounds_Active_vc s r) ?_
    simp only [true_and, and_true, RV.d.injEq, RV.agg.injEq, RV.tup.injEq, DV.bool.injEq, DV.int.injEq, DV.sl.injEq, List.cons.injEq, forall_const, Bool.not_false, Bool.not_true, Bool.not_eq_true', Bool.not_eq_false', decide_eq_true_eq, decide_eq_false_iff_not, Int.toNat_natCast, R13_Intersect_ans, rect_Intersect_ans, rect_Empty_ans, R13_Empty_ans]
    (try simp only [scr_eta, scr_eta2, ints_is, toIms_ims, toOps_ops])
    have hsE : (⟨s.bits, s.c, s.tw, s.th, s.ord, s.ims, s.ops⟩ : Scr) = s := rfl
    (try simp only [hsE])
    clear hsE
    have bA := bounds_Boxes_ans s
    try simp only [scr_eta, scr_eta2, ints_is, toIms_ims, toOps_ops] at bA
    by_cases h0 : ¬ s.run.1 = 0
    · have e1 := boxes_err h0
      have e2 : activeS s r = ([], s.run.1) := by unfold activeS; rw [if_neg h0]
      rw [e1] at bA
      rw [e1, e2]
      exact ⟨bA, fun _ => ⟨⟨rfl, rfl⟩, rfl⟩, fun h => absurd (by simpa using h) h0⟩
    have h0 : s.run.1 = 0 := Decidable.not_not.1 h0
    obtain ⟨_, e2, e3⟩ := boxes_in h0
    have eA : activeS s r = ((List.range s.ops.length).map (actAt s r), 0) := by unfold activeS; rw [if_pos h0]
    refine ⟨bA, fun h => absurd e2 (by simpa using h), fun _ => ?_⟩
    obtain ⟨fl1, fl2⟩ := frame_len (run_frame h0).1
    have hM : ∀ n : Nat, n ≤ 10000 → n ≤ maxLen := fun n h => by unfold maxLen; omega
    have el := (ends_len h0).1
    have eE := tree_Ends_ans s.ops (by omega)
    rw [toOps_ops] at eE
    rw [eA]
    simp only [e3]
    clear hwf bA
    refine ⟨eE, ⟨by omega, Int.le_refl _, by have := hM s.ops.length (by omega); omega, by omega⟩, ⟨0, ⟨Nat.zero_le _, live_zero s r⟩, ⟨trivial, rfl⟩, by rw [actUp_zero, bs_repl]⟩, fun k hk => ⟨fun hlt => ?_, fun hge => ?_⟩⟩
    · obtain ⟨hk0, hL⟩ := hk
      have hk : k < s.ops.length := by omega
      have b1 := rcs_at (boxesS s).1 k (by omega)
      have b2 := rcs_nAt (show k < (boxesS s).1.length by omega)
      have eb : (boxesS s).1[k] = bxAt s k := by unfold bxAt; rw [List.getElem?_eq_getElem (by omega)]; rfl
      rw [eb] at b1 b2
      have heta : (⟨(bxAt s k).a, (bxAt s k).b, (bxAt s k).c, (bxAt s k).d⟩ : Rc) = bxAt s k := rfl
      have eh : (!((bxAt s k).inter r).empty) = hitB s r k := rfl
      simp only [b2, heta, eh]
      have q1 := ops_rd hk
      have q2 := ops_at hk
      have eo : opAt s k = s.ops[k] := opAt_lt hk
      have w1 : IntKind.wrap .i64 ((k : Int) + 1) = ((k + 1 : Nat) : Int) := wrap_succ (by omega)
      simp only [Nat.add_zero, Nat.mul_one, q2, ← eo, bs_set, ← live_act hL, actUp_succ]
      have ng := is_get (ends_at h0 hk)
      have ne := is_nAt (ends_at h0 hk)
      have ei := enAt_in h0 hk
      have g : (actUp s r (k + 1))[k]? = some (hitB s r k) := by rw [← live_act hL]; simp [actUp, hk]
      have gb := bs_bAt g
      have gg := bs_get g
      simp only [gb, ne, w1]
      refine ⟨⟨by omega, by omega, by rw [rcs_length]; omega⟩, b1, rect_Intersect_ans _ _ _ _ _ _ _ _, rect_Empty_ans _ _ _ _, ⟨by omega, by omega⟩, by rw [bs_length, actUp_len]; omega, ⟨by omega, by omega, by rw [ops_length]; omega⟩, by rw [eo]; exact q1.1, fun h2 => ⟨⟨by omega, by omega⟩, gg, fun hb => ?_, fun hb => ?_⟩, fun h2 => ?_⟩
      · have h2 : (opAt s k).kind = 2 := by simpa using h2
        obtain ⟨l1, l2⟩ := live_skip h0 hk hL h2 hb
        have l3 : actUp s r (k + 1) = actUp s r k := by
          rw [← actUp_succ, live_act hL, hb]
          refine List.ext_getElem (by simp) fun i i1 i2 => ?_
          rw [List.getElem_set]
          split
          · rename_i e; subst e; simp [actUp]
          · rfl
        exact ⟨⟨by omega, by omega, by rw [is_length]; omega⟩, ng, enAt s k + 1, ⟨by omega, l1⟩, by omega, by rw [IntWalk.i64_in _ ⟨by omega, by omega⟩]; omega, by rw [l2, l3]⟩
      · exact ⟨k + 1, ⟨by omega, live_succ hL (by rw [hb]; simp)⟩, by omega, rfl, rfl⟩
      · have h2 : (opAt s k).kind ≠ 2 := by simpa using h2
        exact ⟨k + 1, ⟨by omega, live_succ hL (fun h => h2 h.1)⟩, by omega, rfl, rfl⟩
    · obtain ⟨hk0, hL⟩ := hk
      have : k = s.ops.length := by omega
      subst this
      rw [actUp_all]
      exact ⟨⟨by simp, rfl⟩, trivial⟩

end Go.Proofs.YtcaokljobfkajaaDoor

/-
  Small things of the laws of bounds.
-/
namespace Go.Proofs.YtcaokljobfkajaaDoor
open Go.RowKit
set_option linter.unusedVariables false
set_option linter.unusedSimpArgs false
attribute [local irreducible] Ans AnsO AnsG AnsN AnsI

set_option maxRecDepth 4000
/-- a rectangle of a canvas, out of numbers -/
def prtB (r : Rc) (n0 n1 n2 n3 : Int) : Rc :=
  let w := IntKind.wrap .i64 (r.c - r.a)
  let h := IntKind.wrap .i64 (r.d - r.b)
  let x := modS n0 w
  let y := modS n1 h
  ⟨IntKind.wrap .i64 (r.a + x), IntKind.wrap .i64 (r.b + y), IntKind.wrap .i64 (IntKind.wrap .i64 (IntKind.wrap .i64 (r.a + x) + 1) + modS n2 (IntKind.wrap .i64 (w - x))), IntKind.wrap .i64 (IntKind.wrap .i64 (IntKind.wrap .i64 (r.b + y) + 1) + modS n3 (IntKind.wrap .i64 (h - y)))⟩
theorem prtB_in {r : Rc} (h : -100 ≤ r.a ∧ r.c ≤ 100 ∧ -100 ≤ r.b ∧ r.d ≤ 100 ∧ r.a < r.c ∧ r.b < r.d) (n0 n1 n2 n3 : Int) : r.a ≤ (prtB r n0 n1 n2 n3).a ∧ r.b ≤ (prtB r n0 n1 n2 n3).b ∧ (prtB r n0 n1 n2 n3).c ≤ r.c ∧ (prtB r n0 n1 n2 n3).d ≤ r.d := by
  obtain ⟨h1, h2, h3, h4, h5, h6⟩ := h
  unfold prtB
  rw [IntWalk.i64_in (r.c - r.a) ⟨by omega, by omega⟩, IntWalk.i64_in (r.d - r.b) ⟨by omega, by omega⟩]
  have x := @modS_in n0 (r.c - r.a) (by omega) (by omega)
  have y := @modS_in n1 (r.d - r.b) (by omega) (by omega)
  simp only
  generalize modS n0 (r.c - r.a) = x' at *
  generalize modS n1 (r.d - r.b) = y' at *
  rw [IntWalk.i64_in (r.a + x') ⟨by omega, by omega⟩, IntWalk.i64_in (r.b + y') ⟨by omega, by omega⟩, IntWalk.i64_in (r.a + x' + 1) ⟨by omega, by omega⟩, IntWalk.i64_in (r.b + y' + 1) ⟨by omega, by omega⟩, IntWalk.i64_in (r.c - r.a - x') ⟨by omega, by omega⟩, IntWalk.i64_in (r.d - r.b - y') ⟨by omega, by omega⟩]
  have p := @modS_in n2 (r.c - r.a - x') (by omega) (by omega)
  have q := @modS_in n3 (r.d - r.b - y') (by omega) (by omega)
  rw [IntWalk.i64_in _ ⟨by omega, by omega⟩, IntWalk.i64_in _ ⟨by omega, by omega⟩]
  omega
def awS : Scr := ⟨8, ⟨0, 0, 9, 9⟩, 9, 9, [], [⟨2, 2, true, ⟨0, 0, 0, 0, 0⟩, ⟨0, 0, 0, 0, []⟩, ⟨0, 0, 0, 0, []⟩, ⟨0, 0, 0, 0, []⟩, ⟨0, 0, 0, 0, []⟩, ⟨0, 0, 0, 0, []⟩⟩], [⟨1, 0, 8, 0, 0, 0, 0, 255, 4, 1, false, false⟩, ⟨1, 0, 0, 0, 0, 0, 0, 255, 6, 1, false, false⟩]⟩
theorem awS_boxes : boxesS awS = ([⟨8, 0, 9, 2⟩, ⟨0, 0, 9, 9⟩], 0) := by kernel_rfl
def gamBe : Gam where
 pure := fun f xs =>
  if f = 15 then (match xs with | [.agg [.int _ bits, .int _ cx0, .int _ cy0, .int _ cx1, .int _ cy1, .int _ tw, .int _ th, .sl on oxs, .sl mn mxs, .sl pn pxs]] => some (RV.tup [RV.d (DV.sl ((boxesS (⟨bits, ⟨cx0, cy0, cx1, cy1⟩, tw, th, ints oxs, toIms mxs, toOps pxs⟩ : Scr)).1.length) (rcs (boxesS (⟨bits, ⟨cx0, cy0, cx1, cy1⟩, tw, th, ints oxs, toIms mxs, toOps pxs⟩ : Scr)).1)), RV.d (DV.int .i64 ((boxesS (⟨bits, ⟨cx0, cy0, cx1, cy1⟩, tw, th, ints oxs, toIms mxs, toOps pxs⟩ : Scr)).2))]) | _ => none) else
  if f = 9 then (match xs with | [.d (.int _ n), .d (.int _ k)] => some (RV.d (DV.int .i64 (modS n k))) | _ => none) else
  none
 modes := fun f =>
  none
 proc := fun f xs bs =>
  none
 iter := fun f cs =>
  none

def L24_awake_ann : Ann := (Ann.seq Ann.leaf (Ann.cut ⟨Unit, fun u : Unit => True, fun u : Unit => ⟨[(1, AV.one (Cl.ptr 1 0))], [(1, Bx.cells [Cl.d (DV.int .i64 awS.bits), Cl.d (DV.int .i64 awS.c.a), Cl.d (DV.int .i64 awS.c.b), Cl.d (DV.int .i64 awS.c.c), Cl.d (DV.int .i64 awS.c.d), Cl.d (DV.int .i64 awS.tw), Cl.d (DV.int .i64 awS.th), Cl.ref 7000 awS.ord.length, Cl.ref 7001 awS.ims.length, Cl.ref 7002 awS.ops.length]), (7000, Bx.row 3 1 (is awS.ord)), (7001, Bx.row 49 28 (ims awS.ims)), (7002, Bx.row 29 12 (ops awS.ops))]⟩, fun u : Unit => 0⟩ Ann.leaf fun u => Ann.leaf))
theorem L24_awake_vc : vcg Tryd.prog gamBe 38 (bodyOf Tryd.f10) (L24_awake_ann ) kn0 (start []) (post Tryd.prog Tryd.f10.results.toList (· = RV.d (DV.bool true))) =
  (True ∧ (True ∧ True ∧ True ∧ True ∧ True ∧ True ∧ True ∧ True ∧ True ∧ ∃ u : Unit, True ∧ (((0 = 0) ∧ True) ∧ (((DV.int .i64 8 = DV.int .i64 awS.bits) ∧ (DV.int .i64 0 = DV.int .i64 awS.c.a) ∧ (DV.int .i64 0 = DV.int .i64 awS.c.b) ∧ (DV.int .i64 9 = DV.int .i64 awS.c.c) ∧ (DV.int .i64 9 = DV.int .i64 awS.c.d) ∧ (DV.int .i64 9 = DV.int .i64 awS.tw) ∧ (DV.int .i64 9 = DV.int .i64 awS.th) ∧ (0 = awS.ord.length) ∧ (1 = awS.ims.length) ∧ (2 = awS.ops.length) ∧ True) ∧ ([] = is awS.ord) ∧ ([DV.int .i64 2, DV.int .i64 2, DV.bool true, DV.int .u16 0, DV.int .u16 0, DV.int .u16 0, DV.int .u16 0, DV.int .u16 0, DV.int .i64 0, DV.int .i64 0, DV.int .i64 0, DV.sl 0 ([]), DV.int .i64 0, DV.int .i64 0, DV.int .i64 0, DV.sl 0 ([]), DV.int .i64 0, DV.int .i64 0, DV.int .i64 0, DV.sl 0 ([]), DV.int .i64 0, DV.int .i64 0, DV.int .i64 0, DV.sl 0 ([]), DV.int .i64 0, DV.int .i64 0, DV.int .i64 0, DV.sl 0 ([])] = ims awS.ims) ∧ ([DV.int .i64 1, DV.int .i64 0, DV.int .i64 8, DV.int .i64 0, DV.int .i64 0, DV.int .i64 0, DV.int .i64 0, DV.int .u16 255, DV.int .i64 4, DV.int .i64 1, DV.bool false, DV.bool false, DV.int .i64 1, DV.int .i64 0, DV.int .i64 0, DV.int .i64 0, DV.int .i64 0, DV.int .i64 0, DV.int .i64 0, DV.int .u16 255, DV.int .i64 6, DV.int .i64 1, DV.bool false, DV.bool false] = ops awS.ops) ∧ True))) ∧ ∀ u : Unit, (True) → True ∧ (Ans Tryd.prog 15 [RV.agg [DV.int .i64 awS.bits, DV.int .i64 awS.c.a, DV.int .i64 awS.c.b, DV.int .i64 awS.c.c, DV.int .i64 awS.c.d, DV.int .i64 awS.tw, DV.int .i64 awS.th, DV.sl awS.ord.length (is awS.ord), DV.sl awS.ims.length (ims awS.ims), DV.sl awS.ops.length (ops awS.ops)]] (RV.tup [RV.d (DV.sl ((boxesS (⟨awS.bits, awS.c, awS.tw, awS.th, ints (is awS.ord), toIms (ims awS.ims), toOps (ops awS.ops)⟩ : Scr)).1.length) (rcs (boxesS (⟨awS.bits, awS.c, awS.tw, awS.th, ints (is awS.ord), toIms (ims awS.ims), toOps (ops awS.ops)⟩ : Scr)).1)), RV.d (DV.int .i64 ((boxesS (⟨awS.bits, awS.c, awS.tw, awS.th, ints (is awS.ord), toIms (ims awS.ims), toOps (ops awS.ops)⟩ : Scr)).2))])) ∧ True ∧ True ∧ True ∧ True ∧ True ∧ True ∧ True ∧ True ∧ (((((boxesS (⟨awS.bits, awS.c, awS.tw, awS.th, ints (is awS.ord), toIms (ims awS.ims), toOps (ops awS.ops)⟩ : Scr)).2) == (0 : Int)) = true → True ∧ True ∧ True ∧ True ∧ True ∧ ((((((boxesS (⟨awS.bits, awS.c, awS.tw, awS.th, ints (is awS.ord), toIms (ims awS.ims), toOps (ops awS.ops)⟩ : Scr)).1.length : Nat) : Int) == (2 : Int)) = true → True ∧ (0 ≤ (0 : Int) ∧ (0 : Int) < (((boxesS (⟨awS.bits, awS.c, awS.tw, awS.th, ints (is awS.ord), toIms (ims awS.ims), toOps (ops awS.ops)⟩ : Scr)).1.length : Nat) : Int) ∧ 0 < (rcs (boxesS (⟨awS.bits, awS.c, awS.tw, awS.th, ints (is awS.ord), toIms (ims awS.ims), toOps (ops awS.ops)⟩ : Scr)).1).length) ∧ (((rcs (boxesS (⟨awS.bits, awS.c, awS.tw, awS.th, ints (is awS.ord), toIms (ims awS.ims), toOps (ops awS.ops)⟩ : Scr)).1)[0]? = some (DV.int .i64 (nAt (rcs (boxesS (⟨awS.bits, awS.c, awS.tw, awS.th, ints (is awS.ord), toIms (ims awS.ims), toOps (ops awS.ops)⟩ : Scr)).1) 0))) ∧ ((rcs (boxesS (⟨awS.bits, awS.c, awS.tw, awS.th, ints (is awS.ord), toIms (ims awS.ims), toOps (ops awS.ops)⟩ : Scr)).1)[1]? = some (DV.int .i64 (nAt (rcs (boxesS (⟨awS.bits, awS.c, awS.tw, awS.th, ints (is awS.ord), toIms (ims awS.ims), toOps (ops awS.ops)⟩ : Scr)).1) 1))) ∧ ((rcs (boxesS (⟨awS.bits, awS.c, awS.tw, awS.th, ints (is awS.ord), toIms (ims awS.ims), toOps (ops awS.ops)⟩ : Scr)).1)[2]? = some (DV.int .i64 (nAt (rcs (boxesS (⟨awS.bits, awS.c, awS.tw, awS.th, ints (is awS.ord), toIms (ims awS.ims), toOps (ops awS.ops)⟩ : Scr)).1) 2))) ∧ ((rcs (boxesS (⟨awS.bits, awS.c, awS.tw, awS.th, ints (is awS.ord), toIms (ims awS.ims), toOps (ops awS.ops)⟩ : Scr)).1)[3]? = some (DV.int .i64 (nAt (rcs (boxesS (⟨awS.bits, awS.c, awS.tw, awS.th, ints (is awS.ord), toIms (ims awS.ims), toOps (ops awS.ops)⟩ : Scr)).1) 3))) ∧ True) ∧ True ∧ True ∧ True ∧ True ∧ (((((nAt (rcs (boxesS (⟨awS.bits, awS.c, awS.tw, awS.th, ints (is awS.ord), toIms (ims awS.ims), toOps (ops awS.ops)⟩ : Scr)).1) 0) == (8 : Int)) && (((nAt (rcs (boxesS (⟨awS.bits, awS.c, awS.tw, awS.th, ints (is awS.ord), toIms (ims awS.ims), toOps (ops awS.ops)⟩ : Scr)).1) 1) == (0 : Int)) && (((nAt (rcs (boxesS (⟨awS.bits, awS.c, awS.tw, awS.th, ints (is awS.ord), toIms (ims awS.ims), toOps (ops awS.ops)⟩ : Scr)).1) 2) == (9 : Int)) && (((nAt (rcs (boxesS (⟨awS.bits, awS.c, awS.tw, awS.th, ints (is awS.ord), toIms (ims awS.ims), toOps (ops awS.ops)⟩ : Scr)).1) 3) == (2 : Int)) && true)))) = true → True ∧ (0 ≤ (1 : Int) ∧ (1 : Int) < (((boxesS (⟨awS.bits, awS.c, awS.tw, awS.th, ints (is awS.ord), toIms (ims awS.ims), toOps (ops awS.ops)⟩ : Scr)).1.length : Nat) : Int) ∧ 4 < (rcs (boxesS (⟨awS.bits, awS.c, awS.tw, awS.th, ints (is awS.ord), toIms (ims awS.ims), toOps (ops awS.ops)⟩ : Scr)).1).length) ∧ (((rcs (boxesS (⟨awS.bits, awS.c, awS.tw, awS.th, ints (is awS.ord), toIms (ims awS.ims), toOps (ops awS.ops)⟩ : Scr)).1)[4]? = some (DV.int .i64 (nAt (rcs (boxesS (⟨awS.bits, awS.c, awS.tw, awS.th, ints (is awS.ord), toIms (ims awS.ims), toOps (ops awS.ops)⟩ : Scr)).1) 4))) ∧ ((rcs (boxesS (⟨awS.bits, awS.c, awS.tw, awS.th, ints (is awS.ord), toIms (ims awS.ims), toOps (ops awS.ops)⟩ : Scr)).1)[5]? = some (DV.int .i64 (nAt (rcs (boxesS (⟨awS.bits, awS.c, awS.tw, awS.th, ints (is awS.ord), toIms (ims awS.ims), toOps (ops awS.ops)⟩ : Scr)).1) 5))) ∧ ((rcs (boxesS (⟨awS.bits, awS.c, awS.tw, awS.th, ints (is awS.ord), toIms (ims awS.ims), toOps (ops awS.ops)⟩ : Scr)).1)[6]? = some (DV.int .i64 (nAt (rcs (boxesS (⟨awS.bits, awS.c, awS.tw, awS.th, ints (is awS.ord), toIms (ims awS.ims), toOps (ops awS.ops)⟩ : Scr)).1) 6))) ∧ ((rcs (boxesS (⟨awS.bits, awS.c, awS.tw, awS.th, ints (is awS.ord), toIms (ims awS.ims), toOps (ops awS.ops)⟩ : Scr)).1)[7]? = some (DV.int .i64 (nAt (rcs (boxesS (⟨awS.bits, awS.c, awS.tw, awS.th, ints (is awS.ord), toIms (ims awS.ims), toOps (ops awS.ops)⟩ : Scr)).1) 7))) ∧ True) ∧ True ∧ True ∧ True ∧ True ∧ True ∧ (true = true) ∧ RV.d (DV.bool (((nAt (rcs (boxesS (⟨awS.bits, awS.c, awS.tw, awS.th, ints (is awS.ord), toIms (ims awS.ims), toOps (ops awS.ops)⟩ : Scr)).1) 4) == awS.c.a) && (((nAt (rcs (boxesS (⟨awS.bits, awS.c, awS.tw, awS.th, ints (is awS.ord), toIms (ims awS.ims), toOps (ops awS.ops)⟩ : Scr)).1) 5) == awS.c.b) && (((nAt (rcs (boxesS (⟨awS.bits, awS.c, awS.tw, awS.th, ints (is awS.ord), toIms (ims awS.ims), toOps (ops awS.ops)⟩ : Scr)).1) 6) == awS.c.c) && (((nAt (rcs (boxesS (⟨awS.bits, awS.c, awS.tw, awS.th, ints (is awS.ord), toIms (ims awS.ims), toOps (ops awS.ops)⟩ : Scr)).1) 7) == awS.c.d) && true))))) = RV.d (DV.bool true)) ∧ ((((nAt (rcs (boxesS (⟨awS.bits, awS.c, awS.tw, awS.th, ints (is awS.ord), toIms (ims awS.ims), toOps (ops awS.ops)⟩ : Scr)).1) 0) == (8 : Int)) && (((nAt (rcs (boxesS (⟨awS.bits, awS.c, awS.tw, awS.th, ints (is awS.ord), toIms (ims awS.ims), toOps (ops awS.ops)⟩ : Scr)).1) 1) == (0 : Int)) && (((nAt (rcs (boxesS (⟨awS.bits, awS.c, awS.tw, awS.th, ints (is awS.ord), toIms (ims awS.ims), toOps (ops awS.ops)⟩ : Scr)).1) 2) == (9 : Int)) && (((nAt (rcs (boxesS (⟨awS.bits, awS.c, awS.tw, awS.th, ints (is awS.ord), toIms (ims awS.ims), toOps (ops awS.ops)⟩ : Scr)).1) 3) == (2 : Int)) && true)))) = (!true) → True ∧ True ∧ (true = true) ∧ RV.d (DV.bool false) = RV.d (DV.bool true)))) ∧ (((((boxesS (⟨awS.bits, awS.c, awS.tw, awS.th, ints (is awS.ord), toIms (ims awS.ims), toOps (ops awS.ops)⟩ : Scr)).1.length : Nat) : Int) == (2 : Int)) = (!true) → True ∧ True ∧ True ∧ True ∧ (true = true) ∧ RV.d (DV.bool false) = RV.d (DV.bool true)))) ∧ ((((boxesS (⟨awS.bits, awS.c, awS.tw, awS.th, ints (is awS.ord), toIms (ims awS.ims), toOps (ops awS.ops)⟩ : Scr)).2) == (0 : Int)) = (!true) → True ∧ True ∧ True ∧ True ∧ True ∧ True ∧ (true = true) ∧ RV.d (DV.bool false) = RV.d (DV.bool true)))) := by kernel_rfl
theorem L24_awake_ans : Ans Tryd.prog 10 [] (RV.d (DV.bool true)) :=
  ans_of_vcg (Γ := gamBe) (L24_awake_ann ) mixed_ Tryd.func10 rfl (Nat.le_of_ble_eq_true rfl) fun hwf => by
    refine Eq.mpr (L24_awake_vc ) ?_
    simp only [true_and, and_true, RV.d.injEq, RV.agg.injEq, RV.tup.injEq, DV.bool.injEq, DV.int.injEq, DV.sl.injEq, List.cons.injEq, forall_const, Bool.not_false, Bool.not_true, Bool.not_eq_true', Bool.not_eq_false', decide_eq_true_eq, decide_eq_false_iff_not, Int.toNat_natCast, G_Mod_ans]
    have eS : (⟨awS.bits, awS.c, awS.tw, awS.th, ints (is awS.ord), toIms (ims awS.ims), toOps (ops awS.ops)⟩ : Scr) = awS := scr_eta awS
    have a := bounds_Boxes_ans awS
    simp only [eS, awS_boxes] at a ⊢
    refine ⟨⟨(), ⟨rfl, rfl, rfl, rfl, rfl, rfl, rfl, rfl, rfl, rfl⟩, rfl, rfl, rfl⟩, a, ?_⟩
    simp [rcs, Rc.cells, nAt, awS]

def G_Part_ann (r : Rc) (n0 : Int) (n1 : Int) (n2 : Int) (n3 : Int) : Ann := Ann.leaf
theorem G_Part_vc (r : Rc) (n0 : Int) (n1 : Int) (n2 : Int) (n3 : Int) : vcg Tryd.prog gamBe 60 (bodyOf Tryd.f18) (G_Part_ann r n0 n1 n2 n3) kn0 (start [RV.agg [DV.int .i64 r.a, DV.int .i64 r.b, DV.int .i64 r.c, DV.int .i64 r.d], RV.agg [DV.int .i64 n0, DV.int .i64 n1, DV.int .i64 n2, DV.int .i64 n3]]) (post Tryd.prog Tryd.f18.results.toList (· = RV.agg [DV.int .i64 ((prtB r n0 n1 n2 n3).a), DV.int .i64 ((prtB r n0 n1 n2 n3).b), DV.int .i64 ((prtB r n0 n1 n2 n3).c), DV.int .i64 ((prtB r n0 n1 n2 n3).d)])) =
  (let zz0 := (IntKind.wrap .i64 (r.c - r.a)); let zz1 := (IntKind.wrap .i64 (r.d - r.b)); let zz2 := (IntKind.wrap .i64 (zz0 - (modS n0 zz0))); let zz3 := (IntKind.wrap .i64 (zz1 - (modS n1 zz1))); let zz4 := (IntKind.wrap .i64 (r.a + (modS n0 zz0))); let zz5 := (IntKind.wrap .i64 (r.b + (modS n1 zz1))); True ∧ True ∧ True ∧ True ∧ True ∧ True ∧ True ∧ True ∧ True ∧ True ∧ True ∧ True ∧ True ∧ True ∧ True ∧ (true = true) ∧ (0 ≤ (0 : Int) ∧ (0 : Int) < ((4 : Nat) : Int)) ∧ True ∧ True ∧ (Ans Tryd.prog 9 [RV.d (DV.int .i64 n0), RV.d (DV.int .i64 zz0)] (RV.d (DV.int .i64 (modS n0 zz0)))) ∧ (0 ≤ (1 : Int) ∧ (1 : Int) < ((4 : Nat) : Int)) ∧ True ∧ True ∧ (Ans Tryd.prog 9 [RV.d (DV.int .i64 n1), RV.d (DV.int .i64 zz1)] (RV.d (DV.int .i64 (modS n1 zz1)))) ∧ True ∧ True ∧ (true = true) ∧ True ∧ True ∧ True ∧ True ∧ True ∧ True ∧ True ∧ True ∧ True ∧ True ∧ True ∧ True ∧ True ∧ (0 ≤ (2 : Int) ∧ (2 : Int) < ((4 : Nat) : Int)) ∧ True ∧ True ∧ True ∧ True ∧ (Ans Tryd.prog 9 [RV.d (DV.int .i64 n2), RV.d (DV.int .i64 zz2)] (RV.d (DV.int .i64 (modS n2 zz2)))) ∧ True ∧ True ∧ True ∧ True ∧ True ∧ True ∧ (0 ≤ (3 : Int) ∧ (3 : Int) < ((4 : Nat) : Int)) ∧ True ∧ True ∧ True ∧ True ∧ (Ans Tryd.prog 9 [RV.d (DV.int .i64 n3), RV.d (DV.int .i64 zz3)] (RV.d (DV.int .i64 (modS n3 zz3)))) ∧ True ∧ True ∧ True ∧ (true = true) ∧ RV.agg [DV.int .i64 zz4, DV.int .i64 zz5, DV.int .i64 (IntKind.wrap .i64 ((IntKind.wrap .i64 (zz4 + (1 : Int))) + (modS n2 zz2))), DV.int .i64 (IntKind.wrap .i64 ((IntKind.wrap .i64 (zz5 + (1 : Int))) + (modS n3 zz3)))] = RV.agg [DV.int .i64 ((prtB r n0 n1 n2 n3).a), DV.int .i64 ((prtB r n0 n1 n2 n3).b), DV.int .i64 ((prtB r n0 n1 n2 n3).c), DV.int .i64 ((prtB r n0 n1 n2 n3).d)]) := by kernel_rfl
theorem G_Part_ans (r : Rc) (n0 : Int) (n1 : Int) (n2 : Int) (n3 : Int) : Ans Tryd.prog 18 [RV.agg [DV.int .i64 r.a, DV.int .i64 r.b, DV.int .i64 r.c, DV.int .i64 r.d], RV.agg [DV.int .i64 n0, DV.int .i64 n1, DV.int .i64 n2, DV.int .i64 n3]] (RV.agg [DV.int .i64 ((prtB r n0 n1 n2 n3).a), DV.int .i64 ((prtB r n0 n1 n2 n3).b), DV.int .i64 ((prtB r n0 n1 n2 n3).c), DV.int .i64 ((prtB r n0 n1 n2 n3).d)]) :=
  ans_of_vcg (Γ := gamBe) (G_Part_ann r n0 n1 n2 n3) mixed_ Tryd.func18 rfl (Nat.le_of_ble_eq_true rfl) fun hwf => by
    refine Eq.mpr (G_Part_vc r n0 n1 n2 n3) ?_
    simp only [true_and, and_true, RV.d.injEq, RV.agg.injEq, RV.tup.injEq, DV.bool.injEq, DV.int.injEq, DV.sl.injEq, List.cons.injEq, forall_const, Bool.not_false, Bool.not_true, Bool.not_eq_true', Bool.not_eq_false', decide_eq_true_eq, decide_eq_false_iff_not, Int.toNat_natCast, G_Mod_ans]
    simp [prtB]

end Go.Proofs.YtcaokljobfkajaaDoor

/-
  What a law is handed, in plain words: scenes, lists of operations.
-/
namespace Go.Proofs.YtcaokljobfkajaaDoor
open Go.RowKit
set_option linter.unusedVariables false
set_option linter.unusedSimpArgs false

def Leaves (P : Program) (ls : List TypeId) (n : Nat) (xs : List DV) : Prop :=
  xs.length = n * ls.length ∧ ∀ (j : Nat) d, xs[j]? = some d → ∃ t', ls[j % ls.length]? = some t' ∧ ∃ q, LeafD P q t' d
theorem Leaves.at_ {P : Program} {ls : List TypeId} {n : Nat} {xs : List DV} (h : Leaves P ls n xs) {k r : Nat} {t : TypeId} (hk : k < n) (hr : ls[r]? = some t) : ∃ d q, xs[k * ls.length + r]? = some d ∧ LeafD P q t d := by
  obtain ⟨hn, hx⟩ := h
  have hr' : r < ls.length := (List.getElem?_eq_some_iff.1 hr).1
  have hle : (k + 1) * ls.length ≤ n * ls.length := Nat.mul_le_mul_right _ (by omega)
  rw [Nat.add_mul] at hle
  have hj : k * ls.length + r < xs.length := by omega
  obtain ⟨t', a, q, b⟩ := hx _ _ (List.getElem?_eq_getElem hj)
  rw [Nat.mul_comm k, Nat.mul_add_mod, Nat.mod_eq_of_lt hr', hr] at a
  injection a with a
  subst a
  exact ⟨_, q, List.getElem?_eq_getElem hj, b⟩
theorem Leaves.int {P : Program} {ls : List TypeId} {n : Nat} {xs : List DV} (h : Leaves P ls n xs) {k r : Nat} {t : TypeId} {kk : IntKind} (hk : k < n) (hr : ls[r]? = some t) (hu : P.underlying t = some (.int kk)) : xs[k * ls.length + r]? = some (.int kk (nAt xs (k * ls.length + r))) := by
  obtain ⟨d, q, e, b⟩ := h.at_ hk hr
  obtain ⟨v, rfl⟩ := b.int hu
  simp only [nAt, e]
theorem Leaves.bool {P : Program} {ls : List TypeId} {n : Nat} {xs : List DV} (h : Leaves P ls n xs) {k r : Nat} {t : TypeId} (hk : k < n) (hr : ls[r]? = some t) (hu : P.underlying t = some .bool) : xs[k * ls.length + r]? = some (.bool (bAt xs (k * ls.length + r))) := by
  obtain ⟨d, q, e, b⟩ := h.at_ hk hr
  obtain ⟨v, rfl⟩ := b.bool hu
  simp only [bAt, e]
theorem Leaves.sl {P : Program} {ls : List TypeId} {n : Nat} {xs : List DV} (h : Leaves P ls n xs) {k r : Nat} {t e : TypeId} {ms : List TypeId} (hk : k < n) (hr : ls[r]? = some t) (hu : P.underlying t = some (.slice e)) (hl : lv P e = some ms) :
    xs[k * ls.length + r]? = some (.sl (lAt xs (k * ls.length + r)) (cAt xs (k * ls.length + r))) ∧ Leaves P ms (lAt xs (k * ls.length + r)) (cAt xs (k * ls.length + r)) := by
  obtain ⟨d, q, e1, b⟩ := h.at_ hk hr
  obtain ⟨m, ys, rfl, _, h1, h2⟩ := b.slice hu hl
  simp only [lAt, cAt, e1]
  exact ⟨trivial, h1, h2⟩
theorem Leaves.ints {P : Program} {t : TypeId} {n : Nat} {xs : List DV} (h : Leaves P [t] n xs) (hu : P.underlying t = some (.int .i64)) : xs = is (ints xs) ∧ n = xs.length :=
  isI_of (by have := h.1; simpa using this) fun j d hj => by obtain ⟨t', a, q, b⟩ := h.2 j d hj; exact intLeaf1 hu a b
theorem Leaves.five {P : Program} {t : TypeId} {n : Nat} {xs : List DV} (h : Leaves P [t, t, t, t, t] n xs) (hu : P.underlying t = some (.int .i64)) : Is5 n xs :=
  is5_of h.1 fun j d hj => by obtain ⟨t', a, q, b⟩ := h.2 j d hj; exact intLeaf5 hu a b
theorem Leaves.pics {P : Program} {t ts e : TypeId} {n : Nat} {xs : List DV} (h : Leaves P [t, t, t, t, ts] n xs) (hu : P.underlying t = some (.int .i64)) (hs : P.underlying ts = some (.slice e)) (hl : lv P e = some [t, t, t, t, t]) : IsPics n xs :=
  ⟨h.1, fun k hk => ⟨h.int (r := 0) hk rfl hu, h.int (r := 1) hk rfl hu, h.int (r := 2) hk rfl hu, h.int (r := 3) hk rfl hu, (h.sl (r := 4) hk rfl hs hl).1, (h.sl (r := 4) hk rfl hs hl).2.five hu⟩⟩
theorem Leaves.raws {P : Program} {t : TypeId} {n : Nat} {xs : List DV} (h : Leaves P [t, t, t, t, t, t, t, t, t, t, t] n xs) (hu : P.underlying t = some (.int .i64)) : IsRws n xs := by
  refine ⟨h.1, fun i hi => ?_⟩
  have hr : [t, t, t, t, t, t, t, t, t, t, t][i % 11]? = some t := by
    have h2 : i % 11 < 11 := Nat.mod_lt _ (by omega)
    generalize i % 11 = r at *
    match r, h2 with
    | 0, _ | 1, _ | 2, _ | 3, _ | 4, _ | 5, _ | 6, _ | 7, _ | 8, _ | 9, _ | 10, _ => rfl
  have := h.int (k := i / 11) (r := i % 11) (by omega) hr hu
  have e : i / 11 * [t, t, t, t, t, t, t, t, t, t, t].length + i % 11 = i := by show i / 11 * 11 + i % 11 = i; omega
  rw [e] at this
  exact this
theorem blocks_eq {xs ys : List DV} {n m : Nat} (hx : xs.length = n * m) (hy : ys.length = n * m) (h : ∀ k, k < n → ∀ j, j < m → xs[k * m + j]? = ys[k * m + j]?) : xs = ys := by
  refine List.ext_getElem? fun i => ?_
  by_cases hi : i < n * m
  · have hm : 0 < m := by
      rcases Nat.eq_zero_or_pos m with h0 | h0
      · subst h0; simp at hi
      · exact h0
    have := h (i / m) (Nat.div_lt_of_lt_mul (by rw [Nat.mul_comm]; exact hi)) (i % m) (Nat.mod_lt _ hm)
    have e : i / m * m + i % m = i := by rw [Nat.mul_comm]; exact Nat.div_add_mod i m
    rw [e] at this
    exact this
  · rw [List.getElem?_eq_none (by omega), List.getElem?_eq_none (by omega)]
theorem Leaves.ops {P : Program} {t u b : TypeId} {n : Nat} {xs : List DV} (h : Leaves P [t, t, t, t, t, t, t, u, t, t, b, b] n xs) (ht : P.underlying t = some (.int .i64)) (hu : P.underlying u = some (.int .u16)) (hb : P.underlying b = some .bool) : IsOps n xs := by
  have hl : xs.length = n * 12 := h.1
  have hn : (toOps xs).length = n := by unfold toOps; rw [List.length_map, List.length_range, hl]; omega
  refine ⟨blocks_eq hl (by rw [ops_length, hn]) fun k hk j hj => ?_, hn.symm⟩
  have e : (toOps xs)[k]'(by omega) = oqAt xs (k * 12) := by simp [toOps]
  rw [ops_get (by omega) j hj, e]
  have key := fun r (hr : r < 12) => h.at_ (k := k) (r := r) (t := [t, t, t, t, t, t, t, u, t, t, b, b][r]) hk (List.getElem?_eq_getElem hr)
  match j, hj with
  | 0, _ => exact h.int (r := 0) hk rfl ht
  | 1, _ => exact h.int (r := 1) hk rfl ht
  | 2, _ => exact h.int (r := 2) hk rfl ht
  | 3, _ => exact h.int (r := 3) hk rfl ht
  | 4, _ => exact h.int (r := 4) hk rfl ht
  | 5, _ => exact h.int (r := 5) hk rfl ht
  | 6, _ => exact h.int (r := 6) hk rfl ht
  | 7, _ => exact h.int (r := 7) hk rfl hu
  | 8, _ => exact h.int (r := 8) hk rfl ht
  | 9, _ => exact h.int (r := 9) hk rfl ht
  | 10, _ => exact h.bool (r := 10) hk rfl hb
  | 11, _ => exact h.bool (r := 11) hk rfl hb
def IsBs (n : Nat) (xs : List DV) : Prop := xs.length = n ∧ ∀ i, i < n → xs[i]? = some (.bool (bAt xs i))
theorem Leaves.bools {P : Program} {b : TypeId} {n : Nat} {xs : List DV} (h : Leaves P [b] n xs) (hb : P.underlying b = some .bool) : IsBs n xs :=
  ⟨by have := h.1; simpa using this, fun i hi => by
    have := h.bool (k := i) (r := 0) hi rfl hb
    simpa using this⟩
end Go.Proofs.YtcaokljobfkajaaDoor

/-
  BoundsActiveIsBalanced answers true, whatever it is handed.
-/
namespace Go.Proofs.YtcaokljobfkajaaDoor
open Go.RowKit
set_option linter.unusedVariables false
set_option linter.unusedSimpArgs false
attribute [local irreducible] Ans AnsO AnsG AnsN AnsI

set_option maxRecDepth 4000
def gamBoundsActiveIsBalanced : Gam where
 pure := fun f xs =>
  if f = 18 then (match xs with | [.agg [.int _ ra, .int _ rb, .int _ rc_, .int _ rd], .agg [.int _ n0, .int _ n1, .int _ n2, .int _ n3]] => some (RV.agg [DV.int .i64 ((prtB ⟨ra, rb, rc_, rd⟩ n0 n1 n2 n3).a), DV.int .i64 ((prtB ⟨ra, rb, rc_, rd⟩ n0 n1 n2 n3).b), DV.int .i64 ((prtB ⟨ra, rb, rc_, rd⟩ n0 n1 n2 n3).c), DV.int .i64 ((prtB ⟨ra, rb, rc_, rd⟩ n0 n1 n2 n3).d)]) | _ => none) else
  if f = 20 then (match xs with | [.agg [.int _ bits, .int _ cx0, .int _ cy0, .int _ cx1, .int _ cy1, .int _ tw, .int _ th, .sl on oxs, .sl mn mxs, .sl pn pxs], .agg [.int _ ra, .int _ rb, .int _ rc_, .int _ rd]] => some (RV.tup [RV.d (DV.sl ((activeS (⟨bits, ⟨cx0, cy0, cx1, cy1⟩, tw, th, ints oxs, toIms mxs, toOps pxs⟩ : Scr) ⟨ra, rb, rc_, rd⟩).1.length) (bs (activeS (⟨bits, ⟨cx0, cy0, cx1, cy1⟩, tw, th, ints oxs, toIms mxs, toOps pxs⟩ : Scr) ⟨ra, rb, rc_, rd⟩).1)), RV.d (DV.int .i64 ((activeS (⟨bits, ⟨cx0, cy0, cx1, cy1⟩, tw, th, ints oxs, toIms mxs, toOps pxs⟩ : Scr) ⟨ra, rb, rc_, rd⟩).2))]) | _ => none) else
  if f = 20 then (match xs with | [.agg [.int _ bits, .int _ cx0, .int _ cy0, .int _ cx1, .int _ cy1, .int _ tw, .int _ th, .sl on oxs, .sl mn mxs, .sl pn pxs], .agg [.int _ ra, .int _ rb, .int _ rc_, .int _ rd]] => some (RV.tup [RV.d (DV.sl ((activeS (⟨bits, ⟨cx0, cy0, cx1, cy1⟩, tw, th, ints oxs, toIms mxs, toOps pxs⟩ : Scr) ⟨ra, rb, rc_, rd⟩).1.length) (bs (activeS (⟨bits, ⟨cx0, cy0, cx1, cy1⟩, tw, th, ints oxs, toIms mxs, toOps pxs⟩ : Scr) ⟨ra, rb, rc_, rd⟩).1)), RV.d (DV.int .i64 ((activeS (⟨bits, ⟨cx0, cy0, cx1, cy1⟩, tw, th, ints oxs, toIms mxs, toOps pxs⟩ : Scr) ⟨ra, rb, rc_, rd⟩).2))]) | _ => none) else
  if f = 10 then (match xs with | [] => some (RV.d (DV.bool true)) | _ => none) else
  none
 modes := fun f =>
  if f = 7 then some ([true], 0, 3) else
  none
 proc := fun f xs bs =>
  if f = 7 then (match xs, bs with | [AV.agg [Cl.d (DV.int _ sb), Cl.d (DV.int _ sx), Cl.d (DV.int _ sy), Cl.d (DV.int _ sw), Cl.d (DV.int _ sh), Cl.d (DV.int _ stw), Cl.d (DV.int _ sth), Cl.d (DV.sl son soxs), Cl.d (DV.sl spn spxs), Cl.d (DV.sl srn srxs)]], [] => some ⟨AV.agg [Cl.d (DV.int .i64 (((⟨sb, sx, sy, sw, sh, stw, sth, son, soxs, spn, spxs, srn, srxs⟩ : Scn)).bits)), Cl.d (DV.int .i64 (((⟨sb, sx, sy, sw, sh, stw, sth, son, soxs, spn, spxs, srn, srxs⟩ : Scn)).c.a)), Cl.d (DV.int .i64 (((⟨sb, sx, sy, sw, sh, stw, sth, son, soxs, spn, spxs, srn, srxs⟩ : Scn)).c.b)), Cl.d (DV.int .i64 (((⟨sb, sx, sy, sw, sh, stw, sth, son, soxs, spn, spxs, srn, srxs⟩ : Scn)).c.c)), Cl.d (DV.int .i64 (((⟨sb, sx, sy, sw, sh, stw, sth, son, soxs, spn, spxs, srn, srxs⟩ : Scn)).c.d)), Cl.d (DV.int .i64 (((⟨sb, sx, sy, sw, sh, stw, sth, son, soxs, spn, spxs, srn, srxs⟩ : Scn)).gtw)), Cl.d (DV.int .i64 (((⟨sb, sx, sy, sw, sh, stw, sth, son, soxs, spn, spxs, srn, srxs⟩ : Scn)).gth)), Cl.ref 0 (((⟨sb, sx, sy, sw, sh, stw, sth, son, soxs, spn, spxs, srn, srxs⟩ : Scn)).ord.length), Cl.ref 1 (((⟨sb, sx, sy, sw, sh, stw, sth, son, soxs, spn, spxs, srn, srxs⟩ : Scn)).ims.length), Cl.ref 2 (((⟨sb, sx, sy, sw, sh, stw, sth, son, soxs, spn, spxs, srn, srxs⟩ : Scn)).ops.length)], [Bx.row 3 1 (is ((⟨sb, sx, sy, sw, sh, stw, sth, son, soxs, spn, spxs, srn, srxs⟩ : Scn)).ord), Bx.row 49 28 (ims ((⟨sb, sx, sy, sw, sh, stw, sth, son, soxs, spn, spxs, srn, srxs⟩ : Scn)).ims), Bx.row 29 12 (ops ((⟨sb, sx, sy, sw, sh, stw, sth, son, soxs, spn, spxs, srn, srxs⟩ : Scn)).ops)], false⟩ | _, _ => none) else
  none
 iter := fun f cs =>
  none

def L24_BoundsActiveIsBalanced_ann (s : Scn) (n0 : Int) (n1 : Int) (n2 : Int) (n3 : Int) : Ann := (Ann.seq Ann.leaf (Ann.ice [1014, 2014, 3014] [] Ann.leaf (Ann.seq Ann.leaf (Ann.seq Ann.leaf (Ann.seq Ann.leaf (Ann.seq (Ann.ice [] [53] Ann.leaf Ann.leaf) (Ann.seq Ann.leaf (Ann.seq (Ann.seq Ann.leaf (Ann.loop ⟨Nat, fun k => k ≤ s.ops.length, fun k => ⟨[(5, AV.one (Cl.ptr 5 0)), (7, AV.one (Cl.d (DV.sl ((activeS (⟨((s).bits), ⟨((s).c.a), ((s).c.b), ((s).c.c), ((s).c.d)⟩, ((s).gtw), ((s).gth), ints (is (s).ord), toIms (ims (s).ims), toOps (ops (s).ops)⟩ : Scr) ((s).c)).1.length) (bs (activeS (⟨((s).bits), ⟨((s).c.a), ((s).c.b), ((s).c.c), ((s).c.d)⟩, ((s).gtw), ((s).gth), ints (is (s).ord), toIms (ims (s).ims), toOps (ops (s).ops)⟩ : Scr) ((s).c)).1)))), (9, AV.one (Cl.d (DV.sl ((activeS (⟨((s).bits), ⟨((s).c.a), ((s).c.b), ((s).c.c), ((s).c.d)⟩, ((s).gtw), ((s).gth), ints (is (s).ord), toIms (ims (s).ims), toOps (ops (s).ops)⟩ : Scr) (prtB ((s).c) n0 n1 n2 n3)).1.length) (bs (activeS (⟨((s).bits), ⟨((s).c.a), ((s).c.b), ((s).c.c), ((s).c.d)⟩, ((s).gtw), ((s).gth), ints (is (s).ord), toIms (ims (s).ims), toOps (ops (s).ops)⟩ : Scr) (prtB ((s).c) n0 n1 n2 n3)).1)))), (11, AV.one (Cl.d (DV.int .i64 (openTo s.scr s.c k)))), (12, AV.one (Cl.d (DV.int .i64 ((k : Nat) : Int))))], [(5, Bx.cells [Cl.d (DV.int .i64 ((s).bits)), Cl.d (DV.int .i64 ((s).c.a)), Cl.d (DV.int .i64 ((s).c.b)), Cl.d (DV.int .i64 ((s).c.c)), Cl.d (DV.int .i64 ((s).c.d)), Cl.d (DV.int .i64 ((s).gtw)), Cl.d (DV.int .i64 ((s).gth)), Cl.ref 1014 ((s).ord.length), Cl.ref 2014 ((s).ims.length), Cl.ref 3014 ((s).ops.length)]), (1014, Bx.ice (is (s).ord)), (2014, Bx.ice (ims (s).ims)), (3014, Bx.ice (ops (s).ops))]⟩, fun k => s.ops.length - k⟩ fun k => (Ann.seq Ann.leaf (Ann.seq (Ann.seq Ann.leaf (Ann.seq (Ann.seq Ann.leaf (Ann.seq (Ann.ice [] [79] Ann.leaf Ann.leaf) Ann.leaf)) Ann.leaf)) Ann.leaf)))) Ann.leaf))))))))
theorem L24_BoundsActiveIsBalanced_vc (s : Scn) (n0 : Int) (n1 : Int) (n2 : Int) (n3 : Int) : vcg Tryd.prog gamBoundsActiveIsBalanced 96 (bodyOf Tryd.f6) (L24_BoundsActiveIsBalanced_ann s n0 n1 n2 n3) kn0 (start [RV.agg [DV.int .i64 s.b, DV.int .i64 s.x, DV.int .i64 s.y, DV.int .i64 s.w, DV.int .i64 s.h, DV.int .i64 s.tw, DV.int .i64 s.th, DV.sl s.on s.oxs, DV.sl s.pn s.pxs, DV.sl s.rn s.rxs], RV.agg [DV.int .i64 n0, DV.int .i64 n1, DV.int .i64 n2, DV.int .i64 n3]]) (post Tryd.prog Tryd.f6.results.toList (· = RV.d (DV.bool true))) =
  (let zz0 := [DV.int .i64 ((s).c.a), DV.int .i64 ((s).c.b), DV.int .i64 ((s).c.c), DV.int .i64 ((s).c.d)]; let zz1 := [DV.int .i64 ((prtB ((s).c) n0 n1 n2 n3).a), DV.int .i64 ((prtB ((s).c) n0 n1 n2 n3).b), DV.int .i64 ((prtB ((s).c) n0 n1 n2 n3).c), DV.int .i64 ((prtB ((s).c) n0 n1 n2 n3).d)]; let zz2 := [DV.int .i64 ((s).bits), DV.int .i64 ((s).c.a), DV.int .i64 ((s).c.b), DV.int .i64 ((s).c.c), DV.int .i64 ((s).c.d), DV.int .i64 ((s).gtw), DV.int .i64 ((s).gth), DV.sl ((s).ord.length) (is (s).ord), DV.sl ((s).ims.length) (ims (s).ims), DV.sl ((s).ops.length) (ops (s).ops)]; let zz3 := (DV.sl ((activeS (⟨((s).bits), ((s).c), ((s).gtw), ((s).gth), ints (is (s).ord), toIms (ims (s).ims), toOps (ops (s).ops)⟩ : Scr) ((s).c)).1.length) (bs (activeS (⟨((s).bits), ((s).c), ((s).gtw), ((s).gth), ints (is (s).ord), toIms (ims (s).ims), toOps (ops (s).ops)⟩ : Scr) ((s).c)).1) = DV.sl ((activeS (⟨((s).bits), ((s).c), ((s).gtw), ((s).gth), ints (is (s).ord), toIms (ims (s).ims), toOps (ops (s).ops)⟩ : Scr) ((s).c)).1.length) (bs (activeS (⟨((s).bits), ((s).c), ((s).gtw), ((s).gth), ints (is (s).ord), toIms (ims (s).ims), toOps (ops (s).ops)⟩ : Scr) ((s).c)).1)); let zz4 := (DV.sl ((activeS (⟨((s).bits), ((s).c), ((s).gtw), ((s).gth), ints (is (s).ord), toIms (ims (s).ims), toOps (ops (s).ops)⟩ : Scr) (prtB ((s).c) n0 n1 n2 n3)).1.length) (bs (activeS (⟨((s).bits), ((s).c), ((s).gtw), ((s).gth), ints (is (s).ord), toIms (ims (s).ims), toOps (ops (s).ops)⟩ : Scr) (prtB ((s).c) n0 n1 n2 n3)).1) = DV.sl ((activeS (⟨((s).bits), ((s).c), ((s).gtw), ((s).gth), ints (is (s).ord), toIms (ims (s).ims), toOps (ops (s).ops)⟩ : Scr) (prtB ((s).c) n0 n1 n2 n3)).1.length) (bs (activeS (⟨((s).bits), ((s).c), ((s).gtw), ((s).gth), ints (is (s).ord), toIms (ims (s).ims), toOps (ops (s).ops)⟩ : Scr) (prtB ((s).c) n0 n1 n2 n3)).1)); let zz5 := (((DV.int .i64 ((s).bits) = DV.int .i64 ((s).bits)) ∧ (DV.int .i64 ((s).c.a) = DV.int .i64 ((s).c.a)) ∧ (DV.int .i64 ((s).c.b) = DV.int .i64 ((s).c.b)) ∧ (DV.int .i64 ((s).c.c) = DV.int .i64 ((s).c.c)) ∧ (DV.int .i64 ((s).c.d) = DV.int .i64 ((s).c.d)) ∧ (DV.int .i64 ((s).gtw) = DV.int .i64 ((s).gtw)) ∧ (DV.int .i64 ((s).gth) = DV.int .i64 ((s).gth)) ∧ ((s).ord.length = (s).ord.length) ∧ ((s).ims.length = (s).ims.length) ∧ ((s).ops.length = (s).ops.length) ∧ True) ∧ (is (s).ord = is (s).ord) ∧ (ims (s).ims = ims (s).ims) ∧ (ops (s).ops = ops (s).ops) ∧ True); let zz6 := fun (k : Nat) => (0 ≤ ((k : Nat) : Int) ∧ ((k : Nat) : Int) < (((activeS (⟨((s).bits), ((s).c), ((s).gtw), ((s).gth), ints (is (s).ord), toIms (ims (s).ims), toOps (ops (s).ops)⟩ : Scr) ((s).c)).1.length : Nat) : Int) ∧ ((k : Nat) : Int).toNat * 1 < (bs (activeS (⟨((s).bits), ((s).c), ((s).gtw), ((s).gth), ints (is (s).ord), toIms (ims (s).ims), toOps (ops (s).ops)⟩ : Scr) ((s).c)).1).length); let zz7 := fun (k : Nat) => (((bs (activeS (⟨((s).bits), ((s).c), ((s).gtw), ((s).gth), ints (is (s).ord), toIms (ims (s).ims), toOps (ops (s).ops)⟩ : Scr) ((s).c)).1)[((k : Nat) : Int).toNat * 1]? = some (DV.bool (bAt (bs (activeS (⟨((s).bits), ((s).c), ((s).gtw), ((s).gth), ints (is (s).ord), toIms (ims (s).ims), toOps (ops (s).ops)⟩ : Scr) ((s).c)).1) (((k : Nat) : Int).toNat * 1)))) ∧ True); let zz8 := fun (k : Nat) => (IntKind.wrap .i64 ((openTo s.scr s.c k) + (1 : Int))); let zz9 := fun (k : Nat) => fun (k' : Nat) => (s.ops.length - k' < s.ops.length - k); let zz10 := fun (k : Nat) => fun (k' : Nat) => (DV.int .i64 (IntKind.wrap .i64 (((k : Nat) : Int) + (1 : Int))) = DV.int .i64 ((k' : Nat) : Int)); let zz11 := fun (k : Nat) => (IntKind.wrap .i64 ((openTo s.scr s.c k) - (1 : Int))); True ∧ True ∧ True ∧ True ∧ (AnsG Tryd.prog 7 0 [AV.agg [Cl.d (DV.int .i64 s.b), Cl.d (DV.int .i64 s.x), Cl.d (DV.int .i64 s.y), Cl.d (DV.int .i64 s.w), Cl.d (DV.int .i64 s.h), Cl.d (DV.int .i64 s.tw), Cl.d (DV.int .i64 s.th), Cl.d (DV.sl s.on s.oxs), Cl.d (DV.sl s.pn s.pxs), Cl.d (DV.sl s.rn s.rxs)]] [] ⟨AV.agg [Cl.d (DV.int .i64 ((s).bits)), Cl.d (DV.int .i64 ((s).c.a)), Cl.d (DV.int .i64 ((s).c.b)), Cl.d (DV.int .i64 ((s).c.c)), Cl.d (DV.int .i64 ((s).c.d)), Cl.d (DV.int .i64 ((s).gtw)), Cl.d (DV.int .i64 ((s).gth)), Cl.ref 0 ((s).ord.length), Cl.ref 1 ((s).ims.length), Cl.ref 2 ((s).ops.length)], [Bx.row 3 1 (is (s).ord), Bx.row 49 28 (ims (s).ims), Bx.row 29 12 (ops (s).ops)], false⟩) ∧ True ∧ True ∧ True ∧ True ∧ True ∧ (Ans Tryd.prog 18 [RV.agg zz0, RV.agg [DV.int .i64 n0, DV.int .i64 n1, DV.int .i64 n2, DV.int .i64 n3]] (RV.agg zz1)) ∧ True ∧ True ∧ True ∧ True ∧ True ∧ (Ans Tryd.prog 20 [RV.agg zz2, RV.agg zz0] (RV.tup [RV.d (DV.sl ((activeS (⟨((s).bits), ((s).c), ((s).gtw), ((s).gth), ints (is (s).ord), toIms (ims (s).ims), toOps (ops (s).ops)⟩ : Scr) ((s).c)).1.length) (bs (activeS (⟨((s).bits), ((s).c), ((s).gtw), ((s).gth), ints (is (s).ord), toIms (ims (s).ims), toOps (ops (s).ops)⟩ : Scr) ((s).c)).1)), RV.d (DV.int .i64 ((activeS (⟨((s).bits), ((s).c), ((s).gtw), ((s).gth), ints (is (s).ord), toIms (ims (s).ims), toOps (ops (s).ops)⟩ : Scr) ((s).c)).2))])) ∧ True ∧ True ∧ True ∧ True ∧ True ∧ True ∧ True ∧ (Ans Tryd.prog 20 [RV.agg zz2, RV.agg zz1] (RV.tup [RV.d (DV.sl ((activeS (⟨((s).bits), ((s).c), ((s).gtw), ((s).gth), ints (is (s).ord), toIms (ims (s).ims), toOps (ops (s).ops)⟩ : Scr) (prtB ((s).c) n0 n1 n2 n3)).1.length) (bs (activeS (⟨((s).bits), ((s).c), ((s).gtw), ((s).gth), ints (is (s).ord), toIms (ims (s).ims), toOps (ops (s).ops)⟩ : Scr) (prtB ((s).c) n0 n1 n2 n3)).1)), RV.d (DV.int .i64 ((activeS (⟨((s).bits), ((s).c), ((s).gtw), ((s).gth), ints (is (s).ord), toIms (ims (s).ims), toOps (ops (s).ops)⟩ : Scr) (prtB ((s).c) n0 n1 n2 n3)).2))])) ∧ True ∧ True ∧ True ∧ True ∧ True ∧ (Ans Tryd.prog 10 [] (RV.d (DV.bool true))) ∧ True ∧ True ∧ (((!true) = false → True ∧ True ∧ True ∧ True ∧ (((((activeS (⟨((s).bits), ((s).c), ((s).gtw), ((s).gth), ints (is (s).ord), toIms (ims (s).ims), toOps (ops (s).ops)⟩ : Scr) ((s).c)).2) != (0 : Int)) = false → True ∧ True ∧ True ∧ True ∧ (((((activeS (⟨((s).bits), ((s).c), ((s).gtw), ((s).gth), ints (is (s).ord), toIms (ims (s).ims), toOps (ops (s).ops)⟩ : Scr) (prtB ((s).c) n0 n1 n2 n3)).2) != (0 : Int)) = false → True ∧ True ∧ True ∧ True ∧ True ∧ True ∧ True ∧ ((((((activeS (⟨((s).bits), ((s).c), ((s).gtw), ((s).gth), ints (is (s).ord), toIms (ims (s).ims), toOps (ops (s).ops)⟩ : Scr) ((s).c)).1.length : Nat) : Int) != (((activeS (⟨((s).bits), ((s).c), ((s).gtw), ((s).gth), ints (is (s).ord), toIms (ims (s).ims), toOps (ops (s).ops)⟩ : Scr) (prtB ((s).c) n0 n1 n2 n3)).1.length : Nat) : Int)) = false → True ∧ True ∧ True ∧ True ∧ ((s).ops.length ≤ maxLen) ∧ True ∧ True ∧ ((((((activeS (⟨((s).bits), ((s).c), ((s).gtw), ((s).gth), ints (is (s).ord), toIms (ims (s).ims), toOps (ops (s).ops)⟩ : Scr) ((s).c)).1.length : Nat) : Int) != (((s).ops.length : Nat) : Int)) = true → True ∧ RV.d (DV.bool false) = RV.d (DV.bool true)) ∧ (((((activeS (⟨((s).bits), ((s).c), ((s).gtw), ((s).gth), ints (is (s).ord), toIms (ims (s).ims), toOps (ops (s).ops)⟩ : Scr) ((s).c)).1.length : Nat) : Int) != (((s).ops.length : Nat) : Int)) = false → True ∧ True ∧ ((∃ k : Nat, (k ≤ s.ops.length) ∧ (((0 = 0) ∧ zz3 ∧ zz4 ∧ (DV.int .i64 0 = DV.int .i64 (openTo s.scr s.c k)) ∧ (DV.int .i64 0 = DV.int .i64 ((k : Nat) : Int)) ∧ True) ∧ zz5)) ∧ ∀ k : Nat, (k ≤ s.ops.length) → True ∧ True ∧ True ∧ True ∧ (((decide (((k : Nat) : Int) < (((activeS (⟨((s).bits), ((s).c), ((s).gtw), ((s).gth), ints (is (s).ord), toIms (ims (s).ims), toOps (ops (s).ops)⟩ : Scr) ((s).c)).1.length : Nat) : Int))) = true → True ∧ True ∧ (0 ≤ ((k : Nat) : Int) ∧ ((k : Nat) : Int) < (((activeS (⟨((s).bits), ((s).c), ((s).gtw), ((s).gth), ints (is (s).ord), toIms (ims (s).ims), toOps (ops (s).ops)⟩ : Scr) (prtB ((s).c) n0 n1 n2 n3)).1.length : Nat) : Int) ∧ ((k : Nat) : Int).toNat * 1 < (bs (activeS (⟨((s).bits), ((s).c), ((s).gtw), ((s).gth), ints (is (s).ord), toIms (ims (s).ims), toOps (ops (s).ops)⟩ : Scr) (prtB ((s).c) n0 n1 n2 n3)).1).length) ∧ (((bs (activeS (⟨((s).bits), ((s).c), ((s).gtw), ((s).gth), ints (is (s).ord), toIms (ims (s).ims), toOps (ops (s).ops)⟩ : Scr) (prtB ((s).c) n0 n1 n2 n3)).1)[((k : Nat) : Int).toNat * 1]? = some (DV.bool (bAt (bs (activeS (⟨((s).bits), ((s).c), ((s).gtw), ((s).gth), ints (is (s).ord), toIms (ims (s).ims), toOps (ops (s).ops)⟩ : Scr) (prtB ((s).c) n0 n1 n2 n3)).1) (((k : Nat) : Int).toNat * 1)))) ∧ True) ∧ True ∧ (((bAt (bs (activeS (⟨((s).bits), ((s).c), ((s).gtw), ((s).gth), ints (is (s).ord), toIms (ims (s).ims), toOps (ops (s).ops)⟩ : Scr) (prtB ((s).c) n0 n1 n2 n3)).1) (((k : Nat) : Int).toNat * 1)) = true → True ∧ True ∧ (zz6 k) ∧ (zz7 k) ∧ True ∧ True ∧ (((!(bAt (bs (activeS (⟨((s).bits), ((s).c), ((s).gtw), ((s).gth), ints (is (s).ord), toIms (ims (s).ims), toOps (ops (s).ops)⟩ : Scr) ((s).c)).1) (((k : Nat) : Int).toNat * 1))) = true → True ∧ RV.d (DV.bool false) = RV.d (DV.bool true)) ∧ ((!(bAt (bs (activeS (⟨((s).bits), ((s).c), ((s).gtw), ((s).gth), ints (is (s).ord), toIms (ims (s).ims), toOps (ops (s).ops)⟩ : Scr) ((s).c)).1) (((k : Nat) : Int).toNat * 1))) = false → True ∧ True ∧ (zz6 k) ∧ (zz7 k) ∧ (((bAt (bs (activeS (⟨((s).bits), ((s).c), ((s).gtw), ((s).gth), ints (is (s).ord), toIms (ims (s).ims), toOps (ops (s).ops)⟩ : Scr) ((s).c)).1) (((k : Nat) : Int).toNat * 1)) = true → True ∧ True ∧ True ∧ (0 ≤ ((k : Nat) : Int) ∧ ((k : Nat) : Int) < (((s).ops.length : Nat) : Int)) ∧ True ∧ (((ops (s).ops)[((k : Nat) : Int).toNat * 12 + 0]? = some (DV.int .i64 (nAt (ops (s).ops) (((k : Nat) : Int).toNat * 12 + 0)))) ∧ True) ∧ True ∧ True ∧ ((((nAt (ops (s).ops) (((k : Nat) : Int).toNat * 12 + 0)) == (2 : Int)) = true → True ∧ True ∧ True ∧ True ∧ True ∧ (((decide ((zz8 k) < (0 : Int))) = true → True ∧ RV.d (DV.bool false) = RV.d (DV.bool true)) ∧ ((decide ((zz8 k) < (0 : Int))) = false → True ∧ True ∧ True ∧ ∃ k' : Nat, (k' ≤ s.ops.length) ∧ (zz9 k k') ∧ (((0 = 0) ∧ zz3 ∧ zz4 ∧ (DV.int .i64 (zz8 k) = DV.int .i64 (openTo s.scr s.c k')) ∧ (zz10 k k') ∧ True) ∧ zz5)))) ∧ (((nAt (ops (s).ops) (((k : Nat) : Int).toNat * 12 + 0)) == (2 : Int)) = false → True ∧ True ∧ ((((nAt (ops (s).ops) (((k : Nat) : Int).toNat * 12 + 0)) == (3 : Int)) = true → True ∧ True ∧ True ∧ True ∧ True ∧ (((decide ((zz11 k) < (0 : Int))) = true → True ∧ RV.d (DV.bool false) = RV.d (DV.bool true)) ∧ ((decide ((zz11 k) < (0 : Int))) = false → True ∧ True ∧ True ∧ ∃ k' : Nat, (k' ≤ s.ops.length) ∧ (zz9 k k') ∧ (((0 = 0) ∧ zz3 ∧ zz4 ∧ (DV.int .i64 (zz11 k) = DV.int .i64 (openTo s.scr s.c k')) ∧ (zz10 k k') ∧ True) ∧ zz5)))) ∧ (((nAt (ops (s).ops) (((k : Nat) : Int).toNat * 12 + 0)) == (3 : Int)) = false → True ∧ True ∧ (((decide ((openTo s.scr s.c k) < (0 : Int))) = true → True ∧ RV.d (DV.bool false) = RV.d (DV.bool true)) ∧ ((decide ((openTo s.scr s.c k) < (0 : Int))) = false → True ∧ True ∧ True ∧ ∃ k' : Nat, (k' ≤ s.ops.length) ∧ (zz9 k k') ∧ (((0 = 0) ∧ zz3 ∧ zz4 ∧ (DV.int .i64 (openTo s.scr s.c k) = DV.int .i64 (openTo s.scr s.c k')) ∧ (zz10 k k') ∧ True) ∧ zz5)))))))) ∧ ((bAt (bs (activeS (⟨((s).bits), ((s).c), ((s).gtw), ((s).gth), ints (is (s).ord), toIms (ims (s).ims), toOps (ops (s).ops)⟩ : Scr) ((s).c)).1) (((k : Nat) : Int).toNat * 1)) = false → True ∧ True ∧ (((decide ((openTo s.scr s.c k) < (0 : Int))) = true → True ∧ RV.d (DV.bool false) = RV.d (DV.bool true)) ∧ ((decide ((openTo s.scr s.c k) < (0 : Int))) = false → True ∧ True ∧ True ∧ ∃ k' : Nat, (k' ≤ s.ops.length) ∧ (zz9 k k') ∧ (((0 = 0) ∧ zz3 ∧ zz4 ∧ (DV.int .i64 (openTo s.scr s.c k) = DV.int .i64 (openTo s.scr s.c k')) ∧ (zz10 k k') ∧ True) ∧ zz5)))))))) ∧ ((bAt (bs (activeS (⟨((s).bits), ((s).c), ((s).gtw), ((s).gth), ints (is (s).ord), toIms (ims (s).ims), toOps (ops (s).ops)⟩ : Scr) (prtB ((s).c) n0 n1 n2 n3)).1) (((k : Nat) : Int).toNat * 1)) = (!true) → True ∧ True ∧ True ∧ (zz6 k) ∧ (zz7 k) ∧ (((bAt (bs (activeS (⟨((s).bits), ((s).c), ((s).gtw), ((s).gth), ints (is (s).ord), toIms (ims (s).ims), toOps (ops (s).ops)⟩ : Scr) ((s).c)).1) (((k : Nat) : Int).toNat * 1)) = true → True ∧ True ∧ True ∧ (0 ≤ ((k : Nat) : Int) ∧ ((k : Nat) : Int) < (((s).ops.length : Nat) : Int)) ∧ True ∧ (((ops (s).ops)[((k : Nat) : Int).toNat * 12 + 0]? = some (DV.int .i64 (nAt (ops (s).ops) (((k : Nat) : Int).toNat * 12 + 0)))) ∧ True) ∧ True ∧ True ∧ ((((nAt (ops (s).ops) (((k : Nat) : Int).toNat * 12 + 0)) == (2 : Int)) = true → True ∧ True ∧ True ∧ True ∧ True ∧ (((decide ((zz8 k) < (0 : Int))) = true → True ∧ RV.d (DV.bool false) = RV.d (DV.bool true)) ∧ ((decide ((zz8 k) < (0 : Int))) = false → True ∧ True ∧ True ∧ ∃ k' : Nat, (k' ≤ s.ops.length) ∧ (zz9 k k') ∧ (((0 = 0) ∧ zz3 ∧ zz4 ∧ (DV.int .i64 (zz8 k) = DV.int .i64 (openTo s.scr s.c k')) ∧ (zz10 k k') ∧ True) ∧ zz5)))) ∧ (((nAt (ops (s).ops) (((k : Nat) : Int).toNat * 12 + 0)) == (2 : Int)) = false → True ∧ True ∧ ((((nAt (ops (s).ops) (((k : Nat) : Int).toNat * 12 + 0)) == (3 : Int)) = true → True ∧ True ∧ True ∧ True ∧ True ∧ (((decide ((zz11 k) < (0 : Int))) = true → True ∧ RV.d (DV.bool false) = RV.d (DV.bool true)) ∧ ((decide ((zz11 k) < (0 : Int))) = false → True ∧ True ∧ True ∧ ∃ k' : Nat, (k' ≤ s.ops.length) ∧ (zz9 k k') ∧ (((0 = 0) ∧ zz3 ∧ zz4 ∧ (DV.int .i64 (zz11 k) = DV.int .i64 (openTo s.scr s.c k')) ∧ (zz10 k k') ∧ True) ∧ zz5)))) ∧ (((nAt (ops (s).ops) (((k : Nat) : Int).toNat * 12 + 0)) == (3 : Int)) = false → True ∧ True ∧ (((decide ((openTo s.scr s.c k) < (0 : Int))) = true → True ∧ RV.d (DV.bool false) = RV.d (DV.bool true)) ∧ ((decide ((openTo s.scr s.c k) < (0 : Int))) = false → True ∧ True ∧ True ∧ ∃ k' : Nat, (k' ≤ s.ops.length) ∧ (zz9 k k') ∧ (((0 = 0) ∧ zz3 ∧ zz4 ∧ (DV.int .i64 (openTo s.scr s.c k) = DV.int .i64 (openTo s.scr s.c k')) ∧ (zz10 k k') ∧ True) ∧ zz5)))))))) ∧ ((bAt (bs (activeS (⟨((s).bits), ((s).c), ((s).gtw), ((s).gth), ints (is (s).ord), toIms (ims (s).ims), toOps (ops (s).ops)⟩ : Scr) ((s).c)).1) (((k : Nat) : Int).toNat * 1)) = false → True ∧ True ∧ (((decide ((openTo s.scr s.c k) < (0 : Int))) = true → True ∧ RV.d (DV.bool false) = RV.d (DV.bool true)) ∧ ((decide ((openTo s.scr s.c k) < (0 : Int))) = false → True ∧ True ∧ True ∧ ∃ k' : Nat, (k' ≤ s.ops.length) ∧ (zz9 k k') ∧ (((0 = 0) ∧ zz3 ∧ zz4 ∧ (DV.int .i64 (openTo s.scr s.c k) = DV.int .i64 (openTo s.scr s.c k')) ∧ (zz10 k k') ∧ True) ∧ zz5)))))))) ∧ ((decide (((k : Nat) : Int) < (((activeS (⟨((s).bits), ((s).c), ((s).gtw), ((s).gth), ints (is (s).ord), toIms (ims (s).ims), toOps (ops (s).ops)⟩ : Scr) ((s).c)).1.length : Nat) : Int))) = false → True ∧ True ∧ True ∧ RV.d (DV.bool ((openTo s.scr s.c k) == (0 : Int))) = RV.d (DV.bool true))))))) ∧ (((((activeS (⟨((s).bits), ((s).c), ((s).gtw), ((s).gth), ints (is (s).ord), toIms (ims (s).ims), toOps (ops (s).ops)⟩ : Scr) ((s).c)).1.length : Nat) : Int) != (((activeS (⟨((s).bits), ((s).c), ((s).gtw), ((s).gth), ints (is (s).ord), toIms (ims (s).ims), toOps (ops (s).ops)⟩ : Scr) (prtB ((s).c) n0 n1 n2 n3)).1.length : Nat) : Int)) = (!false) → True ∧ True ∧ RV.d (DV.bool false) = RV.d (DV.bool true)))) ∧ ((((activeS (⟨((s).bits), ((s).c), ((s).gtw), ((s).gth), ints (is (s).ord), toIms (ims (s).ims), toOps (ops (s).ops)⟩ : Scr) (prtB ((s).c) n0 n1 n2 n3)).2) != (0 : Int)) = (!false) → True ∧ True ∧ True ∧ True ∧ RV.d (DV.bool false) = RV.d (DV.bool true)))) ∧ ((((activeS (⟨((s).bits), ((s).c), ((s).gtw), ((s).gth), ints (is (s).ord), toIms (ims (s).ims), toOps (ops (s).ops)⟩ : Scr) ((s).c)).2) != (0 : Int)) = (!false) → True ∧ True ∧ True ∧ True ∧ True ∧ True ∧ RV.d (DV.bool false) = RV.d (DV.bool true)))) ∧ ((!true) = (!false) → True ∧ True ∧ True ∧ True ∧ True ∧ True ∧ True ∧ True ∧ RV.d (DV.bool false) = RV.d (DV.bool true)))) := by kernel_rfl
theorem L24_BoundsActiveIsBalanced_ans (s : Scn) (n0 : Int) (n1 : Int) (n2 : Int) (n3 : Int) (hs : s.ok) : Ans Tryd.prog 6 [RV.agg [DV.int .i64 s.b, DV.int .i64 s.x, DV.int .i64 s.y, DV.int .i64 s.w, DV.int .i64 s.h, DV.int .i64 s.tw, DV.int .i64 s.th, DV.sl s.on s.oxs, DV.sl s.pn s.pxs, DV.sl s.rn s.rxs], RV.agg [DV.int .i64 n0, DV.int .i64 n1, DV.int .i64 n2, DV.int .i64 n3]] (RV.d (DV.bool true)) :=
  ans_of_vcg (Γ := gamBoundsActiveIsBalanced) (L24_BoundsActiveIsBalanced_ann s n0 n1 n2 n3) mixed_ Tryd.func6 rfl (Nat.le_of_ble_eq_true rfl) fun hwf => by
    refine Eq.mpr (L24_BoundsActiveIsBalanced_vc s n0 n1 n2 n3) ?_
    simp only [true_and, and_true, RV.d.injEq, RV.agg.injEq, RV.tup.injEq, DV.bool.injEq, DV.int.injEq, DV.sl.injEq, List.cons.injEq, forall_const, Bool.not_false, Bool.not_true, Bool.not_eq_true', Bool.not_eq_false', decide_eq_true_eq, decide_eq_false_iff_not, Int.toNat_natCast, L24_awake_ans, G_Mod_ans]
    simp only [ints_is, toIms_ims, toOps_ops]
    have hS : (⟨s.bits, s.c, s.gtw, s.gth, s.ord, s.ims, s.ops⟩ : Scr) = s.scr := rfl
    simp only [hS]
    have hr : s.scr.run.1 = 0 := by rw [s.scr_run]
    have hso : s.scr.ops = s.ops := rfl
    have lo := s.ops_len
    have CF := s.c_facts
    have FF := s.facts
    have hM : ∀ n : Nat, n ≤ 100 → n ≤ maxLen := fun n h => by unfold maxLen; omega
    have hce : s.c.empty = false := by rw [Rc.empty_iff]; omega
    have hp := prtB_in (r := s.c) ⟨by omega, by omega, by omega, by omega, by omega, by omega⟩ n0 n1 n2 n3
    have pa := G_Part_ans s.c n0 n1 n2 n3
    generalize prtB s.c n0 n1 n2 n3 = q at *
    have a1 := bounds_Active_ans s.scr s.c
    have a2 := bounds_Active_ans s.scr q
    have eA : ∀ r, activeS s.scr r = ((List.range s.ops.length).map (actAt s.scr r), 0) := fun r => by unfold activeS; rw [if_pos hr, hso]
    simp only [eA] at a1 a2 ⊢
    refine ⟨G_Script_ans s hs, pa, a1, a2, ?_⟩
    clear a1 a2 pa
    obtain ⟨o1, o2⟩ := open_all hr s.c
    rw [hso] at o1 o2
    simp only [List.length_map, List.length_range, bne_self_eq_false, Nat.mul_one]
    have nf : false = true → false = true := id
    refine ⟨⟨fun _ => ⟨fun _ => ⟨fun _ => ?_, nf⟩, nf⟩, nf⟩, nf⟩
    refine ⟨hM _ (by omega), nf, fun _ => ⟨⟨0, Nat.zero_le _, rfl, rfl⟩, fun k hk => ⟨fun hlt => ?_, fun hge => ?_⟩⟩⟩
    · have hk : k < s.ops.length := by omega
      have gq : ((List.range s.ops.length).map (actAt s.scr q))[k]? = some (actAt s.scr q k) := by simp [hk]
      have gc : ((List.range s.ops.length).map (actAt s.scr s.c))[k]? = some (actAt s.scr s.c k) := by simp [hk]
      have gr : actAt s.scr q k = true → actAt s.scr s.c k = true := act_grow hp.1 hp.2.1 hp.2.2.1 hp.2.2.2 hce
      have q1 := (ops_rd hk).1
      have q2 := (ops_at hk).1
      have eo : opAt s.scr k = s.ops[k] := opAt_lt (s := s.scr) hk
      have w1 : IntKind.wrap .i64 ((k : Int) + 1) = ((k + 1 : Nat) : Int) := wrap_succ (by omega)
      have rS : openTo s.scr s.c (k + 1) = if actAt s.scr s.c k then (if (opAt s.scr k).kind = 2 then openTo s.scr s.c k + 1 else if (opAt s.scr k).kind = 3 then openTo s.scr s.c k - 1 else openTo s.scr s.c k) else openTo s.scr s.c k := rfl
      have O0 := o2 k (by omega)
      have O1 := o2 (k + 1) (by omega)
      have B := (openTo_in s.scr s.c k).2
      have w2 : IntKind.wrap .i64 (openTo s.scr s.c k + 1) = openTo s.scr s.c k + 1 := IntWalk.i64_in _ ⟨by omega, by omega⟩
      have w3 : IntKind.wrap .i64 (openTo s.scr s.c k - 1) = openTo s.scr s.c k - 1 := IntWalk.i64_in _ ⟨by omega, by omega⟩
      have bq := bs_get gq
      have bc := bs_get gc
      have lq : (bs ((List.range s.ops.length).map (actAt s.scr q))).length = s.ops.length := by rw [bs_length]; simp
      have lc : (bs ((List.range s.ops.length).map (actAt s.scr s.c))).length = s.ops.length := by rw [bs_length]; simp
      rw [eo] at rS
      simp only [Nat.add_zero, q2, w1, w2, w3, bs_bAt gq, bs_bAt gc, lq, lc]
      have ex : ∀ u, u = openTo s.scr s.c (k + 1) → (u < 0 → false = true) ∧ (¬ u < 0 → ∃ k', k' ≤ s.ops.length ∧ s.ops.length - k' < s.ops.length - k ∧ u = openTo s.scr s.c k' ∧ ((k + 1 : Nat) : Int) = (k' : Int)) := fun u hu => ⟨fun h => by omega, fun _ => ⟨k + 1, by omega, by omega, hu, rfl⟩⟩
      have hin : 0 ≤ (k : Int) ∧ (k : Int) < (s.ops.length : Int) ∧ k < s.ops.length := ⟨by omega, by omega, by omega⟩
      have fin : (actAt s.scr s.c k = true → (0 ≤ (k : Int) ∧ (k : Int) < (s.ops.length : Int)) ∧ (ops s.ops)[k * 12]? = some (DV.int .i64 s.ops[k].kind) ∧ ((s.ops[k].kind == 2) = true → (openTo s.scr s.c k + 1 < 0 → false = true) ∧ (¬ openTo s.scr s.c k + 1 < 0 → ∃ k', k' ≤ s.ops.length ∧ s.ops.length - k' < s.ops.length - k ∧ openTo s.scr s.c k + 1 = openTo s.scr s.c k' ∧ ((k + 1 : Nat) : Int) = (k' : Int))) ∧ ((s.ops[k].kind == 2) = false → ((s.ops[k].kind == 3) = true → (openTo s.scr s.c k - 1 < 0 → false = true) ∧ (¬ openTo s.scr s.c k - 1 < 0 → ∃ k', k' ≤ s.ops.length ∧ s.ops.length - k' < s.ops.length - k ∧ openTo s.scr s.c k - 1 = openTo s.scr s.c k' ∧ ((k + 1 : Nat) : Int) = (k' : Int))) ∧ ((s.ops[k].kind == 3) = false → (openTo s.scr s.c k < 0 → false = true) ∧ (¬ openTo s.scr s.c k < 0 → ∃ k', k' ≤ s.ops.length ∧ s.ops.length - k' < s.ops.length - k ∧ openTo s.scr s.c k = openTo s.scr s.c k' ∧ ((k + 1 : Nat) : Int) = (k' : Int))))) := fun ha => by
        rw [if_pos ha] at rS
        refine ⟨⟨by omega, by omega⟩, q1, fun h2 => ?_, fun h2 => ⟨fun h3 => ?_, fun h3 => ?_⟩⟩
        · exact ex _ (by rw [rS, if_pos (by simpa using h2)])
        · exact ex _ (by rw [rS, if_neg (by simpa using h2), if_pos (by simpa using h3)])
        · exact ex _ (by rw [rS, if_neg (by simpa using h2), if_neg (by simpa using h3)])
      have fin2 : actAt s.scr s.c k = false → (openTo s.scr s.c k < 0 → false = true) ∧ (¬ openTo s.scr s.c k < 0 → ∃ k', k' ≤ s.ops.length ∧ s.ops.length - k' < s.ops.length - k ∧ openTo s.scr s.c k = openTo s.scr s.c k' ∧ ((k + 1 : Nat) : Int) = (k' : Int)) := fun ha => ex _ (by rw [rS, ha]; rfl)
      exact ⟨hin, bq, fun hq => ⟨hin, bc, fun hc => absurd (gr hq) (by rw [hc]; decide), fun hc => ⟨hin, bc, fin, fin2⟩⟩, fun hq => ⟨hin, bc, fin, fin2⟩⟩
    · have : k = s.ops.length := by omega
      subst this
      rw [o1]; rfl

end Go.Proofs.YtcaokljobfkajaaDoor

/-
  The program's own closed facts, once: each a declaration of its own.
-/
namespace Go.Proofs.YtcaokljobfkajaaDoor.closed
open Go
set_option linter.unusedVariables false
set_option linter.unusedSimpArgs false

set_option maxRecDepth 100000 in
theorem headWord : Tryd.prog.initOrder = String.ofList [Char.ofNat 104, Char.ofNat 97, Char.ofNat 114, Char.ofNat 110, Char.ofNat 101, Char.ofNat 115, Char.ofNat 115, Char.ofNat 32, Char.ofNat 51, Char.ofNat 49, Char.ofNat 101, Char.ofNat 99, Char.ofNat 102, Char.ofNat 49, Char.ofNat 53, Char.ofNat 50, Char.ofNat 53, Char.ofNat 99, Char.ofNat 52, Char.ofNat 101, Char.ofNat 101, Char.ofNat 57, Char.ofNat 48, Char.ofNat 57, Char.ofNat 51, Char.ofNat 98, Char.ofNat 49, Char.ofNat 101, Char.ofNat 98, Char.ofNat 99, Char.ofNat 49, Char.ofNat 56, Char.ofNat 50, Char.ofNat 99, Char.ofNat 98, Char.ofNat 97, Char.ofNat 102, Char.ofNat 99, Char.ofNat 56, Char.ofNat 97, Char.ofNat 100, Char.ofNat 52, Char.ofNat 100, Char.ofNat 53, Char.ofNat 102, Char.ofNat 50, Char.ofNat 55, Char.ofNat 54, Char.ofNat 56, Char.ofNat 56, Char.ofNat 99, Char.ofNat 57, Char.ofNat 50, Char.ofNat 97, Char.ofNat 49, Char.ofNat 54, Char.ofNat 55, Char.ofNat 49, Char.ofNat 57, Char.ofNat 97, Char.ofNat 57, Char.ofNat 98, Char.ofNat 50, Char.ofNat 52, Char.ofNat 57, Char.ofNat 57, Char.ofNat 98, Char.ofNat 56, Char.ofNat 99, Char.ofNat 99, Char.ofNat 97, Char.ofNat 48, Char.ofNat 32, Char.ofNat 99, Char.ofNat 117, Char.ofNat 116, Char.ofNat 32, Char.ofNat 97, Char.ofNat 116, Char.ofNat 32, Char.ofNat 99, Char.ofNat 111, Char.ofNat 109, Char.ofNat 112, Char.ofNat 111, Char.ofNat 115, Char.ofNat 105, Char.ofNat 116, Char.ofNat 111, Char.ofNat 114, Char.ofNat 47, Char.ofNat 99, Char.ofNat 111, Char.ofNat 109, Char.ofNat 112, Char.ofNat 111, Char.ofNat 115, Char.ofNat 105, Char.ofNat 116, Char.ofNat 111, Char.ofNat 114, Char.ofNat 108, Char.ofNat 97, Char.ofNat 119, Char.ofNat 50, Char.ofNat 52, Char.ofNat 46, Char.ofNat 66, Char.ofNat 111, Char.ofNat 117, Char.ofNat 110, Char.ofNat 100, Char.ofNat 115, Char.ofNat 82, Char.ofNat 101, Char.ofNat 99, Char.ofNat 116, Char.ofNat 115, Char.ofNat 65, Char.ofNat 103, Char.ofNat 114, Char.ofNat 101, Char.ofNat 101, Char.ofNat 32, Char.ofNat 99, Char.ofNat 111, Char.ofNat 109, Char.ofNat 112, Char.ofNat 111, Char.ofNat 115, Char.ofNat 105, Char.ofNat 116, Char.ofNat 111, Char.ofNat 114, Char.ofNat 47, Char.ofNat 99, Char.ofNat 111, Char.ofNat 109, Char.ofNat 112, Char.ofNat 111, Char.ofNat 115, Char.ofNat 105, Char.ofNat 116, Char.ofNat 111, Char.ofNat 114, Char.ofNat 108, Char.ofNat 97, Char.ofNat 119, Char.ofNat 50, Char.ofNat 52, Char.ofNat 46, Char.ofNat 66, Char.ofNat 111, Char.ofNat 117, Char.ofNat 110, Char.ofNat 100, Char.ofNat 115, Char.ofNat 66, Char.ofNat 111, Char.ofNat 120, Char.ofNat 101, Char.ofNat 115, Char.ofNat 65, Char.ofNat 103, Char.ofNat 114, Char.ofNat 101, Char.ofNat 101, Char.ofNat 32, Char.ofNat 99, Char.ofNat 111, Char.ofNat 109, Char.ofNat 112, Char.ofNat 111, Char.ofNat 115, Char.ofNat 105, Char.ofNat 116, Char.ofNat 111, Char.ofNat 114, Char.ofNat 47, Char.ofNat 99, Char.ofNat 111, Char.ofNat 109, Char.ofNat 112, Char.ofNat 111, Char.ofNat 115, Char.ofNat 105, Char.ofNat 116, Char.ofNat 111, Char.ofNat 114, Char.ofNat 108, Char.ofNat 97, Char.ofNat 119, Char.ofNat 50, Char.ofNat 52, Char.ofNat 46, Char.ofNat 66, Char.ofNat 111, Char.ofNat 117, Char.ofNat 110, Char.ofNat 100, Char.ofNat 115, Char.ofNat 82, Char.ofNat 101, Char.ofNat 106, Char.ofNat 101, Char.ofNat 99, Char.ofNat 116, Char.ofNat 115, Char.ofNat 32, Char.ofNat 99, Char.ofNat 111, Char.ofNat 109, Char.ofNat 112, Char.ofNat 111, Char.ofNat 115, Char.ofNat 105, Char.ofNat 116, Char.ofNat 111, Char.ofNat 114, Char.ofNat 47, Char.ofNat 99, Char.ofNat 111, Char.ofNat 109, Char.ofNat 112, Char.ofNat 111, Char.ofNat 115, Char.ofNat 105, Char.ofNat 116, Char.ofNat 111, Char.ofNat 114, Char.ofNat 108, Char.ofNat 97, Char.ofNat 119, Char.ofNat 50, Char.ofNat 52, Char.ofNat 46, Char.ofNat 66, Char.ofNat 111, Char.ofNat 117, Char.ofNat 110, Char.ofNat 100, Char.ofNat 115, Char.ofNat 65, Char.ofNat 99, Char.ofNat 116, Char.ofNat 105, Char.ofNat 118, Char.ofNat 101, Char.ofNat 73, Char.ofNat 115, Char.ofNat 66, Char.ofNat 97, Char.ofNat 108, Char.ofNat 97, Char.ofNat 110, Char.ofNat 99, Char.ofNat 101, Char.ofNat 100] := by kernel_rfl
set_option maxRecDepth 100000 in
theorem headSigns : Tryd.prog.initOrder.toList = [Char.ofNat 104, Char.ofNat 97, Char.ofNat 114, Char.ofNat 110, Char.ofNat 101, Char.ofNat 115, Char.ofNat 115, Char.ofNat 32, Char.ofNat 51, Char.ofNat 49, Char.ofNat 101, Char.ofNat 99, Char.ofNat 102, Char.ofNat 49, Char.ofNat 53, Char.ofNat 50, Char.ofNat 53, Char.ofNat 99, Char.ofNat 52, Char.ofNat 101, Char.ofNat 101, Char.ofNat 57, Char.ofNat 48, Char.ofNat 57, Char.ofNat 51, Char.ofNat 98, Char.ofNat 49, Char.ofNat 101, Char.ofNat 98, Char.ofNat 99, Char.ofNat 49, Char.ofNat 56, Char.ofNat 50, Char.ofNat 99, Char.ofNat 98, Char.ofNat 97, Char.ofNat 102, Char.ofNat 99, Char.ofNat 56, Char.ofNat 97, Char.ofNat 100, Char.ofNat 52, Char.ofNat 100, Char.ofNat 53, Char.ofNat 102, Char.ofNat 50, Char.ofNat 55, Char.ofNat 54, Char.ofNat 56, Char.ofNat 56, Char.ofNat 99, Char.ofNat 57, Char.ofNat 50, Char.ofNat 97, Char.ofNat 49, Char.ofNat 54, Char.ofNat 55, Char.ofNat 49, Char.ofNat 57, Char.ofNat 97, Char.ofNat 57, Char.ofNat 98, Char.ofNat 50, Char.ofNat 52, Char.ofNat 57, Char.ofNat 57, Char.ofNat 98, Char.ofNat 56, Char.ofNat 99, Char.ofNat 99, Char.ofNat 97, Char.ofNat 48, Char.ofNat 32, Char.ofNat 99, Char.ofNat 117, Char.ofNat 116, Char.ofNat 32, Char.ofNat 97, Char.ofNat 116, Char.ofNat 32, Char.ofNat 99, Char.ofNat 111, Char.ofNat 109, Char.ofNat 112, Char.ofNat 111, Char.ofNat 115, Char.ofNat 105, Char.ofNat 116, Char.ofNat 111, Char.ofNat 114, Char.ofNat 47, Char.ofNat 99, Char.ofNat 111, Char.ofNat 109, Char.ofNat 112, Char.ofNat 111, Char.ofNat 115, Char.ofNat 105, Char.ofNat 116, Char.ofNat 111, Char.ofNat 114, Char.ofNat 108, Char.ofNat 97, Char.ofNat 119, Char.ofNat 50, Char.ofNat 52, Char.ofNat 46, Char.ofNat 66, Char.ofNat 111, Char.ofNat 117, Char.ofNat 110, Char.ofNat 100, Char.ofNat 115, Char.ofNat 82, Char.ofNat 101, Char.ofNat 99, Char.ofNat 116, Char.ofNat 115, Char.ofNat 65, Char.ofNat 103, Char.ofNat 114, Char.ofNat 101, Char.ofNat 101, Char.ofNat 32, Char.ofNat 99, Char.ofNat 111, Char.ofNat 109, Char.ofNat 112, Char.ofNat 111, Char.ofNat 115, Char.ofNat 105, Char.ofNat 116, Char.ofNat 111, Char.ofNat 114, Char.ofNat 47, Char.ofNat 99, Char.ofNat 111, Char.ofNat 109, Char.ofNat 112, Char.ofNat 111, Char.ofNat 115, Char.ofNat 105, Char.ofNat 116, Char.ofNat 111, Char.ofNat 114, Char.ofNat 108, Char.ofNat 97, Char.ofNat 119, Char.ofNat 50, Char.ofNat 52, Char.ofNat 46, Char.ofNat 66, Char.ofNat 111, Char.ofNat 117, Char.ofNat 110, Char.ofNat 100, Char.ofNat 115, Char.ofNat 66, Char.ofNat 111, Char.ofNat 120, Char.ofNat 101, Char.ofNat 115, Char.ofNat 65, Char.ofNat 103, Char.ofNat 114, Char.ofNat 101, Char.ofNat 101, Char.ofNat 32, Char.ofNat 99, Char.ofNat 111, Char.ofNat 109, Char.ofNat 112, Char.ofNat 111, Char.ofNat 115, Char.ofNat 105, Char.ofNat 116, Char.ofNat 111, Char.ofNat 114, Char.ofNat 47, Char.ofNat 99, Char.ofNat 111, Char.ofNat 109, Char.ofNat 112, Char.ofNat 111, Char.ofNat 115, Char.ofNat 105, Char.ofNat 116, Char.ofNat 111, Char.ofNat 114, Char.ofNat 108, Char.ofNat 97, Char.ofNat 119, Char.ofNat 50, Char.ofNat 52, Char.ofNat 46, Char.ofNat 66, Char.ofNat 111, Char.ofNat 117, Char.ofNat 110, Char.ofNat 100, Char.ofNat 115, Char.ofNat 82, Char.ofNat 101, Char.ofNat 106, Char.ofNat 101, Char.ofNat 99, Char.ofNat 116, Char.ofNat 115, Char.ofNat 32, Char.ofNat 99, Char.ofNat 111, Char.ofNat 109, Char.ofNat 112, Char.ofNat 111, Char.ofNat 115, Char.ofNat 105, Char.ofNat 116, Char.ofNat 111, Char.ofNat 114, Char.ofNat 47, Char.ofNat 99, Char.ofNat 111, Char.ofNat 109, Char.ofNat 112, Char.ofNat 111, Char.ofNat 115, Char.ofNat 105, Char.ofNat 116, Char.ofNat 111, Char.ofNat 114, Char.ofNat 108, Char.ofNat 97, Char.ofNat 119, Char.ofNat 50, Char.ofNat 52, Char.ofNat 46, Char.ofNat 66, Char.ofNat 111, Char.ofNat 117, Char.ofNat 110, Char.ofNat 100, Char.ofNat 115, Char.ofNat 65, Char.ofNat 99, Char.ofNat 116, Char.ofNat 105, Char.ofNat 118, Char.ofNat 101, Char.ofNat 73, Char.ofNat 115, Char.ofNat 66, Char.ofNat 97, Char.ofNat 108, Char.ofNat 97, Char.ofNat 110, Char.ofNat 99, Char.ofNat 101, Char.ofNat 100] := by rw [headWord, String.toList_ofList]
set_option maxRecDepth 100000 in
theorem enters : Tryd.prog.mayEnter = true := by
  unfold Program.mayEnter Program.doorFits
  rw [headSigns]
  kernel_rfl
set_option maxRecDepth 100000 in
theorem liftsNot : Tryd.prog.liftsFinal = false := by
  unfold Program.liftsFinal Program.headLifts
  rw [headSigns]
  kernel_rfl
set_option maxRecDepth 100000 in
theorem made : Tryd.prog.make = some .cut := by
  unfold Program.make
  rw [headSigns]
  kernel_rfl
theorem own : ownKnob Tryd.prog.godebug = none := by kernel_rfl
theorem laidOut : laidOutB Tryd.prog = true := by kernel_rfl
theorem mapsRow : mapsRowed Tryd.prog = true := by kernel_rfl
theorem noStops : (Tryd.prog.stops == []) = true := by kernel_rfl
theorem noKnobs : (Tryd.prog.stopKnobs == []) = true := by kernel_rfl
theorem plain : Tryd.prog.plainKeys = true := by kernel_rfl
theorem heard : Tryd.prog.stopsHeard = true := by kernel_rfl
end Go.Proofs.YtcaokljobfkajaaDoor.closed

/-
  What package variables that are laid by the program's text hold, cell by cell; and from a law's walk to a row that lists them.
-/
namespace Go.Proofs.YtcaokljobfkajaaDoor
open Go.RowKit Go.ChangeShapes Go.WideShapes
set_option linter.unusedVariables false
set_option linter.unusedSimpArgs false

def cellAt {H : Type} (P : Program) : Nat → TypeId → DataW H → Nat → Option DV
  | 0, _, _, _ => none
  | fuel + 1, t, d, i =>
    match P.underlying t, d with
    | some (.int k), .lit (.int k' n) => if i = 0 ∧ k' = k then some (.int k n) else none
    | some .bool, .lit (.bool b) => if i = 0 then some (.bool b) else none
    | some .string, .lit (.string s) => if i = 0 ∧ s.length ≤ maxLen then some (.str ⟨s.toArray⟩) else none
    | some (.struct fs), .agg ds => (fs.toList.zip ds).findSome? fun x => if x.1.offset ≤ i ∧ i < x.1.offset + P.cellsOf x.1.type then cellAt P fuel x.1.type x.2 (i - x.1.offset) else none
    | some (.array _ e), .agg ds => if P.cellsOf e = 0 then none else match ds[i / P.cellsOf e]? with
      | some d => cellAt P fuel e d (i % P.cellsOf e)
      | none => none
    | _, _ => none

section
variable {H : Type} {enc : TypeId × Value → H} {P : Program} {w : World}
theorem cell_of_trod {sp : Nat → Bool} {va : Bool} {V : Nat → Prop} : ∀ (fuel : Nat) (t : TypeId) (cs : List Value) (d : DataW H) (ps : List MemPlace) (q i : Nat) (dv : DV),
    DataW.trod enc P w 0 sp va fuel t cs = some (d, ps) → cellAt P q t d i = some dv → ∃ u, cs[i]? = some u ∧ RepD w V dv u := by
  intro fuel
  induction fuel with
  | zero => intro t cs d ps q i dv h; simp [DataW.trod] at h
  | succ fuel ih =>
    intro t cs d ps q i dv h hq
    cases q with
    | zero => simp [cellAt] at hq
    | succ q =>
    unfold DataW.trod at h
    unfold cellAt at hq
    split at h
    · rename_i b hu
      simp only [Option.some.injEq, Prod.mk.injEq] at h
      obtain ⟨rfl, _⟩ := h
      simp only [hu] at hq
      split at hq
      · rename_i e; subst e; cases hq; exact ⟨_, rfl, by simp only [RepD]⟩
      · cases hq
    · rename_i k k' n hu
      split at h
      · rename_i hk
        obtain ⟨rfl, hwf⟩ := hk
        simp only [Option.some.injEq, Prod.mk.injEq] at h
        obtain ⟨rfl, _⟩ := h
        simp only [hu] at hq
        split at hq
        · rename_i e; obtain ⟨rfl, _⟩ := e; cases hq; exact ⟨_, rfl, by simp only [RepD]; exact ⟨trivial, hwf⟩⟩
        · cases hq
      · cases h
    · rename_i hu
      simp only [hu] at hq
      cases hq
    · rename_i s hu
      split at h
      · simp only [Option.some.injEq, Prod.mk.injEq] at h
        obtain ⟨rfl, _⟩ := h
        simp only [hu] at hq
        split at hq
        · rename_i e; obtain ⟨rfl, hl⟩ := e; cases hq
          exact ⟨_, rfl, by simp only [RepD]; exact ⟨by simp, by simpa using hl⟩⟩
        · cases hq
      · cases h
    · rename_i hu; simp only [hu] at hq; cases hq
    · rename_i hu; simp only [hu] at hq; cases hq
    · rename_i hu; simp only [hu] at hq; cases hq
    · rename_i hu; simp only [hu] at hq; cases hq
    · rename_i fs hu
      split at h
      · obtain ⟨xs, hxs, h⟩ := Option.map_eq_some_iff.1 h
        simp only [Prod.mk.injEq] at h
        obtain ⟨rfl, _⟩ := h
        simp only [hu] at hq
        obtain ⟨x, hx, hx2⟩ := List.exists_of_findSome?_eq_some hq
        split at hx2
        · rename_i hr
          obtain ⟨j, hj, e⟩ := List.getElem_of_mem hx
          rw [List.getElem_zip] at e
          simp only [List.length_zip, List.length_map] at hj
          have h1 := mapM_some_get hxs j _ (List.getElem?_eq_getElem (by omega))
          rw [List.getElem?_eq_getElem (show j < xs.length by omega)] at h1
          subst e
          simp only [List.getElem_map] at hx2 hr
          obtain ⟨u, hu1, hu2⟩ := ih _ _ _ _ q _ dv h1 hx2
          refine ⟨u, ?_, hu2⟩
          rw [List.getElem?_take, if_pos (by omega), List.getElem?_drop] at hu1
          rwa [show _ + (i - _) = i from Nat.add_sub_of_le hr.1] at hu1
        · cases hx2
      · cases h
    · rename_i n e hu
      split at h
      · obtain ⟨xs, hxs, h⟩ := Option.map_eq_some_iff.1 h
        simp only [Prod.mk.injEq] at h
        obtain ⟨rfl, _⟩ := h
        simp only [hu] at hq
        split at hq
        · cases hq
        · rename_i hne
          split at hq
          · rename_i d hd
            rw [List.getElem?_map] at hd
            obtain ⟨x, hx, rfl⟩ := Option.map_eq_some_iff.1 hd
            have hl := mapM_some_length hxs
            simp only [List.length_range] at hl
            have hlt : i / P.cellsOf e < xs.length := (List.getElem?_eq_some_iff.1 hx).1
            have h1 := mapM_some_get hxs (i / P.cellsOf e) (i / P.cellsOf e) (List.getElem?_range (by omega))
            rw [hx] at h1
            obtain ⟨u, hu1, hu2⟩ := ih _ _ _ _ q _ dv h1 hq
            refine ⟨u, ?_, hu2⟩
            rw [List.getElem?_take, if_pos (Nat.mod_lt _ (Nat.pos_of_ne_zero hne)), List.getElem?_drop, Nat.mul_comm] at hu1
            rwa [Nat.div_add_mod] at hu1
          · cases hq
      · cases h
    all_goals first | (cases h; done) | (clear h ih; simp_all; done) | (clear h ih; split at hq <;> simp_all; done)
end

/-- the table says what the laid variables hold -/
def tabOK (P : Program) (laid : List (String × DataW Unit)) (p : Nat × List DV) : Prop :=
  ∃ x t, x ∈ laid ∧ P.globalNamed x.1 = some p.1 ∧ (P.globals[p.1]?).map (·.type) = some t ∧ (List.range p.2.length).map (cellAt P 6 t x.2) = p.2.map some
theorem laidVars_mem {P : Program} {w : World} : ∀ {l : List (String × DataW Unit)} {ps : List MemPlace}, DataW.LaidVars P w l ps → ∀ x ∈ l, ∃ g t cs fuel p, P.globalNamed x.1 = some g ∧ (P.globals[g]?).map (·.type) = some t ∧ w.var? P x.1 = some cs ∧ DataW.trod (fun _ => ()) P w 0 (fun _ => true) false fuel t cs.toList = some (x.2, p)
  | [], _, _, x, hx => by cases hx
  | (n, d) :: r, ps, h, x, hx => by
    obtain ⟨g, t, cs, fuel, p, q, h1, h2, h3, h4, h5, _⟩ := h
    rcases List.mem_cons.1 hx with rfl | hx
    · exact ⟨g, t, cs, fuel, p, h1, h2, h3, h4⟩
    · exact laidVars_mem h5 x hx
theorem globOK_of {P : Program} {laid : List (String × DataW Unit)} {w : World} (hm : laidMetH P laid w) (hp : (laid.all fun x => x.2.handleName?.isNone) = true) (ht : ∀ p ∈ globTab, tabOK P laid p) : GlobOK w (fun _ => True) := by
  rw [MakeChecks.laidMetH_plain _ _ _ hp] at hm
  obtain ⟨ps, hl, _⟩ := hm
  intro p hp _
  obtain ⟨x, t, hx, h1, h2, h3⟩ := ht p hp
  obtain ⟨g, t', cs, fuel, q, g1, g2, g3, g4⟩ := laidVars_mem hl x hx
  rw [g1] at h1; injection h1 with h1; subst h1
  rw [g2] at h2; injection h2 with h2; subst h2
  refine ⟨trivial, RepCells.of_at fun i d hi => ?_⟩
  have hlt : i < p.2.length := (List.getElem?_eq_some_iff.1 hi).1
  have h4 : ((List.range p.2.length).map (cellAt P 6 t' x.2))[i]? = (p.2.map some)[i]? := by rw [h3]
  rw [List.getElem?_map, List.getElem?_range hlt, List.getElem?_map, hi] at h4
  simp only [Option.map_some, Option.some.injEq] at h4
  obtain ⟨u, hu1, hu2⟩ := cell_of_trod (V := fun _ => True) fuel t' cs.toList x.2 q 6 i d g4 h4
  refine ⟨u, ?_, hu2⟩
  rw [Nat.zero_add, World.var?_cell g1 g3 i, ← Array.getElem?_toList]
  exact hu1

/-- FROM A LAW's WALK TO ITS ROW, with package variables laid by the text. -/
theorem law_lift_laid {H : Type} {enc : TypeId × Value → H} {C : Checked} {os : Os} {f : FuncId} {fn : Func} {s : ChangeSpec} {tb : TypeId} {laid : List (String × DataW Unit)}
    (own : ownKnob C.prog.godebug = none) (started : os.Started) (noInit : C.prog.inits.idxOf? f = none) (hfn : C.prog.funcs[f]? = some fn)
    (witness : ∃ (w : World) (tape : Tape) (i : Input), w.os = os ∧ (w.forCall tape i).Shaped C.prog ∧ i.vars = [] ∧ Input.okWide C.prog (w.forCall tape i) .any w.heap.size f i ∧
      ((s.pre enc C.prog fn [] false (w.forCall tape i).memory i.args ∧ laidMetH C.prog laid (w.forCall tape i).memory) ∧ sizedMet enc C.prog fn (OpenSpec.ofChange s) false (w.forCall tape i).memory i.args) ∧ ({} : Assume).holds C.prog (lone (Frame.enter C.prog f i.args .normal) [] (w.forCall tape i)))
    (hspec : ∀ ds : List (DataW H), ds.length = fn.params.toList.length → s.fn H ds = { results := [.lit (.bool true)], args := ds }) (hvars : s.vars = [])
    (hres : fn.resultTypes = #[tb]) (hb : C.prog.underlying tb = some .bool) (laidO : laidOutB C.prog = true)
    (hread : ∀ t ∈ fn.params.toList, C.prog.readableRec t = true ∧ t < C.prog.types.size)
    (hp : (laid.all fun x => x.2.handleName?.isNone) = true) (ht : ∀ p ∈ globTab, tabOK C.prog laid p)
    (walk : ∀ (W : World) (args : Array Value), GlobOK W (fun _ => True) → Args C.prog W fn.params.toList args.toList → Calls C.prog f args W fun e W' => e = .returned (.bool true) ∧ Below W.heap.size W W') :
    ReturnsInHanded {} C os f .any (fun w args => (s.pre enc C.prog fn [] false w args ∧ laidMetH C.prog laid w) ∧ sizedMet enc C.prog fn (OpenSpec.ofChange s) false w args) (s.post enc C.prog fn false true false false) := by
  refine returnsInHanded_of_change_and (X := fun w _ => laidMetH C.prog laid w) (fun _ _ _ hh h => laidMetH.of_heap hh h) own started noInit hfn witness ?_
  intro W base args ds gs before hval hW _ hsz hlaid _
  have hW' := hW
  obtain ⟨p, q, hA, hV, rfl, _, _⟩ := hW
  rw [hvars] at hV
  obtain ⟨rfl, rfl⟩ := trodVars_none hV
  have hvt : s.plain.varTypes C.prog = [] := by simp [ChangeSpec.plain, DataSpec.varTypes, hvars]
  rw [hvt, List.append_nil, List.append_nil] at hsz
  obtain ⟨ha, hlen⟩ := args_of_trodAll hA (fun n hn => by simpa using List.all_eq_true.1 hsz n hn) (fun j t v ht hv => cells_of_okWide (hval j t v (by simpa using ht) (by simpa using hv)))
  refine (walk W args (globOK_of hlaid hp ht) ha).mono fun e W' ⟨he, bel⟩ => ?_
  subst he
  have hs := hspec ds hlen
  refine ⟨_, rfl, ds, [], p ++ [], [], p, [], hW', ?_, ?_, ?_, bel.frame _, fun h => by cases h⟩
  · rw [List.append_nil, hs, hres]
    exact trodAll_mk1 (shut_bool hb _)
  · rw [List.append_nil, hs]
    exact trodAll_below laidO bel hread hA
  · rw [List.append_nil, hs, hvars]
    rfl
end Go.Proofs.YtcaokljobfkajaaDoor

/-
  The table of package variables is what the rows list; the door's own run meets it.
-/
namespace Go.Proofs.YtcaokljobfkajaaDoor
open Go.RowKit
set_option linter.unusedVariables false
set_option linter.unusedSimpArgs false

abbrev laidL : List (String × DataW Unit) := [("compositor/operator.rules", Rows.laid_compositor_operator_rules), ("compositor/blend.names", Rows.laid_compositor_blend_names)]
set_option maxRecDepth 100000 in
theorem tab_ok : ∀ p ∈ globTab, tabOK Tryd.prog laidL p := by
  intro p hp
  simp only [globTab, List.mem_cons, List.not_mem_nil, or_false] at hp
  rcases hp with rfl | rfl
  · exact ⟨("compositor/blend.names", Rows.laid_compositor_blend_names), 117, (List.mem_cons_of_mem _ List.mem_cons_self), by kernel_rfl, by kernel_rfl, by kernel_rfl⟩
  · exact ⟨("compositor/operator.rules", Rows.laid_compositor_operator_rules), 118, List.mem_cons_self, by kernel_rfl, by kernel_rfl, by kernel_rfl⟩
theorem laid_plain : (laidL.all fun x => x.2.handleName?.isNone) = true := by kernel_rfl
set_option maxRecDepth 100000 in
theorem door_met (os : Os) (args : Array Value) : laidMetH Tryd.prog laidL ((World.doorLaid Tryd.prog 400 os).forCall (fun _ _ => 0) ⟨#[], args, []⟩).memory :=
  laidMetH_of_parts3 (fuel := 8) (laidMet_of_run' 8 (by kernel_rfl) (by kernel_rfl)) (by kernel_rfl) (by kernel_rfl)
end Go.Proofs.YtcaokljobfkajaaDoor

