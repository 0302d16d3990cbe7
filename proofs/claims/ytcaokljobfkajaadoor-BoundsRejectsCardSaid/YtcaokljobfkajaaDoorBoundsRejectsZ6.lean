/-
  Part 6 of what BoundsRejects rests on.
-/
import Derived.Test.YtcaokljobfkajaaDoorBoundsRejectsZ5
import Derived.Test.YtcaokljobfkajaaDoorBoundsRejectsZ3
import Derived.Test.YtcaokljobfkajaaDoorBoundsRejectsZ2
import Derived.Test.YtcaokljobfkajaaDoorRows
import Derived.JoinedOf
import Derived.KernelRfl
import Derived.Test.YtcaokljobfkajaaDoorBoundsRejectsZ1
import Derived.MakeChecks
import Derived.LaidHandle
import Derived.LaidMore
import Derived.Stop.Joined
/-
  Small things of the laws of bounds.
-/
namespace Go.Proofs.YtcaokljobfkajaaDoor
open Go.RowKit
set_option linter.unusedVariables false
set_option linter.unusedSimpArgs false
attribute [local irreducible] Ans AnsO AnsG AnsN AnsI

set_option maxRecDepth 4000
def awS : Scr := ⟨8, ⟨0, 0, 9, 9⟩, 9, 9, [], [⟨2, 2, true, ⟨0, 0, 0, 0, 0⟩, ⟨0, 0, 0, 0, []⟩, ⟨0, 0, 0, 0, []⟩, ⟨0, 0, 0, 0, []⟩, ⟨0, 0, 0, 0, []⟩, ⟨0, 0, 0, 0, []⟩⟩], [⟨1, 0, 8, 0, 0, 0, 0, 255, 4, 1, false, false⟩, ⟨1, 0, 0, 0, 0, 0, 0, 255, 6, 1, false, false⟩]⟩
theorem awS_boxes : boxesS awS = ([⟨8, 0, 9, 2⟩, ⟨0, 0, 9, 9⟩], 0) := by kernel_rfl
def gamBe : Gam where
 pure := fun f xs =>
  if f = 15 then (match xs with | [.agg [.int _ bits, .int _ cx0, .int _ cy0, .int _ cx1, .int _ cy1, .int _ tw, .int _ th, .sl on oxs, .sl mn mxs, .sl pn pxs]] => some (RV.tup [RV.d (DV.sl ((boxesS (⟨bits, ⟨cx0, cy0, cx1, cy1⟩, tw, th, ints oxs, toIms mxs, toOps pxs⟩ : Scr)).1.length) (rcs (boxesS (⟨bits, ⟨cx0, cy0, cx1, cy1⟩, tw, th, ints oxs, toIms mxs, toOps pxs⟩ : Scr)).1)), RV.d (DV.int .i64 ((boxesS (⟨bits, ⟨cx0, cy0, cx1, cy1⟩, tw, th, ints oxs, toIms mxs, toOps pxs⟩ : Scr)).2))]) | _ => none) else
  if f = 9 then (match xs with | [.d (.int _ n), .d (.int _ k)] => some (RV.d (DV.int .i64 (modS n k))) | _ => none) else
  none
 modes := fun f =>
  none
 proc := fun f xs bs =>
  none
 iter := fun f cs =>
  none

def L24_same_ann (x : List Rc) (y : List Rc) : Ann := (Ann.seq Ann.leaf (Ann.seq Ann.leaf (Ann.seq (Ann.seq Ann.leaf (Ann.loop ⟨Nat, fun k => k ≤ x.length ∧ x.take k = y.take k, fun k => ⟨[(0, AV.one (Cl.d (DV.sl x.length (rcs x)))), (1, AV.one (Cl.d (DV.sl y.length (rcs y)))), (5, AV.one (Cl.d (DV.int .i64 ((k : Nat) : Int))))], []⟩, fun k => x.length - k⟩ fun k => Ann.leaf)) Ann.leaf)))
theorem L24_same_vc (x : List Rc) (y : List Rc) : vcg Tryd.prog gamBe 26 (bodyOf Tryd.f17) (L24_same_ann x y) kn0 (start [RV.d (DV.sl x.length (rcs x)), RV.d (DV.sl y.length (rcs y))]) (post Tryd.prog Tryd.f17.results.toList (· = RV.d (DV.bool (decide (toRcs (rcs x) = toRcs (rcs y)))))) =
  (let zz0 := (DV.bool (decide (toRcs (rcs x) = toRcs (rcs y)))); let zz1 := fun (k : Nat) => (k ≤ x.length ∧ x.take k = y.take k); let zz2 := (DV.sl x.length (rcs x) = DV.sl x.length (rcs x)); let zz3 := (DV.sl y.length (rcs y) = DV.sl y.length (rcs y)); True ∧ True ∧ True ∧ True ∧ True ∧ True ∧ (((((x.length : Nat) : Int) != ((y.length : Nat) : Int)) = true → True ∧ RV.d (DV.bool false) = RV.d zz0) ∧ ((((x.length : Nat) : Int) != ((y.length : Nat) : Int)) = false → True ∧ ((∃ k : Nat, (zz1 k) ∧ ((zz2 ∧ zz3 ∧ (DV.int .i64 0 = DV.int .i64 ((k : Nat) : Int)) ∧ True) ∧ (True))) ∧ ∀ k : Nat, (zz1 k) → True ∧ True ∧ True ∧ True ∧ (((decide (((k : Nat) : Int) < ((x.length : Nat) : Int))) = true → True ∧ True ∧ (0 ≤ ((k : Nat) : Int) ∧ ((k : Nat) : Int) < ((x.length : Nat) : Int) ∧ ((k : Nat) : Int).toNat * 4 < (rcs x).length) ∧ (((rcs x)[((k : Nat) : Int).toNat * 4]? = some (DV.int .i64 (nAt (rcs x) (((k : Nat) : Int).toNat * 4)))) ∧ ((rcs x)[((k : Nat) : Int).toNat * 4 + 1]? = some (DV.int .i64 (nAt (rcs x) (((k : Nat) : Int).toNat * 4 + 1)))) ∧ ((rcs x)[((k : Nat) : Int).toNat * 4 + 1 + 1]? = some (DV.int .i64 (nAt (rcs x) (((k : Nat) : Int).toNat * 4 + 1 + 1)))) ∧ ((rcs x)[((k : Nat) : Int).toNat * 4 + 1 + 1 + 1]? = some (DV.int .i64 (nAt (rcs x) (((k : Nat) : Int).toNat * 4 + 1 + 1 + 1)))) ∧ True) ∧ True ∧ True ∧ (0 ≤ ((k : Nat) : Int) ∧ ((k : Nat) : Int) < ((y.length : Nat) : Int) ∧ ((k : Nat) : Int).toNat * 4 < (rcs y).length) ∧ (((rcs y)[((k : Nat) : Int).toNat * 4]? = some (DV.int .i64 (nAt (rcs y) (((k : Nat) : Int).toNat * 4)))) ∧ ((rcs y)[((k : Nat) : Int).toNat * 4 + 1]? = some (DV.int .i64 (nAt (rcs y) (((k : Nat) : Int).toNat * 4 + 1)))) ∧ ((rcs y)[((k : Nat) : Int).toNat * 4 + 1 + 1]? = some (DV.int .i64 (nAt (rcs y) (((k : Nat) : Int).toNat * 4 + 1 + 1)))) ∧ ((rcs y)[((k : Nat) : Int).toNat * 4 + 1 + 1 + 1]? = some (DV.int .i64 (nAt (rcs y) (((k : Nat) : Int).toNat * 4 + 1 + 1 + 1)))) ∧ True) ∧ True ∧ (true = true) ∧ (((!(((nAt (rcs x) (((k : Nat) : Int).toNat * 4)) == (nAt (rcs y) (((k : Nat) : Int).toNat * 4))) && (((nAt (rcs x) (((k : Nat) : Int).toNat * 4 + 1)) == (nAt (rcs y) (((k : Nat) : Int).toNat * 4 + 1))) && (((nAt (rcs x) (((k : Nat) : Int).toNat * 4 + 1 + 1)) == (nAt (rcs y) (((k : Nat) : Int).toNat * 4 + 1 + 1))) && (((nAt (rcs x) (((k : Nat) : Int).toNat * 4 + 1 + 1 + 1)) == (nAt (rcs y) (((k : Nat) : Int).toNat * 4 + 1 + 1 + 1))) && true))))) = true → True ∧ RV.d (DV.bool false) = RV.d zz0) ∧ ((!(((nAt (rcs x) (((k : Nat) : Int).toNat * 4)) == (nAt (rcs y) (((k : Nat) : Int).toNat * 4))) && (((nAt (rcs x) (((k : Nat) : Int).toNat * 4 + 1)) == (nAt (rcs y) (((k : Nat) : Int).toNat * 4 + 1))) && (((nAt (rcs x) (((k : Nat) : Int).toNat * 4 + 1 + 1)) == (nAt (rcs y) (((k : Nat) : Int).toNat * 4 + 1 + 1))) && (((nAt (rcs x) (((k : Nat) : Int).toNat * 4 + 1 + 1 + 1)) == (nAt (rcs y) (((k : Nat) : Int).toNat * 4 + 1 + 1 + 1))) && true))))) = false → True ∧ True ∧ True ∧ ∃ k' : Nat, (k' ≤ x.length ∧ x.take k' = y.take k') ∧ (x.length - k' < x.length - k) ∧ ((zz2 ∧ zz3 ∧ (DV.int .i64 (IntKind.wrap .i64 (((k : Nat) : Int) + (1 : Int))) = DV.int .i64 ((k' : Nat) : Int)) ∧ True) ∧ (True))))) ∧ ((decide (((k : Nat) : Int) < ((x.length : Nat) : Int))) = false → True ∧ RV.d (DV.bool true) = RV.d zz0)))))) := by kernel_rfl
theorem L24_same_ans (x : List Rc) (y : List Rc) : Ans Tryd.prog 17 [RV.d (DV.sl x.length (rcs x)), RV.d (DV.sl y.length (rcs y))] (RV.d (DV.bool (decide (toRcs (rcs x) = toRcs (rcs y))))) :=
  ans_of_vcg (Γ := gamBe) (L24_same_ann x y) mixed_ Tryd.func17 rfl (Nat.le_of_ble_eq_true rfl) fun hwf => by
    refine Eq.mpr (L24_same_vc x y) ?_
    simp only [true_and, and_true, RV.d.injEq, RV.agg.injEq, RV.tup.injEq, DV.bool.injEq, DV.int.injEq, DV.sl.injEq, List.cons.injEq, forall_const, Bool.not_false, Bool.not_true, Bool.not_eq_true', Bool.not_eq_false', decide_eq_true_eq, decide_eq_false_iff_not, Int.toNat_natCast, G_Mod_ans]
    simp only [toRcs_rcs]
    simp only [RV.wfs, RV.wf, DV.wf, maxLen] at hwf
    refine ⟨fun hne => ?_, fun he => ⟨⟨0, ⟨Nat.zero_le _, rfl⟩, rfl⟩, fun k hk => ⟨fun hlt => ?_, fun hge => ?_⟩⟩⟩
    · have : x ≠ y := fun h => by rw [h] at hne; simp at hne
      simp [this]
    · have he : x.length = y.length := by simp at he; omega
      have h : k < x.length := by omega
      have h' : k < y.length := by omega
      have e1 := rcs_nAt h
      have q1 := rcs_at x k h
      have e2 := rcs_nAt h'
      have q2 := rcs_at y k h'
      have hw : IntKind.wrap .i64 ((k : Int) + 1) = ((k + 1 : Nat) : Int) := by rw [IntWalk.i64_in _ ⟨by omega, by omega⟩]; omega
      simp only [e1, e2]
      refine ⟨⟨by omega, by omega, by rw [rcs_length]; omega⟩, q1, ⟨by omega, by omega, by rw [rcs_length]; omega⟩, q2, fun hd => ?_, fun hd => ?_⟩
      · have : x ≠ y := fun hll => by subst hll; simp at hd
        simp [this]
      · refine ⟨k + 1, ⟨by omega, ?_⟩, by omega, hw⟩
        have hr : x[k] = y[k] := by
          generalize x[k] = r at *
          generalize y[k] = q at *
          obtain ⟨r1, r2, r3, r4⟩ := r
          obtain ⟨t1, t2, t3, t4⟩ := q
          simp at hd ⊢
          omega
        rw [List.take_succ_eq_append_getElem h, List.take_succ_eq_append_getElem h', hk.2, hr]
    · have he : x.length = y.length := by simp at he; omega
      have hk2 := hk.2
      rw [List.take_of_length_le (by omega), List.take_of_length_le (by omega)] at hk2
      simp [hk2]

def L24_awake_ann : Ann := (Ann.seq Ann.leaf (Ann.cut ⟨Unit, fun u : Unit => True, fun u : Unit => ⟨[(1, AV.one (Cl.ptr 1 0))], [(1, Bx.cells [Cl.d (DV.int .i64 awS.bits), Cl.d (DV.int .i64 awS.c.a), Cl.d (DV.int .i64 awS.c.b), Cl.d (DV.int .i64 awS.c.c), Cl.d (DV.int .i64 awS.c.d), Cl.d (DV.int .i64 awS.tw), Cl.d (DV.int .i64 awS.th), Cl.ref 7000 awS.ord.length, Cl.ref 7001 awS.ims.length, Cl.ref 7002 awS.ops.length]), (7000, Bx.row 3 1 (is awS.ord)), (7001, Bx.row 49 28 (ims awS.ims)), (7002, Bx.row 29 12 (ops awS.ops))]⟩, fun u : Unit => 0⟩ Ann.leaf fun u => Ann.leaf))
theorem L24_awake_vc : vcg Tryd.prog gamBe 38 (bodyOf Tryd.f10) (L24_awake_ann ) kn0 (start []) (post Tryd.prog Tryd.f10.results.toList (· = RV.d (DV.bool true))) =
  (True ∧ (True ∧ True ∧ True ∧ True ∧ True ∧ True ∧ True ∧ True ∧ True ∧ ∃ u : Unit, True ∧ (((0 = 0) ∧ True) ∧ (((DV.int .i64 8 = DV.int .i64 awS.bits) ∧ (DV.int .i64 0 = DV.int .i64 awS.c.a) ∧ (DV.int .i64 0 = DV.int .i64 awS.c.b) ∧ (DV.int .i64 9 = DV.int .i64 awS.c.c) ∧ (DV.int .i64 9 = DV.int .i64 awS.c.d) ∧ (DV.int .i64 9 = DV.int .i64 awS.tw) ∧ (DV.int .i64 9 = DV.int .i64 awS.th) ∧ (0 = awS.ord.length) ∧ (1 = awS.ims.length) ∧ (2 = awS.ops.length) ∧ True) ∧ ([] = is awS.ord) ∧ ([DV.int .i64 2, DV.int .i64 2, DV.bool true, DV.int .u16 0, DV.int .u16 0, DV.int .u16 0, DV.int .u16 0, DV.int .u16 0, DV.int .i64 0, DV.int .i64 0, DV.int .i64 0, DV.sl 0 ([]), DV.int .i64 0, DV.int .i64 0, DV.int .i64 0, DV.sl 0 ([]), DV.int .i64 0, DV.int .i64 0, DV.int .i64 0, DV.sl 0 ([]), DV.int .i64 0, DV.int .i64 0, DV.int .i64 0, DV.sl 0 ([]), DV.int .i64 0, DV.int .i64 0, DV.int .i64 0, DV.sl 0 ([])] = ims awS.ims) ∧ ([DV.int .i64 1, DV.int .i64 0, DV.int .i64 8, DV.int .i64 0, DV.int .i64 0, DV.int .i64 0, DV.int .i64 0, DV.int .u16 255, DV.int .i64 4, DV.int .i64 1, DV.bool false, DV.bool false, DV.int .i64 1, DV.int .i64 0, DV.int .i64 0, DV.int .i64 0, DV.int .i64 0, DV.int .i64 0, DV.int .i64 0, DV.int .u16 255, DV.int .i64 6, DV.int .i64 1, DV.bool false, DV.bool false] = ops awS.ops) ∧ True))) ∧ ∀ u : Unit, (True) → True ∧ (Ans Tryd.prog 15 [RV.agg [DV.int .i64 awS.bits, DV.int .i64 awS.c.a, DV.int .i64 awS.c.b, DV.int .i64 awS.c.c, DV.int .i64 awS.c.d, DV.int .i64 awS.tw, DV.int .i64 awS.th, DV.sl awS.ord.length (is awS.ord), DV.sl awS.ims.length (ims awS.ims), DV.sl awS.ops.length (ops awS.ops)]] (RV.tup [RV.d (DV.sl ((boxesS (⟨awS.bits, awS.c, awS.tw, awS.th, ints (is awS.ord), toIms (ims awS.ims), toOps (ops awS.ops)⟩ : Scr)).1.length) (rcs (boxesS (⟨awS.bits, awS.c, awS.tw, awS.th, ints (is awS.ord), toIms (ims awS.ims), toOps (ops awS.ops)⟩ : Scr)).1)), RV.d (DV.int .i64 ((boxesS (⟨awS.bits, awS.c, awS.tw, awS.th, ints (is awS.ord), toIms (ims awS.ims), toOps (ops awS.ops)⟩ : Scr)).2))])) ∧ True ∧ True ∧ True ∧ True ∧ True ∧ True ∧ True ∧ True ∧ (((((boxesS (⟨awS.bits, awS.c, awS.tw, awS.th, ints (is awS.ord), toIms (ims awS.ims), toOps (ops awS.ops)⟩ : Scr)).2) == (0 : Int)) = true → True ∧ True ∧ True ∧ True ∧ True ∧ ((((((boxesS (⟨awS.bits, awS.c, awS.tw, awS.th, ints (is awS.ord), toIms (ims awS.ims), toOps (ops awS.ops)⟩ : Scr)).1.length : Nat) : Int) == (2 : Int)) = true → True ∧ (0 ≤ (0 : Int) ∧ (0 : Int) < (((boxesS (⟨awS.bits, awS.c, awS.tw, awS.th, ints (is awS.ord), toIms (ims awS.ims), toOps (ops awS.ops)⟩ : Scr)).1.length : Nat) : Int) ∧ 0 < (rcs (boxesS (⟨awS.bits, awS.c, awS.tw, awS.th, ints (is awS.ord), toIms (ims awS.ims), toOps (ops awS.ops)⟩ : Scr)).1).length) ∧ (((rcs (boxesS (⟨awS.bits, awS.c, awS.tw, awS.th, ints (is awS.ord), toIms (ims awS.ims), toOps (ops awS.ops)⟩ : Scr)).1)[0]? = some (DV.int .i64 (nAt (rcs (boxesS (⟨awS.bits, awS.c, awS.tw, awS.th, ints (is awS.ord), toIms (ims awS.ims), toOps (ops awS.ops)⟩ : Scr)).1) 0))) ∧ ((rcs (boxesS (⟨awS.bits, awS.c, awS.tw, awS.th, ints (is awS.ord), toIms (ims awS.ims), toOps (ops awS.ops)⟩ : Scr)).1)[1]? = some (DV.int .i64 (nAt (rcs (boxesS (⟨awS.bits, awS.c, awS.tw, awS.th, ints (is awS.ord), toIms (ims awS.ims), toOps (ops awS.ops)⟩ : Scr)).1) 1))) ∧ ((rcs (boxesS (⟨awS.bits, awS.c, awS.tw, awS.th, ints (is awS.ord), toIms (ims awS.ims), toOps (ops awS.ops)⟩ : Scr)).1)[2]? = some (DV.int .i64 (nAt (rcs (boxesS (⟨awS.bits, awS.c, awS.tw, awS.th, ints (is awS.ord), toIms (ims awS.ims), toOps (ops awS.ops)⟩ : Scr)).1) 2))) ∧ ((rcs (boxesS (⟨awS.bits, awS.c, awS.tw, awS.th, ints (is awS.ord), toIms (ims awS.ims), toOps (ops awS.ops)⟩ : Scr)).1)[3]? = some (DV.int .i64 (nAt (rcs (boxesS (⟨awS.bits, awS.c, awS.tw, awS.th, ints (is awS.ord), toIms (ims awS.ims), toOps (ops awS.ops)⟩ : Scr)).1) 3))) ∧ True) ∧ True ∧ True ∧ True ∧ True ∧ (((((nAt (rcs (boxesS (⟨awS.bits, awS.c, awS.tw, awS.th, ints (is awS.ord), toIms (ims awS.ims), toOps (ops awS.ops)⟩ : Scr)).1) 0) == (8 : Int)) && (((nAt (rcs (boxesS (⟨awS.bits, awS.c, awS.tw, awS.th, ints (is awS.ord), toIms (ims awS.ims), toOps (ops awS.ops)⟩ : Scr)).1) 1) == (0 : Int)) && (((nAt (rcs (boxesS (⟨awS.bits, awS.c, awS.tw, awS.th, ints (is awS.ord), toIms (ims awS.ims), toOps (ops awS.ops)⟩ : Scr)).1) 2) == (9 : Int)) && (((nAt (rcs (boxesS (⟨awS.bits, awS.c, awS.tw, awS.th, ints (is awS.ord), toIms (ims awS.ims), toOps (ops awS.ops)⟩ : Scr)).1) 3) == (2 : Int)) && true)))) = true → True ∧ (0 ≤ (1 : Int) ∧ (1 : Int) < (((boxesS (⟨awS.bits, awS.c, awS.tw, awS.th, ints (is awS.ord), toIms (ims awS.ims), toOps (ops awS.ops)⟩ : Scr)).1.length : Nat) : Int) ∧ 4 < (rcs (boxesS (⟨awS.bits, awS.c, awS.tw, awS.th, ints (is awS.ord), toIms (ims awS.ims), toOps (ops awS.ops)⟩ : Scr)).1).length) ∧ (((rcs (boxesS (⟨awS.bits, awS.c, awS.tw, awS.th, ints (is awS.ord), toIms (ims awS.ims), toOps (ops awS.ops)⟩ : Scr)).1)[4]? = some (DV.int .i64 (nAt (rcs (boxesS (⟨awS.bits, awS.c, awS.tw, awS.th, ints (is awS.ord), toIms (ims awS.ims), toOps (ops awS.ops)⟩ : Scr)).1) 4))) ∧ ((rcs (boxesS (⟨awS.bits, awS.c, awS.tw, awS.th, ints (is awS.ord), toIms (ims awS.ims), toOps (ops awS.ops)⟩ : Scr)).1)[5]? = some (DV.int .i64 (nAt (rcs (boxesS (⟨awS.bits, awS.c, awS.tw, awS.th, ints (is awS.ord), toIms (ims awS.ims), toOps (ops awS.ops)⟩ : Scr)).1) 5))) ∧ ((rcs (boxesS (⟨awS.bits, awS.c, awS.tw, awS.th, ints (is awS.ord), toIms (ims awS.ims), toOps (ops awS.ops)⟩ : Scr)).1)[6]? = some (DV.int .i64 (nAt (rcs (boxesS (⟨awS.bits, awS.c, awS.tw, awS.th, ints (is awS.ord), toIms (ims awS.ims), toOps (ops awS.ops)⟩ : Scr)).1) 6))) ∧ ((rcs (boxesS (⟨awS.bits, awS.c, awS.tw, awS.th, ints (is awS.ord), toIms (ims awS.ims), toOps (ops awS.ops)⟩ : Scr)).1)[7]? = some (DV.int .i64 (nAt (rcs (boxesS (⟨awS.bits, awS.c, awS.tw, awS.th, ints (is awS.ord), toIms (ims awS.ims), toOps (ops awS.ops)⟩ : Scr)).1) 7))) ∧ True) ∧ True ∧ True ∧ True ∧ True ∧ True ∧ (true = true) ∧ RV.d (DV.bool (((nAt (rcs (boxesS (⟨awS.bits, awS.c, awS.tw, awS.th, ints (is awS.ord), toIms (ims awS.ims), toOps (ops awS.ops)⟩ : Scr)).1) 4) == awS.c.a) && (((nAt (rcs (boxesS (⟨awS.bits, awS.c, awS.tw, awS.th, ints (is awS.ord), toIms (ims awS.ims), toOps (ops awS.ops)⟩ : Scr)).1) 5) == awS.c.b) && (((nAt (rcs (boxesS (⟨awS.bits, awS.c, awS.tw, awS.th, ints (is awS.ord), toIms (ims awS.ims), toOps (ops awS.ops)⟩ : Scr)).1) 6) == awS.c.c) && (((nAt (rcs (boxesS (⟨awS.bits, awS.c, awS.tw, awS.th, ints (is awS.ord), toIms (ims awS.ims), toOps (ops awS.ops)⟩ : Scr)).1) 7) == awS.c.d) && true))))) = RV.d (DV.bool true)) ∧ ((((nAt (rcs (boxesS (⟨awS.bits, awS.c, awS.tw, awS.th, ints (is awS.ord), toIms (ims awS.ims), toOps (ops awS.ops)⟩ : Scr)).1) 0) == (8 : Int)) && (((nAt (rcs (boxesS (⟨awS.bits, awS.c, awS.tw, awS.th, ints (is awS.ord), toIms (ims awS.ims), toOps (ops awS.ops)⟩ : Scr)).1) 1) == (0 : Int)) && (((nAt (rcs (boxesS (⟨awS.bits, awS.c, awS.tw, awS.th, ints (is awS.ord), toIms (ims awS.ims), toOps (ops awS.ops)⟩ : Scr)).1) 2) == (9 : Int)) && (((nAt (rcs (boxesS (⟨awS.bits, awS.c, awS.tw, awS.th, ints (is awS.ord), toIms (ims awS.ims), toOps (ops awS.ops)⟩ : Scr)).1) 3) == (2 : Int)) && true)))) = (!true) → True ∧ True ∧ (true = true) ∧ RV.d (DV.bool false) = RV.d (DV.bool true)))) ∧ (((((boxesS (⟨awS.bits, awS.c, awS.tw, awS.th, ints (is awS.ord), toIms (ims awS.ims), toOps (ops awS.ops)⟩ : Scr)).1.length : Nat) : Int) == (2 : Int)) = (!true) → True ∧ True ∧ True ∧ True ∧ (true = true) ∧ RV.d (DV.bool false) = RV.d (DV.bool true)))) ∧ ((((boxesS (⟨awS.bits, awS.c, awS.tw, awS.th, ints (is awS.ord), toIms (ims awS.ims), toOps (ops awS.ops)⟩ : Scr)).2) == (0 : Int)) = (!true) → True ∧ True ∧ True ∧ True ∧ True ∧ True ∧ (true = true) ∧ RV.d (DV.bool false) = RV.d (DV.bool true)))) := by kernel_rfl
theorem L24_awake_ans : Ans Tryd.prog 10 [] (RV.d (DV.bool true)) :=
  ans_of_vcg (Γ := gamBe) (L24_awake_ann ) mixed_ Tryd.func10 rfl (Nat.le_of_ble_eq_true rfl) fun hwf => by
    refine Eq.mpr (L24_awake_vc ) ?_
    simp only [true_and, and_true, RV.d.injEq, RV.agg.injEq, RV.tup.injEq, DV.bool.injEq, DV.int.injEq, DV.sl.injEq, List.cons.injEq, forall_const, Bool.not_false, Bool.not_true, Bool.not_eq_true', Bool.not_eq_false', decide_eq_true_eq, decide_eq_false_iff_not, Int.toNat_natCast, G_Mod_ans]
    have eS : (⟨awS.bits, awS.c, awS.tw, awS.th, ints (is awS.ord), toIms (ims awS.ims), toOps (ops awS.ops)⟩ : Scr) = awS := scr_eta awS
    have a := bounds_Boxes_ans awS
    simp only [eS, awS_boxes] at a ⊢
    refine ⟨⟨(), ⟨rfl, rfl, rfl, rfl, rfl, rfl, rfl, rfl, rfl, rfl⟩, rfl, rfl, rfl⟩, a, ?_⟩
    simp [rcs, Rc.cells, nAt, awS]

end Go.Proofs.YtcaokljobfkajaaDoor

/-
  Boxes of all operations, as the program finds them, as a row that the caller may keep.
-/
namespace Go.Proofs.YtcaokljobfkajaaDoor
open Go.RowKit
set_option linter.unusedVariables false
set_option linter.unusedSimpArgs false
attribute [local irreducible] Ans AnsO AnsG AnsN AnsI

set_option maxRecDepth 4000
theorem bx_fresh (l : List Rc) (e : Int) : freshOK ⟨AV.tup [AV.one (Cl.ref 0 l.length), AV.one (Cl.d (DV.int .i64 e))], [Bx.row 33 4 (rcs l)], true⟩ := by
  refine ⟨⟨trivial, rfl, trivial⟩, fun d hd => ?_, trivial⟩
  simp only [rcs, List.mem_flatMap, Rc.cells] at hd
  obtain ⟨r, _, hr⟩ := hd
  simp at hr
  rcases hr with rfl | rfl | rfl | rfl <;> rfl
theorem boxes_same {s t : Scr} (h : t = { s with ims := t.ims }) (hl : t.ims.length = s.ims.length) (hi : ∀ i : Nat, (t.ims[i]?).map (fun m => (m.w, m.h)) = (s.ims[i]?).map (fun m => (m.w, m.h))) : boxesS t = boxesS s := by
  obtain ⟨b, c, tw, th, od, ms, os⟩ := s
  obtain ⟨b', c', tw', th', od', ms', os'⟩ := t
  simp only [Scr.mk.injEq] at h hl hi
  obtain ⟨rfl, rfl, rfl, rfl, rfl, _, rfl⟩ := h
  have hp : ∀ i x y, placedS ⟨b', c', tw', th', od', ms', os'⟩ i x y = placedS ⟨b', c', tw', th', od', ms, os'⟩ i x y := fun i x y => by
    unfold placedS
    split
    · have := hi i.toNat
      simp only
      cases e1 : ms'[i.toNat]? with
      | none =>
        cases e2 : ms[i.toNat]? with
        | none => rfl
        | some m => rw [e1, e2] at this; cases this
      | some m' =>
        cases e2 : ms[i.toNat]? with
        | none => rw [e1, e2] at this; cases this
        | some m =>
          rw [e1, e2] at this
          simp only [Option.map_some, Option.some.injEq, Prod.mk.injEq] at this
          simp only [this.1, this.2]
    · rfl
  have hm : ∀ o, maskR ⟨b', c', tw', th', od', ms', os'⟩ o = maskR ⟨b', c', tw', th', od', ms, os'⟩ o := fun o => by unfold maskR; simp only [hp]
  have hg : ∀ o, imgR ⟨b', c', tw', th', od', ms', os'⟩ o = imgR ⟨b', c', tw', th', od', ms, os'⟩ o := fun o => by unfold imgR; simp only [hp]
  have hb : ∀ o r, boxF ⟨b', c', tw', th', od', ms', os'⟩ o r = boxF ⟨b', c', tw', th', od', ms, os'⟩ o r := fun o r => by unfold boxF; simp only [hm]
  have hr : ∀ k, runB ⟨b', c', tw', th', od', ms', os'⟩ k = runB ⟨b', c', tw', th', od', ms, os'⟩ k := fun k => by
    induction k with
    | zero => rfl
    | succ k ih =>
      simp only [runB, ih]
      unfold stepB stepA
      simp only [hb, hg]
  have he : Scr.run ⟨b', c', tw', th', od', ms', os'⟩ = Scr.run ⟨b', c', tw', th', od', ms, os'⟩ := by
    unfold Scr.run
    simp only [hl]
  unfold boxesS
  simp only [he, hr]
def gamBf : Gam where
 pure := fun f xs =>
  if f = 33 then (match xs with | [.agg [.int _ bits, .int _ cx0, .int _ cy0, .int _ cx1, .int _ cy1, .int _ tw, .int _ th, .sl on oxs, .sl mn mxs, .sl pn pxs]] => some (RV.tup [RV.d (DV.int .i64 ((opsE bits ⟨cx0, cy0, cx1, cy1⟩ tw th (ints oxs) mn (toOps pxs)).1)), RV.d (DV.int .i64 ((opsE bits ⟨cx0, cy0, cx1, cy1⟩ tw th (ints oxs) mn (toOps pxs)).2))]) | _ => none) else
  if f = 11 then (match xs with | [.agg [.int _ bits, .int _ cx0, .int _ cy0, .int _ cx1, .int _ cy1, .int _ tw, .int _ th, .sl on oxs, .sl mn mxs, .sl pn pxs], .agg [.int _ okind, .int _ oimage, .int _ ox, .int _ oy, .int _ omask, .int _ omx, .int _ omy, .int _ oopac, .int _ ooper, .int _ omode, .bool oiso, .bool okno]] => some (RV.agg [DV.int .i64 ((imgR (⟨bits, ⟨cx0, cy0, cx1, cy1⟩, tw, th, ints oxs, toIms mxs, toOps pxs⟩ : Scr) (⟨okind, oimage, ox, oy, omask, omx, omy, oopac, ooper, omode, oiso, okno⟩ : Oq)).a), DV.int .i64 ((imgR (⟨bits, ⟨cx0, cy0, cx1, cy1⟩, tw, th, ints oxs, toIms mxs, toOps pxs⟩ : Scr) (⟨okind, oimage, ox, oy, omask, omx, omy, oopac, ooper, omode, oiso, okno⟩ : Oq)).b), DV.int .i64 ((imgR (⟨bits, ⟨cx0, cy0, cx1, cy1⟩, tw, th, ints oxs, toIms mxs, toOps pxs⟩ : Scr) (⟨okind, oimage, ox, oy, omask, omx, omy, oopac, ooper, omode, oiso, okno⟩ : Oq)).c), DV.int .i64 ((imgR (⟨bits, ⟨cx0, cy0, cx1, cy1⟩, tw, th, ints oxs, toIms mxs, toOps pxs⟩ : Scr) (⟨okind, oimage, ox, oy, omask, omx, omy, oopac, ooper, omode, oiso, okno⟩ : Oq)).d)]) | _ => none) else
  if f = 34 then (match xs with | [.agg [.int _ bits, .int _ cx0, .int _ cy0, .int _ cx1, .int _ cy1, .int _ tw, .int _ th, .sl on oxs, .sl mn mxs, .sl pn pxs], .agg [.int _ okind, .int _ oimage, .int _ ox, .int _ oy, .int _ omask, .int _ omx, .int _ omy, .int _ oopac, .int _ ooper, .int _ omode, .bool oiso, .bool okno], .agg [.int _ ra, .int _ rb, .int _ rc_, .int _ rd]] => some (RV.agg [DV.int .i64 ((boxF (⟨bits, ⟨cx0, cy0, cx1, cy1⟩, tw, th, ints oxs, toIms mxs, toOps pxs⟩ : Scr) (⟨okind, oimage, ox, oy, omask, omx, omy, oopac, ooper, omode, oiso, okno⟩ : Oq) ⟨ra, rb, rc_, rd⟩).a), DV.int .i64 ((boxF (⟨bits, ⟨cx0, cy0, cx1, cy1⟩, tw, th, ints oxs, toIms mxs, toOps pxs⟩ : Scr) (⟨okind, oimage, ox, oy, omask, omx, omy, oopac, ooper, omode, oiso, okno⟩ : Oq) ⟨ra, rb, rc_, rd⟩).b), DV.int .i64 ((boxF (⟨bits, ⟨cx0, cy0, cx1, cy1⟩, tw, th, ints oxs, toIms mxs, toOps pxs⟩ : Scr) (⟨okind, oimage, ox, oy, omask, omx, omy, oopac, ooper, omode, oiso, okno⟩ : Oq) ⟨ra, rb, rc_, rd⟩).c), DV.int .i64 ((boxF (⟨bits, ⟨cx0, cy0, cx1, cy1⟩, tw, th, ints oxs, toIms mxs, toOps pxs⟩ : Scr) (⟨okind, oimage, ox, oy, omask, omx, omy, oopac, ooper, omode, oiso, okno⟩ : Oq) ⟨ra, rb, rc_, rd⟩).d)]) | _ => none) else
  if f = 35 then (match xs with | [.d (.sl n xs)] => some (RV.agg [DV.int .i64 ((hullL (toRcs xs)).a), DV.int .i64 ((hullL (toRcs xs)).b), DV.int .i64 ((hullL (toRcs xs)).c), DV.int .i64 ((hullL (toRcs xs)).d)]) | _ => none) else
  none
 modes := fun f =>
  none
 proc := fun f xs bs =>
  none
 iter := fun f cs =>
  none

def bounds_BoxesG_ann (s : Scr) : Ann := let zz0 := (6, AV.one (Cl.ref 24 (((s.ops.length : Nat) : Int).toNat))); let zz1 := (DV.sl s.ops.length (ops s.ops)); let zz2 := (28, AV.one (Cl.d zz1)); let zz3 := (29, AV.one (Cl.d (DV.int .i64 ((s.ops.length : Nat) : Int)))); let zz4 := fun (k : Nat) => (30, AV.one (Cl.d (DV.int .i64 ((k : Nat) : Int)))); let zz5 := (1, Bx.cells [Cl.d (DV.int .i64 s.bits), Cl.d (DV.int .i64 s.c.a), Cl.d (DV.int .i64 s.c.b), Cl.d (DV.int .i64 s.c.c), Cl.d (DV.int .i64 s.c.d), Cl.d (DV.int .i64 s.tw), Cl.d (DV.int .i64 s.th), Cl.d (DV.sl s.ord.length (is s.ord)), Cl.d (DV.sl s.ims.length (ims s.ims)), Cl.d zz1]); (Ann.seq Ann.leaf (Ann.seq Ann.leaf (Ann.seq Ann.leaf (Ann.seq Ann.leaf (Ann.seq Ann.leaf (Ann.seq (Ann.seq Ann.leaf (Ann.loop ⟨Nat, fun k => k ≤ s.ops.length, fun k => ⟨[(1, AV.one (Cl.ptr 1 0)), zz0, (7, AV.one (Cl.ref 9001 ((runB s k).2.1.length))), (8, AV.one (Cl.ref 9002 ((runB s k).2.2.length))), zz2, zz3, (zz4 k)], [zz5, (24, Bx.row 33 4 (rcs (runB s k).1)), (9001, Bx.row 3 1 (is (runB s k).2.1)), (9002, Bx.row 33 4 (rcs (runB s k).2.2))]⟩, fun k => s.ops.length - k⟩ fun k => (Ann.seq Ann.leaf (Ann.seq Ann.leaf (Ann.seq (Ann.seq Ann.leaf (Ann.cut ⟨Bst, fun y : Bst => ((s.ops[k]?).getD popO).kind ≠ 2 ∧ y = stepA s k ((s.ops[k]?).getD popO) (runB s k), fun y : Bst => ⟨[(1, AV.one (Cl.ptr 1 0)), zz0, (7, AV.one (Cl.ref 9001 y.2.1.length)), (8, AV.one (Cl.ref 9002 y.2.2.length)), (9, AV.one (Cl.d (DV.int .i64 ((k : Nat) : Int)))), zz2, zz3, (zz4 k)], [zz5, (24, Bx.row 33 4 (rcs y.1)), (9001, Bx.row 3 1 (is y.2.1)), (9002, Bx.row 33 4 (rcs y.2.2))]⟩, fun y : Bst => 0⟩ Ann.leaf fun y => Ann.leaf)) Ann.leaf))))) Ann.leaf))))))
theorem bounds_BoxesG_vc (s : Scr) : vcg Tryd.prog gamBf ⟨115, fun _ => false, List.range 0, false⟩ (bodyOf Tryd.f15) (bounds_BoxesG_ann s) kn0 (startG [AV.agg [Cl.d (DV.int .i64 s.bits), Cl.d (DV.int .i64 s.c.a), Cl.d (DV.int .i64 s.c.b), Cl.d (DV.int .i64 s.c.c), Cl.d (DV.int .i64 s.c.d), Cl.d (DV.int .i64 s.tw), Cl.d (DV.int .i64 s.th), Cl.d (DV.sl s.ord.length (is s.ord)), Cl.d (DV.sl s.ims.length (ims s.ims)), Cl.d (DV.sl s.ops.length (ops s.ops))]] []) (postG Tryd.prog ⟨115, fun _ => false, List.range 0, false⟩ Tryd.f15.results.toList ⟨AV.tup [AV.one (Cl.ref 0 ((boxesS s).1.length)), AV.one (Cl.d (DV.int .i64 ((boxesS s).2)))], [Bx.row 33 4 (rcs (boxesS s).1)], true⟩) =
  (let zz0 := [DV.int .i64 s.bits, DV.int .i64 s.c.a, DV.int .i64 s.c.b, DV.int .i64 s.c.c, DV.int .i64 s.c.d, DV.int .i64 s.tw, DV.int .i64 s.th, DV.sl s.ord.length (is s.ord), DV.sl s.ims.length (ims s.ims), DV.sl s.ops.length (ops s.ops)]; let zz1 := (((s.ops.length : Nat) : Int).toNat = ((s.ops.length : Nat) : Int).toNat); let zz2 := (DV.sl s.ops.length (ops s.ops) = DV.sl s.ops.length (ops s.ops)); let zz3 := (DV.int .i64 ((s.ops.length : Nat) : Int) = DV.int .i64 ((s.ops.length : Nat) : Int)); let zz4 := (zz0 = zz0); let zz5 := [DV.int .i64 0, DV.int .i64 0, DV.int .i64 0, DV.int .i64 0]; let zz6 := fun (k : Nat) => fun (k' : Nat) => (s.ops.length - k' < s.ops.length - k); let zz7 := fun (k : Nat) => fun (k' : Nat) => (DV.int .i64 (IntKind.wrap .i64 (((k : Nat) : Int) + (1 : Int))) = DV.int .i64 ((k' : Nat) : Int)); let zz8 := fun (k : Nat) => [DV.int .i64 (nAt (ops s.ops) (((k : Nat) : Int).toNat * 12)), DV.int .i64 (nAt (ops s.ops) (((k : Nat) : Int).toNat * 12 + 1)), DV.int .i64 (nAt (ops s.ops) (((k : Nat) : Int).toNat * 12 + 1 + 1)), DV.int .i64 (nAt (ops s.ops) (((k : Nat) : Int).toNat * 12 + 1 + 1 + 1)), DV.int .i64 (nAt (ops s.ops) (((k : Nat) : Int).toNat * 12 + 1 + 1 + 1 + 1)), DV.int .i64 (nAt (ops s.ops) (((k : Nat) : Int).toNat * 12 + 1 + 1 + 1 + 1 + 1)), DV.int .i64 (nAt (ops s.ops) (((k : Nat) : Int).toNat * 12 + 1 + 1 + 1 + 1 + 1 + 1)), DV.int .u16 (nAt (ops s.ops) (((k : Nat) : Int).toNat * 12 + 1 + 1 + 1 + 1 + 1 + 1 + 1)), DV.int .i64 (nAt (ops s.ops) (((k : Nat) : Int).toNat * 12 + 1 + 1 + 1 + 1 + 1 + 1 + 1 + 1)), DV.int .i64 (nAt (ops s.ops) (((k : Nat) : Int).toNat * 12 + 1 + 1 + 1 + 1 + 1 + 1 + 1 + 1 + 1)), DV.bool (bAt (ops s.ops) (((k : Nat) : Int).toNat * 12 + 1 + 1 + 1 + 1 + 1 + 1 + 1 + 1 + 1 + 1)), DV.bool (bAt (ops s.ops) (((k : Nat) : Int).toNat * 12 + 1 + 1 + 1 + 1 + 1 + 1 + 1 + 1 + 1 + 1 + 1))]; let zz9 := fun (k : Nat) => [DV.int .i64 ((imgR (⟨s.bits, s.c, s.tw, s.th, ints (is s.ord), toIms (ims s.ims), toOps (ops s.ops)⟩ : Scr) (⟨(nAt (ops s.ops) (((k : Nat) : Int).toNat * 12)), (nAt (ops s.ops) (((k : Nat) : Int).toNat * 12 + 1)), (nAt (ops s.ops) (((k : Nat) : Int).toNat * 12 + 1 + 1)), (nAt (ops s.ops) (((k : Nat) : Int).toNat * 12 + 1 + 1 + 1)), (nAt (ops s.ops) (((k : Nat) : Int).toNat * 12 + 1 + 1 + 1 + 1)), (nAt (ops s.ops) (((k : Nat) : Int).toNat * 12 + 1 + 1 + 1 + 1 + 1)), (nAt (ops s.ops) (((k : Nat) : Int).toNat * 12 + 1 + 1 + 1 + 1 + 1 + 1)), (nAt (ops s.ops) (((k : Nat) : Int).toNat * 12 + 1 + 1 + 1 + 1 + 1 + 1 + 1)), (nAt (ops s.ops) (((k : Nat) : Int).toNat * 12 + 1 + 1 + 1 + 1 + 1 + 1 + 1 + 1)), (nAt (ops s.ops) (((k : Nat) : Int).toNat * 12 + 1 + 1 + 1 + 1 + 1 + 1 + 1 + 1 + 1)), (bAt (ops s.ops) (((k : Nat) : Int).toNat * 12 + 1 + 1 + 1 + 1 + 1 + 1 + 1 + 1 + 1 + 1)), (bAt (ops s.ops) (((k : Nat) : Int).toNat * 12 + 1 + 1 + 1 + 1 + 1 + 1 + 1 + 1 + 1 + 1 + 1))⟩ : Oq)).a), DV.int .i64 ((imgR (⟨s.bits, s.c, s.tw, s.th, ints (is s.ord), toIms (ims s.ims), toOps (ops s.ops)⟩ : Scr) (⟨(nAt (ops s.ops) (((k : Nat) : Int).toNat * 12)), (nAt (ops s.ops) (((k : Nat) : Int).toNat * 12 + 1)), (nAt (ops s.ops) (((k : Nat) : Int).toNat * 12 + 1 + 1)), (nAt (ops s.ops) (((k : Nat) : Int).toNat * 12 + 1 + 1 + 1)), (nAt (ops s.ops) (((k : Nat) : Int).toNat * 12 + 1 + 1 + 1 + 1)), (nAt (ops s.ops) (((k : Nat) : Int).toNat * 12 + 1 + 1 + 1 + 1 + 1)), (nAt (ops s.ops) (((k : Nat) : Int).toNat * 12 + 1 + 1 + 1 + 1 + 1 + 1)), (nAt (ops s.ops) (((k : Nat) : Int).toNat * 12 + 1 + 1 + 1 + 1 + 1 + 1 + 1)), (nAt (ops s.ops) (((k : Nat) : Int).toNat * 12 + 1 + 1 + 1 + 1 + 1 + 1 + 1 + 1)), (nAt (ops s.ops) (((k : Nat) : Int).toNat * 12 + 1 + 1 + 1 + 1 + 1 + 1 + 1 + 1 + 1)), (bAt (ops s.ops) (((k : Nat) : Int).toNat * 12 + 1 + 1 + 1 + 1 + 1 + 1 + 1 + 1 + 1 + 1)), (bAt (ops s.ops) (((k : Nat) : Int).toNat * 12 + 1 + 1 + 1 + 1 + 1 + 1 + 1 + 1 + 1 + 1 + 1))⟩ : Oq)).b), DV.int .i64 ((imgR (⟨s.bits, s.c, s.tw, s.th, ints (is s.ord), toIms (ims s.ims), toOps (ops s.ops)⟩ : Scr) (⟨(nAt (ops s.ops) (((k : Nat) : Int).toNat * 12)), (nAt (ops s.ops) (((k : Nat) : Int).toNat * 12 + 1)), (nAt (ops s.ops) (((k : Nat) : Int).toNat * 12 + 1 + 1)), (nAt (ops s.ops) (((k : Nat) : Int).toNat * 12 + 1 + 1 + 1)), (nAt (ops s.ops) (((k : Nat) : Int).toNat * 12 + 1 + 1 + 1 + 1)), (nAt (ops s.ops) (((k : Nat) : Int).toNat * 12 + 1 + 1 + 1 + 1 + 1)), (nAt (ops s.ops) (((k : Nat) : Int).toNat * 12 + 1 + 1 + 1 + 1 + 1 + 1)), (nAt (ops s.ops) (((k : Nat) : Int).toNat * 12 + 1 + 1 + 1 + 1 + 1 + 1 + 1)), (nAt (ops s.ops) (((k : Nat) : Int).toNat * 12 + 1 + 1 + 1 + 1 + 1 + 1 + 1 + 1)), (nAt (ops s.ops) (((k : Nat) : Int).toNat * 12 + 1 + 1 + 1 + 1 + 1 + 1 + 1 + 1 + 1)), (bAt (ops s.ops) (((k : Nat) : Int).toNat * 12 + 1 + 1 + 1 + 1 + 1 + 1 + 1 + 1 + 1 + 1)), (bAt (ops s.ops) (((k : Nat) : Int).toNat * 12 + 1 + 1 + 1 + 1 + 1 + 1 + 1 + 1 + 1 + 1 + 1))⟩ : Oq)).c), DV.int .i64 ((imgR (⟨s.bits, s.c, s.tw, s.th, ints (is s.ord), toIms (ims s.ims), toOps (ops s.ops)⟩ : Scr) (⟨(nAt (ops s.ops) (((k : Nat) : Int).toNat * 12)), (nAt (ops s.ops) (((k : Nat) : Int).toNat * 12 + 1)), (nAt (ops s.ops) (((k : Nat) : Int).toNat * 12 + 1 + 1)), (nAt (ops s.ops) (((k : Nat) : Int).toNat * 12 + 1 + 1 + 1)), (nAt (ops s.ops) (((k : Nat) : Int).toNat * 12 + 1 + 1 + 1 + 1)), (nAt (ops s.ops) (((k : Nat) : Int).toNat * 12 + 1 + 1 + 1 + 1 + 1)), (nAt (ops s.ops) (((k : Nat) : Int).toNat * 12 + 1 + 1 + 1 + 1 + 1 + 1)), (nAt (ops s.ops) (((k : Nat) : Int).toNat * 12 + 1 + 1 + 1 + 1 + 1 + 1 + 1)), (nAt (ops s.ops) (((k : Nat) : Int).toNat * 12 + 1 + 1 + 1 + 1 + 1 + 1 + 1 + 1)), (nAt (ops s.ops) (((k : Nat) : Int).toNat * 12 + 1 + 1 + 1 + 1 + 1 + 1 + 1 + 1 + 1)), (bAt (ops s.ops) (((k : Nat) : Int).toNat * 12 + 1 + 1 + 1 + 1 + 1 + 1 + 1 + 1 + 1 + 1)), (bAt (ops s.ops) (((k : Nat) : Int).toNat * 12 + 1 + 1 + 1 + 1 + 1 + 1 + 1 + 1 + 1 + 1 + 1))⟩ : Oq)).d)]; let zz10 := fun (k : Nat) => [DV.int .i64 ((boxF (⟨s.bits, s.c, s.tw, s.th, ints (is s.ord), toIms (ims s.ims), toOps (ops s.ops)⟩ : Scr) (⟨(nAt (ops s.ops) (((k : Nat) : Int).toNat * 12)), (nAt (ops s.ops) (((k : Nat) : Int).toNat * 12 + 1)), (nAt (ops s.ops) (((k : Nat) : Int).toNat * 12 + 1 + 1)), (nAt (ops s.ops) (((k : Nat) : Int).toNat * 12 + 1 + 1 + 1)), (nAt (ops s.ops) (((k : Nat) : Int).toNat * 12 + 1 + 1 + 1 + 1)), (nAt (ops s.ops) (((k : Nat) : Int).toNat * 12 + 1 + 1 + 1 + 1 + 1)), (nAt (ops s.ops) (((k : Nat) : Int).toNat * 12 + 1 + 1 + 1 + 1 + 1 + 1)), (nAt (ops s.ops) (((k : Nat) : Int).toNat * 12 + 1 + 1 + 1 + 1 + 1 + 1 + 1)), (nAt (ops s.ops) (((k : Nat) : Int).toNat * 12 + 1 + 1 + 1 + 1 + 1 + 1 + 1 + 1)), (nAt (ops s.ops) (((k : Nat) : Int).toNat * 12 + 1 + 1 + 1 + 1 + 1 + 1 + 1 + 1 + 1)), (bAt (ops s.ops) (((k : Nat) : Int).toNat * 12 + 1 + 1 + 1 + 1 + 1 + 1 + 1 + 1 + 1 + 1)), (bAt (ops s.ops) (((k : Nat) : Int).toNat * 12 + 1 + 1 + 1 + 1 + 1 + 1 + 1 + 1 + 1 + 1 + 1))⟩ : Oq) (imgR (⟨s.bits, s.c, s.tw, s.th, ints (is s.ord), toIms (ims s.ims), toOps (ops s.ops)⟩ : Scr) (⟨(nAt (ops s.ops) (((k : Nat) : Int).toNat * 12)), (nAt (ops s.ops) (((k : Nat) : Int).toNat * 12 + 1)), (nAt (ops s.ops) (((k : Nat) : Int).toNat * 12 + 1 + 1)), (nAt (ops s.ops) (((k : Nat) : Int).toNat * 12 + 1 + 1 + 1)), (nAt (ops s.ops) (((k : Nat) : Int).toNat * 12 + 1 + 1 + 1 + 1)), (nAt (ops s.ops) (((k : Nat) : Int).toNat * 12 + 1 + 1 + 1 + 1 + 1)), (nAt (ops s.ops) (((k : Nat) : Int).toNat * 12 + 1 + 1 + 1 + 1 + 1 + 1)), (nAt (ops s.ops) (((k : Nat) : Int).toNat * 12 + 1 + 1 + 1 + 1 + 1 + 1 + 1)), (nAt (ops s.ops) (((k : Nat) : Int).toNat * 12 + 1 + 1 + 1 + 1 + 1 + 1 + 1 + 1)), (nAt (ops s.ops) (((k : Nat) : Int).toNat * 12 + 1 + 1 + 1 + 1 + 1 + 1 + 1 + 1 + 1)), (bAt (ops s.ops) (((k : Nat) : Int).toNat * 12 + 1 + 1 + 1 + 1 + 1 + 1 + 1 + 1 + 1 + 1)), (bAt (ops s.ops) (((k : Nat) : Int).toNat * 12 + 1 + 1 + 1 + 1 + 1 + 1 + 1 + 1 + 1 + 1 + 1))⟩ : Oq))).a), DV.int .i64 ((boxF (⟨s.bits, s.c, s.tw, s.th, ints (is s.ord), toIms (ims s.ims), toOps (ops s.ops)⟩ : Scr) (⟨(nAt (ops s.ops) (((k : Nat) : Int).toNat * 12)), (nAt (ops s.ops) (((k : Nat) : Int).toNat * 12 + 1)), (nAt (ops s.ops) (((k : Nat) : Int).toNat * 12 + 1 + 1)), (nAt (ops s.ops) (((k : Nat) : Int).toNat * 12 + 1 + 1 + 1)), (nAt (ops s.ops) (((k : Nat) : Int).toNat * 12 + 1 + 1 + 1 + 1)), (nAt (ops s.ops) (((k : Nat) : Int).toNat * 12 + 1 + 1 + 1 + 1 + 1)), (nAt (ops s.ops) (((k : Nat) : Int).toNat * 12 + 1 + 1 + 1 + 1 + 1 + 1)), (nAt (ops s.ops) (((k : Nat) : Int).toNat * 12 + 1 + 1 + 1 + 1 + 1 + 1 + 1)), (nAt (ops s.ops) (((k : Nat) : Int).toNat * 12 + 1 + 1 + 1 + 1 + 1 + 1 + 1 + 1)), (nAt (ops s.ops) (((k : Nat) : Int).toNat * 12 + 1 + 1 + 1 + 1 + 1 + 1 + 1 + 1 + 1)), (bAt (ops s.ops) (((k : Nat) : Int).toNat * 12 + 1 + 1 + 1 + 1 + 1 + 1 + 1 + 1 + 1 + 1)), (bAt (ops s.ops) (((k : Nat) : Int).toNat * 12 + 1 + 1 + 1 + 1 + 1 + 1 + 1 + 1 + 1 + 1 + 1))⟩ : Oq) (imgR (⟨s.bits, s.c, s.tw, s.th, ints (is s.ord), toIms (ims s.ims), toOps (ops s.ops)⟩ : Scr) (⟨(nAt (ops s.ops) (((k : Nat) : Int).toNat * 12)), (nAt (ops s.ops) (((k : Nat) : Int).toNat * 12 + 1)), (nAt (ops s.ops) (((k : Nat) : Int).toNat * 12 + 1 + 1)), (nAt (ops s.ops) (((k : Nat) : Int).toNat * 12 + 1 + 1 + 1)), (nAt (ops s.ops) (((k : Nat) : Int).toNat * 12 + 1 + 1 + 1 + 1)), (nAt (ops s.ops) (((k : Nat) : Int).toNat * 12 + 1 + 1 + 1 + 1 + 1)), (nAt (ops s.ops) (((k : Nat) : Int).toNat * 12 + 1 + 1 + 1 + 1 + 1 + 1)), (nAt (ops s.ops) (((k : Nat) : Int).toNat * 12 + 1 + 1 + 1 + 1 + 1 + 1 + 1)), (nAt (ops s.ops) (((k : Nat) : Int).toNat * 12 + 1 + 1 + 1 + 1 + 1 + 1 + 1 + 1)), (nAt (ops s.ops) (((k : Nat) : Int).toNat * 12 + 1 + 1 + 1 + 1 + 1 + 1 + 1 + 1 + 1)), (bAt (ops s.ops) (((k : Nat) : Int).toNat * 12 + 1 + 1 + 1 + 1 + 1 + 1 + 1 + 1 + 1 + 1)), (bAt (ops s.ops) (((k : Nat) : Int).toNat * 12 + 1 + 1 + 1 + 1 + 1 + 1 + 1 + 1 + 1 + 1 + 1))⟩ : Oq))).b), DV.int .i64 ((boxF (⟨s.bits, s.c, s.tw, s.th, ints (is s.ord), toIms (ims s.ims), toOps (ops s.ops)⟩ : Scr) (⟨(nAt (ops s.ops) (((k : Nat) : Int).toNat * 12)), (nAt (ops s.ops) (((k : Nat) : Int).toNat * 12 + 1)), (nAt (ops s.ops) (((k : Nat) : Int).toNat * 12 + 1 + 1)), (nAt (ops s.ops) (((k : Nat) : Int).toNat * 12 + 1 + 1 + 1)), (nAt (ops s.ops) (((k : Nat) : Int).toNat * 12 + 1 + 1 + 1 + 1)), (nAt (ops s.ops) (((k : Nat) : Int).toNat * 12 + 1 + 1 + 1 + 1 + 1)), (nAt (ops s.ops) (((k : Nat) : Int).toNat * 12 + 1 + 1 + 1 + 1 + 1 + 1)), (nAt (ops s.ops) (((k : Nat) : Int).toNat * 12 + 1 + 1 + 1 + 1 + 1 + 1 + 1)), (nAt (ops s.ops) (((k : Nat) : Int).toNat * 12 + 1 + 1 + 1 + 1 + 1 + 1 + 1 + 1)), (nAt (ops s.ops) (((k : Nat) : Int).toNat * 12 + 1 + 1 + 1 + 1 + 1 + 1 + 1 + 1 + 1)), (bAt (ops s.ops) (((k : Nat) : Int).toNat * 12 + 1 + 1 + 1 + 1 + 1 + 1 + 1 + 1 + 1 + 1)), (bAt (ops s.ops) (((k : Nat) : Int).toNat * 12 + 1 + 1 + 1 + 1 + 1 + 1 + 1 + 1 + 1 + 1 + 1))⟩ : Oq) (imgR (⟨s.bits, s.c, s.tw, s.th, ints (is s.ord), toIms (ims s.ims), toOps (ops s.ops)⟩ : Scr) (⟨(nAt (ops s.ops) (((k : Nat) : Int).toNat * 12)), (nAt (ops s.ops) (((k : Nat) : Int).toNat * 12 + 1)), (nAt (ops s.ops) (((k : Nat) : Int).toNat * 12 + 1 + 1)), (nAt (ops s.ops) (((k : Nat) : Int).toNat * 12 + 1 + 1 + 1)), (nAt (ops s.ops) (((k : Nat) : Int).toNat * 12 + 1 + 1 + 1 + 1)), (nAt (ops s.ops) (((k : Nat) : Int).toNat * 12 + 1 + 1 + 1 + 1 + 1)), (nAt (ops s.ops) (((k : Nat) : Int).toNat * 12 + 1 + 1 + 1 + 1 + 1 + 1)), (nAt (ops s.ops) (((k : Nat) : Int).toNat * 12 + 1 + 1 + 1 + 1 + 1 + 1 + 1)), (nAt (ops s.ops) (((k : Nat) : Int).toNat * 12 + 1 + 1 + 1 + 1 + 1 + 1 + 1 + 1)), (nAt (ops s.ops) (((k : Nat) : Int).toNat * 12 + 1 + 1 + 1 + 1 + 1 + 1 + 1 + 1 + 1)), (bAt (ops s.ops) (((k : Nat) : Int).toNat * 12 + 1 + 1 + 1 + 1 + 1 + 1 + 1 + 1 + 1 + 1)), (bAt (ops s.ops) (((k : Nat) : Int).toNat * 12 + 1 + 1 + 1 + 1 + 1 + 1 + 1 + 1 + 1 + 1 + 1))⟩ : Oq))).c), DV.int .i64 ((boxF (⟨s.bits, s.c, s.tw, s.th, ints (is s.ord), toIms (ims s.ims), toOps (ops s.ops)⟩ : Scr) (⟨(nAt (ops s.ops) (((k : Nat) : Int).toNat * 12)), (nAt (ops s.ops) (((k : Nat) : Int).toNat * 12 + 1)), (nAt (ops s.ops) (((k : Nat) : Int).toNat * 12 + 1 + 1)), (nAt (ops s.ops) (((k : Nat) : Int).toNat * 12 + 1 + 1 + 1)), (nAt (ops s.ops) (((k : Nat) : Int).toNat * 12 + 1 + 1 + 1 + 1)), (nAt (ops s.ops) (((k : Nat) : Int).toNat * 12 + 1 + 1 + 1 + 1 + 1)), (nAt (ops s.ops) (((k : Nat) : Int).toNat * 12 + 1 + 1 + 1 + 1 + 1 + 1)), (nAt (ops s.ops) (((k : Nat) : Int).toNat * 12 + 1 + 1 + 1 + 1 + 1 + 1 + 1)), (nAt (ops s.ops) (((k : Nat) : Int).toNat * 12 + 1 + 1 + 1 + 1 + 1 + 1 + 1 + 1)), (nAt (ops s.ops) (((k : Nat) : Int).toNat * 12 + 1 + 1 + 1 + 1 + 1 + 1 + 1 + 1 + 1)), (bAt (ops s.ops) (((k : Nat) : Int).toNat * 12 + 1 + 1 + 1 + 1 + 1 + 1 + 1 + 1 + 1 + 1)), (bAt (ops s.ops) (((k : Nat) : Int).toNat * 12 + 1 + 1 + 1 + 1 + 1 + 1 + 1 + 1 + 1 + 1 + 1))⟩ : Oq) (imgR (⟨s.bits, s.c, s.tw, s.th, ints (is s.ord), toIms (ims s.ims), toOps (ops s.ops)⟩ : Scr) (⟨(nAt (ops s.ops) (((k : Nat) : Int).toNat * 12)), (nAt (ops s.ops) (((k : Nat) : Int).toNat * 12 + 1)), (nAt (ops s.ops) (((k : Nat) : Int).toNat * 12 + 1 + 1)), (nAt (ops s.ops) (((k : Nat) : Int).toNat * 12 + 1 + 1 + 1)), (nAt (ops s.ops) (((k : Nat) : Int).toNat * 12 + 1 + 1 + 1 + 1)), (nAt (ops s.ops) (((k : Nat) : Int).toNat * 12 + 1 + 1 + 1 + 1 + 1)), (nAt (ops s.ops) (((k : Nat) : Int).toNat * 12 + 1 + 1 + 1 + 1 + 1 + 1)), (nAt (ops s.ops) (((k : Nat) : Int).toNat * 12 + 1 + 1 + 1 + 1 + 1 + 1 + 1)), (nAt (ops s.ops) (((k : Nat) : Int).toNat * 12 + 1 + 1 + 1 + 1 + 1 + 1 + 1 + 1)), (nAt (ops s.ops) (((k : Nat) : Int).toNat * 12 + 1 + 1 + 1 + 1 + 1 + 1 + 1 + 1 + 1)), (bAt (ops s.ops) (((k : Nat) : Int).toNat * 12 + 1 + 1 + 1 + 1 + 1 + 1 + 1 + 1 + 1 + 1)), (bAt (ops s.ops) (((k : Nat) : Int).toNat * 12 + 1 + 1 + 1 + 1 + 1 + 1 + 1 + 1 + 1 + 1 + 1))⟩ : Oq))).d)]; let zz11 := fun (k : Nat) => (0 ≤ ((k : Nat) : Int) ∧ ((k : Nat) : Int) < ((((s.ops.length : Nat) : Int).toNat : Nat) : Int)); let zz12 := fun (k : Nat) => (((k : Nat) : Int).toNat * 4 + 4 ≤ (rcs (runB s k).1).length); let zz13 := fun (k : Nat) => fun (y : Bst) => (((s.ops[k]?).getD popO).kind ≠ 2 ∧ y = stepA s k ((s.ops[k]?).getD popO) (runB s k)); let zz14 := fun (k : Nat) => (DV.int .i64 ((k : Nat) : Int) = DV.int .i64 ((k : Nat) : Int)); let zz15 := fun (k : Nat) => ((runB s k).2.1.length ≤ maxLen); let zz16 := fun (k : Nat) => ((runB s k).2.2.length ≤ maxLen); let zz17 := fun (k : Nat) => [DV.int .i64 ((boxF (⟨s.bits, s.c, s.tw, s.th, ints (is s.ord), toIms (ims s.ims), toOps (ops s.ops)⟩ : Scr) (⟨(nAt (ops s.ops) ((nAt (is (runB s k).2.1) ((IntKind.wrap .i64 ((((runB s k).2.1.length : Nat) : Int) - (1 : Int))).toNat * 1)).toNat * 12)), (nAt (ops s.ops) ((nAt (is (runB s k).2.1) ((IntKind.wrap .i64 ((((runB s k).2.1.length : Nat) : Int) - (1 : Int))).toNat * 1)).toNat * 12 + 1)), (nAt (ops s.ops) ((nAt (is (runB s k).2.1) ((IntKind.wrap .i64 ((((runB s k).2.1.length : Nat) : Int) - (1 : Int))).toNat * 1)).toNat * 12 + 1 + 1)), (nAt (ops s.ops) ((nAt (is (runB s k).2.1) ((IntKind.wrap .i64 ((((runB s k).2.1.length : Nat) : Int) - (1 : Int))).toNat * 1)).toNat * 12 + 1 + 1 + 1)), (nAt (ops s.ops) ((nAt (is (runB s k).2.1) ((IntKind.wrap .i64 ((((runB s k).2.1.length : Nat) : Int) - (1 : Int))).toNat * 1)).toNat * 12 + 1 + 1 + 1 + 1)), (nAt (ops s.ops) ((nAt (is (runB s k).2.1) ((IntKind.wrap .i64 ((((runB s k).2.1.length : Nat) : Int) - (1 : Int))).toNat * 1)).toNat * 12 + 1 + 1 + 1 + 1 + 1)), (nAt (ops s.ops) ((nAt (is (runB s k).2.1) ((IntKind.wrap .i64 ((((runB s k).2.1.length : Nat) : Int) - (1 : Int))).toNat * 1)).toNat * 12 + 1 + 1 + 1 + 1 + 1 + 1)), (nAt (ops s.ops) ((nAt (is (runB s k).2.1) ((IntKind.wrap .i64 ((((runB s k).2.1.length : Nat) : Int) - (1 : Int))).toNat * 1)).toNat * 12 + 1 + 1 + 1 + 1 + 1 + 1 + 1)), (nAt (ops s.ops) ((nAt (is (runB s k).2.1) ((IntKind.wrap .i64 ((((runB s k).2.1.length : Nat) : Int) - (1 : Int))).toNat * 1)).toNat * 12 + 1 + 1 + 1 + 1 + 1 + 1 + 1 + 1)), (nAt (ops s.ops) ((nAt (is (runB s k).2.1) ((IntKind.wrap .i64 ((((runB s k).2.1.length : Nat) : Int) - (1 : Int))).toNat * 1)).toNat * 12 + 1 + 1 + 1 + 1 + 1 + 1 + 1 + 1 + 1)), (bAt (ops s.ops) ((nAt (is (runB s k).2.1) ((IntKind.wrap .i64 ((((runB s k).2.1.length : Nat) : Int) - (1 : Int))).toNat * 1)).toNat * 12 + 1 + 1 + 1 + 1 + 1 + 1 + 1 + 1 + 1 + 1)), (bAt (ops s.ops) ((nAt (is (runB s k).2.1) ((IntKind.wrap .i64 ((((runB s k).2.1.length : Nat) : Int) - (1 : Int))).toNat * 1)).toNat * 12 + 1 + 1 + 1 + 1 + 1 + 1 + 1 + 1 + 1 + 1 + 1))⟩ : Oq) ⟨(nAt (rcs (runB s k).2.2) ((IntKind.wrap .i64 ((((runB s k).2.2.length : Nat) : Int) - (1 : Int))).toNat * 4)), (nAt (rcs (runB s k).2.2) ((IntKind.wrap .i64 ((((runB s k).2.2.length : Nat) : Int) - (1 : Int))).toNat * 4 + 1)), (nAt (rcs (runB s k).2.2) ((IntKind.wrap .i64 ((((runB s k).2.2.length : Nat) : Int) - (1 : Int))).toNat * 4 + 1 + 1)), (nAt (rcs (runB s k).2.2) ((IntKind.wrap .i64 ((((runB s k).2.2.length : Nat) : Int) - (1 : Int))).toNat * 4 + 1 + 1 + 1))⟩).a), DV.int .i64 ((boxF (⟨s.bits, s.c, s.tw, s.th, ints (is s.ord), toIms (ims s.ims), toOps (ops s.ops)⟩ : Scr) (⟨(nAt (ops s.ops) ((nAt (is (runB s k).2.1) ((IntKind.wrap .i64 ((((runB s k).2.1.length : Nat) : Int) - (1 : Int))).toNat * 1)).toNat * 12)), (nAt (ops s.ops) ((nAt (is (runB s k).2.1) ((IntKind.wrap .i64 ((((runB s k).2.1.length : Nat) : Int) - (1 : Int))).toNat * 1)).toNat * 12 + 1)), (nAt (ops s.ops) ((nAt (is (runB s k).2.1) ((IntKind.wrap .i64 ((((runB s k).2.1.length : Nat) : Int) - (1 : Int))).toNat * 1)).toNat * 12 + 1 + 1)), (nAt (ops s.ops) ((nAt (is (runB s k).2.1) ((IntKind.wrap .i64 ((((runB s k).2.1.length : Nat) : Int) - (1 : Int))).toNat * 1)).toNat * 12 + 1 + 1 + 1)), (nAt (ops s.ops) ((nAt (is (runB s k).2.1) ((IntKind.wrap .i64 ((((runB s k).2.1.length : Nat) : Int) - (1 : Int))).toNat * 1)).toNat * 12 + 1 + 1 + 1 + 1)), (nAt (ops s.ops) ((nAt (is (runB s k).2.1) ((IntKind.wrap .i64 ((((runB s k).2.1.length : Nat) : Int) - (1 : Int))).toNat * 1)).toNat * 12 + 1 + 1 + 1 + 1 + 1)), (nAt (ops s.ops) ((nAt (is (runB s k).2.1) ((IntKind.wrap .i64 ((((runB s k).2.1.length : Nat) : Int) - (1 : Int))).toNat * 1)).toNat * 12 + 1 + 1 + 1 + 1 + 1 + 1)), (nAt (ops s.ops) ((nAt (is (runB s k).2.1) ((IntKind.wrap .i64 ((((runB s k).2.1.length : Nat) : Int) - (1 : Int))).toNat * 1)).toNat * 12 + 1 + 1 + 1 + 1 + 1 + 1 + 1)), (nAt (ops s.ops) ((nAt (is (runB s k).2.1) ((IntKind.wrap .i64 ((((runB s k).2.1.length : Nat) : Int) - (1 : Int))).toNat * 1)).toNat * 12 + 1 + 1 + 1 + 1 + 1 + 1 + 1 + 1)), (nAt (ops s.ops) ((nAt (is (runB s k).2.1) ((IntKind.wrap .i64 ((((runB s k).2.1.length : Nat) : Int) - (1 : Int))).toNat * 1)).toNat * 12 + 1 + 1 + 1 + 1 + 1 + 1 + 1 + 1 + 1)), (bAt (ops s.ops) ((nAt (is (runB s k).2.1) ((IntKind.wrap .i64 ((((runB s k).2.1.length : Nat) : Int) - (1 : Int))).toNat * 1)).toNat * 12 + 1 + 1 + 1 + 1 + 1 + 1 + 1 + 1 + 1 + 1)), (bAt (ops s.ops) ((nAt (is (runB s k).2.1) ((IntKind.wrap .i64 ((((runB s k).2.1.length : Nat) : Int) - (1 : Int))).toNat * 1)).toNat * 12 + 1 + 1 + 1 + 1 + 1 + 1 + 1 + 1 + 1 + 1 + 1))⟩ : Oq) ⟨(nAt (rcs (runB s k).2.2) ((IntKind.wrap .i64 ((((runB s k).2.2.length : Nat) : Int) - (1 : Int))).toNat * 4)), (nAt (rcs (runB s k).2.2) ((IntKind.wrap .i64 ((((runB s k).2.2.length : Nat) : Int) - (1 : Int))).toNat * 4 + 1)), (nAt (rcs (runB s k).2.2) ((IntKind.wrap .i64 ((((runB s k).2.2.length : Nat) : Int) - (1 : Int))).toNat * 4 + 1 + 1)), (nAt (rcs (runB s k).2.2) ((IntKind.wrap .i64 ((((runB s k).2.2.length : Nat) : Int) - (1 : Int))).toNat * 4 + 1 + 1 + 1))⟩).b), DV.int .i64 ((boxF (⟨s.bits, s.c, s.tw, s.th, ints (is s.ord), toIms (ims s.ims), toOps (ops s.ops)⟩ : Scr) (⟨(nAt (ops s.ops) ((nAt (is (runB s k).2.1) ((IntKind.wrap .i64 ((((runB s k).2.1.length : Nat) : Int) - (1 : Int))).toNat * 1)).toNat * 12)), (nAt (ops s.ops) ((nAt (is (runB s k).2.1) ((IntKind.wrap .i64 ((((runB s k).2.1.length : Nat) : Int) - (1 : Int))).toNat * 1)).toNat * 12 + 1)), (nAt (ops s.ops) ((nAt (is (runB s k).2.1) ((IntKind.wrap .i64 ((((runB s k).2.1.length : Nat) : Int) - (1 : Int))).toNat * 1)).toNat * 12 + 1 + 1)), (nAt (ops s.ops) ((nAt (is (runB s k).2.1) ((IntKind.wrap .i64 ((((runB s k).2.1.length : Nat) : Int) - (1 : Int))).toNat * 1)).toNat * 12 + 1 + 1 + 1)), (nAt (ops s.ops) ((nAt (is (runB s k).2.1) ((IntKind.wrap .i64 ((((runB s k).2.1.length : Nat) : Int) - (1 : Int))).toNat * 1)).toNat * 12 + 1 + 1 + 1 + 1)), (nAt (ops s.ops) ((nAt (is (runB s k).2.1) ((IntKind.wrap .i64 ((((runB s k).2.1.length : Nat) : Int) - (1 : Int))).toNat * 1)).toNat * 12 + 1 + 1 + 1 + 1 + 1)), (nAt (ops s.ops) ((nAt (is (runB s k).2.1) ((IntKind.wrap .i64 ((((runB s k).2.1.length : Nat) : Int) - (1 : Int))).toNat * 1)).toNat * 12 + 1 + 1 + 1 + 1 + 1 + 1)), (nAt (ops s.ops) ((nAt (is (runB s k).2.1) ((IntKind.wrap .i64 ((((runB s k).2.1.length : Nat) : Int) - (1 : Int))).toNat * 1)).toNat * 12 + 1 + 1 + 1 + 1 + 1 + 1 + 1)), (nAt (ops s.ops) ((nAt (is (runB s k).2.1) ((IntKind.wrap .i64 ((((runB s k).2.1.length : Nat) : Int) - (1 : Int))).toNat * 1)).toNat * 12 + 1 + 1 + 1 + 1 + 1 + 1 + 1 + 1)), (nAt (ops s.ops) ((nAt (is (runB s k).2.1) ((IntKind.wrap .i64 ((((runB s k).2.1.length : Nat) : Int) - (1 : Int))).toNat * 1)).toNat * 12 + 1 + 1 + 1 + 1 + 1 + 1 + 1 + 1 + 1)), (bAt (ops s.ops) ((nAt (is (runB s k).2.1) ((IntKind.wrap .i64 ((((runB s k).2.1.length : Nat) : Int) - (1 : Int))).toNat * 1)).toNat * 12 + 1 + 1 + 1 + 1 + 1 + 1 + 1 + 1 + 1 + 1)), (bAt (ops s.ops) ((nAt (is (runB s k).2.1) ((IntKind.wrap .i64 ((((runB s k).2.1.length : Nat) : Int) - (1 : Int))).toNat * 1)).toNat * 12 + 1 + 1 + 1 + 1 + 1 + 1 + 1 + 1 + 1 + 1 + 1))⟩ : Oq) ⟨(nAt (rcs (runB s k).2.2) ((IntKind.wrap .i64 ((((runB s k).2.2.length : Nat) : Int) - (1 : Int))).toNat * 4)), (nAt (rcs (runB s k).2.2) ((IntKind.wrap .i64 ((((runB s k).2.2.length : Nat) : Int) - (1 : Int))).toNat * 4 + 1)), (nAt (rcs (runB s k).2.2) ((IntKind.wrap .i64 ((((runB s k).2.2.length : Nat) : Int) - (1 : Int))).toNat * 4 + 1 + 1)), (nAt (rcs (runB s k).2.2) ((IntKind.wrap .i64 ((((runB s k).2.2.length : Nat) : Int) - (1 : Int))).toNat * 4 + 1 + 1 + 1))⟩).c), DV.int .i64 ((boxF (⟨s.bits, s.c, s.tw, s.th, ints (is s.ord), toIms (ims s.ims), toOps (ops s.ops)⟩ : Scr) (⟨(nAt (ops s.ops) ((nAt (is (runB s k).2.1) ((IntKind.wrap .i64 ((((runB s k).2.1.length : Nat) : Int) - (1 : Int))).toNat * 1)).toNat * 12)), (nAt (ops s.ops) ((nAt (is (runB s k).2.1) ((IntKind.wrap .i64 ((((runB s k).2.1.length : Nat) : Int) - (1 : Int))).toNat * 1)).toNat * 12 + 1)), (nAt (ops s.ops) ((nAt (is (runB s k).2.1) ((IntKind.wrap .i64 ((((runB s k).2.1.length : Nat) : Int) - (1 : Int))).toNat * 1)).toNat * 12 + 1 + 1)), (nAt (ops s.ops) ((nAt (is (runB s k).2.1) ((IntKind.wrap .i64 ((((runB s k).2.1.length : Nat) : Int) - (1 : Int))).toNat * 1)).toNat * 12 + 1 + 1 + 1)), (nAt (ops s.ops) ((nAt (is (runB s k).2.1) ((IntKind.wrap .i64 ((((runB s k).2.1.length : Nat) : Int) - (1 : Int))).toNat * 1)).toNat * 12 + 1 + 1 + 1 + 1)), (nAt (ops s.ops) ((nAt (is (runB s k).2.1) ((IntKind.wrap .i64 ((((runB s k).2.1.length : Nat) : Int) - (1 : Int))).toNat * 1)).toNat * 12 + 1 + 1 + 1 + 1 + 1)), (nAt (ops s.ops) ((nAt (is (runB s k).2.1) ((IntKind.wrap .i64 ((((runB s k).2.1.length : Nat) : Int) - (1 : Int))).toNat * 1)).toNat * 12 + 1 + 1 + 1 + 1 + 1 + 1)), (nAt (ops s.ops) ((nAt (is (runB s k).2.1) ((IntKind.wrap .i64 ((((runB s k).2.1.length : Nat) : Int) - (1 : Int))).toNat * 1)).toNat * 12 + 1 + 1 + 1 + 1 + 1 + 1 + 1)), (nAt (ops s.ops) ((nAt (is (runB s k).2.1) ((IntKind.wrap .i64 ((((runB s k).2.1.length : Nat) : Int) - (1 : Int))).toNat * 1)).toNat * 12 + 1 + 1 + 1 + 1 + 1 + 1 + 1 + 1)), (nAt (ops s.ops) ((nAt (is (runB s k).2.1) ((IntKind.wrap .i64 ((((runB s k).2.1.length : Nat) : Int) - (1 : Int))).toNat * 1)).toNat * 12 + 1 + 1 + 1 + 1 + 1 + 1 + 1 + 1 + 1)), (bAt (ops s.ops) ((nAt (is (runB s k).2.1) ((IntKind.wrap .i64 ((((runB s k).2.1.length : Nat) : Int) - (1 : Int))).toNat * 1)).toNat * 12 + 1 + 1 + 1 + 1 + 1 + 1 + 1 + 1 + 1 + 1)), (bAt (ops s.ops) ((nAt (is (runB s k).2.1) ((IntKind.wrap .i64 ((((runB s k).2.1.length : Nat) : Int) - (1 : Int))).toNat * 1)).toNat * 12 + 1 + 1 + 1 + 1 + 1 + 1 + 1 + 1 + 1 + 1 + 1))⟩ : Oq) ⟨(nAt (rcs (runB s k).2.2) ((IntKind.wrap .i64 ((((runB s k).2.2.length : Nat) : Int) - (1 : Int))).toNat * 4)), (nAt (rcs (runB s k).2.2) ((IntKind.wrap .i64 ((((runB s k).2.2.length : Nat) : Int) - (1 : Int))).toNat * 4 + 1)), (nAt (rcs (runB s k).2.2) ((IntKind.wrap .i64 ((((runB s k).2.2.length : Nat) : Int) - (1 : Int))).toNat * 4 + 1 + 1)), (nAt (rcs (runB s k).2.2) ((IntKind.wrap .i64 ((((runB s k).2.2.length : Nat) : Int) - (1 : Int))).toNat * 4 + 1 + 1 + 1))⟩).d)]; let zz18 := fun (k : Nat) => fun (y : Bst) => [DV.int .i64 ((hullL (toRcs ([DV.int .i64 (nAt (rcs y.2.2) ((IntKind.wrap .i64 (((y.2.2.length : Nat) : Int) - (1 : Int))).toNat * 4)), DV.int .i64 (nAt (rcs y.2.2) ((IntKind.wrap .i64 (((y.2.2.length : Nat) : Int) - (1 : Int))).toNat * 4 + 1)), DV.int .i64 (nAt (rcs y.2.2) ((IntKind.wrap .i64 (((y.2.2.length : Nat) : Int) - (1 : Int))).toNat * 4 + 1 + 1)), DV.int .i64 (nAt (rcs y.2.2) ((IntKind.wrap .i64 (((y.2.2.length : Nat) : Int) - (1 : Int))).toNat * 4 + 1 + 1 + 1)), DV.int .i64 (nAt (rcs y.1) (((k : Nat) : Int).toNat * 4)), DV.int .i64 (nAt (rcs y.1) (((k : Nat) : Int).toNat * 4 + 1)), DV.int .i64 (nAt (rcs y.1) (((k : Nat) : Int).toNat * 4 + 1 + 1)), DV.int .i64 (nAt (rcs y.1) (((k : Nat) : Int).toNat * 4 + 1 + 1 + 1))]))).a), DV.int .i64 ((hullL (toRcs ([DV.int .i64 (nAt (rcs y.2.2) ((IntKind.wrap .i64 (((y.2.2.length : Nat) : Int) - (1 : Int))).toNat * 4)), DV.int .i64 (nAt (rcs y.2.2) ((IntKind.wrap .i64 (((y.2.2.length : Nat) : Int) - (1 : Int))).toNat * 4 + 1)), DV.int .i64 (nAt (rcs y.2.2) ((IntKind.wrap .i64 (((y.2.2.length : Nat) : Int) - (1 : Int))).toNat * 4 + 1 + 1)), DV.int .i64 (nAt (rcs y.2.2) ((IntKind.wrap .i64 (((y.2.2.length : Nat) : Int) - (1 : Int))).toNat * 4 + 1 + 1 + 1)), DV.int .i64 (nAt (rcs y.1) (((k : Nat) : Int).toNat * 4)), DV.int .i64 (nAt (rcs y.1) (((k : Nat) : Int).toNat * 4 + 1)), DV.int .i64 (nAt (rcs y.1) (((k : Nat) : Int).toNat * 4 + 1 + 1)), DV.int .i64 (nAt (rcs y.1) (((k : Nat) : Int).toNat * 4 + 1 + 1 + 1))]))).b), DV.int .i64 ((hullL (toRcs ([DV.int .i64 (nAt (rcs y.2.2) ((IntKind.wrap .i64 (((y.2.2.length : Nat) : Int) - (1 : Int))).toNat * 4)), DV.int .i64 (nAt (rcs y.2.2) ((IntKind.wrap .i64 (((y.2.2.length : Nat) : Int) - (1 : Int))).toNat * 4 + 1)), DV.int .i64 (nAt (rcs y.2.2) ((IntKind.wrap .i64 (((y.2.2.length : Nat) : Int) - (1 : Int))).toNat * 4 + 1 + 1)), DV.int .i64 (nAt (rcs y.2.2) ((IntKind.wrap .i64 (((y.2.2.length : Nat) : Int) - (1 : Int))).toNat * 4 + 1 + 1 + 1)), DV.int .i64 (nAt (rcs y.1) (((k : Nat) : Int).toNat * 4)), DV.int .i64 (nAt (rcs y.1) (((k : Nat) : Int).toNat * 4 + 1)), DV.int .i64 (nAt (rcs y.1) (((k : Nat) : Int).toNat * 4 + 1 + 1)), DV.int .i64 (nAt (rcs y.1) (((k : Nat) : Int).toNat * 4 + 1 + 1 + 1))]))).c), DV.int .i64 ((hullL (toRcs ([DV.int .i64 (nAt (rcs y.2.2) ((IntKind.wrap .i64 (((y.2.2.length : Nat) : Int) - (1 : Int))).toNat * 4)), DV.int .i64 (nAt (rcs y.2.2) ((IntKind.wrap .i64 (((y.2.2.length : Nat) : Int) - (1 : Int))).toNat * 4 + 1)), DV.int .i64 (nAt (rcs y.2.2) ((IntKind.wrap .i64 (((y.2.2.length : Nat) : Int) - (1 : Int))).toNat * 4 + 1 + 1)), DV.int .i64 (nAt (rcs y.2.2) ((IntKind.wrap .i64 (((y.2.2.length : Nat) : Int) - (1 : Int))).toNat * 4 + 1 + 1 + 1)), DV.int .i64 (nAt (rcs y.1) (((k : Nat) : Int).toNat * 4)), DV.int .i64 (nAt (rcs y.1) (((k : Nat) : Int).toNat * 4 + 1)), DV.int .i64 (nAt (rcs y.1) (((k : Nat) : Int).toNat * 4 + 1 + 1)), DV.int .i64 (nAt (rcs y.1) (((k : Nat) : Int).toNat * 4 + 1 + 1 + 1))]))).d)]; True ∧ True ∧ True ∧ True ∧ (Ans Tryd.prog 33 [RV.agg zz0] (RV.tup [RV.d (DV.int .i64 ((opsE s.bits s.c s.tw s.th (ints (is s.ord)) s.ims.length (toOps (ops s.ops))).1)), RV.d (DV.int .i64 ((opsE s.bits s.c s.tw s.th (ints (is s.ord)) s.ims.length (toOps (ops s.ops))).2))])) ∧ True ∧ True ∧ True ∧ True ∧ True ∧ True ∧ True ∧ (((((opsE s.bits s.c s.tw s.th (ints (is s.ord)) s.ims.length (toOps (ops s.ops))).1) != (0 : Int)) = true → True ∧ True ∧ True ∧ ((((0 = (boxesS s).1.length) ∧ (DV.int .i64 ((opsE s.bits s.c s.tw s.th (ints (is s.ord)) s.ims.length (toOps (ops s.ops))).1) = DV.int .i64 ((boxesS s).2)) ∧ True) ∧ True) ∧ (([] = rcs (boxesS s).1) ∧ True)) ∧ freshOK ⟨AV.tup [AV.one (Cl.ref 0 ((boxesS s).1.length)), AV.one (Cl.d (DV.int .i64 ((boxesS s).2)))], [Bx.row 33 4 (rcs (boxesS s).1)], true⟩) ∧ ((((opsE s.bits s.c s.tw s.th (ints (is s.ord)) s.ims.length (toOps (ops s.ops))).1) != (0 : Int)) = false → True ∧ True ∧ True ∧ (0 ≤ ((s.ops.length : Nat) : Int) ∧ ((s.ops.length : Nat) : Int) ≤ ((s.ops.length : Nat) : Int) ∧ ((s.ops.length : Nat) : Int) ≤ ((maxLen : Nat) : Int) ∧ ((32 : Nat) : Int) * ((s.ops.length : Nat) : Int) ≤ 281474976710656) ∧ True ∧ True ∧ True ∧ True ∧ True ∧ True ∧ True ∧ True ∧ True ∧ ((∃ k : Nat, (k ≤ s.ops.length) ∧ (((0 = 0) ∧ zz1 ∧ (0 = (runB s k).2.1.length) ∧ (1 = (runB s k).2.2.length) ∧ zz2 ∧ zz3 ∧ (DV.int .i64 0 = DV.int .i64 ((k : Nat) : Int)) ∧ True) ∧ (zz4 ∧ (repl ((s.ops.length : Nat) : Int).toNat zz5 = rcs (runB s k).1) ∧ ([] = is (runB s k).2.1) ∧ (zz5 = rcs (runB s k).2.2) ∧ True))) ∧ ∀ k : Nat, (k ≤ s.ops.length) → True ∧ (((decide (((k : Nat) : Int) < ((s.ops.length : Nat) : Int))) = true → True ∧ (0 ≤ ((k : Nat) : Int) ∧ ((k : Nat) : Int) < ((s.ops.length : Nat) : Int) ∧ ((k : Nat) : Int).toNat * 12 < (ops s.ops).length) ∧ (((ops s.ops)[((k : Nat) : Int).toNat * 12]? = some (DV.int .i64 (nAt (ops s.ops) (((k : Nat) : Int).toNat * 12)))) ∧ ((ops s.ops)[((k : Nat) : Int).toNat * 12 + 1]? = some (DV.int .i64 (nAt (ops s.ops) (((k : Nat) : Int).toNat * 12 + 1)))) ∧ ((ops s.ops)[((k : Nat) : Int).toNat * 12 + 1 + 1]? = some (DV.int .i64 (nAt (ops s.ops) (((k : Nat) : Int).toNat * 12 + 1 + 1)))) ∧ ((ops s.ops)[((k : Nat) : Int).toNat * 12 + 1 + 1 + 1]? = some (DV.int .i64 (nAt (ops s.ops) (((k : Nat) : Int).toNat * 12 + 1 + 1 + 1)))) ∧ ((ops s.ops)[((k : Nat) : Int).toNat * 12 + 1 + 1 + 1 + 1]? = some (DV.int .i64 (nAt (ops s.ops) (((k : Nat) : Int).toNat * 12 + 1 + 1 + 1 + 1)))) ∧ ((ops s.ops)[((k : Nat) : Int).toNat * 12 + 1 + 1 + 1 + 1 + 1]? = some (DV.int .i64 (nAt (ops s.ops) (((k : Nat) : Int).toNat * 12 + 1 + 1 + 1 + 1 + 1)))) ∧ ((ops s.ops)[((k : Nat) : Int).toNat * 12 + 1 + 1 + 1 + 1 + 1 + 1]? = some (DV.int .i64 (nAt (ops s.ops) (((k : Nat) : Int).toNat * 12 + 1 + 1 + 1 + 1 + 1 + 1)))) ∧ ((ops s.ops)[((k : Nat) : Int).toNat * 12 + 1 + 1 + 1 + 1 + 1 + 1 + 1]? = some (DV.int .u16 (nAt (ops s.ops) (((k : Nat) : Int).toNat * 12 + 1 + 1 + 1 + 1 + 1 + 1 + 1)))) ∧ ((ops s.ops)[((k : Nat) : Int).toNat * 12 + 1 + 1 + 1 + 1 + 1 + 1 + 1 + 1]? = some (DV.int .i64 (nAt (ops s.ops) (((k : Nat) : Int).toNat * 12 + 1 + 1 + 1 + 1 + 1 + 1 + 1 + 1)))) ∧ ((ops s.ops)[((k : Nat) : Int).toNat * 12 + 1 + 1 + 1 + 1 + 1 + 1 + 1 + 1 + 1]? = some (DV.int .i64 (nAt (ops s.ops) (((k : Nat) : Int).toNat * 12 + 1 + 1 + 1 + 1 + 1 + 1 + 1 + 1 + 1)))) ∧ ((ops s.ops)[((k : Nat) : Int).toNat * 12 + 1 + 1 + 1 + 1 + 1 + 1 + 1 + 1 + 1 + 1]? = some (DV.bool (bAt (ops s.ops) (((k : Nat) : Int).toNat * 12 + 1 + 1 + 1 + 1 + 1 + 1 + 1 + 1 + 1 + 1)))) ∧ ((ops s.ops)[((k : Nat) : Int).toNat * 12 + 1 + 1 + 1 + 1 + 1 + 1 + 1 + 1 + 1 + 1 + 1]? = some (DV.bool (bAt (ops s.ops) (((k : Nat) : Int).toNat * 12 + 1 + 1 + 1 + 1 + 1 + 1 + 1 + 1 + 1 + 1 + 1)))) ∧ True) ∧ True ∧ True ∧ True ∧ (True ∧ True ∧ True ∧ True ∧ ((((nAt (ops s.ops) (((k : Nat) : Int).toNat * 12)) == (2 : Int)) = true → True ∧ True ∧ True ∧ (appVc 1 8 ((runB s k).2.1.length) 1 (is (runB s k).2.1) ([DV.int .i64 ((k : Nat) : Int)])) ∧ True ∧ True ∧ True ∧ (appVc 4 32 ((runB s k).2.2.length) 1 (rcs (runB s k).2.2) (zz5)) ∧ True ∧ True ∧ True ∧ True ∧ ∃ k' : Nat, (k' ≤ s.ops.length) ∧ (zz6 k k') ∧ (((0 = 0) ∧ zz1 ∧ (((runB s k).2.1.length) + 1 = (runB s k').2.1.length) ∧ (((runB s k).2.2.length) + 1 = (runB s k').2.2.length) ∧ zz2 ∧ zz3 ∧ (zz7 k k') ∧ True) ∧ (zz4 ∧ (rcs (runB s k).1 = rcs (runB s k').1) ∧ ((is (runB s k).2.1) ++ ([DV.int .i64 ((k : Nat) : Int)]) = is (runB s k').2.1) ∧ ((rcs (runB s k).2.2) ++ (zz5) = rcs (runB s k').2.2) ∧ True))) ∧ (((nAt (ops s.ops) (((k : Nat) : Int).toNat * 12)) == (2 : Int)) = false → True ∧ True ∧ ((((nAt (ops s.ops) (((k : Nat) : Int).toNat * 12)) == (1 : Int)) = true → True ∧ True ∧ True ∧ True ∧ True ∧ True ∧ (Ans Tryd.prog 11 [RV.agg zz0, RV.agg (zz8 k)] (RV.agg (zz9 k))) ∧ (Ans Tryd.prog 34 [RV.agg zz0, RV.agg (zz8 k), RV.agg (zz9 k)] (RV.agg (zz10 k))) ∧ (zz11 k) ∧ (zz12 k) ∧ (true = true) ∧ ∃ y : Bst, (zz13 k y) ∧ (((0 = 0) ∧ zz1 ∧ ((runB s k).2.1.length = y.2.1.length) ∧ ((runB s k).2.2.length = y.2.2.length) ∧ (zz14 k) ∧ zz2 ∧ zz3 ∧ (zz14 k) ∧ True) ∧ (zz4 ∧ (sets (rcs (runB s k).1) (((k : Nat) : Int).toNat * 4) ((zz10 k)) = rcs y.1) ∧ (is (runB s k).2.1 = is y.2.1) ∧ (rcs (runB s k).2.2 = rcs y.2.2) ∧ True))) ∧ (((nAt (ops s.ops) (((k : Nat) : Int).toNat * 12)) == (1 : Int)) = false → True ∧ True ∧ (zz15 k) ∧ True ∧ (0 ≤ IntKind.wrap .i64 ((((runB s k).2.1.length : Nat) : Int) - (1 : Int)) ∧ IntKind.wrap .i64 ((((runB s k).2.1.length : Nat) : Int) - (1 : Int)) < (((runB s k).2.1.length : Nat) : Int)) ∧ (((is (runB s k).2.1)[(IntKind.wrap .i64 ((((runB s k).2.1.length : Nat) : Int) - (1 : Int))).toNat * 1]? = some (DV.int .i64 (nAt (is (runB s k).2.1) ((IntKind.wrap .i64 ((((runB s k).2.1.length : Nat) : Int) - (1 : Int))).toNat * 1)))) ∧ True) ∧ True ∧ True ∧ True ∧ True ∧ True ∧ True ∧ True ∧ (0 ≤ nAt (is (runB s k).2.1) ((IntKind.wrap .i64 ((((runB s k).2.1.length : Nat) : Int) - (1 : Int))).toNat * 1) ∧ nAt (is (runB s k).2.1) ((IntKind.wrap .i64 ((((runB s k).2.1.length : Nat) : Int) - (1 : Int))).toNat * 1) < ((s.ops.length : Nat) : Int) ∧ (nAt (is (runB s k).2.1) ((IntKind.wrap .i64 ((((runB s k).2.1.length : Nat) : Int) - (1 : Int))).toNat * 1)).toNat * 12 < (ops s.ops).length) ∧ (((ops s.ops)[(nAt (is (runB s k).2.1) ((IntKind.wrap .i64 ((((runB s k).2.1.length : Nat) : Int) - (1 : Int))).toNat * 1)).toNat * 12]? = some (DV.int .i64 (nAt (ops s.ops) ((nAt (is (runB s k).2.1) ((IntKind.wrap .i64 ((((runB s k).2.1.length : Nat) : Int) - (1 : Int))).toNat * 1)).toNat * 12)))) ∧ ((ops s.ops)[(nAt (is (runB s k).2.1) ((IntKind.wrap .i64 ((((runB s k).2.1.length : Nat) : Int) - (1 : Int))).toNat * 1)).toNat * 12 + 1]? = some (DV.int .i64 (nAt (ops s.ops) ((nAt (is (runB s k).2.1) ((IntKind.wrap .i64 ((((runB s k).2.1.length : Nat) : Int) - (1 : Int))).toNat * 1)).toNat * 12 + 1)))) ∧ ((ops s.ops)[(nAt (is (runB s k).2.1) ((IntKind.wrap .i64 ((((runB s k).2.1.length : Nat) : Int) - (1 : Int))).toNat * 1)).toNat * 12 + 1 + 1]? = some (DV.int .i64 (nAt (ops s.ops) ((nAt (is (runB s k).2.1) ((IntKind.wrap .i64 ((((runB s k).2.1.length : Nat) : Int) - (1 : Int))).toNat * 1)).toNat * 12 + 1 + 1)))) ∧ ((ops s.ops)[(nAt (is (runB s k).2.1) ((IntKind.wrap .i64 ((((runB s k).2.1.length : Nat) : Int) - (1 : Int))).toNat * 1)).toNat * 12 + 1 + 1 + 1]? = some (DV.int .i64 (nAt (ops s.ops) ((nAt (is (runB s k).2.1) ((IntKind.wrap .i64 ((((runB s k).2.1.length : Nat) : Int) - (1 : Int))).toNat * 1)).toNat * 12 + 1 + 1 + 1)))) ∧ ((ops s.ops)[(nAt (is (runB s k).2.1) ((IntKind.wrap .i64 ((((runB s k).2.1.length : Nat) : Int) - (1 : Int))).toNat * 1)).toNat * 12 + 1 + 1 + 1 + 1]? = some (DV.int .i64 (nAt (ops s.ops) ((nAt (is (runB s k).2.1) ((IntKind.wrap .i64 ((((runB s k).2.1.length : Nat) : Int) - (1 : Int))).toNat * 1)).toNat * 12 + 1 + 1 + 1 + 1)))) ∧ ((ops s.ops)[(nAt (is (runB s k).2.1) ((IntKind.wrap .i64 ((((runB s k).2.1.length : Nat) : Int) - (1 : Int))).toNat * 1)).toNat * 12 + 1 + 1 + 1 + 1 + 1]? = some (DV.int .i64 (nAt (ops s.ops) ((nAt (is (runB s k).2.1) ((IntKind.wrap .i64 ((((runB s k).2.1.length : Nat) : Int) - (1 : Int))).toNat * 1)).toNat * 12 + 1 + 1 + 1 + 1 + 1)))) ∧ ((ops s.ops)[(nAt (is (runB s k).2.1) ((IntKind.wrap .i64 ((((runB s k).2.1.length : Nat) : Int) - (1 : Int))).toNat * 1)).toNat * 12 + 1 + 1 + 1 + 1 + 1 + 1]? = some (DV.int .i64 (nAt (ops s.ops) ((nAt (is (runB s k).2.1) ((IntKind.wrap .i64 ((((runB s k).2.1.length : Nat) : Int) - (1 : Int))).toNat * 1)).toNat * 12 + 1 + 1 + 1 + 1 + 1 + 1)))) ∧ ((ops s.ops)[(nAt (is (runB s k).2.1) ((IntKind.wrap .i64 ((((runB s k).2.1.length : Nat) : Int) - (1 : Int))).toNat * 1)).toNat * 12 + 1 + 1 + 1 + 1 + 1 + 1 + 1]? = some (DV.int .u16 (nAt (ops s.ops) ((nAt (is (runB s k).2.1) ((IntKind.wrap .i64 ((((runB s k).2.1.length : Nat) : Int) - (1 : Int))).toNat * 1)).toNat * 12 + 1 + 1 + 1 + 1 + 1 + 1 + 1)))) ∧ ((ops s.ops)[(nAt (is (runB s k).2.1) ((IntKind.wrap .i64 ((((runB s k).2.1.length : Nat) : Int) - (1 : Int))).toNat * 1)).toNat * 12 + 1 + 1 + 1 + 1 + 1 + 1 + 1 + 1]? = some (DV.int .i64 (nAt (ops s.ops) ((nAt (is (runB s k).2.1) ((IntKind.wrap .i64 ((((runB s k).2.1.length : Nat) : Int) - (1 : Int))).toNat * 1)).toNat * 12 + 1 + 1 + 1 + 1 + 1 + 1 + 1 + 1)))) ∧ ((ops s.ops)[(nAt (is (runB s k).2.1) ((IntKind.wrap .i64 ((((runB s k).2.1.length : Nat) : Int) - (1 : Int))).toNat * 1)).toNat * 12 + 1 + 1 + 1 + 1 + 1 + 1 + 1 + 1 + 1]? = some (DV.int .i64 (nAt (ops s.ops) ((nAt (is (runB s k).2.1) ((IntKind.wrap .i64 ((((runB s k).2.1.length : Nat) : Int) - (1 : Int))).toNat * 1)).toNat * 12 + 1 + 1 + 1 + 1 + 1 + 1 + 1 + 1 + 1)))) ∧ ((ops s.ops)[(nAt (is (runB s k).2.1) ((IntKind.wrap .i64 ((((runB s k).2.1.length : Nat) : Int) - (1 : Int))).toNat * 1)).toNat * 12 + 1 + 1 + 1 + 1 + 1 + 1 + 1 + 1 + 1 + 1]? = some (DV.bool (bAt (ops s.ops) ((nAt (is (runB s k).2.1) ((IntKind.wrap .i64 ((((runB s k).2.1.length : Nat) : Int) - (1 : Int))).toNat * 1)).toNat * 12 + 1 + 1 + 1 + 1 + 1 + 1 + 1 + 1 + 1 + 1)))) ∧ ((ops s.ops)[(nAt (is (runB s k).2.1) ((IntKind.wrap .i64 ((((runB s k).2.1.length : Nat) : Int) - (1 : Int))).toNat * 1)).toNat * 12 + 1 + 1 + 1 + 1 + 1 + 1 + 1 + 1 + 1 + 1 + 1]? = some (DV.bool (bAt (ops s.ops) ((nAt (is (runB s k).2.1) ((IntKind.wrap .i64 ((((runB s k).2.1.length : Nat) : Int) - (1 : Int))).toNat * 1)).toNat * 12 + 1 + 1 + 1 + 1 + 1 + 1 + 1 + 1 + 1 + 1 + 1)))) ∧ True) ∧ True ∧ True ∧ (zz16 k) ∧ True ∧ (0 ≤ IntKind.wrap .i64 ((((runB s k).2.2.length : Nat) : Int) - (1 : Int)) ∧ IntKind.wrap .i64 ((((runB s k).2.2.length : Nat) : Int) - (1 : Int)) < (((runB s k).2.2.length : Nat) : Int)) ∧ (((rcs (runB s k).2.2)[(IntKind.wrap .i64 ((((runB s k).2.2.length : Nat) : Int) - (1 : Int))).toNat * 4]? = some (DV.int .i64 (nAt (rcs (runB s k).2.2) ((IntKind.wrap .i64 ((((runB s k).2.2.length : Nat) : Int) - (1 : Int))).toNat * 4)))) ∧ ((rcs (runB s k).2.2)[(IntKind.wrap .i64 ((((runB s k).2.2.length : Nat) : Int) - (1 : Int))).toNat * 4 + 1]? = some (DV.int .i64 (nAt (rcs (runB s k).2.2) ((IntKind.wrap .i64 ((((runB s k).2.2.length : Nat) : Int) - (1 : Int))).toNat * 4 + 1)))) ∧ ((rcs (runB s k).2.2)[(IntKind.wrap .i64 ((((runB s k).2.2.length : Nat) : Int) - (1 : Int))).toNat * 4 + 1 + 1]? = some (DV.int .i64 (nAt (rcs (runB s k).2.2) ((IntKind.wrap .i64 ((((runB s k).2.2.length : Nat) : Int) - (1 : Int))).toNat * 4 + 1 + 1)))) ∧ ((rcs (runB s k).2.2)[(IntKind.wrap .i64 ((((runB s k).2.2.length : Nat) : Int) - (1 : Int))).toNat * 4 + 1 + 1 + 1]? = some (DV.int .i64 (nAt (rcs (runB s k).2.2) ((IntKind.wrap .i64 ((((runB s k).2.2.length : Nat) : Int) - (1 : Int))).toNat * 4 + 1 + 1 + 1)))) ∧ True) ∧ (Ans Tryd.prog 34 [RV.agg zz0, RV.agg [DV.int .i64 (nAt (ops s.ops) ((nAt (is (runB s k).2.1) ((IntKind.wrap .i64 ((((runB s k).2.1.length : Nat) : Int) - (1 : Int))).toNat * 1)).toNat * 12)), DV.int .i64 (nAt (ops s.ops) ((nAt (is (runB s k).2.1) ((IntKind.wrap .i64 ((((runB s k).2.1.length : Nat) : Int) - (1 : Int))).toNat * 1)).toNat * 12 + 1)), DV.int .i64 (nAt (ops s.ops) ((nAt (is (runB s k).2.1) ((IntKind.wrap .i64 ((((runB s k).2.1.length : Nat) : Int) - (1 : Int))).toNat * 1)).toNat * 12 + 1 + 1)), DV.int .i64 (nAt (ops s.ops) ((nAt (is (runB s k).2.1) ((IntKind.wrap .i64 ((((runB s k).2.1.length : Nat) : Int) - (1 : Int))).toNat * 1)).toNat * 12 + 1 + 1 + 1)), DV.int .i64 (nAt (ops s.ops) ((nAt (is (runB s k).2.1) ((IntKind.wrap .i64 ((((runB s k).2.1.length : Nat) : Int) - (1 : Int))).toNat * 1)).toNat * 12 + 1 + 1 + 1 + 1)), DV.int .i64 (nAt (ops s.ops) ((nAt (is (runB s k).2.1) ((IntKind.wrap .i64 ((((runB s k).2.1.length : Nat) : Int) - (1 : Int))).toNat * 1)).toNat * 12 + 1 + 1 + 1 + 1 + 1)), DV.int .i64 (nAt (ops s.ops) ((nAt (is (runB s k).2.1) ((IntKind.wrap .i64 ((((runB s k).2.1.length : Nat) : Int) - (1 : Int))).toNat * 1)).toNat * 12 + 1 + 1 + 1 + 1 + 1 + 1)), DV.int .u16 (nAt (ops s.ops) ((nAt (is (runB s k).2.1) ((IntKind.wrap .i64 ((((runB s k).2.1.length : Nat) : Int) - (1 : Int))).toNat * 1)).toNat * 12 + 1 + 1 + 1 + 1 + 1 + 1 + 1)), DV.int .i64 (nAt (ops s.ops) ((nAt (is (runB s k).2.1) ((IntKind.wrap .i64 ((((runB s k).2.1.length : Nat) : Int) - (1 : Int))).toNat * 1)).toNat * 12 + 1 + 1 + 1 + 1 + 1 + 1 + 1 + 1)), DV.int .i64 (nAt (ops s.ops) ((nAt (is (runB s k).2.1) ((IntKind.wrap .i64 ((((runB s k).2.1.length : Nat) : Int) - (1 : Int))).toNat * 1)).toNat * 12 + 1 + 1 + 1 + 1 + 1 + 1 + 1 + 1 + 1)), DV.bool (bAt (ops s.ops) ((nAt (is (runB s k).2.1) ((IntKind.wrap .i64 ((((runB s k).2.1.length : Nat) : Int) - (1 : Int))).toNat * 1)).toNat * 12 + 1 + 1 + 1 + 1 + 1 + 1 + 1 + 1 + 1 + 1)), DV.bool (bAt (ops s.ops) ((nAt (is (runB s k).2.1) ((IntKind.wrap .i64 ((((runB s k).2.1.length : Nat) : Int) - (1 : Int))).toNat * 1)).toNat * 12 + 1 + 1 + 1 + 1 + 1 + 1 + 1 + 1 + 1 + 1 + 1))], RV.agg [DV.int .i64 (nAt (rcs (runB s k).2.2) ((IntKind.wrap .i64 ((((runB s k).2.2.length : Nat) : Int) - (1 : Int))).toNat * 4)), DV.int .i64 (nAt (rcs (runB s k).2.2) ((IntKind.wrap .i64 ((((runB s k).2.2.length : Nat) : Int) - (1 : Int))).toNat * 4 + 1)), DV.int .i64 (nAt (rcs (runB s k).2.2) ((IntKind.wrap .i64 ((((runB s k).2.2.length : Nat) : Int) - (1 : Int))).toNat * 4 + 1 + 1)), DV.int .i64 (nAt (rcs (runB s k).2.2) ((IntKind.wrap .i64 ((((runB s k).2.2.length : Nat) : Int) - (1 : Int))).toNat * 4 + 1 + 1 + 1))]] (RV.agg (zz17 k))) ∧ (zz11 k) ∧ (zz12 k) ∧ (true = true) ∧ True ∧ True ∧ True ∧ True ∧ (zz11 k) ∧ (((sets (rcs (runB s k).1) (((k : Nat) : Int).toNat * 4) ((zz17 k)))[((k : Nat) : Int).toNat * 4]? = some (DV.int .i64 (nAt (sets (rcs (runB s k).1) (((k : Nat) : Int).toNat * 4) ((zz17 k))) (((k : Nat) : Int).toNat * 4)))) ∧ ((sets (rcs (runB s k).1) (((k : Nat) : Int).toNat * 4) ((zz17 k)))[((k : Nat) : Int).toNat * 4 + 1]? = some (DV.int .i64 (nAt (sets (rcs (runB s k).1) (((k : Nat) : Int).toNat * 4) ((zz17 k))) (((k : Nat) : Int).toNat * 4 + 1)))) ∧ ((sets (rcs (runB s k).1) (((k : Nat) : Int).toNat * 4) ((zz17 k)))[((k : Nat) : Int).toNat * 4 + 1 + 1]? = some (DV.int .i64 (nAt (sets (rcs (runB s k).1) (((k : Nat) : Int).toNat * 4) ((zz17 k))) (((k : Nat) : Int).toNat * 4 + 1 + 1)))) ∧ ((sets (rcs (runB s k).1) (((k : Nat) : Int).toNat * 4) ((zz17 k)))[((k : Nat) : Int).toNat * 4 + 1 + 1 + 1]? = some (DV.int .i64 (nAt (sets (rcs (runB s k).1) (((k : Nat) : Int).toNat * 4) ((zz17 k))) (((k : Nat) : Int).toNat * 4 + 1 + 1 + 1)))) ∧ True) ∧ (0 ≤ nAt (is (runB s k).2.1) ((IntKind.wrap .i64 ((((runB s k).2.1.length : Nat) : Int) - (1 : Int))).toNat * 1) ∧ nAt (is (runB s k).2.1) ((IntKind.wrap .i64 ((((runB s k).2.1.length : Nat) : Int) - (1 : Int))).toNat * 1) < ((((s.ops.length : Nat) : Int).toNat : Nat) : Int)) ∧ ((nAt (is (runB s k).2.1) ((IntKind.wrap .i64 ((((runB s k).2.1.length : Nat) : Int) - (1 : Int))).toNat * 1)).toNat * 4 + 4 ≤ (sets (rcs (runB s k).1) (((k : Nat) : Int).toNat * 4) ((zz17 k))).length) ∧ True ∧ True ∧ (zz15 k) ∧ True ∧ (0 ≤ IntKind.wrap .i64 ((((runB s k).2.1.length : Nat) : Int) - (1 : Int)) ∧ IntKind.wrap .i64 ((((runB s k).2.1.length : Nat) : Int) - (1 : Int)) ≤ (((runB s k).2.1.length : Nat) : Int)) ∧ True ∧ True ∧ (zz16 k) ∧ True ∧ (0 ≤ IntKind.wrap .i64 ((((runB s k).2.2.length : Nat) : Int) - (1 : Int)) ∧ IntKind.wrap .i64 ((((runB s k).2.2.length : Nat) : Int) - (1 : Int)) ≤ (((runB s k).2.2.length : Nat) : Int)) ∧ True ∧ True ∧ (true = true) ∧ ∃ y : Bst, (zz13 k y) ∧ (((0 = 0) ∧ zz1 ∧ ((IntKind.wrap .i64 ((((runB s k).2.1.length : Nat) : Int) - (1 : Int))).toNat = y.2.1.length) ∧ ((IntKind.wrap .i64 ((((runB s k).2.2.length : Nat) : Int) - (1 : Int))).toNat = y.2.2.length) ∧ (zz14 k) ∧ zz2 ∧ zz3 ∧ (zz14 k) ∧ True) ∧ (zz4 ∧ (sets (sets (rcs (runB s k).1) (((k : Nat) : Int).toNat * 4) ((zz17 k))) ((nAt (is (runB s k).2.1) ((IntKind.wrap .i64 ((((runB s k).2.1.length : Nat) : Int) - (1 : Int))).toNat * 1)).toNat * 4) ([DV.int .i64 (nAt (sets (rcs (runB s k).1) (((k : Nat) : Int).toNat * 4) ((zz17 k))) (((k : Nat) : Int).toNat * 4)), DV.int .i64 (nAt (sets (rcs (runB s k).1) (((k : Nat) : Int).toNat * 4) ((zz17 k))) (((k : Nat) : Int).toNat * 4 + 1)), DV.int .i64 (nAt (sets (rcs (runB s k).1) (((k : Nat) : Int).toNat * 4) ((zz17 k))) (((k : Nat) : Int).toNat * 4 + 1 + 1)), DV.int .i64 (nAt (sets (rcs (runB s k).1) (((k : Nat) : Int).toNat * 4) ((zz17 k))) (((k : Nat) : Int).toNat * 4 + 1 + 1 + 1))]) = rcs y.1) ∧ (List.take ((IntKind.wrap .i64 ((((runB s k).2.1.length : Nat) : Int) - (1 : Int))).toNat * 1) (is (runB s k).2.1) = is y.2.1) ∧ (List.take ((IntKind.wrap .i64 ((((runB s k).2.2.length : Nat) : Int) - (1 : Int))).toNat * 4) (rcs (runB s k).2.2) = rcs y.2.2) ∧ True))))))) ∧ ∀ y : Bst, (zz13 k y) → True ∧ True ∧ (y.2.2.length ≤ maxLen) ∧ True ∧ (0 ≤ IntKind.wrap .i64 (((y.2.2.length : Nat) : Int) - (1 : Int)) ∧ IntKind.wrap .i64 (((y.2.2.length : Nat) : Int) - (1 : Int)) < ((y.2.2.length : Nat) : Int)) ∧ True ∧ True ∧ True ∧ True ∧ (((rcs y.2.2)[(IntKind.wrap .i64 (((y.2.2.length : Nat) : Int) - (1 : Int))).toNat * 4]? = some (DV.int .i64 (nAt (rcs y.2.2) ((IntKind.wrap .i64 (((y.2.2.length : Nat) : Int) - (1 : Int))).toNat * 4)))) ∧ ((rcs y.2.2)[(IntKind.wrap .i64 (((y.2.2.length : Nat) : Int) - (1 : Int))).toNat * 4 + 1]? = some (DV.int .i64 (nAt (rcs y.2.2) ((IntKind.wrap .i64 (((y.2.2.length : Nat) : Int) - (1 : Int))).toNat * 4 + 1)))) ∧ ((rcs y.2.2)[(IntKind.wrap .i64 (((y.2.2.length : Nat) : Int) - (1 : Int))).toNat * 4 + 1 + 1]? = some (DV.int .i64 (nAt (rcs y.2.2) ((IntKind.wrap .i64 (((y.2.2.length : Nat) : Int) - (1 : Int))).toNat * 4 + 1 + 1)))) ∧ ((rcs y.2.2)[(IntKind.wrap .i64 (((y.2.2.length : Nat) : Int) - (1 : Int))).toNat * 4 + 1 + 1 + 1]? = some (DV.int .i64 (nAt (rcs y.2.2) ((IntKind.wrap .i64 (((y.2.2.length : Nat) : Int) - (1 : Int))).toNat * 4 + 1 + 1 + 1)))) ∧ True) ∧ True ∧ True ∧ (zz11 k) ∧ (((rcs y.1)[((k : Nat) : Int).toNat * 4]? = some (DV.int .i64 (nAt (rcs y.1) (((k : Nat) : Int).toNat * 4)))) ∧ ((rcs y.1)[((k : Nat) : Int).toNat * 4 + 1]? = some (DV.int .i64 (nAt (rcs y.1) (((k : Nat) : Int).toNat * 4 + 1)))) ∧ ((rcs y.1)[((k : Nat) : Int).toNat * 4 + 1 + 1]? = some (DV.int .i64 (nAt (rcs y.1) (((k : Nat) : Int).toNat * 4 + 1 + 1)))) ∧ ((rcs y.1)[((k : Nat) : Int).toNat * 4 + 1 + 1 + 1]? = some (DV.int .i64 (nAt (rcs y.1) (((k : Nat) : Int).toNat * 4 + 1 + 1 + 1)))) ∧ True) ∧ True ∧ (Ans Tryd.prog 35 [RV.d (DV.sl 2 ([DV.int .i64 (nAt (rcs y.2.2) ((IntKind.wrap .i64 (((y.2.2.length : Nat) : Int) - (1 : Int))).toNat * 4)), DV.int .i64 (nAt (rcs y.2.2) ((IntKind.wrap .i64 (((y.2.2.length : Nat) : Int) - (1 : Int))).toNat * 4 + 1)), DV.int .i64 (nAt (rcs y.2.2) ((IntKind.wrap .i64 (((y.2.2.length : Nat) : Int) - (1 : Int))).toNat * 4 + 1 + 1)), DV.int .i64 (nAt (rcs y.2.2) ((IntKind.wrap .i64 (((y.2.2.length : Nat) : Int) - (1 : Int))).toNat * 4 + 1 + 1 + 1)), DV.int .i64 (nAt (rcs y.1) (((k : Nat) : Int).toNat * 4)), DV.int .i64 (nAt (rcs y.1) (((k : Nat) : Int).toNat * 4 + 1)), DV.int .i64 (nAt (rcs y.1) (((k : Nat) : Int).toNat * 4 + 1 + 1)), DV.int .i64 (nAt (rcs y.1) (((k : Nat) : Int).toNat * 4 + 1 + 1 + 1))]))] (RV.agg (zz18 k y))) ∧ True ∧ ((IntKind.wrap .i64 (((y.2.2.length : Nat) : Int) - (1 : Int))).toNat * 4 + 4 ≤ (rcs y.2.2).length) ∧ (true = true) ∧ True ∧ True ∧ ∃ k' : Nat, (k' ≤ s.ops.length) ∧ (zz6 k k') ∧ (((0 = 0) ∧ zz1 ∧ (y.2.1.length = (runB s k').2.1.length) ∧ (y.2.2.length = (runB s k').2.2.length) ∧ zz2 ∧ zz3 ∧ (zz7 k k') ∧ True) ∧ (zz4 ∧ (rcs y.1 = rcs (runB s k').1) ∧ (is y.2.1 = is (runB s k').2.1) ∧ (sets (rcs y.2.2) ((IntKind.wrap .i64 (((y.2.2.length : Nat) : Int) - (1 : Int))).toNat * 4) ((zz18 k y)) = rcs (runB s k').2.2) ∧ True))) ∧ ((decide (((k : Nat) : Int) < ((s.ops.length : Nat) : Int))) = false → True ∧ True ∧ True ∧ ((((((s.ops.length : Nat) : Int).toNat = (boxesS s).1.length) ∧ (DV.int .i64 0 = DV.int .i64 ((boxesS s).2)) ∧ True) ∧ True) ∧ ((rcs (runB s k).1 = rcs (boxesS s).1) ∧ True)) ∧ freshOK ⟨AV.tup [AV.one (Cl.ref 0 ((boxesS s).1.length)), AV.one (Cl.d (DV.int .i64 ((boxesS s).2)))], [Bx.row 33 4 (rcs (boxesS s).1)], true⟩)))))) := by kernel_rfl
theorem bounds_BoxesG_ans (s : Scr) : AnsG Tryd.prog 15 0 [AV.agg [Cl.d (DV.int .i64 s.bits), Cl.d (DV.int .i64 s.c.a), Cl.d (DV.int .i64 s.c.b), Cl.d (DV.int .i64 s.c.c), Cl.d (DV.int .i64 s.c.d), Cl.d (DV.int .i64 s.tw), Cl.d (DV.int .i64 s.th), Cl.d (DV.sl s.ord.length (is s.ord)), Cl.d (DV.sl s.ims.length (ims s.ims)), Cl.d (DV.sl s.ops.length (ops s.ops))]] [] ⟨AV.tup [AV.one (Cl.ref 0 ((boxesS s).1.length)), AV.one (Cl.d (DV.int .i64 ((boxesS s).2)))], [Bx.row 33 4 (rcs (boxesS s).1)], true⟩ :=
  ansG_of_vcg (Γ := gamBf) (bounds_BoxesG_ann s) mixed_ Tryd.func15 rfl (Nat.le_of_ble_eq_true rfl) rfl fun hwf hbx => by
    refine Eq.mpr (bounds_BoxesG_vc s) ?_
    simp only [true_and, and_true, RV.d.injEq, RV.agg.injEq, RV.tup.injEq, DV.bool.injEq, DV.int.injEq, DV.sl.injEq, List.cons.injEq, forall_const, Bool.not_false, Bool.not_true, Bool.not_eq_true', Bool.not_eq_false', decide_eq_true_eq, decide_eq_false_iff_not, Int.toNat_natCast]
    (try simp only [scr_eta, scr_eta2, ints_is, toIms_ims, toOps_ops])
    have hsE : (⟨s.bits, s.c, s.tw, s.th, s.ord, s.ims, s.ops⟩ : Scr) = s := rfl
    (try simp only [hsE])
    clear hsE
    have eB : boxesS s = if s.run.1 = 0 then ((runB s s.ops.length).1, 0) else ([], s.run.1) := rfl
    have oA := validate_Ops_scr s
    have hE : opsE s.bits s.c s.tw s.th s.ord s.ims.length s.ops = s.run := rfl
    simp only [hE]
    refine ⟨oA, fun h => ?_, fun h => ?_⟩
    · have h : s.run.1 ≠ 0 := by simpa using h
      rw [eB, if_neg h]; exact ⟨⟨⟨rfl, rfl⟩, rfl⟩, bx_fresh _ _⟩
    · have h0 : s.run.1 = 0 := by simpa using h
      have F := runB_facts h0
      obtain ⟨fl1, fl2⟩ := frame_len (run_frame h0).1
      have hM : ∀ n : Nat, n ≤ 10000 → n ≤ maxLen := fun n h => by unfold maxLen; omega
      rw [eB, if_pos h0]
      clear eB hE oA h hwf
      refine ⟨⟨by omega, Int.le_refl _, by have := hM s.ops.length (by omega); omega, by omega⟩, ⟨0, Nat.zero_le _, ⟨rfl, rfl, rfl⟩, repl_rcs _, rfl, rfl⟩, fun k hk => ⟨fun hlt => ?_, fun hge => ?_⟩⟩
      · have hlt : k < s.ops.length := by omega
        obtain ⟨st, g1, g2, g3, g4, g5, g6, g7⟩ := F k hk
        have q1 := ops_rd hlt
        have q2 := ops_at hlt
        have eo : (s.ops[k]?).getD popO = s.ops[k] := by rw [List.getElem?_eq_getElem hlt]; rfl
        obtain ⟨he1, he2⟩ := okO_next g1 g2 hlt
        have w1 : IntKind.wrap .i64 ((k : Int) + 1) = ((k + 1 : Nat) : Int) := wrap_succ (by omega)
        have rS : runB s (k + 1) = stepB s k s.ops[k] (runB s k) := by rw [← eo]; rfl
        have oeta : (⟨s.ops[k].kind, s.ops[k].image, s.ops[k].x, s.ops[k].y, s.ops[k].mask, s.ops[k].mx, s.ops[k].my, s.ops[k].opac, s.ops[k].oper, s.ops[k].mode, s.ops[k].iso, s.ops[k].kno⟩ : Oq) = s.ops[k] := rfl
        simp only [q2, eo, oeta, w1]
        generalize s.ops[k] = o at *
        clear oeta eo
        generalize hz : runB s k = z at *
        obtain ⟨z1, z2, z3⟩ := z
        simp only at *
        refine ⟨⟨by omega, by omega, by rw [ops_length]; omega⟩, q1, ⟨fun hp => ?_, fun hp => ⟨fun hd => ?_, fun hd => ?_⟩⟩, fun y hy => ?_⟩
        · have hk2 : o.kind = 2 := by simpa using hp
          have e : runB s (k + 1) = (z1, z2 ++ [(k : Int)], z3 ++ [Rc.zero]) := by rw [rS]; unfold stepB; rw [if_pos hk2]
          refine ⟨⟨by simp [is_length], rfl, hM _ (by omega), by omega⟩, ⟨by simp [rcs_length], rfl, hM _ (by omega), by omega⟩, k + 1, by omega, by omega, ⟨?_, ?_, rfl⟩, ?_, ?_, ?_⟩
          · rw [e]; simp
          · rw [e]; simp
          · rw [e]
          · rw [e]; simp [is]
          · rw [e, rcs_app, rcs_one]; rfl
        · have hk1 : o.kind = 1 := by simpa using hd
          have e : stepA s k o (z1, z2, z3) = (z1.set k (boxF s o (imgR s o)), z2, z3) := by unfold stepA; rw [if_pos hk1]
          exact ⟨bounds_ImageRect_ans s o, bounds_box_ans s o (imgR s o), ⟨by omega, by omega⟩, by rw [rcs_length]; omega, _, ⟨by omega, e.symm⟩, ⟨rfl, rfl⟩, rcs_sets (by omega) _, rfl, rfl⟩
        · have hk1 : o.kind ≠ 1 := by simpa using hd
          have hk2 : o.kind ≠ 2 := by simpa using hp
          have hz2 : 0 < z2.length := by
            rcases errO_kind he1 with h | h | ⟨_, h⟩
            · exact absurd h hk1
            · exact absurd h hk2
            · have := List.length_pos_iff.2 h; omega
          have w2 : IntKind.wrap .i64 ((z2.length : Int) - 1) = ((z2.length - 1 : Nat) : Int) := by rw [IntWalk.i64_in _ ⟨by omega, by omega⟩]; omega
          have w3 : IntKind.wrap .i64 ((z3.length : Int) - 1) = ((z3.length - 1 : Nat) : Int) := by rw [IntWalk.i64_in _ ⟨by omega, by omega⟩]; omega
          obtain ⟨p, hp2⟩ : ∃ p, z2[z2.length - 1]? = some p := ⟨_, List.getElem?_eq_getElem (by omega)⟩
          obtain ⟨h, hh2⟩ : ∃ h, z3[z3.length - 1]? = some h := ⟨_, List.getElem?_eq_getElem (by omega)⟩
          have hpb := g7 p (List.mem_of_getElem? hp2)
          have hpl : p.toNat < s.ops.length := by omega
          have n2 : nAt (is z2) (z2.length - 1) = p := by simp [nAt, is, hp2]
          have n2' : (is z2)[z2.length - 1]? = some (.int .i64 p) := by simp [is, hp2]
          have hl3 : z3.length - 1 < z3.length := by omega
          have eh : z3[z3.length - 1] = h := by rw [List.getElem?_eq_getElem hl3] at hh2; exact Option.some.inj hh2
          have r1 := rcs_at z3 _ hl3
          have r2 := rcs_nAt hl3
          rw [eh] at r1 r2
          have q1' := ops_rd hpl
          have q2' := ops_at hpl
          have eop : (s.ops[p.toNat]?).getD popO = s.ops[p.toNat] := by rw [List.getElem?_eq_getElem hpl]; rfl
          have e : stepA s k o (z1, z2, z3) = ((z1.set k (boxF s s.ops[p.toNat] h)).set p.toNat (boxF s s.ops[p.toNat] h), z2.dropLast, z3.dropLast) := by
            unfold stepA
            rw [if_neg hk1]
            simp only [hp2, hh2, Option.getD_some, eop]
          have oeta : (⟨s.ops[p.toNat].kind, s.ops[p.toNat].image, s.ops[p.toNat].x, s.ops[p.toNat].y, s.ops[p.toNat].mask, s.ops[p.toNat].mx, s.ops[p.toNat].my, s.ops[p.toNat].opac, s.ops[p.toNat].oper, s.ops[p.toNat].mode, s.ops[p.toNat].iso, s.ops[p.toNat].kno⟩ : Oq) = s.ops[p.toNat] := rfl
          have heta : (⟨h.a, h.b, h.c, h.d⟩ : Rc) = h := rfl
          simp only [w2, w3, Int.toNat_natCast, Nat.mul_one, n2, r2, q2', oeta, heta]
          have bx := bounds_box_ans s s.ops[p.toNat] h
          generalize s.ops[p.toNat] = q at *
          clear oeta heta eop
          generalize boxF s q h = B at *
          have es : sets (rcs z1) (k * 4) [DV.int .i64 B.a, DV.int .i64 B.b, DV.int .i64 B.c, DV.int .i64 B.d] = rcs (z1.set k B) := rcs_sets (by omega) B
          have hl1 : k < (z1.set k B).length := by simp; omega
          have b1 := rcs_at (z1.set k B) k hl1
          have b2 := rcs_nAt hl1
          rw [List.getElem_set_self] at b1 b2
          simp only [es, b2]
          have es2 : sets (rcs (z1.set k B)) (p.toNat * 4) [DV.int .i64 B.a, DV.int .i64 B.b, DV.int .i64 B.c, DV.int .i64 B.d] = rcs ((z1.set k B).set p.toNat B) := rcs_sets (by simp; omega) B
          simp only [es2]
          refine ⟨hM _ (by omega), ⟨by omega, by omega⟩, n2', ⟨by omega, by omega, by rw [ops_length]; omega⟩, q1', hM _ (by omega), ⟨by omega, by omega⟩, r1, bx, ⟨by omega, by omega⟩, by rw [rcs_length]; omega, ⟨by omega, by omega⟩, b1, ⟨by omega, by omega⟩, by rw [rcs_length, List.length_set]; omega, hM _ (by omega), ⟨by omega, by omega⟩, hM _ (by omega), ⟨by omega, by omega⟩, _, ⟨hk2, e.symm⟩, ⟨by simp, by simp⟩, rfl, ?_, ?_⟩
          · rw [List.dropLast_eq_take]; simp [is]
          · show _ = rcs z3.dropLast
            rw [List.dropLast_eq_take, rcs_take]
        · obtain ⟨y1, y2, y3⟩ := y
          obtain ⟨hk2, hy⟩ := hy
          simp only at hk2 hy ⊢
          have yl : 0 < y3.length ∧ y3.length ≤ 5000 ∧ y1.length = s.ops.length := by
            unfold stepA at hy
            split at hy
            · simp only [Prod.mk.injEq] at hy
              obtain ⟨rfl, rfl, rfl⟩ := hy
              rw [List.length_set]; omega
            · rename_i hk1
              simp only [Prod.mk.injEq] at hy
              obtain ⟨rfl, rfl, rfl⟩ := hy
              have hz2 : 0 < z2.length := by
                rcases errO_kind he1 with h | h | ⟨_, h⟩
                · exact absurd h hk1
                · exact absurd h hk2
                · have := List.length_pos_iff.2 h; omega
              simp; omega
          obtain ⟨yl1, yl2, yl3⟩ := yl
          have w3 : IntKind.wrap .i64 ((y3.length : Int) - 1) = ((y3.length - 1 : Nat) : Int) := by rw [IntWalk.i64_in _ ⟨by omega, by omega⟩]; omega
          have hl3 : y3.length - 1 < y3.length := by omega
          have hl1 : k < y1.length := by omega
          have r1 := rcs_at y3 _ hl3
          have r2 := rcs_nAt hl3
          have b1 := rcs_at y1 _ hl1
          have b2 := rcs_nAt hl1
          have e : runB s (k + 1) = (y1, y2, y3.set (y3.length - 1) (hullL [y3[y3.length - 1], y1[k]])) := by
            rw [rS]
            unfold stepB
            rw [if_neg hk2]
            simp only [← hy, topB]
            rw [List.getElem?_eq_getElem hl3, List.getElem?_eq_getElem hl1]
            rfl
          simp only [w3, Int.toNat_natCast, r2, b2]
          generalize y3[y3.length - 1] = c at *
          generalize y1[k] = B at *
          have hu := rect_Hull_ans 2 (rcs [c, B]) (isRcs_rcs [c, B])
          have et : toRcs [DV.int .i64 c.a, DV.int .i64 c.b, DV.int .i64 c.c, DV.int .i64 c.d, DV.int .i64 B.a, DV.int .i64 B.b, DV.int .i64 B.c, DV.int .i64 B.d] = [c, B] := rfl
          simp only [toRcs_rcs] at hu
          simp only [et]
          refine ⟨hM _ (by omega), ⟨by omega, by omega⟩, r1, ⟨by omega, by omega⟩, b1, hu, by rw [rcs_length]; omega, k + 1, by omega, by omega, ⟨?_, ?_, rfl⟩, ?_, ?_, ?_⟩
          · rw [e]
          · rw [e]; simp
          · rw [e]
          · rw [e]
          · rw [e]; exact rcs_sets hl3 _
      · have : k = s.ops.length := by omega
        subst this
        exact ⟨⟨⟨by have := (F _ hk).choose_spec.2.2.1; exact this.symm, rfl⟩, rfl⟩, bx_fresh _ _⟩

end Go.Proofs.YtcaokljobfkajaaDoor

/-
  What a law is handed, in plain words: scenes, lists of operations.
-/
namespace Go.Proofs.YtcaokljobfkajaaDoor
open Go.RowKit
set_option linter.unusedVariables false
set_option linter.unusedSimpArgs false

def Leaves (P : Program) (ls : List TypeId) (n : Nat) (xs : List DV) : Prop :=
  xs.length = n * ls.length ∧ ∀ (j : Nat) d, xs[j]? = some d → ∃ t', ls[j % ls.length]? = some t' ∧ ∃ q, LeafD P q t' d
theorem Leaves.at_ {P : Program} {ls : List TypeId} {n : Nat} {xs : List DV} (h : Leaves P ls n xs) {k r : Nat} {t : TypeId} (hk : k < n) (hr : ls[r]? = some t) : ∃ d q, xs[k * ls.length + r]? = some d ∧ LeafD P q t d := by
  obtain ⟨hn, hx⟩ := h
  have hr' : r < ls.length := (List.getElem?_eq_some_iff.1 hr).1
  have hle : (k + 1) * ls.length ≤ n * ls.length := Nat.mul_le_mul_right _ (by omega)
  rw [Nat.add_mul] at hle
  have hj : k * ls.length + r < xs.length := by omega
  obtain ⟨t', a, q, b⟩ := hx _ _ (List.getElem?_eq_getElem hj)
  rw [Nat.mul_comm k, Nat.mul_add_mod, Nat.mod_eq_of_lt hr', hr] at a
  injection a with a
  subst a
  exact ⟨_, q, List.getElem?_eq_getElem hj, b⟩
theorem Leaves.int {P : Program} {ls : List TypeId} {n : Nat} {xs : List DV} (h : Leaves P ls n xs) {k r : Nat} {t : TypeId} {kk : IntKind} (hk : k < n) (hr : ls[r]? = some t) (hu : P.underlying t = some (.int kk)) : xs[k * ls.length + r]? = some (.int kk (nAt xs (k * ls.length + r))) := by
  obtain ⟨d, q, e, b⟩ := h.at_ hk hr
  obtain ⟨v, rfl⟩ := b.int hu
  simp only [nAt, e]
theorem Leaves.bool {P : Program} {ls : List TypeId} {n : Nat} {xs : List DV} (h : Leaves P ls n xs) {k r : Nat} {t : TypeId} (hk : k < n) (hr : ls[r]? = some t) (hu : P.underlying t = some .bool) : xs[k * ls.length + r]? = some (.bool (bAt xs (k * ls.length + r))) := by
  obtain ⟨d, q, e, b⟩ := h.at_ hk hr
  obtain ⟨v, rfl⟩ := b.bool hu
  simp only [bAt, e]
theorem Leaves.sl {P : Program} {ls : List TypeId} {n : Nat} {xs : List DV} (h : Leaves P ls n xs) {k r : Nat} {t e : TypeId} {ms : List TypeId} (hk : k < n) (hr : ls[r]? = some t) (hu : P.underlying t = some (.slice e)) (hl : lv P e = some ms) :
    xs[k * ls.length + r]? = some (.sl (lAt xs (k * ls.length + r)) (cAt xs (k * ls.length + r))) ∧ Leaves P ms (lAt xs (k * ls.length + r)) (cAt xs (k * ls.length + r)) := by
  obtain ⟨d, q, e1, b⟩ := h.at_ hk hr
  obtain ⟨m, ys, rfl, _, h1, h2⟩ := b.slice hu hl
  simp only [lAt, cAt, e1]
  exact ⟨trivial, h1, h2⟩
theorem Leaves.ints {P : Program} {t : TypeId} {n : Nat} {xs : List DV} (h : Leaves P [t] n xs) (hu : P.underlying t = some (.int .i64)) : xs = is (ints xs) ∧ n = xs.length :=
  isI_of (by have := h.1; simpa using this) fun j d hj => by obtain ⟨t', a, q, b⟩ := h.2 j d hj; exact intLeaf1 hu a b
theorem Leaves.five {P : Program} {t : TypeId} {n : Nat} {xs : List DV} (h : Leaves P [t, t, t, t, t] n xs) (hu : P.underlying t = some (.int .i64)) : Is5 n xs :=
  is5_of h.1 fun j d hj => by obtain ⟨t', a, q, b⟩ := h.2 j d hj; exact intLeaf5 hu a b
theorem Leaves.pics {P : Program} {t ts e : TypeId} {n : Nat} {xs : List DV} (h : Leaves P [t, t, t, t, ts] n xs) (hu : P.underlying t = some (.int .i64)) (hs : P.underlying ts = some (.slice e)) (hl : lv P e = some [t, t, t, t, t]) : IsPics n xs :=
  ⟨h.1, fun k hk => ⟨h.int (r := 0) hk rfl hu, h.int (r := 1) hk rfl hu, h.int (r := 2) hk rfl hu, h.int (r := 3) hk rfl hu, (h.sl (r := 4) hk rfl hs hl).1, (h.sl (r := 4) hk rfl hs hl).2.five hu⟩⟩
theorem Leaves.raws {P : Program} {t : TypeId} {n : Nat} {xs : List DV} (h : Leaves P [t, t, t, t, t, t, t, t, t, t, t] n xs) (hu : P.underlying t = some (.int .i64)) : IsRws n xs := by
  refine ⟨h.1, fun i hi => ?_⟩
  have hr : [t, t, t, t, t, t, t, t, t, t, t][i % 11]? = some t := by
    have h2 : i % 11 < 11 := Nat.mod_lt _ (by omega)
    generalize i % 11 = r at *
    match r, h2 with
    | 0, _ | 1, _ | 2, _ | 3, _ | 4, _ | 5, _ | 6, _ | 7, _ | 8, _ | 9, _ | 10, _ => rfl
  have := h.int (k := i / 11) (r := i % 11) (by omega) hr hu
  have e : i / 11 * [t, t, t, t, t, t, t, t, t, t, t].length + i % 11 = i := by show i / 11 * 11 + i % 11 = i; omega
  rw [e] at this
  exact this
theorem blocks_eq {xs ys : List DV} {n m : Nat} (hx : xs.length = n * m) (hy : ys.length = n * m) (h : ∀ k, k < n → ∀ j, j < m → xs[k * m + j]? = ys[k * m + j]?) : xs = ys := by
  refine List.ext_getElem? fun i => ?_
  by_cases hi : i < n * m
  · have hm : 0 < m := by
      rcases Nat.eq_zero_or_pos m with h0 | h0
      · subst h0; simp at hi
      · exact h0
    have := h (i / m) (Nat.div_lt_of_lt_mul (by rw [Nat.mul_comm]; exact hi)) (i % m) (Nat.mod_lt _ hm)
    have e : i / m * m + i % m = i := by rw [Nat.mul_comm]; exact Nat.div_add_mod i m
    rw [e] at this
    exact this
  · rw [List.getElem?_eq_none (by omega), List.getElem?_eq_none (by omega)]
theorem Leaves.ops {P : Program} {t u b : TypeId} {n : Nat} {xs : List DV} (h : Leaves P [t, t, t, t, t, t, t, u, t, t, b, b] n xs) (ht : P.underlying t = some (.int .i64)) (hu : P.underlying u = some (.int .u16)) (hb : P.underlying b = some .bool) : IsOps n xs := by
  have hl : xs.length = n * 12 := h.1
  have hn : (toOps xs).length = n := by unfold toOps; rw [List.length_map, List.length_range, hl]; omega
  refine ⟨blocks_eq hl (by rw [ops_length, hn]) fun k hk j hj => ?_, hn.symm⟩
  have e : (toOps xs)[k]'(by omega) = oqAt xs (k * 12) := by simp [toOps]
  rw [ops_get (by omega) j hj, e]
  have key := fun r (hr : r < 12) => h.at_ (k := k) (r := r) (t := [t, t, t, t, t, t, t, u, t, t, b, b][r]) hk (List.getElem?_eq_getElem hr)
  match j, hj with
  | 0, _ => exact h.int (r := 0) hk rfl ht
  | 1, _ => exact h.int (r := 1) hk rfl ht
  | 2, _ => exact h.int (r := 2) hk rfl ht
  | 3, _ => exact h.int (r := 3) hk rfl ht
  | 4, _ => exact h.int (r := 4) hk rfl ht
  | 5, _ => exact h.int (r := 5) hk rfl ht
  | 6, _ => exact h.int (r := 6) hk rfl ht
  | 7, _ => exact h.int (r := 7) hk rfl hu
  | 8, _ => exact h.int (r := 8) hk rfl ht
  | 9, _ => exact h.int (r := 9) hk rfl ht
  | 10, _ => exact h.bool (r := 10) hk rfl hb
  | 11, _ => exact h.bool (r := 11) hk rfl hb
def IsBs (n : Nat) (xs : List DV) : Prop := xs.length = n ∧ ∀ i, i < n → xs[i]? = some (.bool (bAt xs i))
theorem Leaves.bools {P : Program} {b : TypeId} {n : Nat} {xs : List DV} (h : Leaves P [b] n xs) (hb : P.underlying b = some .bool) : IsBs n xs :=
  ⟨by have := h.1; simpa using this, fun i hi => by
    have := h.bool (k := i) (r := 0) hi rfl hb
    simpa using this⟩
end Go.Proofs.YtcaokljobfkajaaDoor

/-
  BoundsRejects answers true, whatever it is handed.
-/
namespace Go.Proofs.YtcaokljobfkajaaDoor
open Go.RowKit
set_option linter.unusedVariables false
set_option linter.unusedSimpArgs false
attribute [local irreducible] Ans AnsO AnsG AnsN AnsI

set_option maxRecDepth 4000
def gamBoundsRejects : Gam where
 pure := fun f xs =>
  if f = 16 then (match xs with | [.agg [.int _ bits, .int _ cx0, .int _ cy0, .int _ cx1, .int _ cy1, .int _ tw, .int _ th, .sl on oxs, .sl mn mxs, .sl pn pxs]] => some (RV.tup [RV.d (DV.sl ((boxesS (⟨bits, ⟨cx0, cy0, cx1, cy1⟩, tw, th, ints oxs, toIms mxs, toOps pxs⟩ : Scr)).1.length) (rcs (boxesS (⟨bits, ⟨cx0, cy0, cx1, cy1⟩, tw, th, ints oxs, toIms mxs, toOps pxs⟩ : Scr)).1)), RV.d (DV.int .i64 ((boxesS (⟨bits, ⟨cx0, cy0, cx1, cy1⟩, tw, th, ints oxs, toIms mxs, toOps pxs⟩ : Scr)).2))]) | _ => none) else
  if f = 20 then (match xs with | [.agg [.int _ bits, .int _ cx0, .int _ cy0, .int _ cx1, .int _ cy1, .int _ tw, .int _ th, .sl on oxs, .sl mn mxs, .sl pn pxs], .agg [.int _ ra, .int _ rb, .int _ rc_, .int _ rd]] => some (RV.tup [RV.d (DV.sl ((activeS (⟨bits, ⟨cx0, cy0, cx1, cy1⟩, tw, th, ints oxs, toIms mxs, toOps pxs⟩ : Scr) ⟨ra, rb, rc_, rd⟩).1.length) (bs (activeS (⟨bits, ⟨cx0, cy0, cx1, cy1⟩, tw, th, ints oxs, toIms mxs, toOps pxs⟩ : Scr) ⟨ra, rb, rc_, rd⟩).1)), RV.d (DV.int .i64 ((activeS (⟨bits, ⟨cx0, cy0, cx1, cy1⟩, tw, th, ints oxs, toIms mxs, toOps pxs⟩ : Scr) ⟨ra, rb, rc_, rd⟩).2))]) | _ => none) else
  if f = 10 then (match xs with | [] => some (RV.d (DV.bool true)) | _ => none) else
  if f = 17 then (match xs with | [.d (.sl n xs), .d (.sl m ys)] => some (RV.d (DV.bool (decide (toRcs (xs) = toRcs (ys))))) | _ => none) else
  if f = 17 then (match xs with | [.d (.sl n xs), .d (.sl m ys)] => some (RV.d (DV.bool (decide (toRcs (xs) = toRcs (ys))))) | _ => none) else
  none
 modes := fun f =>
  if f = 7 then some ([true], 0, 3) else
  if f = 15 then some ([true], 0, 1) else
  if f = 15 then some ([true], 0, 1) else
  if f = 15 then some ([true], 0, 1) else
  none
 proc := fun f xs bs =>
  if f = 7 then (match xs, bs with | [AV.agg [Cl.d (DV.int _ sb), Cl.d (DV.int _ sx), Cl.d (DV.int _ sy), Cl.d (DV.int _ sw), Cl.d (DV.int _ sh), Cl.d (DV.int _ stw), Cl.d (DV.int _ sth), Cl.d (DV.sl son soxs), Cl.d (DV.sl spn spxs), Cl.d (DV.sl srn srxs)]], [] => some ⟨AV.agg [Cl.d (DV.int .i64 (((⟨sb, sx, sy, sw, sh, stw, sth, son, soxs, spn, spxs, srn, srxs⟩ : Scn)).bits)), Cl.d (DV.int .i64 (((⟨sb, sx, sy, sw, sh, stw, sth, son, soxs, spn, spxs, srn, srxs⟩ : Scn)).c.a)), Cl.d (DV.int .i64 (((⟨sb, sx, sy, sw, sh, stw, sth, son, soxs, spn, spxs, srn, srxs⟩ : Scn)).c.b)), Cl.d (DV.int .i64 (((⟨sb, sx, sy, sw, sh, stw, sth, son, soxs, spn, spxs, srn, srxs⟩ : Scn)).c.c)), Cl.d (DV.int .i64 (((⟨sb, sx, sy, sw, sh, stw, sth, son, soxs, spn, spxs, srn, srxs⟩ : Scn)).c.d)), Cl.d (DV.int .i64 (((⟨sb, sx, sy, sw, sh, stw, sth, son, soxs, spn, spxs, srn, srxs⟩ : Scn)).gtw)), Cl.d (DV.int .i64 (((⟨sb, sx, sy, sw, sh, stw, sth, son, soxs, spn, spxs, srn, srxs⟩ : Scn)).gth)), Cl.ref 0 (((⟨sb, sx, sy, sw, sh, stw, sth, son, soxs, spn, spxs, srn, srxs⟩ : Scn)).ord.length), Cl.ref 1 (((⟨sb, sx, sy, sw, sh, stw, sth, son, soxs, spn, spxs, srn, srxs⟩ : Scn)).ims.length), Cl.ref 2 (((⟨sb, sx, sy, sw, sh, stw, sth, son, soxs, spn, spxs, srn, srxs⟩ : Scn)).ops.length)], [Bx.row 3 1 (is ((⟨sb, sx, sy, sw, sh, stw, sth, son, soxs, spn, spxs, srn, srxs⟩ : Scn)).ord), Bx.row 49 28 (ims ((⟨sb, sx, sy, sw, sh, stw, sth, son, soxs, spn, spxs, srn, srxs⟩ : Scn)).ims), Bx.row 29 12 (ops ((⟨sb, sx, sy, sw, sh, stw, sth, son, soxs, spn, spxs, srn, srxs⟩ : Scn)).ops)], false⟩ | _, _ => none) else
  if f = 15 then (match xs, bs with | [AV.agg [Cl.d (DV.int _ bits), Cl.d (DV.int _ cx0), Cl.d (DV.int _ cy0), Cl.d (DV.int _ cx1), Cl.d (DV.int _ cy1), Cl.d (DV.int _ tw), Cl.d (DV.int _ th), Cl.d (DV.sl on oxs), Cl.d (DV.sl mn mxs), Cl.d (DV.sl pn pxs)]], [] => some ⟨AV.tup [AV.one (Cl.ref 0 ((boxesS (⟨bits, ⟨cx0, cy0, cx1, cy1⟩, tw, th, ints oxs, toIms mxs, toOps pxs⟩ : Scr)).1.length)), AV.one (Cl.d (DV.int .i64 ((boxesS (⟨bits, ⟨cx0, cy0, cx1, cy1⟩, tw, th, ints oxs, toIms mxs, toOps pxs⟩ : Scr)).2)))], [Bx.row 33 4 (rcs (boxesS (⟨bits, ⟨cx0, cy0, cx1, cy1⟩, tw, th, ints oxs, toIms mxs, toOps pxs⟩ : Scr)).1)], true⟩ | _, _ => none) else
  if f = 15 then (match xs, bs with | [AV.agg [Cl.d (DV.int _ bits), Cl.d (DV.int _ cx0), Cl.d (DV.int _ cy0), Cl.d (DV.int _ cx1), Cl.d (DV.int _ cy1), Cl.d (DV.int _ tw), Cl.d (DV.int _ th), Cl.d (DV.sl on oxs), Cl.d (DV.sl mn mxs), Cl.d (DV.sl pn pxs)]], [] => some ⟨AV.tup [AV.one (Cl.ref 0 ((boxesS (⟨bits, ⟨cx0, cy0, cx1, cy1⟩, tw, th, ints oxs, toIms mxs, toOps pxs⟩ : Scr)).1.length)), AV.one (Cl.d (DV.int .i64 ((boxesS (⟨bits, ⟨cx0, cy0, cx1, cy1⟩, tw, th, ints oxs, toIms mxs, toOps pxs⟩ : Scr)).2)))], [Bx.row 33 4 (rcs (boxesS (⟨bits, ⟨cx0, cy0, cx1, cy1⟩, tw, th, ints oxs, toIms mxs, toOps pxs⟩ : Scr)).1)], true⟩ | _, _ => none) else
  if f = 15 then (match xs, bs with | [AV.agg [Cl.d (DV.int _ bits), Cl.d (DV.int _ cx0), Cl.d (DV.int _ cy0), Cl.d (DV.int _ cx1), Cl.d (DV.int _ cy1), Cl.d (DV.int _ tw), Cl.d (DV.int _ th), Cl.d (DV.sl on oxs), Cl.d (DV.sl mn mxs), Cl.d (DV.sl pn pxs)]], [] => some ⟨AV.tup [AV.one (Cl.ref 0 ((boxesS (⟨bits, ⟨cx0, cy0, cx1, cy1⟩, tw, th, ints oxs, toIms mxs, toOps pxs⟩ : Scr)).1.length)), AV.one (Cl.d (DV.int .i64 ((boxesS (⟨bits, ⟨cx0, cy0, cx1, cy1⟩, tw, th, ints oxs, toIms mxs, toOps pxs⟩ : Scr)).2)))], [Bx.row 33 4 (rcs (boxesS (⟨bits, ⟨cx0, cy0, cx1, cy1⟩, tw, th, ints oxs, toIms mxs, toOps pxs⟩ : Scr)).1)], true⟩ | _, _ => none) else
  none
 iter := fun f cs =>
  none

def L24_BoundsRejects_ann (s : Scn) (o : Oq) (p : Px) (r : Rc) : Ann := Ann.leaf
theorem L24_BoundsRejects_vc (s : Scn) (o : Oq) (p : Px) (r : Rc) : vcg Tryd.prog gamBoundsRejects 97 (bodyOf Tryd.f5) (L24_BoundsRejects_ann s o p r) kn0 (start [RV.agg [DV.int .i64 s.b, DV.int .i64 s.x, DV.int .i64 s.y, DV.int .i64 s.w, DV.int .i64 s.h, DV.int .i64 s.tw, DV.int .i64 s.th, DV.sl s.on s.oxs, DV.sl s.pn s.pxs, DV.sl s.rn s.rxs], RV.agg [DV.int .i64 o.kind, DV.int .i64 o.image, DV.int .i64 o.x, DV.int .i64 o.y, DV.int .i64 o.mask, DV.int .i64 o.mx, DV.int .i64 o.my, DV.int .u16 o.opac, DV.int .i64 o.oper, DV.int .i64 o.mode, DV.bool o.iso, DV.bool o.kno], RV.agg [DV.int .u16 p.a, DV.int .u16 p.b, DV.int .u16 p.c, DV.int .u16 p.al, DV.int .u16 p.f], RV.agg [DV.int .i64 r.a, DV.int .i64 r.b, DV.int .i64 r.c, DV.int .i64 r.d]]) (post Tryd.prog Tryd.f5.results.toList (· = RV.d (DV.bool true))) =
  (let zz0 := (DV.sl ((s).ord.length) (is (s).ord)); let zz1 := (DV.sl ((s).ops.length) (ops (s).ops)); let zz2 := (DV.sl ((s).ims.length) (sets (ims (s).ims) 3 ([DV.int .u16 p.a, DV.int .u16 p.b, DV.int .u16 p.c, DV.int .u16 p.al, DV.int .u16 p.f]))); let zz3 := [DV.int .i64 ((s).bits), DV.int .i64 ((s).c.a), DV.int .i64 ((s).c.b), DV.int .i64 ((s).c.c), DV.int .i64 ((s).c.d), DV.int .i64 ((s).gtw), DV.int .i64 ((s).gth), DV.sl ((s).ord.length) (is (s).ord), DV.sl ((s).ims.length) (sets (ims (s).ims) 3 ([DV.int .u16 p.a, DV.int .u16 p.b, DV.int .u16 p.c, DV.int .u16 p.al, DV.int .u16 p.f])), DV.sl (((s).ops.length) + 1) ((ops (s).ops) ++ ((Oq.cells (o))))]; True ∧ True ∧ True ∧ True ∧ True ∧ True ∧ (AnsG Tryd.prog 7 0 [AV.agg [Cl.d (DV.int .i64 s.b), Cl.d (DV.int .i64 s.x), Cl.d (DV.int .i64 s.y), Cl.d (DV.int .i64 s.w), Cl.d (DV.int .i64 s.h), Cl.d (DV.int .i64 s.tw), Cl.d (DV.int .i64 s.th), Cl.d (DV.sl s.on s.oxs), Cl.d (DV.sl s.pn s.pxs), Cl.d (DV.sl s.rn s.rxs)]] [] ⟨AV.agg [Cl.d (DV.int .i64 ((s).bits)), Cl.d (DV.int .i64 ((s).c.a)), Cl.d (DV.int .i64 ((s).c.b)), Cl.d (DV.int .i64 ((s).c.c)), Cl.d (DV.int .i64 ((s).c.d)), Cl.d (DV.int .i64 ((s).gtw)), Cl.d (DV.int .i64 ((s).gth)), Cl.ref 0 ((s).ord.length), Cl.ref 1 ((s).ims.length), Cl.ref 2 ((s).ops.length)], [Bx.row 3 1 (is (s).ord), Bx.row 49 28 (ims (s).ims), Bx.row 29 12 (ops (s).ops)], false⟩) ∧ True ∧ True ∧ True ∧ (AnsG Tryd.prog 15 0 [AV.agg [Cl.d (DV.int .i64 ((s).bits)), Cl.d (DV.int .i64 ((s).c.a)), Cl.d (DV.int .i64 ((s).c.b)), Cl.d (DV.int .i64 ((s).c.c)), Cl.d (DV.int .i64 ((s).c.d)), Cl.d (DV.int .i64 ((s).gtw)), Cl.d (DV.int .i64 ((s).gth)), Cl.d zz0, Cl.d (DV.sl ((s).ims.length) (ims (s).ims)), Cl.d zz1]] [] ⟨AV.tup [AV.one (Cl.ref 0 ((boxesS (⟨((s).bits), ((s).c), ((s).gtw), ((s).gth), ints (is (s).ord), toIms (ims (s).ims), toOps (ops (s).ops)⟩ : Scr)).1.length)), AV.one (Cl.d (DV.int .i64 ((boxesS (⟨((s).bits), ((s).c), ((s).gtw), ((s).gth), ints (is (s).ord), toIms (ims (s).ims), toOps (ops (s).ops)⟩ : Scr)).2)))], [Bx.row 33 4 (rcs (boxesS (⟨((s).bits), ((s).c), ((s).gtw), ((s).gth), ints (is (s).ord), toIms (ims (s).ims), toOps (ops (s).ops)⟩ : Scr)).1)], true⟩) ∧ True ∧ True ∧ True ∧ True ∧ True ∧ True ∧ True ∧ True ∧ (0 ≤ (0 : Int) ∧ (0 : Int) < (((s).ims.length : Nat) : Int)) ∧ True ∧ (3 + 5 ≤ (ims (s).ims).length) ∧ True ∧ (AnsG Tryd.prog 15 0 [AV.agg [Cl.d (DV.int .i64 ((s).bits)), Cl.d (DV.int .i64 ((s).c.a)), Cl.d (DV.int .i64 ((s).c.b)), Cl.d (DV.int .i64 ((s).c.c)), Cl.d (DV.int .i64 ((s).c.d)), Cl.d (DV.int .i64 ((s).gtw)), Cl.d (DV.int .i64 ((s).gth)), Cl.d zz0, Cl.d zz2, Cl.d zz1]] [] ⟨AV.tup [AV.one (Cl.ref 0 ((boxesS (⟨((s).bits), ((s).c), ((s).gtw), ((s).gth), ints (is (s).ord), toIms (sets (ims (s).ims) 3 ([DV.int .u16 p.a, DV.int .u16 p.b, DV.int .u16 p.c, DV.int .u16 p.al, DV.int .u16 p.f])), toOps (ops (s).ops)⟩ : Scr)).1.length)), AV.one (Cl.d (DV.int .i64 ((boxesS (⟨((s).bits), ((s).c), ((s).gtw), ((s).gth), ints (is (s).ord), toIms (sets (ims (s).ims) 3 ([DV.int .u16 p.a, DV.int .u16 p.b, DV.int .u16 p.c, DV.int .u16 p.al, DV.int .u16 p.f])), toOps (ops (s).ops)⟩ : Scr)).2)))], [Bx.row 33 4 (rcs (boxesS (⟨((s).bits), ((s).c), ((s).gtw), ((s).gth), ints (is (s).ord), toIms (sets (ims (s).ims) 3 ([DV.int .u16 p.a, DV.int .u16 p.b, DV.int .u16 p.c, DV.int .u16 p.al, DV.int .u16 p.f])), toOps (ops (s).ops)⟩ : Scr)).1)], true⟩) ∧ True ∧ True ∧ True ∧ True ∧ True ∧ True ∧ True ∧ True ∧ True ∧ (appVc 12 88 ((s).ops.length) 1 (ops (s).ops) ((Oq.cells (o)))) ∧ True ∧ True ∧ True ∧ (AnsG Tryd.prog 15 0 [AV.agg [Cl.d (DV.int .i64 ((s).bits)), Cl.d (DV.int .i64 ((s).c.a)), Cl.d (DV.int .i64 ((s).c.b)), Cl.d (DV.int .i64 ((s).c.c)), Cl.d (DV.int .i64 ((s).c.d)), Cl.d (DV.int .i64 ((s).gtw)), Cl.d (DV.int .i64 ((s).gth)), Cl.d zz0, Cl.d zz2, Cl.d (DV.sl (((s).ops.length) + 1) ((ops (s).ops) ++ ((Oq.cells (o)))))]] [] ⟨AV.tup [AV.one (Cl.ref 0 ((boxesS (⟨((s).bits), ((s).c), ((s).gtw), ((s).gth), ints (is (s).ord), toIms (sets (ims (s).ims) 3 ([DV.int .u16 p.a, DV.int .u16 p.b, DV.int .u16 p.c, DV.int .u16 p.al, DV.int .u16 p.f])), toOps ((ops (s).ops) ++ ((Oq.cells (o))))⟩ : Scr)).1.length)), AV.one (Cl.d (DV.int .i64 ((boxesS (⟨((s).bits), ((s).c), ((s).gtw), ((s).gth), ints (is (s).ord), toIms (sets (ims (s).ims) 3 ([DV.int .u16 p.a, DV.int .u16 p.b, DV.int .u16 p.c, DV.int .u16 p.al, DV.int .u16 p.f])), toOps ((ops (s).ops) ++ ((Oq.cells (o))))⟩ : Scr)).2)))], [Bx.row 33 4 (rcs (boxesS (⟨((s).bits), ((s).c), ((s).gtw), ((s).gth), ints (is (s).ord), toIms (sets (ims (s).ims) 3 ([DV.int .u16 p.a, DV.int .u16 p.b, DV.int .u16 p.c, DV.int .u16 p.al, DV.int .u16 p.f])), toOps ((ops (s).ops) ++ ((Oq.cells (o))))⟩ : Scr)).1)], true⟩) ∧ True ∧ True ∧ True ∧ True ∧ True ∧ True ∧ (Ans Tryd.prog 16 [RV.agg zz3] (RV.tup [RV.d (DV.sl ((boxesS (⟨((s).bits), ((s).c), ((s).gtw), ((s).gth), ints (is (s).ord), toIms (sets (ims (s).ims) 3 ([DV.int .u16 p.a, DV.int .u16 p.b, DV.int .u16 p.c, DV.int .u16 p.al, DV.int .u16 p.f])), toOps ((ops (s).ops) ++ ((Oq.cells (o))))⟩ : Scr)).1.length) (rcs (boxesS (⟨((s).bits), ((s).c), ((s).gtw), ((s).gth), ints (is (s).ord), toIms (sets (ims (s).ims) 3 ([DV.int .u16 p.a, DV.int .u16 p.b, DV.int .u16 p.c, DV.int .u16 p.al, DV.int .u16 p.f])), toOps ((ops (s).ops) ++ ((Oq.cells (o))))⟩ : Scr)).1)), RV.d (DV.int .i64 ((boxesS (⟨((s).bits), ((s).c), ((s).gtw), ((s).gth), ints (is (s).ord), toIms (sets (ims (s).ims) 3 ([DV.int .u16 p.a, DV.int .u16 p.b, DV.int .u16 p.c, DV.int .u16 p.al, DV.int .u16 p.f])), toOps ((ops (s).ops) ++ ((Oq.cells (o))))⟩ : Scr)).2))])) ∧ True ∧ True ∧ True ∧ True ∧ True ∧ True ∧ True ∧ (Ans Tryd.prog 20 [RV.agg zz3, RV.agg [DV.int .i64 r.a, DV.int .i64 r.b, DV.int .i64 r.c, DV.int .i64 r.d]] (RV.tup [RV.d (DV.sl ((activeS (⟨((s).bits), ((s).c), ((s).gtw), ((s).gth), ints (is (s).ord), toIms (sets (ims (s).ims) 3 ([DV.int .u16 p.a, DV.int .u16 p.b, DV.int .u16 p.c, DV.int .u16 p.al, DV.int .u16 p.f])), toOps ((ops (s).ops) ++ ((Oq.cells (o))))⟩ : Scr) r).1.length) (bs (activeS (⟨((s).bits), ((s).c), ((s).gtw), ((s).gth), ints (is (s).ord), toIms (sets (ims (s).ims) 3 ([DV.int .u16 p.a, DV.int .u16 p.b, DV.int .u16 p.c, DV.int .u16 p.al, DV.int .u16 p.f])), toOps ((ops (s).ops) ++ ((Oq.cells (o))))⟩ : Scr) r).1)), RV.d (DV.int .i64 ((activeS (⟨((s).bits), ((s).c), ((s).gtw), ((s).gth), ints (is (s).ord), toIms (sets (ims (s).ims) 3 ([DV.int .u16 p.a, DV.int .u16 p.b, DV.int .u16 p.c, DV.int .u16 p.al, DV.int .u16 p.f])), toOps ((ops (s).ops) ++ ((Oq.cells (o))))⟩ : Scr) r).2))])) ∧ True ∧ True ∧ True ∧ True ∧ True ∧ (Ans Tryd.prog 10 [] (RV.d (DV.bool true))) ∧ True ∧ ((true = true → True ∧ True ∧ True ∧ True ∧ (((((boxesS (⟨((s).bits), ((s).c), ((s).gtw), ((s).gth), ints (is (s).ord), toIms (ims (s).ims), toOps (ops (s).ops)⟩ : Scr)).2) == (0 : Int)) = true → True ∧ True ∧ True ∧ True ∧ (((((boxesS (⟨((s).bits), ((s).c), ((s).gtw), ((s).gth), ints (is (s).ord), toIms (sets (ims (s).ims) 3 ([DV.int .u16 p.a, DV.int .u16 p.b, DV.int .u16 p.c, DV.int .u16 p.al, DV.int .u16 p.f])), toOps (ops (s).ops)⟩ : Scr)).2) == (0 : Int)) = true → True ∧ True ∧ (Ans Tryd.prog 17 [RV.d (DV.sl ((boxesS (⟨((s).bits), ((s).c), ((s).gtw), ((s).gth), ints (is (s).ord), toIms (ims (s).ims), toOps (ops (s).ops)⟩ : Scr)).1.length) (rcs (boxesS (⟨((s).bits), ((s).c), ((s).gtw), ((s).gth), ints (is (s).ord), toIms (ims (s).ims), toOps (ops (s).ops)⟩ : Scr)).1)), RV.d (DV.sl ((boxesS (⟨((s).bits), ((s).c), ((s).gtw), ((s).gth), ints (is (s).ord), toIms (sets (ims (s).ims) 3 ([DV.int .u16 p.a, DV.int .u16 p.b, DV.int .u16 p.c, DV.int .u16 p.al, DV.int .u16 p.f])), toOps (ops (s).ops)⟩ : Scr)).1.length) (rcs (boxesS (⟨((s).bits), ((s).c), ((s).gtw), ((s).gth), ints (is (s).ord), toIms (sets (ims (s).ims) 3 ([DV.int .u16 p.a, DV.int .u16 p.b, DV.int .u16 p.c, DV.int .u16 p.al, DV.int .u16 p.f])), toOps (ops (s).ops)⟩ : Scr)).1))] (RV.d (DV.bool (decide (toRcs ((rcs (boxesS (⟨((s).bits), ((s).c), ((s).gtw), ((s).gth), ints (is (s).ord), toIms (ims (s).ims), toOps (ops (s).ops)⟩ : Scr)).1)) = toRcs ((rcs (boxesS (⟨((s).bits), ((s).c), ((s).gtw), ((s).gth), ints (is (s).ord), toIms (sets (ims (s).ims) 3 ([DV.int .u16 p.a, DV.int .u16 p.b, DV.int .u16 p.c, DV.int .u16 p.al, DV.int .u16 p.f])), toOps (ops (s).ops)⟩ : Scr)).1))))))) ∧ True ∧ True ∧ (((decide (toRcs ((rcs (boxesS (⟨((s).bits), ((s).c), ((s).gtw), ((s).gth), ints (is (s).ord), toIms (ims (s).ims), toOps (ops (s).ops)⟩ : Scr)).1)) = toRcs ((rcs (boxesS (⟨((s).bits), ((s).c), ((s).gtw), ((s).gth), ints (is (s).ord), toIms (sets (ims (s).ims) 3 ([DV.int .u16 p.a, DV.int .u16 p.b, DV.int .u16 p.c, DV.int .u16 p.al, DV.int .u16 p.f])), toOps (ops (s).ops)⟩ : Scr)).1)))) = true → True ∧ True ∧ True ∧ True ∧ True ∧ (((((boxesS (⟨((s).bits), ((s).c), ((s).gtw), ((s).gth), ints (is (s).ord), toIms (sets (ims (s).ims) 3 ([DV.int .u16 p.a, DV.int .u16 p.b, DV.int .u16 p.c, DV.int .u16 p.al, DV.int .u16 p.f])), toOps ((ops (s).ops) ++ ((Oq.cells (o))))⟩ : Scr)).2) == ((boxesS (⟨((s).bits), ((s).c), ((s).gtw), ((s).gth), ints (is (s).ord), toIms (sets (ims (s).ims) 3 ([DV.int .u16 p.a, DV.int .u16 p.b, DV.int .u16 p.c, DV.int .u16 p.al, DV.int .u16 p.f])), toOps ((ops (s).ops) ++ ((Oq.cells (o))))⟩ : Scr)).2)) = true → True ∧ True ∧ (Ans Tryd.prog 17 [RV.d (DV.sl ((boxesS (⟨((s).bits), ((s).c), ((s).gtw), ((s).gth), ints (is (s).ord), toIms (sets (ims (s).ims) 3 ([DV.int .u16 p.a, DV.int .u16 p.b, DV.int .u16 p.c, DV.int .u16 p.al, DV.int .u16 p.f])), toOps ((ops (s).ops) ++ ((Oq.cells (o))))⟩ : Scr)).1.length) (rcs (boxesS (⟨((s).bits), ((s).c), ((s).gtw), ((s).gth), ints (is (s).ord), toIms (sets (ims (s).ims) 3 ([DV.int .u16 p.a, DV.int .u16 p.b, DV.int .u16 p.c, DV.int .u16 p.al, DV.int .u16 p.f])), toOps ((ops (s).ops) ++ ((Oq.cells (o))))⟩ : Scr)).1)), RV.d (DV.sl ((boxesS (⟨((s).bits), ((s).c), ((s).gtw), ((s).gth), ints (is (s).ord), toIms (sets (ims (s).ims) 3 ([DV.int .u16 p.a, DV.int .u16 p.b, DV.int .u16 p.c, DV.int .u16 p.al, DV.int .u16 p.f])), toOps ((ops (s).ops) ++ ((Oq.cells (o))))⟩ : Scr)).1.length) (rcs (boxesS (⟨((s).bits), ((s).c), ((s).gtw), ((s).gth), ints (is (s).ord), toIms (sets (ims (s).ims) 3 ([DV.int .u16 p.a, DV.int .u16 p.b, DV.int .u16 p.c, DV.int .u16 p.al, DV.int .u16 p.f])), toOps ((ops (s).ops) ++ ((Oq.cells (o))))⟩ : Scr)).1))] (RV.d (DV.bool (decide (toRcs ((rcs (boxesS (⟨((s).bits), ((s).c), ((s).gtw), ((s).gth), ints (is (s).ord), toIms (sets (ims (s).ims) 3 ([DV.int .u16 p.a, DV.int .u16 p.b, DV.int .u16 p.c, DV.int .u16 p.al, DV.int .u16 p.f])), toOps ((ops (s).ops) ++ ((Oq.cells (o))))⟩ : Scr)).1)) = toRcs ((rcs (boxesS (⟨((s).bits), ((s).c), ((s).gtw), ((s).gth), ints (is (s).ord), toIms (sets (ims (s).ims) 3 ([DV.int .u16 p.a, DV.int .u16 p.b, DV.int .u16 p.c, DV.int .u16 p.al, DV.int .u16 p.f])), toOps ((ops (s).ops) ++ ((Oq.cells (o))))⟩ : Scr)).1))))))) ∧ True ∧ True ∧ (((decide (toRcs ((rcs (boxesS (⟨((s).bits), ((s).c), ((s).gtw), ((s).gth), ints (is (s).ord), toIms (sets (ims (s).ims) 3 ([DV.int .u16 p.a, DV.int .u16 p.b, DV.int .u16 p.c, DV.int .u16 p.al, DV.int .u16 p.f])), toOps ((ops (s).ops) ++ ((Oq.cells (o))))⟩ : Scr)).1)) = toRcs ((rcs (boxesS (⟨((s).bits), ((s).c), ((s).gtw), ((s).gth), ints (is (s).ord), toIms (sets (ims (s).ims) 3 ([DV.int .u16 p.a, DV.int .u16 p.b, DV.int .u16 p.c, DV.int .u16 p.al, DV.int .u16 p.f])), toOps ((ops (s).ops) ++ ((Oq.cells (o))))⟩ : Scr)).1)))) = true → True ∧ True ∧ True ∧ True ∧ True ∧ (((((activeS (⟨((s).bits), ((s).c), ((s).gtw), ((s).gth), ints (is (s).ord), toIms (sets (ims (s).ims) 3 ([DV.int .u16 p.a, DV.int .u16 p.b, DV.int .u16 p.c, DV.int .u16 p.al, DV.int .u16 p.f])), toOps ((ops (s).ops) ++ ((Oq.cells (o))))⟩ : Scr) r).2) == ((boxesS (⟨((s).bits), ((s).c), ((s).gtw), ((s).gth), ints (is (s).ord), toIms (sets (ims (s).ims) 3 ([DV.int .u16 p.a, DV.int .u16 p.b, DV.int .u16 p.c, DV.int .u16 p.al, DV.int .u16 p.f])), toOps ((ops (s).ops) ++ ((Oq.cells (o))))⟩ : Scr)).2)) = true → True ∧ True ∧ True ∧ (((((boxesS (⟨((s).bits), ((s).c), ((s).gtw), ((s).gth), ints (is (s).ord), toIms (sets (ims (s).ims) 3 ([DV.int .u16 p.a, DV.int .u16 p.b, DV.int .u16 p.c, DV.int .u16 p.al, DV.int .u16 p.f])), toOps ((ops (s).ops) ++ ((Oq.cells (o))))⟩ : Scr)).2) == (0 : Int)) = false → True ∧ True ∧ True ∧ True ∧ True ∧ True ∧ RV.d (DV.bool ((((activeS (⟨((s).bits), ((s).c), ((s).gtw), ((s).gth), ints (is (s).ord), toIms (sets (ims (s).ims) 3 ([DV.int .u16 p.a, DV.int .u16 p.b, DV.int .u16 p.c, DV.int .u16 p.al, DV.int .u16 p.f])), toOps ((ops (s).ops) ++ ((Oq.cells (o))))⟩ : Scr) r).1.length : Nat) : Int) == (0 : Int))) = RV.d (DV.bool true)) ∧ ((((boxesS (⟨((s).bits), ((s).c), ((s).gtw), ((s).gth), ints (is (s).ord), toIms (sets (ims (s).ims) 3 ([DV.int .u16 p.a, DV.int .u16 p.b, DV.int .u16 p.c, DV.int .u16 p.al, DV.int .u16 p.f])), toOps ((ops (s).ops) ++ ((Oq.cells (o))))⟩ : Scr)).2) == (0 : Int)) = (!false) → True ∧ True ∧ True ∧ RV.d (DV.bool true) = RV.d (DV.bool true)))) ∧ ((((activeS (⟨((s).bits), ((s).c), ((s).gtw), ((s).gth), ints (is (s).ord), toIms (sets (ims (s).ims) 3 ([DV.int .u16 p.a, DV.int .u16 p.b, DV.int .u16 p.c, DV.int .u16 p.al, DV.int .u16 p.f])), toOps ((ops (s).ops) ++ ((Oq.cells (o))))⟩ : Scr) r).2) == ((boxesS (⟨((s).bits), ((s).c), ((s).gtw), ((s).gth), ints (is (s).ord), toIms (sets (ims (s).ims) 3 ([DV.int .u16 p.a, DV.int .u16 p.b, DV.int .u16 p.c, DV.int .u16 p.al, DV.int .u16 p.f])), toOps ((ops (s).ops) ++ ((Oq.cells (o))))⟩ : Scr)).2)) = (!true) → True ∧ True ∧ RV.d (DV.bool false) = RV.d (DV.bool true)))) ∧ ((decide (toRcs ((rcs (boxesS (⟨((s).bits), ((s).c), ((s).gtw), ((s).gth), ints (is (s).ord), toIms (sets (ims (s).ims) 3 ([DV.int .u16 p.a, DV.int .u16 p.b, DV.int .u16 p.c, DV.int .u16 p.al, DV.int .u16 p.f])), toOps ((ops (s).ops) ++ ((Oq.cells (o))))⟩ : Scr)).1)) = toRcs ((rcs (boxesS (⟨((s).bits), ((s).c), ((s).gtw), ((s).gth), ints (is (s).ord), toIms (sets (ims (s).ims) 3 ([DV.int .u16 p.a, DV.int .u16 p.b, DV.int .u16 p.c, DV.int .u16 p.al, DV.int .u16 p.f])), toOps ((ops (s).ops) ++ ((Oq.cells (o))))⟩ : Scr)).1)))) = (!true) → True ∧ True ∧ True ∧ True ∧ RV.d (DV.bool false) = RV.d (DV.bool true)))) ∧ ((((boxesS (⟨((s).bits), ((s).c), ((s).gtw), ((s).gth), ints (is (s).ord), toIms (sets (ims (s).ims) 3 ([DV.int .u16 p.a, DV.int .u16 p.b, DV.int .u16 p.c, DV.int .u16 p.al, DV.int .u16 p.f])), toOps ((ops (s).ops) ++ ((Oq.cells (o))))⟩ : Scr)).2) == ((boxesS (⟨((s).bits), ((s).c), ((s).gtw), ((s).gth), ints (is (s).ord), toIms (sets (ims (s).ims) 3 ([DV.int .u16 p.a, DV.int .u16 p.b, DV.int .u16 p.c, DV.int .u16 p.al, DV.int .u16 p.f])), toOps ((ops (s).ops) ++ ((Oq.cells (o))))⟩ : Scr)).2)) = (!true) → True ∧ True ∧ True ∧ True ∧ True ∧ True ∧ RV.d (DV.bool false) = RV.d (DV.bool true)))) ∧ ((decide (toRcs ((rcs (boxesS (⟨((s).bits), ((s).c), ((s).gtw), ((s).gth), ints (is (s).ord), toIms (ims (s).ims), toOps (ops (s).ops)⟩ : Scr)).1)) = toRcs ((rcs (boxesS (⟨((s).bits), ((s).c), ((s).gtw), ((s).gth), ints (is (s).ord), toIms (sets (ims (s).ims) 3 ([DV.int .u16 p.a, DV.int .u16 p.b, DV.int .u16 p.c, DV.int .u16 p.al, DV.int .u16 p.f])), toOps (ops (s).ops)⟩ : Scr)).1)))) = (!true) → True ∧ True ∧ True ∧ True ∧ True ∧ True ∧ True ∧ True ∧ RV.d (DV.bool false) = RV.d (DV.bool true)))) ∧ ((((boxesS (⟨((s).bits), ((s).c), ((s).gtw), ((s).gth), ints (is (s).ord), toIms (sets (ims (s).ims) 3 ([DV.int .u16 p.a, DV.int .u16 p.b, DV.int .u16 p.c, DV.int .u16 p.al, DV.int .u16 p.f])), toOps (ops (s).ops)⟩ : Scr)).2) == (0 : Int)) = (!true) → True ∧ True ∧ True ∧ True ∧ True ∧ True ∧ True ∧ True ∧ True ∧ True ∧ RV.d (DV.bool false) = RV.d (DV.bool true)))) ∧ ((((boxesS (⟨((s).bits), ((s).c), ((s).gtw), ((s).gth), ints (is (s).ord), toIms (ims (s).ims), toOps (ops (s).ops)⟩ : Scr)).2) == (0 : Int)) = (!true) → True ∧ True ∧ True ∧ True ∧ True ∧ True ∧ True ∧ True ∧ True ∧ True ∧ True ∧ True ∧ RV.d (DV.bool false) = RV.d (DV.bool true)))) ∧ (true = (!true) → True ∧ True ∧ True ∧ True ∧ True ∧ True ∧ True ∧ True ∧ True ∧ True ∧ True ∧ True ∧ True ∧ True ∧ RV.d (DV.bool false) = RV.d (DV.bool true)))) := by kernel_rfl
theorem L24_BoundsRejects_ans (s : Scn) (o : Oq) (p : Px) (r : Rc) (hs : s.ok) : Ans Tryd.prog 5 [RV.agg [DV.int .i64 s.b, DV.int .i64 s.x, DV.int .i64 s.y, DV.int .i64 s.w, DV.int .i64 s.h, DV.int .i64 s.tw, DV.int .i64 s.th, DV.sl s.on s.oxs, DV.sl s.pn s.pxs, DV.sl s.rn s.rxs], RV.agg [DV.int .i64 o.kind, DV.int .i64 o.image, DV.int .i64 o.x, DV.int .i64 o.y, DV.int .i64 o.mask, DV.int .i64 o.mx, DV.int .i64 o.my, DV.int .u16 o.opac, DV.int .i64 o.oper, DV.int .i64 o.mode, DV.bool o.iso, DV.bool o.kno], RV.agg [DV.int .u16 p.a, DV.int .u16 p.b, DV.int .u16 p.c, DV.int .u16 p.al, DV.int .u16 p.f], RV.agg [DV.int .i64 r.a, DV.int .i64 r.b, DV.int .i64 r.c, DV.int .i64 r.d]] (RV.d (DV.bool true)) :=
  ans_of_vcg (Γ := gamBoundsRejects) (L24_BoundsRejects_ann s o p r) mixed_ Tryd.func5 rfl (Nat.le_of_ble_eq_true rfl) fun hwf => by
    refine Eq.mpr (L24_BoundsRejects_vc s o p r) ?_
    simp only [true_and, and_true, RV.d.injEq, RV.agg.injEq, RV.tup.injEq, DV.bool.injEq, DV.int.injEq, DV.sl.injEq, List.cons.injEq, forall_const, Bool.not_false, Bool.not_true, Bool.not_eq_true', Bool.not_eq_false', decide_eq_true_eq, decide_eq_false_iff_not, Int.toNat_natCast, L24_awake_ans, G_Mod_ans]
    have li := s.ims_len
    have lo := s.ops_len
    have hM : ∀ n : Nat, n ≤ 100 → n ≤ maxLen := fun n h => by unfold maxLen; omega
    have hr : s.scr.run.1 = 0 := by rw [s.scr_run]
    have e0 : (boxesS s.scr).2 = 0 := (boxes_in hr).2.1
    obtain ⟨m, l, hml⟩ : ∃ m l, s.ims = m :: l := by
      cases h : s.ims with
      | nil => rw [h] at li; simp at li
      | cons m l => exact ⟨m, l, rfl⟩
    have e : sets (ims s.ims) 3 [DV.int .u16 p.a, DV.int .u16 p.b, DV.int .u16 p.c, DV.int .u16 p.al, DV.int .u16 p.f] = ims ({ m with c := p } :: l) := by
      rw [hml, ims_cons, ims_cons]; rfl
    have le : s.ims.length = ({ m with c := p } :: l : List Im).length := by rw [hml]; rfl
    have eo : ops s.ops ++ o.cells = ops (s.ops ++ [o]) := by rw [ops_append, ops_one]
    have lo3 : (s.ops ++ [o]).length = s.ops.length + 1 := by simp
    have hI : 8 ≤ (ims s.ims).length := by rw [ims_length]; omega
    have hO : (ops s.ops).length = s.ops.length * 12 := ops_length _
    have b12 : boxesS ⟨s.bits, s.c, s.gtw, s.gth, s.ord, { m with c := p } :: l, s.ops⟩ = boxesS s.scr := boxes_same rfl (by show _ = s.ims.length; rw [hml]; rfl) (fun i => by
      show _ = (s.ims[i]?).map _
      rw [hml]
      cases i <;> rfl)
    have act2 : ∀ (t : Scr) (r : Rc), (activeS t r).2 = (boxesS t).2 ∧ ((boxesS t).2 = 0 ∨ (activeS t r).1.length = 0) := fun t r => by
      by_cases h : t.run.1 = 0
      · rw [(boxes_in h).2.1]
        unfold activeS
        rw [if_pos h]
        exact ⟨rfl, .inl rfl⟩
      · rw [boxes_err h]
        unfold activeS
        rw [if_neg h]
        exact ⟨rfl, .inr rfl⟩
    have gs := G_Script_ans s hs
    have G1 := bounds_BoxesG_ans s.scr
    have G2 := bounds_BoxesG_ans ⟨s.bits, s.c, s.gtw, s.gth, s.ord, { m with c := p } :: l, s.ops⟩
    have G3 := bounds_BoxesG_ans ⟨s.bits, s.c, s.gtw, s.gth, s.ord, { m with c := p } :: l, s.ops ++ [o]⟩
    have R3 := R22_Boxes_ans ⟨s.bits, s.c, s.gtw, s.gth, s.ord, { m with c := p } :: l, s.ops ++ [o]⟩
    have A3 := bounds_Active_ans ⟨s.bits, s.c, s.gtw, s.gth, s.ord, { m with c := p } :: l, s.ops ++ [o]⟩ r
    have ac := act2 ⟨s.bits, s.c, s.gtw, s.gth, s.ord, { m with c := p } :: l, s.ops ++ [o]⟩ r
    have hS : (⟨s.bits, s.c, s.gtw, s.gth, s.ord, s.ims, s.ops⟩ : Scr) = s.scr := rfl
    simp only [← le, lo3, b12] at G2 G3 R3 A3
    simp only [e, eo, ints_is, toIms_ims, toOps_ops, hS, b12, e0, toRcs_rcs]
    simp only [e0] at G1 G2
    have sm := fun x : List Rc => L24_same_ans x x
    simp only [toRcs_rcs, decide_true] at sm ⊢
    clear e le hml eo act2 b12 hr hS
    generalize boxesS ⟨s.bits, s.c, s.gtw, s.gth, s.ord, { m with c := p } :: l, s.ops ++ [o]⟩ = B3 at *
    generalize activeS ⟨s.bits, s.c, s.gtw, s.gth, s.ord, { m with c := p } :: l, s.ops ++ [o]⟩ r = A at *
    obtain ⟨ac1, ac2⟩ := ac
    (repeat' (first | apply And.intro | intro _)) <;> (first | assumption | exact sm _ | omega | rfl | exact hM _ (by omega) | (simp_all; done))

end Go.Proofs.YtcaokljobfkajaaDoor

/-
  The program's own closed facts, once: each a declaration of its own.
-/
namespace Go.Proofs.YtcaokljobfkajaaDoor.closed
open Go
set_option linter.unusedVariables false
set_option linter.unusedSimpArgs false

set_option maxRecDepth 100000 in
theorem headWord : Tryd.prog.initOrder = String.ofList [Char.ofNat 104, Char.ofNat 97, Char.ofNat 114, Char.ofNat 110, Char.ofNat 101, Char.ofNat 115, Char.ofNat 115, Char.ofNat 32, Char.ofNat 51, Char.ofNat 49, Char.ofNat 101, Char.ofNat 99, Char.ofNat 102, Char.ofNat 49, Char.ofNat 53, Char.ofNat 50, Char.ofNat 53, Char.ofNat 99, Char.ofNat 52, Char.ofNat 101, Char.ofNat 101, Char.ofNat 57, Char.ofNat 48, Char.ofNat 57, Char.ofNat 51, Char.ofNat 98, Char.ofNat 49, Char.ofNat 101, Char.ofNat 98, Char.ofNat 99, Char.ofNat 49, Char.ofNat 56, Char.ofNat 50, Char.ofNat 99, Char.ofNat 98, Char.ofNat 97, Char.ofNat 102, Char.ofNat 99, Char.ofNat 56, Char.ofNat 97, Char.ofNat 100, Char.ofNat 52, Char.ofNat 100, Char.ofNat 53, Char.ofNat 102, Char.ofNat 50, Char.ofNat 55, Char.ofNat 54, Char.ofNat 56, Char.ofNat 56, Char.ofNat 99, Char.ofNat 57, Char.ofNat 50, Char.ofNat 97, Char.ofNat 49, Char.ofNat 54, Char.ofNat 55, Char.ofNat 49, Char.ofNat 57, Char.ofNat 97, Char.ofNat 57, Char.ofNat 98, Char.ofNat 50, Char.ofNat 52, Char.ofNat 57, Char.ofNat 57, Char.ofNat 98, Char.ofNat 56, Char.ofNat 99, Char.ofNat 99, Char.ofNat 97, Char.ofNat 48, Char.ofNat 32, Char.ofNat 99, Char.ofNat 117, Char.ofNat 116, Char.ofNat 32, Char.ofNat 97, Char.ofNat 116, Char.ofNat 32, Char.ofNat 99, Char.ofNat 111, Char.ofNat 109, Char.ofNat 112, Char.ofNat 111, Char.ofNat 115, Char.ofNat 105, Char.ofNat 116, Char.ofNat 111, Char.ofNat 114, Char.ofNat 47, Char.ofNat 99, Char.ofNat 111, Char.ofNat 109, Char.ofNat 112, Char.ofNat 111, Char.ofNat 115, Char.ofNat 105, Char.ofNat 116, Char.ofNat 111, Char.ofNat 114, Char.ofNat 108, Char.ofNat 97, Char.ofNat 119, Char.ofNat 50, Char.ofNat 52, Char.ofNat 46, Char.ofNat 66, Char.ofNat 111, Char.ofNat 117, Char.ofNat 110, Char.ofNat 100, Char.ofNat 115, Char.ofNat 82, Char.ofNat 101, Char.ofNat 99, Char.ofNat 116, Char.ofNat 115, Char.ofNat 65, Char.ofNat 103, Char.ofNat 114, Char.ofNat 101, Char.ofNat 101, Char.ofNat 32, Char.ofNat 99, Char.ofNat 111, Char.ofNat 109, Char.ofNat 112, Char.ofNat 111, Char.ofNat 115, Char.ofNat 105, Char.ofNat 116, Char.ofNat 111, Char.ofNat 114, Char.ofNat 47, Char.ofNat 99, Char.ofNat 111, Char.ofNat 109, Char.ofNat 112, Char.ofNat 111, Char.ofNat 115, Char.ofNat 105, Char.ofNat 116, Char.ofNat 111, Char.ofNat 114, Char.ofNat 108, Char.ofNat 97, Char.ofNat 119, Char.ofNat 50, Char.ofNat 52, Char.ofNat 46, Char.ofNat 66, Char.ofNat 111, Char.ofNat 117, Char.ofNat 110, Char.ofNat 100, Char.ofNat 115, Char.ofNat 66, Char.ofNat 111, Char.ofNat 120, Char.ofNat 101, Char.ofNat 115, Char.ofNat 65, Char.ofNat 103, Char.ofNat 114, Char.ofNat 101, Char.ofNat 101, Char.ofNat 32, Char.ofNat 99, Char.ofNat 111, Char.ofNat 109, Char.ofNat 112, Char.ofNat 111, Char.ofNat 115, Char.ofNat 105, Char.ofNat 116, Char.ofNat 111, Char.ofNat 114, Char.ofNat 47, Char.ofNat 99, Char.ofNat 111, Char.ofNat 109, Char.ofNat 112, Char.ofNat 111, Char.ofNat 115, Char.ofNat 105, Char.ofNat 116, Char.ofNat 111, Char.ofNat 114, Char.ofNat 108, Char.ofNat 97, Char.ofNat 119, Char.ofNat 50, Char.ofNat 52, Char.ofNat 46, Char.ofNat 66, Char.ofNat 111, Char.ofNat 117, Char.ofNat 110, Char.ofNat 100, Char.ofNat 115, Char.ofNat 82, Char.ofNat 101, Char.ofNat 106, Char.ofNat 101, Char.ofNat 99, Char.ofNat 116, Char.ofNat 115, Char.ofNat 32, Char.ofNat 99, Char.ofNat 111, Char.ofNat 109, Char.ofNat 112, Char.ofNat 111, Char.ofNat 115, Char.ofNat 105, Char.ofNat 116, Char.ofNat 111, Char.ofNat 114, Char.ofNat 47, Char.ofNat 99, Char.ofNat 111, Char.ofNat 109, Char.ofNat 112, Char.ofNat 111, Char.ofNat 115, Char.ofNat 105, Char.ofNat 116, Char.ofNat 111, Char.ofNat 114, Char.ofNat 108, Char.ofNat 97, Char.ofNat 119, Char.ofNat 50, Char.ofNat 52, Char.ofNat 46, Char.ofNat 66, Char.ofNat 111, Char.ofNat 117, Char.ofNat 110, Char.ofNat 100, Char.ofNat 115, Char.ofNat 65, Char.ofNat 99, Char.ofNat 116, Char.ofNat 105, Char.ofNat 118, Char.ofNat 101, Char.ofNat 73, Char.ofNat 115, Char.ofNat 66, Char.ofNat 97, Char.ofNat 108, Char.ofNat 97, Char.ofNat 110, Char.ofNat 99, Char.ofNat 101, Char.ofNat 100] := by kernel_rfl
set_option maxRecDepth 100000 in
theorem headSigns : Tryd.prog.initOrder.toList = [Char.ofNat 104, Char.ofNat 97, Char.ofNat 114, Char.ofNat 110, Char.ofNat 101, Char.ofNat 115, Char.ofNat 115, Char.ofNat 32, Char.ofNat 51, Char.ofNat 49, Char.ofNat 101, Char.ofNat 99, Char.ofNat 102, Char.ofNat 49, Char.ofNat 53, Char.ofNat 50, Char.ofNat 53, Char.ofNat 99, Char.ofNat 52, Char.ofNat 101, Char.ofNat 101, Char.ofNat 57, Char.ofNat 48, Char.ofNat 57, Char.ofNat 51, Char.ofNat 98, Char.ofNat 49, Char.ofNat 101, Char.ofNat 98, Char.ofNat 99, Char.ofNat 49, Char.ofNat 56, Char.ofNat 50, Char.ofNat 99, Char.ofNat 98, Char.ofNat 97, Char.ofNat 102, Char.ofNat 99, Char.ofNat 56, Char.ofNat 97, Char.ofNat 100, Char.ofNat 52, Char.ofNat 100, Char.ofNat 53, Char.ofNat 102, Char.ofNat 50, Char.ofNat 55, Char.ofNat 54, Char.ofNat 56, Char.ofNat 56, Char.ofNat 99, Char.ofNat 57, Char.ofNat 50, Char.ofNat 97, Char.ofNat 49, Char.ofNat 54, Char.ofNat 55, Char.ofNat 49, Char.ofNat 57, Char.ofNat 97, Char.ofNat 57, Char.ofNat 98, Char.ofNat 50, Char.ofNat 52, Char.ofNat 57, Char.ofNat 57, Char.ofNat 98, Char.ofNat 56, Char.ofNat 99, Char.ofNat 99, Char.ofNat 97, Char.ofNat 48, Char.ofNat 32, Char.ofNat 99, Char.ofNat 117, Char.ofNat 116, Char.ofNat 32, Char.ofNat 97, Char.ofNat 116, Char.ofNat 32, Char.ofNat 99, Char.ofNat 111, Char.ofNat 109, Char.ofNat 112, Char.ofNat 111, Char.ofNat 115, Char.ofNat 105, Char.ofNat 116, Char.ofNat 111, Char.ofNat 114, Char.ofNat 47, Char.ofNat 99, Char.ofNat 111, Char.ofNat 109, Char.ofNat 112, Char.ofNat 111, Char.ofNat 115, Char.ofNat 105, Char.ofNat 116, Char.ofNat 111, Char.ofNat 114, Char.ofNat 108, Char.ofNat 97, Char.ofNat 119, Char.ofNat 50, Char.ofNat 52, Char.ofNat 46, Char.ofNat 66, Char.ofNat 111, Char.ofNat 117, Char.ofNat 110, Char.ofNat 100, Char.ofNat 115, Char.ofNat 82, Char.ofNat 101, Char.ofNat 99, Char.ofNat 116, Char.ofNat 115, Char.ofNat 65, Char.ofNat 103, Char.ofNat 114, Char.ofNat 101, Char.ofNat 101, Char.ofNat 32, Char.ofNat 99, Char.ofNat 111, Char.ofNat 109, Char.ofNat 112, Char.ofNat 111, Char.ofNat 115, Char.ofNat 105, Char.ofNat 116, Char.ofNat 111, Char.ofNat 114, Char.ofNat 47, Char.ofNat 99, Char.ofNat 111, Char.ofNat 109, Char.ofNat 112, Char.ofNat 111, Char.ofNat 115, Char.ofNat 105, Char.ofNat 116, Char.ofNat 111, Char.ofNat 114, Char.ofNat 108, Char.ofNat 97, Char.ofNat 119, Char.ofNat 50, Char.ofNat 52, Char.ofNat 46, Char.ofNat 66, Char.ofNat 111, Char.ofNat 117, Char.ofNat 110, Char.ofNat 100, Char.ofNat 115, Char.ofNat 66, Char.ofNat 111, Char.ofNat 120, Char.ofNat 101, Char.ofNat 115, Char.ofNat 65, Char.ofNat 103, Char.ofNat 114, Char.ofNat 101, Char.ofNat 101, Char.ofNat 32, Char.ofNat 99, Char.ofNat 111, Char.ofNat 109, Char.ofNat 112, Char.ofNat 111, Char.ofNat 115, Char.ofNat 105, Char.ofNat 116, Char.ofNat 111, Char.ofNat 114, Char.ofNat 47, Char.ofNat 99, Char.ofNat 111, Char.ofNat 109, Char.ofNat 112, Char.ofNat 111, Char.ofNat 115, Char.ofNat 105, Char.ofNat 116, Char.ofNat 111, Char.ofNat 114, Char.ofNat 108, Char.ofNat 97, Char.ofNat 119, Char.ofNat 50, Char.ofNat 52, Char.ofNat 46, Char.ofNat 66, Char.ofNat 111, Char.ofNat 117, Char.ofNat 110, Char.ofNat 100, Char.ofNat 115, Char.ofNat 82, Char.ofNat 101, Char.ofNat 106, Char.ofNat 101, Char.ofNat 99, Char.ofNat 116, Char.ofNat 115, Char.ofNat 32, Char.ofNat 99, Char.ofNat 111, Char.ofNat 109, Char.ofNat 112, Char.ofNat 111, Char.ofNat 115, Char.ofNat 105, Char.ofNat 116, Char.ofNat 111, Char.ofNat 114, Char.ofNat 47, Char.ofNat 99, Char.ofNat 111, Char.ofNat 109, Char.ofNat 112, Char.ofNat 111, Char.ofNat 115, Char.ofNat 105, Char.ofNat 116, Char.ofNat 111, Char.ofNat 114, Char.ofNat 108, Char.ofNat 97, Char.ofNat 119, Char.ofNat 50, Char.ofNat 52, Char.ofNat 46, Char.ofNat 66, Char.ofNat 111, Char.ofNat 117, Char.ofNat 110, Char.ofNat 100, Char.ofNat 115, Char.ofNat 65, Char.ofNat 99, Char.ofNat 116, Char.ofNat 105, Char.ofNat 118, Char.ofNat 101, Char.ofNat 73, Char.ofNat 115, Char.ofNat 66, Char.ofNat 97, Char.ofNat 108, Char.ofNat 97, Char.ofNat 110, Char.ofNat 99, Char.ofNat 101, Char.ofNat 100] := by rw [headWord, String.toList_ofList]
set_option maxRecDepth 100000 in
theorem enters : Tryd.prog.mayEnter = true := by
  unfold Program.mayEnter Program.doorFits
  rw [headSigns]
  kernel_rfl
set_option maxRecDepth 100000 in
theorem liftsNot : Tryd.prog.liftsFinal = false := by
  unfold Program.liftsFinal Program.headLifts
  rw [headSigns]
  kernel_rfl
set_option maxRecDepth 100000 in
theorem made : Tryd.prog.make = some .cut := by
  unfold Program.make
  rw [headSigns]
  kernel_rfl
theorem own : ownKnob Tryd.prog.godebug = none := by kernel_rfl
theorem laidOut : laidOutB Tryd.prog = true := by kernel_rfl
theorem mapsRow : mapsRowed Tryd.prog = true := by kernel_rfl
theorem noStops : (Tryd.prog.stops == []) = true := by kernel_rfl
theorem noKnobs : (Tryd.prog.stopKnobs == []) = true := by kernel_rfl
theorem plain : Tryd.prog.plainKeys = true := by kernel_rfl
theorem heard : Tryd.prog.stopsHeard = true := by kernel_rfl
end Go.Proofs.YtcaokljobfkajaaDoor.closed

/-
  What package variables that are laid by the program's text hold, cell by cell; and from a law's walk to a row that lists them.
-/
namespace Go.Proofs.YtcaokljobfkajaaDoor
open Go.RowKit Go.ChangeShapes Go.WideShapes
set_option linter.unusedVariables false
set_option linter.unusedSimpArgs false

def cellAt {H : Type} (P : Program) : Nat → TypeId → DataW H → Nat → Option DV
  | 0, _, _, _ => none
  | fuel + 1, t, d, i =>
    match P.underlying t, d with
    | some (.int k), .lit (.int k' n) => if i = 0 ∧ k' = k then some (.int k n) else none
    | some .bool, .lit (.bool b) => if i = 0 then some (.bool b) else none
    | some .string, .lit (.string s) => if i = 0 ∧ s.length ≤ maxLen then some (.str ⟨s.toArray⟩) else none
    | some (.struct fs), .agg ds => (fs.toList.zip ds).findSome? fun x => if x.1.offset ≤ i ∧ i < x.1.offset + P.cellsOf x.1.type then cellAt P fuel x.1.type x.2 (i - x.1.offset) else none
    | some (.array _ e), .agg ds => if P.cellsOf e = 0 then none else match ds[i / P.cellsOf e]? with
      | some d => cellAt P fuel e d (i % P.cellsOf e)
      | none => none
    | _, _ => none

section
variable {H : Type} {enc : TypeId × Value → H} {P : Program} {w : World}
theorem cell_of_trod {sp : Nat → Bool} {va : Bool} {V : Nat → Prop} : ∀ (fuel : Nat) (t : TypeId) (cs : List Value) (d : DataW H) (ps : List MemPlace) (q i : Nat) (dv : DV),
    DataW.trod enc P w 0 sp va fuel t cs = some (d, ps) → cellAt P q t d i = some dv → ∃ u, cs[i]? = some u ∧ RepD w V dv u := by
  intro fuel
  induction fuel with
  | zero => intro t cs d ps q i dv h; simp [DataW.trod] at h
  | succ fuel ih =>
    intro t cs d ps q i dv h hq
    cases q with
    | zero => simp [cellAt] at hq
    | succ q =>
    unfold DataW.trod at h
    unfold cellAt at hq
    split at h
    · rename_i b hu
      simp only [Option.some.injEq, Prod.mk.injEq] at h
      obtain ⟨rfl, _⟩ := h
      simp only [hu] at hq
      split at hq
      · rename_i e; subst e; cases hq; exact ⟨_, rfl, by simp only [RepD]⟩
      · cases hq
    · rename_i k k' n hu
      split at h
      · rename_i hk
        obtain ⟨rfl, hwf⟩ := hk
        simp only [Option.some.injEq, Prod.mk.injEq] at h
        obtain ⟨rfl, _⟩ := h
        simp only [hu] at hq
        split at hq
        · rename_i e; obtain ⟨rfl, _⟩ := e; cases hq; exact ⟨_, rfl, by simp only [RepD]; exact ⟨trivial, hwf⟩⟩
        · cases hq
      · cases h
    · rename_i hu
      simp only [hu] at hq
      cases hq
    · rename_i s hu
      split at h
      · simp only [Option.some.injEq, Prod.mk.injEq] at h
        obtain ⟨rfl, _⟩ := h
        simp only [hu] at hq
        split at hq
        · rename_i e; obtain ⟨rfl, hl⟩ := e; cases hq
          exact ⟨_, rfl, by simp only [RepD]; exact ⟨by simp, by simpa using hl⟩⟩
        · cases hq
      · cases h
    · rename_i hu; simp only [hu] at hq; cases hq
    · rename_i hu; simp only [hu] at hq; cases hq
    · rename_i hu; simp only [hu] at hq; cases hq
    · rename_i hu; simp only [hu] at hq; cases hq
    · rename_i fs hu
      split at h
      · obtain ⟨xs, hxs, h⟩ := Option.map_eq_some_iff.1 h
        simp only [Prod.mk.injEq] at h
        obtain ⟨rfl, _⟩ := h
        simp only [hu] at hq
        obtain ⟨x, hx, hx2⟩ := List.exists_of_findSome?_eq_some hq
        split at hx2
        · rename_i hr
          obtain ⟨j, hj, e⟩ := List.getElem_of_mem hx
          rw [List.getElem_zip] at e
          simp only [List.length_zip, List.length_map] at hj
          have h1 := mapM_some_get hxs j _ (List.getElem?_eq_getElem (by omega))
          rw [List.getElem?_eq_getElem (show j < xs.length by omega)] at h1
          subst e
          simp only [List.getElem_map] at hx2 hr
          obtain ⟨u, hu1, hu2⟩ := ih _ _ _ _ q _ dv h1 hx2
          refine ⟨u, ?_, hu2⟩
          rw [List.getElem?_take, if_pos (by omega), List.getElem?_drop] at hu1
          rwa [show _ + (i - _) = i from Nat.add_sub_of_le hr.1] at hu1
        · cases hx2
      · cases h
    · rename_i n e hu
      split at h
      · obtain ⟨xs, hxs, h⟩ := Option.map_eq_some_iff.1 h
        simp only [Prod.mk.injEq] at h
        obtain ⟨rfl, _⟩ := h
        simp only [hu] at hq
        split at hq
        · cases hq
        · rename_i hne
          split at hq
          · rename_i d hd
            rw [List.getElem?_map] at hd
            obtain ⟨x, hx, rfl⟩ := Option.map_eq_some_iff.1 hd
            have hl := mapM_some_length hxs
            simp only [List.length_range] at hl
            have hlt : i / P.cellsOf e < xs.length := (List.getElem?_eq_some_iff.1 hx).1
            have h1 := mapM_some_get hxs (i / P.cellsOf e) (i / P.cellsOf e) (List.getElem?_range (by omega))
            rw [hx] at h1
            obtain ⟨u, hu1, hu2⟩ := ih _ _ _ _ q _ dv h1 hq
            refine ⟨u, ?_, hu2⟩
            rw [List.getElem?_take, if_pos (Nat.mod_lt _ (Nat.pos_of_ne_zero hne)), List.getElem?_drop, Nat.mul_comm] at hu1
            rwa [Nat.div_add_mod] at hu1
          · cases hq
      · cases h
    all_goals first | (cases h; done) | (clear h ih; simp_all; done) | (clear h ih; split at hq <;> simp_all; done)
end

/-- the table says what the laid variables hold -/
def tabOK (P : Program) (laid : List (String × DataW Unit)) (p : Nat × List DV) : Prop :=
  ∃ x t, x ∈ laid ∧ P.globalNamed x.1 = some p.1 ∧ (P.globals[p.1]?).map (·.type) = some t ∧ (List.range p.2.length).map (cellAt P 6 t x.2) = p.2.map some
theorem laidVars_mem {P : Program} {w : World} : ∀ {l : List (String × DataW Unit)} {ps : List MemPlace}, DataW.LaidVars P w l ps → ∀ x ∈ l, ∃ g t cs fuel p, P.globalNamed x.1 = some g ∧ (P.globals[g]?).map (·.type) = some t ∧ w.var? P x.1 = some cs ∧ DataW.trod (fun _ => ()) P w 0 (fun _ => true) false fuel t cs.toList = some (x.2, p)
  | [], _, _, x, hx => by cases hx
  | (n, d) :: r, ps, h, x, hx => by
    obtain ⟨g, t, cs, fuel, p, q, h1, h2, h3, h4, h5, _⟩ := h
    rcases List.mem_cons.1 hx with rfl | hx
    · exact ⟨g, t, cs, fuel, p, h1, h2, h3, h4⟩
    · exact laidVars_mem h5 x hx
theorem globOK_of {P : Program} {laid : List (String × DataW Unit)} {w : World} (hm : laidMetH P laid w) (hp : (laid.all fun x => x.2.handleName?.isNone) = true) (ht : ∀ p ∈ globTab, tabOK P laid p) : GlobOK w (fun _ => True) := by
  rw [MakeChecks.laidMetH_plain _ _ _ hp] at hm
  obtain ⟨ps, hl, _⟩ := hm
  intro p hp _
  obtain ⟨x, t, hx, h1, h2, h3⟩ := ht p hp
  obtain ⟨g, t', cs, fuel, q, g1, g2, g3, g4⟩ := laidVars_mem hl x hx
  rw [g1] at h1; injection h1 with h1; subst h1
  rw [g2] at h2; injection h2 with h2; subst h2
  refine ⟨trivial, RepCells.of_at fun i d hi => ?_⟩
  have hlt : i < p.2.length := (List.getElem?_eq_some_iff.1 hi).1
  have h4 : ((List.range p.2.length).map (cellAt P 6 t' x.2))[i]? = (p.2.map some)[i]? := by rw [h3]
  rw [List.getElem?_map, List.getElem?_range hlt, List.getElem?_map, hi] at h4
  simp only [Option.map_some, Option.some.injEq] at h4
  obtain ⟨u, hu1, hu2⟩ := cell_of_trod (V := fun _ => True) fuel t' cs.toList x.2 q 6 i d g4 h4
  refine ⟨u, ?_, hu2⟩
  rw [Nat.zero_add, World.var?_cell g1 g3 i, ← Array.getElem?_toList]
  exact hu1

/-- FROM A LAW's WALK TO ITS ROW, with package variables laid by the text. -/
theorem law_lift_laid {H : Type} {enc : TypeId × Value → H} {C : Checked} {os : Os} {f : FuncId} {fn : Func} {s : ChangeSpec} {tb : TypeId} {laid : List (String × DataW Unit)}
    (own : ownKnob C.prog.godebug = none) (started : os.Started) (noInit : C.prog.inits.idxOf? f = none) (hfn : C.prog.funcs[f]? = some fn)
    (witness : ∃ (w : World) (tape : Tape) (i : Input), w.os = os ∧ (w.forCall tape i).Shaped C.prog ∧ i.vars = [] ∧ Input.okWide C.prog (w.forCall tape i) .any w.heap.size f i ∧
      ((s.pre enc C.prog fn [] false (w.forCall tape i).memory i.args ∧ laidMetH C.prog laid (w.forCall tape i).memory) ∧ sizedMet enc C.prog fn (OpenSpec.ofChange s) false (w.forCall tape i).memory i.args) ∧ ({} : Assume).holds C.prog (lone (Frame.enter C.prog f i.args .normal) [] (w.forCall tape i)))
    (hspec : ∀ ds : List (DataW H), ds.length = fn.params.toList.length → s.fn H ds = { results := [.lit (.bool true)], args := ds }) (hvars : s.vars = [])
    (hres : fn.resultTypes = #[tb]) (hb : C.prog.underlying tb = some .bool) (laidO : laidOutB C.prog = true)
    (hread : ∀ t ∈ fn.params.toList, C.prog.readableRec t = true ∧ t < C.prog.types.size)
    (hp : (laid.all fun x => x.2.handleName?.isNone) = true) (ht : ∀ p ∈ globTab, tabOK C.prog laid p)
    (walk : ∀ (W : World) (args : Array Value), GlobOK W (fun _ => True) → Args C.prog W fn.params.toList args.toList → Calls C.prog f args W fun e W' => e = .returned (.bool true) ∧ Below W.heap.size W W') :
    ReturnsInHanded {} C os f .any (fun w args => (s.pre enc C.prog fn [] false w args ∧ laidMetH C.prog laid w) ∧ sizedMet enc C.prog fn (OpenSpec.ofChange s) false w args) (s.post enc C.prog fn false true false false) := by
  refine returnsInHanded_of_change_and (X := fun w _ => laidMetH C.prog laid w) (fun _ _ _ hh h => laidMetH.of_heap hh h) own started noInit hfn witness ?_
  intro W base args ds gs before hval hW _ hsz hlaid _
  have hW' := hW
  obtain ⟨p, q, hA, hV, rfl, _, _⟩ := hW
  rw [hvars] at hV
  obtain ⟨rfl, rfl⟩ := trodVars_none hV
  have hvt : s.plain.varTypes C.prog = [] := by simp [ChangeSpec.plain, DataSpec.varTypes, hvars]
  rw [hvt, List.append_nil, List.append_nil] at hsz
  obtain ⟨ha, hlen⟩ := args_of_trodAll hA (fun n hn => by simpa using List.all_eq_true.1 hsz n hn) (fun j t v ht hv => cells_of_okWide (hval j t v (by simpa using ht) (by simpa using hv)))
  refine (walk W args (globOK_of hlaid hp ht) ha).mono fun e W' ⟨he, bel⟩ => ?_
  subst he
  have hs := hspec ds hlen
  refine ⟨_, rfl, ds, [], p ++ [], [], p, [], hW', ?_, ?_, ?_, bel.frame _, fun h => by cases h⟩
  · rw [List.append_nil, hs, hres]
    exact trodAll_mk1 (shut_bool hb _)
  · rw [List.append_nil, hs]
    exact trodAll_below laidO bel hread hA
  · rw [List.append_nil, hs, hvars]
    rfl
end Go.Proofs.YtcaokljobfkajaaDoor

/-
  The table of package variables is what the rows list; the door's own run meets it.
-/
namespace Go.Proofs.YtcaokljobfkajaaDoor
open Go.RowKit
set_option linter.unusedVariables false
set_option linter.unusedSimpArgs false

abbrev laidL : List (String × DataW Unit) := [("compositor/operator.rules", Rows.laid_compositor_operator_rules), ("compositor/blend.names", Rows.laid_compositor_blend_names)]
set_option maxRecDepth 100000 in
theorem tab_ok : ∀ p ∈ globTab, tabOK Tryd.prog laidL p := by
  intro p hp
  simp only [globTab, List.mem_cons, List.not_mem_nil, or_false] at hp
  rcases hp with rfl | rfl
  · exact ⟨("compositor/blend.names", Rows.laid_compositor_blend_names), 117, (List.mem_cons_of_mem _ List.mem_cons_self), by kernel_rfl, by kernel_rfl, by kernel_rfl⟩
  · exact ⟨("compositor/operator.rules", Rows.laid_compositor_operator_rules), 118, List.mem_cons_self, by kernel_rfl, by kernel_rfl, by kernel_rfl⟩
theorem laid_plain : (laidL.all fun x => x.2.handleName?.isNone) = true := by kernel_rfl
set_option maxRecDepth 100000 in
theorem door_met (os : Os) (args : Array Value) : laidMetH Tryd.prog laidL ((World.doorLaid Tryd.prog 400 os).forCall (fun _ _ => 0) ⟨#[], args, []⟩).memory :=
  laidMetH_of_parts3 (fuel := 8) (laidMet_of_run' 8 (by kernel_rfl) (by kernel_rfl)) (by kernel_rfl) (by kernel_rfl)
end Go.Proofs.YtcaokljobfkajaaDoor

