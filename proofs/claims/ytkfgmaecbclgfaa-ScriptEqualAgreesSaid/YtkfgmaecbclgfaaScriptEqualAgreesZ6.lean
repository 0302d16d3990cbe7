/-
  Part 6 of what ScriptEqualAgrees rests on.
-/
import Derived.Test.YtkfgmaecbclgfaaScriptEqualAgreesZ5
import Derived.Test.YtkfgmaecbclgfaaScriptEqualAgreesZ3
import Derived.Test.YtkfgmaecbclgfaaScriptEqualAgreesZ4
import Derived.Test.YtkfgmaecbclgfaaRows
import Derived.JoinedOf
import Derived.KernelRfl
/-
  Equality of scripts.
-/
namespace Go.Proofs.Ytkfgmaecbclgfaa
open Go.RowKit
set_option linter.unusedVariables false
set_option linter.unusedSimpArgs false
attribute [local irreducible] Ans AnsO AnsG AnsN AnsI

set_option maxRecDepth 4000
theorem oq_beq (o p : Oq) : (o.kind == p.kind && (o.image == p.image && (o.x == p.x && (o.y == p.y && (o.mask == p.mask && (o.mx == p.mx && (o.my == p.my && (o.opac == p.opac && (o.oper == p.oper && (o.mode == p.mode && (o.iso == p.iso && (o.kno == p.kno && true)))))))))))) = decide (o = p) := by
  obtain ⟨_, _, _, _, _, _, _, _, _, _, _, _⟩ := o
  obtain ⟨_, _, _, _, _, _, _, _, _, _, _, _⟩ := p
  rw [Bool.eq_iff_iff]
  simp only [Oq.mk.injEq, Bool.and_eq_true, beq_iff_eq, decide_eq_true_eq, and_true]
def eqI (m r : Im) : Bool := (m.so == r.so) && m.equal r
def imN (l : List Im) (i : Nat) : Im := l[i]?.getD (solidIm 0 0 .zero)
theorem imN_of {l : List Im} {i : Nat} (h : i < l.length) : imN l i = l[i] := by simp [imN, List.getElem?_eq_getElem h]
def eqTo (a b : List Im) (k : Nat) : Bool := (List.range k).all fun i => eqI (imN a i) (imN b i)
def eqIms (a b : List Im) : Bool := decide (a.length = b.length) && eqTo a b a.length
def eqS (s t : Scr) : Bool := decide (s.bits = t.bits) && decide (s.c = t.c) && decide (s.tw = t.tw) && decide (s.th = t.th) && decide (s.ord = t.ord) && eqIms s.ims t.ims && decide (s.ops = t.ops)
theorem eqS_beq (s t : Scr) : eqS s t = ((s.bits == t.bits) && (s.c.a == t.c.a && (s.c.b == t.c.b && (s.c.c == t.c.c && (s.c.d == t.c.d && true)))) && (s.tw == t.tw) && (s.th == t.th) && decide (s.ord = t.ord) && eqIms s.ims t.ims && decide (s.ops = t.ops)) := by
  have h : decide (s.c = t.c) = (s.c.a == t.c.a && (s.c.b == t.c.b && (s.c.c == t.c.c && (s.c.d == t.c.d && true)))) := by
    obtain ⟨_, ⟨_, _, _, _⟩, _, _, _, _, _⟩ := s
    obtain ⟨_, ⟨_, _, _, _⟩, _, _, _, _, _⟩ := t
    rw [Bool.eq_iff_iff]
    simp only [Rc.mk.injEq, Bool.and_eq_true, beq_iff_eq, decide_eq_true_eq, and_true]
  unfold eqS
  rw [h]
  rfl
theorem tk_succ {α : Type} {a b : List α} {k : Nat} (h : k < a.length) (h2 : k < b.length) (e : a.take k = b.take k) (ek : a[k] = b[k]) : a.take (k + 1) = b.take (k + 1) := by
  rw [List.take_succ_eq_append_getElem h, List.take_succ_eq_append_getElem h2, e, ek]
theorem tk_ne {α : Type} {a b : List α} {k : Nat} (h : k < a.length) (h2 : k < b.length) (hn : a[k] ≠ b[k]) : a ≠ b := by
  intro e; subst e; exact hn rfl
theorem tk_all {α : Type} {a b : List α} (he : a.length = b.length) (e : a.take a.length = b.take a.length) : a = b := by
  rw [List.take_length, he, List.take_length] at e
  exact e
theorem eqTo_succ {a b : List Im} {k : Nat} (h : k < a.length) (h2 : k < b.length) (e : eqTo a b k = true) (ek : eqI a[k] b[k] = true) : eqTo a b (k + 1) = true := by
  unfold eqTo at e ⊢
  rw [List.range_succ, List.all_append, e]
  simp [imN_of h, imN_of h2, ek]
theorem eqTo_bad {a b : List Im} {k : Nat} (h : k < a.length) (h2 : k < b.length) (ek : eqI a[k] b[k] = false) : eqTo a b a.length = false := by
  unfold eqTo
  rw [List.all_eq_false]
  exact ⟨k, List.mem_range.2 h, by rw [imN_of h, imN_of h2, ek]; simp⟩
def gamEq : Gam where
 pure := fun f xs =>
  if f = 55 then (match xs with | [.d (.sl n xs), .d (.sl m ys)] => some (RV.d (DV.bool (decide (ints (xs) = ints (ys))))) | _ => none) else
  if f = 57 then (match xs with | [.d (.sl n xs), .d (.sl m ys)] => some (RV.d (DV.bool (decide (toOps (xs) = toOps (ys))))) | _ => none) else
  if f = 56 then (match xs with | [.d (.sl n xs), .d (.sl m ys), .d (.fn 53)] => some (RV.d (DV.bool (eqIms (toIms (xs)) (toIms (ys))))) | _ => none) else
  if f = 53 then (match xs with | [.agg [.int _ w, .int _ h, .bool so, .int _ c0, .int _ c1, .int _ c2, .int _ ca, .int _ cf, .int _ w0, .int _ h0, .int _ s0, .sl n0 xs0, .int _ w1, .int _ h1, .int _ s1, .sl n1 xs1, .int _ w2, .int _ h2, .int _ s2, .sl n2 xs2, .int _ w3, .int _ h3, .int _ s3, .sl n3 xs3, .int _ w4, .int _ h4, .int _ s4, .sl n4 xs4], .agg [.int _ wq, .int _ hq, .bool soq, .int _ c0q, .int _ c1q, .int _ c2q, .int _ caq, .int _ cfq, .int _ w0q, .int _ h0q, .int _ s0q, .sl n0q xs0q, .int _ w1q, .int _ h1q, .int _ s1q, .sl n1q xs1q, .int _ w2q, .int _ h2q, .int _ s2q, .sl n2q xs2q, .int _ w3q, .int _ h3q, .int _ s3q, .sl n3q xs3q, .int _ w4q, .int _ h4q, .int _ s4q, .sl n4q xs4q]] => some (RV.d (DV.bool (eqI ⟨w, h, so, ⟨c0, c1, c2, ca, cf⟩, ⟨w0, h0, s0, n0, xs0⟩, ⟨w1, h1, s1, n1, xs1⟩, ⟨w2, h2, s2, n2, xs2⟩, ⟨w3, h3, s3, n3, xs3⟩, ⟨w4, h4, s4, n4, xs4⟩⟩ ⟨wq, hq, soq, ⟨c0q, c1q, c2q, caq, cfq⟩, ⟨w0q, h0q, s0q, n0q, xs0q⟩, ⟨w1q, h1q, s1q, n1q, xs1q⟩, ⟨w2q, h2q, s2q, n2q, xs2q⟩, ⟨w3q, h3q, s3q, n3q, xs3q⟩, ⟨w4q, h4q, s4q, n4q, xs4q⟩⟩))) | _ => none) else
  if f = 50 then (match xs with | [.d (.sl n xs), .d (.sl m ys)] => some (RV.d (DV.bool (decide (ints (xs) = ints (ys))))) | _ => none) else
  if f = 51 then (match xs with | [.d (.sl n xs), .d (.sl m ys)] => some (RV.d (DV.bool (decide (toOps (xs) = toOps (ys))))) | _ => none) else
  if f = 54 then (match xs with | [.agg [.int _ w, .int _ h, .bool so, .int _ c0, .int _ c1, .int _ c2, .int _ ca, .int _ cf, .int _ w0, .int _ h0, .int _ s0, .sl n0 xs0, .int _ w1, .int _ h1, .int _ s1, .sl n1 xs1, .int _ w2, .int _ h2, .int _ s2, .sl n2 xs2, .int _ w3, .int _ h3, .int _ s3, .sl n3 xs3, .int _ w4, .int _ h4, .int _ s4, .sl n4 xs4], .agg [.int _ w', .int _ h', .bool so', .int _ c0', .int _ c1', .int _ c2', .int _ ca', .int _ cf', .int _ w0', .int _ h0', .int _ s0', .sl n0' xs0', .int _ w1', .int _ h1', .int _ s1', .sl n1' xs1', .int _ w2', .int _ h2', .int _ s2', .sl n2' xs2', .int _ w3', .int _ h3', .int _ s3', .sl n3' xs3', .int _ w4', .int _ h4', .int _ s4', .sl n4' xs4']] => some (RV.d (DV.bool (Im.equal ⟨w, h, so, ⟨c0, c1, c2, ca, cf⟩, ⟨w0, h0, s0, n0, xs0⟩, ⟨w1, h1, s1, n1, xs1⟩, ⟨w2, h2, s2, n2, xs2⟩, ⟨w3, h3, s3, n3, xs3⟩, ⟨w4, h4, s4, n4, xs4⟩⟩ ⟨w', h', so', ⟨c0', c1', c2', ca', cf'⟩, ⟨w0', h0', s0', n0', xs0'⟩, ⟨w1', h1', s1', n1', xs1'⟩, ⟨w2', h2', s2', n2', xs2'⟩, ⟨w3', h3', s3', n3', xs3'⟩, ⟨w4', h4', s4', n4', xs4'⟩⟩))) | _ => none) else
  if f = 52 then (match xs with | [.agg [.int _ w, .int _ h, .bool so, .int _ c0, .int _ c1, .int _ c2, .int _ ca, .int _ cf, .int _ w0, .int _ h0, .int _ s0, .sl n0 xs0, .int _ w1, .int _ h1, .int _ s1, .sl n1 xs1, .int _ w2, .int _ h2, .int _ s2, .sl n2 xs2, .int _ w3, .int _ h3, .int _ s3, .sl n3 xs3, .int _ w4, .int _ h4, .int _ s4, .sl n4 xs4], .agg [.int _ w', .int _ h', .bool so', .int _ c0', .int _ c1', .int _ c2', .int _ ca', .int _ cf', .int _ w0', .int _ h0', .int _ s0', .sl n0' xs0', .int _ w1', .int _ h1', .int _ s1', .sl n1' xs1', .int _ w2', .int _ h2', .int _ s2', .sl n2' xs2', .int _ w3', .int _ h3', .int _ s3', .sl n3' xs3', .int _ w4', .int _ h4', .int _ s4', .sl n4' xs4']] => some (RV.d (DV.bool (Im.equal ⟨w, h, so, ⟨c0, c1, c2, ca, cf⟩, ⟨w0, h0, s0, n0, xs0⟩, ⟨w1, h1, s1, n1, xs1⟩, ⟨w2, h2, s2, n2, xs2⟩, ⟨w3, h3, s3, n3, xs3⟩, ⟨w4, h4, s4, n4, xs4⟩⟩ ⟨w', h', so', ⟨c0', c1', c2', ca', cf'⟩, ⟨w0', h0', s0', n0', xs0'⟩, ⟨w1', h1', s1', n1', xs1'⟩, ⟨w2', h2', s2', n2', xs2'⟩, ⟨w3', h3', s3', n3', xs3'⟩, ⟨w4', h4', s4', n4', xs4'⟩⟩))) | _ => none) else
  none
 modes := fun f =>
  none
 proc := fun f xs bs =>
  none
 iter := fun f cs =>
  none

def slices_Equal_int_int_ann (a : List Int) (b : List Int) : Ann := (Ann.seq Ann.leaf (Ann.seq Ann.leaf (Ann.seq (Ann.seq Ann.leaf (Ann.loop ⟨Nat, fun k => k ≤ a.length ∧ a.take k = b.take k, fun k => ⟨[(0, AV.one (Cl.d (DV.sl a.length (is a)))), (1, AV.one (Cl.d (DV.sl b.length (is b)))), (12, AV.one (Cl.d (DV.int .i64 ((a.length : Nat) : Int)))), (13, AV.one (Cl.d (DV.int .i64 ((k : Nat) : Int))))], []⟩, fun k => a.length - k⟩ fun k => Ann.leaf)) Ann.leaf)))
theorem slices_Equal_int_int_vc (a : List Int) (b : List Int) : vcg Try.prog gamEq 26 (bodyOf Try.f55) (slices_Equal_int_int_ann a b) kn0 (start [RV.d (DV.sl a.length (is a)), RV.d (DV.sl b.length (is b))]) (post Try.prog Try.f55.results.toList (· = RV.d (DV.bool (decide (ints (is a) = ints (is b)))))) =
  (let zz0 := (DV.bool (decide (ints (is a) = ints (is b)))); let zz1 := fun (k : Nat) => (k ≤ a.length ∧ a.take k = b.take k); let zz2 := (DV.sl a.length (is a) = DV.sl a.length (is a)); let zz3 := (DV.sl b.length (is b) = DV.sl b.length (is b)); let zz4 := (DV.int .i64 ((a.length : Nat) : Int) = DV.int .i64 ((a.length : Nat) : Int)); True ∧ True ∧ True ∧ True ∧ True ∧ True ∧ (((((a.length : Nat) : Int) != ((b.length : Nat) : Int)) = true → True ∧ RV.d (DV.bool false) = RV.d zz0) ∧ ((((a.length : Nat) : Int) != ((b.length : Nat) : Int)) = false → True ∧ True ∧ True ∧ ((∃ k : Nat, (zz1 k) ∧ ((zz2 ∧ zz3 ∧ zz4 ∧ (DV.int .i64 0 = DV.int .i64 ((k : Nat) : Int)) ∧ True) ∧ (True))) ∧ ∀ k : Nat, (zz1 k) → True ∧ (((decide (((k : Nat) : Int) < ((a.length : Nat) : Int))) = true → True ∧ True ∧ True ∧ True ∧ (0 ≤ ((k : Nat) : Int) ∧ ((k : Nat) : Int) < ((a.length : Nat) : Int) ∧ ((k : Nat) : Int).toNat * 1 < (is a).length) ∧ (((is a)[((k : Nat) : Int).toNat * 1]? = some (DV.int .i64 (nAt (is a) (((k : Nat) : Int).toNat * 1)))) ∧ True) ∧ True ∧ True ∧ (0 ≤ ((k : Nat) : Int) ∧ ((k : Nat) : Int) < ((b.length : Nat) : Int) ∧ ((k : Nat) : Int).toNat * 1 < (is b).length) ∧ (((is b)[((k : Nat) : Int).toNat * 1]? = some (DV.int .i64 (nAt (is b) (((k : Nat) : Int).toNat * 1)))) ∧ True) ∧ True ∧ (true = true) ∧ ((((nAt (is a) (((k : Nat) : Int).toNat * 1)) != (nAt (is b) (((k : Nat) : Int).toNat * 1))) = true → True ∧ RV.d (DV.bool false) = RV.d zz0) ∧ (((nAt (is a) (((k : Nat) : Int).toNat * 1)) != (nAt (is b) (((k : Nat) : Int).toNat * 1))) = false → True ∧ True ∧ ∃ k' : Nat, (k' ≤ a.length ∧ a.take k' = b.take k') ∧ (a.length - k' < a.length - k) ∧ ((zz2 ∧ zz3 ∧ zz4 ∧ (DV.int .i64 (IntKind.wrap .i64 (((k : Nat) : Int) + (1 : Int))) = DV.int .i64 ((k' : Nat) : Int)) ∧ True) ∧ (True))))) ∧ ((decide (((k : Nat) : Int) < ((a.length : Nat) : Int))) = false → True ∧ RV.d (DV.bool true) = RV.d zz0)))))) := by kernel_rfl
theorem slices_Equal_int_int_ans (a : List Int) (b : List Int) : Ans Try.prog 55 [RV.d (DV.sl a.length (is a)), RV.d (DV.sl b.length (is b))] (RV.d (DV.bool (decide (ints (is a) = ints (is b))))) :=
  ans_of_vcg (Γ := gamEq) (slices_Equal_int_int_ann a b) mixed_ Try.func55 rfl (Nat.le_of_ble_eq_true rfl) fun hwf => by
    refine Eq.mpr (slices_Equal_int_int_vc a b) ?_
    simp only [true_and, and_true, RV.d.injEq, RV.agg.injEq, RV.tup.injEq, DV.bool.injEq, DV.int.injEq, DV.sl.injEq, List.cons.injEq, forall_const, Bool.not_false, Bool.not_true, Bool.not_eq_true', Bool.not_eq_false', decide_eq_true_eq, decide_eq_false_iff_not, Int.toNat_natCast, imQ, imQr, imC, oqQ, oqQr, oqC, oqD, pxQ, pxQr, pxC, pxD]
    have hil : a.length ≤ 9223372036854775807 ∧ b.length ≤ 9223372036854775807 := by
      simp only [RV.wfs, RV.wf, DV.wf, maxLen] at hwf
      omega
    clear hwf
    simp only [ints_is]
    refine ⟨fun h => ?_, fun h => ⟨⟨0, ⟨Nat.zero_le _, by simp⟩, rfl⟩, fun k hk => ⟨fun hlt => ?_, fun hge => ?_⟩⟩⟩
    · have h : a.length ≠ b.length := by simp at h; omega
      exact (decide_eq_false (fun e => h (congrArg List.length e))).symm
    · obtain ⟨k1, k2⟩ := hk
      have hl : a.length = b.length := by simp at h; omega
      have ha : k < a.length := by omega
      have hb : k < b.length := by omega
      obtain ⟨q1, q2⟩ := is_rd ha
      obtain ⟨r1, r2⟩ := is_rd hb
      have w1 : IntKind.wrap .i64 ((k : Int) + 1) = ((k + 1 : Nat) : Int) := by rw [IntWalk.i64_in _ ⟨by omega, by omega⟩]; omega
      simp only [Nat.mul_one, q2, r2, w1]
      refine ⟨⟨by omega, by omega, by rw [is_length]; omega⟩, q1, ⟨by omega, by omega, by rw [is_length]; omega⟩, r1, fun e => ?_, fun e => ⟨k + 1, ⟨by omega, tk_succ ha hb k2 (by simpa using e)⟩, by omega, rfl⟩⟩
      exact (decide_eq_false (tk_ne ha hb (by simpa using e))).symm
    · obtain ⟨k1, k2⟩ := hk
      have hl : a.length = b.length := by simp at h; omega
      have : k = a.length := by omega
      subst this
      exact (decide_eq_true (tk_all hl k2)).symm

def sl_EqualOps_ann (a : List Oq) (b : List Oq) : Ann := (Ann.seq Ann.leaf (Ann.seq Ann.leaf (Ann.seq (Ann.seq Ann.leaf (Ann.loop ⟨Nat, fun k => k ≤ a.length ∧ a.take k = b.take k, fun k => ⟨[(0, AV.one (Cl.d (DV.sl a.length (ops a)))), (1, AV.one (Cl.d (DV.sl b.length (ops b)))), (12, AV.one (Cl.d (DV.int .i64 ((a.length : Nat) : Int)))), (13, AV.one (Cl.d (DV.int .i64 ((k : Nat) : Int))))], []⟩, fun k => a.length - k⟩ fun k => Ann.leaf)) Ann.leaf)))
theorem sl_EqualOps_vc (a : List Oq) (b : List Oq) : vcg Try.prog gamEq 26 (bodyOf Try.f57) (sl_EqualOps_ann a b) kn0 (start [RV.d (DV.sl a.length (ops a)), RV.d (DV.sl b.length (ops b))]) (post Try.prog Try.f57.results.toList (· = RV.d (DV.bool (decide (toOps (ops a) = toOps (ops b)))))) =
  (let zz0 := (DV.bool (decide (toOps (ops a) = toOps (ops b)))); let zz1 := fun (k : Nat) => (k ≤ a.length ∧ a.take k = b.take k); let zz2 := (DV.sl a.length (ops a) = DV.sl a.length (ops a)); let zz3 := (DV.sl b.length (ops b) = DV.sl b.length (ops b)); let zz4 := (DV.int .i64 ((a.length : Nat) : Int) = DV.int .i64 ((a.length : Nat) : Int)); True ∧ True ∧ True ∧ True ∧ True ∧ True ∧ (((((a.length : Nat) : Int) != ((b.length : Nat) : Int)) = true → True ∧ RV.d (DV.bool false) = RV.d zz0) ∧ ((((a.length : Nat) : Int) != ((b.length : Nat) : Int)) = false → True ∧ True ∧ True ∧ ((∃ k : Nat, (zz1 k) ∧ ((zz2 ∧ zz3 ∧ zz4 ∧ (DV.int .i64 0 = DV.int .i64 ((k : Nat) : Int)) ∧ True) ∧ (True))) ∧ ∀ k : Nat, (zz1 k) → True ∧ (((decide (((k : Nat) : Int) < ((a.length : Nat) : Int))) = true → True ∧ True ∧ True ∧ True ∧ (0 ≤ ((k : Nat) : Int) ∧ ((k : Nat) : Int) < ((a.length : Nat) : Int) ∧ ((k : Nat) : Int).toNat * 12 < (ops a).length) ∧ ((oqQr (ops a) (((k : Nat) : Int).toNat * 12))) ∧ True ∧ True ∧ (0 ≤ ((k : Nat) : Int) ∧ ((k : Nat) : Int) < ((b.length : Nat) : Int) ∧ ((k : Nat) : Int).toNat * 12 < (ops b).length) ∧ ((oqQr (ops b) (((k : Nat) : Int).toNat * 12))) ∧ True ∧ (true = true) ∧ (((!(((nAt (ops a) (((k : Nat) : Int).toNat * 12)) == (nAt (ops b) (((k : Nat) : Int).toNat * 12))) && (((nAt (ops a) (((k : Nat) : Int).toNat * 12 + 1)) == (nAt (ops b) (((k : Nat) : Int).toNat * 12 + 1))) && (((nAt (ops a) (((k : Nat) : Int).toNat * 12 + 1 + 1)) == (nAt (ops b) (((k : Nat) : Int).toNat * 12 + 1 + 1))) && (((nAt (ops a) (((k : Nat) : Int).toNat * 12 + 1 + 1 + 1)) == (nAt (ops b) (((k : Nat) : Int).toNat * 12 + 1 + 1 + 1))) && (((nAt (ops a) (((k : Nat) : Int).toNat * 12 + 1 + 1 + 1 + 1)) == (nAt (ops b) (((k : Nat) : Int).toNat * 12 + 1 + 1 + 1 + 1))) && (((nAt (ops a) (((k : Nat) : Int).toNat * 12 + 1 + 1 + 1 + 1 + 1)) == (nAt (ops b) (((k : Nat) : Int).toNat * 12 + 1 + 1 + 1 + 1 + 1))) && (((nAt (ops a) (((k : Nat) : Int).toNat * 12 + 1 + 1 + 1 + 1 + 1 + 1)) == (nAt (ops b) (((k : Nat) : Int).toNat * 12 + 1 + 1 + 1 + 1 + 1 + 1))) && (((nAt (ops a) (((k : Nat) : Int).toNat * 12 + 1 + 1 + 1 + 1 + 1 + 1 + 1)) == (nAt (ops b) (((k : Nat) : Int).toNat * 12 + 1 + 1 + 1 + 1 + 1 + 1 + 1))) && (((nAt (ops a) (((k : Nat) : Int).toNat * 12 + 1 + 1 + 1 + 1 + 1 + 1 + 1 + 1)) == (nAt (ops b) (((k : Nat) : Int).toNat * 12 + 1 + 1 + 1 + 1 + 1 + 1 + 1 + 1))) && (((nAt (ops a) (((k : Nat) : Int).toNat * 12 + 1 + 1 + 1 + 1 + 1 + 1 + 1 + 1 + 1)) == (nAt (ops b) (((k : Nat) : Int).toNat * 12 + 1 + 1 + 1 + 1 + 1 + 1 + 1 + 1 + 1))) && (((bAt (ops a) (((k : Nat) : Int).toNat * 12 + 1 + 1 + 1 + 1 + 1 + 1 + 1 + 1 + 1 + 1)) == (bAt (ops b) (((k : Nat) : Int).toNat * 12 + 1 + 1 + 1 + 1 + 1 + 1 + 1 + 1 + 1 + 1))) && (((bAt (ops a) (((k : Nat) : Int).toNat * 12 + 1 + 1 + 1 + 1 + 1 + 1 + 1 + 1 + 1 + 1 + 1)) == (bAt (ops b) (((k : Nat) : Int).toNat * 12 + 1 + 1 + 1 + 1 + 1 + 1 + 1 + 1 + 1 + 1 + 1))) && true))))))))))))) = true → True ∧ RV.d (DV.bool false) = RV.d zz0) ∧ ((!(((nAt (ops a) (((k : Nat) : Int).toNat * 12)) == (nAt (ops b) (((k : Nat) : Int).toNat * 12))) && (((nAt (ops a) (((k : Nat) : Int).toNat * 12 + 1)) == (nAt (ops b) (((k : Nat) : Int).toNat * 12 + 1))) && (((nAt (ops a) (((k : Nat) : Int).toNat * 12 + 1 + 1)) == (nAt (ops b) (((k : Nat) : Int).toNat * 12 + 1 + 1))) && (((nAt (ops a) (((k : Nat) : Int).toNat * 12 + 1 + 1 + 1)) == (nAt (ops b) (((k : Nat) : Int).toNat * 12 + 1 + 1 + 1))) && (((nAt (ops a) (((k : Nat) : Int).toNat * 12 + 1 + 1 + 1 + 1)) == (nAt (ops b) (((k : Nat) : Int).toNat * 12 + 1 + 1 + 1 + 1))) && (((nAt (ops a) (((k : Nat) : Int).toNat * 12 + 1 + 1 + 1 + 1 + 1)) == (nAt (ops b) (((k : Nat) : Int).toNat * 12 + 1 + 1 + 1 + 1 + 1))) && (((nAt (ops a) (((k : Nat) : Int).toNat * 12 + 1 + 1 + 1 + 1 + 1 + 1)) == (nAt (ops b) (((k : Nat) : Int).toNat * 12 + 1 + 1 + 1 + 1 + 1 + 1))) && (((nAt (ops a) (((k : Nat) : Int).toNat * 12 + 1 + 1 + 1 + 1 + 1 + 1 + 1)) == (nAt (ops b) (((k : Nat) : Int).toNat * 12 + 1 + 1 + 1 + 1 + 1 + 1 + 1))) && (((nAt (ops a) (((k : Nat) : Int).toNat * 12 + 1 + 1 + 1 + 1 + 1 + 1 + 1 + 1)) == (nAt (ops b) (((k : Nat) : Int).toNat * 12 + 1 + 1 + 1 + 1 + 1 + 1 + 1 + 1))) && (((nAt (ops a) (((k : Nat) : Int).toNat * 12 + 1 + 1 + 1 + 1 + 1 + 1 + 1 + 1 + 1)) == (nAt (ops b) (((k : Nat) : Int).toNat * 12 + 1 + 1 + 1 + 1 + 1 + 1 + 1 + 1 + 1))) && (((bAt (ops a) (((k : Nat) : Int).toNat * 12 + 1 + 1 + 1 + 1 + 1 + 1 + 1 + 1 + 1 + 1)) == (bAt (ops b) (((k : Nat) : Int).toNat * 12 + 1 + 1 + 1 + 1 + 1 + 1 + 1 + 1 + 1 + 1))) && (((bAt (ops a) (((k : Nat) : Int).toNat * 12 + 1 + 1 + 1 + 1 + 1 + 1 + 1 + 1 + 1 + 1 + 1)) == (bAt (ops b) (((k : Nat) : Int).toNat * 12 + 1 + 1 + 1 + 1 + 1 + 1 + 1 + 1 + 1 + 1 + 1))) && true))))))))))))) = false → True ∧ True ∧ ∃ k' : Nat, (k' ≤ a.length ∧ a.take k' = b.take k') ∧ (a.length - k' < a.length - k) ∧ ((zz2 ∧ zz3 ∧ zz4 ∧ (DV.int .i64 (IntKind.wrap .i64 (((k : Nat) : Int) + (1 : Int))) = DV.int .i64 ((k' : Nat) : Int)) ∧ True) ∧ (True))))) ∧ ((decide (((k : Nat) : Int) < ((a.length : Nat) : Int))) = false → True ∧ RV.d (DV.bool true) = RV.d zz0)))))) := by kernel_rfl
theorem sl_EqualOps_ans (a : List Oq) (b : List Oq) : Ans Try.prog 57 [RV.d (DV.sl a.length (ops a)), RV.d (DV.sl b.length (ops b))] (RV.d (DV.bool (decide (toOps (ops a) = toOps (ops b))))) :=
  ans_of_vcg (Γ := gamEq) (sl_EqualOps_ann a b) mixed_ Try.func57 rfl (Nat.le_of_ble_eq_true rfl) fun hwf => by
    refine Eq.mpr (sl_EqualOps_vc a b) ?_
    simp only [true_and, and_true, RV.d.injEq, RV.agg.injEq, RV.tup.injEq, DV.bool.injEq, DV.int.injEq, DV.sl.injEq, List.cons.injEq, forall_const, Bool.not_false, Bool.not_true, Bool.not_eq_true', Bool.not_eq_false', decide_eq_true_eq, decide_eq_false_iff_not, Int.toNat_natCast, imQ, imQr, imC, oqQ, oqQr, oqC, oqD, pxQ, pxQr, pxC, pxD]
    have hil : a.length ≤ 9223372036854775807 ∧ b.length ≤ 9223372036854775807 := by
      simp only [RV.wfs, RV.wf, DV.wf, maxLen] at hwf
      omega
    clear hwf
    simp only [toOps_ops]
    refine ⟨fun h => ?_, fun h => ⟨⟨0, ⟨Nat.zero_le _, by simp⟩, rfl⟩, fun k hk => ⟨fun hlt => ?_, fun hge => ?_⟩⟩⟩
    · have h : a.length ≠ b.length := by simp at h; omega
      exact (decide_eq_false (fun e => h (congrArg List.length e))).symm
    · obtain ⟨k1, k2⟩ := hk
      have hl : a.length = b.length := by simp at h; omega
      have ha : k < a.length := by omega
      have hb : k < b.length := by omega
      have q1 := ops_rd ha
      have q2 := ops_at ha
      have r1 := ops_rd hb
      have r2 := ops_at hb
      have w1 : IntKind.wrap .i64 ((k : Int) + 1) = ((k + 1 : Nat) : Int) := by rw [IntWalk.i64_in _ ⟨by omega, by omega⟩]; omega
      simp only [q2, r2, w1]
      simp only [oq_beq]
      refine ⟨⟨by omega, by omega, by rw [ops_length]; omega⟩, q1, ⟨by omega, by omega, by rw [ops_length]; omega⟩, r1, fun e => ?_, fun e => ⟨k + 1, ⟨by omega, tk_succ ha hb k2 (by simpa using e)⟩, by omega, rfl⟩⟩
      exact (decide_eq_false (tk_ne ha hb (by simpa using e))).symm
    · obtain ⟨k1, k2⟩ := hk
      have hl : a.length = b.length := by simp at h; omega
      have : k = a.length := by omega
      subst this
      exact (decide_eq_true (tk_all hl k2)).symm

def R18_SameOps_ann (a : List Oq) (b : List Oq) : Ann := (Ann.seq Ann.leaf (Ann.seq Ann.leaf (Ann.seq (Ann.seq Ann.leaf (Ann.loop ⟨Nat, fun k => k ≤ a.length ∧ a.take k = b.take k, fun k => ⟨[(0, AV.one (Cl.d (DV.sl a.length (ops a)))), (1, AV.one (Cl.d (DV.sl b.length (ops b)))), (5, AV.one (Cl.d (DV.int .i64 ((k : Nat) : Int))))], []⟩, fun k => a.length - k⟩ fun k => Ann.leaf)) Ann.leaf)))
theorem R18_SameOps_vc (a : List Oq) (b : List Oq) : vcg Try.prog gamEq 26 (bodyOf Try.f51) (R18_SameOps_ann a b) kn0 (start [RV.d (DV.sl a.length (ops a)), RV.d (DV.sl b.length (ops b))]) (post Try.prog Try.f51.results.toList (· = RV.d (DV.bool (decide (toOps (ops a) = toOps (ops b)))))) =
  (let zz0 := (DV.bool (decide (toOps (ops a) = toOps (ops b)))); let zz1 := fun (k : Nat) => (k ≤ a.length ∧ a.take k = b.take k); let zz2 := (DV.sl a.length (ops a) = DV.sl a.length (ops a)); let zz3 := (DV.sl b.length (ops b) = DV.sl b.length (ops b)); True ∧ True ∧ True ∧ True ∧ True ∧ True ∧ (((((a.length : Nat) : Int) != ((b.length : Nat) : Int)) = true → True ∧ RV.d (DV.bool false) = RV.d zz0) ∧ ((((a.length : Nat) : Int) != ((b.length : Nat) : Int)) = false → True ∧ ((∃ k : Nat, (zz1 k) ∧ ((zz2 ∧ zz3 ∧ (DV.int .i64 0 = DV.int .i64 ((k : Nat) : Int)) ∧ True) ∧ (True))) ∧ ∀ k : Nat, (zz1 k) → True ∧ True ∧ True ∧ True ∧ (((decide (((k : Nat) : Int) < ((a.length : Nat) : Int))) = true → True ∧ True ∧ (0 ≤ ((k : Nat) : Int) ∧ ((k : Nat) : Int) < ((a.length : Nat) : Int) ∧ ((k : Nat) : Int).toNat * 12 < (ops a).length) ∧ ((oqQr (ops a) (((k : Nat) : Int).toNat * 12))) ∧ True ∧ True ∧ (0 ≤ ((k : Nat) : Int) ∧ ((k : Nat) : Int) < ((b.length : Nat) : Int) ∧ ((k : Nat) : Int).toNat * 12 < (ops b).length) ∧ ((oqQr (ops b) (((k : Nat) : Int).toNat * 12))) ∧ True ∧ (true = true) ∧ (((!(((nAt (ops a) (((k : Nat) : Int).toNat * 12)) == (nAt (ops b) (((k : Nat) : Int).toNat * 12))) && (((nAt (ops a) (((k : Nat) : Int).toNat * 12 + 1)) == (nAt (ops b) (((k : Nat) : Int).toNat * 12 + 1))) && (((nAt (ops a) (((k : Nat) : Int).toNat * 12 + 1 + 1)) == (nAt (ops b) (((k : Nat) : Int).toNat * 12 + 1 + 1))) && (((nAt (ops a) (((k : Nat) : Int).toNat * 12 + 1 + 1 + 1)) == (nAt (ops b) (((k : Nat) : Int).toNat * 12 + 1 + 1 + 1))) && (((nAt (ops a) (((k : Nat) : Int).toNat * 12 + 1 + 1 + 1 + 1)) == (nAt (ops b) (((k : Nat) : Int).toNat * 12 + 1 + 1 + 1 + 1))) && (((nAt (ops a) (((k : Nat) : Int).toNat * 12 + 1 + 1 + 1 + 1 + 1)) == (nAt (ops b) (((k : Nat) : Int).toNat * 12 + 1 + 1 + 1 + 1 + 1))) && (((nAt (ops a) (((k : Nat) : Int).toNat * 12 + 1 + 1 + 1 + 1 + 1 + 1)) == (nAt (ops b) (((k : Nat) : Int).toNat * 12 + 1 + 1 + 1 + 1 + 1 + 1))) && (((nAt (ops a) (((k : Nat) : Int).toNat * 12 + 1 + 1 + 1 + 1 + 1 + 1 + 1)) == (nAt (ops b) (((k : Nat) : Int).toNat * 12 + 1 + 1 + 1 + 1 + 1 + 1 + 1))) && (((nAt (ops a) (((k : Nat) : Int).toNat * 12 + 1 + 1 + 1 + 1 + 1 + 1 + 1 + 1)) == (nAt (ops b) (((k : Nat) : Int).toNat * 12 + 1 + 1 + 1 + 1 + 1 + 1 + 1 + 1))) && (((nAt (ops a) (((k : Nat) : Int).toNat * 12 + 1 + 1 + 1 + 1 + 1 + 1 + 1 + 1 + 1)) == (nAt (ops b) (((k : Nat) : Int).toNat * 12 + 1 + 1 + 1 + 1 + 1 + 1 + 1 + 1 + 1))) && (((bAt (ops a) (((k : Nat) : Int).toNat * 12 + 1 + 1 + 1 + 1 + 1 + 1 + 1 + 1 + 1 + 1)) == (bAt (ops b) (((k : Nat) : Int).toNat * 12 + 1 + 1 + 1 + 1 + 1 + 1 + 1 + 1 + 1 + 1))) && (((bAt (ops a) (((k : Nat) : Int).toNat * 12 + 1 + 1 + 1 + 1 + 1 + 1 + 1 + 1 + 1 + 1 + 1)) == (bAt (ops b) (((k : Nat) : Int).toNat * 12 + 1 + 1 + 1 + 1 + 1 + 1 + 1 + 1 + 1 + 1 + 1))) && true))))))))))))) = true → True ∧ RV.d (DV.bool false) = RV.d zz0) ∧ ((!(((nAt (ops a) (((k : Nat) : Int).toNat * 12)) == (nAt (ops b) (((k : Nat) : Int).toNat * 12))) && (((nAt (ops a) (((k : Nat) : Int).toNat * 12 + 1)) == (nAt (ops b) (((k : Nat) : Int).toNat * 12 + 1))) && (((nAt (ops a) (((k : Nat) : Int).toNat * 12 + 1 + 1)) == (nAt (ops b) (((k : Nat) : Int).toNat * 12 + 1 + 1))) && (((nAt (ops a) (((k : Nat) : Int).toNat * 12 + 1 + 1 + 1)) == (nAt (ops b) (((k : Nat) : Int).toNat * 12 + 1 + 1 + 1))) && (((nAt (ops a) (((k : Nat) : Int).toNat * 12 + 1 + 1 + 1 + 1)) == (nAt (ops b) (((k : Nat) : Int).toNat * 12 + 1 + 1 + 1 + 1))) && (((nAt (ops a) (((k : Nat) : Int).toNat * 12 + 1 + 1 + 1 + 1 + 1)) == (nAt (ops b) (((k : Nat) : Int).toNat * 12 + 1 + 1 + 1 + 1 + 1))) && (((nAt (ops a) (((k : Nat) : Int).toNat * 12 + 1 + 1 + 1 + 1 + 1 + 1)) == (nAt (ops b) (((k : Nat) : Int).toNat * 12 + 1 + 1 + 1 + 1 + 1 + 1))) && (((nAt (ops a) (((k : Nat) : Int).toNat * 12 + 1 + 1 + 1 + 1 + 1 + 1 + 1)) == (nAt (ops b) (((k : Nat) : Int).toNat * 12 + 1 + 1 + 1 + 1 + 1 + 1 + 1))) && (((nAt (ops a) (((k : Nat) : Int).toNat * 12 + 1 + 1 + 1 + 1 + 1 + 1 + 1 + 1)) == (nAt (ops b) (((k : Nat) : Int).toNat * 12 + 1 + 1 + 1 + 1 + 1 + 1 + 1 + 1))) && (((nAt (ops a) (((k : Nat) : Int).toNat * 12 + 1 + 1 + 1 + 1 + 1 + 1 + 1 + 1 + 1)) == (nAt (ops b) (((k : Nat) : Int).toNat * 12 + 1 + 1 + 1 + 1 + 1 + 1 + 1 + 1 + 1))) && (((bAt (ops a) (((k : Nat) : Int).toNat * 12 + 1 + 1 + 1 + 1 + 1 + 1 + 1 + 1 + 1 + 1)) == (bAt (ops b) (((k : Nat) : Int).toNat * 12 + 1 + 1 + 1 + 1 + 1 + 1 + 1 + 1 + 1 + 1))) && (((bAt (ops a) (((k : Nat) : Int).toNat * 12 + 1 + 1 + 1 + 1 + 1 + 1 + 1 + 1 + 1 + 1 + 1)) == (bAt (ops b) (((k : Nat) : Int).toNat * 12 + 1 + 1 + 1 + 1 + 1 + 1 + 1 + 1 + 1 + 1 + 1))) && true))))))))))))) = false → True ∧ True ∧ True ∧ ∃ k' : Nat, (k' ≤ a.length ∧ a.take k' = b.take k') ∧ (a.length - k' < a.length - k) ∧ ((zz2 ∧ zz3 ∧ (DV.int .i64 (IntKind.wrap .i64 (((k : Nat) : Int) + (1 : Int))) = DV.int .i64 ((k' : Nat) : Int)) ∧ True) ∧ (True))))) ∧ ((decide (((k : Nat) : Int) < ((a.length : Nat) : Int))) = false → True ∧ RV.d (DV.bool true) = RV.d zz0)))))) := by kernel_rfl
theorem R18_SameOps_ans (a : List Oq) (b : List Oq) : Ans Try.prog 51 [RV.d (DV.sl a.length (ops a)), RV.d (DV.sl b.length (ops b))] (RV.d (DV.bool (decide (toOps (ops a) = toOps (ops b))))) :=
  ans_of_vcg (Γ := gamEq) (R18_SameOps_ann a b) mixed_ Try.func51 rfl (Nat.le_of_ble_eq_true rfl) fun hwf => by
    refine Eq.mpr (R18_SameOps_vc a b) ?_
    simp only [true_and, and_true, RV.d.injEq, RV.agg.injEq, RV.tup.injEq, DV.bool.injEq, DV.int.injEq, DV.sl.injEq, List.cons.injEq, forall_const, Bool.not_false, Bool.not_true, Bool.not_eq_true', Bool.not_eq_false', decide_eq_true_eq, decide_eq_false_iff_not, Int.toNat_natCast, imQ, imQr, imC, oqQ, oqQr, oqC, oqD, pxQ, pxQr, pxC, pxD]
    have hil : a.length ≤ 9223372036854775807 ∧ b.length ≤ 9223372036854775807 := by
      simp only [RV.wfs, RV.wf, DV.wf, maxLen] at hwf
      omega
    clear hwf
    simp only [toOps_ops]
    refine ⟨fun h => ?_, fun h => ⟨⟨0, ⟨Nat.zero_le _, by simp⟩, rfl⟩, fun k hk => ⟨fun hlt => ?_, fun hge => ?_⟩⟩⟩
    · have h : a.length ≠ b.length := by simp at h; omega
      exact (decide_eq_false (fun e => h (congrArg List.length e))).symm
    · obtain ⟨k1, k2⟩ := hk
      have hl : a.length = b.length := by simp at h; omega
      have ha : k < a.length := by omega
      have hb : k < b.length := by omega
      have q1 := ops_rd ha
      have q2 := ops_at ha
      have r1 := ops_rd hb
      have r2 := ops_at hb
      have w1 : IntKind.wrap .i64 ((k : Int) + 1) = ((k + 1 : Nat) : Int) := by rw [IntWalk.i64_in _ ⟨by omega, by omega⟩]; omega
      simp only [q2, r2, w1]
      simp only [oq_beq]
      refine ⟨⟨by omega, by omega, by rw [ops_length]; omega⟩, q1, ⟨by omega, by omega, by rw [ops_length]; omega⟩, r1, fun e => ?_, fun e => ⟨k + 1, ⟨by omega, tk_succ ha hb k2 (by simpa using e)⟩, by omega, rfl⟩⟩
      exact (decide_eq_false (tk_ne ha hb (by simpa using e))).symm
    · obtain ⟨k1, k2⟩ := hk
      have hl : a.length = b.length := by simp at h; omega
      have : k = a.length := by omega
      subst this
      exact (decide_eq_true (tk_all hl k2)).symm

def script_Equal_1_ann (m : Im) (r : Im) : Ann := Ann.leaf
theorem script_Equal_1_vc (m : Im) (r : Im) : vcg Try.prog gamEq 15 (bodyOf Try.f53) (script_Equal_1_ann m r) kn0 (start [RV.agg [DV.int .i64 m.w, DV.int .i64 m.h, DV.bool m.so, DV.int .u16 m.c.a, DV.int .u16 m.c.b, DV.int .u16 m.c.c, DV.int .u16 m.c.al, DV.int .u16 m.c.f, DV.int .i64 m.p0.w, DV.int .i64 m.p0.h, DV.int .i64 m.p0.s, DV.sl m.p0.n m.p0.xs, DV.int .i64 m.p1.w, DV.int .i64 m.p1.h, DV.int .i64 m.p1.s, DV.sl m.p1.n m.p1.xs, DV.int .i64 m.p2.w, DV.int .i64 m.p2.h, DV.int .i64 m.p2.s, DV.sl m.p2.n m.p2.xs, DV.int .i64 m.p3.w, DV.int .i64 m.p3.h, DV.int .i64 m.p3.s, DV.sl m.p3.n m.p3.xs, DV.int .i64 m.p4.w, DV.int .i64 m.p4.h, DV.int .i64 m.p4.s, DV.sl m.p4.n m.p4.xs], RV.agg [DV.int .i64 r.w, DV.int .i64 r.h, DV.bool r.so, DV.int .u16 r.c.a, DV.int .u16 r.c.b, DV.int .u16 r.c.c, DV.int .u16 r.c.al, DV.int .u16 r.c.f, DV.int .i64 r.p0.w, DV.int .i64 r.p0.h, DV.int .i64 r.p0.s, DV.sl r.p0.n r.p0.xs, DV.int .i64 r.p1.w, DV.int .i64 r.p1.h, DV.int .i64 r.p1.s, DV.sl r.p1.n r.p1.xs, DV.int .i64 r.p2.w, DV.int .i64 r.p2.h, DV.int .i64 r.p2.s, DV.sl r.p2.n r.p2.xs, DV.int .i64 r.p3.w, DV.int .i64 r.p3.h, DV.int .i64 r.p3.s, DV.sl r.p3.n r.p3.xs, DV.int .i64 r.p4.w, DV.int .i64 r.p4.h, DV.int .i64 r.p4.s, DV.sl r.p4.n r.p4.xs]]) (post Try.prog Try.f53.results.toList (· = RV.d (DV.bool (eqI m r)))) =
  (True ∧ True ∧ True ∧ True ∧ True ∧ True ∧ True ∧ True ∧ True ∧ (((m.so == r.so) = true → True ∧ True ∧ (Ans Try.prog 54 [(imR (m)), (imR (r))] (RV.d (DV.bool (Im.equal m r)))) ∧ True ∧ True ∧ RV.d (DV.bool (Im.equal m r)) = RV.d (DV.bool (eqI m r))) ∧ ((m.so == r.so) = (!true) → True ∧ True ∧ RV.d (DV.bool false) = RV.d (DV.bool (eqI m r))))) := by kernel_rfl
theorem script_Equal_1_ans (m : Im) (r : Im) (hu : m.isU) (hv : r.isU) : Ans Try.prog 53 [RV.agg [DV.int .i64 m.w, DV.int .i64 m.h, DV.bool m.so, DV.int .u16 m.c.a, DV.int .u16 m.c.b, DV.int .u16 m.c.c, DV.int .u16 m.c.al, DV.int .u16 m.c.f, DV.int .i64 m.p0.w, DV.int .i64 m.p0.h, DV.int .i64 m.p0.s, DV.sl m.p0.n m.p0.xs, DV.int .i64 m.p1.w, DV.int .i64 m.p1.h, DV.int .i64 m.p1.s, DV.sl m.p1.n m.p1.xs, DV.int .i64 m.p2.w, DV.int .i64 m.p2.h, DV.int .i64 m.p2.s, DV.sl m.p2.n m.p2.xs, DV.int .i64 m.p3.w, DV.int .i64 m.p3.h, DV.int .i64 m.p3.s, DV.sl m.p3.n m.p3.xs, DV.int .i64 m.p4.w, DV.int .i64 m.p4.h, DV.int .i64 m.p4.s, DV.sl m.p4.n m.p4.xs], RV.agg [DV.int .i64 r.w, DV.int .i64 r.h, DV.bool r.so, DV.int .u16 r.c.a, DV.int .u16 r.c.b, DV.int .u16 r.c.c, DV.int .u16 r.c.al, DV.int .u16 r.c.f, DV.int .i64 r.p0.w, DV.int .i64 r.p0.h, DV.int .i64 r.p0.s, DV.sl r.p0.n r.p0.xs, DV.int .i64 r.p1.w, DV.int .i64 r.p1.h, DV.int .i64 r.p1.s, DV.sl r.p1.n r.p1.xs, DV.int .i64 r.p2.w, DV.int .i64 r.p2.h, DV.int .i64 r.p2.s, DV.sl r.p2.n r.p2.xs, DV.int .i64 r.p3.w, DV.int .i64 r.p3.h, DV.int .i64 r.p3.s, DV.sl r.p3.n r.p3.xs, DV.int .i64 r.p4.w, DV.int .i64 r.p4.h, DV.int .i64 r.p4.s, DV.sl r.p4.n r.p4.xs]] (RV.d (DV.bool (eqI m r))) :=
  ans_of_vcg (Γ := gamEq) (script_Equal_1_ann m r) mixed_ Try.func53 rfl (Nat.le_of_ble_eq_true rfl) fun hwf => by
    refine Eq.mpr (script_Equal_1_vc m r) ?_
    simp only [true_and, and_true, RV.d.injEq, RV.agg.injEq, RV.tup.injEq, DV.bool.injEq, DV.int.injEq, DV.sl.injEq, List.cons.injEq, forall_const, Bool.not_false, Bool.not_true, Bool.not_eq_true', Bool.not_eq_false', decide_eq_true_eq, decide_eq_false_iff_not, Int.toNat_natCast, imQ, imQr, imC, oqQ, oqQr, oqC, oqD, pxQ, pxQr, pxC, pxD]
    have := image_Equal_im m r hu hv
    refine ⟨fun h => ⟨this, ?_⟩, fun h => ?_⟩
    · unfold eqI; rw [h]; rfl
    · unfold eqI; rw [h]; rfl

def sl_EqualFuncIms_ann (a : List Im) (b : List Im) : Ann := (Ann.seq Ann.leaf (Ann.seq Ann.leaf (Ann.seq (Ann.seq Ann.leaf (Ann.loop ⟨Nat, fun k => k ≤ a.length ∧ eqTo a b k = true, fun k => ⟨[(1, AV.one (Cl.d (DV.sl b.length (ims b)))), (2, AV.one (Cl.d (DV.fn 53))), (15, AV.one (Cl.d (DV.sl a.length (ims a)))), (16, AV.one (Cl.d (DV.int .i64 ((a.length : Nat) : Int)))), (17, AV.one (Cl.d (DV.int .i64 ((k : Nat) : Int))))], []⟩, fun k => a.length - k⟩ fun k => Ann.leaf)) Ann.leaf)))
theorem sl_EqualFuncIms_vc (a : List Im) (b : List Im) : vcg Try.prog gamEq 32 (bodyOf Try.f56) (sl_EqualFuncIms_ann a b) kn0 (start [RV.d (DV.sl a.length (ims a)), RV.d (DV.sl b.length (ims b)), RV.d (DV.fn 53)]) (post Try.prog Try.f56.results.toList (· = RV.d (DV.bool (eqIms (toIms (ims a)) (toIms (ims b)))))) =
  (let zz0 := (DV.bool (eqIms (toIms (ims a)) (toIms (ims b)))); let zz1 := fun (k : Nat) => (k ≤ a.length ∧ eqTo a b k = true); let zz2 := (DV.sl b.length (ims b) = DV.sl b.length (ims b)); let zz3 := (DV.fn 53 = DV.fn 53); let zz4 := (DV.sl a.length (ims a) = DV.sl a.length (ims a)); let zz5 := (DV.int .i64 ((a.length : Nat) : Int) = DV.int .i64 ((a.length : Nat) : Int)); True ∧ True ∧ True ∧ True ∧ True ∧ True ∧ (((((a.length : Nat) : Int) != ((b.length : Nat) : Int)) = true → True ∧ RV.d (DV.bool false) = RV.d zz0) ∧ ((((a.length : Nat) : Int) != ((b.length : Nat) : Int)) = false → True ∧ True ∧ True ∧ ((∃ k : Nat, (zz1 k) ∧ ((zz2 ∧ zz3 ∧ zz4 ∧ zz5 ∧ (DV.int .i64 0 = DV.int .i64 ((k : Nat) : Int)) ∧ True) ∧ (True))) ∧ ∀ k : Nat, (zz1 k) → True ∧ (((decide (((k : Nat) : Int) < ((a.length : Nat) : Int))) = true → True ∧ (0 ≤ ((k : Nat) : Int) ∧ ((k : Nat) : Int) < ((a.length : Nat) : Int) ∧ ((k : Nat) : Int).toNat * 28 < (ims a).length) ∧ ((imQr (ims a) (((k : Nat) : Int).toNat * 28))) ∧ True ∧ True ∧ True ∧ True ∧ True ∧ (0 ≤ ((k : Nat) : Int) ∧ ((k : Nat) : Int) < ((b.length : Nat) : Int) ∧ ((k : Nat) : Int).toNat * 28 < (ims b).length) ∧ ((imQr (ims b) (((k : Nat) : Int).toNat * 28))) ∧ True ∧ True ∧ True ∧ True ∧ True ∧ (Ans Try.prog 53 [imR (imQ (ims a) (((k : Nat) : Int).toNat * 28)), imR (imQ (ims b) (((k : Nat) : Int).toNat * 28))] (RV.d (DV.bool (eqI (imQ (ims a) (((k : Nat) : Int).toNat * 28)) (imQ (ims b) (((k : Nat) : Int).toNat * 28)))))) ∧ True ∧ (((!(eqI (imQ (ims a) (((k : Nat) : Int).toNat * 28)) (imQ (ims b) (((k : Nat) : Int).toNat * 28)))) = true → True ∧ RV.d (DV.bool false) = RV.d zz0) ∧ ((!(eqI (imQ (ims a) (((k : Nat) : Int).toNat * 28)) (imQ (ims b) (((k : Nat) : Int).toNat * 28)))) = false → True ∧ True ∧ ∃ k' : Nat, (k' ≤ a.length ∧ eqTo a b k' = true) ∧ (a.length - k' < a.length - k) ∧ ((zz2 ∧ zz3 ∧ zz4 ∧ zz5 ∧ (DV.int .i64 (IntKind.wrap .i64 (((k : Nat) : Int) + (1 : Int))) = DV.int .i64 ((k' : Nat) : Int)) ∧ True) ∧ (True))))) ∧ ((decide (((k : Nat) : Int) < ((a.length : Nat) : Int))) = false → True ∧ RV.d (DV.bool true) = RV.d zz0)))))) := by kernel_rfl
theorem sl_EqualFuncIms_ans (a : List Im) (b : List Im) (hA : ∀ m ∈ a, m.isU) (hB : ∀ m ∈ b, m.isU) : Ans Try.prog 56 [RV.d (DV.sl a.length (ims a)), RV.d (DV.sl b.length (ims b)), RV.d (DV.fn 53)] (RV.d (DV.bool (eqIms (toIms (ims a)) (toIms (ims b))))) :=
  ans_of_vcg (Γ := gamEq) (sl_EqualFuncIms_ann a b) mixed_ Try.func56 rfl (Nat.le_of_ble_eq_true rfl) fun hwf => by
    refine Eq.mpr (sl_EqualFuncIms_vc a b) ?_
    simp only [true_and, and_true, RV.d.injEq, RV.agg.injEq, RV.tup.injEq, DV.bool.injEq, DV.int.injEq, DV.sl.injEq, List.cons.injEq, forall_const, Bool.not_false, Bool.not_true, Bool.not_eq_true', Bool.not_eq_false', decide_eq_true_eq, decide_eq_false_iff_not, Int.toNat_natCast, imQ, imQr, imC, oqQ, oqQr, oqC, oqD, pxQ, pxQr, pxC, pxD]
    have hil : a.length ≤ 9223372036854775807 ∧ b.length ≤ 9223372036854775807 := by
      simp only [RV.wfs, RV.wf, DV.wf, maxLen] at hwf
      omega
    clear hwf
    simp only [toIms_ims]
    refine ⟨fun h => ?_, fun h => ⟨⟨0, ⟨Nat.zero_le _, by simp [eqTo]⟩, rfl⟩, fun k hk => ⟨fun hlt => ?_, fun hge => ?_⟩⟩⟩
    · have h : a.length ≠ b.length := by simp at h; omega
      unfold eqIms
      rw [decide_eq_false h]; rfl
    · obtain ⟨k1, k2⟩ := hk
      have hl : a.length = b.length := by simp at h; omega
      have ha : k < a.length := by omega
      have hb : k < b.length := by omega
      have q1 := ims_rd ha
      have q2 := ims_at ha
      have r1 := ims_rd hb
      have r2 := ims_at hb
      have w1 : IntKind.wrap .i64 ((k : Int) + 1) = ((k + 1 : Nat) : Int) := by rw [IntWalk.i64_in _ ⟨by omega, by omega⟩]; omega
      have e1 := script_Equal_1_ans a[k] b[k] (hA _ (List.getElem_mem ha)) (hB _ (List.getElem_mem hb))
      simp only [q2, r2, w1]
      refine ⟨⟨by omega, by omega, by rw [ims_length]; omega⟩, q1, ⟨by omega, by omega, by rw [ims_length]; omega⟩, r1, e1, fun e => ?_, fun e => ⟨k + 1, ⟨by omega, eqTo_succ ha hb k2 e⟩, by omega, rfl⟩⟩
      unfold eqIms
      rw [eqTo_bad ha hb e, Bool.and_false]
    · obtain ⟨k1, k2⟩ := hk
      have hl : a.length = b.length := by simp at h; omega
      have : k = a.length := by omega
      subst this
      unfold eqIms
      rw [k2, decide_eq_true hl]; rfl

def script_Equal_ann (s : Scr) (t : Scr) : Ann := Ann.leaf
theorem script_Equal_vc (s : Scr) (t : Scr) : vcg Try.prog gamEq 54 (bodyOf Try.f22) (script_Equal_ann s t) kn0 (start [RV.agg [DV.int .i64 s.bits, DV.int .i64 s.c.a, DV.int .i64 s.c.b, DV.int .i64 s.c.c, DV.int .i64 s.c.d, DV.int .i64 s.tw, DV.int .i64 s.th, DV.sl s.ord.length (is s.ord), DV.sl s.ims.length (ims s.ims), DV.sl s.ops.length (ops s.ops)], RV.agg [DV.int .i64 t.bits, DV.int .i64 t.c.a, DV.int .i64 t.c.b, DV.int .i64 t.c.c, DV.int .i64 t.c.d, DV.int .i64 t.tw, DV.int .i64 t.th, DV.sl t.ord.length (is t.ord), DV.sl t.ims.length (ims t.ims), DV.sl t.ops.length (ops t.ops)]]) (post Try.prog Try.f22.results.toList (· = RV.d (DV.bool (eqS s (⟨t.bits, ⟨t.c.a, t.c.b, t.c.c, t.c.d⟩, t.tw, t.th, ints (is t.ord), toIms (ims t.ims), toOps (ops t.ops)⟩ : Scr))))) =
  (let zz0 := (DV.bool (decide (toOps ((ops s.ops)) = toOps ((ops t.ops))))); True ∧ True ∧ True ∧ True ∧ True ∧ True ∧ True ∧ True ∧ True ∧ True ∧ (((s.bits == t.bits) = true → True ∧ True ∧ True ∧ True ∧ True ∧ True ∧ True ∧ ((((s.c.a == t.c.a) && ((s.c.b == t.c.b) && ((s.c.c == t.c.c) && ((s.c.d == t.c.d) && true)))) = true → True ∧ True ∧ True ∧ True ∧ True ∧ True ∧ True ∧ (((s.tw == t.tw) = true → True ∧ True ∧ True ∧ True ∧ True ∧ True ∧ True ∧ (((s.th == t.th) = true → True ∧ True ∧ True ∧ True ∧ (Ans Try.prog 55 [RV.d (DV.sl s.ord.length (is s.ord)), RV.d (DV.sl t.ord.length (is t.ord))] (RV.d (DV.bool (decide (ints ((is s.ord)) = ints ((is t.ord))))))) ∧ True ∧ True ∧ (((decide (ints ((is s.ord)) = ints ((is t.ord)))) = true → True ∧ True ∧ True ∧ True ∧ True ∧ (Ans Try.prog 56 [RV.d (DV.sl s.ims.length (ims s.ims)), RV.d (DV.sl t.ims.length (ims t.ims)), RV.d (DV.fn 53)] (RV.d (DV.bool (eqIms (toIms ((ims s.ims))) (toIms ((ims t.ims))))))) ∧ True ∧ True ∧ (((eqIms (toIms ((ims s.ims))) (toIms ((ims t.ims)))) = true → True ∧ True ∧ True ∧ True ∧ (Ans Try.prog 57 [RV.d (DV.sl s.ops.length (ops s.ops)), RV.d (DV.sl t.ops.length (ops t.ops))] (RV.d zz0)) ∧ True ∧ True ∧ RV.d zz0 = RV.d (DV.bool (eqS s (⟨t.bits, t.c, t.tw, t.th, ints (is t.ord), toIms (ims t.ims), toOps (ops t.ops)⟩ : Scr)))) ∧ ((eqIms (toIms ((ims s.ims))) (toIms ((ims t.ims)))) = (!true) → True ∧ True ∧ RV.d (DV.bool false) = RV.d (DV.bool (eqS s (⟨t.bits, t.c, t.tw, t.th, ints (is t.ord), toIms (ims t.ims), toOps (ops t.ops)⟩ : Scr)))))) ∧ ((decide (ints ((is s.ord)) = ints ((is t.ord)))) = (!true) → True ∧ True ∧ True ∧ True ∧ RV.d (DV.bool false) = RV.d (DV.bool (eqS s (⟨t.bits, t.c, t.tw, t.th, ints (is t.ord), toIms (ims t.ims), toOps (ops t.ops)⟩ : Scr)))))) ∧ ((s.th == t.th) = (!true) → True ∧ True ∧ True ∧ True ∧ True ∧ True ∧ RV.d (DV.bool false) = RV.d (DV.bool (eqS s (⟨t.bits, t.c, t.tw, t.th, ints (is t.ord), toIms (ims t.ims), toOps (ops t.ops)⟩ : Scr)))))) ∧ ((s.tw == t.tw) = (!true) → True ∧ True ∧ True ∧ True ∧ True ∧ True ∧ True ∧ True ∧ RV.d (DV.bool false) = RV.d (DV.bool (eqS s (⟨t.bits, t.c, t.tw, t.th, ints (is t.ord), toIms (ims t.ims), toOps (ops t.ops)⟩ : Scr)))))) ∧ (((s.c.a == t.c.a) && ((s.c.b == t.c.b) && ((s.c.c == t.c.c) && ((s.c.d == t.c.d) && true)))) = (!true) → True ∧ True ∧ True ∧ True ∧ True ∧ True ∧ True ∧ True ∧ True ∧ True ∧ RV.d (DV.bool false) = RV.d (DV.bool (eqS s (⟨t.bits, t.c, t.tw, t.th, ints (is t.ord), toIms (ims t.ims), toOps (ops t.ops)⟩ : Scr)))))) ∧ ((s.bits == t.bits) = (!true) → True ∧ True ∧ True ∧ True ∧ True ∧ True ∧ True ∧ True ∧ True ∧ True ∧ True ∧ True ∧ RV.d (DV.bool false) = RV.d (DV.bool (eqS s (⟨t.bits, t.c, t.tw, t.th, ints (is t.ord), toIms (ims t.ims), toOps (ops t.ops)⟩ : Scr)))))) := by kernel_rfl
theorem script_Equal_ans (s : Scr) (t : Scr) (hM : ∀ m ∈ s.ims, m.isU) (hN : ∀ m ∈ t.ims, m.isU) : Ans Try.prog 22 [RV.agg [DV.int .i64 s.bits, DV.int .i64 s.c.a, DV.int .i64 s.c.b, DV.int .i64 s.c.c, DV.int .i64 s.c.d, DV.int .i64 s.tw, DV.int .i64 s.th, DV.sl s.ord.length (is s.ord), DV.sl s.ims.length (ims s.ims), DV.sl s.ops.length (ops s.ops)], RV.agg [DV.int .i64 t.bits, DV.int .i64 t.c.a, DV.int .i64 t.c.b, DV.int .i64 t.c.c, DV.int .i64 t.c.d, DV.int .i64 t.tw, DV.int .i64 t.th, DV.sl t.ord.length (is t.ord), DV.sl t.ims.length (ims t.ims), DV.sl t.ops.length (ops t.ops)]] (RV.d (DV.bool (eqS s (⟨t.bits, ⟨t.c.a, t.c.b, t.c.c, t.c.d⟩, t.tw, t.th, ints (is t.ord), toIms (ims t.ims), toOps (ops t.ops)⟩ : Scr)))) :=
  ans_of_vcg (Γ := gamEq) (script_Equal_ann s t) mixed_ Try.func22 rfl (Nat.le_of_ble_eq_true rfl) fun hwf => by
    refine Eq.mpr (script_Equal_vc s t) ?_
    simp only [true_and, and_true, RV.d.injEq, RV.agg.injEq, RV.tup.injEq, DV.bool.injEq, DV.int.injEq, DV.sl.injEq, List.cons.injEq, forall_const, Bool.not_false, Bool.not_true, Bool.not_eq_true', Bool.not_eq_false', decide_eq_true_eq, decide_eq_false_iff_not, Int.toNat_natCast, imQ, imQr, imC, oqQ, oqQr, oqC, oqD, pxQ, pxQr, pxC, pxD]
    have a1 := slices_Equal_int_int_ans s.ord t.ord
    have a2 := sl_EqualFuncIms_ans s.ims t.ims hM hN
    have a3 := sl_EqualOps_ans s.ops t.ops
    have eS : (⟨t.bits, t.c, t.tw, t.th, t.ord, t.ims, t.ops⟩ : Scr) = t := rfl
    clear hwf
    simp only [ints_is, toIms_ims, toOps_ops, eS] at a1 a2 a3 ⊢
    have E := eqS_beq s t
    refine ⟨fun h1 => ⟨fun h2 => ⟨fun h3 => ⟨fun h4 => ⟨a1, fun h5 => ⟨a2, fun h6 => ⟨a3, ?_⟩, fun h6 => ?_⟩, fun h5 => ?_⟩, fun h4 => ?_⟩, fun h3 => ?_⟩, fun h2 => ?_⟩, fun h1 => ?_⟩
    · rw [E, h1, h2, h3, h4, h6, decide_eq_true h5]; rfl
    · rw [E, h6]; simp
    · rw [E, decide_eq_false h5]; simp
    · rw [E, h4]; simp
    · rw [E, h3]; simp
    · rw [E, h2]; simp
    · rw [E, h1]; simp

def R18_Equal_ann (s : Scr) (t : Scr) : Ann := (Ann.seq Ann.leaf (Ann.seq Ann.leaf (Ann.seq (Ann.seq Ann.leaf (Ann.loop ⟨Nat, fun k => k ≤ s.ims.length ∧ eqTo s.ims t.ims k = true, fun k => ⟨[(2, AV.one (Cl.ptr 2 0)), (3, AV.one (Cl.ptr 3 0)), (5, AV.one (Cl.d (DV.int .i64 ((k : Nat) : Int))))], [(2, Bx.cells [Cl.d (DV.int .i64 s.bits), Cl.d (DV.int .i64 s.c.a), Cl.d (DV.int .i64 s.c.b), Cl.d (DV.int .i64 s.c.c), Cl.d (DV.int .i64 s.c.d), Cl.d (DV.int .i64 s.tw), Cl.d (DV.int .i64 s.th), Cl.d (DV.sl s.ord.length (is s.ord)), Cl.d (DV.sl s.ims.length (ims s.ims)), Cl.d (DV.sl s.ops.length (ops s.ops))]), (3, Bx.cells [Cl.d (DV.int .i64 t.bits), Cl.d (DV.int .i64 t.c.a), Cl.d (DV.int .i64 t.c.b), Cl.d (DV.int .i64 t.c.c), Cl.d (DV.int .i64 t.c.d), Cl.d (DV.int .i64 t.tw), Cl.d (DV.int .i64 t.th), Cl.d (DV.sl t.ord.length (is t.ord)), Cl.d (DV.sl t.ims.length (ims t.ims)), Cl.d (DV.sl t.ops.length (ops t.ops))])]⟩, fun k => s.ims.length - k⟩ fun k => Ann.leaf)) Ann.leaf)))
theorem R18_Equal_vc (s : Scr) (t : Scr) : vcg Try.prog gamEq 91 (bodyOf Try.f21) (R18_Equal_ann s t) kn0 (start [RV.agg [DV.int .i64 s.bits, DV.int .i64 s.c.a, DV.int .i64 s.c.b, DV.int .i64 s.c.c, DV.int .i64 s.c.d, DV.int .i64 s.tw, DV.int .i64 s.th, DV.sl s.ord.length (is s.ord), DV.sl s.ims.length (ims s.ims), DV.sl s.ops.length (ops s.ops)], RV.agg [DV.int .i64 t.bits, DV.int .i64 t.c.a, DV.int .i64 t.c.b, DV.int .i64 t.c.c, DV.int .i64 t.c.d, DV.int .i64 t.tw, DV.int .i64 t.th, DV.sl t.ord.length (is t.ord), DV.sl t.ims.length (ims t.ims), DV.sl t.ops.length (ops t.ops)]]) (post Try.prog Try.f21.results.toList (· = RV.d (DV.bool (eqS s (⟨t.bits, ⟨t.c.a, t.c.b, t.c.c, t.c.d⟩, t.tw, t.th, ints (is t.ord), toIms (ims t.ims), toOps (ops t.ops)⟩ : Scr))))) =
  (let zz0 := fun (k : Nat) => (k ≤ s.ims.length ∧ eqTo s.ims t.ims k = true); let zz1 := [DV.int .i64 s.bits, DV.int .i64 s.c.a, DV.int .i64 s.c.b, DV.int .i64 s.c.c, DV.int .i64 s.c.d, DV.int .i64 s.tw, DV.int .i64 s.th, DV.sl s.ord.length (is s.ord), DV.sl s.ims.length (ims s.ims), DV.sl s.ops.length (ops s.ops)]; let zz2 := [DV.int .i64 t.bits, DV.int .i64 t.c.a, DV.int .i64 t.c.b, DV.int .i64 t.c.c, DV.int .i64 t.c.d, DV.int .i64 t.tw, DV.int .i64 t.th, DV.sl t.ord.length (is t.ord), DV.sl t.ims.length (ims t.ims), DV.sl t.ops.length (ops t.ops)]; let zz3 := ((zz1 = zz1) ∧ (zz2 = zz2) ∧ True); let zz4 := fun (k : Nat) => (0 ≤ ((k : Nat) : Int) ∧ ((k : Nat) : Int) < ((s.ims.length : Nat) : Int) ∧ ((k : Nat) : Int).toNat * 28 < (ims s.ims).length); let zz5 := fun (k : Nat) => (0 ≤ ((k : Nat) : Int) ∧ ((k : Nat) : Int) < ((t.ims.length : Nat) : Int) ∧ ((k : Nat) : Int).toNat * 28 < (ims t.ims).length); True ∧ True ∧ True ∧ True ∧ True ∧ True ∧ True ∧ True ∧ True ∧ (((s.bits != t.bits) = false → True ∧ True ∧ True ∧ True ∧ True ∧ True ∧ True ∧ (((!((s.c.a == t.c.a) && ((s.c.b == t.c.b) && ((s.c.c == t.c.c) && ((s.c.d == t.c.d) && true))))) = false → True ∧ True ∧ True ∧ True ∧ True ∧ True ∧ True ∧ (((s.tw != t.tw) = false → True ∧ True ∧ True ∧ True ∧ True ∧ True ∧ True ∧ (((s.th != t.th) = false → True ∧ True ∧ True ∧ True ∧ (Ans Try.prog 50 [RV.d (DV.sl s.ord.length (is s.ord)), RV.d (DV.sl t.ord.length (is t.ord))] (RV.d (DV.bool (decide (ints ((is s.ord)) = ints ((is t.ord))))))) ∧ True ∧ True ∧ True ∧ (((!(decide (ints ((is s.ord)) = ints ((is t.ord))))) = false → True ∧ True ∧ True ∧ True ∧ True ∧ True ∧ True ∧ True ∧ True ∧ (((((s.ims.length : Nat) : Int) != ((t.ims.length : Nat) : Int)) = false → True ∧ True ∧ True ∧ True ∧ (Ans Try.prog 51 [RV.d (DV.sl s.ops.length (ops s.ops)), RV.d (DV.sl t.ops.length (ops t.ops))] (RV.d (DV.bool (decide (toOps ((ops s.ops)) = toOps ((ops t.ops))))))) ∧ True ∧ True ∧ (((!(decide (toOps ((ops s.ops)) = toOps ((ops t.ops))))) = true → True ∧ RV.d (DV.bool false) = RV.d (DV.bool (eqS s (⟨t.bits, t.c, t.tw, t.th, ints (is t.ord), toIms (ims t.ims), toOps (ops t.ops)⟩ : Scr)))) ∧ ((!(decide (toOps ((ops s.ops)) = toOps ((ops t.ops))))) = false → True ∧ ((∃ k : Nat, (zz0 k) ∧ (((0 = 0) ∧ (0 = 0) ∧ (DV.int .i64 0 = DV.int .i64 ((k : Nat) : Int)) ∧ True) ∧ zz3)) ∧ ∀ k : Nat, (zz0 k) → True ∧ True ∧ True ∧ True ∧ True ∧ (((decide (((k : Nat) : Int) < ((s.ims.length : Nat) : Int))) = true → True ∧ True ∧ True ∧ (zz4 k) ∧ True ∧ (((ims s.ims)[((k : Nat) : Int).toNat * 28 + 2]? = some (DV.bool (bAt (ims s.ims) (((k : Nat) : Int).toNat * 28 + 2)))) ∧ True) ∧ True ∧ True ∧ True ∧ (zz5 k) ∧ True ∧ (((ims t.ims)[((k : Nat) : Int).toNat * 28 + 2]? = some (DV.bool (bAt (ims t.ims) (((k : Nat) : Int).toNat * 28 + 2)))) ∧ True) ∧ True ∧ True ∧ (((!((bAt (ims s.ims) (((k : Nat) : Int).toNat * 28 + 2)) == (bAt (ims t.ims) (((k : Nat) : Int).toNat * 28 + 2)))) = false → True ∧ True ∧ True ∧ (zz4 k) ∧ ((imQr (ims s.ims) (((k : Nat) : Int).toNat * 28))) ∧ True ∧ True ∧ True ∧ (zz5 k) ∧ ((imQr (ims t.ims) (((k : Nat) : Int).toNat * 28))) ∧ (Ans Try.prog 52 [imR (imQ (ims s.ims) (((k : Nat) : Int).toNat * 28)), imR (imQ (ims t.ims) (((k : Nat) : Int).toNat * 28))] (RV.d (DV.bool (Im.equal (imQ (ims s.ims) (((k : Nat) : Int).toNat * 28)) (imQ (ims t.ims) (((k : Nat) : Int).toNat * 28)))))) ∧ True ∧ True ∧ (true = true) ∧ (((!(Im.equal (imQ (ims s.ims) (((k : Nat) : Int).toNat * 28)) (imQ (ims t.ims) (((k : Nat) : Int).toNat * 28)))) = true → True ∧ RV.d (DV.bool false) = RV.d (DV.bool (eqS s (⟨t.bits, t.c, t.tw, t.th, ints (is t.ord), toIms (ims t.ims), toOps (ops t.ops)⟩ : Scr)))) ∧ ((!(Im.equal (imQ (ims s.ims) (((k : Nat) : Int).toNat * 28)) (imQ (ims t.ims) (((k : Nat) : Int).toNat * 28)))) = false → True ∧ True ∧ True ∧ ∃ k' : Nat, (k' ≤ s.ims.length ∧ eqTo s.ims t.ims k' = true) ∧ (s.ims.length - k' < s.ims.length - k) ∧ (((0 = 0) ∧ (0 = 0) ∧ (DV.int .i64 (IntKind.wrap .i64 (((k : Nat) : Int) + (1 : Int))) = DV.int .i64 ((k' : Nat) : Int)) ∧ True) ∧ zz3)))) ∧ ((!((bAt (ims s.ims) (((k : Nat) : Int).toNat * 28 + 2)) == (bAt (ims t.ims) (((k : Nat) : Int).toNat * 28 + 2)))) = (!false) → True ∧ (true = true) ∧ True ∧ RV.d (DV.bool false) = RV.d (DV.bool (eqS s (⟨t.bits, t.c, t.tw, t.th, ints (is t.ord), toIms (ims t.ims), toOps (ops t.ops)⟩ : Scr)))))) ∧ ((decide (((k : Nat) : Int) < ((s.ims.length : Nat) : Int))) = false → True ∧ RV.d (DV.bool true) = RV.d (DV.bool (eqS s (⟨t.bits, t.c, t.tw, t.th, ints (is t.ord), toIms (ims t.ims), toOps (ops t.ops)⟩ : Scr))))))))) ∧ ((((s.ims.length : Nat) : Int) != ((t.ims.length : Nat) : Int)) = (!false) → True ∧ True ∧ RV.d (DV.bool false) = RV.d (DV.bool (eqS s (⟨t.bits, t.c, t.tw, t.th, ints (is t.ord), toIms (ims t.ims), toOps (ops t.ops)⟩ : Scr)))))) ∧ ((!(decide (ints ((is s.ord)) = ints ((is t.ord))))) = (!false) → True ∧ True ∧ True ∧ True ∧ RV.d (DV.bool false) = RV.d (DV.bool (eqS s (⟨t.bits, t.c, t.tw, t.th, ints (is t.ord), toIms (ims t.ims), toOps (ops t.ops)⟩ : Scr)))))) ∧ ((s.th != t.th) = (!false) → True ∧ True ∧ True ∧ True ∧ True ∧ True ∧ RV.d (DV.bool false) = RV.d (DV.bool (eqS s (⟨t.bits, t.c, t.tw, t.th, ints (is t.ord), toIms (ims t.ims), toOps (ops t.ops)⟩ : Scr)))))) ∧ ((s.tw != t.tw) = (!false) → True ∧ True ∧ True ∧ True ∧ True ∧ True ∧ True ∧ True ∧ RV.d (DV.bool false) = RV.d (DV.bool (eqS s (⟨t.bits, t.c, t.tw, t.th, ints (is t.ord), toIms (ims t.ims), toOps (ops t.ops)⟩ : Scr)))))) ∧ ((!((s.c.a == t.c.a) && ((s.c.b == t.c.b) && ((s.c.c == t.c.c) && ((s.c.d == t.c.d) && true))))) = (!false) → True ∧ True ∧ True ∧ True ∧ True ∧ True ∧ True ∧ True ∧ True ∧ True ∧ RV.d (DV.bool false) = RV.d (DV.bool (eqS s (⟨t.bits, t.c, t.tw, t.th, ints (is t.ord), toIms (ims t.ims), toOps (ops t.ops)⟩ : Scr)))))) ∧ ((s.bits != t.bits) = (!false) → True ∧ True ∧ True ∧ True ∧ True ∧ True ∧ True ∧ True ∧ True ∧ True ∧ True ∧ True ∧ RV.d (DV.bool false) = RV.d (DV.bool (eqS s (⟨t.bits, t.c, t.tw, t.th, ints (is t.ord), toIms (ims t.ims), toOps (ops t.ops)⟩ : Scr)))))) := by kernel_rfl
theorem R18_Equal_ans (s : Scr) (t : Scr) (hM : ∀ m ∈ s.ims, m.isU) (hN : ∀ m ∈ t.ims, m.isU) : Ans Try.prog 21 [RV.agg [DV.int .i64 s.bits, DV.int .i64 s.c.a, DV.int .i64 s.c.b, DV.int .i64 s.c.c, DV.int .i64 s.c.d, DV.int .i64 s.tw, DV.int .i64 s.th, DV.sl s.ord.length (is s.ord), DV.sl s.ims.length (ims s.ims), DV.sl s.ops.length (ops s.ops)], RV.agg [DV.int .i64 t.bits, DV.int .i64 t.c.a, DV.int .i64 t.c.b, DV.int .i64 t.c.c, DV.int .i64 t.c.d, DV.int .i64 t.tw, DV.int .i64 t.th, DV.sl t.ord.length (is t.ord), DV.sl t.ims.length (ims t.ims), DV.sl t.ops.length (ops t.ops)]] (RV.d (DV.bool (eqS s (⟨t.bits, ⟨t.c.a, t.c.b, t.c.c, t.c.d⟩, t.tw, t.th, ints (is t.ord), toIms (ims t.ims), toOps (ops t.ops)⟩ : Scr)))) :=
  ans_of_vcg (Γ := gamEq) (R18_Equal_ann s t) mixed_ Try.func21 rfl (Nat.le_of_ble_eq_true rfl) fun hwf => by
    refine Eq.mpr (R18_Equal_vc s t) ?_
    simp only [true_and, and_true, RV.d.injEq, RV.agg.injEq, RV.tup.injEq, DV.bool.injEq, DV.int.injEq, DV.sl.injEq, List.cons.injEq, forall_const, Bool.not_false, Bool.not_true, Bool.not_eq_true', Bool.not_eq_false', decide_eq_true_eq, decide_eq_false_iff_not, Int.toNat_natCast, imQ, imQr, imC, oqQ, oqQr, oqC, oqD, pxQ, pxQr, pxC, pxD]
    have a1 := R18_SameInts_ans s.ord.length (is s.ord) t.ord.length (is t.ord) (isI_is rfl) (isI_is rfl)
    have a3 := R18_SameOps_ans s.ops t.ops
    have hil : s.ims.length ≤ 9223372036854775807 := by
      simp only [RV.wfs, RV.wf, DV.wf, DV.wfs, maxLen] at hwf
      omega
    have eS : (⟨t.bits, t.c, t.tw, t.th, t.ord, t.ims, t.ops⟩ : Scr) = t := rfl
    clear hwf
    simp only [ints_is, toIms_ims, toOps_ops, eS] at a1 a3 ⊢
    have E := eqS_beq s t
    refine ⟨fun h1 => ⟨fun h2 => ⟨fun h3 => ⟨fun h4 => ⟨a1, fun h5 => ⟨fun h6 => ⟨a3, fun h7 => ?_, fun h7 => ⟨⟨0, ⟨Nat.zero_le _, by simp [eqTo]⟩, rfl⟩, fun k hk => ⟨fun hlt => ?_, fun hge => ?_⟩⟩⟩, fun h6 => ?_⟩, fun h5 => ?_⟩, fun h4 => ?_⟩, fun h3 => ?_⟩, fun h2 => ?_⟩, fun h1 => ?_⟩
    · rw [E, decide_eq_false h7]; simp
    · obtain ⟨k1, k2⟩ := hk
      have hl : s.ims.length = t.ims.length := by simp at h6; omega
      have ha : k < s.ims.length := by omega
      have hb : k < t.ims.length := by omega
      have q1 := ims_rd ha
      have q2 := ims_at ha
      have r1 := ims_rd hb
      have r2 := ims_at hb
      have q3 : bAt (ims s.ims) (k * 28 + 2) = s.ims[k].so := q2.2.2.1
      have r3 : bAt (ims t.ims) (k * 28 + 2) = t.ims[k].so := r2.2.2.1
      have q4 : (ims s.ims)[k * 28 + 2]? = some (DV.bool s.ims[k].so) := q1.2.2.1
      have r4 : (ims t.ims)[k * 28 + 2]? = some (DV.bool t.ims[k].so) := r1.2.2.1
      have w1 : IntKind.wrap .i64 ((k : Int) + 1) = ((k + 1 : Nat) : Int) := by rw [IntWalk.i64_in _ ⟨by omega, by omega⟩]; omega
      have e1 := R13_EqualImages_im s.ims[k] t.ims[k] (hM _ (List.getElem_mem ha)) (hN _ (List.getElem_mem hb))
      have bad : eqI s.ims[k] t.ims[k] = false → false = eqS s t := fun h => by
        have : eqIms s.ims t.ims = false := by unfold eqIms; rw [eqTo_bad ha hb h, Bool.and_false]
        rw [E, this]; simp
      simp only [q2, r2, q3, r3, w1]
      have B1 : (0 : Int) ≤ (k : Int) ∧ (k : Int) < (s.ims.length : Int) ∧ k * 28 < (ims s.ims).length := ⟨by omega, by omega, by rw [ims_length]; omega⟩
      have B2 : (0 : Int) ≤ (k : Int) ∧ (k : Int) < (t.ims.length : Int) ∧ k * 28 < (ims t.ims).length := ⟨by omega, by omega, by rw [ims_length]; omega⟩
      refine ⟨B1, q4, B2, r4, fun h8 => ⟨B1, q1, B2, r1, e1, fun h9 => bad ?_, fun h9 => ⟨k + 1, ⟨by omega, eqTo_succ ha hb k2 ?_⟩, by omega, rfl⟩⟩, fun h8 => bad ?_⟩
      · have h9 : s.ims[k].equal t.ims[k] = false := h9
        unfold eqI; rw [h9, Bool.and_false]
      · have h9 : s.ims[k].equal t.ims[k] = true := h9
        unfold eqI; rw [h9, h8]; rfl
      · unfold eqI; rw [h8, Bool.false_and]
    · obtain ⟨k1, k2⟩ := hk
      have hl : s.ims.length = t.ims.length := by simp at h6; omega
      have : k = s.ims.length := by omega
      subst this
      have h8 : eqIms s.ims t.ims = true := by unfold eqIms; rw [k2, decide_eq_true hl]; rfl
      have h1 : (s.bits == t.bits) = true := by simpa using h1
      have h3 : (s.tw == t.tw) = true := by simpa using h3
      have h4 : (s.th == t.th) = true := by simpa using h4
      rw [E, h1, h2, h3, h4, h8, decide_eq_true h5, decide_eq_true h7]; rfl
    · have hl : s.ims.length ≠ t.ims.length := by simp at h6; omega
      have : eqIms s.ims t.ims = false := by unfold eqIms; rw [decide_eq_false hl]; rfl
      rw [E, this]; simp
    · rw [E, decide_eq_false h5]; simp
    · have h4 : (s.th == t.th) = false := by simpa using h4
      rw [E, h4]; simp
    · have h3 : (s.tw == t.tw) = false := by simpa using h3
      rw [E, h3]; simp
    · rw [E, h2]; simp
    · have h1 : (s.bits == t.bits) = false := by simpa using h1
      rw [E, h1]; simp

end Go.Proofs.Ytkfgmaecbclgfaa

/-
  Rows of images and operations: writing an element, or a field of one.
-/
namespace Go.Proofs.Ytkfgmaecbclgfaa
open Go.RowKit
set_option linter.unusedVariables false
set_option linter.unusedSimpArgs false

section
variable {α : Type} {f : α → List DV} {m : Nat}
theorem flat_len (hf : ∀ a, (f a).length = m) (l : List α) : (l.flatMap f).length = l.length * m := by
  induction l with
  | nil => simp
  | cons a l ih => rw [List.flatMap_cons, List.length_append, hf, ih, List.length_cons, Nat.add_mul]; omega
theorem flat_take (hf : ∀ a, (f a).length = m) : ∀ (l : List α) (k : Nat), (l.flatMap f).take (k * m) = (l.take k).flatMap f
  | [], k => by simp
  | a :: l, 0 => by simp
  | a :: l, k + 1 => by
    rw [List.flatMap_cons, List.take_succ_cons, List.flatMap_cons, List.take_append, hf, List.take_of_length_le (by rw [hf, Nat.add_mul]; omega), show (k + 1) * m - m = k * m by rw [Nat.add_mul]; omega, flat_take hf l k]
theorem flat_set (hf : ∀ a, (f a).length = m) {l : List α} {k : Nat} (h : k < l.length) {j : Nat} (hj : j < m) {d : DV} {a : α} (ha : f a = (f l[k]).set j d) : (l.flatMap f).set (k * m + j) d = (l.set k a).flatMap f := by
  have e : l.flatMap f = (l.take k).flatMap f ++ (f l[k] ++ (l.drop (k + 1)).flatMap f) := by
    have e0 : l = l.take k ++ (l[k] :: l.drop (k + 1)) := by rw [← List.drop_eq_getElem_cons h, List.take_append_drop]
    have e1 := congrArg (List.flatMap f) e0
    rw [List.flatMap_append, List.flatMap_cons] at e1
    exact e1
  have e2 : (l.set k a).flatMap f = (l.take k).flatMap f ++ (f a ++ (l.drop (k + 1)).flatMap f) := by
    rw [List.set_eq_take_append_cons_drop, if_pos h]
    simp
  have lt : ((l.take k).flatMap f).length = k * m := by rw [flat_len hf, List.length_take, Nat.min_eq_left (by omega)]
  rw [e, e2, ha, List.set_append_right _ _ (by omega), lt, show k * m + j - k * m = j by omega, List.set_append_left _ _ (by rw [hf]; exact hj)]
end
theorem ims_set {l : List Im} {k : Nat} (h : k < l.length) {j : Nat} (hj : j < 28) {d : DV} {m : Im} (ha : m.ds = l[k].ds.set j d) : (ims l).set (k * 28 + j) d = ims (l.set k m) := flat_set (f := Im.ds) (m := 28) (fun _ => rfl) h hj ha
theorem ops_set {l : List Oq} {k : Nat} (h : k < l.length) {j : Nat} (hj : j < 12) {d : DV} {o : Oq} (ha : o.cells = l[k].cells.set j d) : (ops l).set (k * 12 + j) d = ops (l.set k o) := flat_set (f := Oq.cells) (m := 12) (fun _ => rfl) h hj ha
theorem ims_take (l : List Im) (k : Nat) : (ims l).take (k * 28) = ims (l.take k) := flat_take (f := Im.ds) (m := 28) (fun _ => rfl) l k
/-! ### images with longer rows -/
end Go.Proofs.Ytkfgmaecbclgfaa

/-
  Images with longer rows.
-/
namespace Go.Proofs.Ytkfgmaecbclgfaa
open Go.RowKit
set_option linter.unusedVariables false
set_option linter.unusedSimpArgs false
attribute [local irreducible] Ans AnsO AnsG AnsN AnsI

set_option maxRecDepth 4000
end Go.Proofs.Ytkfgmaecbclgfaa

/-
  What a law is handed, in plain words: scenes, lists of operations.
-/
namespace Go.Proofs.Ytkfgmaecbclgfaa
open Go.RowKit
set_option linter.unusedVariables false
set_option linter.unusedSimpArgs false

def Leaves (P : Program) (ls : List TypeId) (n : Nat) (xs : List DV) : Prop :=
  xs.length = n * ls.length ∧ ∀ (j : Nat) d, xs[j]? = some d → ∃ t', ls[j % ls.length]? = some t' ∧ ∃ q, LeafD P q t' d
theorem Leaves.at_ {P : Program} {ls : List TypeId} {n : Nat} {xs : List DV} (h : Leaves P ls n xs) {k r : Nat} {t : TypeId} (hk : k < n) (hr : ls[r]? = some t) : ∃ d q, xs[k * ls.length + r]? = some d ∧ LeafD P q t d := by
  obtain ⟨hn, hx⟩ := h
  have hr' : r < ls.length := (List.getElem?_eq_some_iff.1 hr).1
  have hle : (k + 1) * ls.length ≤ n * ls.length := Nat.mul_le_mul_right _ (by omega)
  rw [Nat.add_mul] at hle
  have hj : k * ls.length + r < xs.length := by omega
  obtain ⟨t', a, q, b⟩ := hx _ _ (List.getElem?_eq_getElem hj)
  rw [Nat.mul_comm k, Nat.mul_add_mod, Nat.mod_eq_of_lt hr', hr] at a
  injection a with a
  subst a
  exact ⟨_, q, List.getElem?_eq_getElem hj, b⟩
theorem Leaves.int {P : Program} {ls : List TypeId} {n : Nat} {xs : List DV} (h : Leaves P ls n xs) {k r : Nat} {t : TypeId} {kk : IntKind} (hk : k < n) (hr : ls[r]? = some t) (hu : P.underlying t = some (.int kk)) : xs[k * ls.length + r]? = some (.int kk (nAt xs (k * ls.length + r))) := by
  obtain ⟨d, q, e, b⟩ := h.at_ hk hr
  obtain ⟨v, rfl⟩ := b.int hu
  simp only [nAt, e]
theorem Leaves.bool {P : Program} {ls : List TypeId} {n : Nat} {xs : List DV} (h : Leaves P ls n xs) {k r : Nat} {t : TypeId} (hk : k < n) (hr : ls[r]? = some t) (hu : P.underlying t = some .bool) : xs[k * ls.length + r]? = some (.bool (bAt xs (k * ls.length + r))) := by
  obtain ⟨d, q, e, b⟩ := h.at_ hk hr
  obtain ⟨v, rfl⟩ := b.bool hu
  simp only [bAt, e]
theorem Leaves.sl {P : Program} {ls : List TypeId} {n : Nat} {xs : List DV} (h : Leaves P ls n xs) {k r : Nat} {t e : TypeId} {ms : List TypeId} (hk : k < n) (hr : ls[r]? = some t) (hu : P.underlying t = some (.slice e)) (hl : lv P e = some ms) :
    xs[k * ls.length + r]? = some (.sl (lAt xs (k * ls.length + r)) (cAt xs (k * ls.length + r))) ∧ Leaves P ms (lAt xs (k * ls.length + r)) (cAt xs (k * ls.length + r)) := by
  obtain ⟨d, q, e1, b⟩ := h.at_ hk hr
  obtain ⟨m, ys, rfl, _, h1, h2⟩ := b.slice hu hl
  simp only [lAt, cAt, e1]
  exact ⟨trivial, h1, h2⟩
theorem Leaves.ints {P : Program} {t : TypeId} {n : Nat} {xs : List DV} (h : Leaves P [t] n xs) (hu : P.underlying t = some (.int .i64)) : xs = is (ints xs) ∧ n = xs.length :=
  isI_of (by have := h.1; simpa using this) fun j d hj => by obtain ⟨t', a, q, b⟩ := h.2 j d hj; exact intLeaf1 hu a b
theorem Leaves.five {P : Program} {t : TypeId} {n : Nat} {xs : List DV} (h : Leaves P [t, t, t, t, t] n xs) (hu : P.underlying t = some (.int .i64)) : Is5 n xs :=
  is5_of h.1 fun j d hj => by obtain ⟨t', a, q, b⟩ := h.2 j d hj; exact intLeaf5 hu a b
theorem Leaves.pics {P : Program} {t ts e : TypeId} {n : Nat} {xs : List DV} (h : Leaves P [t, t, t, t, ts] n xs) (hu : P.underlying t = some (.int .i64)) (hs : P.underlying ts = some (.slice e)) (hl : lv P e = some [t, t, t, t, t]) : IsPics n xs :=
  ⟨h.1, fun k hk => ⟨h.int (r := 0) hk rfl hu, h.int (r := 1) hk rfl hu, h.int (r := 2) hk rfl hu, h.int (r := 3) hk rfl hu, (h.sl (r := 4) hk rfl hs hl).1, (h.sl (r := 4) hk rfl hs hl).2.five hu⟩⟩
theorem Leaves.raws {P : Program} {t : TypeId} {n : Nat} {xs : List DV} (h : Leaves P [t, t, t, t, t, t, t, t, t, t, t] n xs) (hu : P.underlying t = some (.int .i64)) : IsRws n xs := by
  refine ⟨h.1, fun i hi => ?_⟩
  have hr : [t, t, t, t, t, t, t, t, t, t, t][i % 11]? = some t := by
    have h2 : i % 11 < 11 := Nat.mod_lt _ (by omega)
    generalize i % 11 = r at *
    match r, h2 with
    | 0, _ | 1, _ | 2, _ | 3, _ | 4, _ | 5, _ | 6, _ | 7, _ | 8, _ | 9, _ | 10, _ => rfl
  have := h.int (k := i / 11) (r := i % 11) (by omega) hr hu
  have e : i / 11 * [t, t, t, t, t, t, t, t, t, t, t].length + i % 11 = i := by show i / 11 * 11 + i % 11 = i; omega
  rw [e] at this
  exact this
theorem blocks_eq {xs ys : List DV} {n m : Nat} (hx : xs.length = n * m) (hy : ys.length = n * m) (h : ∀ k, k < n → ∀ j, j < m → xs[k * m + j]? = ys[k * m + j]?) : xs = ys := by
  refine List.ext_getElem? fun i => ?_
  by_cases hi : i < n * m
  · have hm : 0 < m := by
      rcases Nat.eq_zero_or_pos m with h0 | h0
      · subst h0; simp at hi
      · exact h0
    have := h (i / m) (Nat.div_lt_of_lt_mul (by rw [Nat.mul_comm]; exact hi)) (i % m) (Nat.mod_lt _ hm)
    have e : i / m * m + i % m = i := by rw [Nat.mul_comm]; exact Nat.div_add_mod i m
    rw [e] at this
    exact this
  · rw [List.getElem?_eq_none (by omega), List.getElem?_eq_none (by omega)]
theorem Leaves.ops {P : Program} {t u b : TypeId} {n : Nat} {xs : List DV} (h : Leaves P [t, t, t, t, t, t, t, u, t, t, b, b] n xs) (ht : P.underlying t = some (.int .i64)) (hu : P.underlying u = some (.int .u16)) (hb : P.underlying b = some .bool) : IsOps n xs := by
  have hl : xs.length = n * 12 := h.1
  have hn : (toOps xs).length = n := by unfold toOps; rw [List.length_map, List.length_range, hl]; omega
  refine ⟨blocks_eq hl (by rw [ops_length, hn]) fun k hk j hj => ?_, hn.symm⟩
  have e : (toOps xs)[k]'(by omega) = oqAt xs (k * 12) := by simp [toOps]
  rw [ops_get (by omega) j hj, e]
  have key := fun r (hr : r < 12) => h.at_ (k := k) (r := r) (t := [t, t, t, t, t, t, t, u, t, t, b, b][r]) hk (List.getElem?_eq_getElem hr)
  match j, hj with
  | 0, _ => exact h.int (r := 0) hk rfl ht
  | 1, _ => exact h.int (r := 1) hk rfl ht
  | 2, _ => exact h.int (r := 2) hk rfl ht
  | 3, _ => exact h.int (r := 3) hk rfl ht
  | 4, _ => exact h.int (r := 4) hk rfl ht
  | 5, _ => exact h.int (r := 5) hk rfl ht
  | 6, _ => exact h.int (r := 6) hk rfl ht
  | 7, _ => exact h.int (r := 7) hk rfl hu
  | 8, _ => exact h.int (r := 8) hk rfl ht
  | 9, _ => exact h.int (r := 9) hk rfl ht
  | 10, _ => exact h.bool (r := 10) hk rfl hb
  | 11, _ => exact h.bool (r := 11) hk rfl hb
def IsBs (n : Nat) (xs : List DV) : Prop := xs.length = n ∧ ∀ i, i < n → xs[i]? = some (.bool (bAt xs i))
theorem Leaves.bools {P : Program} {b : TypeId} {n : Nat} {xs : List DV} (h : Leaves P [b] n xs) (hb : P.underlying b = some .bool) : IsBs n xs :=
  ⟨by have := h.1; simpa using this, fun i hi => by
    have := h.bool (k := i) (r := 0) hi rfl hb
    simpa using this⟩
end Go.Proofs.Ytkfgmaecbclgfaa

/-
  ScriptEqualAgrees answers true, whatever it is handed.
-/
namespace Go.Proofs.Ytkfgmaecbclgfaa
open Go.RowKit
set_option linter.unusedVariables false
set_option linter.unusedSimpArgs false
attribute [local irreducible] Ans AnsO AnsG AnsN AnsI

set_option maxRecDepth 4000
theorem rd_self {xs : List DV} {i : Nat} {k : IntKind} {v : Int} (h : xs[i]? = some (.int k v)) : xs[i]? = some (.int k (nAt xs i)) := by
  have : nAt xs i = v := by simp only [nAt, h]
  rw [this]; exact h
theorem equal_self {m : Im} (h : m.formed = true) : m.equal m = true := by
  unfold Im.equal
  simp [h]
theorem eqI_self {m : Im} (h : m.formed = true) : eqI m m = true := by
  unfold eqI
  rw [equal_self h]
  simp
theorem eqS_self {s : Scr} (h : ∀ m ∈ s.ims, m.formed = true) : eqS s s = true := by
  have h1 : eqIms s.ims s.ims = true := by
    unfold eqIms eqTo
    rw [decide_eq_true rfl, Bool.true_and, List.all_eq_true]
    intro i hi
    have hi := List.mem_range.1 hi
    rw [imN_of hi]
    exact eqI_self (h _ (List.getElem_mem hi))
  unfold eqS
  rw [h1]
  simp
def gamScriptEqualAgrees : Gam where
 pure := fun f xs =>
  if f = 16 then (match xs with | [.d (.int _ n), .d (.int _ k)] => some (RV.d (DV.int .i64 (modS n k))) | _ => none) else
  if f = 16 then (match xs with | [.d (.int _ n), .d (.int _ k)] => some (RV.d (DV.int .i64 (modS n k))) | _ => none) else
  if f = 13 then (match xs with | [] => some (RV.d (DV.bool true)) | _ => none) else
  if f = 22 then (match xs with | [.agg [.int _ bits, .int _ cx0, .int _ cy0, .int _ cx1, .int _ cy1, .int _ tw, .int _ th, .sl on oxs, .sl mn mxs, .sl pn pxs], .agg [.int _ bitsq, .int _ cx0q, .int _ cy0q, .int _ cx1q, .int _ cy1q, .int _ twq, .int _ thq, .sl onq oxsq, .sl mnq mxsq, .sl pnq pxsq]] => some (RV.d (DV.bool (eqS (⟨bits, ⟨cx0, cy0, cx1, cy1⟩, tw, th, ints oxs, toIms mxs, toOps pxs⟩ : Scr) (⟨bitsq, ⟨cx0q, cy0q, cx1q, cy1q⟩, twq, thq, ints oxsq, toIms mxsq, toOps pxsq⟩ : Scr)))) | _ => none) else
  if f = 22 then (match xs with | [.agg [.int _ bits, .int _ cx0, .int _ cy0, .int _ cx1, .int _ cy1, .int _ tw, .int _ th, .sl on oxs, .sl mn mxs, .sl pn pxs], .agg [.int _ bitsq, .int _ cx0q, .int _ cy0q, .int _ cx1q, .int _ cy1q, .int _ twq, .int _ thq, .sl onq oxsq, .sl mnq mxsq, .sl pnq pxsq]] => some (RV.d (DV.bool (eqS (⟨bits, ⟨cx0, cy0, cx1, cy1⟩, tw, th, ints oxs, toIms mxs, toOps pxs⟩ : Scr) (⟨bitsq, ⟨cx0q, cy0q, cx1q, cy1q⟩, twq, thq, ints oxsq, toIms mxsq, toOps pxsq⟩ : Scr)))) | _ => none) else
  if f = 21 then (match xs with | [.agg [.int _ bits, .int _ cx0, .int _ cy0, .int _ cx1, .int _ cy1, .int _ tw, .int _ th, .sl on oxs, .sl mn mxs, .sl pn pxs], .agg [.int _ bitsq, .int _ cx0q, .int _ cy0q, .int _ cx1q, .int _ cy1q, .int _ twq, .int _ thq, .sl onq oxsq, .sl mnq mxsq, .sl pnq pxsq]] => some (RV.d (DV.bool (eqS (⟨bits, ⟨cx0, cy0, cx1, cy1⟩, tw, th, ints oxs, toIms mxs, toOps pxs⟩ : Scr) (⟨bitsq, ⟨cx0q, cy0q, cx1q, cy1q⟩, twq, thq, ints oxsq, toIms mxsq, toOps pxsq⟩ : Scr)))) | _ => none) else
  if f = 22 then (match xs with | [.agg [.int _ bits, .int _ cx0, .int _ cy0, .int _ cx1, .int _ cy1, .int _ tw, .int _ th, .sl on oxs, .sl mn mxs, .sl pn pxs], .agg [.int _ bitsq, .int _ cx0q, .int _ cy0q, .int _ cx1q, .int _ cy1q, .int _ twq, .int _ thq, .sl onq oxsq, .sl mnq mxsq, .sl pnq pxsq]] => some (RV.d (DV.bool (eqS (⟨bits, ⟨cx0, cy0, cx1, cy1⟩, tw, th, ints oxs, toIms mxs, toOps pxs⟩ : Scr) (⟨bitsq, ⟨cx0q, cy0q, cx1q, cy1q⟩, twq, thq, ints oxsq, toIms mxsq, toOps pxsq⟩ : Scr)))) | _ => none) else
  if f = 21 then (match xs with | [.agg [.int _ bits, .int _ cx0, .int _ cy0, .int _ cx1, .int _ cy1, .int _ tw, .int _ th, .sl on oxs, .sl mn mxs, .sl pn pxs], .agg [.int _ bitsq, .int _ cx0q, .int _ cy0q, .int _ cx1q, .int _ cy1q, .int _ twq, .int _ thq, .sl onq oxsq, .sl mnq mxsq, .sl pnq pxsq]] => some (RV.d (DV.bool (eqS (⟨bits, ⟨cx0, cy0, cx1, cy1⟩, tw, th, ints oxs, toIms mxs, toOps pxs⟩ : Scr) (⟨bitsq, ⟨cx0q, cy0q, cx1q, cy1q⟩, twq, thq, ints oxsq, toIms mxsq, toOps pxsq⟩ : Scr)))) | _ => none) else
  none
 modes := fun f =>
  if f = 9 then some ([true], 0, 3) else
  if f = 9 then some ([true], 0, 3) else
  if f = 9 then some ([true], 0, 3) else
  if f = 9 then some ([true], 0, 3) else
  none
 proc := fun f xs bs =>
  if f = 9 then (match xs, bs with | [AV.agg [Cl.d (DV.int _ sb), Cl.d (DV.int _ sx), Cl.d (DV.int _ sy), Cl.d (DV.int _ sw), Cl.d (DV.int _ sh), Cl.d (DV.int _ stw), Cl.d (DV.int _ sth), Cl.d (DV.sl son soxs), Cl.d (DV.sl spn spxs), Cl.d (DV.sl srn srxs)]], [] => some ⟨AV.agg [Cl.d (DV.int .i64 (((⟨sb, sx, sy, sw, sh, stw, sth, son, soxs, spn, spxs, srn, srxs⟩ : Scn)).bits)), Cl.d (DV.int .i64 (((⟨sb, sx, sy, sw, sh, stw, sth, son, soxs, spn, spxs, srn, srxs⟩ : Scn)).c.a)), Cl.d (DV.int .i64 (((⟨sb, sx, sy, sw, sh, stw, sth, son, soxs, spn, spxs, srn, srxs⟩ : Scn)).c.b)), Cl.d (DV.int .i64 (((⟨sb, sx, sy, sw, sh, stw, sth, son, soxs, spn, spxs, srn, srxs⟩ : Scn)).c.c)), Cl.d (DV.int .i64 (((⟨sb, sx, sy, sw, sh, stw, sth, son, soxs, spn, spxs, srn, srxs⟩ : Scn)).c.d)), Cl.d (DV.int .i64 (((⟨sb, sx, sy, sw, sh, stw, sth, son, soxs, spn, spxs, srn, srxs⟩ : Scn)).gtw)), Cl.d (DV.int .i64 (((⟨sb, sx, sy, sw, sh, stw, sth, son, soxs, spn, spxs, srn, srxs⟩ : Scn)).gth)), Cl.ref 0 (((⟨sb, sx, sy, sw, sh, stw, sth, son, soxs, spn, spxs, srn, srxs⟩ : Scn)).ord.length), Cl.ref 1 (((⟨sb, sx, sy, sw, sh, stw, sth, son, soxs, spn, spxs, srn, srxs⟩ : Scn)).ims.length), Cl.ref 2 (((⟨sb, sx, sy, sw, sh, stw, sth, son, soxs, spn, spxs, srn, srxs⟩ : Scn)).ops.length)], [Bx.row 3 1 (is ((⟨sb, sx, sy, sw, sh, stw, sth, son, soxs, spn, spxs, srn, srxs⟩ : Scn)).ord), Bx.row 43 28 (ims ((⟨sb, sx, sy, sw, sh, stw, sth, son, soxs, spn, spxs, srn, srxs⟩ : Scn)).ims), Bx.row 55 12 (ops ((⟨sb, sx, sy, sw, sh, stw, sth, son, soxs, spn, spxs, srn, srxs⟩ : Scn)).ops)], false⟩ | _, _ => none) else
  if f = 9 then (match xs, bs with | [AV.agg [Cl.d (DV.int _ sb), Cl.d (DV.int _ sx), Cl.d (DV.int _ sy), Cl.d (DV.int _ sw), Cl.d (DV.int _ sh), Cl.d (DV.int _ stw), Cl.d (DV.int _ sth), Cl.d (DV.sl son soxs), Cl.d (DV.sl spn spxs), Cl.d (DV.sl srn srxs)]], [] => some ⟨AV.agg [Cl.d (DV.int .i64 (((⟨sb, sx, sy, sw, sh, stw, sth, son, soxs, spn, spxs, srn, srxs⟩ : Scn)).bits)), Cl.d (DV.int .i64 (((⟨sb, sx, sy, sw, sh, stw, sth, son, soxs, spn, spxs, srn, srxs⟩ : Scn)).c.a)), Cl.d (DV.int .i64 (((⟨sb, sx, sy, sw, sh, stw, sth, son, soxs, spn, spxs, srn, srxs⟩ : Scn)).c.b)), Cl.d (DV.int .i64 (((⟨sb, sx, sy, sw, sh, stw, sth, son, soxs, spn, spxs, srn, srxs⟩ : Scn)).c.c)), Cl.d (DV.int .i64 (((⟨sb, sx, sy, sw, sh, stw, sth, son, soxs, spn, spxs, srn, srxs⟩ : Scn)).c.d)), Cl.d (DV.int .i64 (((⟨sb, sx, sy, sw, sh, stw, sth, son, soxs, spn, spxs, srn, srxs⟩ : Scn)).gtw)), Cl.d (DV.int .i64 (((⟨sb, sx, sy, sw, sh, stw, sth, son, soxs, spn, spxs, srn, srxs⟩ : Scn)).gth)), Cl.ref 0 (((⟨sb, sx, sy, sw, sh, stw, sth, son, soxs, spn, spxs, srn, srxs⟩ : Scn)).ord.length), Cl.ref 1 (((⟨sb, sx, sy, sw, sh, stw, sth, son, soxs, spn, spxs, srn, srxs⟩ : Scn)).ims.length), Cl.ref 2 (((⟨sb, sx, sy, sw, sh, stw, sth, son, soxs, spn, spxs, srn, srxs⟩ : Scn)).ops.length)], [Bx.row 3 1 (is ((⟨sb, sx, sy, sw, sh, stw, sth, son, soxs, spn, spxs, srn, srxs⟩ : Scn)).ord), Bx.row 43 28 (ims ((⟨sb, sx, sy, sw, sh, stw, sth, son, soxs, spn, spxs, srn, srxs⟩ : Scn)).ims), Bx.row 55 12 (ops ((⟨sb, sx, sy, sw, sh, stw, sth, son, soxs, spn, spxs, srn, srxs⟩ : Scn)).ops)], false⟩ | _, _ => none) else
  if f = 9 then (match xs, bs with | [AV.agg [Cl.d (DV.int _ sb), Cl.d (DV.int _ sx), Cl.d (DV.int _ sy), Cl.d (DV.int _ sw), Cl.d (DV.int _ sh), Cl.d (DV.int _ stw), Cl.d (DV.int _ sth), Cl.d (DV.sl son soxs), Cl.d (DV.sl spn spxs), Cl.d (DV.sl srn srxs)]], [] => some ⟨AV.agg [Cl.d (DV.int .i64 (((⟨sb, sx, sy, sw, sh, stw, sth, son, soxs, spn, spxs, srn, srxs⟩ : Scn)).bits)), Cl.d (DV.int .i64 (((⟨sb, sx, sy, sw, sh, stw, sth, son, soxs, spn, spxs, srn, srxs⟩ : Scn)).c.a)), Cl.d (DV.int .i64 (((⟨sb, sx, sy, sw, sh, stw, sth, son, soxs, spn, spxs, srn, srxs⟩ : Scn)).c.b)), Cl.d (DV.int .i64 (((⟨sb, sx, sy, sw, sh, stw, sth, son, soxs, spn, spxs, srn, srxs⟩ : Scn)).c.c)), Cl.d (DV.int .i64 (((⟨sb, sx, sy, sw, sh, stw, sth, son, soxs, spn, spxs, srn, srxs⟩ : Scn)).c.d)), Cl.d (DV.int .i64 (((⟨sb, sx, sy, sw, sh, stw, sth, son, soxs, spn, spxs, srn, srxs⟩ : Scn)).gtw)), Cl.d (DV.int .i64 (((⟨sb, sx, sy, sw, sh, stw, sth, son, soxs, spn, spxs, srn, srxs⟩ : Scn)).gth)), Cl.ref 0 (((⟨sb, sx, sy, sw, sh, stw, sth, son, soxs, spn, spxs, srn, srxs⟩ : Scn)).ord.length), Cl.ref 1 (((⟨sb, sx, sy, sw, sh, stw, sth, son, soxs, spn, spxs, srn, srxs⟩ : Scn)).ims.length), Cl.ref 2 (((⟨sb, sx, sy, sw, sh, stw, sth, son, soxs, spn, spxs, srn, srxs⟩ : Scn)).ops.length)], [Bx.row 3 1 (is ((⟨sb, sx, sy, sw, sh, stw, sth, son, soxs, spn, spxs, srn, srxs⟩ : Scn)).ord), Bx.row 43 28 (ims ((⟨sb, sx, sy, sw, sh, stw, sth, son, soxs, spn, spxs, srn, srxs⟩ : Scn)).ims), Bx.row 55 12 (ops ((⟨sb, sx, sy, sw, sh, stw, sth, son, soxs, spn, spxs, srn, srxs⟩ : Scn)).ops)], false⟩ | _, _ => none) else
  if f = 9 then (match xs, bs with | [AV.agg [Cl.d (DV.int _ sb), Cl.d (DV.int _ sx), Cl.d (DV.int _ sy), Cl.d (DV.int _ sw), Cl.d (DV.int _ sh), Cl.d (DV.int _ stw), Cl.d (DV.int _ sth), Cl.d (DV.sl son soxs), Cl.d (DV.sl spn spxs), Cl.d (DV.sl srn srxs)]], [] => some ⟨AV.agg [Cl.d (DV.int .i64 (((⟨sb, sx, sy, sw, sh, stw, sth, son, soxs, spn, spxs, srn, srxs⟩ : Scn)).bits)), Cl.d (DV.int .i64 (((⟨sb, sx, sy, sw, sh, stw, sth, son, soxs, spn, spxs, srn, srxs⟩ : Scn)).c.a)), Cl.d (DV.int .i64 (((⟨sb, sx, sy, sw, sh, stw, sth, son, soxs, spn, spxs, srn, srxs⟩ : Scn)).c.b)), Cl.d (DV.int .i64 (((⟨sb, sx, sy, sw, sh, stw, sth, son, soxs, spn, spxs, srn, srxs⟩ : Scn)).c.c)), Cl.d (DV.int .i64 (((⟨sb, sx, sy, sw, sh, stw, sth, son, soxs, spn, spxs, srn, srxs⟩ : Scn)).c.d)), Cl.d (DV.int .i64 (((⟨sb, sx, sy, sw, sh, stw, sth, son, soxs, spn, spxs, srn, srxs⟩ : Scn)).gtw)), Cl.d (DV.int .i64 (((⟨sb, sx, sy, sw, sh, stw, sth, son, soxs, spn, spxs, srn, srxs⟩ : Scn)).gth)), Cl.ref 0 (((⟨sb, sx, sy, sw, sh, stw, sth, son, soxs, spn, spxs, srn, srxs⟩ : Scn)).ord.length), Cl.ref 1 (((⟨sb, sx, sy, sw, sh, stw, sth, son, soxs, spn, spxs, srn, srxs⟩ : Scn)).ims.length), Cl.ref 2 (((⟨sb, sx, sy, sw, sh, stw, sth, son, soxs, spn, spxs, srn, srxs⟩ : Scn)).ops.length)], [Bx.row 3 1 (is ((⟨sb, sx, sy, sw, sh, stw, sth, son, soxs, spn, spxs, srn, srxs⟩ : Scn)).ord), Bx.row 43 28 (ims ((⟨sb, sx, sy, sw, sh, stw, sth, son, soxs, spn, spxs, srn, srxs⟩ : Scn)).ims), Bx.row 55 12 (ops ((⟨sb, sx, sy, sw, sh, stw, sth, son, soxs, spn, spxs, srn, srxs⟩ : Scn)).ops)], false⟩ | _, _ => none) else
  none
 iter := fun f cs =>
  none

def L18_ScriptEqualAgrees_ann (s : Scn) (d : Scn) (what : Int) (by_ : Int) : Ann := (Ann.seq Ann.leaf (Ann.seq Ann.leaf (Ann.cut ⟨Scr, fun z : Scr => ∀ m ∈ z.ims, m.isU, fun z : Scr => ⟨[(5, AV.one (Cl.ptr 5 0)), (9, AV.one (Cl.ptr 9 0)), (10, AV.one (Cl.ptr 10 0))], [(5, Bx.cells [Cl.d (DV.int .i64 d.b), Cl.d (DV.int .i64 d.x), Cl.d (DV.int .i64 d.y), Cl.d (DV.int .i64 d.w), Cl.d (DV.int .i64 d.h), Cl.d (DV.int .i64 d.tw), Cl.d (DV.int .i64 d.th), Cl.d (DV.sl d.on d.oxs), Cl.d (DV.sl d.pn d.pxs), Cl.d (DV.sl d.rn d.rxs)]), (9, Bx.cells [Cl.d (DV.int .i64 ((s).bits)), Cl.d (DV.int .i64 ((s).c.a)), Cl.d (DV.int .i64 ((s).c.b)), Cl.d (DV.int .i64 ((s).c.c)), Cl.d (DV.int .i64 ((s).c.d)), Cl.d (DV.int .i64 ((s).gtw)), Cl.d (DV.int .i64 ((s).gth)), Cl.ref 7000 ((s).ord.length), Cl.ref 7001 ((s).ims.length), Cl.ref 7002 ((s).ops.length)]), (10, Bx.cells [Cl.d (DV.int .i64 z.bits), Cl.d (DV.int .i64 z.c.a), Cl.d (DV.int .i64 z.c.b), Cl.d (DV.int .i64 z.c.c), Cl.d (DV.int .i64 z.c.d), Cl.d (DV.int .i64 z.tw), Cl.d (DV.int .i64 z.th), Cl.ref 7100 z.ord.length, Cl.ref 7101 z.ims.length, Cl.ref 7102 z.ops.length]), (7000, Bx.row 3 1 (is (s).ord)), (7001, Bx.row 43 28 (ims (s).ims)), (7002, Bx.row 55 12 (ops (s).ops)), (7100, Bx.row 3 1 (is z.ord)), (7101, Bx.row 43 28 (ims z.ims)), (7102, Bx.row 55 12 (ops z.ops))]⟩, fun z : Scr => 0⟩ Ann.leaf fun z => Ann.leaf)))
theorem L18_ScriptEqualAgrees_vc (s : Scn) (d : Scn) (what : Int) (by_ : Int) : vcg Try.prog gamScriptEqualAgrees 112 (bodyOf Try.f8) (L18_ScriptEqualAgrees_ann s d what by_) kn0 (start [RV.agg [DV.int .i64 s.b, DV.int .i64 s.x, DV.int .i64 s.y, DV.int .i64 s.w, DV.int .i64 s.h, DV.int .i64 s.tw, DV.int .i64 s.th, DV.sl s.on s.oxs, DV.sl s.pn s.pxs, DV.sl s.rn s.rxs], RV.agg [DV.int .i64 d.b, DV.int .i64 d.x, DV.int .i64 d.y, DV.int .i64 d.w, DV.int .i64 d.h, DV.int .i64 d.tw, DV.int .i64 d.th, DV.sl d.on d.oxs, DV.sl d.pn d.pxs, DV.sl d.rn d.rxs], RV.d (DV.int .i64 what), RV.d (DV.int .i64 by_)]) (post Try.prog Try.f8.results.toList (· = RV.d (DV.bool true))) =
  (let zz0 := (AnsG Try.prog 9 0 [AV.agg [Cl.d (DV.int .i64 s.b), Cl.d (DV.int .i64 s.x), Cl.d (DV.int .i64 s.y), Cl.d (DV.int .i64 s.w), Cl.d (DV.int .i64 s.h), Cl.d (DV.int .i64 s.tw), Cl.d (DV.int .i64 s.th), Cl.d (DV.sl s.on s.oxs), Cl.d (DV.sl s.pn s.pxs), Cl.d (DV.sl s.rn s.rxs)]] [] ⟨AV.agg [Cl.d (DV.int .i64 ((s).bits)), Cl.d (DV.int .i64 ((s).c.a)), Cl.d (DV.int .i64 ((s).c.b)), Cl.d (DV.int .i64 ((s).c.c)), Cl.d (DV.int .i64 ((s).c.d)), Cl.d (DV.int .i64 ((s).gtw)), Cl.d (DV.int .i64 ((s).gth)), Cl.ref 0 ((s).ord.length), Cl.ref 1 ((s).ims.length), Cl.ref 2 ((s).ops.length)], [Bx.row 3 1 (is (s).ord), Bx.row 43 28 (ims (s).ims), Bx.row 55 12 (ops (s).ops)], false⟩); let zz1 := ((0 = 0) ∧ (0 = 0) ∧ (0 = 0) ∧ True); let zz2 := [DV.int .i64 d.b, DV.int .i64 d.x, DV.int .i64 d.y, DV.int .i64 d.w, DV.int .i64 d.h, DV.int .i64 d.tw, DV.int .i64 d.th, DV.sl d.on d.oxs, DV.sl d.pn d.pxs, DV.sl d.rn d.rxs]; let zz3 := (zz2 = zz2); let zz4 := ((DV.int .i64 ((s).bits) = DV.int .i64 ((s).bits)) ∧ (DV.int .i64 ((s).c.a) = DV.int .i64 ((s).c.a)) ∧ (DV.int .i64 ((s).c.b) = DV.int .i64 ((s).c.b)) ∧ (DV.int .i64 ((s).c.c) = DV.int .i64 ((s).c.c)) ∧ (DV.int .i64 ((s).c.d) = DV.int .i64 ((s).c.d)) ∧ (DV.int .i64 ((s).gtw) = DV.int .i64 ((s).gtw)) ∧ (DV.int .i64 ((s).gth) = DV.int .i64 ((s).gth)) ∧ ((s).ord.length = (s).ord.length) ∧ ((s).ims.length = (s).ims.length) ∧ ((s).ops.length = (s).ops.length) ∧ True); let zz5 := fun (z : Scr) => (DV.int .i64 ((s).c.a) = DV.int .i64 z.c.a); let zz6 := fun (z : Scr) => (DV.int .i64 ((s).c.b) = DV.int .i64 z.c.b); let zz7 := fun (z : Scr) => (DV.int .i64 ((s).c.c) = DV.int .i64 z.c.c); let zz8 := fun (z : Scr) => (DV.int .i64 ((s).c.d) = DV.int .i64 z.c.d); let zz9 := fun (z : Scr) => (DV.int .i64 ((s).gtw) = DV.int .i64 z.tw); let zz10 := fun (z : Scr) => (DV.int .i64 ((s).gth) = DV.int .i64 z.th); let zz11 := fun (z : Scr) => ((s).ord.length = z.ord.length); let zz12 := fun (z : Scr) => ((s).ims.length = z.ims.length); let zz13 := fun (z : Scr) => ((s).ops.length = z.ops.length); let zz14 := fun (z : Scr) => (DV.int .i64 ((s).bits) = DV.int .i64 z.bits); let zz15 := (0 ≤ (0 : Int) ∧ (0 : Int) < (((s).ims.length : Nat) : Int)); let zz16 := fun (z : Scr) => ((zz14 z) ∧ (zz5 z) ∧ (zz6 z) ∧ (zz7 z) ∧ (zz8 z) ∧ (zz9 z) ∧ (zz10 z) ∧ (zz11 z) ∧ (zz12 z) ∧ (zz13 z) ∧ True); let zz17 := (0 ≤ modS by_ (((s).ops.length : Nat) : Int) ∧ modS by_ (((s).ops.length : Nat) : Int) < (((s).ops.length : Nat) : Int)); let zz18 := fun (z : Scr) => (zz1 ∧ (zz3 ∧ zz4 ∧ (zz16 z) ∧ (is (s).ord = is (s).ord) ∧ (ims (s).ims = ims (s).ims) ∧ (ops (s).ops = ops (s).ops) ∧ (is (s).ord = is z.ord) ∧ (ims (s).ims = ims z.ims) ∧ (ops (s).ops = ops z.ops) ∧ True)); let zz19 := [DV.int .i64 ((s).bits), DV.int .i64 ((s).c.a), DV.int .i64 ((s).c.b), DV.int .i64 ((s).c.c), DV.int .i64 ((s).c.d), DV.int .i64 ((s).gtw), DV.int .i64 ((s).gth), DV.sl ((s).ord.length) (is (s).ord), DV.sl ((s).ims.length) (ims (s).ims), DV.sl ((s).ops.length) (ops (s).ops)]; let zz20 := fun (z : Scr) => [RV.agg zz19, RV.agg [DV.int .i64 z.bits, DV.int .i64 z.c.a, DV.int .i64 z.c.b, DV.int .i64 z.c.c, DV.int .i64 z.c.d, DV.int .i64 z.tw, DV.int .i64 z.th, DV.sl z.ord.length (is z.ord), DV.sl z.ims.length (ims z.ims), DV.sl z.ops.length (ops z.ops)]]; let zz21 := (AnsG Try.prog 9 0 [AV.agg [Cl.d (DV.int .i64 d.b), Cl.d (DV.int .i64 d.x), Cl.d (DV.int .i64 d.y), Cl.d (DV.int .i64 d.w), Cl.d (DV.int .i64 d.h), Cl.d (DV.int .i64 d.tw), Cl.d (DV.int .i64 d.th), Cl.d (DV.sl d.on d.oxs), Cl.d (DV.sl d.pn d.pxs), Cl.d (DV.sl d.rn d.rxs)]] [] ⟨AV.agg [Cl.d (DV.int .i64 ((d).bits)), Cl.d (DV.int .i64 ((d).c.a)), Cl.d (DV.int .i64 ((d).c.b)), Cl.d (DV.int .i64 ((d).c.c)), Cl.d (DV.int .i64 ((d).c.d)), Cl.d (DV.int .i64 ((d).gtw)), Cl.d (DV.int .i64 ((d).gth)), Cl.ref 0 ((d).ord.length), Cl.ref 1 ((d).ims.length), Cl.ref 2 ((d).ops.length)], [Bx.row 3 1 (is (d).ord), Bx.row 43 28 (ims (d).ims), Bx.row 55 12 (ops (d).ops)], false⟩); let zz22 := [RV.agg zz19, RV.agg [DV.int .i64 ((d).bits), DV.int .i64 ((d).c.a), DV.int .i64 ((d).c.b), DV.int .i64 ((d).c.c), DV.int .i64 ((d).c.d), DV.int .i64 ((d).gtw), DV.int .i64 ((d).gth), DV.sl ((d).ord.length) (is (d).ord), DV.sl ((d).ims.length) (ims (d).ims), DV.sl ((d).ops.length) (ops (d).ops)]]; True ∧ True ∧ True ∧ True ∧ zz0 ∧ True ∧ zz0 ∧ True ∧ True ∧ True ∧ True ∧ (true = true) ∧ (True ∧ (Ans Try.prog 16 [RV.d (DV.int .i64 what), RV.d (DV.int .i64 8)] (RV.d (DV.int .i64 (modS what (8 : Int))))) ∧ True ∧ True ∧ ((((modS what (8 : Int)) == (0 : Int)) = true → True ∧ True ∧ True ∧ True ∧ True ∧ ∃ z : Scr, (∀ m ∈ z.ims, m.isU) ∧ (zz1 ∧ (zz3 ∧ zz4 ∧ ((DV.int .i64 (IntKind.wrap .i64 (((s).bits) + (1 : Int))) = DV.int .i64 z.bits) ∧ (zz5 z) ∧ (zz6 z) ∧ (zz7 z) ∧ (zz8 z) ∧ (zz9 z) ∧ (zz10 z) ∧ (zz11 z) ∧ (zz12 z) ∧ (zz13 z) ∧ True) ∧ (is (s).ord = is (s).ord) ∧ (ims (s).ims = ims (s).ims) ∧ (ops (s).ops = ops (s).ops) ∧ (is (s).ord = is z.ord) ∧ (ims (s).ims = ims z.ims) ∧ (ops (s).ops = ops z.ops) ∧ True))) ∧ (((modS what (8 : Int)) == (0 : Int)) = false → True ∧ True ∧ ((((modS what (8 : Int)) == (1 : Int)) = true → True ∧ True ∧ True ∧ True ∧ True ∧ True ∧ True ∧ True ∧ ∃ z : Scr, (∀ m ∈ z.ims, m.isU) ∧ (zz1 ∧ (zz3 ∧ zz4 ∧ ((zz14 z) ∧ (zz5 z) ∧ (zz6 z) ∧ (DV.int .i64 (IntKind.wrap .i64 (((s).c.c) + by_)) = DV.int .i64 z.c.c) ∧ (zz8 z) ∧ (zz9 z) ∧ (zz10 z) ∧ (zz11 z) ∧ (zz12 z) ∧ (zz13 z) ∧ True) ∧ (is (s).ord = is (s).ord) ∧ (ims (s).ims = ims (s).ims) ∧ (ops (s).ops = ops (s).ops) ∧ (is (s).ord = is z.ord) ∧ (ims (s).ims = ims z.ims) ∧ (ops (s).ops = ops z.ops) ∧ True))) ∧ (((modS what (8 : Int)) == (1 : Int)) = false → True ∧ True ∧ ((((modS what (8 : Int)) == (2 : Int)) = true → True ∧ True ∧ True ∧ True ∧ True ∧ True ∧ ∃ z : Scr, (∀ m ∈ z.ims, m.isU) ∧ (zz1 ∧ (zz3 ∧ zz4 ∧ ((zz14 z) ∧ (zz5 z) ∧ (zz6 z) ∧ (zz7 z) ∧ (zz8 z) ∧ (zz9 z) ∧ (DV.int .i64 (IntKind.wrap .i64 (((s).gth) + by_)) = DV.int .i64 z.th) ∧ (zz11 z) ∧ (zz12 z) ∧ (zz13 z) ∧ True) ∧ (is (s).ord = is (s).ord) ∧ (ims (s).ims = ims (s).ims) ∧ (ops (s).ops = ops (s).ops) ∧ (is (s).ord = is z.ord) ∧ (ims (s).ims = ims z.ims) ∧ (ops (s).ops = ops z.ops) ∧ True))) ∧ (((modS what (8 : Int)) == (2 : Int)) = false → True ∧ True ∧ ((((modS what (8 : Int)) == (3 : Int)) = true → True ∧ True ∧ True ∧ (appVc 1 8 ((s).ord.length) 1 (is (s).ord) ([DV.int .i64 0])) ∧ True ∧ True ∧ ∃ z : Scr, (∀ m ∈ z.ims, m.isU) ∧ (zz1 ∧ (zz3 ∧ zz4 ∧ ((zz14 z) ∧ (zz5 z) ∧ (zz6 z) ∧ (zz7 z) ∧ (zz8 z) ∧ (zz9 z) ∧ (zz10 z) ∧ (((s).ord.length) + 1 = z.ord.length) ∧ (zz12 z) ∧ (zz13 z) ∧ True) ∧ (is (s).ord = is (s).ord) ∧ (ims (s).ims = ims (s).ims) ∧ (ops (s).ops = ops (s).ops) ∧ ((is (s).ord) ++ ([DV.int .i64 0]) = is z.ord) ∧ (ims (s).ims = ims z.ims) ∧ (ops (s).ops = ops z.ops) ∧ True))) ∧ (((modS what (8 : Int)) == (3 : Int)) = false → True ∧ True ∧ ((((modS what (8 : Int)) == (4 : Int)) = true → True ∧ True ∧ True ∧ True ∧ ((s).ims.length ≤ maxLen) ∧ True ∧ (0 ≤ IntKind.wrap .i64 ((((s).ims.length : Nat) : Int) - (1 : Int)) ∧ IntKind.wrap .i64 ((((s).ims.length : Nat) : Int) - (1 : Int)) ≤ (((s).ims.length : Nat) : Int)) ∧ True ∧ True ∧ ∃ z : Scr, (∀ m ∈ z.ims, m.isU) ∧ (zz1 ∧ (zz3 ∧ zz4 ∧ ((zz14 z) ∧ (zz5 z) ∧ (zz6 z) ∧ (zz7 z) ∧ (zz8 z) ∧ (zz9 z) ∧ (zz10 z) ∧ (zz11 z) ∧ ((IntKind.wrap .i64 ((((s).ims.length : Nat) : Int) - (1 : Int))).toNat = z.ims.length) ∧ (zz13 z) ∧ True) ∧ (is (s).ord = is (s).ord) ∧ (ims (s).ims = ims (s).ims) ∧ (ops (s).ops = ops (s).ops) ∧ (is (s).ord = is z.ord) ∧ (List.take ((IntKind.wrap .i64 ((((s).ims.length : Nat) : Int) - (1 : Int))).toNat * 28) (ims (s).ims) = ims z.ims) ∧ (ops (s).ops = ops z.ops) ∧ True))) ∧ (((modS what (8 : Int)) == (4 : Int)) = false → True ∧ True ∧ ((((modS what (8 : Int)) == (5 : Int)) = true → True ∧ True ∧ zz15 ∧ True ∧ (((ims (s).ims)[0]? = some (DV.int .i64 (nAt (ims (s).ims) 0))) ∧ True) ∧ True ∧ zz15 ∧ True ∧ (0 + 1 ≤ (ims (s).ims).length) ∧ ∃ z : Scr, (∀ m ∈ z.ims, m.isU) ∧ (zz1 ∧ (zz3 ∧ zz4 ∧ (zz16 z) ∧ (is (s).ord = is (s).ord) ∧ (ims (s).ims = ims (s).ims) ∧ (ops (s).ops = ops (s).ops) ∧ (is (s).ord = is z.ord) ∧ (List.set (ims (s).ims) 0 (DV.int .i64 (IntKind.wrap .i64 ((nAt (ims (s).ims) 0) + (1 : Int)))) = ims z.ims) ∧ (ops (s).ops = ops z.ops) ∧ True))) ∧ (((modS what (8 : Int)) == (5 : Int)) = false → True ∧ True ∧ ((((modS what (8 : Int)) == (6 : Int)) = true → True ∧ True ∧ ((s).ops.length ≤ maxLen) ∧ True ∧ (((decide ((((s).ops.length : Nat) : Int) > (0 : Int))) = true → True ∧ True ∧ True ∧ True ∧ True ∧ ((s).ops.length ≤ maxLen) ∧ (Ans Try.prog 16 [RV.d (DV.int .i64 by_), RV.d (DV.int .i64 (((s).ops.length : Nat) : Int))] (RV.d (DV.int .i64 (modS by_ (((s).ops.length : Nat) : Int))))) ∧ zz17 ∧ True ∧ (((ops (s).ops)[(modS by_ (((s).ops.length : Nat) : Int)).toNat * 12 + 5]? = some (DV.int .i64 (nAt (ops (s).ops) ((modS by_ (((s).ops.length : Nat) : Int)).toNat * 12 + 5)))) ∧ True) ∧ True ∧ True ∧ zz17 ∧ True ∧ ((modS by_ (((s).ops.length : Nat) : Int)).toNat * 12 + 5 + 1 ≤ (ops (s).ops).length) ∧ (true = true) ∧ ∃ z : Scr, (∀ m ∈ z.ims, m.isU) ∧ (zz1 ∧ (zz3 ∧ zz4 ∧ (zz16 z) ∧ (is (s).ord = is (s).ord) ∧ (ims (s).ims = ims (s).ims) ∧ (ops (s).ops = ops (s).ops) ∧ (is (s).ord = is z.ord) ∧ (ims (s).ims = ims z.ims) ∧ (List.set (ops (s).ops) ((modS by_ (((s).ops.length : Nat) : Int)).toNat * 12 + 5) (DV.int .i64 (IntKind.wrap .i64 ((nAt (ops (s).ops) ((modS by_ (((s).ops.length : Nat) : Int)).toNat * 12 + 5)) + by_))) = ops z.ops) ∧ True))) ∧ ((decide ((((s).ops.length : Nat) : Int) > (0 : Int))) = false → ∃ z : Scr, (∀ m ∈ z.ims, m.isU) ∧ (zz18 z)))) ∧ (((modS what (8 : Int)) == (6 : Int)) = false → ∃ z : Scr, (∀ m ∈ z.ims, m.isU) ∧ (zz18 z)))))))))))))))) ∧ ∀ z : Scr, (∀ m ∈ z.ims, m.isU) → (Ans Try.prog 13 [] (RV.d (DV.bool true))) ∧ True ∧ ((true = true → True ∧ True ∧ (Ans Try.prog 22 [RV.agg zz19, RV.agg zz19] (RV.d (DV.bool (eqS (⟨((s).bits), ((s).c), ((s).gtw), ((s).gth), ints (is (s).ord), toIms (ims (s).ims), toOps (ops (s).ops)⟩ : Scr) (⟨((s).bits), ((s).c), ((s).gtw), ((s).gth), ints (is (s).ord), toIms (ims (s).ims), toOps (ops (s).ops)⟩ : Scr))))) ∧ True ∧ True ∧ (((eqS (⟨((s).bits), ((s).c), ((s).gtw), ((s).gth), ints (is (s).ord), toIms (ims (s).ims), toOps (ops (s).ops)⟩ : Scr) (⟨((s).bits), ((s).c), ((s).gtw), ((s).gth), ints (is (s).ord), toIms (ims (s).ims), toOps (ops (s).ops)⟩ : Scr)) = true → True ∧ True ∧ (Ans Try.prog 22 (zz20 z) (RV.d (DV.bool (eqS (⟨((s).bits), ((s).c), ((s).gtw), ((s).gth), ints (is (s).ord), toIms (ims (s).ims), toOps (ops (s).ops)⟩ : Scr) (⟨z.bits, z.c, z.tw, z.th, ints (is z.ord), toIms (ims z.ims), toOps (ops z.ops)⟩ : Scr))))) ∧ True ∧ True ∧ (Ans Try.prog 21 (zz20 z) (RV.d (DV.bool (eqS (⟨((s).bits), ((s).c), ((s).gtw), ((s).gth), ints (is (s).ord), toIms (ims (s).ims), toOps (ops (s).ops)⟩ : Scr) (⟨z.bits, z.c, z.tw, z.th, ints (is z.ord), toIms (ims z.ims), toOps (ops z.ops)⟩ : Scr))))) ∧ True ∧ True ∧ True ∧ ((((eqS (⟨((s).bits), ((s).c), ((s).gtw), ((s).gth), ints (is (s).ord), toIms (ims (s).ims), toOps (ops (s).ops)⟩ : Scr) (⟨z.bits, z.c, z.tw, z.th, ints (is z.ord), toIms (ims z.ims), toOps (ops z.ops)⟩ : Scr)) == (eqS (⟨((s).bits), ((s).c), ((s).gtw), ((s).gth), ints (is (s).ord), toIms (ims (s).ims), toOps (ops (s).ops)⟩ : Scr) (⟨z.bits, z.c, z.tw, z.th, ints (is z.ord), toIms (ims z.ims), toOps (ops z.ops)⟩ : Scr))) = true → True ∧ True ∧ zz21 ∧ (Ans Try.prog 22 zz22 (RV.d (DV.bool (eqS (⟨((s).bits), ((s).c), ((s).gtw), ((s).gth), ints (is (s).ord), toIms (ims (s).ims), toOps (ops (s).ops)⟩ : Scr) (⟨((d).bits), ((d).c), ((d).gtw), ((d).gth), ints (is (d).ord), toIms (ims (d).ims), toOps (ops (d).ops)⟩ : Scr))))) ∧ True ∧ True ∧ zz21 ∧ (Ans Try.prog 21 zz22 (RV.d (DV.bool (eqS (⟨((s).bits), ((s).c), ((s).gtw), ((s).gth), ints (is (s).ord), toIms (ims (s).ims), toOps (ops (s).ops)⟩ : Scr) (⟨((d).bits), ((d).c), ((d).gtw), ((d).gth), ints (is (d).ord), toIms (ims (d).ims), toOps (ops (d).ops)⟩ : Scr))))) ∧ True ∧ True ∧ True ∧ (true = true) ∧ RV.d (DV.bool ((eqS (⟨((s).bits), ((s).c), ((s).gtw), ((s).gth), ints (is (s).ord), toIms (ims (s).ims), toOps (ops (s).ops)⟩ : Scr) (⟨((d).bits), ((d).c), ((d).gtw), ((d).gth), ints (is (d).ord), toIms (ims (d).ims), toOps (ops (d).ops)⟩ : Scr)) == (eqS (⟨((s).bits), ((s).c), ((s).gtw), ((s).gth), ints (is (s).ord), toIms (ims (s).ims), toOps (ops (s).ops)⟩ : Scr) (⟨((d).bits), ((d).c), ((d).gtw), ((d).gth), ints (is (d).ord), toIms (ims (d).ims), toOps (ops (d).ops)⟩ : Scr)))) = RV.d (DV.bool true)) ∧ (((eqS (⟨((s).bits), ((s).c), ((s).gtw), ((s).gth), ints (is (s).ord), toIms (ims (s).ims), toOps (ops (s).ops)⟩ : Scr) (⟨z.bits, z.c, z.tw, z.th, ints (is z.ord), toIms (ims z.ims), toOps (ops z.ops)⟩ : Scr)) == (eqS (⟨((s).bits), ((s).c), ((s).gtw), ((s).gth), ints (is (s).ord), toIms (ims (s).ims), toOps (ops (s).ops)⟩ : Scr) (⟨z.bits, z.c, z.tw, z.th, ints (is z.ord), toIms (ims z.ims), toOps (ops z.ops)⟩ : Scr))) = (!true) → True ∧ True ∧ (true = true) ∧ RV.d (DV.bool false) = RV.d (DV.bool true)))) ∧ ((eqS (⟨((s).bits), ((s).c), ((s).gtw), ((s).gth), ints (is (s).ord), toIms (ims (s).ims), toOps (ops (s).ops)⟩ : Scr) (⟨((s).bits), ((s).c), ((s).gtw), ((s).gth), ints (is (s).ord), toIms (ims (s).ims), toOps (ops (s).ops)⟩ : Scr)) = (!true) → True ∧ True ∧ True ∧ True ∧ (true = true) ∧ RV.d (DV.bool false) = RV.d (DV.bool true)))) ∧ (true = (!true) → True ∧ True ∧ True ∧ True ∧ True ∧ True ∧ (true = true) ∧ RV.d (DV.bool false) = RV.d (DV.bool true)))) := by kernel_rfl
theorem L18_ScriptEqualAgrees_ans (s : Scn) (d : Scn) (what : Int) (by_ : Int) (hs : s.ok) (hd : d.ok) : Ans Try.prog 8 [RV.agg [DV.int .i64 s.b, DV.int .i64 s.x, DV.int .i64 s.y, DV.int .i64 s.w, DV.int .i64 s.h, DV.int .i64 s.tw, DV.int .i64 s.th, DV.sl s.on s.oxs, DV.sl s.pn s.pxs, DV.sl s.rn s.rxs], RV.agg [DV.int .i64 d.b, DV.int .i64 d.x, DV.int .i64 d.y, DV.int .i64 d.w, DV.int .i64 d.h, DV.int .i64 d.tw, DV.int .i64 d.th, DV.sl d.on d.oxs, DV.sl d.pn d.pxs, DV.sl d.rn d.rxs], RV.d (DV.int .i64 what), RV.d (DV.int .i64 by_)] (RV.d (DV.bool true)) :=
  ans_of_vcg (Γ := gamScriptEqualAgrees) (L18_ScriptEqualAgrees_ann s d what by_) mixed_ Try.func8 rfl (Nat.le_of_ble_eq_true rfl) fun hwf => by
    refine Eq.mpr (L18_ScriptEqualAgrees_vc s d what by_) ?_
    simp only [true_and, and_true, RV.d.injEq, RV.agg.injEq, RV.tup.injEq, DV.bool.injEq, DV.int.injEq, DV.sl.injEq, List.cons.injEq, forall_const, Bool.not_false, Bool.not_true, Bool.not_eq_true', Bool.not_eq_false', decide_eq_true_eq, decide_eq_false_iff_not, Int.toNat_natCast, imQ, imQr, imC, oqQ, oqQr, oqC, oqD, pxQ, pxQr, pxC, pxD, L18_awake_ans, G_Mod_ans]
    have li := s.ims_len
    have hol := s.ops_len
    have hod := s.ord_len
    have hIU := s.ims_isU
    have hDU := d.ims_isU
    have hM' : ∀ n : Nat, n ≤ 1000 → n ≤ maxLen := fun n h => by unfold maxLen; omega
    refine ⟨G_Script_ans s hs, G_Script_ans s hs, ?_, fun z hz => ?_⟩
    · generalize modS what 8 = w at *
      have hSu : ∀ v : Int, ∀ m ∈ s.ims.set 0 { s.ims[0]'(by omega) with w := v }, m.isU := fun v m hm => by
        rcases List.mem_or_eq_of_mem_set hm with hm | hm
        · exact hIU m hm
        · subst hm
          have h0 := hIU _ (List.getElem_mem (by omega : 0 < s.ims.length))
          exact h0
      have hw0 : ∀ v : Int, (ims s.ims).set 0 (DV.int IntKind.i64 v) = ims (s.ims.set 0 { s.ims[0]'(by omega) with w := v }) := fun v => by
        have := ims_set (l := s.ims) (k := 0) (j := 0) (d := DV.int .i64 v) (m := { s.ims[0]'(by omega) with w := v }) (by omega) (by omega) rfl
        simpa using this
      have hSl : ∀ v : Int, s.ims.length = (s.ims.set 0 { s.ims[0]'(by omega) with w := v }).length := fun v => by simp
      have il := ims_length s.ims
      have ap : appVc 1 8 s.ord.length 1 (is s.ord) [DV.int IntKind.i64 0] := ⟨by rw [is_length, Nat.mul_one], rfl, hM' _ (by omega), by omega⟩
      have hL' : s.ord.length + 1 = (s.ord ++ [(0 : Int)]).length := by simp
      have hIs : is s.ord ++ [DV.int IntKind.i64 0] = is (s.ord ++ [(0 : Int)]) := by simp [is]
      have wl : IntKind.wrap .i64 ((s.ims.length : Int) - 1) = ((s.ims.length - 1 : Nat) : Int) := by rw [IntWalk.i64_in _ ⟨by omega, by omega⟩]; omega
      have hTu : ∀ m ∈ s.ims.take (s.ims.length - 1), m.isU := fun m hm => hIU m (List.mem_of_mem_take hm)
      have hTl : s.ims.length - 1 = (s.ims.take (s.ims.length - 1)).length := by rw [List.length_take]; omega
      have hTe := ims_take s.ims (s.ims.length - 1)
      have hmo : 0 < s.ops.length → (0 ≤ modS by_ (s.ops.length : Int) ∧ modS by_ (s.ops.length : Int) < (s.ops.length : Int)) := fun h => modS_in (by omega) (by omega)
      have ol := ops_length s.ops
      have hg0 : (ims s.ims)[0]? = some (DV.int .i64 (nAt (ims s.ims) 0)) := rd_self (v := (s.ims[0]'(by omega)).w) (ims_get (l := s.ims) (k := 0) (by omega) 0 (by omega))
      have hg1 : ∀ k (h : k < s.ops.length), (ops s.ops)[k * 12 + 5]? = some (DV.int .i64 (nAt (ops s.ops) (k * 12 + 5))) := fun k h => rd_self (v := s.ops[k].mx) (ops_get h 5 (by omega))
      simp only [wl, Int.toNat_natCast]
      have simple : ∀ (a b c d e f g : Int), ∃ z : Scr, (∀ m ∈ z.ims, m.isU) ∧ (a = z.bits ∧ b = z.c.a ∧ c = z.c.b ∧ d = z.c.c ∧ e = z.c.d ∧ f = z.tw ∧ g = z.th ∧ s.ord.length = z.ord.length ∧ s.ims.length = z.ims.length ∧ s.ops.length = z.ops.length) ∧ is s.ord = is z.ord ∧ ims s.ims = ims z.ims ∧ ops s.ops = ops z.ops := fun a b c d e f g =>
        ⟨⟨a, ⟨b, c, d, e⟩, f, g, s.ord, s.ims, s.ops⟩, hIU, ⟨rfl, rfl, rfl, rfl, rfl, rfl, rfl, rfl, rfl, rfl⟩, rfl, rfl, rfl⟩
      (repeat' (first | exact ap | exact hM' _ (by omega) | apply And.intro | intro _)) <;> first
        | omega
        | exact hg0
        | exact simple _ _ _ _ _ _ _
        | exact ⟨⟨_, ⟨s.c.a, s.c.b, s.c.c, s.c.d⟩, _, _, s.ord ++ [(0 : Int)], _, _⟩, hIU, ⟨rfl, rfl, rfl, rfl, rfl, rfl, rfl, hL', rfl, rfl⟩, hIs, rfl, rfl⟩
        | exact ⟨⟨_, ⟨s.c.a, s.c.b, s.c.c, s.c.d⟩, _, _, s.ord, s.ims.take (s.ims.length - 1), _⟩, hTu, ⟨rfl, rfl, rfl, rfl, rfl, rfl, rfl, rfl, hTl, rfl⟩, rfl, hTe, rfl⟩
        | exact ⟨⟨_, ⟨s.c.a, s.c.b, s.c.c, s.c.d⟩, _, _, s.ord, s.ims.set 0 { s.ims[0]'(by omega) with w := IntKind.wrap .i64 (nAt (ims s.ims) 0 + 1) }, _⟩, hSu _, ⟨rfl, rfl, rfl, rfl, rfl, rfl, rfl, rfl, hSl _, rfl⟩, rfl, hw0 _, rfl⟩
        | (have hm := hmo (by omega); first | exact hm.1 | exact hm.2 | omega | exact hg1 _ (by omega))
        | (have hm := hmo (by omega)
           have hk : (modS by_ (s.ops.length : Int)).toNat < s.ops.length := by omega
           generalize (modS by_ (s.ops.length : Int)).toNat = k at *
           generalize IntKind.wrap .i64 (nAt (ops s.ops) (k * 12 + 5) + by_) = v
           have e5 := ops_set (l := s.ops) (k := k) (j := 5) (d := DV.int .i64 v) (o := { s.ops[k] with mx := v }) hk (by omega) rfl
           exact ⟨⟨_, ⟨s.c.a, s.c.b, s.c.c, s.c.d⟩, _, _, s.ord, s.ims, s.ops.set k { s.ops[k] with mx := v }⟩, hIU, ⟨rfl, rfl, rfl, rfl, rfl, rfl, rfl, rfl, rfl, by simp⟩, rfl, rfl, e5⟩)
    · have self : eqS ⟨s.bits, s.c, s.gtw, s.gth, s.ord, s.ims, s.ops⟩ ⟨s.bits, s.c, s.gtw, s.gth, s.ord, s.ims, s.ops⟩ = true := by
        refine eqS_self fun m hm => ?_
        exact (s.fine m hm).1
      have e1 := script_Equal_ans ⟨s.bits, s.c, s.gtw, s.gth, s.ord, s.ims, s.ops⟩ ⟨s.bits, s.c, s.gtw, s.gth, s.ord, s.ims, s.ops⟩ hIU hIU
      have e2 := script_Equal_ans ⟨s.bits, s.c, s.gtw, s.gth, s.ord, s.ims, s.ops⟩ z hIU hz
      have e3 := R18_Equal_ans ⟨s.bits, s.c, s.gtw, s.gth, s.ord, s.ims, s.ops⟩ z hIU hz
      have e4 := script_Equal_ans ⟨s.bits, s.c, s.gtw, s.gth, s.ord, s.ims, s.ops⟩ ⟨d.bits, d.c, d.gtw, d.gth, d.ord, d.ims, d.ops⟩ hIU hDU
      have e5 := R18_Equal_ans ⟨s.bits, s.c, s.gtw, s.gth, s.ord, s.ims, s.ops⟩ ⟨d.bits, d.c, d.gtw, d.gth, d.ord, d.ims, d.ops⟩ hIU hDU
      have gd := G_Script_ans d hd
      simp only [ints_is, toIms_ims, toOps_ops] at e1 e2 e3 e4 e5 ⊢
      have ez : (⟨z.bits, z.c, z.tw, z.th, z.ord, z.ims, z.ops⟩ : Scr) = z := rfl
      rw [self] at e1 ⊢
      have nf : ∀ {p : Prop}, (true = false) → p := fun h => by cases h
      (repeat' (first | exact gd | apply And.intro | intro _)) <;> first | exact e1 | exact e2 | exact e3 | exact e4 | exact e5 | exact gd | exact beq_self_eq_true _ | exact nf (by assumption) | (rename_i h; rw [beq_self_eq_true] at h; exact nf h)

end Go.Proofs.Ytkfgmaecbclgfaa

/-
  The program's own closed facts, once: each a declaration of its own.
-/
namespace Go.Proofs.Ytkfgmaecbclgfaa.closed
open Go
set_option linter.unusedVariables false
set_option linter.unusedSimpArgs false

set_option maxRecDepth 100000 in
theorem headWord : Try.prog.initOrder = String.ofList [Char.ofNat 104, Char.ofNat 97, Char.ofNat 114, Char.ofNat 110, Char.ofNat 101, Char.ofNat 115, Char.ofNat 115, Char.ofNat 32, Char.ofNat 52, Char.ofNat 101, Char.ofNat 55, Char.ofNat 100, Char.ofNat 98, Char.ofNat 99, Char.ofNat 99, Char.ofNat 49, Char.ofNat 49, Char.ofNat 55, Char.ofNat 98, Char.ofNat 100, Char.ofNat 53, Char.ofNat 57, Char.ofNat 49, Char.ofNat 102, Char.ofNat 97, Char.ofNat 57, Char.ofNat 97, Char.ofNat 101, Char.ofNat 100, Char.ofNat 56, Char.ofNat 101, Char.ofNat 97, Char.ofNat 97, Char.ofNat 56, Char.ofNat 101, Char.ofNat 102, Char.ofNat 57, Char.ofNat 50, Char.ofNat 100, Char.ofNat 52, Char.ofNat 48, Char.ofNat 100, Char.ofNat 49, Char.ofNat 101, Char.ofNat 99, Char.ofNat 101, Char.ofNat 57, Char.ofNat 98, Char.ofNat 97, Char.ofNat 49, Char.ofNat 54, Char.ofNat 99, Char.ofNat 52, Char.ofNat 102, Char.ofNat 99, Char.ofNat 55, Char.ofNat 55, Char.ofNat 100, Char.ofNat 101, Char.ofNat 52, Char.ofNat 48, Char.ofNat 56, Char.ofNat 54, Char.ofNat 98, Char.ofNat 100, Char.ofNat 97, Char.ofNat 53, Char.ofNat 52, Char.ofNat 99, Char.ofNat 48, Char.ofNat 56, Char.ofNat 56, Char.ofNat 32, Char.ofNat 99, Char.ofNat 117, Char.ofNat 116, Char.ofNat 32, Char.ofNat 97, Char.ofNat 116, Char.ofNat 32, Char.ofNat 99, Char.ofNat 111, Char.ofNat 109, Char.ofNat 112, Char.ofNat 111, Char.ofNat 115, Char.ofNat 105, Char.ofNat 116, Char.ofNat 111, Char.ofNat 114, Char.ofNat 47, Char.ofNat 99, Char.ofNat 111, Char.ofNat 109, Char.ofNat 112, Char.ofNat 111, Char.ofNat 115, Char.ofNat 105, Char.ofNat 116, Char.ofNat 111, Char.ofNat 114, Char.ofNat 108, Char.ofNat 97, Char.ofNat 119, Char.ofNat 49, Char.ofNat 56, Char.ofNat 46, Char.ofNat 83, Char.ofNat 99, Char.ofNat 114, Char.ofNat 105, Char.ofNat 112, Char.ofNat 116, Char.ofNat 69, Char.ofNat 110, Char.ofNat 99, Char.ofNat 111, Char.ofNat 100, Char.ofNat 101, Char.ofNat 65, Char.ofNat 103, Char.ofNat 114, Char.ofNat 101, Char.ofNat 101, Char.ofNat 115, Char.ofNat 32, Char.ofNat 99, Char.ofNat 111, Char.ofNat 109, Char.ofNat 112, Char.ofNat 111, Char.ofNat 115, Char.ofNat 105, Char.ofNat 116, Char.ofNat 111, Char.ofNat 114, Char.ofNat 47, Char.ofNat 99, Char.ofNat 111, Char.ofNat 109, Char.ofNat 112, Char.ofNat 111, Char.ofNat 115, Char.ofNat 105, Char.ofNat 116, Char.ofNat 111, Char.ofNat 114, Char.ofNat 108, Char.ofNat 97, Char.ofNat 119, Char.ofNat 49, Char.ofNat 56, Char.ofNat 46, Char.ofNat 83, Char.ofNat 99, Char.ofNat 114, Char.ofNat 105, Char.ofNat 112, Char.ofNat 116, Char.ofNat 69, Char.ofNat 110, Char.ofNat 99, Char.ofNat 111, Char.ofNat 100, Char.ofNat 97, Char.ofNat 98, Char.ofNat 108, Char.ofNat 101, Char.ofNat 65, Char.ofNat 103, Char.ofNat 114, Char.ofNat 101, Char.ofNat 101, Char.ofNat 115, Char.ofNat 32, Char.ofNat 99, Char.ofNat 111, Char.ofNat 109, Char.ofNat 112, Char.ofNat 111, Char.ofNat 115, Char.ofNat 105, Char.ofNat 116, Char.ofNat 111, Char.ofNat 114, Char.ofNat 47, Char.ofNat 99, Char.ofNat 111, Char.ofNat 109, Char.ofNat 112, Char.ofNat 111, Char.ofNat 115, Char.ofNat 105, Char.ofNat 116, Char.ofNat 111, Char.ofNat 114, Char.ofNat 108, Char.ofNat 97, Char.ofNat 119, Char.ofNat 49, Char.ofNat 56, Char.ofNat 46, Char.ofNat 83, Char.ofNat 99, Char.ofNat 114, Char.ofNat 105, Char.ofNat 112, Char.ofNat 116, Char.ofNat 68, Char.ofNat 101, Char.ofNat 99, Char.ofNat 111, Char.ofNat 100, Char.ofNat 101, Char.ofNat 65, Char.ofNat 103, Char.ofNat 114, Char.ofNat 101, Char.ofNat 101, Char.ofNat 115, Char.ofNat 32, Char.ofNat 99, Char.ofNat 111, Char.ofNat 109, Char.ofNat 112, Char.ofNat 111, Char.ofNat 115, Char.ofNat 105, Char.ofNat 116, Char.ofNat 111, Char.ofNat 114, Char.ofNat 47, Char.ofNat 99, Char.ofNat 111, Char.ofNat 109, Char.ofNat 112, Char.ofNat 111, Char.ofNat 115, Char.ofNat 105, Char.ofNat 116, Char.ofNat 111, Char.ofNat 114, Char.ofNat 108, Char.ofNat 97, Char.ofNat 119, Char.ofNat 49, Char.ofNat 56, Char.ofNat 46, Char.ofNat 83, Char.ofNat 99, Char.ofNat 114, Char.ofNat 105, Char.ofNat 112, Char.ofNat 116, Char.ofNat 68, Char.ofNat 101, Char.ofNat 99, Char.ofNat 111, Char.ofNat 100, Char.ofNat 101, Char.ofNat 78, Char.ofNat 101, Char.ofNat 101, Char.ofNat 100, Char.ofNat 115, Char.ofNat 65, Char.ofNat 108, Char.ofNat 108, Char.ofNat 66, Char.ofNat 121, Char.ofNat 116, Char.ofNat 101, Char.ofNat 115, Char.ofNat 32, Char.ofNat 99, Char.ofNat 111, Char.ofNat 109, Char.ofNat 112, Char.ofNat 111, Char.ofNat 115, Char.ofNat 105, Char.ofNat 116, Char.ofNat 111, Char.ofNat 114, Char.ofNat 47, Char.ofNat 99, Char.ofNat 111, Char.ofNat 109, Char.ofNat 112, Char.ofNat 111, Char.ofNat 115, Char.ofNat 105, Char.ofNat 116, Char.ofNat 111, Char.ofNat 114, Char.ofNat 108, Char.ofNat 97, Char.ofNat 119, Char.ofNat 49, Char.ofNat 56, Char.ofNat 46, Char.ofNat 83, Char.ofNat 99, Char.ofNat 114, Char.ofNat 105, Char.ofNat 112, Char.ofNat 116, Char.ofNat 82, Char.ofNat 111, Char.ofNat 117, Char.ofNat 110, Char.ofNat 100, Char.ofNat 84, Char.ofNat 114, Char.ofNat 105, Char.ofNat 112, Char.ofNat 32, Char.ofNat 99, Char.ofNat 111, Char.ofNat 109, Char.ofNat 112, Char.ofNat 111, Char.ofNat 115, Char.ofNat 105, Char.ofNat 116, Char.ofNat 111, Char.ofNat 114, Char.ofNat 47, Char.ofNat 99, Char.ofNat 111, Char.ofNat 109, Char.ofNat 112, Char.ofNat 111, Char.ofNat 115, Char.ofNat 105, Char.ofNat 116, Char.ofNat 111, Char.ofNat 114, Char.ofNat 108, Char.ofNat 97, Char.ofNat 119, Char.ofNat 49, Char.ofNat 56, Char.ofNat 46, Char.ofNat 83, Char.ofNat 99, Char.ofNat 114, Char.ofNat 105, Char.ofNat 112, Char.ofNat 116, Char.ofNat 69, Char.ofNat 113, Char.ofNat 117, Char.ofNat 97, Char.ofNat 108, Char.ofNat 65, Char.ofNat 103, Char.ofNat 114, Char.ofNat 101, Char.ofNat 101, Char.ofNat 115] := by kernel_rfl
set_option maxRecDepth 100000 in
theorem headSigns : Try.prog.initOrder.toList = [Char.ofNat 104, Char.ofNat 97, Char.ofNat 114, Char.ofNat 110, Char.ofNat 101, Char.ofNat 115, Char.ofNat 115, Char.ofNat 32, Char.ofNat 52, Char.ofNat 101, Char.ofNat 55, Char.ofNat 100, Char.ofNat 98, Char.ofNat 99, Char.ofNat 99, Char.ofNat 49, Char.ofNat 49, Char.ofNat 55, Char.ofNat 98, Char.ofNat 100, Char.ofNat 53, Char.ofNat 57, Char.ofNat 49, Char.ofNat 102, Char.ofNat 97, Char.ofNat 57, Char.ofNat 97, Char.ofNat 101, Char.ofNat 100, Char.ofNat 56, Char.ofNat 101, Char.ofNat 97, Char.ofNat 97, Char.ofNat 56, Char.ofNat 101, Char.ofNat 102, Char.ofNat 57, Char.ofNat 50, Char.ofNat 100, Char.ofNat 52, Char.ofNat 48, Char.ofNat 100, Char.ofNat 49, Char.ofNat 101, Char.ofNat 99, Char.ofNat 101, Char.ofNat 57, Char.ofNat 98, Char.ofNat 97, Char.ofNat 49, Char.ofNat 54, Char.ofNat 99, Char.ofNat 52, Char.ofNat 102, Char.ofNat 99, Char.ofNat 55, Char.ofNat 55, Char.ofNat 100, Char.ofNat 101, Char.ofNat 52, Char.ofNat 48, Char.ofNat 56, Char.ofNat 54, Char.ofNat 98, Char.ofNat 100, Char.ofNat 97, Char.ofNat 53, Char.ofNat 52, Char.ofNat 99, Char.ofNat 48, Char.ofNat 56, Char.ofNat 56, Char.ofNat 32, Char.ofNat 99, Char.ofNat 117, Char.ofNat 116, Char.ofNat 32, Char.ofNat 97, Char.ofNat 116, Char.ofNat 32, Char.ofNat 99, Char.ofNat 111, Char.ofNat 109, Char.ofNat 112, Char.ofNat 111, Char.ofNat 115, Char.ofNat 105, Char.ofNat 116, Char.ofNat 111, Char.ofNat 114, Char.ofNat 47, Char.ofNat 99, Char.ofNat 111, Char.ofNat 109, Char.ofNat 112, Char.ofNat 111, Char.ofNat 115, Char.ofNat 105, Char.ofNat 116, Char.ofNat 111, Char.ofNat 114, Char.ofNat 108, Char.ofNat 97, Char.ofNat 119, Char.ofNat 49, Char.ofNat 56, Char.ofNat 46, Char.ofNat 83, Char.ofNat 99, Char.ofNat 114, Char.ofNat 105, Char.ofNat 112, Char.ofNat 116, Char.ofNat 69, Char.ofNat 110, Char.ofNat 99, Char.ofNat 111, Char.ofNat 100, Char.ofNat 101, Char.ofNat 65, Char.ofNat 103, Char.ofNat 114, Char.ofNat 101, Char.ofNat 101, Char.ofNat 115, Char.ofNat 32, Char.ofNat 99, Char.ofNat 111, Char.ofNat 109, Char.ofNat 112, Char.ofNat 111, Char.ofNat 115, Char.ofNat 105, Char.ofNat 116, Char.ofNat 111, Char.ofNat 114, Char.ofNat 47, Char.ofNat 99, Char.ofNat 111, Char.ofNat 109, Char.ofNat 112, Char.ofNat 111, Char.ofNat 115, Char.ofNat 105, Char.ofNat 116, Char.ofNat 111, Char.ofNat 114, Char.ofNat 108, Char.ofNat 97, Char.ofNat 119, Char.ofNat 49, Char.ofNat 56, Char.ofNat 46, Char.ofNat 83, Char.ofNat 99, Char.ofNat 114, Char.ofNat 105, Char.ofNat 112, Char.ofNat 116, Char.ofNat 69, Char.ofNat 110, Char.ofNat 99, Char.ofNat 111, Char.ofNat 100, Char.ofNat 97, Char.ofNat 98, Char.ofNat 108, Char.ofNat 101, Char.ofNat 65, Char.ofNat 103, Char.ofNat 114, Char.ofNat 101, Char.ofNat 101, Char.ofNat 115, Char.ofNat 32, Char.ofNat 99, Char.ofNat 111, Char.ofNat 109, Char.ofNat 112, Char.ofNat 111, Char.ofNat 115, Char.ofNat 105, Char.ofNat 116, Char.ofNat 111, Char.ofNat 114, Char.ofNat 47, Char.ofNat 99, Char.ofNat 111, Char.ofNat 109, Char.ofNat 112, Char.ofNat 111, Char.ofNat 115, Char.ofNat 105, Char.ofNat 116, Char.ofNat 111, Char.ofNat 114, Char.ofNat 108, Char.ofNat 97, Char.ofNat 119, Char.ofNat 49, Char.ofNat 56, Char.ofNat 46, Char.ofNat 83, Char.ofNat 99, Char.ofNat 114, Char.ofNat 105, Char.ofNat 112, Char.ofNat 116, Char.ofNat 68, Char.ofNat 101, Char.ofNat 99, Char.ofNat 111, Char.ofNat 100, Char.ofNat 101, Char.ofNat 65, Char.ofNat 103, Char.ofNat 114, Char.ofNat 101, Char.ofNat 101, Char.ofNat 115, Char.ofNat 32, Char.ofNat 99, Char.ofNat 111, Char.ofNat 109, Char.ofNat 112, Char.ofNat 111, Char.ofNat 115, Char.ofNat 105, Char.ofNat 116, Char.ofNat 111, Char.ofNat 114, Char.ofNat 47, Char.ofNat 99, Char.ofNat 111, Char.ofNat 109, Char.ofNat 112, Char.ofNat 111, Char.ofNat 115, Char.ofNat 105, Char.ofNat 116, Char.ofNat 111, Char.ofNat 114, Char.ofNat 108, Char.ofNat 97, Char.ofNat 119, Char.ofNat 49, Char.ofNat 56, Char.ofNat 46, Char.ofNat 83, Char.ofNat 99, Char.ofNat 114, Char.ofNat 105, Char.ofNat 112, Char.ofNat 116, Char.ofNat 68, Char.ofNat 101, Char.ofNat 99, Char.ofNat 111, Char.ofNat 100, Char.ofNat 101, Char.ofNat 78, Char.ofNat 101, Char.ofNat 101, Char.ofNat 100, Char.ofNat 115, Char.ofNat 65, Char.ofNat 108, Char.ofNat 108, Char.ofNat 66, Char.ofNat 121, Char.ofNat 116, Char.ofNat 101, Char.ofNat 115, Char.ofNat 32, Char.ofNat 99, Char.ofNat 111, Char.ofNat 109, Char.ofNat 112, Char.ofNat 111, Char.ofNat 115, Char.ofNat 105, Char.ofNat 116, Char.ofNat 111, Char.ofNat 114, Char.ofNat 47, Char.ofNat 99, Char.ofNat 111, Char.ofNat 109, Char.ofNat 112, Char.ofNat 111, Char.ofNat 115, Char.ofNat 105, Char.ofNat 116, Char.ofNat 111, Char.ofNat 114, Char.ofNat 108, Char.ofNat 97, Char.ofNat 119, Char.ofNat 49, Char.ofNat 56, Char.ofNat 46, Char.ofNat 83, Char.ofNat 99, Char.ofNat 114, Char.ofNat 105, Char.ofNat 112, Char.ofNat 116, Char.ofNat 82, Char.ofNat 111, Char.ofNat 117, Char.ofNat 110, Char.ofNat 100, Char.ofNat 84, Char.ofNat 114, Char.ofNat 105, Char.ofNat 112, Char.ofNat 32, Char.ofNat 99, Char.ofNat 111, Char.ofNat 109, Char.ofNat 112, Char.ofNat 111, Char.ofNat 115, Char.ofNat 105, Char.ofNat 116, Char.ofNat 111, Char.ofNat 114, Char.ofNat 47, Char.ofNat 99, Char.ofNat 111, Char.ofNat 109, Char.ofNat 112, Char.ofNat 111, Char.ofNat 115, Char.ofNat 105, Char.ofNat 116, Char.ofNat 111, Char.ofNat 114, Char.ofNat 108, Char.ofNat 97, Char.ofNat 119, Char.ofNat 49, Char.ofNat 56, Char.ofNat 46, Char.ofNat 83, Char.ofNat 99, Char.ofNat 114, Char.ofNat 105, Char.ofNat 112, Char.ofNat 116, Char.ofNat 69, Char.ofNat 113, Char.ofNat 117, Char.ofNat 97, Char.ofNat 108, Char.ofNat 65, Char.ofNat 103, Char.ofNat 114, Char.ofNat 101, Char.ofNat 101, Char.ofNat 115] := by rw [headWord, String.toList_ofList]
set_option maxRecDepth 100000 in
theorem enters : Try.prog.mayEnter = true := by
  unfold Program.mayEnter Program.doorFits
  rw [headSigns]
  kernel_rfl
set_option maxRecDepth 100000 in
theorem liftsNot : Try.prog.liftsFinal = false := by
  unfold Program.liftsFinal Program.headLifts
  rw [headSigns]
  kernel_rfl
set_option maxRecDepth 100000 in
theorem made : Try.prog.make = some .cut := by
  unfold Program.make
  rw [headSigns]
  kernel_rfl
theorem own : ownKnob Try.prog.godebug = none := by kernel_rfl
theorem laidOut : laidOutB Try.prog = true := by kernel_rfl
theorem mapsRow : mapsRowed Try.prog = true := by kernel_rfl
theorem noStops : (Try.prog.stops == []) = true := by kernel_rfl
theorem noKnobs : (Try.prog.stopKnobs == []) = true := by kernel_rfl
theorem plain : Try.prog.plainKeys = true := by kernel_rfl
theorem heard : Try.prog.stopsHeard = true := by kernel_rfl
end Go.Proofs.Ytkfgmaecbclgfaa.closed

