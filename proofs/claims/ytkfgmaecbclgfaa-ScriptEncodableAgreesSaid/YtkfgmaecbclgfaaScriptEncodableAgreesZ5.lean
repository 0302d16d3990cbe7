/-
  Part 5 of what ScriptEncodableAgrees rests on.
-/
import Derived.Test.YtkfgmaecbclgfaaScriptEncodableAgreesZ4
import Derived.Test.YtkfgmaecbclgfaaScriptEncodableAgreesZ3
import Derived.Tactics
import Derived.Tactics2
import Derived.Defers
import Derived.Recover
import Derived.WalkSmall
import Derived.Laws.Pointers
/-
  The writer of scripts.
-/
namespace Go.Proofs.Ytkfgmaecbclgfaa
open Go.RowKit
set_option linter.unusedVariables false
set_option linter.unusedSimpArgs false
attribute [local irreducible] Ans AnsO AnsG AnsN AnsI

set_option maxRecDepth 4000
theorem pxBs_len (l : List Px) : (l.flatMap pxB).length = l.length * 10 := by
  induction l with
  | nil => simp
  | cons p l ih => simp only [List.flatMap_cons, List.length_append, pxB_len, List.length_cons]; rw [ih, Nat.add_mul]; omega
theorem ints_cons (k : IntKind) (n : Int) (l : List DV) : ints (.int k n :: l) = n :: ints l := rfl
theorem ints_nil : ints [] = [] := rfl
theorem sizeIm_le' {m : Im} (h : m.formed = true) : m.w * m.h ≤ 16777216 := by
  have h1 : fitsP m.w m.h = true := by unfold Im.formed at h; exact (Bool.and_eq_true_iff.1 h).1
  simp only [fitsP, Bool.and_eq_true, decide_eq_true_eq] at h1
  omega
theorem ints_u8s (l : List Int) : ints (u8s l) = l := by simp [ints, u8s, Function.comp_def]
theorem beI_take {v : Int} : ∀ {n j : Nat}, j < n → (beI n v).take (j + 1) = (beI n v).take j ++ [byI v (n - 1 - j)]
  | n + 1, 0, _ => by simp [beI]
  | n + 1, j + 1, h => by
    have := @beI_take v n j (by omega)
    simp only [beI, List.take_succ_cons, this, List.cons_append]
    rw [show n + 1 - 1 - (j + 1) = n - 1 - j by omega]
def gamEb : Gam where
 pure := fun f xs =>
  if f = 65 then (match xs with | [] => some (RV.tup [RV.tup [RV.d (DV.int .i64 37), RV.d (DV.int .i64 5)]]) | [.agg [.int _ w, .int _ h, .bool so, .int _ c0, .int _ c1, .int _ c2, .int _ ca, .int _ cf, .int _ w0, .int _ h0, .int _ s0, .sl n0 xs0, .int _ w1, .int _ h1, .int _ s1, .sl n1 xs1, .int _ w2, .int _ h2, .int _ s2, .sl n2 xs2, .int _ w3, .int _ h3, .int _ s3, .sl n3 xs3, .int _ w4, .int _ h4, .int _ s4, .sl n4 xs4]] => some (RV.d (DV.sl ((Im.pixels ⟨w, h, so, ⟨c0, c1, c2, ca, cf⟩, ⟨w0, h0, s0, n0, xs0⟩, ⟨w1, h1, s1, n1, xs1⟩, ⟨w2, h2, s2, n2, xs2⟩, ⟨w3, h3, s3, n3, xs3⟩, ⟨w4, h4, s4, n4, xs4⟩⟩).length) (pxs (Im.pixels ⟨w, h, so, ⟨c0, c1, c2, ca, cf⟩, ⟨w0, h0, s0, n0, xs0⟩, ⟨w1, h1, s1, n1, xs1⟩, ⟨w2, h2, s2, n2, xs2⟩, ⟨w3, h3, s3, n3, xs3⟩, ⟨w4, h4, s4, n4, xs4⟩⟩)))) | _ => none) else
  if f = 66 then (match xs with | [.agg [.int _ okind, .int _ oimage, .int _ ox, .int _ oy, .int _ omask, .int _ omx, .int _ omy, .int _ oopac, .int _ ooper, .int _ omode, .bool oiso, .bool okno]] => some (RV.d (DV.int .i64 (flagO ⟨okind, oimage, ox, oy, omask, omx, omy, oopac, ooper, omode, oiso, okno⟩))) | _ => none) else
  none
 modes := fun f =>
  if f = 29 then some ([false, true, true], 1, 1) else
  if f = 64 then some ([false, true], 1, 1) else
  none
 proc := fun f xs bs =>
  if f = 29 then (match xs, bs with | [AV.one (Cl.ptr 0 0), AV.one (Cl.d (DV.int _ n)), AV.one (Cl.d (DV.sl ln lxs))], [Bx.cells [Cl.ref 1 bn], Bx.row _ _ bxs] => some ⟨AV.tup [], [Bx.cells [Cl.ref 1 (((ints bxs) ++ putL n.toNat (ints lxs)).length)], Bx.row 5 1 (u8s ((ints bxs) ++ putL n.toNat (ints lxs)))], false⟩ | _, _ => none) else
  if f = 64 then (match xs, bs with | [AV.one (Cl.ptr 0 0), AV.agg [Cl.d (DV.int _ c0), Cl.d (DV.int _ c1), Cl.d (DV.int _ c2), Cl.d (DV.int _ ca), Cl.d (DV.int _ cf)]], [Bx.cells [Cl.ref 1 bn], Bx.row _ _ bxs] => some ⟨AV.tup [], [Bx.cells [Cl.ref 1 (((ints bxs) ++ pxB ⟨c0, c1, c2, ca, cf⟩).length)], Bx.row 5 1 (u8s ((ints bxs) ++ pxB ⟨c0, c1, c2, ca, cf⟩))], false⟩ | _, _ => none) else
  none
 iter := fun f cs =>
  none

def script_writer_put_ann (b : List Int) (n : Int) (l : List Int) : Ann := let zz0 := (1, AV.one (Cl.d (DV.int .i64 n))); let zz1 := (9, AV.one (Cl.d (DV.sl l.length (is l)))); let zz2 := (10, AV.one (Cl.d (DV.int .i64 ((l.length : Nat) : Int)))); let zz3 := fun (k : Nat) => (11, AV.one (Cl.d (DV.int .i64 ((k : Nat) : Int)))); (Ann.seq Ann.leaf (Ann.loop ⟨Nat, fun k => k ≤ l.length, fun k => ⟨[(0, AV.one (Cl.ptr 0 0)), zz0, zz1, zz2, (zz3 k)], [(0, Bx.cells [Cl.ref 9001 ((b ++ putL n.toNat (l.take k)).length)]), (9001, Bx.row 5 1 (u8s (b ++ putL n.toNat (l.take k))))]⟩, fun k => l.length - k⟩ fun k => (Ann.seq Ann.leaf (Ann.seq Ann.leaf (Ann.seq (Ann.seq Ann.leaf (Ann.seq Ann.leaf (Ann.loop ⟨Nat, fun j => j ≤ n.toNat, fun j => ⟨[(0, AV.one (Cl.ptr 0 0)), zz0, (7, AV.one (Cl.d (DV.int .i64 (nAt (is l) (((k : Nat) : Int).toNat * 1))))), (8, AV.one (Cl.d (DV.int .i64 (n - 1 - (j : Int))))), zz1, zz2, (zz3 k)], [(0, Bx.cells [Cl.ref 9002 ((b ++ putL n.toNat (l.take k) ++ (beI n.toNat (nAt (is l) k)).take j).length)]), (9002, Bx.row 5 1 (u8s (b ++ putL n.toNat (l.take k) ++ (beI n.toNat (nAt (is l) k)).take j)))]⟩, fun j => n.toNat - j⟩ fun j => Ann.leaf))) Ann.leaf)))))
theorem script_writer_put_vc (b : List Int) (n : Int) (l : List Int) : vcg Try.prog gamEb ⟨36, fun _ => false, List.range 1, false⟩ (bodyOf Try.f29) (script_writer_put_ann b n l) kn0 (startG [AV.one (Cl.ptr 0 0), AV.one (Cl.d (DV.int .i64 n)), AV.one (Cl.d (DV.sl l.length (is l)))] [Bx.cells [Cl.ref 1 b.length], Bx.row 5 1 (u8s b)]) (postG Try.prog ⟨36, fun _ => false, List.range 1, false⟩ Try.f29.results.toList ⟨AV.tup [], [Bx.cells [Cl.ref 1 ((b ++ putL n.toNat l).length)], Bx.row 5 1 (u8s (b ++ putL n.toNat l))], false⟩) =
  (let zz0 := (DV.int .i64 n = DV.int .i64 n); let zz1 := (DV.sl l.length (is l) = DV.sl l.length (is l)); let zz2 := (DV.int .i64 ((l.length : Nat) : Int) = DV.int .i64 ((l.length : Nat) : Int)); let zz3 := fun (k : Nat) => (DV.int .i64 (nAt (is l) (((k : Nat) : Int).toNat * 1)) = DV.int .i64 (nAt (is l) (((k : Nat) : Int).toNat * 1))); let zz4 := fun (k : Nat) => (DV.int .i64 ((k : Nat) : Int) = DV.int .i64 ((k : Nat) : Int)); True ∧ True ∧ True ∧ ((∃ k : Nat, (k ≤ l.length) ∧ (((0 = 0) ∧ zz0 ∧ zz1 ∧ zz2 ∧ (DV.int .i64 0 = DV.int .i64 ((k : Nat) : Int)) ∧ True) ∧ (((b.length = (b ++ putL n.toNat (l.take k)).length) ∧ True) ∧ (u8s b = u8s (b ++ putL n.toNat (l.take k))) ∧ True))) ∧ ∀ k : Nat, (k ≤ l.length) → True ∧ (((decide (((k : Nat) : Int) < ((l.length : Nat) : Int))) = true → (0 ≤ ((k : Nat) : Int) ∧ ((k : Nat) : Int) < ((l.length : Nat) : Int) ∧ ((k : Nat) : Int).toNat * 1 < (is l).length) ∧ (((is l)[((k : Nat) : Int).toNat * 1]? = some (DV.int .i64 (nAt (is l) (((k : Nat) : Int).toNat * 1)))) ∧ True) ∧ True ∧ True ∧ True ∧ True ∧ ((∃ j : Nat, (j ≤ n.toNat) ∧ (((0 = 0) ∧ zz0 ∧ (zz3 k) ∧ (DV.int .i64 (IntKind.wrap .i64 (n - (1 : Int))) = DV.int .i64 (n - 1 - (j : Int))) ∧ zz1 ∧ zz2 ∧ (zz4 k) ∧ True) ∧ ((((b ++ putL n.toNat (l.take k)).length = (b ++ putL n.toNat (l.take k) ++ (beI n.toNat (nAt (is l) k)).take j).length) ∧ True) ∧ (u8s (b ++ putL n.toNat (l.take k)) = u8s (b ++ putL n.toNat (l.take k) ++ (beI n.toNat (nAt (is l) k)).take j)) ∧ True))) ∧ ∀ j : Nat, (j ≤ n.toNat) → True ∧ True ∧ (((decide ((n - 1 - (j : Int)) ≥ (0 : Int))) = true → True ∧ True ∧ True ∧ True ∧ True ∧ True ∧ True ∧ True ∧ (0 ≤ IntKind.wrap .i64 ((8 : Int) * (n - 1 - (j : Int)))) ∧ True ∧ True ∧ (appVc 1 1 ((b ++ putL n.toNat (l.take k) ++ (beI n.toNat (nAt (is l) k)).take j).length) 1 (u8s (b ++ putL n.toNat (l.take k) ++ (beI n.toNat (nAt (is l) k)).take j)) ([DV.int .u8 (IntKind.wrap .u8 (Int.fdiv (nAt (is l) (((k : Nat) : Int).toNat * 1)) (2 ^ min (IntKind.wrap .i64 ((8 : Int) * (n - 1 - (j : Int)))).toNat 64)))])) ∧ True ∧ True ∧ True ∧ (true = true) ∧ True ∧ True ∧ True ∧ ∃ j' : Nat, (j' ≤ n.toNat) ∧ (n.toNat - j' < n.toNat - j) ∧ (((0 = 0) ∧ zz0 ∧ (zz3 k) ∧ (DV.int .i64 (IntKind.wrap .i64 ((n - 1 - (j : Int)) - (1 : Int))) = DV.int .i64 (n - 1 - (j' : Int))) ∧ zz1 ∧ zz2 ∧ (zz4 k) ∧ True) ∧ (((((b ++ putL n.toNat (l.take k) ++ (beI n.toNat (nAt (is l) k)).take j).length) + 1 = (b ++ putL n.toNat (l.take k) ++ (beI n.toNat (nAt (is l) k)).take j').length) ∧ True) ∧ ((u8s (b ++ putL n.toNat (l.take k) ++ (beI n.toNat (nAt (is l) k)).take j)) ++ ([DV.int .u8 (IntKind.wrap .u8 (Int.fdiv (nAt (is l) (((k : Nat) : Int).toNat * 1)) (2 ^ min (IntKind.wrap .i64 ((8 : Int) * (n - 1 - (j : Int)))).toNat 64)))]) = u8s (b ++ putL n.toNat (l.take k) ++ (beI n.toNat (nAt (is l) k)).take j')) ∧ True))) ∧ ((decide ((n - 1 - (j : Int)) ≥ (0 : Int))) = false → True ∧ True ∧ ∃ k' : Nat, (k' ≤ l.length) ∧ (l.length - k' < l.length - k) ∧ (((0 = 0) ∧ zz0 ∧ zz1 ∧ zz2 ∧ (DV.int .i64 (IntKind.wrap .i64 (((k : Nat) : Int) + (1 : Int))) = DV.int .i64 ((k' : Nat) : Int)) ∧ True) ∧ ((((b ++ putL n.toNat (l.take k) ++ (beI n.toNat (nAt (is l) k)).take j).length = (b ++ putL n.toNat (l.take k')).length) ∧ True) ∧ (u8s (b ++ putL n.toNat (l.take k) ++ (beI n.toNat (nAt (is l) k)).take j) = u8s (b ++ putL n.toNat (l.take k'))) ∧ True)))))) ∧ ((decide (((k : Nat) : Int) < ((l.length : Nat) : Int))) = false → ((True ∧ True) ∧ ((((b ++ putL n.toNat (l.take k)).length = (b ++ putL n.toNat l).length) ∧ True) ∧ (u8s (b ++ putL n.toNat (l.take k)) = u8s (b ++ putL n.toNat l)) ∧ True)) ∧ freshOK ⟨AV.tup [], [Bx.cells [Cl.ref 1 ((b ++ putL n.toNat l).length)], Bx.row 5 1 (u8s (b ++ putL n.toNat l))], false⟩)))) := by kernel_rfl
theorem script_writer_put_ans (b : List Int) (n : Int) (l : List Int) (hn : 1 ≤ n ∧ n ≤ 8) (hb : b.length + n.toNat * l.length ≤ 1000000000) : AnsG Try.prog 29 1 [AV.one (Cl.ptr 0 0), AV.one (Cl.d (DV.int .i64 n)), AV.one (Cl.d (DV.sl l.length (is l)))] [Bx.cells [Cl.ref 1 b.length], Bx.row 5 1 (u8s b)] ⟨AV.tup [], [Bx.cells [Cl.ref 1 ((b ++ putL n.toNat l).length)], Bx.row 5 1 (u8s (b ++ putL n.toNat l))], false⟩ :=
  ansG_of_vcg (Γ := gamEb) (script_writer_put_ann b n l) mixed_ Try.func29 rfl (Nat.le_of_ble_eq_true rfl) rfl fun hwf hbx => by
    refine Eq.mpr (script_writer_put_vc b n l) ?_
    simp only [true_and, and_true, RV.d.injEq, RV.agg.injEq, RV.tup.injEq, DV.bool.injEq, DV.int.injEq, DV.sl.injEq, List.cons.injEq, forall_const, Bool.not_false, Bool.not_true, Bool.not_eq_true', Bool.not_eq_false', decide_eq_true_eq, decide_eq_false_iff_not, Int.toNat_natCast, imQ, imQr, imC, oqQ, oqQr, oqC, oqD, pxQ, pxQr, pxC, pxD]
    obtain ⟨hn0, hn8⟩ := hn
    generalize hN : n.toNat = N at *
    have hnN : n = (N : Int) := by omega
    subst hnN
    have hN8 : 1 ≤ N ∧ N ≤ 8 := by omega
    have hll : l.length ≤ N * l.length := Nat.le_mul_of_pos_left _ (by omega)
    clear hN hn0 hn8
    have ht : ∀ {k : Nat}, k ≤ l.length → (putL N (l.take k)).length = k * N := fun {k} h => by rw [putL_len, List.length_take, Nat.min_eq_left h]
    have hkn : ∀ k : Nat, k < l.length → (k + 1) * N ≤ N * l.length := fun k h => by rw [Nat.mul_comm]; exact Nat.mul_le_mul_left N h
    refine ⟨⟨0, Nat.zero_le _, rfl, by simp [putL], by simp [putL]⟩, fun k hk => ⟨fun hlt => ?_, fun hge => ?_⟩⟩
    · have hk' : k < l.length := by omega
      obtain ⟨q1, q2⟩ := is_rd hk'
      have w1 : IntKind.wrap .i64 ((k : Int) + 1) = ((k + 1 : Nat) : Int) := by rw [IntWalk.i64_in _ ⟨by omega, by omega⟩]; omega
      have w2 : IntKind.wrap .i64 ((N : Int) - 1) = (N : Int) - 1 := IntWalk.i64_in _ ⟨by omega, by omega⟩
      simp only [Nat.mul_one, q2, w1, w2]
      refine ⟨⟨by omega, by omega, by rw [is_length]; omega⟩, q1, ⟨0, Nat.zero_le _, by omega, by simp, by simp⟩, fun j hj => ⟨fun hj0 => ?_, fun hj0 => ?_⟩⟩
      · have hjN : j < N := by omega
        have hi : ∃ i : Nat, (i : Int) = (N : Int) - 1 - (j : Int) ∧ i = N - 1 - j := ⟨N - 1 - j, by omega, rfl⟩
        obtain ⟨i, hi, hi2⟩ := hi
        rw [← hi, byI_eq _ (by omega : i < 8), hi2]
        have hb1 := beI_take (v := l[k]) hjN
        have hl1 : ((beI N l[k]).take j).length = j := by rw [List.length_take, beI_len, Nat.min_eq_left (by omega)]
        have hl2 := ht (Nat.le_of_lt hk')
        have hl3 := hkn k hk'
        have hl4 : (k + 1) * N = k * N + N := Nat.succ_mul k N
        have w3 : IntKind.wrap .i64 (8 * (i : Int)) = 8 * (i : Int) := IntWalk.i64_in _ ⟨by omega, by omega⟩
        have w4 : IntKind.wrap .i64 ((i : Int) - 1) = (i : Int) - 1 := IntWalk.i64_in _ ⟨by omega, by omega⟩
        rw [← hi2, w3, w4]
        refine ⟨by omega, ⟨by rw [u8s_len, Nat.mul_one], rfl, ?_, ?_⟩, j + 1, by omega, by omega, by omega, ?_, ?_⟩
        · simp only [List.length_append, hl1, hl2, maxLen]; omega
        · simp only [List.length_append, hl1, hl2]; omega
        · rw [hb1]; simp only [List.length_append, List.length_cons, List.length_nil]; omega
        · rw [hb1, hi2]; simp [u8s]
      · have : j = N := by omega
        subst this
        refine ⟨k + 1, by omega, by omega, rfl, ?_, ?_⟩
        · rw [putL_take hk', List.take_of_length_le (l := beI j l[k]) (by rw [beI_len]; omega), List.append_assoc]
        · rw [putL_take hk', List.take_of_length_le (l := beI j l[k]) (by rw [beI_len]; omega), List.append_assoc]
    · have : k = l.length := by omega
      subst this
      rw [List.take_length]
      exact ⟨⟨rfl, rfl⟩, trivial⟩

def script_writer_pixel_ann (b : List Int) (p : Px) : Ann := Ann.leaf
theorem script_writer_pixel_vc (b : List Int) (p : Px) : vcg Try.prog gamEb ⟨25, fun _ => false, List.range 1, false⟩ (bodyOf Try.f64) (script_writer_pixel_ann b p) kn0 (startG [AV.one (Cl.ptr 0 0), AV.agg [Cl.d (DV.int .u16 p.a), Cl.d (DV.int .u16 p.b), Cl.d (DV.int .u16 p.c), Cl.d (DV.int .u16 p.al), Cl.d (DV.int .u16 p.f)]] [Bx.cells [Cl.ref 1 b.length], Bx.row 5 1 (u8s b)]) (postG Try.prog ⟨25, fun _ => false, List.range 1, false⟩ Try.f64.results.toList ⟨AV.tup [], [Bx.cells [Cl.ref 1 ((b ++ pxB p).length)], Bx.row 5 1 (u8s (b ++ pxB p))], false⟩) =
  (True ∧ True ∧ True ∧ (0 ≤ (0 : Int) ∧ (0 : Int) < ((3 : Nat) : Int)) ∧ True ∧ True ∧ True ∧ (0 ≤ (1 : Int) ∧ (1 : Int) < ((3 : Nat) : Int)) ∧ True ∧ True ∧ True ∧ (0 ≤ (2 : Int) ∧ (2 : Int) < ((3 : Nat) : Int)) ∧ True ∧ True ∧ True ∧ True ∧ True ∧ True ∧ True ∧ True ∧ True ∧ (AnsG Try.prog 29 1 [AV.one (Cl.ptr 0 0), AV.one (Cl.d (DV.int .i64 2)), AV.one (Cl.d (DV.sl 5 ([DV.int .i64 (IntKind.wrap .i64 p.a), DV.int .i64 (IntKind.wrap .i64 p.b), DV.int .i64 (IntKind.wrap .i64 p.c), DV.int .i64 (IntKind.wrap .i64 p.al), DV.int .i64 (IntKind.wrap .i64 p.f)])))] [Bx.cells [Cl.ref 1 b.length], Bx.row 5 1 (u8s b)] ⟨AV.tup [], [Bx.cells [Cl.ref 1 (((ints (u8s b)) ++ putL 2 (ints ([DV.int .i64 (IntKind.wrap .i64 p.a), DV.int .i64 (IntKind.wrap .i64 p.b), DV.int .i64 (IntKind.wrap .i64 p.c), DV.int .i64 (IntKind.wrap .i64 p.al), DV.int .i64 (IntKind.wrap .i64 p.f)]))).length)], Bx.row 5 1 (u8s ((ints (u8s b)) ++ putL 2 (ints ([DV.int .i64 (IntKind.wrap .i64 p.a), DV.int .i64 (IntKind.wrap .i64 p.b), DV.int .i64 (IntKind.wrap .i64 p.c), DV.int .i64 (IntKind.wrap .i64 p.al), DV.int .i64 (IntKind.wrap .i64 p.f)]))))], false⟩) ∧ ((True ∧ True) ∧ (((((ints (u8s b)) ++ putL 2 (ints ([DV.int .i64 (IntKind.wrap .i64 p.a), DV.int .i64 (IntKind.wrap .i64 p.b), DV.int .i64 (IntKind.wrap .i64 p.c), DV.int .i64 (IntKind.wrap .i64 p.al), DV.int .i64 (IntKind.wrap .i64 p.f)]))).length = (b ++ pxB p).length) ∧ True) ∧ (u8s ((ints (u8s b)) ++ putL 2 (ints ([DV.int .i64 (IntKind.wrap .i64 p.a), DV.int .i64 (IntKind.wrap .i64 p.b), DV.int .i64 (IntKind.wrap .i64 p.c), DV.int .i64 (IntKind.wrap .i64 p.al), DV.int .i64 (IntKind.wrap .i64 p.f)]))) = u8s (b ++ pxB p)) ∧ True)) ∧ freshOK ⟨AV.tup [], [Bx.cells [Cl.ref 1 ((b ++ pxB p).length)], Bx.row 5 1 (u8s (b ++ pxB p))], false⟩) := by kernel_rfl
theorem script_writer_pixel_ans (b : List Int) (p : Px) (hb : b.length ≤ 900000000) : AnsG Try.prog 64 1 [AV.one (Cl.ptr 0 0), AV.agg [Cl.d (DV.int .u16 p.a), Cl.d (DV.int .u16 p.b), Cl.d (DV.int .u16 p.c), Cl.d (DV.int .u16 p.al), Cl.d (DV.int .u16 p.f)]] [Bx.cells [Cl.ref 1 b.length], Bx.row 5 1 (u8s b)] ⟨AV.tup [], [Bx.cells [Cl.ref 1 ((b ++ pxB p).length)], Bx.row 5 1 (u8s (b ++ pxB p))], false⟩ :=
  ansG_of_vcg (Γ := gamEb) (script_writer_pixel_ann b p) mixed_ Try.func64 rfl (Nat.le_of_ble_eq_true rfl) rfl fun hwf hbx => by
    refine Eq.mpr (script_writer_pixel_vc b p) ?_
    simp only [true_and, and_true, RV.d.injEq, RV.agg.injEq, RV.tup.injEq, DV.bool.injEq, DV.int.injEq, DV.sl.injEq, List.cons.injEq, forall_const, Bool.not_false, Bool.not_true, Bool.not_eq_true', Bool.not_eq_false', decide_eq_true_eq, decide_eq_false_iff_not, Int.toNat_natCast, imQ, imQr, imC, oqQ, oqQr, oqC, oqD, pxQ, pxQr, pxC, pxD]
    simp only [AV.wfL, AV.wf, Cl.wfs, DV.wf] at hwf
    have w0 : ∀ n : Int, 0 ≤ n ∧ n ≤ 65535 → IntKind.wrap .i64 n = n := fun n h => IntWalk.i64_in _ ⟨by omega, by omega⟩
    obtain ⟨_, ⟨h1, h2, h3, h4, h5, _⟩, _⟩ := hwf
    simp only [ints_u8s, ints_cons, ints_nil, w0 _ h1, w0 _ h2, w0 _ h3, w0 _ h4, w0 _ h5]
    refine ⟨by omega, by omega, by omega, ?_⟩
    have h := script_writer_put_ans b 2 [p.a, p.b, p.c, p.al, p.f] ⟨by omega, by omega⟩ (by simp; omega)
    exact ⟨h, ⟨rfl, rfl⟩, trivial⟩

def script_flags_ann (o : Oq) : Ann := Ann.leaf
theorem script_flags_vc (o : Oq) : vcg Try.prog gamEb 13 (bodyOf Try.f66) (script_flags_ann o) kn0 (start [RV.agg [DV.int .i64 o.kind, DV.int .i64 o.image, DV.int .i64 o.x, DV.int .i64 o.y, DV.int .i64 o.mask, DV.int .i64 o.mx, DV.int .i64 o.my, DV.int .u16 o.opac, DV.int .i64 o.oper, DV.int .i64 o.mode, DV.bool o.iso, DV.bool o.kno]]) (post Try.prog Try.f66.results.toList (· = RV.d (DV.int .i64 (flagO ⟨o.kind, o.image, o.x, o.y, o.mask, o.mx, o.my, o.opac, o.oper, o.mode, o.iso, o.kno⟩)))) =
  (let zz0 := (IntKind.wrap .i64 ((0 : Int) + (1 : Int))); let zz1 := (DV.int .i64 (flagO ⟨o.kind, o.image, o.x, o.y, o.mask, o.mx, o.my, o.opac, o.oper, o.mode, o.iso, o.kno⟩)); True ∧ True ∧ True ∧ True ∧ True ∧ ((o.iso = true → True ∧ True ∧ True ∧ True ∧ True ∧ ((o.kno = true → True ∧ True ∧ True ∧ True ∧ True ∧ RV.d (DV.int .i64 (IntKind.wrap .i64 (zz0 + (2 : Int)))) = RV.d zz1) ∧ (o.kno = false → True ∧ True ∧ RV.d (DV.int .i64 zz0) = RV.d zz1))) ∧ (o.iso = false → True ∧ True ∧ ((o.kno = true → True ∧ True ∧ True ∧ True ∧ True ∧ RV.d (DV.int .i64 (IntKind.wrap .i64 ((0 : Int) + (2 : Int)))) = RV.d zz1) ∧ (o.kno = false → True ∧ True ∧ RV.d (DV.int .i64 0) = RV.d zz1))))) := by kernel_rfl
theorem script_flags_ans (o : Oq) : Ans Try.prog 66 [RV.agg [DV.int .i64 o.kind, DV.int .i64 o.image, DV.int .i64 o.x, DV.int .i64 o.y, DV.int .i64 o.mask, DV.int .i64 o.mx, DV.int .i64 o.my, DV.int .u16 o.opac, DV.int .i64 o.oper, DV.int .i64 o.mode, DV.bool o.iso, DV.bool o.kno]] (RV.d (DV.int .i64 (flagO ⟨o.kind, o.image, o.x, o.y, o.mask, o.mx, o.my, o.opac, o.oper, o.mode, o.iso, o.kno⟩))) :=
  ans_of_vcg (Γ := gamEb) (script_flags_ann o) mixed_ Try.func66 rfl (Nat.le_of_ble_eq_true rfl) fun hwf => by
    refine Eq.mpr (script_flags_vc o) ?_
    simp only [true_and, and_true, RV.d.injEq, RV.agg.injEq, RV.tup.injEq, DV.bool.injEq, DV.int.injEq, DV.sl.injEq, List.cons.injEq, forall_const, Bool.not_false, Bool.not_true, Bool.not_eq_true', Bool.not_eq_false', decide_eq_true_eq, decide_eq_false_iff_not, Int.toNat_natCast, imQ, imQr, imC, oqQ, oqQr, oqC, oqD, pxQ, pxQr, pxC, pxD]
    have := o.iso; unfold flagO; cases o.iso <;> cases o.kno <;> decide

def script_writer_image_ann (b : List Int) (m : Im) : Ann := (Ann.seq Ann.leaf (Ann.seq Ann.leaf (Ann.seq Ann.leaf (Ann.seq Ann.leaf (Ann.seq Ann.leaf (Ann.loop ⟨Nat, fun k => k ≤ m.pixels.length, fun k => ⟨[(0, AV.one (Cl.ptr 0 0)), (33, AV.one (Cl.ref 33 ((Im.pixels m).length))), (34, AV.one (Cl.d (DV.int .i64 (((Im.pixels m).length : Nat) : Int)))), (35, AV.one (Cl.d (DV.int .i64 ((k : Nat) : Int))))], [(0, Bx.cells [Cl.ref 9001 ((b ++ (putL 1 [0] ++ putL 4 [m.w, m.h] ++ (m.pixels.take k).flatMap pxB)).length)]), (33, Bx.row 37 5 (pxs (Im.pixels m))), (9001, Bx.row 5 1 (u8s (b ++ (putL 1 [0] ++ putL 4 [m.w, m.h] ++ (m.pixels.take k).flatMap pxB))))]⟩, fun k => m.pixels.length - k⟩ fun k => Ann.leaf))))))
theorem script_writer_image_vc (b : List Int) (m : Im) : vcg Try.prog gamEb ⟨43, fun _ => false, List.range 1, false⟩ (bodyOf Try.f30) (script_writer_image_ann b m) kn0 (startG [AV.one (Cl.ptr 0 0), (imD (m))] [Bx.cells [Cl.ref 1 b.length], Bx.row 5 1 (u8s b)]) (postG Try.prog ⟨43, fun _ => false, List.range 1, false⟩ Try.f30.results.toList ⟨AV.tup [], [Bx.cells [Cl.ref 1 ((b ++ imB_ m).length)], Bx.row 5 1 (u8s (b ++ imB_ m))], false⟩) =
  (let zz0 := (Cl.d (DV.int .i64 1)); let zz1 := [Bx.cells [Cl.ref 1 b.length], Bx.row 5 1 (u8s b)]; let zz2 := [Bx.cells [Cl.ref 1 (((ints (u8s b)) ++ putL 1 (ints ([DV.int .i64 1]))).length)], Bx.row 5 1 (u8s ((ints (u8s b)) ++ putL 1 (ints ([DV.int .i64 1]))))]; let zz3 := [AV.one (Cl.ptr 0 0), AV.one (Cl.d (DV.int .i64 4)), AV.one (Cl.d (DV.sl 2 ([DV.int .i64 m.w, DV.int .i64 m.h])))]; let zz4 := [Bx.cells [Cl.ref 1 (((ints (u8s ((ints (u8s b)) ++ putL 1 (ints ([DV.int .i64 1]))))) ++ putL 4 (ints ([DV.int .i64 m.w, DV.int .i64 m.h]))).length)], Bx.row 5 1 (u8s ((ints (u8s ((ints (u8s b)) ++ putL 1 (ints ([DV.int .i64 1]))))) ++ putL 4 (ints ([DV.int .i64 m.w, DV.int .i64 m.h]))))]; let zz5 := [Bx.cells [Cl.ref 1 (((ints (u8s b)) ++ putL 1 (ints ([DV.int .i64 0]))).length)], Bx.row 5 1 (u8s ((ints (u8s b)) ++ putL 1 (ints ([DV.int .i64 0]))))]; let zz6 := ((Im.pixels m).length = (Im.pixels m).length); let zz7 := (DV.int .i64 (((Im.pixels m).length : Nat) : Int) = DV.int .i64 (((Im.pixels m).length : Nat) : Int)); let zz8 := (pxs (Im.pixels m) = pxs (Im.pixels m)); True ∧ True ∧ True ∧ ((m.so = true → True ∧ True ∧ (AnsG Try.prog 29 1 [AV.one (Cl.ptr 0 0), AV.one zz0, AV.one (Cl.d (DV.sl 1 ([DV.int .i64 1])))] zz1 ⟨AV.tup [], zz2, false⟩) ∧ True ∧ True ∧ True ∧ True ∧ True ∧ True ∧ (AnsG Try.prog 29 1 zz3 zz2 ⟨AV.tup [], zz4, false⟩) ∧ True ∧ True ∧ True ∧ (AnsG Try.prog 64 1 [AV.one (Cl.ptr 0 0), AV.agg [Cl.d (DV.int .u16 m.c.a), Cl.d (DV.int .u16 m.c.b), Cl.d (DV.int .u16 m.c.c), Cl.d (DV.int .u16 m.c.al), Cl.d (DV.int .u16 m.c.f)]] zz4 ⟨AV.tup [], [Bx.cells [Cl.ref 1 (((ints (u8s ((ints (u8s ((ints (u8s b)) ++ putL 1 (ints ([DV.int .i64 1]))))) ++ putL 4 (ints ([DV.int .i64 m.w, DV.int .i64 m.h]))))) ++ pxB m.c).length)], Bx.row 5 1 (u8s ((ints (u8s ((ints (u8s ((ints (u8s b)) ++ putL 1 (ints ([DV.int .i64 1]))))) ++ putL 4 (ints ([DV.int .i64 m.w, DV.int .i64 m.h]))))) ++ pxB m.c))], false⟩) ∧ ((True ∧ True) ∧ (((((ints (u8s ((ints (u8s ((ints (u8s b)) ++ putL 1 (ints ([DV.int .i64 1]))))) ++ putL 4 (ints ([DV.int .i64 m.w, DV.int .i64 m.h]))))) ++ pxB m.c).length = (b ++ imB_ m).length) ∧ True) ∧ (u8s ((ints (u8s ((ints (u8s ((ints (u8s b)) ++ putL 1 (ints ([DV.int .i64 1]))))) ++ putL 4 (ints ([DV.int .i64 m.w, DV.int .i64 m.h]))))) ++ pxB m.c) = u8s (b ++ imB_ m)) ∧ True)) ∧ freshOK ⟨AV.tup [], [Bx.cells [Cl.ref 1 ((b ++ imB_ m).length)], Bx.row 5 1 (u8s (b ++ imB_ m))], false⟩) ∧ (m.so = false → True ∧ True ∧ (AnsG Try.prog 29 1 [AV.one (Cl.ptr 0 0), AV.one zz0, AV.one (Cl.d (DV.sl 1 ([DV.int .i64 0])))] zz1 ⟨AV.tup [], zz5, false⟩) ∧ True ∧ True ∧ True ∧ True ∧ True ∧ True ∧ (AnsG Try.prog 29 1 zz3 zz5 ⟨AV.tup [], [Bx.cells [Cl.ref 1 (((ints (u8s ((ints (u8s b)) ++ putL 1 (ints ([DV.int .i64 0]))))) ++ putL 4 (ints ([DV.int .i64 m.w, DV.int .i64 m.h]))).length)], Bx.row 5 1 (u8s ((ints (u8s ((ints (u8s b)) ++ putL 1 (ints ([DV.int .i64 0]))))) ++ putL 4 (ints ([DV.int .i64 m.w, DV.int .i64 m.h]))))], false⟩) ∧ True ∧ (AnsO Try.prog 65 [(imR (m))] 37 5 ((Im.pixels m).length) (pxs (Im.pixels m))) ∧ ((Im.pixels m).length ≤ maxLen) ∧ True ∧ ((∃ k : Nat, (k ≤ m.pixels.length) ∧ (((0 = 0) ∧ zz6 ∧ zz7 ∧ (DV.int .i64 0 = DV.int .i64 ((k : Nat) : Int)) ∧ True) ∧ (((((ints (u8s ((ints (u8s b)) ++ putL 1 (ints ([DV.int .i64 0]))))) ++ putL 4 (ints ([DV.int .i64 m.w, DV.int .i64 m.h]))).length = (b ++ (putL 1 [0] ++ putL 4 [m.w, m.h] ++ (m.pixels.take k).flatMap pxB)).length) ∧ True) ∧ zz8 ∧ (u8s ((ints (u8s ((ints (u8s b)) ++ putL 1 (ints ([DV.int .i64 0]))))) ++ putL 4 (ints ([DV.int .i64 m.w, DV.int .i64 m.h]))) = u8s (b ++ (putL 1 [0] ++ putL 4 [m.w, m.h] ++ (m.pixels.take k).flatMap pxB))) ∧ True))) ∧ ∀ k : Nat, (k ≤ m.pixels.length) → True ∧ (((decide (((k : Nat) : Int) < (((Im.pixels m).length : Nat) : Int))) = true → (0 ≤ ((k : Nat) : Int) ∧ ((k : Nat) : Int) < (((Im.pixels m).length : Nat) : Int)) ∧ ((pxQr (pxs (Im.pixels m)) (((k : Nat) : Int).toNat * 5))) ∧ True ∧ True ∧ True ∧ True ∧ (AnsG Try.prog 64 1 [AV.one (Cl.ptr 0 0), pxD (pxQ (pxs (Im.pixels m)) (((k : Nat) : Int).toNat * 5))] [Bx.cells [Cl.ref 1 ((b ++ (putL 1 [0] ++ putL 4 [m.w, m.h] ++ (m.pixels.take k).flatMap pxB)).length)], Bx.row 5 1 (u8s (b ++ (putL 1 [0] ++ putL 4 [m.w, m.h] ++ (m.pixels.take k).flatMap pxB)))] ⟨AV.tup [], [Bx.cells [Cl.ref 1 (((ints (u8s (b ++ (putL 1 [0] ++ putL 4 [m.w, m.h] ++ (m.pixels.take k).flatMap pxB)))) ++ pxB (pxQ (pxs (Im.pixels m)) (((k : Nat) : Int).toNat * 5))).length)], Bx.row 5 1 (u8s ((ints (u8s (b ++ (putL 1 [0] ++ putL 4 [m.w, m.h] ++ (m.pixels.take k).flatMap pxB)))) ++ pxB (pxQ (pxs (Im.pixels m)) (((k : Nat) : Int).toNat * 5))))], false⟩) ∧ True ∧ True ∧ ∃ k' : Nat, (k' ≤ m.pixels.length) ∧ (m.pixels.length - k' < m.pixels.length - k) ∧ (((0 = 0) ∧ zz6 ∧ zz7 ∧ (DV.int .i64 (IntKind.wrap .i64 (((k : Nat) : Int) + (1 : Int))) = DV.int .i64 ((k' : Nat) : Int)) ∧ True) ∧ (((((ints (u8s (b ++ (putL 1 [0] ++ putL 4 [m.w, m.h] ++ (m.pixels.take k).flatMap pxB)))) ++ pxB (pxQ (pxs (Im.pixels m)) (((k : Nat) : Int).toNat * 5))).length = (b ++ (putL 1 [0] ++ putL 4 [m.w, m.h] ++ (m.pixels.take k').flatMap pxB)).length) ∧ True) ∧ zz8 ∧ (u8s ((ints (u8s (b ++ (putL 1 [0] ++ putL 4 [m.w, m.h] ++ (m.pixels.take k).flatMap pxB)))) ++ pxB (pxQ (pxs (Im.pixels m)) (((k : Nat) : Int).toNat * 5))) = u8s (b ++ (putL 1 [0] ++ putL 4 [m.w, m.h] ++ (m.pixels.take k').flatMap pxB))) ∧ True))) ∧ ((decide (((k : Nat) : Int) < (((Im.pixels m).length : Nat) : Int))) = false → ((True ∧ True) ∧ ((((b ++ (putL 1 [0] ++ putL 4 [m.w, m.h] ++ (m.pixels.take k).flatMap pxB)).length = (b ++ imB_ m).length) ∧ True) ∧ (u8s (b ++ (putL 1 [0] ++ putL 4 [m.w, m.h] ++ (m.pixels.take k).flatMap pxB)) = u8s (b ++ imB_ m)) ∧ True)) ∧ freshOK ⟨AV.tup [], [Bx.cells [Cl.ref 1 ((b ++ imB_ m).length)], Bx.row 5 1 (u8s (b ++ imB_ m))], false⟩)))))) := by kernel_rfl
theorem script_writer_image_ans (b : List Int) (m : Im) (hf : m.formed = true) (hu : m.isU) (hb : b.length ≤ 500000000) : AnsG Try.prog 30 1 [AV.one (Cl.ptr 0 0), (imD (m))] [Bx.cells [Cl.ref 1 b.length], Bx.row 5 1 (u8s b)] ⟨AV.tup [], [Bx.cells [Cl.ref 1 ((b ++ imB_ m).length)], Bx.row 5 1 (u8s (b ++ imB_ m))], false⟩ :=
  ansG_of_vcg (Γ := gamEb) (script_writer_image_ann b m) mixed_ Try.func30 rfl (Nat.le_of_ble_eq_true rfl) rfl fun hwf hbx => by
    refine Eq.mpr (script_writer_image_vc b m) ?_
    simp only [true_and, and_true, RV.d.injEq, RV.agg.injEq, RV.tup.injEq, DV.bool.injEq, DV.int.injEq, DV.sl.injEq, List.cons.injEq, forall_const, Bool.not_false, Bool.not_true, Bool.not_eq_true', Bool.not_eq_false', decide_eq_true_eq, decide_eq_false_iff_not, Int.toNat_natCast, imQ, imQr, imC, oqQ, oqQr, oqC, oqD, pxQ, pxQr, pxC, pxD]
    simp only [ints_u8s, ints_cons, ints_nil]
    have hpx := Im.pixels_len hf
    have hpl : m.pixels.length ≤ 16777216 := by have := (sizeIm_le' hf); omega
    have po := image_Pixels_im m hu
    have e1 : m.so = true → b ++ putL 1 [1] ++ putL 4 [m.w, m.h] ++ pxB m.c = b ++ imB_ m := fun h => by simp [imB_, h]
    refine ⟨fun h => ⟨script_writer_put_ans (b) 1 [1] ⟨by omega, by omega⟩ (by simp only [List.length_append, putL_len, pxB_len, List.length_cons, List.length_nil]; omega), script_writer_put_ans (b ++ putL 1 [1]) 4 [m.w, m.h] ⟨by omega, by omega⟩ (by simp only [List.length_append, putL_len, pxB_len, List.length_cons, List.length_nil]; omega), script_writer_pixel_ans (b ++ putL 1 [1] ++ putL 4 [m.w, m.h]) m.c (by simp only [List.length_append, putL_len, pxB_len, List.length_cons, List.length_nil]; omega), ⟨⟨by rw [e1 h], by rw [e1 h]⟩, trivial⟩⟩, fun h => ⟨script_writer_put_ans (b) 1 [0] ⟨by omega, by omega⟩ (by simp only [List.length_append, putL_len, pxB_len, List.length_cons, List.length_nil]; omega), script_writer_put_ans (b ++ putL 1 [0]) 4 [m.w, m.h] ⟨by omega, by omega⟩ (by simp only [List.length_append, putL_len, pxB_len, List.length_cons, List.length_nil]; omega), po, by unfold maxLen; omega, ⟨0, Nat.zero_le _, rfl, by simp, by simp⟩, fun k hk => ⟨fun hlt => ?_, fun hge => ?_⟩⟩⟩
    · have hk' : k < m.pixels.length := by omega
      have w1 : IntKind.wrap .i64 ((k : Int) + 1) = ((k + 1 : Nat) : Int) := by rw [IntWalk.i64_in _ ⟨by omega, by omega⟩]; omega
      obtain ⟨x0, x1, x2, x3, x4⟩ := pxs_at hk'
      have n0 : nAt (pxs m.pixels) (k * 5) = m.pixels[k].a := by simp [nAt, x0]
      have n1 : nAt (pxs m.pixels) (k * 5 + 1) = m.pixels[k].b := by simp [nAt, x1]
      have n2 : nAt (pxs m.pixels) (k * 5 + 1 + 1) = m.pixels[k].c := by simp [nAt, x2]
      have n3 : nAt (pxs m.pixels) (k * 5 + 1 + 1 + 1) = m.pixels[k].al := by simp [nAt, x3]
      have n4 : nAt (pxs m.pixels) (k * 5 + 1 + 1 + 1 + 1) = m.pixels[k].f := by simp [nAt, x4]
      simp only [n0, n1, n2, n3, n4, w1]
      have hL : (b ++ (putL 1 [0] ++ putL 4 [m.w, m.h] ++ (m.pixels.take k).flatMap pxB)).length ≤ 900000000 := by
        simp only [List.length_append, putL_len, pxBs_len, List.length_take, List.length_cons, List.length_nil]
        omega
      have hT : b ++ (putL 1 [0] ++ putL 4 [m.w, m.h] ++ (m.pixels.take k).flatMap pxB) ++ pxB m.pixels[k] = b ++ (putL 1 [0] ++ putL 4 [m.w, m.h] ++ (m.pixels.take (k + 1)).flatMap pxB) := by
        rw [List.take_succ_eq_append_getElem hk', List.flatMap_append]
        simp only [List.append_assoc, List.flatMap_cons, List.flatMap_nil, List.append_nil]
      exact ⟨⟨by omega, by omega⟩, ⟨x0, x1, x2, x3, x4⟩, script_writer_pixel_ans _ m.pixels[k] hL, k + 1, by omega, by omega, rfl, by rw [← hT], by rw [← hT]⟩
    · have : k = m.pixels.length := by omega
      subst this
      have e0 : b ++ (putL 1 [0] ++ putL 4 [m.w, m.h] ++ m.pixels.flatMap pxB) = b ++ imB_ m := by simp [imB_, h]
      rw [List.take_length, e0]
      exact ⟨⟨rfl, rfl⟩, trivial⟩

def script_writer_op_ann (b : List Int) (o : Oq) : Ann := Ann.leaf
theorem script_writer_op_vc (b : List Int) (o : Oq) : vcg Try.prog gamEb ⟨45, fun _ => false, List.range 1, false⟩ (bodyOf Try.f31) (script_writer_op_ann b o) kn0 (startG [AV.one (Cl.ptr 0 0), AV.agg [Cl.d (DV.int .i64 o.kind), Cl.d (DV.int .i64 o.image), Cl.d (DV.int .i64 o.x), Cl.d (DV.int .i64 o.y), Cl.d (DV.int .i64 o.mask), Cl.d (DV.int .i64 o.mx), Cl.d (DV.int .i64 o.my), Cl.d (DV.int .u16 o.opac), Cl.d (DV.int .i64 o.oper), Cl.d (DV.int .i64 o.mode), Cl.d (DV.bool o.iso), Cl.d (DV.bool o.kno)]] [Bx.cells [Cl.ref 1 b.length], Bx.row 5 1 (u8s b)]) (postG Try.prog ⟨45, fun _ => false, List.range 1, false⟩ Try.f31.results.toList ⟨AV.tup [], [Bx.cells [Cl.ref 1 ((b ++ opB ⟨o.kind, o.image, o.x, o.y, o.mask, o.mx, o.my, o.opac, o.oper, o.mode, o.iso, o.kno⟩).length)], Bx.row 5 1 (u8s (b ++ opB ⟨o.kind, o.image, o.x, o.y, o.mask, o.mx, o.my, o.opac, o.oper, o.mode, o.iso, o.kno⟩))], false⟩) =
  (let zz0 := (Cl.d (DV.int .i64 1)); let zz1 := [Bx.cells [Cl.ref 1 (((ints (u8s b)) ++ putL 1 (ints ([DV.int .i64 o.kind, DV.int .i64 o.image]))).length)], Bx.row 5 1 (u8s ((ints (u8s b)) ++ putL 1 (ints ([DV.int .i64 o.kind, DV.int .i64 o.image]))))]; let zz2 := (Cl.d (DV.int .i64 4)); let zz3 := [Bx.cells [Cl.ref 1 (((ints (u8s ((ints (u8s b)) ++ putL 1 (ints ([DV.int .i64 o.kind, DV.int .i64 o.image]))))) ++ putL 4 (ints ([DV.int .i64 o.x, DV.int .i64 o.y]))).length)], Bx.row 5 1 (u8s ((ints (u8s ((ints (u8s b)) ++ putL 1 (ints ([DV.int .i64 o.kind, DV.int .i64 o.image]))))) ++ putL 4 (ints ([DV.int .i64 o.x, DV.int .i64 o.y]))))]; let zz4 := [Bx.cells [Cl.ref 1 (((ints (u8s ((ints (u8s ((ints (u8s b)) ++ putL 1 (ints ([DV.int .i64 o.kind, DV.int .i64 o.image]))))) ++ putL 4 (ints ([DV.int .i64 o.x, DV.int .i64 o.y]))))) ++ putL 1 (ints ([DV.int .i64 o.mask]))).length)], Bx.row 5 1 (u8s ((ints (u8s ((ints (u8s ((ints (u8s b)) ++ putL 1 (ints ([DV.int .i64 o.kind, DV.int .i64 o.image]))))) ++ putL 4 (ints ([DV.int .i64 o.x, DV.int .i64 o.y]))))) ++ putL 1 (ints ([DV.int .i64 o.mask]))))]; let zz5 := [Bx.cells [Cl.ref 1 (((ints (u8s ((ints (u8s ((ints (u8s ((ints (u8s b)) ++ putL 1 (ints ([DV.int .i64 o.kind, DV.int .i64 o.image]))))) ++ putL 4 (ints ([DV.int .i64 o.x, DV.int .i64 o.y]))))) ++ putL 1 (ints ([DV.int .i64 o.mask]))))) ++ putL 4 (ints ([DV.int .i64 o.mx, DV.int .i64 o.my]))).length)], Bx.row 5 1 (u8s ((ints (u8s ((ints (u8s ((ints (u8s ((ints (u8s b)) ++ putL 1 (ints ([DV.int .i64 o.kind, DV.int .i64 o.image]))))) ++ putL 4 (ints ([DV.int .i64 o.x, DV.int .i64 o.y]))))) ++ putL 1 (ints ([DV.int .i64 o.mask]))))) ++ putL 4 (ints ([DV.int .i64 o.mx, DV.int .i64 o.my]))))]; let zz6 := [Bx.cells [Cl.ref 1 (((ints (u8s ((ints (u8s ((ints (u8s ((ints (u8s ((ints (u8s b)) ++ putL 1 (ints ([DV.int .i64 o.kind, DV.int .i64 o.image]))))) ++ putL 4 (ints ([DV.int .i64 o.x, DV.int .i64 o.y]))))) ++ putL 1 (ints ([DV.int .i64 o.mask]))))) ++ putL 4 (ints ([DV.int .i64 o.mx, DV.int .i64 o.my]))))) ++ putL 2 (ints ([DV.int .i64 (IntKind.wrap .i64 o.opac)]))).length)], Bx.row 5 1 (u8s ((ints (u8s ((ints (u8s ((ints (u8s ((ints (u8s ((ints (u8s b)) ++ putL 1 (ints ([DV.int .i64 o.kind, DV.int .i64 o.image]))))) ++ putL 4 (ints ([DV.int .i64 o.x, DV.int .i64 o.y]))))) ++ putL 1 (ints ([DV.int .i64 o.mask]))))) ++ putL 4 (ints ([DV.int .i64 o.mx, DV.int .i64 o.my]))))) ++ putL 2 (ints ([DV.int .i64 (IntKind.wrap .i64 o.opac)]))))]; True ∧ True ∧ True ∧ True ∧ True ∧ True ∧ True ∧ (AnsG Try.prog 29 1 [AV.one (Cl.ptr 0 0), AV.one zz0, AV.one (Cl.d (DV.sl 2 ([DV.int .i64 o.kind, DV.int .i64 o.image])))] [Bx.cells [Cl.ref 1 b.length], Bx.row 5 1 (u8s b)] ⟨AV.tup [], zz1, false⟩) ∧ True ∧ True ∧ True ∧ True ∧ True ∧ True ∧ (AnsG Try.prog 29 1 [AV.one (Cl.ptr 0 0), AV.one zz2, AV.one (Cl.d (DV.sl 2 ([DV.int .i64 o.x, DV.int .i64 o.y])))] zz1 ⟨AV.tup [], zz3, false⟩) ∧ True ∧ True ∧ True ∧ True ∧ (AnsG Try.prog 29 1 [AV.one (Cl.ptr 0 0), AV.one zz0, AV.one (Cl.d (DV.sl 1 ([DV.int .i64 o.mask])))] zz3 ⟨AV.tup [], zz4, false⟩) ∧ True ∧ True ∧ True ∧ True ∧ True ∧ True ∧ (AnsG Try.prog 29 1 [AV.one (Cl.ptr 0 0), AV.one zz2, AV.one (Cl.d (DV.sl 2 ([DV.int .i64 o.mx, DV.int .i64 o.my])))] zz4 ⟨AV.tup [], zz5, false⟩) ∧ True ∧ True ∧ True ∧ True ∧ True ∧ (AnsG Try.prog 29 1 [AV.one (Cl.ptr 0 0), AV.one (Cl.d (DV.int .i64 2)), AV.one (Cl.d (DV.sl 1 ([DV.int .i64 (IntKind.wrap .i64 o.opac)])))] zz5 ⟨AV.tup [], zz6, false⟩) ∧ True ∧ True ∧ True ∧ True ∧ True ∧ True ∧ (Ans Try.prog 66 [RV.agg (Oq.cells (o))] (RV.d (DV.int .i64 (flagO ⟨o.kind, o.image, o.x, o.y, o.mask, o.mx, o.my, o.opac, o.oper, o.mode, o.iso, o.kno⟩)))) ∧ True ∧ (AnsG Try.prog 29 1 [AV.one (Cl.ptr 0 0), AV.one zz0, AV.one (Cl.d (DV.sl 3 ([DV.int .i64 o.oper, DV.int .i64 o.mode, DV.int .i64 (flagO ⟨o.kind, o.image, o.x, o.y, o.mask, o.mx, o.my, o.opac, o.oper, o.mode, o.iso, o.kno⟩)])))] zz6 ⟨AV.tup [], [Bx.cells [Cl.ref 1 (((ints (u8s ((ints (u8s ((ints (u8s ((ints (u8s ((ints (u8s ((ints (u8s b)) ++ putL 1 (ints ([DV.int .i64 o.kind, DV.int .i64 o.image]))))) ++ putL 4 (ints ([DV.int .i64 o.x, DV.int .i64 o.y]))))) ++ putL 1 (ints ([DV.int .i64 o.mask]))))) ++ putL 4 (ints ([DV.int .i64 o.mx, DV.int .i64 o.my]))))) ++ putL 2 (ints ([DV.int .i64 (IntKind.wrap .i64 o.opac)]))))) ++ putL 1 (ints ([DV.int .i64 o.oper, DV.int .i64 o.mode, DV.int .i64 (flagO ⟨o.kind, o.image, o.x, o.y, o.mask, o.mx, o.my, o.opac, o.oper, o.mode, o.iso, o.kno⟩)]))).length)], Bx.row 5 1 (u8s ((ints (u8s ((ints (u8s ((ints (u8s ((ints (u8s ((ints (u8s ((ints (u8s b)) ++ putL 1 (ints ([DV.int .i64 o.kind, DV.int .i64 o.image]))))) ++ putL 4 (ints ([DV.int .i64 o.x, DV.int .i64 o.y]))))) ++ putL 1 (ints ([DV.int .i64 o.mask]))))) ++ putL 4 (ints ([DV.int .i64 o.mx, DV.int .i64 o.my]))))) ++ putL 2 (ints ([DV.int .i64 (IntKind.wrap .i64 o.opac)]))))) ++ putL 1 (ints ([DV.int .i64 o.oper, DV.int .i64 o.mode, DV.int .i64 (flagO ⟨o.kind, o.image, o.x, o.y, o.mask, o.mx, o.my, o.opac, o.oper, o.mode, o.iso, o.kno⟩)]))))], false⟩) ∧ (true = true) ∧ ((True ∧ True) ∧ (((((ints (u8s ((ints (u8s ((ints (u8s ((ints (u8s ((ints (u8s ((ints (u8s b)) ++ putL 1 (ints ([DV.int .i64 o.kind, DV.int .i64 o.image]))))) ++ putL 4 (ints ([DV.int .i64 o.x, DV.int .i64 o.y]))))) ++ putL 1 (ints ([DV.int .i64 o.mask]))))) ++ putL 4 (ints ([DV.int .i64 o.mx, DV.int .i64 o.my]))))) ++ putL 2 (ints ([DV.int .i64 (IntKind.wrap .i64 o.opac)]))))) ++ putL 1 (ints ([DV.int .i64 o.oper, DV.int .i64 o.mode, DV.int .i64 (flagO ⟨o.kind, o.image, o.x, o.y, o.mask, o.mx, o.my, o.opac, o.oper, o.mode, o.iso, o.kno⟩)]))).length = (b ++ opB ⟨o.kind, o.image, o.x, o.y, o.mask, o.mx, o.my, o.opac, o.oper, o.mode, o.iso, o.kno⟩).length) ∧ True) ∧ (u8s ((ints (u8s ((ints (u8s ((ints (u8s ((ints (u8s ((ints (u8s ((ints (u8s b)) ++ putL 1 (ints ([DV.int .i64 o.kind, DV.int .i64 o.image]))))) ++ putL 4 (ints ([DV.int .i64 o.x, DV.int .i64 o.y]))))) ++ putL 1 (ints ([DV.int .i64 o.mask]))))) ++ putL 4 (ints ([DV.int .i64 o.mx, DV.int .i64 o.my]))))) ++ putL 2 (ints ([DV.int .i64 (IntKind.wrap .i64 o.opac)]))))) ++ putL 1 (ints ([DV.int .i64 o.oper, DV.int .i64 o.mode, DV.int .i64 (flagO ⟨o.kind, o.image, o.x, o.y, o.mask, o.mx, o.my, o.opac, o.oper, o.mode, o.iso, o.kno⟩)]))) = u8s (b ++ opB ⟨o.kind, o.image, o.x, o.y, o.mask, o.mx, o.my, o.opac, o.oper, o.mode, o.iso, o.kno⟩)) ∧ True)) ∧ freshOK ⟨AV.tup [], [Bx.cells [Cl.ref 1 ((b ++ opB ⟨o.kind, o.image, o.x, o.y, o.mask, o.mx, o.my, o.opac, o.oper, o.mode, o.iso, o.kno⟩).length)], Bx.row 5 1 (u8s (b ++ opB ⟨o.kind, o.image, o.x, o.y, o.mask, o.mx, o.my, o.opac, o.oper, o.mode, o.iso, o.kno⟩))], false⟩) := by kernel_rfl
theorem script_writer_op_ans (b : List Int) (o : Oq) (hb : b.length ≤ 900000000) : AnsG Try.prog 31 1 [AV.one (Cl.ptr 0 0), AV.agg [Cl.d (DV.int .i64 o.kind), Cl.d (DV.int .i64 o.image), Cl.d (DV.int .i64 o.x), Cl.d (DV.int .i64 o.y), Cl.d (DV.int .i64 o.mask), Cl.d (DV.int .i64 o.mx), Cl.d (DV.int .i64 o.my), Cl.d (DV.int .u16 o.opac), Cl.d (DV.int .i64 o.oper), Cl.d (DV.int .i64 o.mode), Cl.d (DV.bool o.iso), Cl.d (DV.bool o.kno)]] [Bx.cells [Cl.ref 1 b.length], Bx.row 5 1 (u8s b)] ⟨AV.tup [], [Bx.cells [Cl.ref 1 ((b ++ opB ⟨o.kind, o.image, o.x, o.y, o.mask, o.mx, o.my, o.opac, o.oper, o.mode, o.iso, o.kno⟩).length)], Bx.row 5 1 (u8s (b ++ opB ⟨o.kind, o.image, o.x, o.y, o.mask, o.mx, o.my, o.opac, o.oper, o.mode, o.iso, o.kno⟩))], false⟩ :=
  ansG_of_vcg (Γ := gamEb) (script_writer_op_ann b o) mixed_ Try.func31 rfl (Nat.le_of_ble_eq_true rfl) rfl fun hwf hbx => by
    refine Eq.mpr (script_writer_op_vc b o) ?_
    simp only [true_and, and_true, RV.d.injEq, RV.agg.injEq, RV.tup.injEq, DV.bool.injEq, DV.int.injEq, DV.sl.injEq, List.cons.injEq, forall_const, Bool.not_false, Bool.not_true, Bool.not_eq_true', Bool.not_eq_false', decide_eq_true_eq, decide_eq_false_iff_not, Int.toNat_natCast, imQ, imQr, imC, oqQ, oqQr, oqC, oqD, pxQ, pxQr, pxC, pxD]
    simp only [AV.wfL, AV.wf, Cl.wfs, DV.wf] at hwf
    obtain ⟨_, ⟨_, _, _, _, _, _, _, h8, _⟩, _⟩ := hwf
    have h8 : 0 ≤ o.opac ∧ o.opac ≤ 65535 := h8
    have w0 : IntKind.wrap .i64 o.opac = o.opac := IntWalk.i64_in _ ⟨by omega, by omega⟩
    have fl := script_flags_ans o
    simp only [ints_u8s, ints_cons, ints_nil, w0]
    have e : b ++ putL 1 [o.kind, o.image] ++ putL 4 [o.x, o.y] ++ putL 1 [o.mask] ++ putL 4 [o.mx, o.my] ++ putL 2 [o.opac] ++ putL 1 [o.oper, o.mode, flagO o] = b ++ opB o := by simp [opB]
    refine ⟨script_writer_put_ans (b) 1 [o.kind, o.image] ⟨by omega, by omega⟩ (by simp only [List.length_append, putL_len, pxB_len, List.length_cons, List.length_nil]; omega), script_writer_put_ans (b ++ putL 1 [o.kind, o.image]) 4 [o.x, o.y] ⟨by omega, by omega⟩ (by simp only [List.length_append, putL_len, pxB_len, List.length_cons, List.length_nil]; omega), script_writer_put_ans (b ++ putL 1 [o.kind, o.image] ++ putL 4 [o.x, o.y]) 1 [o.mask] ⟨by omega, by omega⟩ (by simp only [List.length_append, putL_len, pxB_len, List.length_cons, List.length_nil]; omega), script_writer_put_ans (b ++ putL 1 [o.kind, o.image] ++ putL 4 [o.x, o.y] ++ putL 1 [o.mask]) 4 [o.mx, o.my] ⟨by omega, by omega⟩ (by simp only [List.length_append, putL_len, pxB_len, List.length_cons, List.length_nil]; omega), script_writer_put_ans (b ++ putL 1 [o.kind, o.image] ++ putL 4 [o.x, o.y] ++ putL 1 [o.mask] ++ putL 4 [o.mx, o.my]) 2 [o.opac] ⟨by omega, by omega⟩ (by simp only [List.length_append, putL_len, pxB_len, List.length_cons, List.length_nil]; omega), fl, script_writer_put_ans (b ++ putL 1 [o.kind, o.image] ++ putL 4 [o.x, o.y] ++ putL 1 [o.mask] ++ putL 4 [o.mx, o.my] ++ putL 2 [o.opac]) 1 [o.oper, o.mode, flagO o] ⟨by omega, by omega⟩ (by simp only [List.length_append, putL_len, pxB_len, List.length_cons, List.length_nil]; omega), ⟨?_, ?_⟩, trivial⟩
    · rw [← e]
    · rw [← e]

end Go.Proofs.Ytkfgmaecbclgfaa

/-
  Encodable, by the program.
-/
namespace Go.Proofs.Ytkfgmaecbclgfaa
open Go.RowKit
set_option linter.unusedVariables false
set_option linter.unusedSimpArgs false
attribute [local irreducible] Ans AnsO AnsG AnsN AnsI

set_option maxRecDepth 4000
theorem valid_formed (m : Im) : (m.valid 0 = 0 ∨ m.valid 0 = 8) ↔ m.formed = true := by
  unfold Im.valid Im.formed
  cases fitsP m.w m.h <;> cases m.inner <;> simp
  repeat' split
  all_goals omega
theorem all_take' {α : Type} {f : α → Bool} {l : List α} {k : Nat} (h : k < l.length) : (l.take (k + 1)).all f = ((l.take k).all f && f l[k]) := by
  rw [List.take_succ_eq_append_getElem h, List.all_append]
  simp
theorem all_false' {α : Type} {f : α → Bool} {l : List α} {k : Nat} (h : k < l.length) (hf : f l[k] = false) : l.all f = false := by
  rw [List.all_eq_false]
  exact ⟨l[k], List.getElem_mem h, by rw [hf]; simp⟩
theorem sizeIm_le {m : Im} (h : m.formed = true) : 19 ≤ sizeIm m ∧ sizeIm m ≤ 167772169 ∧ 1 ≤ m.w * m.h ∧ m.w * m.h ≤ 16777216 := by
  have h1 : fitsP m.w m.h = true := by unfold Im.formed at h; exact (Bool.and_eq_true_iff.1 h).1
  have h2 : 1 ≤ m.w * m.h ∧ m.w * m.h ≤ 16777216 := by
    simp only [fitsP, Bool.and_eq_true, decide_eq_true_eq] at h1
    have : 0 < m.w * m.h := Int.mul_pos (by omega) (by omega)
    omega
  unfold sizeIm
  split <;> omega
theorem sizeIms_take {l : List Im} {k : Nat} (h : k < l.length) : sizeIms (l.take (k + 1)) = sizeIms (l.take k) + sizeIm l[k] := by
  rw [List.take_succ_eq_append_getElem h, sizeIms_app]
  simp [sizeIms]
theorem sizeIms_le {l : List Im} (h : l.all Im.formed = true) : 0 ≤ sizeIms l ∧ sizeIms l ≤ 167772169 * (l.length : Int) := by
  induction l with
  | nil => simp [sizeIms]
  | cons m l ih =>
    simp only [List.all_cons, Bool.and_eq_true] at h
    have := ih h.2
    have := sizeIm_le h.1
    simp only [sizeIms, List.length_cons]
    omega
def gamEc : Gam where
 pure := fun f xs =>
  if f = 69 then (match xs with | [.agg [.int _ w, .int _ h, .bool so, .int _ c0, .int _ c1, .int _ c2, .int _ ca, .int _ cf, .int _ w0, .int _ h0, .int _ s0, .sl n0 xs0, .int _ w1, .int _ h1, .int _ s1, .sl n1 xs1, .int _ w2, .int _ h2, .int _ s2, .sl n2 xs2, .int _ w3, .int _ h3, .int _ s3, .sl n3 xs3, .int _ w4, .int _ h4, .int _ s4, .sl n4 xs4], .d (.int _ most)] => some (RV.d (DV.int .i64 (Im.valid ⟨w, h, so, ⟨c0, c1, c2, ca, cf⟩, ⟨w0, h0, s0, n0, xs0⟩, ⟨w1, h1, s1, n1, xs1⟩, ⟨w2, h2, s2, n2, xs2⟩, ⟨w3, h3, s3, n3, xs3⟩, ⟨w4, h4, s4, n4, xs4⟩⟩ most))) | _ => none) else
  if f = 36 then (match xs with | [.d (.sl n xs)] => some (RV.d (DV.bool (fitL 0 255 (ints (xs))))) | _ => none) else
  if f = 37 then (match xs with | [.d (.sl n xs)] => some (RV.d (DV.bool (fitL (-2147483648) 2147483647 (ints (xs))))) | _ => none) else
  if f = 38 then (match xs with | [.d (.sl n xs)] => some (RV.d (DV.bool (fitL 0 4294967295 (ints (xs))))) | _ => none) else
  if f = 39 then (match xs with | [.agg [.int _ w, .int _ h, .bool so, .int _ c0, .int _ c1, .int _ c2, .int _ ca, .int _ cf, .int _ w0, .int _ h0, .int _ s0, .sl n0 xs0, .int _ w1, .int _ h1, .int _ s1, .sl n1 xs1, .int _ w2, .int _ h2, .int _ s2, .sl n2 xs2, .int _ w3, .int _ h3, .int _ s3, .sl n3 xs3, .int _ w4, .int _ h4, .int _ s4, .sl n4 xs4]] => some (RV.d (DV.bool (Im.formed ⟨w, h, so, ⟨c0, c1, c2, ca, cf⟩, ⟨w0, h0, s0, n0, xs0⟩, ⟨w1, h1, s1, n1, xs1⟩, ⟨w2, h2, s2, n2, xs2⟩, ⟨w3, h3, s3, n3, xs3⟩, ⟨w4, h4, s4, n4, xs4⟩⟩))) | _ => none) else
  none
 modes := fun f =>
  none
 proc := fun f xs bs =>
  none
 iter := fun f cs =>
  none

def script_wellFormed_ann (m : Im) : Ann := Ann.leaf
theorem script_wellFormed_vc (m : Im) : vcg Try.prog gamEc 12 (bodyOf Try.f39) (script_wellFormed_ann m) kn0 (start [RV.agg [DV.int .i64 m.w, DV.int .i64 m.h, DV.bool m.so, DV.int .u16 m.c.a, DV.int .u16 m.c.b, DV.int .u16 m.c.c, DV.int .u16 m.c.al, DV.int .u16 m.c.f, DV.int .i64 m.p0.w, DV.int .i64 m.p0.h, DV.int .i64 m.p0.s, DV.sl m.p0.n m.p0.xs, DV.int .i64 m.p1.w, DV.int .i64 m.p1.h, DV.int .i64 m.p1.s, DV.sl m.p1.n m.p1.xs, DV.int .i64 m.p2.w, DV.int .i64 m.p2.h, DV.int .i64 m.p2.s, DV.sl m.p2.n m.p2.xs, DV.int .i64 m.p3.w, DV.int .i64 m.p3.h, DV.int .i64 m.p3.s, DV.sl m.p3.n m.p3.xs, DV.int .i64 m.p4.w, DV.int .i64 m.p4.h, DV.int .i64 m.p4.s, DV.sl m.p4.n m.p4.xs]]) (post Try.prog Try.f39.results.toList (· = RV.d (DV.bool (Im.formed m)))) =
  (let zz0 := ((Im.valid m (0 : Int)) == (0 : Int)); True ∧ True ∧ True ∧ (Ans Try.prog 69 [(imR (m)), RV.d (DV.int .u16 0)] (RV.d (DV.int .i64 (Im.valid m (0 : Int))))) ∧ True ∧ True ∧ True ∧ True ∧ ((zz0 = false → True ∧ True ∧ True ∧ True ∧ RV.d (DV.bool ((Im.valid m (0 : Int)) == (8 : Int))) = RV.d (DV.bool (Im.formed m))) ∧ (zz0 = (!false) → True ∧ True ∧ RV.d (DV.bool true) = RV.d (DV.bool (Im.formed m))))) := by kernel_rfl
theorem script_wellFormed_ans (m : Im) (hu : m.isU) : Ans Try.prog 39 [RV.agg [DV.int .i64 m.w, DV.int .i64 m.h, DV.bool m.so, DV.int .u16 m.c.a, DV.int .u16 m.c.b, DV.int .u16 m.c.c, DV.int .u16 m.c.al, DV.int .u16 m.c.f, DV.int .i64 m.p0.w, DV.int .i64 m.p0.h, DV.int .i64 m.p0.s, DV.sl m.p0.n m.p0.xs, DV.int .i64 m.p1.w, DV.int .i64 m.p1.h, DV.int .i64 m.p1.s, DV.sl m.p1.n m.p1.xs, DV.int .i64 m.p2.w, DV.int .i64 m.p2.h, DV.int .i64 m.p2.s, DV.sl m.p2.n m.p2.xs, DV.int .i64 m.p3.w, DV.int .i64 m.p3.h, DV.int .i64 m.p3.s, DV.sl m.p3.n m.p3.xs, DV.int .i64 m.p4.w, DV.int .i64 m.p4.h, DV.int .i64 m.p4.s, DV.sl m.p4.n m.p4.xs]] (RV.d (DV.bool (Im.formed m))) :=
  ans_of_vcg (Γ := gamEc) (script_wellFormed_ann m) mixed_ Try.func39 rfl (Nat.le_of_ble_eq_true rfl) fun hwf => by
    refine Eq.mpr (script_wellFormed_vc m) ?_
    simp only [true_and, and_true, RV.d.injEq, RV.agg.injEq, RV.tup.injEq, DV.bool.injEq, DV.int.injEq, DV.sl.injEq, List.cons.injEq, forall_const, Bool.not_false, Bool.not_true, Bool.not_eq_true', Bool.not_eq_false', decide_eq_true_eq, decide_eq_false_iff_not, Int.toNat_natCast, imQ, imQr, imC, oqQ, oqQr, oqC, oqD, pxQ, pxQr, pxC, pxD]
    have := image_Valid_im m 0 hu
    have hf := valid_formed m
    refine ⟨this, fun q1 => ?_, fun q1 => ?_⟩
    · have q1 : ¬ m.valid 0 = 0 := by simpa using q1
      by_cases q2 : m.valid 0 = 8
      · rw [hf.1 (.inr q2), q2]; rfl
      · cases q3 : m.formed with
        | true => have := hf.2 q3; omega
        | false => simp [q2]
    · have q1 : m.valid 0 = 0 := by simpa using q1
      exact (hf.1 (.inl q1)).symm

def script_Encodable_ann (s : Scr) : Ann := let zz0 := (DV.sl s.ims.length (ims s.ims)); let zz1 := (DV.sl s.ops.length (ops s.ops)); (Ann.seq Ann.leaf (Ann.seq Ann.leaf (Ann.seq Ann.leaf (Ann.seq (Ann.seq Ann.leaf (Ann.loop ⟨Nat, fun k => k ≤ s.ims.length ∧ (s.ims.take k).all Im.formed = true, fun k => ⟨[(1, AV.one (Cl.ptr 1 0)), (3, AV.one (Cl.d (DV.int .i64 (sizeS s (s.ims.take k))))), (69, AV.one (Cl.d zz0)), (70, AV.one (Cl.d (DV.int .i64 ((s.ims.length : Nat) : Int)))), (71, AV.one (Cl.d (DV.int .i64 ((k : Nat) : Int))))], [(1, Bx.cells [Cl.d (DV.int .i64 s.bits), Cl.d (DV.int .i64 s.c.a), Cl.d (DV.int .i64 s.c.b), Cl.d (DV.int .i64 s.c.c), Cl.d (DV.int .i64 s.c.d), Cl.d (DV.int .i64 s.tw), Cl.d (DV.int .i64 s.th), Cl.d (DV.sl s.ord.length (is s.ord)), Cl.d zz0, Cl.d zz1])]⟩, fun k => s.ims.length - k⟩ fun k => Ann.leaf)) (Ann.seq (Ann.seq Ann.leaf (Ann.loop ⟨Nat, fun j => j ≤ s.ops.length ∧ (s.ops.take j).all opOk = true, fun j => ⟨[(3, AV.one (Cl.d (DV.int .i64 (sizeS s s.ims)))), (93, AV.one (Cl.d zz1)), (94, AV.one (Cl.d (DV.int .i64 ((s.ops.length : Nat) : Int)))), (95, AV.one (Cl.d (DV.int .i64 ((j : Nat) : Int))))], []⟩, fun j => s.ops.length - j⟩ fun j => Ann.leaf)) Ann.leaf)))))
theorem script_Encodable_vc (s : Scr) : vcg Try.prog gamEc 128 (bodyOf Try.f14) (script_Encodable_ann s) kn0 (start [RV.agg [DV.int .i64 s.bits, DV.int .i64 s.c.a, DV.int .i64 s.c.b, DV.int .i64 s.c.c, DV.int .i64 s.c.d, DV.int .i64 s.tw, DV.int .i64 s.th, DV.sl s.ord.length (is s.ord), DV.sl s.ims.length (ims s.ims), DV.sl s.ops.length (ops s.ops)]]) (post Try.prog Try.f14.results.toList (· = RV.d (DV.bool (encOk s)))) =
  (let zz0 := fun (k : Nat) => (k ≤ s.ims.length ∧ (s.ims.take k).all Im.formed = true); let zz1 := (DV.sl s.ims.length (ims s.ims) = DV.sl s.ims.length (ims s.ims)); let zz2 := (DV.int .i64 ((s.ims.length : Nat) : Int) = DV.int .i64 ((s.ims.length : Nat) : Int)); let zz3 := [DV.int .i64 s.bits, DV.int .i64 s.c.a, DV.int .i64 s.c.b, DV.int .i64 s.c.c, DV.int .i64 s.c.d, DV.int .i64 s.tw, DV.int .i64 s.th, DV.sl s.ord.length (is s.ord), DV.sl s.ims.length (ims s.ims), DV.sl s.ops.length (ops s.ops)]; let zz4 := ((zz3 = zz3) ∧ True); let zz5 := fun (k' : Nat) => (k' ≤ s.ims.length ∧ (s.ims.take k').all Im.formed = true); let zz6 := fun (k : Nat) => fun (k' : Nat) => (s.ims.length - k' < s.ims.length - k); let zz7 := fun (k : Nat) => fun (k' : Nat) => (DV.int .i64 (IntKind.wrap .i64 (((k : Nat) : Int) + (1 : Int))) = DV.int .i64 ((k' : Nat) : Int)); let zz8 := fun (j : Nat) => (j ≤ s.ops.length ∧ (s.ops.take j).all opOk = true); let zz9 := (DV.sl s.ops.length (ops s.ops) = DV.sl s.ops.length (ops s.ops)); let zz10 := (DV.int .i64 ((s.ops.length : Nat) : Int) = DV.int .i64 ((s.ops.length : Nat) : Int)); True ∧ True ∧ True ∧ True ∧ True ∧ (Ans Try.prog 36 [RV.d (DV.sl 1 ([DV.int .i64 s.bits]))] (RV.d (DV.bool (fitL 0 255 (ints (([DV.int .i64 s.bits]))))))) ∧ True ∧ True ∧ (((!(fitL 0 255 (ints (([DV.int .i64 s.bits]))))) = false → True ∧ True ∧ True ∧ True ∧ True ∧ True ∧ True ∧ True ∧ True ∧ True ∧ True ∧ True ∧ True ∧ (Ans Try.prog 37 [RV.d (DV.sl 4 ([DV.int .i64 s.c.a, DV.int .i64 s.c.b, DV.int .i64 s.c.c, DV.int .i64 s.c.d]))] (RV.d (DV.bool (fitL (-2147483648) 2147483647 (ints (([DV.int .i64 s.c.a, DV.int .i64 s.c.b, DV.int .i64 s.c.c, DV.int .i64 s.c.d]))))))) ∧ True ∧ True ∧ True ∧ (((!(fitL (-2147483648) 2147483647 (ints (([DV.int .i64 s.c.a, DV.int .i64 s.c.b, DV.int .i64 s.c.c, DV.int .i64 s.c.d]))))) = false → True ∧ True ∧ True ∧ True ∧ True ∧ (Ans Try.prog 38 [RV.d (DV.sl 2 ([DV.int .i64 s.tw, DV.int .i64 s.th]))] (RV.d (DV.bool (fitL 0 4294967295 (ints (([DV.int .i64 s.tw, DV.int .i64 s.th]))))))) ∧ True ∧ True ∧ True ∧ (((!(fitL 0 4294967295 (ints (([DV.int .i64 s.tw, DV.int .i64 s.th]))))) = false → True ∧ True ∧ (Ans Try.prog 38 [RV.d (DV.sl s.ord.length (is s.ord))] (RV.d (DV.bool (fitL 0 4294967295 (ints ((is s.ord))))))) ∧ True ∧ True ∧ True ∧ (((!(fitL 0 4294967295 (ints ((is s.ord))))) = false → True ∧ True ∧ True ∧ True ∧ True ∧ True ∧ (((decide (((s.ims.length : Nat) : Int) > (64 : Int))) = false → True ∧ True ∧ True ∧ True ∧ True ∧ (((decide (((s.ops.length : Nat) : Int) > (4096 : Int))) = true → True ∧ RV.d (DV.bool false) = RV.d (DV.bool (encOk s))) ∧ ((decide (((s.ops.length : Nat) : Int) > (4096 : Int))) = false → True ∧ True ∧ True ∧ True ∧ True ∧ True ∧ True ∧ True ∧ True ∧ True ∧ True ∧ True ∧ True ∧ True ∧ True ∧ ((∃ k : Nat, (zz0 k) ∧ (((0 = 0) ∧ (DV.int .i64 (IntKind.wrap .i64 ((IntKind.wrap .i64 ((34 : Int) + (IntKind.wrap .i64 ((4 : Int) * ((s.ord.length : Nat) : Int))))) + (IntKind.wrap .i64 ((24 : Int) * ((s.ops.length : Nat) : Int))))) = DV.int .i64 (sizeS s (s.ims.take k))) ∧ zz1 ∧ zz2 ∧ (DV.int .i64 0 = DV.int .i64 ((k : Nat) : Int)) ∧ True) ∧ zz4)) ∧ ∀ k : Nat, (zz0 k) → True ∧ (((decide (((k : Nat) : Int) < ((s.ims.length : Nat) : Int))) = true → (0 ≤ ((k : Nat) : Int) ∧ ((k : Nat) : Int) < ((s.ims.length : Nat) : Int) ∧ ((k : Nat) : Int).toNat * 28 < (ims s.ims).length) ∧ ((imQr (ims s.ims) (((k : Nat) : Int).toNat * 28))) ∧ True ∧ True ∧ True ∧ (Ans Try.prog 39 [imR (imQ (ims s.ims) (((k : Nat) : Int).toNat * 28))] (RV.d (DV.bool (Im.formed (imQ (ims s.ims) (((k : Nat) : Int).toNat * 28)))))) ∧ True ∧ (((!(Im.formed (imQ (ims s.ims) (((k : Nat) : Int).toNat * 28)))) = true → True ∧ RV.d (DV.bool false) = RV.d (DV.bool (encOk s))) ∧ ((!(Im.formed (imQ (ims s.ims) (((k : Nat) : Int).toNat * 28)))) = false → True ∧ True ∧ True ∧ True ∧ (((!(bAt (ims s.ims) (((k : Nat) : Int).toNat * 28 + 1 + 1))) = true → True ∧ True ∧ True ∧ True ∧ True ∧ True ∧ True ∧ True ∧ True ∧ True ∧ True ∧ True ∧ True ∧ True ∧ ∃ k' : Nat, (zz5 k') ∧ (zz6 k k') ∧ (((0 = 0) ∧ (DV.int .i64 (IntKind.wrap .i64 ((sizeS s (s.ims.take k)) + (IntKind.wrap .i64 ((9 : Int) + (IntKind.wrap .i64 ((10 : Int) * (IntKind.wrap .i64 ((nAt (ims s.ims) (((k : Nat) : Int).toNat * 28)) * (nAt (ims s.ims) (((k : Nat) : Int).toNat * 28 + 1)))))))))) = DV.int .i64 (sizeS s (s.ims.take k'))) ∧ zz1 ∧ zz2 ∧ (zz7 k k') ∧ True) ∧ zz4)) ∧ ((!(bAt (ims s.ims) (((k : Nat) : Int).toNat * 28 + 1 + 1))) = false → True ∧ True ∧ True ∧ True ∧ True ∧ True ∧ True ∧ True ∧ ∃ k' : Nat, (zz5 k') ∧ (zz6 k k') ∧ (((0 = 0) ∧ (DV.int .i64 (IntKind.wrap .i64 ((sizeS s (s.ims.take k)) + (IntKind.wrap .i64 ((9 : Int) + (IntKind.wrap .i64 ((10 : Int) * (1 : Int))))))) = DV.int .i64 (sizeS s (s.ims.take k'))) ∧ zz1 ∧ zz2 ∧ (zz7 k k') ∧ True) ∧ zz4)))))) ∧ ((decide (((k : Nat) : Int) < ((s.ims.length : Nat) : Int))) = false → True ∧ True ∧ True ∧ True ∧ ((∃ j : Nat, (zz8 j) ∧ (((DV.int .i64 (sizeS s (s.ims.take k)) = DV.int .i64 (sizeS s s.ims)) ∧ zz9 ∧ zz10 ∧ (DV.int .i64 0 = DV.int .i64 ((j : Nat) : Int)) ∧ True) ∧ (True))) ∧ ∀ j : Nat, (zz8 j) → True ∧ (((decide (((j : Nat) : Int) < ((s.ops.length : Nat) : Int))) = true → (0 ≤ ((j : Nat) : Int) ∧ ((j : Nat) : Int) < ((s.ops.length : Nat) : Int) ∧ ((j : Nat) : Int).toNat * 12 < (ops s.ops).length) ∧ ((oqQr (ops s.ops) (((j : Nat) : Int).toNat * 12))) ∧ True ∧ True ∧ True ∧ True ∧ True ∧ True ∧ True ∧ True ∧ True ∧ True ∧ True ∧ True ∧ True ∧ (Ans Try.prog 36 [RV.d (DV.sl 5 ([DV.int .i64 (nAt (ops s.ops) (((j : Nat) : Int).toNat * 12)), DV.int .i64 (nAt (ops s.ops) (((j : Nat) : Int).toNat * 12 + 1)), DV.int .i64 (nAt (ops s.ops) (((j : Nat) : Int).toNat * 12 + 1 + 1 + 1 + 1)), DV.int .i64 (nAt (ops s.ops) (((j : Nat) : Int).toNat * 12 + 1 + 1 + 1 + 1 + 1 + 1 + 1 + 1)), DV.int .i64 (nAt (ops s.ops) (((j : Nat) : Int).toNat * 12 + 1 + 1 + 1 + 1 + 1 + 1 + 1 + 1 + 1))]))] (RV.d (DV.bool (fitL 0 255 (ints (([DV.int .i64 (nAt (ops s.ops) (((j : Nat) : Int).toNat * 12)), DV.int .i64 (nAt (ops s.ops) (((j : Nat) : Int).toNat * 12 + 1)), DV.int .i64 (nAt (ops s.ops) (((j : Nat) : Int).toNat * 12 + 1 + 1 + 1 + 1)), DV.int .i64 (nAt (ops s.ops) (((j : Nat) : Int).toNat * 12 + 1 + 1 + 1 + 1 + 1 + 1 + 1 + 1)), DV.int .i64 (nAt (ops s.ops) (((j : Nat) : Int).toNat * 12 + 1 + 1 + 1 + 1 + 1 + 1 + 1 + 1 + 1))]))))))) ∧ True ∧ True ∧ (((!(fitL 0 255 (ints (([DV.int .i64 (nAt (ops s.ops) (((j : Nat) : Int).toNat * 12)), DV.int .i64 (nAt (ops s.ops) (((j : Nat) : Int).toNat * 12 + 1)), DV.int .i64 (nAt (ops s.ops) (((j : Nat) : Int).toNat * 12 + 1 + 1 + 1 + 1)), DV.int .i64 (nAt (ops s.ops) (((j : Nat) : Int).toNat * 12 + 1 + 1 + 1 + 1 + 1 + 1 + 1 + 1)), DV.int .i64 (nAt (ops s.ops) (((j : Nat) : Int).toNat * 12 + 1 + 1 + 1 + 1 + 1 + 1 + 1 + 1 + 1))]))))) = false → True ∧ True ∧ True ∧ True ∧ True ∧ True ∧ True ∧ True ∧ True ∧ (Ans Try.prog 37 [RV.d (DV.sl 4 ([DV.int .i64 (nAt (ops s.ops) (((j : Nat) : Int).toNat * 12 + 1 + 1)), DV.int .i64 (nAt (ops s.ops) (((j : Nat) : Int).toNat * 12 + 1 + 1 + 1)), DV.int .i64 (nAt (ops s.ops) (((j : Nat) : Int).toNat * 12 + 1 + 1 + 1 + 1 + 1)), DV.int .i64 (nAt (ops s.ops) (((j : Nat) : Int).toNat * 12 + 1 + 1 + 1 + 1 + 1 + 1))]))] (RV.d (DV.bool (fitL (-2147483648) 2147483647 (ints (([DV.int .i64 (nAt (ops s.ops) (((j : Nat) : Int).toNat * 12 + 1 + 1)), DV.int .i64 (nAt (ops s.ops) (((j : Nat) : Int).toNat * 12 + 1 + 1 + 1)), DV.int .i64 (nAt (ops s.ops) (((j : Nat) : Int).toNat * 12 + 1 + 1 + 1 + 1 + 1)), DV.int .i64 (nAt (ops s.ops) (((j : Nat) : Int).toNat * 12 + 1 + 1 + 1 + 1 + 1 + 1))]))))))) ∧ True ∧ True ∧ (((!(fitL (-2147483648) 2147483647 (ints (([DV.int .i64 (nAt (ops s.ops) (((j : Nat) : Int).toNat * 12 + 1 + 1)), DV.int .i64 (nAt (ops s.ops) (((j : Nat) : Int).toNat * 12 + 1 + 1 + 1)), DV.int .i64 (nAt (ops s.ops) (((j : Nat) : Int).toNat * 12 + 1 + 1 + 1 + 1 + 1)), DV.int .i64 (nAt (ops s.ops) (((j : Nat) : Int).toNat * 12 + 1 + 1 + 1 + 1 + 1 + 1))]))))) = true → True ∧ RV.d (DV.bool false) = RV.d (DV.bool (encOk s))) ∧ ((!(fitL (-2147483648) 2147483647 (ints (([DV.int .i64 (nAt (ops s.ops) (((j : Nat) : Int).toNat * 12 + 1 + 1)), DV.int .i64 (nAt (ops s.ops) (((j : Nat) : Int).toNat * 12 + 1 + 1 + 1)), DV.int .i64 (nAt (ops s.ops) (((j : Nat) : Int).toNat * 12 + 1 + 1 + 1 + 1 + 1)), DV.int .i64 (nAt (ops s.ops) (((j : Nat) : Int).toNat * 12 + 1 + 1 + 1 + 1 + 1 + 1))]))))) = false → True ∧ True ∧ ∃ j' : Nat, (j' ≤ s.ops.length ∧ (s.ops.take j').all opOk = true) ∧ (s.ops.length - j' < s.ops.length - j) ∧ (((DV.int .i64 (sizeS s s.ims) = DV.int .i64 (sizeS s s.ims)) ∧ zz9 ∧ zz10 ∧ (DV.int .i64 (IntKind.wrap .i64 (((j : Nat) : Int) + (1 : Int))) = DV.int .i64 ((j' : Nat) : Int)) ∧ True) ∧ (True))))) ∧ ((!(fitL 0 255 (ints (([DV.int .i64 (nAt (ops s.ops) (((j : Nat) : Int).toNat * 12)), DV.int .i64 (nAt (ops s.ops) (((j : Nat) : Int).toNat * 12 + 1)), DV.int .i64 (nAt (ops s.ops) (((j : Nat) : Int).toNat * 12 + 1 + 1 + 1 + 1)), DV.int .i64 (nAt (ops s.ops) (((j : Nat) : Int).toNat * 12 + 1 + 1 + 1 + 1 + 1 + 1 + 1 + 1)), DV.int .i64 (nAt (ops s.ops) (((j : Nat) : Int).toNat * 12 + 1 + 1 + 1 + 1 + 1 + 1 + 1 + 1 + 1))]))))) = (!false) → True ∧ True ∧ RV.d (DV.bool false) = RV.d (DV.bool (encOk s))))) ∧ ((decide (((j : Nat) : Int) < ((s.ops.length : Nat) : Int))) = false → True ∧ True ∧ True ∧ RV.d (DV.bool (decide ((sizeS s s.ims) ≤ (67108864 : Int)))) = RV.d (DV.bool (encOk s))))))))))) ∧ ((decide (((s.ims.length : Nat) : Int) > (64 : Int))) = (!false) → True ∧ True ∧ RV.d (DV.bool false) = RV.d (DV.bool (encOk s))))) ∧ ((!(fitL 0 4294967295 (ints ((is s.ord))))) = (!false) → True ∧ True ∧ True ∧ True ∧ RV.d (DV.bool false) = RV.d (DV.bool (encOk s))))) ∧ ((!(fitL 0 4294967295 (ints (([DV.int .i64 s.tw, DV.int .i64 s.th]))))) = (!false) → True ∧ True ∧ True ∧ True ∧ True ∧ True ∧ RV.d (DV.bool false) = RV.d (DV.bool (encOk s))))) ∧ ((!(fitL (-2147483648) 2147483647 (ints (([DV.int .i64 s.c.a, DV.int .i64 s.c.b, DV.int .i64 s.c.c, DV.int .i64 s.c.d]))))) = (!false) → True ∧ True ∧ True ∧ True ∧ True ∧ True ∧ True ∧ True ∧ RV.d (DV.bool false) = RV.d (DV.bool (encOk s))))) ∧ ((!(fitL 0 255 (ints (([DV.int .i64 s.bits]))))) = (!false) → True ∧ True ∧ True ∧ True ∧ True ∧ True ∧ True ∧ True ∧ True ∧ True ∧ RV.d (DV.bool false) = RV.d (DV.bool (encOk s))))) := by kernel_rfl
theorem script_Encodable_ans (s : Scr) (hM : ∀ m ∈ s.ims, m.isU) (hos : s.ord.length ≤ 17592186044416) : Ans Try.prog 14 [RV.agg [DV.int .i64 s.bits, DV.int .i64 s.c.a, DV.int .i64 s.c.b, DV.int .i64 s.c.c, DV.int .i64 s.c.d, DV.int .i64 s.tw, DV.int .i64 s.th, DV.sl s.ord.length (is s.ord), DV.sl s.ims.length (ims s.ims), DV.sl s.ops.length (ops s.ops)]] (RV.d (DV.bool (encOk s))) :=
  ans_of_vcg (Γ := gamEc) (script_Encodable_ann s) mixed_ Try.func14 rfl (Nat.le_of_ble_eq_true rfl) fun hwf => by
    refine Eq.mpr (script_Encodable_vc s) ?_
    simp only [true_and, and_true, RV.d.injEq, RV.agg.injEq, RV.tup.injEq, DV.bool.injEq, DV.int.injEq, DV.sl.injEq, List.cons.injEq, forall_const, Bool.not_false, Bool.not_true, Bool.not_eq_true', Bool.not_eq_false', decide_eq_true_eq, decide_eq_false_iff_not, Int.toNat_natCast, imQ, imQr, imC, oqQ, oqQr, oqC, oqD, pxQ, pxQr, pxC, pxD]
    have a1 := script_short_ans [s.bits]
    have a2 := script_signed_ans [s.c.a, s.c.b, s.c.c, s.c.d]
    have a3 := script_unsigned_ans [s.tw, s.th]
    have a4 := script_unsigned_ans s.ord
    clear hwf
    have fal : encHd s = false → false = encOk s := fun h => by simp [encOk, h]
    simp only [ints_is] at a4 ⊢
    refine ⟨a1, fun h1 => ⟨a2, fun h2 => ⟨a3, fun h3 => ⟨a4, fun h4 => ⟨fun h5 => ⟨fun h6 => ?_, fun h6 => ?_⟩, fun h5 => ?_⟩, fun h4 => ?_⟩, fun h3 => ?_⟩, fun h2 => ?_⟩, fun h1 => ?_⟩
    · exact fal (by simp [encHd]; omega)
    · have g1 : fitL 0 255 [s.bits] = true := h1
      have g2 : fitL (-2147483648) 2147483647 [s.c.a, s.c.b, s.c.c, s.c.d] = true := h2
      have g3 : fitL 0 4294967295 [s.tw, s.th] = true := h3
      have hd : encHd s = true := by simp only [encHd, g1, g2, g3, h4, Bool.and_true, Bool.true_and, Bool.and_eq_true, decide_eq_true_eq]; omega
      have w0 : ∀ n : Int, -1000000000000000 ≤ n → n ≤ 1000000000000000 → IntKind.wrap .i64 n = n := fun n a b => IntWalk.i64_in _ ⟨by omega, by omega⟩
      have hs0 : IntKind.wrap .i64 (IntKind.wrap .i64 (34 + IntKind.wrap .i64 (4 * (s.ord.length : Int))) + IntKind.wrap .i64 (24 * (s.ops.length : Int))) = sizeS s [] := by
        rw [w0 (4 * (s.ord.length : Int)) (by omega) (by omega), w0 (34 + 4 * (s.ord.length : Int)) (by omega) (by omega), w0 (24 * (s.ops.length : Int)) (by omega) (by omega), w0 _ (by omega) (by omega)]
        simp [sizeS, sizeIms]
      refine ⟨⟨0, ⟨Nat.zero_le _, by simp⟩, by rw [hs0]; rfl, rfl⟩, fun k hk => ⟨fun hlt => ?_, fun hge => ?_⟩⟩
      · obtain ⟨k1, k2⟩ := hk
        have hk : k < s.ims.length := by omega
        have q1 := ims_rd hk
        have q2 := ims_at hk
        have w1 : IntKind.wrap .i64 ((k : Int) + 1) = ((k + 1 : Nat) : Int) := by rw [w0 _ (by omega) (by omega)]; omega
        have wf := script_wellFormed_ans s.ims[k] (hM _ (List.getElem_mem hk))
        simp only [q2, w1]
        refine ⟨⟨by omega, by omega, by rw [ims_length]; omega⟩, q1, wf, fun h7 => ?_, fun h7 => ?_⟩
        · have h7 : s.ims[k].formed = false := h7
          simp [encOk, all_false' hk h7]
        · have h7 : s.ims[k].formed = true := h7
          have hz := sizeIm_le h7
          have hzl := sizeIms_le k2
          have hl : (s.ims.take k).length ≤ 64 := by rw [List.length_take]; omega
          have hz2 : sizeS s (s.ims.take (k + 1)) = sizeS s (s.ims.take k) + sizeIm s.ims[k] := by simp only [sizeS, sizeIms_take hk]; omega
          have hz3 : 0 ≤ sizeS s (s.ims.take k) ∧ sizeS s (s.ims.take k) ≤ 100000000000000 := by simp only [sizeS]; omega
          have hin : k + 1 ≤ s.ims.length ∧ (s.ims.take (k + 1)).all Im.formed = true := ⟨by omega, by rw [all_take' hk, k2, h7]; rfl⟩
          refine ⟨fun h8 => ⟨k + 1, hin, by omega, ?_, rfl⟩, fun h8 => ⟨k + 1, hin, by omega, ?_, rfl⟩⟩
          · have hsz : sizeIm s.ims[k] = 9 + 10 * (s.ims[k].w * s.ims[k].h) := by unfold sizeIm; rw [if_neg (by rw [h8]; simp)]
            rw [hz2, hsz]
            generalize s.ims[k].w * s.ims[k].h = a at *
            rw [w0 a (by omega) (by omega), w0 (10 * a) (by omega) (by omega), w0 (9 + 10 * a) (by omega) (by omega), w0 _ (by omega) (by omega)]
          · have hsz : sizeIm s.ims[k] = 19 := by unfold sizeIm; rw [if_pos h8]
            rw [hz2, hsz]
            rw [w0 (10 * 1) (by omega) (by omega), w0 (9 + 10 * 1) (by omega) (by omega), w0 _ (by omega) (by omega)]
            omega
      · obtain ⟨k1, k2⟩ := hk
        have : k = s.ims.length := by omega
        subst this
        rw [List.take_length] at k2
        refine ⟨⟨0, ⟨Nat.zero_le _, by simp⟩, by rw [List.take_length], rfl⟩, fun j hj => ⟨fun hlt => ?_, fun hge => ?_⟩⟩
        · obtain ⟨j1, j2⟩ := hj
          have hj : j < s.ops.length := by omega
          have q1 := ops_rd hj
          have q2 := ops_at hj
          have w1 : IntKind.wrap .i64 ((j : Int) + 1) = ((j + 1 : Nat) : Int) := by rw [w0 _ (by omega) (by omega)]; omega
          have b1 := script_short_ans [s.ops[j].kind, s.ops[j].image, s.ops[j].mask, s.ops[j].oper, s.ops[j].mode]
          have b2 := script_signed_ans [s.ops[j].x, s.ops[j].y, s.ops[j].mx, s.ops[j].my]
          simp only [q2, w1]
          have bad : opOk s.ops[j] = false → false = encOk s := fun h => by simp [encOk, all_false' hj h]
          refine ⟨⟨by omega, by omega, by rw [ops_length]; omega⟩, q1, b1, fun h7 => ⟨b2, fun h8 => bad ?_, fun h8 => ⟨j + 1, ⟨by omega, ?_⟩, by omega, rfl⟩⟩, fun h7 => bad ?_⟩
          · have h8 : fitL (-2147483648) 2147483647 [s.ops[j].x, s.ops[j].y, s.ops[j].mx, s.ops[j].my] = false := h8
            simp [opOk, h8]
          · have h7 : fitL 0 255 [s.ops[j].kind, s.ops[j].image, s.ops[j].mask, s.ops[j].oper, s.ops[j].mode] = true := h7
            have h8 : fitL (-2147483648) 2147483647 [s.ops[j].x, s.ops[j].y, s.ops[j].mx, s.ops[j].my] = true := h8
            rw [all_take' hj, j2]
            simp [opOk, h7, h8]
          · have h7 : fitL 0 255 [s.ops[j].kind, s.ops[j].image, s.ops[j].mask, s.ops[j].oper, s.ops[j].mode] = false := h7
            simp [opOk, h7]
        · obtain ⟨j1, j2⟩ := hj
          have : j = s.ops.length := by omega
          subst this
          rw [List.take_length] at j2
          simp [encOk, hd, k2, j2]
    · exact fal (by simp [encHd]; omega)
    · exact fal (by simp [encHd, h4])
    · have h3 : fitL 0 4294967295 [s.tw, s.th] = false := h3
      exact fal (by simp [encHd, h3])
    · have h2 : fitL (-2147483648) 2147483647 [s.c.a, s.c.b, s.c.c, s.c.d] = false := h2
      exact fal (by simp [encHd, h2])
    · have h1 : fitL 0 255 [s.bits] = false := h1
      exact fal (by simp [encHd, h1])

end Go.Proofs.Ytkfgmaecbclgfaa

/-
  Encodable, by the reference.
-/
namespace Go.Proofs.Ytkfgmaecbclgfaa
open Go.RowKit
set_option linter.unusedVariables false
set_option linter.unusedSimpArgs false
attribute [local irreducible] Ans AnsO AnsG AnsN AnsI

set_option maxRecDepth 4000
def sizeM (s : Scr) (l : List Im) : Int := 34 + 4 * min (s.ord.length : Int) 67108864 + 24 * (s.ops.length : Int) + sizeIms l
def lenR (s : Scr) : Int := if sizeM s s.ims ≤ 67108864 then sizeM s s.ims else -1
theorem formed_w {m : Im} (h : m.formed = true) : 1 ≤ m.w ∧ m.w ≤ 16777216 := by
  have h1 : fitsP m.w m.h = true := by unfold Im.formed at h; exact (Bool.and_eq_true_iff.1 h).1
  simp only [fitsP, Bool.and_eq_true, decide_eq_true_eq] at h1
  have : m.w * 1 ≤ m.w * m.h := Int.mul_le_mul_of_nonneg_left (by omega) (by omega)
  omega
theorem sizeIms_drop {l : List Im} {k : Nat} (h : l.all Im.formed = true) : sizeIms (l.take k) ≤ sizeIms l := by
  have h1 := sizeIms_app (l.take k) (l.drop k)
  rw [List.take_append_drop] at h1
  have h2 : (l.drop k).all Im.formed = true := by
    rw [List.all_eq_true] at h ⊢
    exact fun m hm => h m (List.mem_of_mem_drop hm)
  have := sizeIms_le h2
  omega
def gamEd : Gam where
 pure := fun f xs =>
  if f = 42 then (match xs with | [.agg [.int _ w, .int _ h, .bool so, .int _ c0, .int _ c1, .int _ c2, .int _ ca, .int _ cf, .int _ w0, .int _ h0, .int _ s0, .sl n0 xs0, .int _ w1, .int _ h1, .int _ s1, .sl n1 xs1, .int _ w2, .int _ h2, .int _ s2, .sl n2 xs2, .int _ w3, .int _ h3, .int _ s3, .sl n3 xs3, .int _ w4, .int _ h4, .int _ s4, .sl n4 xs4]] => some (RV.d (DV.bool (Im.formed ⟨w, h, so, ⟨c0, c1, c2, ca, cf⟩, ⟨w0, h0, s0, n0, xs0⟩, ⟨w1, h1, s1, n1, xs1⟩, ⟨w2, h2, s2, n2, xs2⟩, ⟨w3, h3, s3, n3, xs3⟩, ⟨w4, h4, s4, n4, xs4⟩⟩))) | _ => none) else
  if f = 40 then (match xs with | [.d (.int _ v), .d (.int _ size), .d (.bool sg)] => some (RV.d (DV.bool (fitR size sg v))) | _ => none) else
  if f = 41 then (match xs with | [.d (.int _ size), .d (.bool sg), .d (.sl n xs)] => some (RV.d (DV.bool ((ints (xs)).all (fitR size sg)))) | _ => none) else
  if f = 43 then (match xs with | [.agg [.int _ bits, .int _ cx0, .int _ cy0, .int _ cx1, .int _ cy1, .int _ tw, .int _ th, .sl on oxs, .sl mn mxs, .sl pn pxs]] => some (RV.d (DV.int .i64 (lenR (⟨bits, ⟨cx0, cy0, cx1, cy1⟩, tw, th, ints oxs, toIms mxs, toOps pxs⟩ : Scr)))) | _ => none) else
  none
 modes := fun f =>
  none
 proc := fun f xs bs =>
  none
 iter := fun f cs =>
  none

def R18_length_ann (s : Scr) : Ann := (Ann.seq Ann.leaf (Ann.seq Ann.leaf (Ann.seq (Ann.seq Ann.leaf (Ann.loop ⟨Nat, fun k => k ≤ s.ims.length ∧ sizeIms (s.ims.take k) ≤ 67108864, fun k => ⟨[(1, AV.one (Cl.ptr 1 0)), (3, AV.one (Cl.d (DV.int .i64 (sizeM s (s.ims.take k))))), (4, AV.one (Cl.d (DV.int .i64 ((k : Nat) : Int))))], [(1, Bx.cells [Cl.d (DV.int .i64 s.bits), Cl.d (DV.int .i64 s.c.a), Cl.d (DV.int .i64 s.c.b), Cl.d (DV.int .i64 s.c.c), Cl.d (DV.int .i64 s.c.d), Cl.d (DV.int .i64 s.tw), Cl.d (DV.int .i64 s.th), Cl.d (DV.sl s.ord.length (is s.ord)), Cl.d (DV.sl s.ims.length (ims s.ims)), Cl.d (DV.sl s.ops.length (ops s.ops))])]⟩, fun k => s.ims.length - k⟩ fun k => Ann.leaf)) Ann.leaf)))
theorem R18_length_vc (s : Scr) : vcg Try.prog gamEd 48 (bodyOf Try.f43) (R18_length_ann s) kn0 (start [RV.agg [DV.int .i64 s.bits, DV.int .i64 s.c.a, DV.int .i64 s.c.b, DV.int .i64 s.c.c, DV.int .i64 s.c.d, DV.int .i64 s.tw, DV.int .i64 s.th, DV.sl s.ord.length (is s.ord), DV.sl s.ims.length (ims s.ims), DV.sl s.ops.length (ops s.ops)]]) (post Try.prog Try.f43.results.toList (· = RV.d (DV.int .i64 (lenR s)))) =
  (let zz0 := fun (k : Nat) => (k ≤ s.ims.length ∧ sizeIms (s.ims.take k) ≤ 67108864); let zz1 := [DV.int .i64 s.bits, DV.int .i64 s.c.a, DV.int .i64 s.c.b, DV.int .i64 s.c.c, DV.int .i64 s.c.d, DV.int .i64 s.tw, DV.int .i64 s.th, DV.sl s.ord.length (is s.ord), DV.sl s.ims.length (ims s.ims), DV.sl s.ops.length (ops s.ops)]; let zz2 := ((zz1 = zz1) ∧ True); let zz3 := fun (k : Nat) => (IntKind.wrap .i64 ((sizeM s (s.ims.take k)) + (19 : Int))); let zz4 := fun (k' : Nat) => (k' ≤ s.ims.length ∧ sizeIms (s.ims.take k') ≤ 67108864); let zz5 := fun (k : Nat) => fun (k' : Nat) => (s.ims.length - k' < s.ims.length - k); let zz6 := fun (k : Nat) => fun (k' : Nat) => (DV.int .i64 (IntKind.wrap .i64 (((k : Nat) : Int) + (1 : Int))) = DV.int .i64 ((k' : Nat) : Int)); True ∧ True ∧ True ∧ True ∧ True ∧ True ∧ True ∧ True ∧ True ∧ True ∧ True ∧ True ∧ True ∧ True ∧ True ∧ ((∃ k : Nat, (zz0 k) ∧ (((0 = 0) ∧ (DV.int .i64 (IntKind.wrap .i64 ((IntKind.wrap .i64 ((34 : Int) + (IntKind.wrap .i64 ((4 : Int) * (min ((s.ord.length : Nat) : Int) (67108864 : Int)))))) + (IntKind.wrap .i64 ((24 : Int) * ((s.ops.length : Nat) : Int))))) = DV.int .i64 (sizeM s (s.ims.take k))) ∧ (DV.int .i64 0 = DV.int .i64 ((k : Nat) : Int)) ∧ True) ∧ zz2)) ∧ ∀ k : Nat, (zz0 k) → True ∧ True ∧ True ∧ True ∧ True ∧ (((decide (((k : Nat) : Int) < ((s.ims.length : Nat) : Int))) = true → True ∧ True ∧ True ∧ (0 ≤ ((k : Nat) : Int) ∧ ((k : Nat) : Int) < ((s.ims.length : Nat) : Int) ∧ ((k : Nat) : Int).toNat * 28 < (ims s.ims).length) ∧ ((imQr (ims s.ims) (((k : Nat) : Int).toNat * 28))) ∧ True ∧ True ∧ True ∧ True ∧ True ∧ True ∧ True ∧ True ∧ (((!(bAt (ims s.ims) (((k : Nat) : Int).toNat * 28 + 1 + 1))) = true → True ∧ True ∧ True ∧ True ∧ True ∧ True ∧ True ∧ True ∧ True ∧ True ∧ True ∧ True ∧ (((decide ((IntKind.wrap .i64 ((zz3 k) + (IntKind.wrap .i64 ((IntKind.wrap .i64 ((IntKind.wrap .i64 ((10 : Int) * (nAt (ims s.ims) (((k : Nat) : Int).toNat * 28)))) * (nAt (ims s.ims) (((k : Nat) : Int).toNat * 28 + 1)))) - (10 : Int))))) > (67108864 : Int))) = true → True ∧ RV.d (DV.int .i64 (-1 : Int)) = RV.d (DV.int .i64 (lenR s))) ∧ ((decide ((IntKind.wrap .i64 ((zz3 k) + (IntKind.wrap .i64 ((IntKind.wrap .i64 ((IntKind.wrap .i64 ((10 : Int) * (nAt (ims s.ims) (((k : Nat) : Int).toNat * 28)))) * (nAt (ims s.ims) (((k : Nat) : Int).toNat * 28 + 1)))) - (10 : Int))))) > (67108864 : Int))) = false → True ∧ True ∧ True ∧ ∃ k' : Nat, (zz4 k') ∧ (zz5 k k') ∧ (((0 = 0) ∧ (DV.int .i64 (IntKind.wrap .i64 ((zz3 k) + (IntKind.wrap .i64 ((IntKind.wrap .i64 ((IntKind.wrap .i64 ((10 : Int) * (nAt (ims s.ims) (((k : Nat) : Int).toNat * 28)))) * (nAt (ims s.ims) (((k : Nat) : Int).toNat * 28 + 1)))) - (10 : Int))))) = DV.int .i64 (sizeM s (s.ims.take k'))) ∧ (zz6 k k') ∧ True) ∧ zz2)))) ∧ ((!(bAt (ims s.ims) (((k : Nat) : Int).toNat * 28 + 1 + 1))) = false → True ∧ True ∧ (((decide ((zz3 k) > (67108864 : Int))) = true → True ∧ RV.d (DV.int .i64 (-1 : Int)) = RV.d (DV.int .i64 (lenR s))) ∧ ((decide ((zz3 k) > (67108864 : Int))) = false → True ∧ True ∧ True ∧ ∃ k' : Nat, (zz4 k') ∧ (zz5 k k') ∧ (((0 = 0) ∧ (DV.int .i64 (zz3 k) = DV.int .i64 (sizeM s (s.ims.take k'))) ∧ (zz6 k k') ∧ True) ∧ zz2)))))) ∧ ((decide (((k : Nat) : Int) < ((s.ims.length : Nat) : Int))) = false → True ∧ True ∧ (((decide ((sizeM s (s.ims.take k)) > (67108864 : Int))) = true → True ∧ RV.d (DV.int .i64 (-1 : Int)) = RV.d (DV.int .i64 (lenR s))) ∧ ((decide ((sizeM s (s.ims.take k)) > (67108864 : Int))) = false → True ∧ True ∧ RV.d (DV.int .i64 (sizeM s (s.ims.take k))) = RV.d (DV.int .i64 (lenR s)))))))) := by kernel_rfl
theorem R18_length_ans (s : Scr) (hF : s.ims.all Im.formed = true) (ho : s.ops.length ≤ 4096) (hil0 : s.ims.length ≤ 9223372036854775807) : Ans Try.prog 43 [RV.agg [DV.int .i64 s.bits, DV.int .i64 s.c.a, DV.int .i64 s.c.b, DV.int .i64 s.c.c, DV.int .i64 s.c.d, DV.int .i64 s.tw, DV.int .i64 s.th, DV.sl s.ord.length (is s.ord), DV.sl s.ims.length (ims s.ims), DV.sl s.ops.length (ops s.ops)]] (RV.d (DV.int .i64 (lenR s))) :=
  ans_of_vcg (Γ := gamEd) (R18_length_ann s) mixed_ Try.func43 rfl (Nat.le_of_ble_eq_true rfl) fun hwf => by
    refine Eq.mpr (R18_length_vc s) ?_
    simp only [true_and, and_true, RV.d.injEq, RV.agg.injEq, RV.tup.injEq, DV.bool.injEq, DV.int.injEq, DV.sl.injEq, List.cons.injEq, forall_const, Bool.not_false, Bool.not_true, Bool.not_eq_true', Bool.not_eq_false', decide_eq_true_eq, decide_eq_false_iff_not, Int.toNat_natCast, imQ, imQr, imC, oqQ, oqQr, oqC, oqD, pxQ, pxQr, pxC, pxD]
    clear hwf
    have w0 : ∀ n : Int, -1000000000000000 ≤ n → n ≤ 1000000000000000 → IntKind.wrap .i64 n = n := fun n a b => IntWalk.i64_in _ ⟨by omega, by omega⟩
    have hmn : 0 ≤ min (s.ord.length : Int) 67108864 ∧ min (s.ord.length : Int) 67108864 ≤ 67108864 := by omega
    have hzl := sizeIms_le hF
    have hdr := fun k => @sizeIms_drop s.ims k hF
    have hs0 : IntKind.wrap .i64 (IntKind.wrap .i64 (34 + IntKind.wrap .i64 (4 * min (s.ord.length : Int) 67108864)) + IntKind.wrap .i64 (24 * (s.ops.length : Int))) = sizeM s [] := by
      unfold sizeM
      generalize min (s.ord.length : Int) 67108864 = M at *
      rw [w0 (4 * M) (by omega) (by omega), w0 (34 + 4 * M) (by omega) (by omega), w0 (24 * (s.ops.length : Int)) (by omega) (by omega), w0 _ (by omega) (by omega)]
      simp [sizeIms]
    have hbad : ∀ k, 67108864 < sizeM s (s.ims.take k) → -1 = lenR s := fun k h => by
      have := hdr k
      unfold lenR
      rw [if_neg (by unfold sizeM at h ⊢; omega)]
    refine ⟨⟨0, ⟨Nat.zero_le _, by simp [sizeIms]⟩, by rw [hs0]; rfl, rfl⟩, fun k hk => ⟨fun hlt => ?_, fun hge => ?_⟩⟩
    · obtain ⟨hk1, hk2⟩ := hk
      have hk : k < s.ims.length := by omega
      have q1 := ims_rd hk
      have q2 := ims_at hk
      have hil : (k : Int) < 9223372036854775807 := by omega
      have w1 : IntKind.wrap .i64 ((k : Int) + 1) = ((k + 1 : Nat) : Int) := by rw [IntWalk.i64_in _ ⟨by omega, by omega⟩]; omega
      simp only [q2, w1]
      have hm : s.ims[k].formed = true := by rw [List.all_eq_true] at hF; exact hF _ (List.getElem_mem hk)
      have hz := sizeIm_le hm
      have hw := formed_w hm
      have hz2 : sizeM s (s.ims.take (k + 1)) = sizeM s (s.ims.take k) + sizeIm s.ims[k] := by simp only [sizeM, sizeIms_take hk]; omega
      have hz3 : 0 ≤ sizeM s (s.ims.take k) ∧ sizeM s (s.ims.take k) ≤ 400000000000 := by
        have h1 : (s.ims.take k).all Im.formed = true := by
          rw [List.all_eq_true] at hF ⊢
          exact fun m hm => hF m (List.mem_of_mem_take hm)
        have := sizeIms_le h1
        simp only [sizeM]; omega
      have e1 : IntKind.wrap .i64 (sizeM s (s.ims.take k) + 19) = sizeM s (s.ims.take k) + 19 := w0 _ (by omega) (by omega)
      have e2 : IntKind.wrap .i64 (IntKind.wrap .i64 (sizeM s (s.ims.take k) + 19) + IntKind.wrap .i64 (IntKind.wrap .i64 (IntKind.wrap .i64 (10 * s.ims[k].w) * s.ims[k].h) - 10)) = sizeM s (s.ims.take k) + 9 + 10 * (s.ims[k].w * s.ims[k].h) := by
        rw [e1, w0 (10 * s.ims[k].w) (by omega) (by omega), Int.mul_assoc]
        generalize s.ims[k].w * s.ims[k].h = a at *
        rw [w0 (10 * a) (by omega) (by omega), w0 (10 * a - 10) (by omega) (by omega), w0 _ (by omega) (by omega)]
        omega
      refine ⟨⟨by omega, by omega, by rw [ims_length]; omega⟩, q1, fun h8 => ?_, fun h8 => ?_⟩
      · have hsz : sizeIm s.ims[k] = 9 + 10 * (s.ims[k].w * s.ims[k].h) := by unfold sizeIm; rw [if_neg (by rw [h8]; simp)]
        have e3 : sizeM s (s.ims.take k) + 9 + 10 * (s.ims[k].w * s.ims[k].h) = sizeM s (s.ims.take (k + 1)) := by rw [hz2, hsz]; omega
        rw [e2, e3]
        exact ⟨fun h9 => hbad _ (by omega), fun h9 => ⟨k + 1, ⟨by omega, by unfold sizeM at h9 hz3; omega⟩, by omega, rfl, rfl⟩⟩
      · have hsz : sizeIm s.ims[k] = 19 := by unfold sizeIm; rw [if_pos h8]
        have e3 : sizeM s (s.ims.take k) + 19 = sizeM s (s.ims.take (k + 1)) := by rw [hz2, hsz]
        rw [e1, e3]
        exact ⟨fun h9 => hbad _ (by omega), fun h9 => ⟨k + 1, ⟨by omega, by unfold sizeM at h9 hz3; omega⟩, by omega, rfl, rfl⟩⟩
    · have : k = s.ims.length := by omega
      subst this
      rw [List.take_length]
      refine ⟨fun h => hbad s.ims.length (by rw [List.take_length]; exact h), fun h => ?_⟩
      unfold lenR
      rw [if_pos (by omega)]
theorem R13_Formed_im (m : Im) : Ans Try.prog 42 [imR m] (RV.d (DV.bool m.formed)) := R13_Formed_ans (m.w) (m.h) (m.so) (m.c.a) (m.c.b) (m.c.c) (m.c.al) (m.c.f) (m.p0.w) (m.p0.h) (m.p0.s) (m.p0.n) (m.p0.xs) (m.p1.w) (m.p1.h) (m.p1.s) (m.p1.n) (m.p1.xs) (m.p2.w) (m.p2.h) (m.p2.s) (m.p2.n) (m.p2.xs) (m.p3.w) (m.p3.h) (m.p3.s) (m.p3.n) (m.p3.xs) (m.p4.w) (m.p4.h) (m.p4.s) (m.p4.n) (m.p4.xs)

def R18_Encodable_ann (s : Scr) : Ann := let zz0 := [(1, Bx.cells [Cl.d (DV.int .i64 s.bits), Cl.d (DV.int .i64 s.c.a), Cl.d (DV.int .i64 s.c.b), Cl.d (DV.int .i64 s.c.c), Cl.d (DV.int .i64 s.c.d), Cl.d (DV.int .i64 s.tw), Cl.d (DV.int .i64 s.th), Cl.d (DV.sl s.ord.length (is s.ord)), Cl.d (DV.sl s.ims.length (ims s.ims)), Cl.d (DV.sl s.ops.length (ops s.ops))])]; (Ann.seq Ann.leaf (Ann.seq Ann.leaf (Ann.seq Ann.leaf (Ann.seq (Ann.seq Ann.leaf (Ann.loop ⟨Nat, fun k => k ≤ s.ims.length ∧ (s.ims.take k).all Im.formed = true, fun k => ⟨[(1, AV.one (Cl.ptr 1 0)), (4, AV.one (Cl.d (DV.int .i64 ((k : Nat) : Int))))], zz0⟩, fun k => s.ims.length - k⟩ fun k => Ann.leaf)) (Ann.seq (Ann.seq Ann.leaf (Ann.loop ⟨Nat, fun j => j ≤ s.ops.length ∧ (s.ops.take j).all opOk = true, fun j => ⟨[(1, AV.one (Cl.ptr 1 0)), (5, AV.one (Cl.d (DV.int .i64 ((j : Nat) : Int))))], zz0⟩, fun j => s.ops.length - j⟩ fun j => Ann.leaf)) Ann.leaf)))))
theorem R18_Encodable_vc (s : Scr) : vcg Try.prog gamEd 114 (bodyOf Try.f17) (R18_Encodable_ann s) kn0 (start [RV.agg [DV.int .i64 s.bits, DV.int .i64 s.c.a, DV.int .i64 s.c.b, DV.int .i64 s.c.c, DV.int .i64 s.c.d, DV.int .i64 s.tw, DV.int .i64 s.th, DV.sl s.ord.length (is s.ord), DV.sl s.ims.length (ims s.ims), DV.sl s.ops.length (ops s.ops)]]) (post Try.prog Try.f17.results.toList (· = RV.d (DV.bool (encOk s)))) =
  (let zz0 := fun (k : Nat) => (k ≤ s.ims.length ∧ (s.ims.take k).all Im.formed = true); let zz1 := [DV.int .i64 s.bits, DV.int .i64 s.c.a, DV.int .i64 s.c.b, DV.int .i64 s.c.c, DV.int .i64 s.c.d, DV.int .i64 s.tw, DV.int .i64 s.th, DV.sl s.ord.length (is s.ord), DV.sl s.ims.length (ims s.ims), DV.sl s.ops.length (ops s.ops)]; let zz2 := ((zz1 = zz1) ∧ True); let zz3 := fun (j : Nat) => (j ≤ s.ops.length ∧ (s.ops.take j).all opOk = true); True ∧ True ∧ True ∧ True ∧ True ∧ True ∧ True ∧ True ∧ (Ans Try.prog 40 [RV.d (DV.int .i64 s.bits), RV.d (DV.int .i64 1), RV.d (DV.bool false)] (RV.d (DV.bool (fitR (1 : Int) false s.bits)))) ∧ True ∧ True ∧ (((!(fitR (1 : Int) false s.bits)) = false → True ∧ True ∧ True ∧ True ∧ True ∧ True ∧ True ∧ True ∧ True ∧ (Ans Try.prog 41 [RV.d (DV.int .i64 4), RV.d (DV.bool true), RV.d (DV.sl 4 ([DV.int .i64 s.c.a, DV.int .i64 s.c.b, DV.int .i64 s.c.c, DV.int .i64 s.c.d]))] (RV.d (DV.bool ((ints (([DV.int .i64 s.c.a, DV.int .i64 s.c.b, DV.int .i64 s.c.c, DV.int .i64 s.c.d]))).all (fitR (4 : Int) true))))) ∧ True ∧ True ∧ True ∧ (((!((ints (([DV.int .i64 s.c.a, DV.int .i64 s.c.b, DV.int .i64 s.c.c, DV.int .i64 s.c.d]))).all (fitR (4 : Int) true))) = false → True ∧ True ∧ True ∧ True ∧ True ∧ (Ans Try.prog 41 [RV.d (DV.int .i64 4), RV.d (DV.bool false), RV.d (DV.sl 2 ([DV.int .i64 s.tw, DV.int .i64 s.th]))] (RV.d (DV.bool ((ints (([DV.int .i64 s.tw, DV.int .i64 s.th]))).all (fitR (4 : Int) false))))) ∧ True ∧ True ∧ True ∧ (((!((ints (([DV.int .i64 s.tw, DV.int .i64 s.th]))).all (fitR (4 : Int) false))) = false → True ∧ True ∧ True ∧ True ∧ True ∧ True ∧ (((decide (((s.ord.length : Nat) : Int) > (67108864 : Int))) = false → True ∧ True ∧ (Ans Try.prog 41 [RV.d (DV.int .i64 4), RV.d (DV.bool false), RV.d (DV.sl s.ord.length (is s.ord))] (RV.d (DV.bool ((ints ((is s.ord))).all (fitR (4 : Int) false))))) ∧ True ∧ True ∧ True ∧ (((!((ints ((is s.ord))).all (fitR (4 : Int) false))) = false → True ∧ True ∧ True ∧ True ∧ True ∧ True ∧ (((decide (((s.ims.length : Nat) : Int) > (64 : Int))) = false → True ∧ True ∧ True ∧ True ∧ True ∧ (((decide (((s.ops.length : Nat) : Int) > (4096 : Int))) = true → True ∧ RV.d (DV.bool false) = RV.d (DV.bool (encOk s))) ∧ ((decide (((s.ops.length : Nat) : Int) > (4096 : Int))) = false → True ∧ ((∃ k : Nat, (zz0 k) ∧ (((0 = 0) ∧ (DV.int .i64 0 = DV.int .i64 ((k : Nat) : Int)) ∧ True) ∧ zz2)) ∧ ∀ k : Nat, (zz0 k) → True ∧ True ∧ True ∧ True ∧ True ∧ (((decide (((k : Nat) : Int) < ((s.ims.length : Nat) : Int))) = true → True ∧ True ∧ True ∧ (0 ≤ ((k : Nat) : Int) ∧ ((k : Nat) : Int) < ((s.ims.length : Nat) : Int) ∧ ((k : Nat) : Int).toNat * 28 < (ims s.ims).length) ∧ ((imQr (ims s.ims) (((k : Nat) : Int).toNat * 28))) ∧ (Ans Try.prog 42 [imR (imQ (ims s.ims) (((k : Nat) : Int).toNat * 28))] (RV.d (DV.bool (Im.formed (imQ (ims s.ims) (((k : Nat) : Int).toNat * 28)))))) ∧ True ∧ (((!(Im.formed (imQ (ims s.ims) (((k : Nat) : Int).toNat * 28)))) = true → True ∧ RV.d (DV.bool false) = RV.d (DV.bool (encOk s))) ∧ ((!(Im.formed (imQ (ims s.ims) (((k : Nat) : Int).toNat * 28)))) = false → True ∧ True ∧ True ∧ ∃ k' : Nat, (k' ≤ s.ims.length ∧ (s.ims.take k').all Im.formed = true) ∧ (s.ims.length - k' < s.ims.length - k) ∧ (((0 = 0) ∧ (DV.int .i64 (IntKind.wrap .i64 (((k : Nat) : Int) + (1 : Int))) = DV.int .i64 ((k' : Nat) : Int)) ∧ True) ∧ zz2)))) ∧ ((decide (((k : Nat) : Int) < ((s.ims.length : Nat) : Int))) = false → True ∧ ((∃ j : Nat, (zz3 j) ∧ (((0 = 0) ∧ (DV.int .i64 0 = DV.int .i64 ((j : Nat) : Int)) ∧ True) ∧ zz2)) ∧ ∀ j : Nat, (zz3 j) → True ∧ True ∧ True ∧ True ∧ True ∧ (((decide (((j : Nat) : Int) < ((s.ops.length : Nat) : Int))) = true → True ∧ True ∧ True ∧ (0 ≤ ((j : Nat) : Int) ∧ ((j : Nat) : Int) < ((s.ops.length : Nat) : Int) ∧ ((j : Nat) : Int).toNat * 12 < (ops s.ops).length) ∧ ((oqQr (ops s.ops) (((j : Nat) : Int).toNat * 12))) ∧ True ∧ True ∧ True ∧ True ∧ True ∧ True ∧ True ∧ True ∧ True ∧ True ∧ True ∧ True ∧ True ∧ (Ans Try.prog 41 [RV.d (DV.int .i64 1), RV.d (DV.bool false), RV.d (DV.sl 5 ([DV.int .i64 (nAt (ops s.ops) (((j : Nat) : Int).toNat * 12)), DV.int .i64 (nAt (ops s.ops) (((j : Nat) : Int).toNat * 12 + 1)), DV.int .i64 (nAt (ops s.ops) (((j : Nat) : Int).toNat * 12 + 1 + 1 + 1 + 1)), DV.int .i64 (nAt (ops s.ops) (((j : Nat) : Int).toNat * 12 + 1 + 1 + 1 + 1 + 1 + 1 + 1 + 1)), DV.int .i64 (nAt (ops s.ops) (((j : Nat) : Int).toNat * 12 + 1 + 1 + 1 + 1 + 1 + 1 + 1 + 1 + 1))]))] (RV.d (DV.bool ((ints (([DV.int .i64 (nAt (ops s.ops) (((j : Nat) : Int).toNat * 12)), DV.int .i64 (nAt (ops s.ops) (((j : Nat) : Int).toNat * 12 + 1)), DV.int .i64 (nAt (ops s.ops) (((j : Nat) : Int).toNat * 12 + 1 + 1 + 1 + 1)), DV.int .i64 (nAt (ops s.ops) (((j : Nat) : Int).toNat * 12 + 1 + 1 + 1 + 1 + 1 + 1 + 1 + 1)), DV.int .i64 (nAt (ops s.ops) (((j : Nat) : Int).toNat * 12 + 1 + 1 + 1 + 1 + 1 + 1 + 1 + 1 + 1))]))).all (fitR (1 : Int) false))))) ∧ True ∧ True ∧ (((!((ints (([DV.int .i64 (nAt (ops s.ops) (((j : Nat) : Int).toNat * 12)), DV.int .i64 (nAt (ops s.ops) (((j : Nat) : Int).toNat * 12 + 1)), DV.int .i64 (nAt (ops s.ops) (((j : Nat) : Int).toNat * 12 + 1 + 1 + 1 + 1)), DV.int .i64 (nAt (ops s.ops) (((j : Nat) : Int).toNat * 12 + 1 + 1 + 1 + 1 + 1 + 1 + 1 + 1)), DV.int .i64 (nAt (ops s.ops) (((j : Nat) : Int).toNat * 12 + 1 + 1 + 1 + 1 + 1 + 1 + 1 + 1 + 1))]))).all (fitR (1 : Int) false))) = false → True ∧ True ∧ True ∧ True ∧ True ∧ True ∧ True ∧ True ∧ True ∧ (Ans Try.prog 41 [RV.d (DV.int .i64 4), RV.d (DV.bool true), RV.d (DV.sl 4 ([DV.int .i64 (nAt (ops s.ops) (((j : Nat) : Int).toNat * 12 + 1 + 1)), DV.int .i64 (nAt (ops s.ops) (((j : Nat) : Int).toNat * 12 + 1 + 1 + 1)), DV.int .i64 (nAt (ops s.ops) (((j : Nat) : Int).toNat * 12 + 1 + 1 + 1 + 1 + 1)), DV.int .i64 (nAt (ops s.ops) (((j : Nat) : Int).toNat * 12 + 1 + 1 + 1 + 1 + 1 + 1))]))] (RV.d (DV.bool ((ints (([DV.int .i64 (nAt (ops s.ops) (((j : Nat) : Int).toNat * 12 + 1 + 1)), DV.int .i64 (nAt (ops s.ops) (((j : Nat) : Int).toNat * 12 + 1 + 1 + 1)), DV.int .i64 (nAt (ops s.ops) (((j : Nat) : Int).toNat * 12 + 1 + 1 + 1 + 1 + 1)), DV.int .i64 (nAt (ops s.ops) (((j : Nat) : Int).toNat * 12 + 1 + 1 + 1 + 1 + 1 + 1))]))).all (fitR (4 : Int) true))))) ∧ True ∧ True ∧ (((!((ints (([DV.int .i64 (nAt (ops s.ops) (((j : Nat) : Int).toNat * 12 + 1 + 1)), DV.int .i64 (nAt (ops s.ops) (((j : Nat) : Int).toNat * 12 + 1 + 1 + 1)), DV.int .i64 (nAt (ops s.ops) (((j : Nat) : Int).toNat * 12 + 1 + 1 + 1 + 1 + 1)), DV.int .i64 (nAt (ops s.ops) (((j : Nat) : Int).toNat * 12 + 1 + 1 + 1 + 1 + 1 + 1))]))).all (fitR (4 : Int) true))) = true → True ∧ RV.d (DV.bool false) = RV.d (DV.bool (encOk s))) ∧ ((!((ints (([DV.int .i64 (nAt (ops s.ops) (((j : Nat) : Int).toNat * 12 + 1 + 1)), DV.int .i64 (nAt (ops s.ops) (((j : Nat) : Int).toNat * 12 + 1 + 1 + 1)), DV.int .i64 (nAt (ops s.ops) (((j : Nat) : Int).toNat * 12 + 1 + 1 + 1 + 1 + 1)), DV.int .i64 (nAt (ops s.ops) (((j : Nat) : Int).toNat * 12 + 1 + 1 + 1 + 1 + 1 + 1))]))).all (fitR (4 : Int) true))) = false → True ∧ True ∧ True ∧ ∃ j' : Nat, (j' ≤ s.ops.length ∧ (s.ops.take j').all opOk = true) ∧ (s.ops.length - j' < s.ops.length - j) ∧ (((0 = 0) ∧ (DV.int .i64 (IntKind.wrap .i64 (((j : Nat) : Int) + (1 : Int))) = DV.int .i64 ((j' : Nat) : Int)) ∧ True) ∧ zz2)))) ∧ ((!((ints (([DV.int .i64 (nAt (ops s.ops) (((j : Nat) : Int).toNat * 12)), DV.int .i64 (nAt (ops s.ops) (((j : Nat) : Int).toNat * 12 + 1)), DV.int .i64 (nAt (ops s.ops) (((j : Nat) : Int).toNat * 12 + 1 + 1 + 1 + 1)), DV.int .i64 (nAt (ops s.ops) (((j : Nat) : Int).toNat * 12 + 1 + 1 + 1 + 1 + 1 + 1 + 1 + 1)), DV.int .i64 (nAt (ops s.ops) (((j : Nat) : Int).toNat * 12 + 1 + 1 + 1 + 1 + 1 + 1 + 1 + 1 + 1))]))).all (fitR (1 : Int) false))) = (!false) → True ∧ True ∧ RV.d (DV.bool false) = RV.d (DV.bool (encOk s))))) ∧ ((decide (((j : Nat) : Int) < ((s.ops.length : Nat) : Int))) = false → True ∧ (Ans Try.prog 43 [RV.agg zz1] (RV.d (DV.int .i64 (lenR (⟨s.bits, s.c, s.tw, s.th, ints (is s.ord), toIms (ims s.ims), toOps (ops s.ops)⟩ : Scr))))) ∧ True ∧ True ∧ RV.d (DV.bool (decide ((lenR (⟨s.bits, s.c, s.tw, s.th, ints (is s.ord), toIms (ims s.ims), toOps (ops s.ops)⟩ : Scr)) ≥ (0 : Int)))) = RV.d (DV.bool (encOk s))))))))))) ∧ ((decide (((s.ims.length : Nat) : Int) > (64 : Int))) = (!false) → True ∧ True ∧ RV.d (DV.bool false) = RV.d (DV.bool (encOk s))))) ∧ ((!((ints ((is s.ord))).all (fitR (4 : Int) false))) = (!false) → True ∧ True ∧ True ∧ True ∧ RV.d (DV.bool false) = RV.d (DV.bool (encOk s))))) ∧ ((decide (((s.ord.length : Nat) : Int) > (67108864 : Int))) = (!false) → True ∧ True ∧ True ∧ True ∧ True ∧ True ∧ RV.d (DV.bool false) = RV.d (DV.bool (encOk s))))) ∧ ((!((ints (([DV.int .i64 s.tw, DV.int .i64 s.th]))).all (fitR (4 : Int) false))) = (!false) → True ∧ True ∧ True ∧ True ∧ True ∧ True ∧ True ∧ True ∧ RV.d (DV.bool false) = RV.d (DV.bool (encOk s))))) ∧ ((!((ints (([DV.int .i64 s.c.a, DV.int .i64 s.c.b, DV.int .i64 s.c.c, DV.int .i64 s.c.d]))).all (fitR (4 : Int) true))) = (!false) → True ∧ True ∧ True ∧ True ∧ True ∧ True ∧ True ∧ True ∧ True ∧ True ∧ RV.d (DV.bool false) = RV.d (DV.bool (encOk s))))) ∧ ((!(fitR (1 : Int) false s.bits)) = (!false) → True ∧ True ∧ True ∧ True ∧ True ∧ True ∧ True ∧ True ∧ True ∧ True ∧ True ∧ True ∧ RV.d (DV.bool false) = RV.d (DV.bool (encOk s))))) := by kernel_rfl
theorem R18_Encodable_ans (s : Scr) : Ans Try.prog 17 [RV.agg [DV.int .i64 s.bits, DV.int .i64 s.c.a, DV.int .i64 s.c.b, DV.int .i64 s.c.c, DV.int .i64 s.c.d, DV.int .i64 s.tw, DV.int .i64 s.th, DV.sl s.ord.length (is s.ord), DV.sl s.ims.length (ims s.ims), DV.sl s.ops.length (ops s.ops)]] (RV.d (DV.bool (encOk s))) :=
  ans_of_vcg (Γ := gamEd) (R18_Encodable_ann s) mixed_ Try.func17 rfl (Nat.le_of_ble_eq_true rfl) fun hwf => by
    refine Eq.mpr (R18_Encodable_vc s) ?_
    simp only [true_and, and_true, RV.d.injEq, RV.agg.injEq, RV.tup.injEq, DV.bool.injEq, DV.int.injEq, DV.sl.injEq, List.cons.injEq, forall_const, Bool.not_false, Bool.not_true, Bool.not_eq_true', Bool.not_eq_false', decide_eq_true_eq, decide_eq_false_iff_not, Int.toNat_natCast, imQ, imQr, imC, oqQ, oqQr, oqC, oqD, pxQ, pxQr, pxC, pxD]
    have a1 := R18_fits_ans s.bits 1 false (.inl ⟨rfl, rfl⟩)
    have a2 := R18_all_ans 4 true [s.c.a, s.c.b, s.c.c, s.c.d] (.inr rfl)
    have a3 := R18_all_ans 4 false [s.tw, s.th] (.inr rfl)
    have a4 := R18_all_ans 4 false s.ord (.inr rfl)
    have es : ∀ l : List Int, l.all (fitR 4 true) = fitL (-2147483648) 2147483647 l := fun l => by unfold fitL; congr; funext v; exact fitR_sig v
    have eu : ∀ l : List Int, l.all (fitR 4 false) = fitL 0 4294967295 l := fun l => by unfold fitL; congr; funext v; exact fitR_four v
    have e1 : ∀ l : List Int, l.all (fitR 1 false) = fitL 0 255 l := fun l => by unfold fitL; congr; funext v; exact fitR_one v
    have eb : fitR 1 false s.bits = fitL 0 255 [s.bits] := by rw [← e1]; simp
    have hil : s.ims.length ≤ 9223372036854775807 ∧ s.ops.length ≤ 9223372036854775807 := by
      simp only [RV.wfs, RV.wf, DV.wf, DV.wfs, maxLen] at hwf
      omega
    clear hwf
    have fal : encHd s = false → false = encOk s := fun h => by simp [encOk, h]
    simp only [ints_is, es, eu, eb] at a1 a2 a3 a4 ⊢
    refine ⟨a1, fun h1 => ⟨a2, fun h2 => ⟨a3, fun h3 => ⟨fun h0 => ⟨a4, fun h4 => ⟨fun h5 => ⟨fun h6 => ?_, fun h6 => ?_⟩, fun h5 => ?_⟩, fun h4 => ?_⟩, fun h0 => ?_⟩, fun h3 => ?_⟩, fun h2 => ?_⟩, fun h1 => ?_⟩
    · exact fal (by simp [encHd]; omega)
    · have g1 : fitL 0 255 [s.bits] = true := h1
      have g2 : fitL (-2147483648) 2147483647 [s.c.a, s.c.b, s.c.c, s.c.d] = true := h2
      have g3 : fitL 0 4294967295 [s.tw, s.th] = true := h3
      have hd : encHd s = true := by simp only [encHd, g1, g2, g3, h4, Bool.and_true, Bool.true_and, Bool.and_eq_true, decide_eq_true_eq]; omega
      refine ⟨⟨0, ⟨Nat.zero_le _, by simp⟩, rfl⟩, fun k hk => ⟨fun hlt => ?_, fun hge => ?_⟩⟩
      · obtain ⟨k1, k2⟩ := hk
        have hk : k < s.ims.length := by omega
        have q1 := ims_rd hk
        have q2 := ims_at hk
        have w1 : IntKind.wrap .i64 ((k : Int) + 1) = ((k + 1 : Nat) : Int) := by rw [IntWalk.i64_in _ ⟨by omega, by omega⟩]; omega
        have wf := R13_Formed_im s.ims[k]
        simp only [q2, w1]
        refine ⟨⟨by omega, by omega, by rw [ims_length]; omega⟩, q1, wf, fun h7 => ?_, fun h7 => ?_⟩
        · have h7 : s.ims[k].formed = false := h7
          simp [encOk, all_false' hk h7]
        · have h7 : s.ims[k].formed = true := h7
          exact ⟨k + 1, ⟨by omega, by rw [all_take' hk, k2, h7]; rfl⟩, by omega, rfl⟩
      · obtain ⟨k1, k2⟩ := hk
        have : k = s.ims.length := by omega
        subst this
        rw [List.take_length] at k2
        refine ⟨⟨0, ⟨Nat.zero_le _, by simp⟩, rfl⟩, fun j hj => ⟨fun hlt => ?_, fun hge => ?_⟩⟩
        · obtain ⟨j1, j2⟩ := hj
          have hj : j < s.ops.length := by omega
          have q1 := ops_rd hj
          have q2 := ops_at hj
          have w1 : IntKind.wrap .i64 ((j : Int) + 1) = ((j + 1 : Nat) : Int) := by rw [IntWalk.i64_in _ ⟨by omega, by omega⟩]; omega
          have b1 := R18_all_ans 1 false [s.ops[j].kind, s.ops[j].image, s.ops[j].mask, s.ops[j].oper, s.ops[j].mode] (.inl ⟨rfl, rfl⟩)
          have b2 := R18_all_ans 4 true [s.ops[j].x, s.ops[j].y, s.ops[j].mx, s.ops[j].my] (.inr rfl)
          simp only [q2, w1, e1] at b1 b2 ⊢
          simp only [es] at b2 ⊢
          have bad : opOk s.ops[j] = false → false = encOk s := fun h => by simp [encOk, all_false' hj h]
          refine ⟨⟨by omega, by omega, by rw [ops_length]; omega⟩, q1, b1, fun h7 => ⟨b2, fun h8 => bad ?_, fun h8 => ⟨j + 1, ⟨by omega, ?_⟩, by omega, rfl⟩⟩, fun h7 => bad ?_⟩
          · have h8 : fitL (-2147483648) 2147483647 [s.ops[j].x, s.ops[j].y, s.ops[j].mx, s.ops[j].my] = false := h8
            simp [opOk, h8]
          · have h7 : fitL 0 255 [s.ops[j].kind, s.ops[j].image, s.ops[j].mask, s.ops[j].oper, s.ops[j].mode] = true := h7
            have h8 : fitL (-2147483648) 2147483647 [s.ops[j].x, s.ops[j].y, s.ops[j].mx, s.ops[j].my] = true := h8
            rw [all_take' hj, j2]
            simp [opOk, h7, h8]
          · have h7 : fitL 0 255 [s.ops[j].kind, s.ops[j].image, s.ops[j].mask, s.ops[j].oper, s.ops[j].mode] = false := h7
            simp [opOk, h7]
        · obtain ⟨j1, j2⟩ := hj
          have : j = s.ops.length := by omega
          subst this
          rw [List.take_length] at j2
          have ln := R18_length_ans s k2 (by omega) (by omega)
          simp only [toIms_ims, toOps_ops]
          refine ⟨ln, ?_⟩
          have hmo : min (s.ord.length : Int) 67108864 = s.ord.length := by omega
          have hzl := sizeIms_le k2
          have hsz : sizeM s s.ims = sizeS s s.ims := by unfold sizeM sizeS; rw [hmo]
          have hpos : 0 ≤ sizeS s s.ims := by unfold sizeS; omega
          have e1 : encOk s = decide (sizeS s s.ims ≤ 67108864) := by simp only [encOk, hd, k2, j2, Bool.true_and]
          rw [e1]
          unfold lenR
          rw [hsz]
          by_cases hb : sizeS s s.ims ≤ 67108864
          · rw [if_pos hb, decide_eq_true hb]
            exact decide_eq_true hpos
          · rw [if_neg hb, decide_eq_false hb]
            rfl
    · exact fal (by simp [encHd]; omega)
    · exact fal (by simp [encHd, h4])
    · have : encOk s = false := by
        cases hc : s.ims.all Im.formed with
        | false => simp [encOk, hc]
        | true =>
          have := sizeIms_le hc
          have hn : ¬ sizeS s s.ims ≤ 67108864 := by unfold sizeS; omega
          simp [encOk, hn]
      exact this.symm
    · have h3 : fitL 0 4294967295 [s.tw, s.th] = false := h3
      exact fal (by simp [encHd, h3])
    · have h2 : fitL (-2147483648) 2147483647 [s.c.a, s.c.b, s.c.c, s.c.d] = false := h2
      exact fal (by simp [encHd, h2])
    · have h1 : fitL 0 255 [s.bits] = false := h1
      exact fal (by simp [encHd, h1])

end Go.Proofs.Ytkfgmaecbclgfaa

/-
  The bytes of a script, by the program.
-/
namespace Go.Proofs.Ytkfgmaecbclgfaa
open Go.RowKit
set_option linter.unusedVariables false
set_option linter.unusedSimpArgs false
attribute [local irreducible] Ans AnsO AnsG AnsN AnsI

set_option maxRecDepth 4000
def encA (s : Scr) (k : Nat) : List Int := [76, 67] ++ putL 1 [s.bits] ++ putL 4 [s.c.a, s.c.b, s.c.c, s.c.d, s.tw, s.th, (s.ord.length : Int)] ++ putL 4 s.ord ++ putL 1 [(s.ims.length : Int)] ++ (s.ims.take k).flatMap imB_
def encC (s : Scr) (j : Nat) : List Int := encA s s.ims.length ++ putL 2 [(s.ops.length : Int)] ++ (s.ops.take j).flatMap opB
theorem encC_all (s : Scr) : encC s s.ops.length = encB s := by
  unfold encC encA encB
  rw [List.take_length, List.take_length]
theorem encA_succ {s : Scr} {k : Nat} (h : k < s.ims.length) : encA s (k + 1) = encA s k ++ imB_ s.ims[k] := by
  unfold encA
  rw [List.take_succ_eq_append_getElem h, List.flatMap_append]
  simp only [List.append_assoc, List.flatMap_cons, List.flatMap_nil, List.append_nil]
theorem encC_succ {s : Scr} {j : Nat} (h : j < s.ops.length) : encC s (j + 1) = encC s j ++ opB s.ops[j] := by
  unfold encC
  rw [List.take_succ_eq_append_getElem h, List.flatMap_append]
  simp only [List.append_assoc, List.flatMap_cons, List.flatMap_nil, List.append_nil]
theorem imBs_len : ∀ {l : List Im}, l.all Im.formed = true → ((l.flatMap imB_).length : Int) = sizeIms l
  | [], _ => by simp [sizeIms]
  | m :: l, h => by
    simp only [List.all_cons, Bool.and_eq_true] at h
    have h1 := imB_len h.1
    have h2 := imBs_len h.2
    simp only [List.flatMap_cons, List.length_append, sizeIms]
    omega
theorem opBs_len : ∀ (l : List Oq), (l.flatMap opB).length = l.length * 24
  | [] => by simp
  | o :: l => by
    simp only [List.flatMap_cons, List.length_append, opB_len, List.length_cons, opBs_len l]; omega
structure Enc (s : Scr) : Prop where
  fm : s.ims.all Im.formed = true
  sz : sizeS s s.ims ≤ 67108864
  bits : 0 ≤ s.bits ∧ s.bits ≤ 255
  il : s.ims.length ≤ 64
  ol : s.ops.length ≤ 4096
theorem enc_of {s : Scr} (h : encOk s = true) : Enc s := by
  simp only [encOk, encHd, Bool.and_eq_true, decide_eq_true_eq] at h
  obtain ⟨⟨⟨⟨⟨⟨⟨⟨h1, h2⟩, h3⟩, h4⟩, h5⟩, h6⟩, h7⟩, h8⟩, h9⟩ := h
  simp [fitL] at h1
  exact ⟨h7, h9, h1, h5, h6⟩
theorem encA_len {s : Scr} (h : Enc s) (k : Nat) : ((encA s k).length : Int) = 32 + 4 * (s.ord.length : Int) + sizeIms (s.ims.take k) ∧ (encA s k).length ≤ 67108864 := by
  have h1 : (s.ims.take k).all Im.formed = true := by
    have := h.fm
    rw [List.all_eq_true] at this ⊢
    exact fun m hm => this m (List.mem_of_mem_take hm)
  have h2 := imBs_len h1
  have h3 := sizeIms_drop (k := k) h.fm
  have h4 := h.sz
  have h5 := sizeIms_le h.fm
  unfold sizeS at h4
  unfold encA
  simp only [List.length_append, putL_len, List.length_cons, List.length_nil]
  omega
theorem encC_len {s : Scr} (h : Enc s) (j : Nat) : (encC s j).length ≤ 67108864 := by
  have h1 := (encA_len h s.ims.length).1
  have h4 := h.sz
  have h2 := opBs_len (s.ops.take j)
  have h3 : (s.ops.take j).length ≤ s.ops.length := by rw [List.length_take]; omega
  rw [List.take_length] at h1
  unfold sizeS at h4
  unfold encC
  simp only [List.length_append, putL_len, List.length_cons, List.length_nil, h2]
  omega
def gamEe : Gam where
 pure := fun f xs =>
  if f = 14 then (match xs with | [.agg [.int _ bits, .int _ cx0, .int _ cy0, .int _ cx1, .int _ cy1, .int _ tw, .int _ th, .sl on oxs, .sl mn mxs, .sl pn pxs]] => some (RV.d (DV.bool (encOk (⟨bits, ⟨cx0, cy0, cx1, cy1⟩, tw, th, ints oxs, toIms mxs, toOps pxs⟩ : Scr)))) | _ => none) else
  none
 modes := fun f =>
  if f = 29 then some ([false, true, true], 1, 1) else
  if f = 30 then some ([false, true], 1, 1) else
  if f = 31 then some ([false, true], 1, 1) else
  none
 proc := fun f xs bs =>
  if f = 29 then (match xs, bs with | [AV.one (Cl.ptr 0 0), AV.one (Cl.d (DV.int _ n)), AV.one (Cl.d (DV.sl ln lxs))], [Bx.cells [Cl.ref 1 bn], Bx.row _ _ bxs] => some ⟨AV.tup [], [Bx.cells [Cl.ref 1 (((ints bxs) ++ putL n.toNat (ints lxs)).length)], Bx.row 5 1 (u8s ((ints bxs) ++ putL n.toNat (ints lxs)))], false⟩ | _, _ => none) else
  if f = 30 then (match xs, bs with | [AV.one (Cl.ptr 0 0), AV.agg [Cl.d (DV.int _ w), Cl.d (DV.int _ h), Cl.d (DV.bool so), Cl.d (DV.int _ c0), Cl.d (DV.int _ c1), Cl.d (DV.int _ c2), Cl.d (DV.int _ ca), Cl.d (DV.int _ cf), Cl.d (DV.int _ w0), Cl.d (DV.int _ h0), Cl.d (DV.int _ s0), Cl.d (DV.sl n0 xs0), Cl.d (DV.int _ w1), Cl.d (DV.int _ h1), Cl.d (DV.int _ s1), Cl.d (DV.sl n1 xs1), Cl.d (DV.int _ w2), Cl.d (DV.int _ h2), Cl.d (DV.int _ s2), Cl.d (DV.sl n2 xs2), Cl.d (DV.int _ w3), Cl.d (DV.int _ h3), Cl.d (DV.int _ s3), Cl.d (DV.sl n3 xs3), Cl.d (DV.int _ w4), Cl.d (DV.int _ h4), Cl.d (DV.int _ s4), Cl.d (DV.sl n4 xs4)]], [Bx.cells [Cl.ref 1 bn], Bx.row _ _ bxs] => some ⟨AV.tup [], [Bx.cells [Cl.ref 1 (((ints bxs) ++ imB_ ⟨w, h, so, ⟨c0, c1, c2, ca, cf⟩, ⟨w0, h0, s0, n0, xs0⟩, ⟨w1, h1, s1, n1, xs1⟩, ⟨w2, h2, s2, n2, xs2⟩, ⟨w3, h3, s3, n3, xs3⟩, ⟨w4, h4, s4, n4, xs4⟩⟩).length)], Bx.row 5 1 (u8s ((ints bxs) ++ imB_ ⟨w, h, so, ⟨c0, c1, c2, ca, cf⟩, ⟨w0, h0, s0, n0, xs0⟩, ⟨w1, h1, s1, n1, xs1⟩, ⟨w2, h2, s2, n2, xs2⟩, ⟨w3, h3, s3, n3, xs3⟩, ⟨w4, h4, s4, n4, xs4⟩⟩))], false⟩ | _, _ => none) else
  if f = 31 then (match xs, bs with | [AV.one (Cl.ptr 0 0), AV.agg [Cl.d (DV.int _ okind), Cl.d (DV.int _ oimage), Cl.d (DV.int _ ox), Cl.d (DV.int _ oy), Cl.d (DV.int _ omask), Cl.d (DV.int _ omx), Cl.d (DV.int _ omy), Cl.d (DV.int _ oopac), Cl.d (DV.int _ ooper), Cl.d (DV.int _ omode), Cl.d (DV.bool oiso), Cl.d (DV.bool okno)]], [Bx.cells [Cl.ref 1 bn], Bx.row _ _ bxs] => some ⟨AV.tup [], [Bx.cells [Cl.ref 1 (((ints bxs) ++ opB ⟨okind, oimage, ox, oy, omask, omx, omy, oopac, ooper, omode, oiso, okno⟩).length)], Bx.row 5 1 (u8s ((ints bxs) ++ opB ⟨okind, oimage, ox, oy, omask, omx, omy, oopac, ooper, omode, oiso, okno⟩))], false⟩ | _, _ => none) else
  none
 iter := fun f cs =>
  none

def script_Encode_ann (s : Scr) : Ann := let zz0 := (DV.sl s.ims.length (ims s.ims)); let zz1 := (DV.sl s.ops.length (ops s.ops)); (Ann.seq Ann.leaf (Ann.seq Ann.leaf (Ann.seq Ann.leaf (Ann.seq Ann.leaf (Ann.seq Ann.leaf (Ann.seq Ann.leaf (Ann.seq Ann.leaf (Ann.seq (Ann.seq Ann.leaf (Ann.loop ⟨Nat, fun k => k ≤ s.ims.length, fun k => ⟨[(1, AV.one (Cl.ptr 1 0)), (4, AV.one (Cl.ptr 15 0)), (54, AV.one (Cl.d zz0)), (55, AV.one (Cl.d (DV.int .i64 ((s.ims.length : Nat) : Int)))), (56, AV.one (Cl.d (DV.int .i64 ((k : Nat) : Int))))], [(1, Bx.cells [Cl.d (DV.int .i64 s.bits), Cl.d (DV.int .i64 s.c.a), Cl.d (DV.int .i64 s.c.b), Cl.d (DV.int .i64 s.c.c), Cl.d (DV.int .i64 s.c.d), Cl.d (DV.int .i64 s.tw), Cl.d (DV.int .i64 s.th), Cl.d (DV.sl s.ord.length (is s.ord)), Cl.d zz0, Cl.d zz1]), (15, Bx.cells [Cl.ref 9001 ((encA s k).length)]), (9001, Bx.row 5 1 (u8s (encA s k)))]⟩, fun k => s.ims.length - k⟩ fun k => Ann.leaf)) (Ann.seq Ann.leaf (Ann.seq (Ann.seq Ann.leaf (Ann.loop ⟨Nat, fun j => j ≤ s.ops.length, fun j => ⟨[(4, AV.one (Cl.ptr 15 0)), (71, AV.one (Cl.d zz1)), (72, AV.one (Cl.d (DV.int .i64 ((s.ops.length : Nat) : Int)))), (73, AV.one (Cl.d (DV.int .i64 ((j : Nat) : Int))))], [(15, Bx.cells [Cl.ref 9002 ((encC s j).length)]), (9002, Bx.row 5 1 (u8s (encC s j)))]⟩, fun j => s.ops.length - j⟩ fun j => Ann.leaf)) Ann.leaf))))))))))
theorem script_Encode_vc (s : Scr) : vcg Try.prog gamEe 85 (bodyOf Try.f11) (script_Encode_ann s) kn0 (start [RV.agg [DV.int .i64 s.bits, DV.int .i64 s.c.a, DV.int .i64 s.c.b, DV.int .i64 s.c.c, DV.int .i64 s.c.d, DV.int .i64 s.tw, DV.int .i64 s.th, DV.sl s.ord.length (is s.ord), DV.sl s.ims.length (ims s.ims), DV.sl s.ops.length (ops s.ops)]]) (post Try.prog Try.f11.results.toList (· = RV.tup [RV.d (DV.sl ((encS s).1.length) (u8s (encS s).1)), RV.d (DV.int .i64 ((encS s).2))])) =
  (let zz0 := [DV.int .i64 s.bits, DV.int .i64 s.c.a, DV.int .i64 s.c.b, DV.int .i64 s.c.c, DV.int .i64 s.c.d, DV.int .i64 s.tw, DV.int .i64 s.th, DV.sl s.ord.length (is s.ord), DV.sl s.ims.length (ims s.ims), DV.sl s.ops.length (ops s.ops)]; let zz1 := [RV.d (DV.sl ((encS s).1.length) (u8s (encS s).1)), RV.d (DV.int .i64 ((encS s).2))]; let zz2 := (Cl.d (DV.int .i64 1)); let zz3 := [Bx.cells [Cl.ref 1 (((ints ([DV.int .u8 (76 : Int), DV.int .u8 (67 : Int)])) ++ putL 1 (ints ([DV.int .i64 s.bits]))).length)], Bx.row 5 1 (u8s ((ints ([DV.int .u8 (76 : Int), DV.int .u8 (67 : Int)])) ++ putL 1 (ints ([DV.int .i64 s.bits]))))]; let zz4 := (Cl.d (DV.int .i64 4)); let zz5 := [Bx.cells [Cl.ref 1 (((ints (u8s ((ints ([DV.int .u8 (76 : Int), DV.int .u8 (67 : Int)])) ++ putL 1 (ints ([DV.int .i64 s.bits]))))) ++ putL 4 (ints ([DV.int .i64 s.c.a, DV.int .i64 s.c.b, DV.int .i64 s.c.c, DV.int .i64 s.c.d, DV.int .i64 s.tw, DV.int .i64 s.th, DV.int .i64 ((s.ord.length : Nat) : Int)]))).length)], Bx.row 5 1 (u8s ((ints (u8s ((ints ([DV.int .u8 (76 : Int), DV.int .u8 (67 : Int)])) ++ putL 1 (ints ([DV.int .i64 s.bits]))))) ++ putL 4 (ints ([DV.int .i64 s.c.a, DV.int .i64 s.c.b, DV.int .i64 s.c.c, DV.int .i64 s.c.d, DV.int .i64 s.tw, DV.int .i64 s.th, DV.int .i64 ((s.ord.length : Nat) : Int)]))))]; let zz6 := [Bx.cells [Cl.ref 1 (((ints (u8s ((ints (u8s ((ints ([DV.int .u8 (76 : Int), DV.int .u8 (67 : Int)])) ++ putL 1 (ints ([DV.int .i64 s.bits]))))) ++ putL 4 (ints ([DV.int .i64 s.c.a, DV.int .i64 s.c.b, DV.int .i64 s.c.c, DV.int .i64 s.c.d, DV.int .i64 s.tw, DV.int .i64 s.th, DV.int .i64 ((s.ord.length : Nat) : Int)]))))) ++ putL 4 (ints (is s.ord))).length)], Bx.row 5 1 (u8s ((ints (u8s ((ints (u8s ((ints ([DV.int .u8 (76 : Int), DV.int .u8 (67 : Int)])) ++ putL 1 (ints ([DV.int .i64 s.bits]))))) ++ putL 4 (ints ([DV.int .i64 s.c.a, DV.int .i64 s.c.b, DV.int .i64 s.c.c, DV.int .i64 s.c.d, DV.int .i64 s.tw, DV.int .i64 s.th, DV.int .i64 ((s.ord.length : Nat) : Int)]))))) ++ putL 4 (ints (is s.ord))))]; let zz7 := (DV.sl s.ims.length (ims s.ims) = DV.sl s.ims.length (ims s.ims)); let zz8 := (DV.int .i64 ((s.ims.length : Nat) : Int) = DV.int .i64 ((s.ims.length : Nat) : Int)); let zz9 := (zz0 = zz0); let zz10 := fun (k : Nat) => [Bx.cells [Cl.ref 1 ((encA s k).length)], Bx.row 5 1 (u8s (encA s k))]; let zz11 := (DV.sl s.ops.length (ops s.ops) = DV.sl s.ops.length (ops s.ops)); let zz12 := (DV.int .i64 ((s.ops.length : Nat) : Int) = DV.int .i64 ((s.ops.length : Nat) : Int)); True ∧ True ∧ True ∧ True ∧ (Ans Try.prog 14 [RV.agg zz0] (RV.d (DV.bool (encOk (⟨s.bits, s.c, s.tw, s.th, ints (is s.ord), toIms (ims s.ims), toOps (ops s.ops)⟩ : Scr))))) ∧ True ∧ (((!(encOk (⟨s.bits, s.c, s.tw, s.th, ints (is s.ord), toIms (ims s.ims), toOps (ops s.ops)⟩ : Scr))) = true → True ∧ True ∧ RV.tup [RV.d (DV.sl 0 ([])), RV.d (DV.int .i64 19)] = RV.tup zz1) ∧ ((!(encOk (⟨s.bits, s.c, s.tw, s.th, ints (is s.ord), toIms (ims s.ims), toOps (ops s.ops)⟩ : Scr))) = false → True ∧ (0 < 2) ∧ True ∧ True ∧ True ∧ True ∧ True ∧ True ∧ True ∧ (AnsG Try.prog 29 1 [AV.one (Cl.ptr 0 0), AV.one zz2, AV.one (Cl.d (DV.sl 1 ([DV.int .i64 s.bits])))] [Bx.cells [Cl.ref 1 2], Bx.row 5 1 ([DV.int .u8 (76 : Int), DV.int .u8 (67 : Int)])] ⟨AV.tup [], zz3, false⟩) ∧ True ∧ True ∧ True ∧ True ∧ True ∧ True ∧ True ∧ True ∧ True ∧ True ∧ True ∧ True ∧ True ∧ True ∧ True ∧ True ∧ True ∧ True ∧ True ∧ True ∧ True ∧ (AnsG Try.prog 29 1 [AV.one (Cl.ptr 0 0), AV.one zz4, AV.one (Cl.d (DV.sl 7 ([DV.int .i64 s.c.a, DV.int .i64 s.c.b, DV.int .i64 s.c.c, DV.int .i64 s.c.d, DV.int .i64 s.tw, DV.int .i64 s.th, DV.int .i64 ((s.ord.length : Nat) : Int)])))] zz3 ⟨AV.tup [], zz5, false⟩) ∧ True ∧ True ∧ True ∧ (AnsG Try.prog 29 1 [AV.one (Cl.ptr 0 0), AV.one zz4, AV.one (Cl.d (DV.sl s.ord.length (is s.ord)))] zz5 ⟨AV.tup [], zz6, false⟩) ∧ True ∧ True ∧ True ∧ True ∧ True ∧ (AnsG Try.prog 29 1 [AV.one (Cl.ptr 0 0), AV.one zz2, AV.one (Cl.d (DV.sl 1 ([DV.int .i64 ((s.ims.length : Nat) : Int)])))] zz6 ⟨AV.tup [], [Bx.cells [Cl.ref 1 (((ints (u8s ((ints (u8s ((ints (u8s ((ints ([DV.int .u8 (76 : Int), DV.int .u8 (67 : Int)])) ++ putL 1 (ints ([DV.int .i64 s.bits]))))) ++ putL 4 (ints ([DV.int .i64 s.c.a, DV.int .i64 s.c.b, DV.int .i64 s.c.c, DV.int .i64 s.c.d, DV.int .i64 s.tw, DV.int .i64 s.th, DV.int .i64 ((s.ord.length : Nat) : Int)]))))) ++ putL 4 (ints (is s.ord))))) ++ putL 1 (ints ([DV.int .i64 ((s.ims.length : Nat) : Int)]))).length)], Bx.row 5 1 (u8s ((ints (u8s ((ints (u8s ((ints (u8s ((ints ([DV.int .u8 (76 : Int), DV.int .u8 (67 : Int)])) ++ putL 1 (ints ([DV.int .i64 s.bits]))))) ++ putL 4 (ints ([DV.int .i64 s.c.a, DV.int .i64 s.c.b, DV.int .i64 s.c.c, DV.int .i64 s.c.d, DV.int .i64 s.tw, DV.int .i64 s.th, DV.int .i64 ((s.ord.length : Nat) : Int)]))))) ++ putL 4 (ints (is s.ord))))) ++ putL 1 (ints ([DV.int .i64 ((s.ims.length : Nat) : Int)]))))], false⟩) ∧ True ∧ True ∧ True ∧ True ∧ ((∃ k : Nat, (k ≤ s.ims.length) ∧ (((0 = 0) ∧ (0 = 0) ∧ zz7 ∧ zz8 ∧ (DV.int .i64 0 = DV.int .i64 ((k : Nat) : Int)) ∧ True) ∧ (zz9 ∧ ((((ints (u8s ((ints (u8s ((ints (u8s ((ints ([DV.int .u8 (76 : Int), DV.int .u8 (67 : Int)])) ++ putL 1 (ints ([DV.int .i64 s.bits]))))) ++ putL 4 (ints ([DV.int .i64 s.c.a, DV.int .i64 s.c.b, DV.int .i64 s.c.c, DV.int .i64 s.c.d, DV.int .i64 s.tw, DV.int .i64 s.th, DV.int .i64 ((s.ord.length : Nat) : Int)]))))) ++ putL 4 (ints (is s.ord))))) ++ putL 1 (ints ([DV.int .i64 ((s.ims.length : Nat) : Int)]))).length = (encA s k).length) ∧ True) ∧ (u8s ((ints (u8s ((ints (u8s ((ints (u8s ((ints ([DV.int .u8 (76 : Int), DV.int .u8 (67 : Int)])) ++ putL 1 (ints ([DV.int .i64 s.bits]))))) ++ putL 4 (ints ([DV.int .i64 s.c.a, DV.int .i64 s.c.b, DV.int .i64 s.c.c, DV.int .i64 s.c.d, DV.int .i64 s.tw, DV.int .i64 s.th, DV.int .i64 ((s.ord.length : Nat) : Int)]))))) ++ putL 4 (ints (is s.ord))))) ++ putL 1 (ints ([DV.int .i64 ((s.ims.length : Nat) : Int)]))) = u8s (encA s k)) ∧ True))) ∧ ∀ k : Nat, (k ≤ s.ims.length) → True ∧ (((decide (((k : Nat) : Int) < ((s.ims.length : Nat) : Int))) = true → (0 ≤ ((k : Nat) : Int) ∧ ((k : Nat) : Int) < ((s.ims.length : Nat) : Int) ∧ ((k : Nat) : Int).toNat * 28 < (ims s.ims).length) ∧ ((imQr (ims s.ims) (((k : Nat) : Int).toNat * 28))) ∧ True ∧ True ∧ True ∧ True ∧ (AnsG Try.prog 30 1 [AV.one (Cl.ptr 0 0), imD (imQ (ims s.ims) (((k : Nat) : Int).toNat * 28))] (zz10 k) ⟨AV.tup [], [Bx.cells [Cl.ref 1 (((ints (u8s (encA s k))) ++ imB_ (imQ (ims s.ims) (((k : Nat) : Int).toNat * 28))).length)], Bx.row 5 1 (u8s ((ints (u8s (encA s k))) ++ imB_ (imQ (ims s.ims) (((k : Nat) : Int).toNat * 28))))], false⟩) ∧ True ∧ True ∧ ∃ k' : Nat, (k' ≤ s.ims.length) ∧ (s.ims.length - k' < s.ims.length - k) ∧ (((0 = 0) ∧ (0 = 0) ∧ zz7 ∧ zz8 ∧ (DV.int .i64 (IntKind.wrap .i64 (((k : Nat) : Int) + (1 : Int))) = DV.int .i64 ((k' : Nat) : Int)) ∧ True) ∧ (zz9 ∧ ((((ints (u8s (encA s k))) ++ imB_ (imQ (ims s.ims) (((k : Nat) : Int).toNat * 28))).length = (encA s k').length) ∧ True) ∧ (u8s ((ints (u8s (encA s k))) ++ imB_ (imQ (ims s.ims) (((k : Nat) : Int).toNat * 28))) = u8s (encA s k')) ∧ True))) ∧ ((decide (((k : Nat) : Int) < ((s.ims.length : Nat) : Int))) = false → True ∧ True ∧ True ∧ True ∧ True ∧ (AnsG Try.prog 29 1 [AV.one (Cl.ptr 0 0), AV.one (Cl.d (DV.int .i64 2)), AV.one (Cl.d (DV.sl 1 ([DV.int .i64 ((s.ops.length : Nat) : Int)])))] (zz10 k) ⟨AV.tup [], [Bx.cells [Cl.ref 1 (((ints (u8s (encA s k))) ++ putL 2 (ints ([DV.int .i64 ((s.ops.length : Nat) : Int)]))).length)], Bx.row 5 1 (u8s ((ints (u8s (encA s k))) ++ putL 2 (ints ([DV.int .i64 ((s.ops.length : Nat) : Int)]))))], false⟩) ∧ True ∧ True ∧ True ∧ True ∧ ((∃ j : Nat, (j ≤ s.ops.length) ∧ (((0 = 0) ∧ zz11 ∧ zz12 ∧ (DV.int .i64 0 = DV.int .i64 ((j : Nat) : Int)) ∧ True) ∧ (((((ints (u8s (encA s k))) ++ putL 2 (ints ([DV.int .i64 ((s.ops.length : Nat) : Int)]))).length = (encC s j).length) ∧ True) ∧ (u8s ((ints (u8s (encA s k))) ++ putL 2 (ints ([DV.int .i64 ((s.ops.length : Nat) : Int)]))) = u8s (encC s j)) ∧ True))) ∧ ∀ j : Nat, (j ≤ s.ops.length) → True ∧ (((decide (((j : Nat) : Int) < ((s.ops.length : Nat) : Int))) = true → (0 ≤ ((j : Nat) : Int) ∧ ((j : Nat) : Int) < ((s.ops.length : Nat) : Int) ∧ ((j : Nat) : Int).toNat * 12 < (ops s.ops).length) ∧ ((oqQr (ops s.ops) (((j : Nat) : Int).toNat * 12))) ∧ True ∧ True ∧ True ∧ True ∧ (AnsG Try.prog 31 1 [AV.one (Cl.ptr 0 0), oqD (oqQ (ops s.ops) (((j : Nat) : Int).toNat * 12))] [Bx.cells [Cl.ref 1 ((encC s j).length)], Bx.row 5 1 (u8s (encC s j))] ⟨AV.tup [], [Bx.cells [Cl.ref 1 (((ints (u8s (encC s j))) ++ opB (oqQ (ops s.ops) (((j : Nat) : Int).toNat * 12))).length)], Bx.row 5 1 (u8s ((ints (u8s (encC s j))) ++ opB (oqQ (ops s.ops) (((j : Nat) : Int).toNat * 12))))], false⟩) ∧ True ∧ True ∧ ∃ j' : Nat, (j' ≤ s.ops.length) ∧ (s.ops.length - j' < s.ops.length - j) ∧ (((0 = 0) ∧ zz11 ∧ zz12 ∧ (DV.int .i64 (IntKind.wrap .i64 (((j : Nat) : Int) + (1 : Int))) = DV.int .i64 ((j' : Nat) : Int)) ∧ True) ∧ (((((ints (u8s (encC s j))) ++ opB (oqQ (ops s.ops) (((j : Nat) : Int).toNat * 12))).length = (encC s j').length) ∧ True) ∧ (u8s ((ints (u8s (encC s j))) ++ opB (oqQ (ops s.ops) (((j : Nat) : Int).toNat * 12))) = u8s (encC s j')) ∧ True))) ∧ ((decide (((j : Nat) : Int) < ((s.ops.length : Nat) : Int))) = false → True ∧ True ∧ True ∧ True ∧ True ∧ True ∧ RV.tup [RV.d (DV.sl ((encC s j).length) (u8s (encC s j))), RV.d (DV.int .i64 0)] = RV.tup zz1))))))))) := by kernel_rfl
theorem script_Encode_ans (s : Scr) (hM : ∀ m ∈ s.ims, m.isU) (hos : s.ord.length ≤ 17592186044416) : Ans Try.prog 11 [RV.agg [DV.int .i64 s.bits, DV.int .i64 s.c.a, DV.int .i64 s.c.b, DV.int .i64 s.c.c, DV.int .i64 s.c.d, DV.int .i64 s.tw, DV.int .i64 s.th, DV.sl s.ord.length (is s.ord), DV.sl s.ims.length (ims s.ims), DV.sl s.ops.length (ops s.ops)]] (RV.tup [RV.d (DV.sl ((encS s).1.length) (u8s (encS s).1)), RV.d (DV.int .i64 ((encS s).2))]) :=
  ans_of_vcg (Γ := gamEe) (script_Encode_ann s) mixed_ Try.func11 rfl (Nat.le_of_ble_eq_true rfl) fun hwf => by
    refine Eq.mpr (script_Encode_vc s) ?_
    simp only [true_and, and_true, RV.d.injEq, RV.agg.injEq, RV.tup.injEq, DV.bool.injEq, DV.int.injEq, DV.sl.injEq, List.cons.injEq, forall_const, Bool.not_false, Bool.not_true, Bool.not_eq_true', Bool.not_eq_false', decide_eq_true_eq, decide_eq_false_iff_not, Int.toNat_natCast, imQ, imQr, imC, oqQ, oqQr, oqC, oqD, pxQ, pxQr, pxC, pxD]
    have eo := script_Encodable_ans s hM hos
    have hS : encOk s = false → encS s = ([], 19) := fun h => by unfold encS; rw [h]; rfl
    have hT : encOk s = true → encS s = (encB s, 0) := fun h => by unfold encS; rw [if_pos h]
    clear hwf
    simp only [toIms_ims, toOps_ops, ints_u8s, ints_is, ints_cons, ints_nil]
    have t4 : (4 : Int).toNat = 4 := rfl
    have t1 : (1 : Int).toNat = 1 := rfl
    refine ⟨eo, fun h => ?_, fun h => ?_⟩
    · rw [hS h]; exact ⟨⟨rfl, rfl⟩, rfl⟩
    · have hT := hT h
      have E : Enc s := enc_of h
      have hsz := E.sz
      have hzl := sizeIms_le E.fm
      have hol := E.ol
      have hil := E.il
      have hA := fun k => encA_len E k
      have hC := fun j => encC_len E j
      unfold sizeS at hsz
      have p1 := script_writer_put_ans [76, 67] 1 [s.bits] ⟨by omega, by omega⟩ (by simp only [List.length_cons, List.length_nil]; omega)
      have p2 := script_writer_put_ans ([76, 67] ++ putL 1 [s.bits]) 4 [s.c.a, s.c.b, s.c.c, s.c.d, s.tw, s.th, (s.ord.length : Int)] ⟨by omega, by omega⟩ (by simp only [List.length_append, putL_len, List.length_cons, List.length_nil, t4, t1]; omega)
      have p3 := script_writer_put_ans ([76, 67] ++ putL 1 [s.bits] ++ putL 4 [s.c.a, s.c.b, s.c.c, s.c.d, s.tw, s.th, (s.ord.length : Int)]) 4 s.ord ⟨by omega, by omega⟩ (by simp only [List.length_append, putL_len, List.length_cons, List.length_nil, t4, t1]; omega)
      have p4 := script_writer_put_ans ([76, 67] ++ putL 1 [s.bits] ++ putL 4 [s.c.a, s.c.b, s.c.c, s.c.d, s.tw, s.th, (s.ord.length : Int)] ++ putL 4 s.ord) 1 [(s.ims.length : Int)] ⟨by omega, by omega⟩ (by simp only [List.length_append, putL_len, List.length_cons, List.length_nil, t4, t1]; omega)
      have eA : [76, 67] ++ putL 1 [s.bits] ++ putL 4 [s.c.a, s.c.b, s.c.c, s.c.d, s.tw, s.th, (s.ord.length : Int)] ++ putL 4 s.ord ++ putL 1 [(s.ims.length : Int)] = encA s 0 := by unfold encA; simp only [List.take_zero, List.flatMap_nil, List.append_nil]
      refine ⟨by omega, p1, p2, p3, p4, ⟨0, Nat.zero_le _, rfl, by rw [eA], by rw [eA]⟩, fun k hk => ⟨fun hlt => ?_, fun hge => ?_⟩⟩
      · have hk : k < s.ims.length := by omega
        have q1 := ims_rd hk
        have q2 := ims_at hk
        have w1 : IntKind.wrap .i64 ((k : Int) + 1) = ((k + 1 : Nat) : Int) := by rw [IntWalk.i64_in _ ⟨by omega, by omega⟩]; omega
        have hfm : s.ims[k].formed = true := by have := E.fm; rw [List.all_eq_true] at this; exact this _ (List.getElem_mem hk)
        have pi := script_writer_image_ans (encA s k) s.ims[k] hfm (hM _ (List.getElem_mem hk)) (by have := (hA k).2; omega)
        have eS := encA_succ hk
        simp only [q2, w1]
        refine ⟨⟨by omega, by omega, by rw [ims_length]; omega⟩, q1, pi, k + 1, by omega, by omega, rfl, ?_, ?_⟩
        · rw [eS]
        · rw [eS]
      · have : k = s.ims.length := by omega
        subst this
        have p5 := script_writer_put_ans (encA s s.ims.length) 2 [(s.ops.length : Int)] ⟨by omega, by omega⟩ (by have := (hA s.ims.length).2; simp only [List.length_cons, List.length_nil]; omega)
        have eC : encA s s.ims.length ++ putL 2 [(s.ops.length : Int)] = encC s 0 := by unfold encC; simp only [List.take_zero, List.flatMap_nil, List.append_nil]
        refine ⟨p5, ⟨0, Nat.zero_le _, rfl, by rw [eC], by rw [eC]⟩, fun j hj => ⟨fun hlt => ?_, fun hge => ?_⟩⟩
        · have hj : j < s.ops.length := by omega
          have q1 := ops_rd hj
          have q2 := ops_at hj
          have w1 : IntKind.wrap .i64 ((j : Int) + 1) = ((j + 1 : Nat) : Int) := by rw [IntWalk.i64_in _ ⟨by omega, by omega⟩]; omega
          have po := script_writer_op_ans (encC s j) s.ops[j] (by have := hC j; omega)
          have eS := encC_succ hj
          simp only [q2, w1]
          refine ⟨⟨by omega, by omega, by rw [ops_length]; omega⟩, q1, po, j + 1, by omega, by omega, rfl, ?_, ?_⟩
          · rw [eS]
          · rw [eS]
        · have : j = s.ops.length := by omega
          subst this
          rw [hT, encC_all]
          exact ⟨⟨rfl, rfl⟩, rfl⟩

end Go.Proofs.Ytkfgmaecbclgfaa

/-
  The bytes of a script, by the reference.
-/
namespace Go.Proofs.Ytkfgmaecbclgfaa
open Go.RowKit
set_option linter.unusedVariables false
set_option linter.unusedSimpArgs false
attribute [local irreducible] Ans AnsO AnsG AnsN AnsI

set_option maxRecDepth 4000
theorem wf_ops {l : List Oq} (h : DV.wfs (ops l)) {k : Nat} (hk : k < l.length) : 0 ≤ l[k].opac ∧ l[k].opac ≤ 65535 := by
  obtain ⟨_, _, _, _, _, _, _, e, _⟩ := ops_rd hk
  have := (wfs_iff _).1 h _ (List.mem_of_getElem? e)
  exact this
theorem u64_8 {i : Nat} (h : i < 8) : IntKind.wrap .u64 (8 * (i : Int)) = 8 * (i : Int) := by
  rcases (by omega : i = 0 ∨ i = 1 ∨ i = 2 ∨ i = 3 ∨ i = 4 ∨ i = 5 ∨ i = 6 ∨ i = 7) with rfl | rfl | rfl | rfl | rfl | rfl | rfl | rfl <;> rfl
def hdr7 (s : Scr) : List Int := [76, 67] ++ putL 1 [s.bits] ++ putL 4 [s.c.a, s.c.b, s.c.c, s.c.d, s.tw, s.th, (s.ord.length : Int)]
def encO (s : Scr) (k : Nat) : List Int := hdr7 s ++ putL 4 (s.ord.take k)
def hdB (m : Im) : List Int := putL 1 [if m.so then 1 else 0] ++ putL 4 [m.w, m.h]
def pxL (m : Im) : List Px := if m.so then [m.c] else m.pixels
def mAt (s : Scr) (k : Nat) : Im := s.ims[k]?.getD (solidIm 0 0 .zero)
theorem mAt_of {s : Scr} {k : Nat} (h : k < s.ims.length) : mAt s k = s.ims[k] := by simp [mAt, List.getElem?_eq_getElem h]
theorem encO_succ {s : Scr} {k : Nat} (h : k < s.ord.length) : encO s (k + 1) = encO s k ++ beI 4 s.ord[k] := by
  unfold encO
  rw [putL_take h, List.append_assoc]
theorem encO_all (s : Scr) : encO s s.ord.length ++ beI 1 (s.ims.length : Int) = encA s 0 := by
  unfold encO encA hdr7
  simp only [List.take_length, List.take_zero, List.flatMap_nil, List.append_nil]
  rfl
theorem imB_hd (m : Im) : imB_ m = hdB m ++ (pxL m).flatMap pxB := by
  unfold imB_ hdB pxL
  cases m.so <;> simp
def gamEf : Gam where
 pure := fun f xs =>
  if f = 17 then (match xs with | [.agg [.int _ bits, .int _ cx0, .int _ cy0, .int _ cx1, .int _ cy1, .int _ tw, .int _ th, .sl on oxs, .sl mn mxs, .sl pn pxs]] => some (RV.d (DV.bool (encOk (⟨bits, ⟨cx0, cy0, cx1, cy1⟩, tw, th, ints oxs, toIms mxs, toOps pxs⟩ : Scr)))) | _ => none) else
  if f = 33 then (match xs with | [.d (.bool is_)] => some (RV.d (DV.int .i64 (if is_ then 1 else 0))) | _ => none) else
  if f = 34 then (match xs with | [] => some (RV.tup [RV.tup [RV.d (DV.int .i64 37), RV.d (DV.int .i64 5)]]) | [.agg [.int _ w, .int _ h, .bool so, .int _ c0, .int _ c1, .int _ c2, .int _ ca, .int _ cf, .int _ w0, .int _ h0, .int _ s0, .sl n0 xs0, .int _ w1, .int _ h1, .int _ s1, .sl n1 xs1, .int _ w2, .int _ h2, .int _ s2, .sl n2 xs2, .int _ w3, .int _ h3, .int _ s3, .sl n3 xs3, .int _ w4, .int _ h4, .int _ s4, .sl n4 xs4]] => some (RV.d (DV.sl ((Im.pixels ⟨w, h, so, ⟨c0, c1, c2, ca, cf⟩, ⟨w0, h0, s0, n0, xs0⟩, ⟨w1, h1, s1, n1, xs1⟩, ⟨w2, h2, s2, n2, xs2⟩, ⟨w3, h3, s3, n3, xs3⟩, ⟨w4, h4, s4, n4, xs4⟩⟩).length) (pxs (Im.pixels ⟨w, h, so, ⟨c0, c1, c2, ca, cf⟩, ⟨w0, h0, s0, n0, xs0⟩, ⟨w1, h1, s1, n1, xs1⟩, ⟨w2, h2, s2, n2, xs2⟩, ⟨w3, h3, s3, n3, xs3⟩, ⟨w4, h4, s4, n4, xs4⟩⟩)))) | _ => none) else
  none
 modes := fun f =>
  if f = 32 then some ([false, true, true], 0, 1) else
  if f = 35 then some ([false, true], 0, 1) else
  none
 proc := fun f xs bs =>
  if f = 32 then (match xs, bs with | [AV.one (Cl.ref 0 bn), AV.one (Cl.d (DV.int _ n)), AV.one (Cl.d (DV.int _ size))], [Bx.row _ _ bxs] => some ⟨AV.one (Cl.ref 0 (((ints bxs) ++ beI size.toNat n).length)), [Bx.row 5 1 (u8s ((ints bxs) ++ beI size.toNat n))], false⟩ | _, _ => none) else
  if f = 35 then (match xs, bs with | [AV.one (Cl.ref 0 bn), AV.agg [Cl.d (DV.int _ c0), Cl.d (DV.int _ c1), Cl.d (DV.int _ c2), Cl.d (DV.int _ ca), Cl.d (DV.int _ cf)]], [Bx.row _ _ bxs] => some ⟨AV.one (Cl.ref 0 (((ints bxs) ++ pxB ⟨c0, c1, c2, ca, cf⟩).length)), [Bx.row 5 1 (u8s ((ints bxs) ++ pxB ⟨c0, c1, c2, ca, cf⟩))], false⟩ | _, _ => none) else
  none
 iter := fun f cs =>
  none

def R18_bit_ann (is_ : Bool) : Ann := Ann.leaf
theorem R18_bit_vc (is_ : Bool) : vcg Try.prog gamEf 4 (bodyOf Try.f33) (R18_bit_ann is_) kn0 (start [RV.d (DV.bool is_)]) (post Try.prog Try.f33.results.toList (· = RV.d (DV.int .i64 (if is_ then 1 else 0)))) =
  (let zz0 := (DV.int .i64 (if is_ then 1 else 0)); True ∧ True ∧ ((is_ = true → True ∧ RV.d (DV.int .i64 1) = RV.d zz0) ∧ (is_ = false → True ∧ RV.d (DV.int .i64 0) = RV.d zz0))) := by kernel_rfl
theorem R18_bit_ans (is_ : Bool) : Ans Try.prog 33 [RV.d (DV.bool is_)] (RV.d (DV.int .i64 (if is_ then 1 else 0))) :=
  ans_of_vcg (Γ := gamEf) (R18_bit_ann is_) mixed_ Try.func33 rfl (Nat.le_of_ble_eq_true rfl) fun hwf => by
    refine Eq.mpr (R18_bit_vc is_) ?_
    simp only [true_and, and_true, RV.d.injEq, RV.agg.injEq, RV.tup.injEq, DV.bool.injEq, DV.int.injEq, DV.sl.injEq, List.cons.injEq, forall_const, Bool.not_false, Bool.not_true, Bool.not_eq_true', Bool.not_eq_false', decide_eq_true_eq, decide_eq_false_iff_not, Int.toNat_natCast, imQ, imQr, imC, oqQ, oqQr, oqC, oqD, pxQ, pxQr, pxC, pxD]
    cases is_ <;> simp

def R18_big_ann (b : List Int) (n : Int) (size : Int) : Ann := (Ann.seq Ann.leaf (Ann.seq (Ann.seq Ann.leaf (Ann.loop ⟨Nat, fun j => j ≤ size.toNat, fun j => ⟨[(0, AV.one (Cl.ref 9001 ((b ++ (beI size.toNat n).take j).length))), (1, AV.one (Cl.d (DV.int .i64 n))), (7, AV.one (Cl.d (DV.int .i64 (size - 1 - (j : Int)))))], [(9001, Bx.row 5 1 (u8s (b ++ (beI size.toNat n).take j)))]⟩, fun j => size.toNat - j⟩ fun j => Ann.leaf)) Ann.leaf))
theorem R18_big_vc (b : List Int) (n : Int) (size : Int) : vcg Try.prog gamEf ⟨24, fun _ => false, List.range 0, false⟩ (bodyOf Try.f32) (R18_big_ann b n size) kn0 (startG [AV.one (Cl.ref 0 b.length), AV.one (Cl.d (DV.int .i64 n)), AV.one (Cl.d (DV.int .i64 size))] [Bx.row 5 1 (u8s b)]) (postG Try.prog ⟨24, fun _ => false, List.range 0, false⟩ Try.f32.results.toList ⟨AV.one (Cl.ref 0 ((b ++ beI size.toNat n).length)), [Bx.row 5 1 (u8s (b ++ beI size.toNat n))], false⟩) =
  (let zz0 := (DV.int .i64 n = DV.int .i64 n); let zz1 := fun (j : Nat) => (IntKind.wrap .i64 ((8 : Int) * (size - 1 - (j : Int)))); True ∧ True ∧ True ∧ True ∧ ((∃ j : Nat, (j ≤ size.toNat) ∧ (((b.length = (b ++ (beI size.toNat n).take j).length) ∧ zz0 ∧ (DV.int .i64 (IntKind.wrap .i64 (size - (1 : Int))) = DV.int .i64 (size - 1 - (j : Int))) ∧ True) ∧ ((u8s b = u8s (b ++ (beI size.toNat n).take j)) ∧ True))) ∧ ∀ j : Nat, (j ≤ size.toNat) → True ∧ True ∧ (((decide ((size - 1 - (j : Int)) ≥ (0 : Int))) = true → True ∧ True ∧ True ∧ True ∧ True ∧ (0 ≤ IntKind.wrap .u64 (zz1 j)) ∧ True ∧ True ∧ (appVc 1 1 ((b ++ (beI size.toNat n).take j).length) 1 (u8s (b ++ (beI size.toNat n).take j)) ([DV.int .u8 (IntKind.wrap .u8 (Int.fdiv n (2 ^ min (IntKind.wrap .u64 (zz1 j)).toNat 64)))])) ∧ True ∧ True ∧ True ∧ True ∧ ∃ j' : Nat, (j' ≤ size.toNat) ∧ (size.toNat - j' < size.toNat - j) ∧ (((((b ++ (beI size.toNat n).take j).length) + 1 = (b ++ (beI size.toNat n).take j').length) ∧ zz0 ∧ (DV.int .i64 (IntKind.wrap .i64 ((size - 1 - (j : Int)) - (1 : Int))) = DV.int .i64 (size - 1 - (j' : Int))) ∧ True) ∧ (((u8s (b ++ (beI size.toNat n).take j)) ++ ([DV.int .u8 (IntKind.wrap .u8 (Int.fdiv n (2 ^ min (IntKind.wrap .u64 (zz1 j)).toNat 64)))]) = u8s (b ++ (beI size.toNat n).take j')) ∧ True))) ∧ ((decide ((size - 1 - (j : Int)) ≥ (0 : Int))) = false → True ∧ True ∧ ((((b ++ (beI size.toNat n).take j).length = (b ++ beI size.toNat n).length) ∧ True) ∧ ((u8s (b ++ (beI size.toNat n).take j) = u8s (b ++ beI size.toNat n)) ∧ True)) ∧ freshOK ⟨AV.one (Cl.ref 0 ((b ++ beI size.toNat n).length)), [Bx.row 5 1 (u8s (b ++ beI size.toNat n))], false⟩)))) := by kernel_rfl
theorem R18_big_ans (b : List Int) (n : Int) (size : Int) (hn : 1 ≤ size ∧ size ≤ 8) (hb : b.length ≤ 900000000) : AnsG Try.prog 32 0 [AV.one (Cl.ref 0 b.length), AV.one (Cl.d (DV.int .i64 n)), AV.one (Cl.d (DV.int .i64 size))] [Bx.row 5 1 (u8s b)] ⟨AV.one (Cl.ref 0 ((b ++ beI size.toNat n).length)), [Bx.row 5 1 (u8s (b ++ beI size.toNat n))], false⟩ :=
  ansG_of_vcg (Γ := gamEf) (R18_big_ann b n size) mixed_ Try.func32 rfl (Nat.le_of_ble_eq_true rfl) rfl fun hwf hbx => by
    refine Eq.mpr (R18_big_vc b n size) ?_
    simp only [true_and, and_true, RV.d.injEq, RV.agg.injEq, RV.tup.injEq, DV.bool.injEq, DV.int.injEq, DV.sl.injEq, List.cons.injEq, forall_const, Bool.not_false, Bool.not_true, Bool.not_eq_true', Bool.not_eq_false', decide_eq_true_eq, decide_eq_false_iff_not, Int.toNat_natCast, imQ, imQr, imC, oqQ, oqQr, oqC, oqD, pxQ, pxQr, pxC, pxD]
    obtain ⟨hn1, hn8⟩ := hn
    generalize hN : size.toNat = N at *
    have hnN : size = (N : Int) := by omega
    subst hnN
    have hN8 : 1 ≤ N ∧ N ≤ 8 := by omega
    clear hN hn1 hn8 hwf
    have w2 : IntKind.wrap .i64 ((N : Int) - 1) = (N : Int) - 1 := IntWalk.i64_in _ ⟨by omega, by omega⟩
    refine ⟨⟨0, Nat.zero_le _, ⟨by simp, by rw [w2]; omega⟩, by simp⟩, fun j hj => ⟨fun hj0 => ?_, fun hj0 => ?_⟩⟩
    · have hjN : j < N := by omega
      have hi : ∃ i : Nat, (i : Int) = (N : Int) - 1 - (j : Int) ∧ i = N - 1 - j := ⟨N - 1 - j, by omega, rfl⟩
      obtain ⟨i, hi, hi2⟩ := hi
      have hb1 := beI_take (v := n) hjN
      have hl1 : ((beI N n).take j).length = j := by rw [List.length_take, beI_len, Nat.min_eq_left (by omega)]
      have w3 : IntKind.wrap .i64 (8 * (i : Int)) = 8 * (i : Int) := IntWalk.i64_in _ ⟨by omega, by omega⟩
      have w5 := u64_8 (by omega : i < 8)
      have w4 : IntKind.wrap .i64 ((i : Int) - 1) = (i : Int) - 1 := IntWalk.i64_in _ ⟨by omega, by omega⟩
      have w6 := byI_eq n (by omega : i < 8)
      rw [w3] at w6
      rw [← hi, w3, w5, w4, w6, hi2]
      refine ⟨by omega, ⟨by rw [u8s_len, Nat.mul_one], rfl, ?_, ?_⟩, j + 1, by omega, by omega, ⟨?_, by omega⟩, ?_⟩
      · simp only [List.length_append, hl1, maxLen]; omega
      · simp only [List.length_append, hl1]; omega
      · rw [hb1]; simp only [List.length_append, List.length_cons, List.length_nil]; omega
      · rw [hb1]; simp [u8s]
    · have : j = N := by omega
      subst this
      rw [List.take_of_length_le (l := beI j n) (by rw [beI_len]; omega)]
      exact ⟨⟨rfl, rfl⟩, trivial⟩

def R18_pixel_ann (b : List Int) (p : Px) : Ann := Ann.leaf
theorem R18_pixel_vc (b : List Int) (p : Px) : vcg Try.prog gamEf ⟨29, fun _ => false, List.range 0, false⟩ (bodyOf Try.f35) (R18_pixel_ann b p) kn0 (startG [AV.one (Cl.ref 0 b.length), AV.agg [Cl.d (DV.int .u16 p.a), Cl.d (DV.int .u16 p.b), Cl.d (DV.int .u16 p.c), Cl.d (DV.int .u16 p.al), Cl.d (DV.int .u16 p.f)]] [Bx.row 5 1 (u8s b)]) (postG Try.prog ⟨29, fun _ => false, List.range 0, false⟩ Try.f35.results.toList ⟨AV.one (Cl.ref 0 ((b ++ pxB p).length)), [Bx.row 5 1 (u8s (b ++ pxB p))], false⟩) =
  (let zz0 := (Cl.d (DV.int .i64 2)); let zz1 := (Cl.ref 0 (((ints (u8s b)) ++ beI 2 (IntKind.wrap .i64 p.a)).length)); let zz2 := [Bx.row 5 1 (u8s ((ints (u8s b)) ++ beI 2 (IntKind.wrap .i64 p.a)))]; let zz3 := (Cl.ref 0 (((ints (u8s ((ints (u8s b)) ++ beI 2 (IntKind.wrap .i64 p.a)))) ++ beI 2 (IntKind.wrap .i64 p.b)).length)); let zz4 := [Bx.row 5 1 (u8s ((ints (u8s ((ints (u8s b)) ++ beI 2 (IntKind.wrap .i64 p.a)))) ++ beI 2 (IntKind.wrap .i64 p.b)))]; let zz5 := (Cl.ref 0 (((ints (u8s ((ints (u8s ((ints (u8s b)) ++ beI 2 (IntKind.wrap .i64 p.a)))) ++ beI 2 (IntKind.wrap .i64 p.b)))) ++ beI 2 (IntKind.wrap .i64 p.c)).length)); let zz6 := [Bx.row 5 1 (u8s ((ints (u8s ((ints (u8s ((ints (u8s b)) ++ beI 2 (IntKind.wrap .i64 p.a)))) ++ beI 2 (IntKind.wrap .i64 p.b)))) ++ beI 2 (IntKind.wrap .i64 p.c)))]; let zz7 := (Cl.ref 0 (((ints (u8s ((ints (u8s ((ints (u8s ((ints (u8s b)) ++ beI 2 (IntKind.wrap .i64 p.a)))) ++ beI 2 (IntKind.wrap .i64 p.b)))) ++ beI 2 (IntKind.wrap .i64 p.c)))) ++ beI 2 (IntKind.wrap .i64 p.al)).length)); let zz8 := [Bx.row 5 1 (u8s ((ints (u8s ((ints (u8s ((ints (u8s ((ints (u8s b)) ++ beI 2 (IntKind.wrap .i64 p.a)))) ++ beI 2 (IntKind.wrap .i64 p.b)))) ++ beI 2 (IntKind.wrap .i64 p.c)))) ++ beI 2 (IntKind.wrap .i64 p.al)))]; True ∧ True ∧ True ∧ True ∧ (0 ≤ (0 : Int) ∧ (0 : Int) < ((3 : Nat) : Int)) ∧ True ∧ True ∧ (AnsG Try.prog 32 0 [AV.one (Cl.ref 0 b.length), AV.one (Cl.d (DV.int .i64 (IntKind.wrap .i64 p.a))), AV.one zz0] [Bx.row 5 1 (u8s b)] ⟨AV.one zz1, zz2, false⟩) ∧ True ∧ (0 ≤ (1 : Int) ∧ (1 : Int) < ((3 : Nat) : Int)) ∧ True ∧ True ∧ (AnsG Try.prog 32 0 [AV.one zz1, AV.one (Cl.d (DV.int .i64 (IntKind.wrap .i64 p.b))), AV.one zz0] zz2 ⟨AV.one zz3, zz4, false⟩) ∧ True ∧ (0 ≤ (2 : Int) ∧ (2 : Int) < ((3 : Nat) : Int)) ∧ True ∧ True ∧ (AnsG Try.prog 32 0 [AV.one zz3, AV.one (Cl.d (DV.int .i64 (IntKind.wrap .i64 p.c))), AV.one zz0] zz4 ⟨AV.one zz5, zz6, false⟩) ∧ True ∧ True ∧ True ∧ (AnsG Try.prog 32 0 [AV.one zz5, AV.one (Cl.d (DV.int .i64 (IntKind.wrap .i64 p.al))), AV.one zz0] zz6 ⟨AV.one zz7, zz8, false⟩) ∧ True ∧ True ∧ True ∧ (AnsG Try.prog 32 0 [AV.one zz7, AV.one (Cl.d (DV.int .i64 (IntKind.wrap .i64 p.f))), AV.one zz0] zz8 ⟨AV.one (Cl.ref 0 (((ints (u8s ((ints (u8s ((ints (u8s ((ints (u8s ((ints (u8s b)) ++ beI 2 (IntKind.wrap .i64 p.a)))) ++ beI 2 (IntKind.wrap .i64 p.b)))) ++ beI 2 (IntKind.wrap .i64 p.c)))) ++ beI 2 (IntKind.wrap .i64 p.al)))) ++ beI 2 (IntKind.wrap .i64 p.f)).length)), [Bx.row 5 1 (u8s ((ints (u8s ((ints (u8s ((ints (u8s ((ints (u8s ((ints (u8s b)) ++ beI 2 (IntKind.wrap .i64 p.a)))) ++ beI 2 (IntKind.wrap .i64 p.b)))) ++ beI 2 (IntKind.wrap .i64 p.c)))) ++ beI 2 (IntKind.wrap .i64 p.al)))) ++ beI 2 (IntKind.wrap .i64 p.f)))], false⟩) ∧ True ∧ (true = true) ∧ (((((ints (u8s ((ints (u8s ((ints (u8s ((ints (u8s ((ints (u8s b)) ++ beI 2 (IntKind.wrap .i64 p.a)))) ++ beI 2 (IntKind.wrap .i64 p.b)))) ++ beI 2 (IntKind.wrap .i64 p.c)))) ++ beI 2 (IntKind.wrap .i64 p.al)))) ++ beI 2 (IntKind.wrap .i64 p.f)).length = (b ++ pxB p).length) ∧ True) ∧ ((u8s ((ints (u8s ((ints (u8s ((ints (u8s ((ints (u8s ((ints (u8s b)) ++ beI 2 (IntKind.wrap .i64 p.a)))) ++ beI 2 (IntKind.wrap .i64 p.b)))) ++ beI 2 (IntKind.wrap .i64 p.c)))) ++ beI 2 (IntKind.wrap .i64 p.al)))) ++ beI 2 (IntKind.wrap .i64 p.f)) = u8s (b ++ pxB p)) ∧ True)) ∧ freshOK ⟨AV.one (Cl.ref 0 ((b ++ pxB p).length)), [Bx.row 5 1 (u8s (b ++ pxB p))], false⟩) := by kernel_rfl
theorem R18_pixel_ans (b : List Int) (p : Px) (hb : b.length ≤ 800000000) : AnsG Try.prog 35 0 [AV.one (Cl.ref 0 b.length), AV.agg [Cl.d (DV.int .u16 p.a), Cl.d (DV.int .u16 p.b), Cl.d (DV.int .u16 p.c), Cl.d (DV.int .u16 p.al), Cl.d (DV.int .u16 p.f)]] [Bx.row 5 1 (u8s b)] ⟨AV.one (Cl.ref 0 ((b ++ pxB p).length)), [Bx.row 5 1 (u8s (b ++ pxB p))], false⟩ :=
  ansG_of_vcg (Γ := gamEf) (R18_pixel_ann b p) mixed_ Try.func35 rfl (Nat.le_of_ble_eq_true rfl) rfl fun hwf hbx => by
    refine Eq.mpr (R18_pixel_vc b p) ?_
    simp only [true_and, and_true, RV.d.injEq, RV.agg.injEq, RV.tup.injEq, DV.bool.injEq, DV.int.injEq, DV.sl.injEq, List.cons.injEq, forall_const, Bool.not_false, Bool.not_true, Bool.not_eq_true', Bool.not_eq_false', decide_eq_true_eq, decide_eq_false_iff_not, Int.toNat_natCast, imQ, imQr, imC, oqQ, oqQr, oqC, oqD, pxQ, pxQr, pxC, pxD]
    simp only [AV.wfL, AV.wf, Cl.wfs, DV.wf] at hwf
    have w0 : ∀ n : Int, 0 ≤ n ∧ n ≤ 65535 → IntKind.wrap .i64 n = n := fun n h => IntWalk.i64_in _ ⟨by omega, by omega⟩
    obtain ⟨_, ⟨h1, h2, h3, h4, h5, _⟩, _⟩ := hwf
    simp only [ints_u8s, w0 _ h1, w0 _ h2, w0 _ h3, w0 _ h4, w0 _ h5]
    have e : b ++ beI 2 (p.a) ++ beI 2 (p.b) ++ beI 2 (p.c) ++ beI 2 (p.al) ++ beI 2 (p.f) = b ++ pxB p := by simp only [pxB, putL, List.flatMap_cons, List.flatMap_nil, List.append_nil, List.append_assoc]
    refine ⟨⟨by omega, by omega⟩, R18_big_ans (b) (p.a) 2 ⟨by omega, by omega⟩ (by first | omega | (simp only [List.length_append, beI_len, List.length_cons, List.length_nil]; omega)), ⟨by omega, by omega⟩, R18_big_ans (b ++ beI 2 (p.a)) (p.b) 2 ⟨by omega, by omega⟩ (by first | omega | (simp only [List.length_append, beI_len, List.length_cons, List.length_nil]; omega)), ⟨by omega, by omega⟩, R18_big_ans (b ++ beI 2 (p.a) ++ beI 2 (p.b)) (p.c) 2 ⟨by omega, by omega⟩ (by first | omega | (simp only [List.length_append, beI_len, List.length_cons, List.length_nil]; omega)), R18_big_ans (b ++ beI 2 (p.a) ++ beI 2 (p.b) ++ beI 2 (p.c)) (p.al) 2 ⟨by omega, by omega⟩ (by first | omega | (simp only [List.length_append, beI_len, List.length_cons, List.length_nil]; omega)), R18_big_ans (b ++ beI 2 (p.a) ++ beI 2 (p.b) ++ beI 2 (p.c) ++ beI 2 (p.al)) (p.f) 2 ⟨by omega, by omega⟩ (by first | omega | (simp only [List.length_append, beI_len, List.length_cons, List.length_nil]; omega)), ⟨?_, ?_⟩, trivial⟩
    · rw [← e]
    · rw [← e]

def R18_Encode_ann (s : Scr) : Ann := let zz0 := (1, Bx.cells [Cl.d (DV.int .i64 s.bits), Cl.d (DV.int .i64 s.c.a), Cl.d (DV.int .i64 s.c.b), Cl.d (DV.int .i64 s.c.c), Cl.d (DV.int .i64 s.c.d), Cl.d (DV.int .i64 s.tw), Cl.d (DV.int .i64 s.th), Cl.d (DV.sl s.ord.length (is s.ord)), Cl.d (DV.sl s.ims.length (ims s.ims)), Cl.d (DV.sl s.ops.length (ops s.ops))]); let zz1 := fun (k : Nat) => (7, AV.one (Cl.d (DV.int .i64 ((k : Nat) : Int)))); let zz2 := fun (k : Nat) => (9, AV.one (Cl.ref 9010 ((pxL (mAt s k)).length))); let zz3 := fun (k : Nat) => (9010, Bx.row 37 5 (pxs (pxL (mAt s k)))); (Ann.seq Ann.leaf (Ann.seq Ann.leaf (Ann.seq Ann.leaf (Ann.seq Ann.leaf (Ann.seq Ann.leaf (Ann.seq Ann.leaf (Ann.seq (Ann.seq Ann.leaf (Ann.loop ⟨Nat, fun i => i ≤ s.ord.length, fun i => ⟨[(1, AV.one (Cl.ptr 1 0)), (5, AV.one (Cl.ref 9001 ((encO s i).length))), (6, AV.one (Cl.d (DV.int .i64 ((i : Nat) : Int))))], [zz0, (9001, Bx.row 5 1 (u8s (encO s i)))]⟩, fun i => s.ord.length - i⟩ fun i => Ann.leaf)) (Ann.seq Ann.leaf (Ann.seq (Ann.seq Ann.leaf (Ann.loop ⟨Nat, fun k => k ≤ s.ims.length, fun k => ⟨[(1, AV.one (Cl.ptr 1 0)), (5, AV.one (Cl.ref 9002 ((encA s k).length))), (zz1 k)], [zz0, (9002, Bx.row 5 1 (u8s (encA s k)))]⟩, fun k => s.ims.length - k⟩ fun k => (Ann.seq Ann.leaf (Ann.seq (Ann.seq Ann.leaf (Ann.seq Ann.leaf (Ann.seq Ann.leaf (Ann.cut ⟨Nat, fun z => z = 0, fun z => ⟨[(1, AV.one (Cl.ptr 1 0)), (5, AV.one (Cl.ref 9005 ((encA s k ++ hdB (mAt s k)).length))), (zz1 k), (zz2 k)], [zz0, (9005, Bx.row 5 1 (u8s (encA s k ++ hdB (mAt s k)))), (zz3 k)]⟩, fun z => 0⟩ Ann.leaf fun z => (Ann.seq Ann.leaf (Ann.loop ⟨Nat, fun q => q ≤ (pxL (mAt s k)).length, fun q => ⟨[(1, AV.one (Cl.ptr 1 0)), (5, AV.one (Cl.ref 9003 ((encA s k ++ hdB (mAt s k) ++ ((pxL (mAt s k)).take q).flatMap pxB).length))), (zz1 k), (zz2 k), (10, AV.one (Cl.d (DV.int .i64 ((q : Nat) : Int))))], [zz0, (9003, Bx.row 5 1 (u8s (encA s k ++ hdB (mAt s k) ++ ((pxL (mAt s k)).take q).flatMap pxB))), (zz3 k)]⟩, fun q => (pxL (mAt s k)).length - q⟩ fun q => Ann.leaf)))))) Ann.leaf)))) (Ann.seq Ann.leaf (Ann.seq (Ann.seq Ann.leaf (Ann.loop ⟨Nat, fun j => j ≤ s.ops.length, fun j => ⟨[(1, AV.one (Cl.ptr 1 0)), (5, AV.one (Cl.ref 9004 ((encC s j).length))), (11, AV.one (Cl.d (DV.int .i64 ((j : Nat) : Int))))], [zz0, (9004, Bx.row 5 1 (u8s (encC s j)))]⟩, fun j => s.ops.length - j⟩ fun j => Ann.leaf)) Ann.leaf)))))))))))
theorem R18_Encode_vc (s : Scr) : vcg Try.prog gamEf 170 (bodyOf Try.f12) (R18_Encode_ann s) kn0 (start [RV.agg [DV.int .i64 s.bits, DV.int .i64 s.c.a, DV.int .i64 s.c.b, DV.int .i64 s.c.c, DV.int .i64 s.c.d, DV.int .i64 s.tw, DV.int .i64 s.th, DV.sl s.ord.length (is s.ord), DV.sl s.ims.length (ims s.ims), DV.sl s.ops.length (ops s.ops)]]) (post Try.prog Try.f12.results.toList (· = RV.tup [RV.d (DV.sl ((encS s).1.length) (u8s (encS s).1)), RV.d (DV.int .i64 ((encS s).2))])) =
  (let zz0 := [DV.int .i64 s.bits, DV.int .i64 s.c.a, DV.int .i64 s.c.b, DV.int .i64 s.c.c, DV.int .i64 s.c.d, DV.int .i64 s.tw, DV.int .i64 s.th, DV.sl s.ord.length (is s.ord), DV.sl s.ims.length (ims s.ims), DV.sl s.ops.length (ops s.ops)]; let zz1 := [RV.d (DV.sl ((encS s).1.length) (u8s (encS s).1)), RV.d (DV.int .i64 ((encS s).2))]; let zz2 := (Cl.d (DV.int .i64 1)); let zz3 := (Cl.ref 0 (((ints ([DV.int .u8 (76 : Int), DV.int .u8 (67 : Int)])) ++ beI 1 s.bits).length)); let zz4 := [Bx.row 5 1 (u8s ((ints ([DV.int .u8 (76 : Int), DV.int .u8 (67 : Int)])) ++ beI 1 s.bits))]; let zz5 := (Cl.d (DV.int .i64 4)); let zz6 := (Cl.ref 0 (((ints (u8s ((ints ([DV.int .u8 (76 : Int), DV.int .u8 (67 : Int)])) ++ beI 1 s.bits))) ++ beI 4 s.c.a).length)); let zz7 := [Bx.row 5 1 (u8s ((ints (u8s ((ints ([DV.int .u8 (76 : Int), DV.int .u8 (67 : Int)])) ++ beI 1 s.bits))) ++ beI 4 s.c.a))]; let zz8 := (Cl.ref 0 (((ints (u8s ((ints (u8s ((ints ([DV.int .u8 (76 : Int), DV.int .u8 (67 : Int)])) ++ beI 1 s.bits))) ++ beI 4 s.c.a))) ++ beI 4 s.c.b).length)); let zz9 := [Bx.row 5 1 (u8s ((ints (u8s ((ints (u8s ((ints ([DV.int .u8 (76 : Int), DV.int .u8 (67 : Int)])) ++ beI 1 s.bits))) ++ beI 4 s.c.a))) ++ beI 4 s.c.b))]; let zz10 := (Cl.ref 0 (((ints (u8s ((ints (u8s ((ints (u8s ((ints ([DV.int .u8 (76 : Int), DV.int .u8 (67 : Int)])) ++ beI 1 s.bits))) ++ beI 4 s.c.a))) ++ beI 4 s.c.b))) ++ beI 4 s.c.c).length)); let zz11 := [Bx.row 5 1 (u8s ((ints (u8s ((ints (u8s ((ints (u8s ((ints ([DV.int .u8 (76 : Int), DV.int .u8 (67 : Int)])) ++ beI 1 s.bits))) ++ beI 4 s.c.a))) ++ beI 4 s.c.b))) ++ beI 4 s.c.c))]; let zz12 := (Cl.ref 0 (((ints (u8s ((ints (u8s ((ints (u8s ((ints (u8s ((ints ([DV.int .u8 (76 : Int), DV.int .u8 (67 : Int)])) ++ beI 1 s.bits))) ++ beI 4 s.c.a))) ++ beI 4 s.c.b))) ++ beI 4 s.c.c))) ++ beI 4 s.c.d).length)); let zz13 := [Bx.row 5 1 (u8s ((ints (u8s ((ints (u8s ((ints (u8s ((ints (u8s ((ints ([DV.int .u8 (76 : Int), DV.int .u8 (67 : Int)])) ++ beI 1 s.bits))) ++ beI 4 s.c.a))) ++ beI 4 s.c.b))) ++ beI 4 s.c.c))) ++ beI 4 s.c.d))]; let zz14 := (Cl.ref 0 (((ints (u8s ((ints (u8s ((ints (u8s ((ints (u8s ((ints (u8s ((ints ([DV.int .u8 (76 : Int), DV.int .u8 (67 : Int)])) ++ beI 1 s.bits))) ++ beI 4 s.c.a))) ++ beI 4 s.c.b))) ++ beI 4 s.c.c))) ++ beI 4 s.c.d))) ++ beI 4 s.tw).length)); let zz15 := [Bx.row 5 1 (u8s ((ints (u8s ((ints (u8s ((ints (u8s ((ints (u8s ((ints (u8s ((ints ([DV.int .u8 (76 : Int), DV.int .u8 (67 : Int)])) ++ beI 1 s.bits))) ++ beI 4 s.c.a))) ++ beI 4 s.c.b))) ++ beI 4 s.c.c))) ++ beI 4 s.c.d))) ++ beI 4 s.tw))]; let zz16 := (Cl.ref 0 (((ints (u8s ((ints (u8s ((ints (u8s ((ints (u8s ((ints (u8s ((ints (u8s ((ints ([DV.int .u8 (76 : Int), DV.int .u8 (67 : Int)])) ++ beI 1 s.bits))) ++ beI 4 s.c.a))) ++ beI 4 s.c.b))) ++ beI 4 s.c.c))) ++ beI 4 s.c.d))) ++ beI 4 s.tw))) ++ beI 4 s.th).length)); let zz17 := [Bx.row 5 1 (u8s ((ints (u8s ((ints (u8s ((ints (u8s ((ints (u8s ((ints (u8s ((ints (u8s ((ints ([DV.int .u8 (76 : Int), DV.int .u8 (67 : Int)])) ++ beI 1 s.bits))) ++ beI 4 s.c.a))) ++ beI 4 s.c.b))) ++ beI 4 s.c.c))) ++ beI 4 s.c.d))) ++ beI 4 s.tw))) ++ beI 4 s.th))]; let zz18 := (zz0 = zz0); let zz19 := fun (i : Nat) => (Cl.ref 0 ((encO s i).length)); let zz20 := fun (i : Nat) => [Bx.row 5 1 (u8s (encO s i))]; let zz21 := fun (k : Nat) => (Cl.ref 0 ((encA s k).length)); let zz22 := fun (k : Nat) => [Bx.row 5 1 (u8s (encA s k))]; let zz23 := fun (k : Nat) => [Bx.row 5 1 (u8s ((ints (u8s (encA s k))) ++ beI 1 (if (bAt (ims s.ims) (((k : Nat) : Int).toNat * 28 + 1 + 1)) then 1 else 0)))]; let zz24 := fun (k : Nat) => [Bx.row 5 1 (u8s ((ints (u8s ((ints (u8s (encA s k))) ++ beI 1 (if (bAt (ims s.ims) (((k : Nat) : Int).toNat * 28 + 1 + 1)) then 1 else 0)))) ++ beI 4 (nAt (ims s.ims) (((k : Nat) : Int).toNat * 28))))]; let zz25 := fun (k : Nat) => (((ints (u8s ((ints (u8s ((ints (u8s (encA s k))) ++ beI 1 (if (bAt (ims s.ims) (((k : Nat) : Int).toNat * 28 + 1 + 1)) then 1 else 0)))) ++ beI 4 (nAt (ims s.ims) (((k : Nat) : Int).toNat * 28))))) ++ beI 4 (nAt (ims s.ims) (((k : Nat) : Int).toNat * 28 + 1))).length = (encA s k ++ hdB (mAt s k)).length); let zz26 := fun (k : Nat) => (DV.int .i64 ((k : Nat) : Int) = DV.int .i64 ((k : Nat) : Int)); let zz27 := fun (k : Nat) => (u8s ((ints (u8s ((ints (u8s ((ints (u8s (encA s k))) ++ beI 1 (if (bAt (ims s.ims) (((k : Nat) : Int).toNat * 28 + 1 + 1)) then 1 else 0)))) ++ beI 4 (nAt (ims s.ims) (((k : Nat) : Int).toNat * 28))))) ++ beI 4 (nAt (ims s.ims) (((k : Nat) : Int).toNat * 28 + 1))) = u8s (encA s k ++ hdB (mAt s k))); let zz28 := fun (k : Nat) => fun (q : Nat) => (q ≤ (pxL (mAt s k)).length); let zz29 := fun (k : Nat) => ((pxL (mAt s k)).length = (pxL (mAt s k)).length); let zz30 := fun (k : Nat) => (pxs (pxL (mAt s k)) = pxs (pxL (mAt s k))); let zz31 := (Cl.d (DV.int .i64 2)); let zz32 := fun (j : Nat) => [Bx.row 5 1 (u8s ((ints (u8s (encC s j))) ++ beI 1 (nAt (ops s.ops) (((j : Nat) : Int).toNat * 12))))]; let zz33 := fun (j : Nat) => [Bx.row 5 1 (u8s ((ints (u8s ((ints (u8s (encC s j))) ++ beI 1 (nAt (ops s.ops) (((j : Nat) : Int).toNat * 12))))) ++ beI 1 (nAt (ops s.ops) (((j : Nat) : Int).toNat * 12 + 1))))]; let zz34 := fun (j : Nat) => [Bx.row 5 1 (u8s ((ints (u8s ((ints (u8s ((ints (u8s (encC s j))) ++ beI 1 (nAt (ops s.ops) (((j : Nat) : Int).toNat * 12))))) ++ beI 1 (nAt (ops s.ops) (((j : Nat) : Int).toNat * 12 + 1))))) ++ beI 4 (nAt (ops s.ops) (((j : Nat) : Int).toNat * 12 + 1 + 1))))]; let zz35 := fun (j : Nat) => [Bx.row 5 1 (u8s ((ints (u8s ((ints (u8s ((ints (u8s ((ints (u8s (encC s j))) ++ beI 1 (nAt (ops s.ops) (((j : Nat) : Int).toNat * 12))))) ++ beI 1 (nAt (ops s.ops) (((j : Nat) : Int).toNat * 12 + 1))))) ++ beI 4 (nAt (ops s.ops) (((j : Nat) : Int).toNat * 12 + 1 + 1))))) ++ beI 4 (nAt (ops s.ops) (((j : Nat) : Int).toNat * 12 + 1 + 1 + 1))))]; let zz36 := fun (j : Nat) => [Bx.row 5 1 (u8s ((ints (u8s ((ints (u8s ((ints (u8s ((ints (u8s ((ints (u8s (encC s j))) ++ beI 1 (nAt (ops s.ops) (((j : Nat) : Int).toNat * 12))))) ++ beI 1 (nAt (ops s.ops) (((j : Nat) : Int).toNat * 12 + 1))))) ++ beI 4 (nAt (ops s.ops) (((j : Nat) : Int).toNat * 12 + 1 + 1))))) ++ beI 4 (nAt (ops s.ops) (((j : Nat) : Int).toNat * 12 + 1 + 1 + 1))))) ++ beI 1 (nAt (ops s.ops) (((j : Nat) : Int).toNat * 12 + 1 + 1 + 1 + 1))))]; let zz37 := fun (j : Nat) => [Bx.row 5 1 (u8s ((ints (u8s ((ints (u8s ((ints (u8s ((ints (u8s ((ints (u8s ((ints (u8s (encC s j))) ++ beI 1 (nAt (ops s.ops) (((j : Nat) : Int).toNat * 12))))) ++ beI 1 (nAt (ops s.ops) (((j : Nat) : Int).toNat * 12 + 1))))) ++ beI 4 (nAt (ops s.ops) (((j : Nat) : Int).toNat * 12 + 1 + 1))))) ++ beI 4 (nAt (ops s.ops) (((j : Nat) : Int).toNat * 12 + 1 + 1 + 1))))) ++ beI 1 (nAt (ops s.ops) (((j : Nat) : Int).toNat * 12 + 1 + 1 + 1 + 1))))) ++ beI 4 (nAt (ops s.ops) (((j : Nat) : Int).toNat * 12 + 1 + 1 + 1 + 1 + 1))))]; let zz38 := fun (j : Nat) => [Bx.row 5 1 (u8s ((ints (u8s ((ints (u8s ((ints (u8s ((ints (u8s ((ints (u8s ((ints (u8s ((ints (u8s (encC s j))) ++ beI 1 (nAt (ops s.ops) (((j : Nat) : Int).toNat * 12))))) ++ beI 1 (nAt (ops s.ops) (((j : Nat) : Int).toNat * 12 + 1))))) ++ beI 4 (nAt (ops s.ops) (((j : Nat) : Int).toNat * 12 + 1 + 1))))) ++ beI 4 (nAt (ops s.ops) (((j : Nat) : Int).toNat * 12 + 1 + 1 + 1))))) ++ beI 1 (nAt (ops s.ops) (((j : Nat) : Int).toNat * 12 + 1 + 1 + 1 + 1))))) ++ beI 4 (nAt (ops s.ops) (((j : Nat) : Int).toNat * 12 + 1 + 1 + 1 + 1 + 1))))) ++ beI 4 (nAt (ops s.ops) (((j : Nat) : Int).toNat * 12 + 1 + 1 + 1 + 1 + 1 + 1))))]; let zz39 := fun (j : Nat) => [Bx.row 5 1 (u8s ((ints (u8s ((ints (u8s ((ints (u8s ((ints (u8s ((ints (u8s ((ints (u8s ((ints (u8s ((ints (u8s (encC s j))) ++ beI 1 (nAt (ops s.ops) (((j : Nat) : Int).toNat * 12))))) ++ beI 1 (nAt (ops s.ops) (((j : Nat) : Int).toNat * 12 + 1))))) ++ beI 4 (nAt (ops s.ops) (((j : Nat) : Int).toNat * 12 + 1 + 1))))) ++ beI 4 (nAt (ops s.ops) (((j : Nat) : Int).toNat * 12 + 1 + 1 + 1))))) ++ beI 1 (nAt (ops s.ops) (((j : Nat) : Int).toNat * 12 + 1 + 1 + 1 + 1))))) ++ beI 4 (nAt (ops s.ops) (((j : Nat) : Int).toNat * 12 + 1 + 1 + 1 + 1 + 1))))) ++ beI 4 (nAt (ops s.ops) (((j : Nat) : Int).toNat * 12 + 1 + 1 + 1 + 1 + 1 + 1))))) ++ beI 2 (IntKind.wrap .i64 (nAt (ops s.ops) (((j : Nat) : Int).toNat * 12 + 1 + 1 + 1 + 1 + 1 + 1 + 1)))))]; let zz40 := fun (j : Nat) => [Bx.row 5 1 (u8s ((ints (u8s ((ints (u8s ((ints (u8s ((ints (u8s ((ints (u8s ((ints (u8s ((ints (u8s ((ints (u8s ((ints (u8s (encC s j))) ++ beI 1 (nAt (ops s.ops) (((j : Nat) : Int).toNat * 12))))) ++ beI 1 (nAt (ops s.ops) (((j : Nat) : Int).toNat * 12 + 1))))) ++ beI 4 (nAt (ops s.ops) (((j : Nat) : Int).toNat * 12 + 1 + 1))))) ++ beI 4 (nAt (ops s.ops) (((j : Nat) : Int).toNat * 12 + 1 + 1 + 1))))) ++ beI 1 (nAt (ops s.ops) (((j : Nat) : Int).toNat * 12 + 1 + 1 + 1 + 1))))) ++ beI 4 (nAt (ops s.ops) (((j : Nat) : Int).toNat * 12 + 1 + 1 + 1 + 1 + 1))))) ++ beI 4 (nAt (ops s.ops) (((j : Nat) : Int).toNat * 12 + 1 + 1 + 1 + 1 + 1 + 1))))) ++ beI 2 (IntKind.wrap .i64 (nAt (ops s.ops) (((j : Nat) : Int).toNat * 12 + 1 + 1 + 1 + 1 + 1 + 1 + 1)))))) ++ beI 1 (nAt (ops s.ops) (((j : Nat) : Int).toNat * 12 + 1 + 1 + 1 + 1 + 1 + 1 + 1 + 1))))]; let zz41 := fun (j : Nat) => [Bx.row 5 1 (u8s ((ints (u8s ((ints (u8s ((ints (u8s ((ints (u8s ((ints (u8s ((ints (u8s ((ints (u8s ((ints (u8s ((ints (u8s ((ints (u8s (encC s j))) ++ beI 1 (nAt (ops s.ops) (((j : Nat) : Int).toNat * 12))))) ++ beI 1 (nAt (ops s.ops) (((j : Nat) : Int).toNat * 12 + 1))))) ++ beI 4 (nAt (ops s.ops) (((j : Nat) : Int).toNat * 12 + 1 + 1))))) ++ beI 4 (nAt (ops s.ops) (((j : Nat) : Int).toNat * 12 + 1 + 1 + 1))))) ++ beI 1 (nAt (ops s.ops) (((j : Nat) : Int).toNat * 12 + 1 + 1 + 1 + 1))))) ++ beI 4 (nAt (ops s.ops) (((j : Nat) : Int).toNat * 12 + 1 + 1 + 1 + 1 + 1))))) ++ beI 4 (nAt (ops s.ops) (((j : Nat) : Int).toNat * 12 + 1 + 1 + 1 + 1 + 1 + 1))))) ++ beI 2 (IntKind.wrap .i64 (nAt (ops s.ops) (((j : Nat) : Int).toNat * 12 + 1 + 1 + 1 + 1 + 1 + 1 + 1)))))) ++ beI 1 (nAt (ops s.ops) (((j : Nat) : Int).toNat * 12 + 1 + 1 + 1 + 1 + 1 + 1 + 1 + 1))))) ++ beI 1 (nAt (ops s.ops) (((j : Nat) : Int).toNat * 12 + 1 + 1 + 1 + 1 + 1 + 1 + 1 + 1 + 1))))]; True ∧ True ∧ True ∧ True ∧ (Ans Try.prog 17 [RV.agg zz0] (RV.d (DV.bool (encOk (⟨s.bits, s.c, s.tw, s.th, ints (is s.ord), toIms (ims s.ims), toOps (ops s.ops)⟩ : Scr))))) ∧ True ∧ (((!(encOk (⟨s.bits, s.c, s.tw, s.th, ints (is s.ord), toIms (ims s.ims), toOps (ops s.ops)⟩ : Scr))) = true → True ∧ True ∧ RV.tup [RV.d (DV.sl 0 ([])), RV.d (DV.int .i64 19)] = RV.tup zz1) ∧ ((!(encOk (⟨s.bits, s.c, s.tw, s.th, ints (is s.ord), toIms (ims s.ims), toOps (ops s.ops)⟩ : Scr))) = false → True ∧ True ∧ True ∧ True ∧ True ∧ (0 < 2) ∧ True ∧ True ∧ (AnsG Try.prog 32 0 [AV.one (Cl.ref 0 2), AV.one (Cl.d (DV.int .i64 s.bits)), AV.one zz2] [Bx.row 5 1 ([DV.int .u8 (76 : Int), DV.int .u8 (67 : Int)])] ⟨AV.one zz3, zz4, false⟩) ∧ True ∧ True ∧ True ∧ True ∧ (AnsG Try.prog 32 0 [AV.one zz3, AV.one (Cl.d (DV.int .i64 s.c.a)), AV.one zz5] zz4 ⟨AV.one zz6, zz7, false⟩) ∧ True ∧ True ∧ (AnsG Try.prog 32 0 [AV.one zz6, AV.one (Cl.d (DV.int .i64 s.c.b)), AV.one zz5] zz7 ⟨AV.one zz8, zz9, false⟩) ∧ True ∧ True ∧ (AnsG Try.prog 32 0 [AV.one zz8, AV.one (Cl.d (DV.int .i64 s.c.c)), AV.one zz5] zz9 ⟨AV.one zz10, zz11, false⟩) ∧ True ∧ True ∧ (AnsG Try.prog 32 0 [AV.one zz10, AV.one (Cl.d (DV.int .i64 s.c.d)), AV.one zz5] zz11 ⟨AV.one zz12, zz13, false⟩) ∧ True ∧ (true = true) ∧ True ∧ True ∧ True ∧ (AnsG Try.prog 32 0 [AV.one zz12, AV.one (Cl.d (DV.int .i64 s.tw)), AV.one zz5] zz13 ⟨AV.one zz14, zz15, false⟩) ∧ True ∧ True ∧ (AnsG Try.prog 32 0 [AV.one zz14, AV.one (Cl.d (DV.int .i64 s.th)), AV.one zz5] zz15 ⟨AV.one zz16, zz17, false⟩) ∧ True ∧ True ∧ True ∧ (AnsG Try.prog 32 0 [AV.one zz16, AV.one (Cl.d (DV.int .i64 ((s.ord.length : Nat) : Int))), AV.one zz5] zz17 ⟨AV.one (Cl.ref 0 (((ints (u8s ((ints (u8s ((ints (u8s ((ints (u8s ((ints (u8s ((ints (u8s ((ints (u8s ((ints ([DV.int .u8 (76 : Int), DV.int .u8 (67 : Int)])) ++ beI 1 s.bits))) ++ beI 4 s.c.a))) ++ beI 4 s.c.b))) ++ beI 4 s.c.c))) ++ beI 4 s.c.d))) ++ beI 4 s.tw))) ++ beI 4 s.th))) ++ beI 4 ((s.ord.length : Nat) : Int)).length)), [Bx.row 5 1 (u8s ((ints (u8s ((ints (u8s ((ints (u8s ((ints (u8s ((ints (u8s ((ints (u8s ((ints (u8s ((ints ([DV.int .u8 (76 : Int), DV.int .u8 (67 : Int)])) ++ beI 1 s.bits))) ++ beI 4 s.c.a))) ++ beI 4 s.c.b))) ++ beI 4 s.c.c))) ++ beI 4 s.c.d))) ++ beI 4 s.tw))) ++ beI 4 s.th))) ++ beI 4 ((s.ord.length : Nat) : Int)))], false⟩) ∧ True ∧ (true = true) ∧ True ∧ ((∃ i : Nat, (i ≤ s.ord.length) ∧ (((0 = 0) ∧ (((ints (u8s ((ints (u8s ((ints (u8s ((ints (u8s ((ints (u8s ((ints (u8s ((ints (u8s ((ints ([DV.int .u8 (76 : Int), DV.int .u8 (67 : Int)])) ++ beI 1 s.bits))) ++ beI 4 s.c.a))) ++ beI 4 s.c.b))) ++ beI 4 s.c.c))) ++ beI 4 s.c.d))) ++ beI 4 s.tw))) ++ beI 4 s.th))) ++ beI 4 ((s.ord.length : Nat) : Int)).length = (encO s i).length) ∧ (DV.int .i64 0 = DV.int .i64 ((i : Nat) : Int)) ∧ True) ∧ (zz18 ∧ (u8s ((ints (u8s ((ints (u8s ((ints (u8s ((ints (u8s ((ints (u8s ((ints (u8s ((ints (u8s ((ints ([DV.int .u8 (76 : Int), DV.int .u8 (67 : Int)])) ++ beI 1 s.bits))) ++ beI 4 s.c.a))) ++ beI 4 s.c.b))) ++ beI 4 s.c.c))) ++ beI 4 s.c.d))) ++ beI 4 s.tw))) ++ beI 4 s.th))) ++ beI 4 ((s.ord.length : Nat) : Int)) = u8s (encO s i)) ∧ True))) ∧ ∀ i : Nat, (i ≤ s.ord.length) → True ∧ True ∧ True ∧ True ∧ True ∧ (((decide (((i : Nat) : Int) < ((s.ord.length : Nat) : Int))) = true → True ∧ True ∧ True ∧ True ∧ (0 ≤ ((i : Nat) : Int) ∧ ((i : Nat) : Int) < ((s.ord.length : Nat) : Int) ∧ ((i : Nat) : Int).toNat * 1 < (is s.ord).length) ∧ (((is s.ord)[((i : Nat) : Int).toNat * 1]? = some (DV.int .i64 (nAt (is s.ord) (((i : Nat) : Int).toNat * 1)))) ∧ True) ∧ (AnsG Try.prog 32 0 [AV.one (zz19 i), AV.one (Cl.d (DV.int .i64 (nAt (is s.ord) (((i : Nat) : Int).toNat * 1)))), AV.one zz5] (zz20 i) ⟨AV.one (Cl.ref 0 (((ints (u8s (encO s i))) ++ beI 4 (nAt (is s.ord) (((i : Nat) : Int).toNat * 1))).length)), [Bx.row 5 1 (u8s ((ints (u8s (encO s i))) ++ beI 4 (nAt (is s.ord) (((i : Nat) : Int).toNat * 1))))], false⟩) ∧ True ∧ True ∧ True ∧ True ∧ ∃ i' : Nat, (i' ≤ s.ord.length) ∧ (s.ord.length - i' < s.ord.length - i) ∧ (((0 = 0) ∧ (((ints (u8s (encO s i))) ++ beI 4 (nAt (is s.ord) (((i : Nat) : Int).toNat * 1))).length = (encO s i').length) ∧ (DV.int .i64 (IntKind.wrap .i64 (((i : Nat) : Int) + (1 : Int))) = DV.int .i64 ((i' : Nat) : Int)) ∧ True) ∧ (zz18 ∧ (u8s ((ints (u8s (encO s i))) ++ beI 4 (nAt (is s.ord) (((i : Nat) : Int).toNat * 1))) = u8s (encO s i')) ∧ True))) ∧ ((decide (((i : Nat) : Int) < ((s.ord.length : Nat) : Int))) = false → True ∧ True ∧ True ∧ True ∧ (AnsG Try.prog 32 0 [AV.one (zz19 i), AV.one (Cl.d (DV.int .i64 ((s.ims.length : Nat) : Int))), AV.one zz2] (zz20 i) ⟨AV.one (Cl.ref 0 (((ints (u8s (encO s i))) ++ beI 1 ((s.ims.length : Nat) : Int)).length)), [Bx.row 5 1 (u8s ((ints (u8s (encO s i))) ++ beI 1 ((s.ims.length : Nat) : Int)))], false⟩) ∧ True ∧ True ∧ ((∃ k : Nat, (k ≤ s.ims.length) ∧ (((0 = 0) ∧ (((ints (u8s (encO s i))) ++ beI 1 ((s.ims.length : Nat) : Int)).length = (encA s k).length) ∧ (DV.int .i64 0 = DV.int .i64 ((k : Nat) : Int)) ∧ True) ∧ (zz18 ∧ (u8s ((ints (u8s (encO s i))) ++ beI 1 ((s.ims.length : Nat) : Int)) = u8s (encA s k)) ∧ True))) ∧ ∀ k : Nat, (k ≤ s.ims.length) → True ∧ True ∧ True ∧ True ∧ True ∧ (((decide (((k : Nat) : Int) < ((s.ims.length : Nat) : Int))) = true → True ∧ True ∧ True ∧ (0 ≤ ((k : Nat) : Int) ∧ ((k : Nat) : Int) < ((s.ims.length : Nat) : Int) ∧ ((k : Nat) : Int).toNat * 28 < (ims s.ims).length) ∧ ((imQr (ims s.ims) (((k : Nat) : Int).toNat * 28))) ∧ True ∧ True ∧ True ∧ True ∧ True ∧ (Ans Try.prog 33 [RV.d (DV.bool (bAt (ims s.ims) (((k : Nat) : Int).toNat * 28 + 1 + 1)))] (RV.d (DV.int .i64 (if (bAt (ims s.ims) (((k : Nat) : Int).toNat * 28 + 1 + 1)) then 1 else 0)))) ∧ (AnsG Try.prog 32 0 [AV.one (zz21 k), AV.one (Cl.d (DV.int .i64 (if (bAt (ims s.ims) (((k : Nat) : Int).toNat * 28 + 1 + 1)) then 1 else 0))), AV.one zz2] (zz22 k) ⟨AV.one (Cl.ref 0 (((ints (u8s (encA s k))) ++ beI 1 (if (bAt (ims s.ims) (((k : Nat) : Int).toNat * 28 + 1 + 1)) then 1 else 0)).length)), (zz23 k), false⟩) ∧ True ∧ True ∧ (AnsG Try.prog 32 0 [AV.one (Cl.ref 0 (((ints (u8s (encA s k))) ++ beI 1 (if (bAt (ims s.ims) (((k : Nat) : Int).toNat * 28 + 1 + 1)) then 1 else 0)).length)), AV.one (Cl.d (DV.int .i64 (nAt (ims s.ims) (((k : Nat) : Int).toNat * 28)))), AV.one zz5] (zz23 k) ⟨AV.one (Cl.ref 0 (((ints (u8s ((ints (u8s (encA s k))) ++ beI 1 (if (bAt (ims s.ims) (((k : Nat) : Int).toNat * 28 + 1 + 1)) then 1 else 0)))) ++ beI 4 (nAt (ims s.ims) (((k : Nat) : Int).toNat * 28))).length)), (zz24 k), false⟩) ∧ True ∧ True ∧ (AnsG Try.prog 32 0 [AV.one (Cl.ref 0 (((ints (u8s ((ints (u8s (encA s k))) ++ beI 1 (if (bAt (ims s.ims) (((k : Nat) : Int).toNat * 28 + 1 + 1)) then 1 else 0)))) ++ beI 4 (nAt (ims s.ims) (((k : Nat) : Int).toNat * 28))).length)), AV.one (Cl.d (DV.int .i64 (nAt (ims s.ims) (((k : Nat) : Int).toNat * 28 + 1)))), AV.one zz5] (zz24 k) ⟨AV.one (Cl.ref 0 (((ints (u8s ((ints (u8s ((ints (u8s (encA s k))) ++ beI 1 (if (bAt (ims s.ims) (((k : Nat) : Int).toNat * 28 + 1 + 1)) then 1 else 0)))) ++ beI 4 (nAt (ims s.ims) (((k : Nat) : Int).toNat * 28))))) ++ beI 4 (nAt (ims s.ims) (((k : Nat) : Int).toNat * 28 + 1))).length)), [Bx.row 5 1 (u8s ((ints (u8s ((ints (u8s ((ints (u8s (encA s k))) ++ beI 1 (if (bAt (ims s.ims) (((k : Nat) : Int).toNat * 28 + 1 + 1)) then 1 else 0)))) ++ beI 4 (nAt (ims s.ims) (((k : Nat) : Int).toNat * 28))))) ++ beI 4 (nAt (ims s.ims) (((k : Nat) : Int).toNat * 28 + 1))))], false⟩) ∧ True ∧ (true = true) ∧ True ∧ True ∧ True ∧ True ∧ (True ∧ True ∧ True ∧ (((!(bAt (ims s.ims) (((k : Nat) : Int).toNat * 28 + 1 + 1))) = true → True ∧ (AnsO Try.prog 34 [imR (imQ (ims s.ims) (((k : Nat) : Int).toNat * 28))] 37 5 ((Im.pixels (imQ (ims s.ims) (((k : Nat) : Int).toNat * 28))).length) (pxs (Im.pixels (imQ (ims s.ims) (((k : Nat) : Int).toNat * 28))))) ∧ True ∧ ∃ z : Nat, (z = 0) ∧ (((0 = 0) ∧ (zz25 k) ∧ (zz26 k) ∧ ((Im.pixels (imQ (ims s.ims) (((k : Nat) : Int).toNat * 28))).length = (pxL (mAt s k)).length) ∧ True) ∧ (zz18 ∧ (zz27 k) ∧ (pxs (Im.pixels (imQ (ims s.ims) (((k : Nat) : Int).toNat * 28))) = pxs (pxL (mAt s k))) ∧ True))) ∧ ((!(bAt (ims s.ims) (((k : Nat) : Int).toNat * 28 + 1 + 1))) = false → ∃ z : Nat, (z = 0) ∧ (((0 = 0) ∧ (zz25 k) ∧ (zz26 k) ∧ (1 = (pxL (mAt s k)).length) ∧ True) ∧ (zz18 ∧ (zz27 k) ∧ ([DV.int .u16 (nAt (ims s.ims) (((k : Nat) : Int).toNat * 28 + 1 + 1 + 1)), DV.int .u16 (nAt (ims s.ims) (((k : Nat) : Int).toNat * 28 + 1 + 1 + 1 + 1)), DV.int .u16 (nAt (ims s.ims) (((k : Nat) : Int).toNat * 28 + 1 + 1 + 1 + 1 + 1)), DV.int .u16 (nAt (ims s.ims) (((k : Nat) : Int).toNat * 28 + 1 + 1 + 1 + 1 + 1 + 1)), DV.int .u16 (nAt (ims s.ims) (((k : Nat) : Int).toNat * 28 + 1 + 1 + 1 + 1 + 1 + 1 + 1))] = pxs (pxL (mAt s k))) ∧ True))))) ∧ ∀ z : Nat, (z = 0) → True ∧ ((∃ q : Nat, (zz28 k q) ∧ (((0 = 0) ∧ ((encA s k ++ hdB (mAt s k)).length = (encA s k ++ hdB (mAt s k) ++ ((pxL (mAt s k)).take q).flatMap pxB).length) ∧ (zz26 k) ∧ (zz29 k) ∧ (DV.int .i64 0 = DV.int .i64 ((q : Nat) : Int)) ∧ True) ∧ (zz18 ∧ (u8s (encA s k ++ hdB (mAt s k)) = u8s (encA s k ++ hdB (mAt s k) ++ ((pxL (mAt s k)).take q).flatMap pxB)) ∧ (zz30 k) ∧ True))) ∧ ∀ q : Nat, (zz28 k q) → True ∧ True ∧ ((pxL (mAt s k)).length ≤ maxLen) ∧ True ∧ (((decide (((q : Nat) : Int) < (((pxL (mAt s k)).length : Nat) : Int))) = true → True ∧ True ∧ True ∧ (0 ≤ ((q : Nat) : Int) ∧ ((q : Nat) : Int) < (((pxL (mAt s k)).length : Nat) : Int)) ∧ ((pxQr (pxs (pxL (mAt s k))) (((q : Nat) : Int).toNat * 5))) ∧ (AnsG Try.prog 35 0 [AV.one (Cl.ref 0 ((encA s k ++ hdB (mAt s k) ++ ((pxL (mAt s k)).take q).flatMap pxB).length)), pxD (pxQ (pxs (pxL (mAt s k))) (((q : Nat) : Int).toNat * 5))] [Bx.row 5 1 (u8s (encA s k ++ hdB (mAt s k) ++ ((pxL (mAt s k)).take q).flatMap pxB))] ⟨AV.one (Cl.ref 0 (((ints (u8s (encA s k ++ hdB (mAt s k) ++ ((pxL (mAt s k)).take q).flatMap pxB))) ++ pxB (pxQ (pxs (pxL (mAt s k))) (((q : Nat) : Int).toNat * 5))).length)), [Bx.row 5 1 (u8s ((ints (u8s (encA s k ++ hdB (mAt s k) ++ ((pxL (mAt s k)).take q).flatMap pxB))) ++ pxB (pxQ (pxs (pxL (mAt s k))) (((q : Nat) : Int).toNat * 5))))], false⟩) ∧ True ∧ True ∧ True ∧ True ∧ ∃ q' : Nat, (q' ≤ (pxL (mAt s k)).length) ∧ ((pxL (mAt s k)).length - q' < (pxL (mAt s k)).length - q) ∧ (((0 = 0) ∧ (((ints (u8s (encA s k ++ hdB (mAt s k) ++ ((pxL (mAt s k)).take q).flatMap pxB))) ++ pxB (pxQ (pxs (pxL (mAt s k))) (((q : Nat) : Int).toNat * 5))).length = (encA s k ++ hdB (mAt s k) ++ ((pxL (mAt s k)).take q').flatMap pxB).length) ∧ (zz26 k) ∧ (zz29 k) ∧ (DV.int .i64 (IntKind.wrap .i64 (((q : Nat) : Int) + (1 : Int))) = DV.int .i64 ((q' : Nat) : Int)) ∧ True) ∧ (zz18 ∧ (u8s ((ints (u8s (encA s k ++ hdB (mAt s k) ++ ((pxL (mAt s k)).take q).flatMap pxB))) ++ pxB (pxQ (pxs (pxL (mAt s k))) (((q : Nat) : Int).toNat * 5))) = u8s (encA s k ++ hdB (mAt s k) ++ ((pxL (mAt s k)).take q').flatMap pxB)) ∧ (zz30 k) ∧ True))) ∧ ((decide (((q : Nat) : Int) < (((pxL (mAt s k)).length : Nat) : Int))) = false → True ∧ True ∧ True ∧ ∃ k' : Nat, (k' ≤ s.ims.length) ∧ (s.ims.length - k' < s.ims.length - k) ∧ (((0 = 0) ∧ ((encA s k ++ hdB (mAt s k) ++ ((pxL (mAt s k)).take q).flatMap pxB).length = (encA s k').length) ∧ (DV.int .i64 (IntKind.wrap .i64 (((k : Nat) : Int) + (1 : Int))) = DV.int .i64 ((k' : Nat) : Int)) ∧ True) ∧ (zz18 ∧ (u8s (encA s k ++ hdB (mAt s k) ++ ((pxL (mAt s k)).take q).flatMap pxB) = u8s (encA s k')) ∧ True)))))) ∧ ((decide (((k : Nat) : Int) < ((s.ims.length : Nat) : Int))) = false → True ∧ True ∧ True ∧ True ∧ (AnsG Try.prog 32 0 [AV.one (zz21 k), AV.one (Cl.d (DV.int .i64 ((s.ops.length : Nat) : Int))), AV.one zz31] (zz22 k) ⟨AV.one (Cl.ref 0 (((ints (u8s (encA s k))) ++ beI 2 ((s.ops.length : Nat) : Int)).length)), [Bx.row 5 1 (u8s ((ints (u8s (encA s k))) ++ beI 2 ((s.ops.length : Nat) : Int)))], false⟩) ∧ True ∧ True ∧ ((∃ j : Nat, (j ≤ s.ops.length) ∧ (((0 = 0) ∧ (((ints (u8s (encA s k))) ++ beI 2 ((s.ops.length : Nat) : Int)).length = (encC s j).length) ∧ (DV.int .i64 0 = DV.int .i64 ((j : Nat) : Int)) ∧ True) ∧ (zz18 ∧ (u8s ((ints (u8s (encA s k))) ++ beI 2 ((s.ops.length : Nat) : Int)) = u8s (encC s j)) ∧ True))) ∧ ∀ j : Nat, (j ≤ s.ops.length) → True ∧ True ∧ True ∧ True ∧ True ∧ (((decide (((j : Nat) : Int) < ((s.ops.length : Nat) : Int))) = true → True ∧ True ∧ True ∧ (0 ≤ ((j : Nat) : Int) ∧ ((j : Nat) : Int) < ((s.ops.length : Nat) : Int) ∧ ((j : Nat) : Int).toNat * 12 < (ops s.ops).length) ∧ ((oqQr (ops s.ops) (((j : Nat) : Int).toNat * 12))) ∧ True ∧ True ∧ True ∧ True ∧ True ∧ (AnsG Try.prog 32 0 [AV.one (Cl.ref 0 ((encC s j).length)), AV.one (Cl.d (DV.int .i64 (nAt (ops s.ops) (((j : Nat) : Int).toNat * 12)))), AV.one zz2] [Bx.row 5 1 (u8s (encC s j))] ⟨AV.one (Cl.ref 0 (((ints (u8s (encC s j))) ++ beI 1 (nAt (ops s.ops) (((j : Nat) : Int).toNat * 12))).length)), (zz32 j), false⟩) ∧ True ∧ True ∧ (AnsG Try.prog 32 0 [AV.one (Cl.ref 0 (((ints (u8s (encC s j))) ++ beI 1 (nAt (ops s.ops) (((j : Nat) : Int).toNat * 12))).length)), AV.one (Cl.d (DV.int .i64 (nAt (ops s.ops) (((j : Nat) : Int).toNat * 12 + 1)))), AV.one zz2] (zz32 j) ⟨AV.one (Cl.ref 0 (((ints (u8s ((ints (u8s (encC s j))) ++ beI 1 (nAt (ops s.ops) (((j : Nat) : Int).toNat * 12))))) ++ beI 1 (nAt (ops s.ops) (((j : Nat) : Int).toNat * 12 + 1))).length)), (zz33 j), false⟩) ∧ True ∧ True ∧ (AnsG Try.prog 32 0 [AV.one (Cl.ref 0 (((ints (u8s ((ints (u8s (encC s j))) ++ beI 1 (nAt (ops s.ops) (((j : Nat) : Int).toNat * 12))))) ++ beI 1 (nAt (ops s.ops) (((j : Nat) : Int).toNat * 12 + 1))).length)), AV.one (Cl.d (DV.int .i64 (nAt (ops s.ops) (((j : Nat) : Int).toNat * 12 + 1 + 1)))), AV.one zz5] (zz33 j) ⟨AV.one (Cl.ref 0 (((ints (u8s ((ints (u8s ((ints (u8s (encC s j))) ++ beI 1 (nAt (ops s.ops) (((j : Nat) : Int).toNat * 12))))) ++ beI 1 (nAt (ops s.ops) (((j : Nat) : Int).toNat * 12 + 1))))) ++ beI 4 (nAt (ops s.ops) (((j : Nat) : Int).toNat * 12 + 1 + 1))).length)), (zz34 j), false⟩) ∧ True ∧ True ∧ (AnsG Try.prog 32 0 [AV.one (Cl.ref 0 (((ints (u8s ((ints (u8s ((ints (u8s (encC s j))) ++ beI 1 (nAt (ops s.ops) (((j : Nat) : Int).toNat * 12))))) ++ beI 1 (nAt (ops s.ops) (((j : Nat) : Int).toNat * 12 + 1))))) ++ beI 4 (nAt (ops s.ops) (((j : Nat) : Int).toNat * 12 + 1 + 1))).length)), AV.one (Cl.d (DV.int .i64 (nAt (ops s.ops) (((j : Nat) : Int).toNat * 12 + 1 + 1 + 1)))), AV.one zz5] (zz34 j) ⟨AV.one (Cl.ref 0 (((ints (u8s ((ints (u8s ((ints (u8s ((ints (u8s (encC s j))) ++ beI 1 (nAt (ops s.ops) (((j : Nat) : Int).toNat * 12))))) ++ beI 1 (nAt (ops s.ops) (((j : Nat) : Int).toNat * 12 + 1))))) ++ beI 4 (nAt (ops s.ops) (((j : Nat) : Int).toNat * 12 + 1 + 1))))) ++ beI 4 (nAt (ops s.ops) (((j : Nat) : Int).toNat * 12 + 1 + 1 + 1))).length)), (zz35 j), false⟩) ∧ True ∧ (true = true) ∧ True ∧ True ∧ True ∧ (AnsG Try.prog 32 0 [AV.one (Cl.ref 0 (((ints (u8s ((ints (u8s ((ints (u8s ((ints (u8s (encC s j))) ++ beI 1 (nAt (ops s.ops) (((j : Nat) : Int).toNat * 12))))) ++ beI 1 (nAt (ops s.ops) (((j : Nat) : Int).toNat * 12 + 1))))) ++ beI 4 (nAt (ops s.ops) (((j : Nat) : Int).toNat * 12 + 1 + 1))))) ++ beI 4 (nAt (ops s.ops) (((j : Nat) : Int).toNat * 12 + 1 + 1 + 1))).length)), AV.one (Cl.d (DV.int .i64 (nAt (ops s.ops) (((j : Nat) : Int).toNat * 12 + 1 + 1 + 1 + 1)))), AV.one zz2] (zz35 j) ⟨AV.one (Cl.ref 0 (((ints (u8s ((ints (u8s ((ints (u8s ((ints (u8s ((ints (u8s (encC s j))) ++ beI 1 (nAt (ops s.ops) (((j : Nat) : Int).toNat * 12))))) ++ beI 1 (nAt (ops s.ops) (((j : Nat) : Int).toNat * 12 + 1))))) ++ beI 4 (nAt (ops s.ops) (((j : Nat) : Int).toNat * 12 + 1 + 1))))) ++ beI 4 (nAt (ops s.ops) (((j : Nat) : Int).toNat * 12 + 1 + 1 + 1))))) ++ beI 1 (nAt (ops s.ops) (((j : Nat) : Int).toNat * 12 + 1 + 1 + 1 + 1))).length)), (zz36 j), false⟩) ∧ True ∧ True ∧ (AnsG Try.prog 32 0 [AV.one (Cl.ref 0 (((ints (u8s ((ints (u8s ((ints (u8s ((ints (u8s ((ints (u8s (encC s j))) ++ beI 1 (nAt (ops s.ops) (((j : Nat) : Int).toNat * 12))))) ++ beI 1 (nAt (ops s.ops) (((j : Nat) : Int).toNat * 12 + 1))))) ++ beI 4 (nAt (ops s.ops) (((j : Nat) : Int).toNat * 12 + 1 + 1))))) ++ beI 4 (nAt (ops s.ops) (((j : Nat) : Int).toNat * 12 + 1 + 1 + 1))))) ++ beI 1 (nAt (ops s.ops) (((j : Nat) : Int).toNat * 12 + 1 + 1 + 1 + 1))).length)), AV.one (Cl.d (DV.int .i64 (nAt (ops s.ops) (((j : Nat) : Int).toNat * 12 + 1 + 1 + 1 + 1 + 1)))), AV.one zz5] (zz36 j) ⟨AV.one (Cl.ref 0 (((ints (u8s ((ints (u8s ((ints (u8s ((ints (u8s ((ints (u8s ((ints (u8s (encC s j))) ++ beI 1 (nAt (ops s.ops) (((j : Nat) : Int).toNat * 12))))) ++ beI 1 (nAt (ops s.ops) (((j : Nat) : Int).toNat * 12 + 1))))) ++ beI 4 (nAt (ops s.ops) (((j : Nat) : Int).toNat * 12 + 1 + 1))))) ++ beI 4 (nAt (ops s.ops) (((j : Nat) : Int).toNat * 12 + 1 + 1 + 1))))) ++ beI 1 (nAt (ops s.ops) (((j : Nat) : Int).toNat * 12 + 1 + 1 + 1 + 1))))) ++ beI 4 (nAt (ops s.ops) (((j : Nat) : Int).toNat * 12 + 1 + 1 + 1 + 1 + 1))).length)), (zz37 j), false⟩) ∧ True ∧ True ∧ (AnsG Try.prog 32 0 [AV.one (Cl.ref 0 (((ints (u8s ((ints (u8s ((ints (u8s ((ints (u8s ((ints (u8s ((ints (u8s (encC s j))) ++ beI 1 (nAt (ops s.ops) (((j : Nat) : Int).toNat * 12))))) ++ beI 1 (nAt (ops s.ops) (((j : Nat) : Int).toNat * 12 + 1))))) ++ beI 4 (nAt (ops s.ops) (((j : Nat) : Int).toNat * 12 + 1 + 1))))) ++ beI 4 (nAt (ops s.ops) (((j : Nat) : Int).toNat * 12 + 1 + 1 + 1))))) ++ beI 1 (nAt (ops s.ops) (((j : Nat) : Int).toNat * 12 + 1 + 1 + 1 + 1))))) ++ beI 4 (nAt (ops s.ops) (((j : Nat) : Int).toNat * 12 + 1 + 1 + 1 + 1 + 1))).length)), AV.one (Cl.d (DV.int .i64 (nAt (ops s.ops) (((j : Nat) : Int).toNat * 12 + 1 + 1 + 1 + 1 + 1 + 1)))), AV.one zz5] (zz37 j) ⟨AV.one (Cl.ref 0 (((ints (u8s ((ints (u8s ((ints (u8s ((ints (u8s ((ints (u8s ((ints (u8s ((ints (u8s (encC s j))) ++ beI 1 (nAt (ops s.ops) (((j : Nat) : Int).toNat * 12))))) ++ beI 1 (nAt (ops s.ops) (((j : Nat) : Int).toNat * 12 + 1))))) ++ beI 4 (nAt (ops s.ops) (((j : Nat) : Int).toNat * 12 + 1 + 1))))) ++ beI 4 (nAt (ops s.ops) (((j : Nat) : Int).toNat * 12 + 1 + 1 + 1))))) ++ beI 1 (nAt (ops s.ops) (((j : Nat) : Int).toNat * 12 + 1 + 1 + 1 + 1))))) ++ beI 4 (nAt (ops s.ops) (((j : Nat) : Int).toNat * 12 + 1 + 1 + 1 + 1 + 1))))) ++ beI 4 (nAt (ops s.ops) (((j : Nat) : Int).toNat * 12 + 1 + 1 + 1 + 1 + 1 + 1))).length)), (zz38 j), false⟩) ∧ True ∧ (true = true) ∧ True ∧ True ∧ True ∧ True ∧ (AnsG Try.prog 32 0 [AV.one (Cl.ref 0 (((ints (u8s ((ints (u8s ((ints (u8s ((ints (u8s ((ints (u8s ((ints (u8s ((ints (u8s (encC s j))) ++ beI 1 (nAt (ops s.ops) (((j : Nat) : Int).toNat * 12))))) ++ beI 1 (nAt (ops s.ops) (((j : Nat) : Int).toNat * 12 + 1))))) ++ beI 4 (nAt (ops s.ops) (((j : Nat) : Int).toNat * 12 + 1 + 1))))) ++ beI 4 (nAt (ops s.ops) (((j : Nat) : Int).toNat * 12 + 1 + 1 + 1))))) ++ beI 1 (nAt (ops s.ops) (((j : Nat) : Int).toNat * 12 + 1 + 1 + 1 + 1))))) ++ beI 4 (nAt (ops s.ops) (((j : Nat) : Int).toNat * 12 + 1 + 1 + 1 + 1 + 1))))) ++ beI 4 (nAt (ops s.ops) (((j : Nat) : Int).toNat * 12 + 1 + 1 + 1 + 1 + 1 + 1))).length)), AV.one (Cl.d (DV.int .i64 (IntKind.wrap .i64 (nAt (ops s.ops) (((j : Nat) : Int).toNat * 12 + 1 + 1 + 1 + 1 + 1 + 1 + 1))))), AV.one zz31] (zz38 j) ⟨AV.one (Cl.ref 0 (((ints (u8s ((ints (u8s ((ints (u8s ((ints (u8s ((ints (u8s ((ints (u8s ((ints (u8s ((ints (u8s (encC s j))) ++ beI 1 (nAt (ops s.ops) (((j : Nat) : Int).toNat * 12))))) ++ beI 1 (nAt (ops s.ops) (((j : Nat) : Int).toNat * 12 + 1))))) ++ beI 4 (nAt (ops s.ops) (((j : Nat) : Int).toNat * 12 + 1 + 1))))) ++ beI 4 (nAt (ops s.ops) (((j : Nat) : Int).toNat * 12 + 1 + 1 + 1))))) ++ beI 1 (nAt (ops s.ops) (((j : Nat) : Int).toNat * 12 + 1 + 1 + 1 + 1))))) ++ beI 4 (nAt (ops s.ops) (((j : Nat) : Int).toNat * 12 + 1 + 1 + 1 + 1 + 1))))) ++ beI 4 (nAt (ops s.ops) (((j : Nat) : Int).toNat * 12 + 1 + 1 + 1 + 1 + 1 + 1))))) ++ beI 2 (IntKind.wrap .i64 (nAt (ops s.ops) (((j : Nat) : Int).toNat * 12 + 1 + 1 + 1 + 1 + 1 + 1 + 1)))).length)), (zz39 j), false⟩) ∧ True ∧ True ∧ (AnsG Try.prog 32 0 [AV.one (Cl.ref 0 (((ints (u8s ((ints (u8s ((ints (u8s ((ints (u8s ((ints (u8s ((ints (u8s ((ints (u8s ((ints (u8s (encC s j))) ++ beI 1 (nAt (ops s.ops) (((j : Nat) : Int).toNat * 12))))) ++ beI 1 (nAt (ops s.ops) (((j : Nat) : Int).toNat * 12 + 1))))) ++ beI 4 (nAt (ops s.ops) (((j : Nat) : Int).toNat * 12 + 1 + 1))))) ++ beI 4 (nAt (ops s.ops) (((j : Nat) : Int).toNat * 12 + 1 + 1 + 1))))) ++ beI 1 (nAt (ops s.ops) (((j : Nat) : Int).toNat * 12 + 1 + 1 + 1 + 1))))) ++ beI 4 (nAt (ops s.ops) (((j : Nat) : Int).toNat * 12 + 1 + 1 + 1 + 1 + 1))))) ++ beI 4 (nAt (ops s.ops) (((j : Nat) : Int).toNat * 12 + 1 + 1 + 1 + 1 + 1 + 1))))) ++ beI 2 (IntKind.wrap .i64 (nAt (ops s.ops) (((j : Nat) : Int).toNat * 12 + 1 + 1 + 1 + 1 + 1 + 1 + 1)))).length)), AV.one (Cl.d (DV.int .i64 (nAt (ops s.ops) (((j : Nat) : Int).toNat * 12 + 1 + 1 + 1 + 1 + 1 + 1 + 1 + 1)))), AV.one zz2] (zz39 j) ⟨AV.one (Cl.ref 0 (((ints (u8s ((ints (u8s ((ints (u8s ((ints (u8s ((ints (u8s ((ints (u8s ((ints (u8s ((ints (u8s ((ints (u8s (encC s j))) ++ beI 1 (nAt (ops s.ops) (((j : Nat) : Int).toNat * 12))))) ++ beI 1 (nAt (ops s.ops) (((j : Nat) : Int).toNat * 12 + 1))))) ++ beI 4 (nAt (ops s.ops) (((j : Nat) : Int).toNat * 12 + 1 + 1))))) ++ beI 4 (nAt (ops s.ops) (((j : Nat) : Int).toNat * 12 + 1 + 1 + 1))))) ++ beI 1 (nAt (ops s.ops) (((j : Nat) : Int).toNat * 12 + 1 + 1 + 1 + 1))))) ++ beI 4 (nAt (ops s.ops) (((j : Nat) : Int).toNat * 12 + 1 + 1 + 1 + 1 + 1))))) ++ beI 4 (nAt (ops s.ops) (((j : Nat) : Int).toNat * 12 + 1 + 1 + 1 + 1 + 1 + 1))))) ++ beI 2 (IntKind.wrap .i64 (nAt (ops s.ops) (((j : Nat) : Int).toNat * 12 + 1 + 1 + 1 + 1 + 1 + 1 + 1)))))) ++ beI 1 (nAt (ops s.ops) (((j : Nat) : Int).toNat * 12 + 1 + 1 + 1 + 1 + 1 + 1 + 1 + 1))).length)), (zz40 j), false⟩) ∧ True ∧ True ∧ (AnsG Try.prog 32 0 [AV.one (Cl.ref 0 (((ints (u8s ((ints (u8s ((ints (u8s ((ints (u8s ((ints (u8s ((ints (u8s ((ints (u8s ((ints (u8s ((ints (u8s (encC s j))) ++ beI 1 (nAt (ops s.ops) (((j : Nat) : Int).toNat * 12))))) ++ beI 1 (nAt (ops s.ops) (((j : Nat) : Int).toNat * 12 + 1))))) ++ beI 4 (nAt (ops s.ops) (((j : Nat) : Int).toNat * 12 + 1 + 1))))) ++ beI 4 (nAt (ops s.ops) (((j : Nat) : Int).toNat * 12 + 1 + 1 + 1))))) ++ beI 1 (nAt (ops s.ops) (((j : Nat) : Int).toNat * 12 + 1 + 1 + 1 + 1))))) ++ beI 4 (nAt (ops s.ops) (((j : Nat) : Int).toNat * 12 + 1 + 1 + 1 + 1 + 1))))) ++ beI 4 (nAt (ops s.ops) (((j : Nat) : Int).toNat * 12 + 1 + 1 + 1 + 1 + 1 + 1))))) ++ beI 2 (IntKind.wrap .i64 (nAt (ops s.ops) (((j : Nat) : Int).toNat * 12 + 1 + 1 + 1 + 1 + 1 + 1 + 1)))))) ++ beI 1 (nAt (ops s.ops) (((j : Nat) : Int).toNat * 12 + 1 + 1 + 1 + 1 + 1 + 1 + 1 + 1))).length)), AV.one (Cl.d (DV.int .i64 (nAt (ops s.ops) (((j : Nat) : Int).toNat * 12 + 1 + 1 + 1 + 1 + 1 + 1 + 1 + 1 + 1)))), AV.one zz2] (zz40 j) ⟨AV.one (Cl.ref 0 (((ints (u8s ((ints (u8s ((ints (u8s ((ints (u8s ((ints (u8s ((ints (u8s ((ints (u8s ((ints (u8s ((ints (u8s ((ints (u8s (encC s j))) ++ beI 1 (nAt (ops s.ops) (((j : Nat) : Int).toNat * 12))))) ++ beI 1 (nAt (ops s.ops) (((j : Nat) : Int).toNat * 12 + 1))))) ++ beI 4 (nAt (ops s.ops) (((j : Nat) : Int).toNat * 12 + 1 + 1))))) ++ beI 4 (nAt (ops s.ops) (((j : Nat) : Int).toNat * 12 + 1 + 1 + 1))))) ++ beI 1 (nAt (ops s.ops) (((j : Nat) : Int).toNat * 12 + 1 + 1 + 1 + 1))))) ++ beI 4 (nAt (ops s.ops) (((j : Nat) : Int).toNat * 12 + 1 + 1 + 1 + 1 + 1))))) ++ beI 4 (nAt (ops s.ops) (((j : Nat) : Int).toNat * 12 + 1 + 1 + 1 + 1 + 1 + 1))))) ++ beI 2 (IntKind.wrap .i64 (nAt (ops s.ops) (((j : Nat) : Int).toNat * 12 + 1 + 1 + 1 + 1 + 1 + 1 + 1)))))) ++ beI 1 (nAt (ops s.ops) (((j : Nat) : Int).toNat * 12 + 1 + 1 + 1 + 1 + 1 + 1 + 1 + 1))))) ++ beI 1 (nAt (ops s.ops) (((j : Nat) : Int).toNat * 12 + 1 + 1 + 1 + 1 + 1 + 1 + 1 + 1 + 1))).length)), (zz41 j), false⟩) ∧ True ∧ True ∧ (Ans Try.prog 33 [RV.d (DV.bool (bAt (ops s.ops) (((j : Nat) : Int).toNat * 12 + 1 + 1 + 1 + 1 + 1 + 1 + 1 + 1 + 1 + 1)))] (RV.d (DV.int .i64 (if (bAt (ops s.ops) (((j : Nat) : Int).toNat * 12 + 1 + 1 + 1 + 1 + 1 + 1 + 1 + 1 + 1 + 1)) then 1 else 0)))) ∧ True ∧ True ∧ (Ans Try.prog 33 [RV.d (DV.bool (bAt (ops s.ops) (((j : Nat) : Int).toNat * 12 + 1 + 1 + 1 + 1 + 1 + 1 + 1 + 1 + 1 + 1 + 1)))] (RV.d (DV.int .i64 (if (bAt (ops s.ops) (((j : Nat) : Int).toNat * 12 + 1 + 1 + 1 + 1 + 1 + 1 + 1 + 1 + 1 + 1 + 1)) then 1 else 0)))) ∧ True ∧ True ∧ (AnsG Try.prog 32 0 [AV.one (Cl.ref 0 (((ints (u8s ((ints (u8s ((ints (u8s ((ints (u8s ((ints (u8s ((ints (u8s ((ints (u8s ((ints (u8s ((ints (u8s ((ints (u8s (encC s j))) ++ beI 1 (nAt (ops s.ops) (((j : Nat) : Int).toNat * 12))))) ++ beI 1 (nAt (ops s.ops) (((j : Nat) : Int).toNat * 12 + 1))))) ++ beI 4 (nAt (ops s.ops) (((j : Nat) : Int).toNat * 12 + 1 + 1))))) ++ beI 4 (nAt (ops s.ops) (((j : Nat) : Int).toNat * 12 + 1 + 1 + 1))))) ++ beI 1 (nAt (ops s.ops) (((j : Nat) : Int).toNat * 12 + 1 + 1 + 1 + 1))))) ++ beI 4 (nAt (ops s.ops) (((j : Nat) : Int).toNat * 12 + 1 + 1 + 1 + 1 + 1))))) ++ beI 4 (nAt (ops s.ops) (((j : Nat) : Int).toNat * 12 + 1 + 1 + 1 + 1 + 1 + 1))))) ++ beI 2 (IntKind.wrap .i64 (nAt (ops s.ops) (((j : Nat) : Int).toNat * 12 + 1 + 1 + 1 + 1 + 1 + 1 + 1)))))) ++ beI 1 (nAt (ops s.ops) (((j : Nat) : Int).toNat * 12 + 1 + 1 + 1 + 1 + 1 + 1 + 1 + 1))))) ++ beI 1 (nAt (ops s.ops) (((j : Nat) : Int).toNat * 12 + 1 + 1 + 1 + 1 + 1 + 1 + 1 + 1 + 1))).length)), AV.one (Cl.d (DV.int .i64 (IntKind.wrap .i64 ((if (bAt (ops s.ops) (((j : Nat) : Int).toNat * 12 + 1 + 1 + 1 + 1 + 1 + 1 + 1 + 1 + 1 + 1)) then 1 else 0) + (IntKind.wrap .i64 ((2 : Int) * (if (bAt (ops s.ops) (((j : Nat) : Int).toNat * 12 + 1 + 1 + 1 + 1 + 1 + 1 + 1 + 1 + 1 + 1 + 1)) then 1 else 0))))))), AV.one zz2] (zz41 j) ⟨AV.one (Cl.ref 0 (((ints (u8s ((ints (u8s ((ints (u8s ((ints (u8s ((ints (u8s ((ints (u8s ((ints (u8s ((ints (u8s ((ints (u8s ((ints (u8s ((ints (u8s (encC s j))) ++ beI 1 (nAt (ops s.ops) (((j : Nat) : Int).toNat * 12))))) ++ beI 1 (nAt (ops s.ops) (((j : Nat) : Int).toNat * 12 + 1))))) ++ beI 4 (nAt (ops s.ops) (((j : Nat) : Int).toNat * 12 + 1 + 1))))) ++ beI 4 (nAt (ops s.ops) (((j : Nat) : Int).toNat * 12 + 1 + 1 + 1))))) ++ beI 1 (nAt (ops s.ops) (((j : Nat) : Int).toNat * 12 + 1 + 1 + 1 + 1))))) ++ beI 4 (nAt (ops s.ops) (((j : Nat) : Int).toNat * 12 + 1 + 1 + 1 + 1 + 1))))) ++ beI 4 (nAt (ops s.ops) (((j : Nat) : Int).toNat * 12 + 1 + 1 + 1 + 1 + 1 + 1))))) ++ beI 2 (IntKind.wrap .i64 (nAt (ops s.ops) (((j : Nat) : Int).toNat * 12 + 1 + 1 + 1 + 1 + 1 + 1 + 1)))))) ++ beI 1 (nAt (ops s.ops) (((j : Nat) : Int).toNat * 12 + 1 + 1 + 1 + 1 + 1 + 1 + 1 + 1))))) ++ beI 1 (nAt (ops s.ops) (((j : Nat) : Int).toNat * 12 + 1 + 1 + 1 + 1 + 1 + 1 + 1 + 1 + 1))))) ++ beI 1 (IntKind.wrap .i64 ((if (bAt (ops s.ops) (((j : Nat) : Int).toNat * 12 + 1 + 1 + 1 + 1 + 1 + 1 + 1 + 1 + 1 + 1)) then 1 else 0) + (IntKind.wrap .i64 ((2 : Int) * (if (bAt (ops s.ops) (((j : Nat) : Int).toNat * 12 + 1 + 1 + 1 + 1 + 1 + 1 + 1 + 1 + 1 + 1 + 1)) then 1 else 0)))))).length)), [Bx.row 5 1 (u8s ((ints (u8s ((ints (u8s ((ints (u8s ((ints (u8s ((ints (u8s ((ints (u8s ((ints (u8s ((ints (u8s ((ints (u8s ((ints (u8s ((ints (u8s (encC s j))) ++ beI 1 (nAt (ops s.ops) (((j : Nat) : Int).toNat * 12))))) ++ beI 1 (nAt (ops s.ops) (((j : Nat) : Int).toNat * 12 + 1))))) ++ beI 4 (nAt (ops s.ops) (((j : Nat) : Int).toNat * 12 + 1 + 1))))) ++ beI 4 (nAt (ops s.ops) (((j : Nat) : Int).toNat * 12 + 1 + 1 + 1))))) ++ beI 1 (nAt (ops s.ops) (((j : Nat) : Int).toNat * 12 + 1 + 1 + 1 + 1))))) ++ beI 4 (nAt (ops s.ops) (((j : Nat) : Int).toNat * 12 + 1 + 1 + 1 + 1 + 1))))) ++ beI 4 (nAt (ops s.ops) (((j : Nat) : Int).toNat * 12 + 1 + 1 + 1 + 1 + 1 + 1))))) ++ beI 2 (IntKind.wrap .i64 (nAt (ops s.ops) (((j : Nat) : Int).toNat * 12 + 1 + 1 + 1 + 1 + 1 + 1 + 1)))))) ++ beI 1 (nAt (ops s.ops) (((j : Nat) : Int).toNat * 12 + 1 + 1 + 1 + 1 + 1 + 1 + 1 + 1))))) ++ beI 1 (nAt (ops s.ops) (((j : Nat) : Int).toNat * 12 + 1 + 1 + 1 + 1 + 1 + 1 + 1 + 1 + 1))))) ++ beI 1 (IntKind.wrap .i64 ((if (bAt (ops s.ops) (((j : Nat) : Int).toNat * 12 + 1 + 1 + 1 + 1 + 1 + 1 + 1 + 1 + 1 + 1)) then 1 else 0) + (IntKind.wrap .i64 ((2 : Int) * (if (bAt (ops s.ops) (((j : Nat) : Int).toNat * 12 + 1 + 1 + 1 + 1 + 1 + 1 + 1 + 1 + 1 + 1 + 1)) then 1 else 0)))))))], false⟩) ∧ True ∧ (true = true) ∧ True ∧ True ∧ True ∧ ∃ j' : Nat, (j' ≤ s.ops.length) ∧ (s.ops.length - j' < s.ops.length - j) ∧ (((0 = 0) ∧ (((ints (u8s ((ints (u8s ((ints (u8s ((ints (u8s ((ints (u8s ((ints (u8s ((ints (u8s ((ints (u8s ((ints (u8s ((ints (u8s ((ints (u8s (encC s j))) ++ beI 1 (nAt (ops s.ops) (((j : Nat) : Int).toNat * 12))))) ++ beI 1 (nAt (ops s.ops) (((j : Nat) : Int).toNat * 12 + 1))))) ++ beI 4 (nAt (ops s.ops) (((j : Nat) : Int).toNat * 12 + 1 + 1))))) ++ beI 4 (nAt (ops s.ops) (((j : Nat) : Int).toNat * 12 + 1 + 1 + 1))))) ++ beI 1 (nAt (ops s.ops) (((j : Nat) : Int).toNat * 12 + 1 + 1 + 1 + 1))))) ++ beI 4 (nAt (ops s.ops) (((j : Nat) : Int).toNat * 12 + 1 + 1 + 1 + 1 + 1))))) ++ beI 4 (nAt (ops s.ops) (((j : Nat) : Int).toNat * 12 + 1 + 1 + 1 + 1 + 1 + 1))))) ++ beI 2 (IntKind.wrap .i64 (nAt (ops s.ops) (((j : Nat) : Int).toNat * 12 + 1 + 1 + 1 + 1 + 1 + 1 + 1)))))) ++ beI 1 (nAt (ops s.ops) (((j : Nat) : Int).toNat * 12 + 1 + 1 + 1 + 1 + 1 + 1 + 1 + 1))))) ++ beI 1 (nAt (ops s.ops) (((j : Nat) : Int).toNat * 12 + 1 + 1 + 1 + 1 + 1 + 1 + 1 + 1 + 1))))) ++ beI 1 (IntKind.wrap .i64 ((if (bAt (ops s.ops) (((j : Nat) : Int).toNat * 12 + 1 + 1 + 1 + 1 + 1 + 1 + 1 + 1 + 1 + 1)) then 1 else 0) + (IntKind.wrap .i64 ((2 : Int) * (if (bAt (ops s.ops) (((j : Nat) : Int).toNat * 12 + 1 + 1 + 1 + 1 + 1 + 1 + 1 + 1 + 1 + 1 + 1)) then 1 else 0)))))).length = (encC s j').length) ∧ (DV.int .i64 (IntKind.wrap .i64 (((j : Nat) : Int) + (1 : Int))) = DV.int .i64 ((j' : Nat) : Int)) ∧ True) ∧ (zz18 ∧ (u8s ((ints (u8s ((ints (u8s ((ints (u8s ((ints (u8s ((ints (u8s ((ints (u8s ((ints (u8s ((ints (u8s ((ints (u8s ((ints (u8s ((ints (u8s (encC s j))) ++ beI 1 (nAt (ops s.ops) (((j : Nat) : Int).toNat * 12))))) ++ beI 1 (nAt (ops s.ops) (((j : Nat) : Int).toNat * 12 + 1))))) ++ beI 4 (nAt (ops s.ops) (((j : Nat) : Int).toNat * 12 + 1 + 1))))) ++ beI 4 (nAt (ops s.ops) (((j : Nat) : Int).toNat * 12 + 1 + 1 + 1))))) ++ beI 1 (nAt (ops s.ops) (((j : Nat) : Int).toNat * 12 + 1 + 1 + 1 + 1))))) ++ beI 4 (nAt (ops s.ops) (((j : Nat) : Int).toNat * 12 + 1 + 1 + 1 + 1 + 1))))) ++ beI 4 (nAt (ops s.ops) (((j : Nat) : Int).toNat * 12 + 1 + 1 + 1 + 1 + 1 + 1))))) ++ beI 2 (IntKind.wrap .i64 (nAt (ops s.ops) (((j : Nat) : Int).toNat * 12 + 1 + 1 + 1 + 1 + 1 + 1 + 1)))))) ++ beI 1 (nAt (ops s.ops) (((j : Nat) : Int).toNat * 12 + 1 + 1 + 1 + 1 + 1 + 1 + 1 + 1))))) ++ beI 1 (nAt (ops s.ops) (((j : Nat) : Int).toNat * 12 + 1 + 1 + 1 + 1 + 1 + 1 + 1 + 1 + 1))))) ++ beI 1 (IntKind.wrap .i64 ((if (bAt (ops s.ops) (((j : Nat) : Int).toNat * 12 + 1 + 1 + 1 + 1 + 1 + 1 + 1 + 1 + 1 + 1)) then 1 else 0) + (IntKind.wrap .i64 ((2 : Int) * (if (bAt (ops s.ops) (((j : Nat) : Int).toNat * 12 + 1 + 1 + 1 + 1 + 1 + 1 + 1 + 1 + 1 + 1 + 1)) then 1 else 0)))))) = u8s (encC s j')) ∧ True))) ∧ ((decide (((j : Nat) : Int) < ((s.ops.length : Nat) : Int))) = false → True ∧ True ∧ True ∧ RV.tup [RV.d (DV.sl ((encC s j).length) (u8s (encC s j))), RV.d (DV.int .i64 0)] = RV.tup zz1)))))))))))) := by kernel_rfl
theorem R18_Encode_ans (s : Scr) (hM : ∀ m ∈ s.ims, m.isU) (hos : s.ord.length ≤ 17592186044416) : Ans Try.prog 12 [RV.agg [DV.int .i64 s.bits, DV.int .i64 s.c.a, DV.int .i64 s.c.b, DV.int .i64 s.c.c, DV.int .i64 s.c.d, DV.int .i64 s.tw, DV.int .i64 s.th, DV.sl s.ord.length (is s.ord), DV.sl s.ims.length (ims s.ims), DV.sl s.ops.length (ops s.ops)]] (RV.tup [RV.d (DV.sl ((encS s).1.length) (u8s (encS s).1)), RV.d (DV.int .i64 ((encS s).2))]) :=
  ans_of_vcg (Γ := gamEf) (R18_Encode_ann s) mixed_ Try.func12 rfl (Nat.le_of_ble_eq_true rfl) fun hwf => by
    refine Eq.mpr (R18_Encode_vc s) ?_
    simp only [true_and, and_true, RV.d.injEq, RV.agg.injEq, RV.tup.injEq, DV.bool.injEq, DV.int.injEq, DV.sl.injEq, List.cons.injEq, forall_const, Bool.not_false, Bool.not_true, Bool.not_eq_true', Bool.not_eq_false', decide_eq_true_eq, decide_eq_false_iff_not, Int.toNat_natCast, imQ, imQr, imC, oqQ, oqQr, oqC, oqD, pxQ, pxQr, pxC, pxD]
    have eo := R18_Encodable_ans s
    have hS : encOk s = false → encS s = ([], 19) := fun h => by unfold encS; rw [h]; rfl
    have hT : encOk s = true → encS s = (encB s, 0) := fun h => by unfold encS; rw [if_pos h]
    have hwO : DV.wfs (ops s.ops) := by
      simp only [RV.wfs, RV.wf, DV.wf, DV.wfs] at hwf
      exact hwf.1.2.2.2.2.2.2.2.2.2.1.2
    clear hwf
    simp only [toIms_ims, toOps_ops, ints_u8s, ints_is, ints_cons, ints_nil]
    refine ⟨eo, fun h => ?_, fun h => ?_⟩
    · rw [hS h]; exact ⟨⟨rfl, rfl⟩, rfl⟩
    · have hT := hT h
      have E : Enc s := enc_of h
      have hsz := E.sz
      have hzl := sizeIms_le E.fm
      have hol := E.ol
      have hil := E.il
      have hA := fun k => encA_len E k
      have hC := fun j => encC_len E j
      unfold sizeS at hsz
      have hO : ∀ i, (encO s i).length ≤ 300000000 := fun i => by
        unfold encO hdr7
        simp only [List.length_append, putL_len, List.length_cons, List.length_nil, List.length_take]
        omega
      have eH : [76, 67] ++ beI 1 (s.bits) ++ beI 4 (s.c.a) ++ beI 4 (s.c.b) ++ beI 4 (s.c.c) ++ beI 4 (s.c.d) ++ beI 4 (s.tw) ++ beI 4 (s.th) ++ beI 4 ((s.ord.length : Int)) = encO s 0 := by
        unfold encO hdr7
        simp only [putL, List.take_zero, List.flatMap_cons, List.flatMap_nil, List.append_nil, List.append_assoc]
      refine ⟨by omega, R18_big_ans ([76, 67]) (s.bits) 1 ⟨by omega, by omega⟩ (by first | omega | (simp only [List.length_append, beI_len, List.length_cons, List.length_nil]; omega)), R18_big_ans ([76, 67] ++ beI 1 (s.bits)) (s.c.a) 4 ⟨by omega, by omega⟩ (by first | omega | (simp only [List.length_append, beI_len, List.length_cons, List.length_nil]; omega)), R18_big_ans ([76, 67] ++ beI 1 (s.bits) ++ beI 4 (s.c.a)) (s.c.b) 4 ⟨by omega, by omega⟩ (by first | omega | (simp only [List.length_append, beI_len, List.length_cons, List.length_nil]; omega)), R18_big_ans ([76, 67] ++ beI 1 (s.bits) ++ beI 4 (s.c.a) ++ beI 4 (s.c.b)) (s.c.c) 4 ⟨by omega, by omega⟩ (by first | omega | (simp only [List.length_append, beI_len, List.length_cons, List.length_nil]; omega)), R18_big_ans ([76, 67] ++ beI 1 (s.bits) ++ beI 4 (s.c.a) ++ beI 4 (s.c.b) ++ beI 4 (s.c.c)) (s.c.d) 4 ⟨by omega, by omega⟩ (by first | omega | (simp only [List.length_append, beI_len, List.length_cons, List.length_nil]; omega)), R18_big_ans ([76, 67] ++ beI 1 (s.bits) ++ beI 4 (s.c.a) ++ beI 4 (s.c.b) ++ beI 4 (s.c.c) ++ beI 4 (s.c.d)) (s.tw) 4 ⟨by omega, by omega⟩ (by first | omega | (simp only [List.length_append, beI_len, List.length_cons, List.length_nil]; omega)), R18_big_ans ([76, 67] ++ beI 1 (s.bits) ++ beI 4 (s.c.a) ++ beI 4 (s.c.b) ++ beI 4 (s.c.c) ++ beI 4 (s.c.d) ++ beI 4 (s.tw)) (s.th) 4 ⟨by omega, by omega⟩ (by first | omega | (simp only [List.length_append, beI_len, List.length_cons, List.length_nil]; omega)), R18_big_ans ([76, 67] ++ beI 1 (s.bits) ++ beI 4 (s.c.a) ++ beI 4 (s.c.b) ++ beI 4 (s.c.c) ++ beI 4 (s.c.d) ++ beI 4 (s.tw) ++ beI 4 (s.th)) ((s.ord.length : Int)) 4 ⟨by omega, by omega⟩ (by first | omega | (simp only [List.length_append, beI_len, List.length_cons, List.length_nil]; omega)), ⟨0, Nat.zero_le _, ⟨by rw [eH], rfl⟩, by rw [eH]⟩, fun i hi => ⟨fun hlt => ?_, fun hge => ?_⟩⟩
      · have hi : i < s.ord.length := by omega
        obtain ⟨q1, q2⟩ := is_rd hi
        have w1 : IntKind.wrap .i64 ((i : Int) + 1) = ((i + 1 : Nat) : Int) := by rw [IntWalk.i64_in _ ⟨by omega, by omega⟩]; omega
        have pb := R18_big_ans (encO s i) s.ord[i] 4 ⟨by omega, by omega⟩ (by have := hO i; omega)
        have eS := encO_succ hi
        simp only [Nat.mul_one, q2, w1]
        refine ⟨⟨by omega, by omega, by rw [is_length]; omega⟩, q1, pb, i + 1, by omega, by omega, ⟨?_, rfl⟩, ?_⟩
        · rw [eS]
        · rw [eS]
      · have : i = s.ord.length := by omega
        subst this
        have pb := R18_big_ans (encO s s.ord.length) (s.ims.length : Int) 1 ⟨by omega, by omega⟩ (by have := hO s.ord.length; omega)
        have eA := encO_all s
        refine ⟨pb, ⟨0, Nat.zero_le _, ⟨by rw [eA], rfl⟩, by rw [eA]⟩, fun k hk => ⟨fun hlt => ?_, fun hge => ?_⟩⟩
        · have hk : k < s.ims.length := by omega
          have q1 := ims_rd hk
          have q2 := ims_at hk
          have w1 : IntKind.wrap .i64 ((k : Int) + 1) = ((k + 1 : Nat) : Int) := by rw [IntWalk.i64_in _ ⟨by omega, by omega⟩]; omega
          have hfm : s.ims[k].formed = true := by have := E.fm; rw [List.all_eq_true] at this; exact this _ (List.getElem_mem hk)
          have hAk := (hA k).2
          have bt := R18_bit_ans s.ims[k].so
          have em := mAt_of hk
          have hMu := hM _ (List.getElem_mem hk)
          have po := R13_Pixels_im s.ims[k] hMu
          have hpx := Im.pixels_len hfm
          have hpl : s.ims[k].pixels.length ≤ 16777216 := by have := (sizeIm_le' hfm); omega
          have ep0 : s.ims[k].so = false → pxL s.ims[k] = s.ims[k].pixels := fun h => by unfold pxL; rw [if_neg (by rw [h]; simp)]
          have ep1 : s.ims[k].so = true → pxL s.ims[k] = [s.ims[k].c] := fun h => by unfold pxL; rw [if_pos h]
          have hp2 : (pxL s.ims[k]).length ≤ 16777216 := by
            cases hc : s.ims[k].so
            · rw [ep0 hc]; exact hpl
            · rw [ep1 hc]; simp
          have eS := encA_succ hk
          rw [imB_hd] at eS
          have eM : encA s k ++ beI 1 (if s.ims[k].so = true then 1 else 0) ++ beI 4 (s.ims[k].w) ++ beI 4 (s.ims[k].h) = encA s k ++ hdB s.ims[k] := by
            unfold hdB
            simp only [putL, List.flatMap_cons, List.flatMap_nil, List.append_nil, List.append_assoc]
          simp only [q2, w1, em]
          refine ⟨⟨by omega, by omega, by rw [ims_length]; omega⟩, q1, bt, R18_big_ans (encA s k) (if s.ims[k].so = true then 1 else 0) 1 ⟨by omega, by omega⟩ (by first | omega | (simp only [List.length_append, beI_len, List.length_cons, List.length_nil]; omega)), R18_big_ans (encA s k ++ beI 1 (if s.ims[k].so = true then 1 else 0)) (s.ims[k].w) 4 ⟨by omega, by omega⟩ (by first | omega | (simp only [List.length_append, beI_len, List.length_cons, List.length_nil]; omega)), R18_big_ans (encA s k ++ beI 1 (if s.ims[k].so = true then 1 else 0) ++ beI 4 (s.ims[k].w)) (s.ims[k].h) 4 ⟨by omega, by omega⟩ (by first | omega | (simp only [List.length_append, beI_len, List.length_cons, List.length_nil]; omega)), ?_⟩
          refine ⟨⟨fun h => ⟨po, 0, rfl, ⟨by rw [eM], ?_⟩, by rw [eM], ?_⟩, fun h => ⟨0, rfl, ⟨by rw [eM], ?_⟩, by rw [eM], ?_⟩⟩, fun z _ => ⟨⟨0, Nat.zero_le _, ⟨by simp, rfl⟩, by simp⟩, fun q hq => ⟨?_, fun hlt => ?_, fun hge => ?_⟩⟩⟩
          · rw [ep0 h]
          · rw [ep0 h]
          · rw [ep1 h]; rfl
          · rw [ep1 h]; rfl
          · unfold maxLen; omega
          · have hq' : q < (pxL s.ims[k]).length := by omega
            have hpm : q < 16777216 := by omega
            have w2 : IntKind.wrap .i64 ((q : Int) + 1) = ((q + 1 : Nat) : Int) := by rw [IntWalk.i64_in _ ⟨by omega, by omega⟩]; omega
            obtain ⟨x0, x1, x2, x3, x4⟩ := pxs_at hq'
            have n0 : nAt (pxs (pxL s.ims[k])) (q * 5) = (pxL s.ims[k])[q].a := by simp [nAt, x0]
            have n1 : nAt (pxs (pxL s.ims[k])) (q * 5 + 1) = (pxL s.ims[k])[q].b := by simp [nAt, x1]
            have n2 : nAt (pxs (pxL s.ims[k])) (q * 5 + 1 + 1) = (pxL s.ims[k])[q].c := by simp [nAt, x2]
            have n3 : nAt (pxs (pxL s.ims[k])) (q * 5 + 1 + 1 + 1) = (pxL s.ims[k])[q].al := by simp [nAt, x3]
            have n4 : nAt (pxs (pxL s.ims[k])) (q * 5 + 1 + 1 + 1 + 1) = (pxL s.ims[k])[q].f := by simp [nAt, x4]
            simp only [n0, n1, n2, n3, n4, w2]
            have hL : (encA s k ++ hdB s.ims[k] ++ ((pxL s.ims[k]).take q).flatMap pxB).length ≤ 800000000 := by
              unfold hdB
              simp only [List.length_append, putL_len, pxBs_len, List.length_take, List.length_cons, List.length_nil]
              omega
            have hT : encA s k ++ hdB s.ims[k] ++ ((pxL s.ims[k]).take q).flatMap pxB ++ pxB (pxL s.ims[k])[q] = encA s k ++ hdB s.ims[k] ++ ((pxL s.ims[k]).take (q + 1)).flatMap pxB := by
              rw [List.take_succ_eq_append_getElem hq', List.flatMap_append]
              simp only [List.append_assoc, List.flatMap_cons, List.flatMap_nil, List.append_nil]
            exact ⟨⟨by omega, by omega⟩, ⟨x0, x1, x2, x3, x4⟩, R18_pixel_ans _ (pxL s.ims[k])[q] hL, q + 1, by omega, by omega, ⟨by rw [← hT], rfl⟩, by rw [← hT]⟩
          · have : q = (pxL s.ims[k]).length := by omega
            subst this
            rw [List.take_length, List.append_assoc, ← eS]
            exact ⟨k + 1, by omega, by omega, ⟨rfl, rfl⟩, rfl⟩
        · have : k = s.ims.length := by omega
          subst this
          have hAl := (hA s.ims.length).2
          have pb := R18_big_ans (encA s s.ims.length) (s.ops.length : Int) 2 ⟨by omega, by omega⟩ (by omega)
          have eC : encA s s.ims.length ++ beI 2 (s.ops.length : Int) = encC s 0 := by
            unfold encC
            simp only [putL, List.take_zero, List.flatMap_cons, List.flatMap_nil, List.append_nil]
          refine ⟨pb, ⟨0, Nat.zero_le _, ⟨by rw [eC], rfl⟩, by rw [eC]⟩, fun j hj => ⟨fun hlt => ?_, fun hge => ?_⟩⟩
          · have hj : j < s.ops.length := by omega
            have q1 := ops_rd hj
            have q2 := ops_at hj
            have w1 : IntKind.wrap .i64 ((j : Int) + 1) = ((j + 1 : Nat) : Int) := by rw [IntWalk.i64_in _ ⟨by omega, by omega⟩]; omega
            have hCj := hC j
            have eS := encC_succ hj
            have b1 := R18_bit_ans s.ops[j].iso
            have b2 := R18_bit_ans s.ops[j].kno
            have eF : IntKind.wrap .i64 ((if s.ops[j].iso = true then 1 else 0) + IntKind.wrap .i64 (2 * if s.ops[j].kno = true then 1 else 0)) = flagO s.ops[j] := by
              unfold flagO
              cases s.ops[j].iso <;> cases s.ops[j].kno <;> decide
            have eO : encC s j ++ beI 1 (s.ops[j].kind) ++ beI 1 (s.ops[j].image) ++ beI 4 (s.ops[j].x) ++ beI 4 (s.ops[j].y) ++ beI 1 (s.ops[j].mask) ++ beI 4 (s.ops[j].mx) ++ beI 4 (s.ops[j].my) ++ beI 2 (s.ops[j].opac) ++ beI 1 (s.ops[j].oper) ++ beI 1 (s.ops[j].mode) ++ beI 1 (flagO s.ops[j]) = encC s (j + 1) := by
              rw [eS]
              simp only [opB, putL, List.flatMap_cons, List.flatMap_nil, List.append_nil, List.append_assoc]
            have hop := wf_ops hwO hj
            have w3 : IntKind.wrap .i64 s.ops[j].opac = s.ops[j].opac := IntWalk.i64_in _ ⟨by omega, by omega⟩
            simp only [q2, w1, eF, w3]
            refine ⟨⟨by omega, by omega, by rw [ops_length]; omega⟩, q1, R18_big_ans (encC s j) (s.ops[j].kind) 1 ⟨by omega, by omega⟩ (by first | omega | (simp only [List.length_append, beI_len, List.length_cons, List.length_nil]; omega)), R18_big_ans (encC s j ++ beI 1 (s.ops[j].kind)) (s.ops[j].image) 1 ⟨by omega, by omega⟩ (by first | omega | (simp only [List.length_append, beI_len, List.length_cons, List.length_nil]; omega)), R18_big_ans (encC s j ++ beI 1 (s.ops[j].kind) ++ beI 1 (s.ops[j].image)) (s.ops[j].x) 4 ⟨by omega, by omega⟩ (by first | omega | (simp only [List.length_append, beI_len, List.length_cons, List.length_nil]; omega)), R18_big_ans (encC s j ++ beI 1 (s.ops[j].kind) ++ beI 1 (s.ops[j].image) ++ beI 4 (s.ops[j].x)) (s.ops[j].y) 4 ⟨by omega, by omega⟩ (by first | omega | (simp only [List.length_append, beI_len, List.length_cons, List.length_nil]; omega)), R18_big_ans (encC s j ++ beI 1 (s.ops[j].kind) ++ beI 1 (s.ops[j].image) ++ beI 4 (s.ops[j].x) ++ beI 4 (s.ops[j].y)) (s.ops[j].mask) 1 ⟨by omega, by omega⟩ (by first | omega | (simp only [List.length_append, beI_len, List.length_cons, List.length_nil]; omega)), R18_big_ans (encC s j ++ beI 1 (s.ops[j].kind) ++ beI 1 (s.ops[j].image) ++ beI 4 (s.ops[j].x) ++ beI 4 (s.ops[j].y) ++ beI 1 (s.ops[j].mask)) (s.ops[j].mx) 4 ⟨by omega, by omega⟩ (by first | omega | (simp only [List.length_append, beI_len, List.length_cons, List.length_nil]; omega)), R18_big_ans (encC s j ++ beI 1 (s.ops[j].kind) ++ beI 1 (s.ops[j].image) ++ beI 4 (s.ops[j].x) ++ beI 4 (s.ops[j].y) ++ beI 1 (s.ops[j].mask) ++ beI 4 (s.ops[j].mx)) (s.ops[j].my) 4 ⟨by omega, by omega⟩ (by first | omega | (simp only [List.length_append, beI_len, List.length_cons, List.length_nil]; omega)), R18_big_ans (encC s j ++ beI 1 (s.ops[j].kind) ++ beI 1 (s.ops[j].image) ++ beI 4 (s.ops[j].x) ++ beI 4 (s.ops[j].y) ++ beI 1 (s.ops[j].mask) ++ beI 4 (s.ops[j].mx) ++ beI 4 (s.ops[j].my)) (s.ops[j].opac) 2 ⟨by omega, by omega⟩ (by first | omega | (simp only [List.length_append, beI_len, List.length_cons, List.length_nil]; omega)), R18_big_ans (encC s j ++ beI 1 (s.ops[j].kind) ++ beI 1 (s.ops[j].image) ++ beI 4 (s.ops[j].x) ++ beI 4 (s.ops[j].y) ++ beI 1 (s.ops[j].mask) ++ beI 4 (s.ops[j].mx) ++ beI 4 (s.ops[j].my) ++ beI 2 (s.ops[j].opac)) (s.ops[j].oper) 1 ⟨by omega, by omega⟩ (by first | omega | (simp only [List.length_append, beI_len, List.length_cons, List.length_nil]; omega)), R18_big_ans (encC s j ++ beI 1 (s.ops[j].kind) ++ beI 1 (s.ops[j].image) ++ beI 4 (s.ops[j].x) ++ beI 4 (s.ops[j].y) ++ beI 1 (s.ops[j].mask) ++ beI 4 (s.ops[j].mx) ++ beI 4 (s.ops[j].my) ++ beI 2 (s.ops[j].opac) ++ beI 1 (s.ops[j].oper)) (s.ops[j].mode) 1 ⟨by omega, by omega⟩ (by first | omega | (simp only [List.length_append, beI_len, List.length_cons, List.length_nil]; omega)), b1, b2, R18_big_ans (encC s j ++ beI 1 (s.ops[j].kind) ++ beI 1 (s.ops[j].image) ++ beI 4 (s.ops[j].x) ++ beI 4 (s.ops[j].y) ++ beI 1 (s.ops[j].mask) ++ beI 4 (s.ops[j].mx) ++ beI 4 (s.ops[j].my) ++ beI 2 (s.ops[j].opac) ++ beI 1 (s.ops[j].oper) ++ beI 1 (s.ops[j].mode)) (flagO s.ops[j]) 1 ⟨by omega, by omega⟩ (by first | omega | (simp only [List.length_append, beI_len, List.length_cons, List.length_nil]; omega)), j + 1, by omega, by omega, ⟨by rw [← eO], rfl⟩, by rw [← eO]⟩
          · have : j = s.ops.length := by omega
            subst this
            rw [hT, encC_all]
            exact ⟨⟨rfl, rfl⟩, rfl⟩

end Go.Proofs.Ytkfgmaecbclgfaa

/-
  Decode of no bytes: the reader's panic, and the deferred function that recovers it.
-/
namespace Go.Proofs.Ytkfgmaecbclgfaa
open Go.RowKit
set_option linter.unusedVariables false
set_option linter.unusedSimpArgs false

set_option maxRecDepth 100000 in
theorem decode_catch (g g2 : Nat) (w : World) (hp : w.heap[g]? = some (.cells #[Value.int .i64 0, Value.int .i64 0, Value.int .i64 0, Value.int .i64 0, Value.int .i64 0, Value.int .i64 0, Value.int .i64 0, Value.slice none 0 0, Value.slice none 0 0, Value.slice none 0 0] 32 (0, 0))) (hq : w.heap[g2]? = some (.cells #[.int .i64 0] 46 (0, 0))) :
    CallsD Try.prog 44 #[.pointer (some ⟨g, 0, none⟩), .pointer (some ⟨g2, 0, none⟩)] (.panicking ({ v := .iface 94 (.agg #[]), recovered := false } :: [])) w fun e u' w' =>
      e = .returned (.tuple #[]) ∧ u' = .panicking ({ v := .iface 94 (.agg #[]), recovered := true } :: []) ∧ w' = w.setCell ⟨g2, 0, none⟩ (.int .i64 19) := by
  have hta : ∀ w : World, (Instr.typeAssert (.iface 94 (.agg #[])) 20 94 true).run Try.prog w = .ok (.tuple #[.agg #[], .bool true]) w := fun _ => by kernel_rfl
  have c0 : w.cell? ⟨g, 0, none⟩ = some (Value.int .i64 0) := by simp [World.cell?, hp]
  have f0 : w.frozen? ⟨g, 0, none⟩ = false := by simp [World.frozen?, hp]
  have s0 : w.setCell ⟨g, 0, none⟩ (Value.int .i64 0) = w := (setCell_eq_setRow w g 0 _ _ _ _ hp).trans (setRow_self w g _ _ _ hp)
  have c1 : w.cell? ⟨g, 1, none⟩ = some (Value.int .i64 0) := by simp [World.cell?, hp]
  have f1 : w.frozen? ⟨g, 1, none⟩ = false := by simp [World.frozen?, hp]
  have s1 : w.setCell ⟨g, 1, none⟩ (Value.int .i64 0) = w := (setCell_eq_setRow w g 1 _ _ _ _ hp).trans (setRow_self w g _ _ _ hp)
  have c2 : w.cell? ⟨g, 2, none⟩ = some (Value.int .i64 0) := by simp [World.cell?, hp]
  have f2 : w.frozen? ⟨g, 2, none⟩ = false := by simp [World.frozen?, hp]
  have s2 : w.setCell ⟨g, 2, none⟩ (Value.int .i64 0) = w := (setCell_eq_setRow w g 2 _ _ _ _ hp).trans (setRow_self w g _ _ _ hp)
  have c3 : w.cell? ⟨g, 3, none⟩ = some (Value.int .i64 0) := by simp [World.cell?, hp]
  have f3 : w.frozen? ⟨g, 3, none⟩ = false := by simp [World.frozen?, hp]
  have s3 : w.setCell ⟨g, 3, none⟩ (Value.int .i64 0) = w := (setCell_eq_setRow w g 3 _ _ _ _ hp).trans (setRow_self w g _ _ _ hp)
  have c4 : w.cell? ⟨g, 4, none⟩ = some (Value.int .i64 0) := by simp [World.cell?, hp]
  have f4 : w.frozen? ⟨g, 4, none⟩ = false := by simp [World.frozen?, hp]
  have s4 : w.setCell ⟨g, 4, none⟩ (Value.int .i64 0) = w := (setCell_eq_setRow w g 4 _ _ _ _ hp).trans (setRow_self w g _ _ _ hp)
  have c5 : w.cell? ⟨g, 5, none⟩ = some (Value.int .i64 0) := by simp [World.cell?, hp]
  have f5 : w.frozen? ⟨g, 5, none⟩ = false := by simp [World.frozen?, hp]
  have s5 : w.setCell ⟨g, 5, none⟩ (Value.int .i64 0) = w := (setCell_eq_setRow w g 5 _ _ _ _ hp).trans (setRow_self w g _ _ _ hp)
  have c6 : w.cell? ⟨g, 6, none⟩ = some (Value.int .i64 0) := by simp [World.cell?, hp]
  have f6 : w.frozen? ⟨g, 6, none⟩ = false := by simp [World.frozen?, hp]
  have s6 : w.setCell ⟨g, 6, none⟩ (Value.int .i64 0) = w := (setCell_eq_setRow w g 6 _ _ _ _ hp).trans (setRow_self w g _ _ _ hp)
  have c7 : w.cell? ⟨g, 7, none⟩ = some (Value.slice none 0 0) := by simp [World.cell?, hp]
  have f7 : w.frozen? ⟨g, 7, none⟩ = false := by simp [World.frozen?, hp]
  have s7 : w.setCell ⟨g, 7, none⟩ (Value.slice none 0 0) = w := (setCell_eq_setRow w g 7 _ _ _ _ hp).trans (setRow_self w g _ _ _ hp)
  have c8 : w.cell? ⟨g, 8, none⟩ = some (Value.slice none 0 0) := by simp [World.cell?, hp]
  have f8 : w.frozen? ⟨g, 8, none⟩ = false := by simp [World.frozen?, hp]
  have s8 : w.setCell ⟨g, 8, none⟩ (Value.slice none 0 0) = w := (setCell_eq_setRow w g 8 _ _ _ _ hp).trans (setRow_self w g _ _ _ hp)
  have c9 : w.cell? ⟨g, 9, none⟩ = some (Value.slice none 0 0) := by simp [World.cell?, hp]
  have f9 : w.frozen? ⟨g, 9, none⟩ = false := by simp [World.frozen?, hp]
  have s9 : w.setCell ⟨g, 9, none⟩ (Value.slice none 0 0) = w := (setCell_eq_setRow w g 9 _ _ _ _ hp).trans (setRow_self w g _ _ _ hp)
  have q0 : w.cell? ⟨g2, 0, none⟩ = some (.int .i64 0) := by simp [World.cell?, hq]
  have p0 : w.frozen? ⟨g2, 0, none⟩ = false := by simp [World.frozen?, hq]
  refine callsD_of_wpS Try.func44 rfl fun c₀ cs hu => ?_
  apply wpS_seq
  apply wpS_region
  simp [wpOpsS, go_sem, recoverD, hu, Try.ntmps44, Exit.thenS]
  refine wpS_of_wp ?_
  go_wp2
  simp [bodyPostS, results, Try.results44]
set_option maxRecDepth 100000 in
theorem decode_nil (A : Option Addr) (cap : Nat) (w : World) :
    Calls Try.prog 19 #[.slice A 0 cap] w fun e w' => e = .returned (.tuple #[.agg #[.int .i64 0, .int .i64 0, .int .i64 0, .int .i64 0, .int .i64 0, .int .i64 0, .int .i64 0, .slice none 0 0, .slice none 0 0, .slice none 0 0], .int .i64 19]) ∧ Below w.heap.size w w' := by
  have hmf : ∀ (fn : Fn) (first cap : Array Value) (w : World), (Instr.makeFunc fn first cap).run Try.prog w = .ok (.func fn first cap) w := fun _ _ _ _ => rfl
  go_enter_defers Try.func19, Try.ntmps19
  go_wp2
  go_end0
  go_wp2
  simp only [bodyPost]
  refine ⟨trivial, ?_⟩
  go_wp2
  simp only [bodyPost]
  refine ⟨trivial, ?_⟩
  go_wp2
  simp only [bodyPost]
  refine ⟨trivial, ?_⟩
  go_wp2
  have sz : ∀ (u : World) (o : Obj), (u.alloc o).heap.size = u.heap.size + 1 := fun u o => by simp
  have old : ∀ (u : World) (o : Obj) (k : Nat), k < u.heap.size → (u.alloc o).heap[k]? = u.heap[k]? := fun u o k hk => heap_alloc_old u o hk
  have new : ∀ (u : World) (o : Obj), (u.alloc o).heap[u.heap.size]? = some o := fun u o => heap_alloc_new u o
  obtain ⟨W, hW⟩ : ∃ W, W = ((((w.alloc (.cells #[Value.int .i64 0, Value.int .i64 0, Value.int .i64 0, Value.int .i64 0, Value.int .i64 0, Value.int .i64 0, Value.int .i64 0, Value.slice none 0 0, Value.slice none 0 0, Value.slice none 0 0] 32)).alloc (.cells #[.int .i64 0] 46)).alloc (.cells #[.slice A 0 cap] 97)).alloc (.cells #[Value.int .i64 0, Value.int .i64 0, Value.int .i64 0, Value.int .i64 0, Value.int .i64 0, Value.int .i64 0, Value.int .i64 0, Value.slice none 0 0, Value.slice none 0 0, Value.slice none 0 0] 32)) := ⟨_, rfl⟩
  have h1 : W.heap[w.heap.size]? = some (.cells #[Value.int .i64 0, Value.int .i64 0, Value.int .i64 0, Value.int .i64 0, Value.int .i64 0, Value.int .i64 0, Value.int .i64 0, Value.slice none 0 0, Value.slice none 0 0, Value.slice none 0 0] 32) := by
    rw [hW, old _ _ _ (by simp only [sz]; omega), old _ _ _ (by simp only [sz]; omega), old _ _ _ (by simp only [sz]; omega), new]
  have h2 : W.heap[w.heap.size + 1]? = some (.cells #[.int .i64 0] 46) := by
    rw [hW, old _ _ _ (by simp only [sz]; omega), old _ _ _ (by simp only [sz]; omega), ← sz w (.cells #[Value.int .i64 0, Value.int .i64 0, Value.int .i64 0, Value.int .i64 0, Value.int .i64 0, Value.int .i64 0, Value.int .i64 0, Value.slice none 0 0, Value.slice none 0 0, Value.slice none 0 0] 32), new]
  have hs : W.heap.size = w.heap.size + 4 := by rw [hW]; simp only [sz]
  have hb : ∀ k, k < w.heap.size → W.heap[k]? = w.heap[k]? := fun k hk => by
    rw [hW, old _ _ _ (by simp only [sz]; omega), old _ _ _ (by simp only [sz]; omega), old _ _ _ (by simp only [sz]; omega), old _ _ _ hk]
  have ho : W.os = w.os ∧ W.tape = w.tape ∧ W.output = w.output := by rw [hW]; exact ⟨rfl, rfl, rfl⟩
  rw [← hW]
  clear hW
  refine leaves_cons (f := 44) (args := #[.pointer (some ⟨w.heap.size, 0, none⟩), .pointer (some ⟨w.heap.size + 1, 0, none⟩)]) (by simp) (by simp [go_sem]) ?_
  refine (decode_catch w.heap.size (w.heap.size + 1) W h1 h2).mono ?_
  rintro e u' w'' ⟨rfl, rfl, rfl⟩
  obtain ⟨W', hW'⟩ : ∃ W', W' = W.setCell ⟨w.heap.size + 1, 0, none⟩ (.int .i64 19) := ⟨_, rfl⟩
  have e1 := setCell_eq_setRow W (w.heap.size + 1) 0 _ _ _ (.int .i64 19) h2
  rw [← hW'] at e1
  have k1 : W'.heap[w.heap.size]? = some (.cells #[Value.int .i64 0, Value.int .i64 0, Value.int .i64 0, Value.int .i64 0, Value.int .i64 0, Value.int .i64 0, Value.int .i64 0, Value.slice none 0 0, Value.slice none 0 0, Value.slice none 0 0] 32) := by rw [e1, setRow_other W _ _ _ (by omega)]; exact h1
  have k2 : W'.heap[w.heap.size + 1]? = some (.cells #[.int .i64 19] 46) := by rw [e1]; exact setRow_heap W _ _ _ _ _ h2
  have k3 : Below w.heap.size w W' := by
    rw [e1]
    exact ⟨ho.1, ho.2.1, ho.2.2, by show w.heap.size ≤ (W.setRow _ _).heap.size; simp [World.setRow]; omega, fun k hk => by rw [setRow_other W _ _ _ (by omega)]; exact hb k hk⟩
  have c0 : W'.cell? ⟨w.heap.size, 0, none⟩ = some (Value.int .i64 0) := by simp [World.cell?, k1]
  have c1 : W'.cell? ⟨w.heap.size, 1, none⟩ = some (Value.int .i64 0) := by simp [World.cell?, k1]
  have c2 : W'.cell? ⟨w.heap.size, 2, none⟩ = some (Value.int .i64 0) := by simp [World.cell?, k1]
  have c3 : W'.cell? ⟨w.heap.size, 3, none⟩ = some (Value.int .i64 0) := by simp [World.cell?, k1]
  have c4 : W'.cell? ⟨w.heap.size, 4, none⟩ = some (Value.int .i64 0) := by simp [World.cell?, k1]
  have c5 : W'.cell? ⟨w.heap.size, 5, none⟩ = some (Value.int .i64 0) := by simp [World.cell?, k1]
  have c6 : W'.cell? ⟨w.heap.size, 6, none⟩ = some (Value.int .i64 0) := by simp [World.cell?, k1]
  have c7 : W'.cell? ⟨w.heap.size, 7, none⟩ = some (Value.slice none 0 0) := by simp [World.cell?, k1]
  have c8 : W'.cell? ⟨w.heap.size, 8, none⟩ = some (Value.slice none 0 0) := by simp [World.cell?, k1]
  have c9 : W'.cell? ⟨w.heap.size, 9, none⟩ = some (Value.slice none 0 0) := by simp [World.cell?, k1]
  have c10 : W'.cell? ⟨w.heap.size + 1, 0, none⟩ = some (.int .i64 19) := by simp [World.cell?, k2]
  rw [← hW']
  clear hW' e1 k1 k2 h1 h2 hs hb ho
  simp [Leaves, settle, results, Try.results19, go_sem, c0, c1, c2, c3, c4, c5, c6, c7, c8, c9, c10, k3]
def zeroScr : List DV := [.int .i64 0, .int .i64 0, .int .i64 0, .int .i64 0, .int .i64 0, .int .i64 0, .int .i64 0, .sl 0 [], .sl 0 [], .sl 0 []]
theorem script_Decode_nil_ans : Ans Try.prog 19 [RV.d (.sl 0 [])] (RV.tup [RV.agg zeroScr, RV.d (.int .i64 19)]) := by
  intro w S vs _ hr
  obtain ⟨l⟩ := vs
  match l, hr with
  | [v], hr =>
    simp only [RepRs, RepR, RepD, and_true] at hr
    obtain ⟨A, cap, rfl, _⟩ := hr
    refine (decode_nil A cap w).mono ?_
    rintro e w' ⟨rfl, hb⟩
    refine ⟨_, rfl, ?_, hb⟩
    simp only [RepR, RepRs]
    have hi : ∀ n : Int, n = 0 ∨ n = 19 → RepD w' (fun g => S g ∨ w.heap.size ≤ g) (.int .i64 n) (.int .i64 n) := fun n hn => by
      simp only [RepD, true_and]
      rw [inK_iff]
      show (-9223372036854775808 : Int) ≤ n ∧ n ≤ 9223372036854775807
      omega
    have hz := hi 0 (.inl rfl)
    have hs : RepD w' (fun g => S g ∨ w.heap.size ≤ g) (.sl 0 []) (.slice none 0 0) := by
      simp only [RepD]
      exact ⟨none, 0, rfl, Nat.le_refl _, Nat.zero_le _, fun h => absurd rfl h⟩
    exact ⟨_, rfl, ⟨_, rfl, hz, hz, hz, hz, hz, hz, hz, hs, hs, hs, trivial⟩, hi 19 (.inr rfl), trivial⟩
end Go.Proofs.Ytkfgmaecbclgfaa

/-
  What the laws on encodings ask.
-/
namespace Go.Proofs.Ytkfgmaecbclgfaa
open Go.RowKit
set_option linter.unusedVariables false
set_option linter.unusedSimpArgs false
attribute [local irreducible] Ans AnsO AnsG AnsN AnsI

set_option maxRecDepth 4000
def smallI (m : Im) : Bool := !(m.so && (decide (m.w > 1000) || decide (m.h > 1000)))
def smallS (s : Scr) : Bool := s.ims.all smallI && (decide (s.ims.length < 8) && decide (s.ops.length < 40))
theorem allB_u8 : ∀ (l : List Int), allBytes (u8s l)
  | [] => trivial
  | a :: l => ⟨⟨a, rfl⟩, allB_u8 l⟩
def tinyS : Scr := ⟨8, ⟨0, 0, 1, 1⟩, 1, 1, [], [], []⟩
theorem tiny_enc : encS tinyS = ([76, 67, 8, 0, 0, 0, 0, 0, 0, 0, 0, 0, 0, 0, 1, 0, 0, 0, 1, 0, 0, 0, 1, 0, 0, 0, 1, 0, 0, 0, 0, 0, 0, 0], 0) := by decide
def gamEg : Gam where
 pure := fun f xs =>
  if f = 11 then (match xs with | [.agg [.int _ bits, .int _ cx0, .int _ cy0, .int _ cx1, .int _ cy1, .int _ tw, .int _ th, .sl on oxs, .sl mn mxs, .sl pn pxs]] => some (RV.tup [RV.d (DV.sl ((encS (⟨bits, ⟨cx0, cy0, cx1, cy1⟩, tw, th, ints oxs, toIms mxs, toOps pxs⟩ : Scr)).1.length) (u8s (encS (⟨bits, ⟨cx0, cy0, cx1, cy1⟩, tw, th, ints oxs, toIms mxs, toOps pxs⟩ : Scr)).1)), RV.d (DV.int .i64 ((encS (⟨bits, ⟨cx0, cy0, cx1, cy1⟩, tw, th, ints oxs, toIms mxs, toOps pxs⟩ : Scr)).2))]) | _ => none) else
  if f = 19 then (match xs with | [.d (.sl n xs)] => some (RV.tup [RV.agg [DV.int .i64 0, DV.int .i64 0, DV.int .i64 0, DV.int .i64 0, DV.int .i64 0, DV.int .i64 0, DV.int .i64 0, DV.sl 0 ([]), DV.sl 0 ([]), DV.sl 0 ([])], RV.d (DV.int .i64 19)]) | _ => none) else
  none
 modes := fun f =>
  none
 proc := fun f xs bs =>
  none
 iter := fun f cs =>
  none

def L18_bytes_ann (a : List Int) (b : List Int) : Ann := Ann.leaf
theorem L18_bytes_vc (a : List Int) (b : List Int) : vcg Try.prog gamEg 10 (bodyOf Try.f15) (L18_bytes_ann a b) kn0 (start [RV.d (DV.sl a.length (u8s a)), RV.d (DV.sl b.length (u8s b))]) (post Try.prog Try.f15.results.toList (· = RV.d (DV.bool ((strD (u8s a)).toList == (strD (u8s b)).toList)))) =
  (let zz0 := (DV.bool ((strD (u8s a)).toList == (strD (u8s b)).toList)); True ∧ True ∧ (a.length = (u8s a).length ∧ allBytes (u8s a)) ∧ True ∧ (b.length = (u8s b).length ∧ allBytes (u8s b)) ∧ True ∧ True ∧ RV.d zz0 = RV.d zz0) := by kernel_rfl
theorem L18_bytes_ans (a : List Int) (b : List Int) : Ans Try.prog 15 [RV.d (DV.sl a.length (u8s a)), RV.d (DV.sl b.length (u8s b))] (RV.d (DV.bool ((strD (u8s a)).toList == (strD (u8s b)).toList))) :=
  ans_of_vcg (Γ := gamEg) (L18_bytes_ann a b) mixed_ Try.func15 rfl (Nat.le_of_ble_eq_true rfl) fun hwf => by
    refine Eq.mpr (L18_bytes_vc a b) ?_
    simp only [true_and, and_true, RV.d.injEq, RV.agg.injEq, RV.tup.injEq, DV.bool.injEq, DV.int.injEq, DV.sl.injEq, List.cons.injEq, forall_const, Bool.not_false, Bool.not_true, Bool.not_eq_true', Bool.not_eq_false', decide_eq_true_eq, decide_eq_false_iff_not, Int.toNat_natCast, imQ, imQr, imC, oqQ, oqQr, oqC, oqD, pxQ, pxQr, pxC, pxD]
    (repeat' apply And.intro) <;> first | exact allB_u8 _ | exact (u8s_len _).symm | rfl

def L18_small_ann (s : Scr) : Ann := (Ann.seq Ann.leaf (Ann.seq (Ann.seq Ann.leaf (Ann.loop ⟨Nat, fun k => k ≤ s.ims.length ∧ (s.ims.take k).all smallI = true, fun k => ⟨[(1, AV.one (Cl.ptr 1 0)), (3, AV.one (Cl.d (DV.int .i64 ((k : Nat) : Int))))], [(1, Bx.cells [Cl.d (DV.int .i64 s.bits), Cl.d (DV.int .i64 s.c.a), Cl.d (DV.int .i64 s.c.b), Cl.d (DV.int .i64 s.c.c), Cl.d (DV.int .i64 s.c.d), Cl.d (DV.int .i64 s.tw), Cl.d (DV.int .i64 s.th), Cl.d (DV.sl s.ord.length (is s.ord)), Cl.d (DV.sl s.ims.length (ims s.ims)), Cl.d (DV.sl s.ops.length (ops s.ops))])]⟩, fun k => s.ims.length - k⟩ fun k => Ann.leaf)) Ann.leaf))
theorem L18_small_vc (s : Scr) : vcg Try.prog gamEg 39 (bodyOf Try.f18) (L18_small_ann s) kn0 (start [RV.agg [DV.int .i64 s.bits, DV.int .i64 s.c.a, DV.int .i64 s.c.b, DV.int .i64 s.c.c, DV.int .i64 s.c.d, DV.int .i64 s.tw, DV.int .i64 s.th, DV.sl s.ord.length (is s.ord), DV.sl s.ims.length (ims s.ims), DV.sl s.ops.length (ops s.ops)]]) (post Try.prog Try.f18.results.toList (· = RV.d (DV.bool (smallS s)))) =
  (let zz0 := fun (k : Nat) => (k ≤ s.ims.length ∧ (s.ims.take k).all smallI = true); let zz1 := [DV.int .i64 s.bits, DV.int .i64 s.c.a, DV.int .i64 s.c.b, DV.int .i64 s.c.c, DV.int .i64 s.c.d, DV.int .i64 s.tw, DV.int .i64 s.th, DV.sl s.ord.length (is s.ord), DV.sl s.ims.length (ims s.ims), DV.sl s.ops.length (ops s.ops)]; let zz2 := ((zz1 = zz1) ∧ True); let zz3 := fun (k' : Nat) => (k' ≤ s.ims.length ∧ (s.ims.take k').all smallI = true); let zz4 := fun (k : Nat) => fun (k' : Nat) => (s.ims.length - k' < s.ims.length - k); let zz5 := fun (k : Nat) => fun (k' : Nat) => (((0 = 0) ∧ (DV.int .i64 (IntKind.wrap .i64 (((k : Nat) : Int) + (1 : Int))) = DV.int .i64 ((k' : Nat) : Int)) ∧ True) ∧ zz2); True ∧ True ∧ True ∧ ((∃ k : Nat, (zz0 k) ∧ (((0 = 0) ∧ (DV.int .i64 0 = DV.int .i64 ((k : Nat) : Int)) ∧ True) ∧ zz2)) ∧ ∀ k : Nat, (zz0 k) → True ∧ True ∧ True ∧ True ∧ True ∧ (((decide (((k : Nat) : Int) < ((s.ims.length : Nat) : Int))) = true → True ∧ True ∧ True ∧ (0 ≤ ((k : Nat) : Int) ∧ ((k : Nat) : Int) < ((s.ims.length : Nat) : Int) ∧ ((k : Nat) : Int).toNat * 28 < (ims s.ims).length) ∧ ((imQr (ims s.ims) (((k : Nat) : Int).toNat * 28))) ∧ True ∧ True ∧ True ∧ True ∧ True ∧ (((bAt (ims s.ims) (((k : Nat) : Int).toNat * 28 + 1 + 1)) = true → True ∧ True ∧ True ∧ True ∧ (((decide ((nAt (ims s.ims) (((k : Nat) : Int).toNat * 28)) > (1000 : Int))) = false → True ∧ True ∧ True ∧ True ∧ True ∧ (((decide ((nAt (ims s.ims) (((k : Nat) : Int).toNat * 28 + 1)) > (1000 : Int))) = true → True ∧ RV.d (DV.bool false) = RV.d (DV.bool (smallS s))) ∧ ((decide ((nAt (ims s.ims) (((k : Nat) : Int).toNat * 28 + 1)) > (1000 : Int))) = false → True ∧ True ∧ True ∧ ∃ k' : Nat, (zz3 k') ∧ (zz4 k k') ∧ (zz5 k k')))) ∧ ((decide ((nAt (ims s.ims) (((k : Nat) : Int).toNat * 28)) > (1000 : Int))) = (!false) → True ∧ True ∧ True ∧ RV.d (DV.bool false) = RV.d (DV.bool (smallS s))))) ∧ ((bAt (ims s.ims) (((k : Nat) : Int).toNat * 28 + 1 + 1)) = (!true) → True ∧ True ∧ True ∧ True ∧ ∃ k' : Nat, (zz3 k') ∧ (zz4 k k') ∧ (zz5 k k')))) ∧ ((decide (((k : Nat) : Int) < ((s.ims.length : Nat) : Int))) = false → True ∧ True ∧ True ∧ True ∧ True ∧ (((decide (((s.ims.length : Nat) : Int) < (8 : Int))) = true → True ∧ True ∧ True ∧ True ∧ True ∧ True ∧ RV.d (DV.bool (decide (((s.ops.length : Nat) : Int) < (40 : Int)))) = RV.d (DV.bool (smallS s))) ∧ ((decide (((s.ims.length : Nat) : Int) < (8 : Int))) = (!true) → True ∧ True ∧ RV.d (DV.bool false) = RV.d (DV.bool (smallS s)))))))) := by kernel_rfl
theorem L18_small_ans (s : Scr) : Ans Try.prog 18 [RV.agg [DV.int .i64 s.bits, DV.int .i64 s.c.a, DV.int .i64 s.c.b, DV.int .i64 s.c.c, DV.int .i64 s.c.d, DV.int .i64 s.tw, DV.int .i64 s.th, DV.sl s.ord.length (is s.ord), DV.sl s.ims.length (ims s.ims), DV.sl s.ops.length (ops s.ops)]] (RV.d (DV.bool (smallS s))) :=
  ans_of_vcg (Γ := gamEg) (L18_small_ann s) mixed_ Try.func18 rfl (Nat.le_of_ble_eq_true rfl) fun hwf => by
    refine Eq.mpr (L18_small_vc s) ?_
    simp only [true_and, and_true, RV.d.injEq, RV.agg.injEq, RV.tup.injEq, DV.bool.injEq, DV.int.injEq, DV.sl.injEq, List.cons.injEq, forall_const, Bool.not_false, Bool.not_true, Bool.not_eq_true', Bool.not_eq_false', decide_eq_true_eq, decide_eq_false_iff_not, Int.toNat_natCast, imQ, imQr, imC, oqQ, oqQr, oqC, oqD, pxQ, pxQr, pxC, pxD]
    have hil : s.ims.length ≤ 9223372036854775807 := by
      simp only [RV.wfs, RV.wf, DV.wf, DV.wfs, maxLen] at hwf
      omega
    clear hwf
    refine ⟨⟨0, ⟨Nat.zero_le _, by simp⟩, rfl⟩, fun k hk => ⟨fun hlt => ?_, fun hge => ?_⟩⟩
    · obtain ⟨k1, k2⟩ := hk
      have hk : k < s.ims.length := by omega
      have q1 := ims_rd hk
      have q2 := ims_at hk
      have w1 : IntKind.wrap .i64 ((k : Int) + 1) = ((k + 1 : Nat) : Int) := by rw [IntWalk.i64_in _ ⟨by omega, by omega⟩]; omega
      have bad : smallI s.ims[k] = false → false = smallS s := fun h => by simp [smallS, all_false' hk h]
      have good : smallI s.ims[k] = true → (s.ims.take (k + 1)).all smallI = true := fun h => by rw [all_take' hk, k2, h]; rfl
      simp only [q2, w1]
      refine ⟨⟨by omega, by omega, by rw [ims_length]; omega⟩, q1, fun h1 => ⟨fun h2 => ⟨fun h3 => bad ?_, fun h3 => ⟨k + 1, ⟨by omega, good ?_⟩, by omega, rfl⟩⟩, fun h2 => bad ?_⟩, fun h1 => ⟨k + 1, ⟨by omega, good ?_⟩, by omega, rfl⟩⟩ <;> simp [smallI] <;> grind
    · obtain ⟨k1, k2⟩ := hk
      have : k = s.ims.length := by omega
      subst this
      rw [List.take_length] at k2
      simp only [smallS, k2, Bool.true_and]
      refine ⟨fun h => ?_, fun h => ?_⟩
      · have e1 : decide (s.ims.length < 8) = true := decide_eq_true (by omega)
        rw [e1, Bool.true_and, decide_eq_decide]
        omega
      · have e1 : decide (s.ims.length < 8) = false := decide_eq_false (by omega)
        rw [e1, Bool.false_and]

def L18_awake_ann : Ann := Ann.leaf
theorem L18_awake_vc : vcg Try.prog gamEg 32 (bodyOf Try.f13) (L18_awake_ann ) kn0 (start []) (post Try.prog Try.f13.results.toList (· = RV.d (DV.bool true))) =
  (True ∧ True ∧ True ∧ (Ans Try.prog 11 [RV.agg [DV.int .i64 8, DV.int .i64 0, DV.int .i64 0, DV.int .i64 1, DV.int .i64 1, DV.int .i64 1, DV.int .i64 1, DV.sl 0 ([]), DV.sl 0 ([]), DV.sl 0 ([])]] (RV.tup [RV.d (DV.sl ((encS (⟨(8 : Int), ⟨(0 : Int), (0 : Int), (1 : Int), (1 : Int)⟩, (1 : Int), (1 : Int), ints ([]), toIms ([]), toOps ([])⟩ : Scr)).1.length) (u8s (encS (⟨(8 : Int), ⟨(0 : Int), (0 : Int), (1 : Int), (1 : Int)⟩, (1 : Int), (1 : Int), ints ([]), toIms ([]), toOps ([])⟩ : Scr)).1)), RV.d (DV.int .i64 ((encS (⟨(8 : Int), ⟨(0 : Int), (0 : Int), (1 : Int), (1 : Int)⟩, (1 : Int), (1 : Int), ints ([]), toIms ([]), toOps ([])⟩ : Scr)).2))])) ∧ True ∧ True ∧ True ∧ True ∧ True ∧ (Ans Try.prog 19 [RV.d (DV.sl 0 ([]))] (RV.tup [RV.agg [DV.int .i64 0, DV.int .i64 0, DV.int .i64 0, DV.int .i64 0, DV.int .i64 0, DV.int .i64 0, DV.int .i64 0, DV.sl 0 ([]), DV.sl 0 ([]), DV.sl 0 ([])], RV.d (DV.int .i64 19)])) ∧ True ∧ True ∧ True ∧ True ∧ True ∧ True ∧ True ∧ True ∧ True ∧ (((((encS (⟨(8 : Int), ⟨(0 : Int), (0 : Int), (1 : Int), (1 : Int)⟩, (1 : Int), (1 : Int), ints ([]), toIms ([]), toOps ([])⟩ : Scr)).2) == (0 : Int)) = true → True ∧ True ∧ True ∧ True ∧ True ∧ ((((((encS (⟨(8 : Int), ⟨(0 : Int), (0 : Int), (1 : Int), (1 : Int)⟩, (1 : Int), (1 : Int), ints ([]), toIms ([]), toOps ([])⟩ : Scr)).1.length : Nat) : Int) == (34 : Int)) = true → True ∧ (0 ≤ (0 : Int) ∧ (0 : Int) ≤ (2 : Int) ∧ (2 : Int) ≤ (((encS (⟨(8 : Int), ⟨(0 : Int), (0 : Int), (1 : Int), (1 : Int)⟩, (1 : Int), (1 : Int), ints ([]), toIms ([]), toOps ([])⟩ : Scr)).1.length : Nat) : Int)) ∧ (((2 : Int) - (0 : Int)).toNat = (List.take (((2 : Int) - (0 : Int)).toNat * 1) (List.drop ((0 : Int).toNat * 1) (u8s (encS (⟨(8 : Int), ⟨(0 : Int), (0 : Int), (1 : Int), (1 : Int)⟩, (1 : Int), (1 : Int), ints ([]), toIms ([]), toOps ([])⟩ : Scr)).1))).length ∧ allBytes (List.take (((2 : Int) - (0 : Int)).toNat * 1) (List.drop ((0 : Int).toNat * 1) (u8s (encS (⟨(8 : Int), ⟨(0 : Int), (0 : Int), (1 : Int), (1 : Int)⟩, (1 : Int), (1 : Int), ints ([]), toIms ([]), toOps ([])⟩ : Scr)).1)))) ∧ True ∧ True ∧ True ∧ ((((strD (List.take (((2 : Int) - (0 : Int)).toNat * 1) (List.drop ((0 : Int).toNat * 1) (u8s (encS (⟨(8 : Int), ⟨(0 : Int), (0 : Int), (1 : Int), (1 : Int)⟩, (1 : Int), (1 : Int), ints ([]), toIms ([]), toOps ([])⟩ : Scr)).1)))).toList == (⟨#[76, 67]⟩ : ByteArray).toList) = true → True ∧ True ∧ True ∧ True ∧ RV.d (DV.bool (19 == (19 : Int))) = RV.d (DV.bool true)) ∧ (((strD (List.take (((2 : Int) - (0 : Int)).toNat * 1) (List.drop ((0 : Int).toNat * 1) (u8s (encS (⟨(8 : Int), ⟨(0 : Int), (0 : Int), (1 : Int), (1 : Int)⟩, (1 : Int), (1 : Int), ints ([]), toIms ([]), toOps ([])⟩ : Scr)).1)))).toList == (⟨#[76, 67]⟩ : ByteArray).toList) = (!true) → True ∧ True ∧ RV.d (DV.bool false) = RV.d (DV.bool true)))) ∧ (((((encS (⟨(8 : Int), ⟨(0 : Int), (0 : Int), (1 : Int), (1 : Int)⟩, (1 : Int), (1 : Int), ints ([]), toIms ([]), toOps ([])⟩ : Scr)).1.length : Nat) : Int) == (34 : Int)) = (!true) → True ∧ True ∧ True ∧ True ∧ RV.d (DV.bool false) = RV.d (DV.bool true)))) ∧ ((((encS (⟨(8 : Int), ⟨(0 : Int), (0 : Int), (1 : Int), (1 : Int)⟩, (1 : Int), (1 : Int), ints ([]), toIms ([]), toOps ([])⟩ : Scr)).2) == (0 : Int)) = (!true) → True ∧ True ∧ True ∧ True ∧ True ∧ True ∧ RV.d (DV.bool false) = RV.d (DV.bool true)))) := by kernel_rfl
theorem L18_awake_ans : Ans Try.prog 13 [] (RV.d (DV.bool true)) :=
  ans_of_vcg (Γ := gamEg) (L18_awake_ann ) mixed_ Try.func13 rfl (Nat.le_of_ble_eq_true rfl) fun hwf => by
    refine Eq.mpr (L18_awake_vc ) ?_
    simp only [true_and, and_true, RV.d.injEq, RV.agg.injEq, RV.tup.injEq, DV.bool.injEq, DV.int.injEq, DV.sl.injEq, List.cons.injEq, forall_const, Bool.not_false, Bool.not_true, Bool.not_eq_true', Bool.not_eq_false', decide_eq_true_eq, decide_eq_false_iff_not, Int.toNat_natCast, imQ, imQr, imC, oqQ, oqQr, oqC, oqD, pxQ, pxQr, pxC, pxD]
    have e := script_Encode_ans tinyS (fun m hm => by cases hm) (Nat.zero_le _)
    have d := script_Decode_nil_ans
    have hS : (⟨8, ⟨0, 0, 1, 1⟩, 1, 1, ints [], toIms [], toOps []⟩ : Scr) = tinyS := rfl
    simp only [hS]
    refine ⟨e, d, ?_⟩
    simp only [tiny_enc]
    have t2 : List.take ((2 - 0 : Int).toNat * 1) (List.drop (Int.toNat 0 * 1) (u8s [76, 67, 8, 0, 0, 0, 0, 0, 0, 0, 0, 0, 0, 0, 1, 0, 0, 0, 1, 0, 0, 0, 1, 0, 0, 0, 1, 0, 0, 0, 0, 0, 0, 0])) = [DV.int .u8 76, DV.int .u8 67] := rfl
    have sD : strD [DV.int .u8 76, DV.int .u8 67] = ⟨#[76, 67]⟩ := rfl
    simp only [t2, sD]
    exact ⟨fun _ => ⟨fun _ => ⟨⟨by decide, by decide, by decide⟩, ⟨rfl, ⟨_, rfl⟩, ⟨_, rfl⟩, trivial⟩, fun _ => rfl, fun h => absurd h (by rw [beq_self_eq_true]; decide)⟩, fun h => absurd h (by decide)⟩, fun h => absurd h (by decide)⟩

end Go.Proofs.Ytkfgmaecbclgfaa

/-
  Frames in plain words: when there is an error.
-/
namespace Go.Proofs.Ytkfgmaecbclgfaa
open Go.RowKit
set_option linter.unusedVariables false
set_option linter.unusedSimpArgs false

end Go.Proofs.Ytkfgmaecbclgfaa

/-
  Made images are valid, in plain words.
-/
namespace Go.Proofs.Ytkfgmaecbclgfaa
open Go.RowKit
set_option linter.unusedVariables false
set_option linter.unusedSimpArgs false

end Go.Proofs.Ytkfgmaecbclgfaa

/-
  What the generator makes is a valid script: in plain words.
-/
namespace Go.Proofs.Ytkfgmaecbclgfaa
open Go.RowKit
set_option linter.unusedVariables false
set_option linter.unusedSimpArgs false

/-! ### lists of operations -/
/-! ### an operation of the generator -/
theorem Scn.ops_len (s : Scn) : s.ops.length ≤ 18 := by
  have := s.run_len (min s.rn 9)
  unfold Scn.ops
  simp; omega
theorem Scn.ord_len (s : Scn) : s.ord.length ≤ 64 := by
  have ht := s.tiles_in
  unfold Scn.ord permL
  split
  · simp
  · have := (stp_len (ints s.oxs) (n := s.tiles.toNat) (by omega) s.tiles.toNat (Nat.le_refl _)).2
    omega
/-! ### its images -/
end Go.Proofs.Ytkfgmaecbclgfaa

/-
  What the generator makes can be encoded.
-/
namespace Go.Proofs.Ytkfgmaecbclgfaa
open Go.RowKit
set_option linter.unusedVariables false
set_option linter.unusedSimpArgs false

theorem fitL_iff {lo hi : Int} {l : List Int} : fitL lo hi l = true ↔ ∀ v ∈ l, lo ≤ v ∧ v ≤ hi := by
  unfold fitL
  rw [List.all_eq_true]
  simp
theorem Scn.ord_fit (s : Scn) : ∀ v ∈ s.ord, 0 ≤ v ∧ v ≤ 4294967295 := by
  intro v hv
  have ht := s.tiles_in
  by_cases hl : (ints s.oxs).length = 0
  · have : s.ord = [] := by unfold Scn.ord permL; rw [if_pos (.inl hl)]
    rw [this] at hv; cases hv
  · have := ((permL_perm hl (by omega : s.tiles ≤ 64)).mem_iff).1 hv
    simp only [upto, List.mem_map, List.mem_range] at this
    obtain ⟨i, hi, rfl⟩ := this
    show 0 ≤ (i : Int) ∧ (i : Int) ≤ 4294967295
    omega
theorem Scn.bits_fit (s : Scn) : s.bits = 8 ∨ s.bits = 16 := by
  have := s.bits_of
  by_cases h : gMax s.b > 255
  · exact .inr (this.1 h).symm
  · exact .inl (this.2 h).symm
theorem sizeIms_small : ∀ {l : List Im}, (∀ m ∈ l, m.formed = true ∧ m.w ≤ 100 ∧ m.h ≤ 100) → sizeIms l ≤ 100009 * (l.length : Int)
  | [], _ => by simp [sizeIms]
  | m :: l, h => by
    have h1 := h m (by simp)
    have h2 := sizeIms_small (l := l) fun m hm => h m (by simp [hm])
    have h3 := formed_w h1.1
    have h4 : m.w * m.h ≤ 10000 := by
      have := Int.mul_le_mul_of_nonneg_left h1.2.2 (by omega : 0 ≤ m.w)
      omega
    have h5 : sizeIm m ≤ 100009 := by unfold sizeIm; split <;> omega
    simp only [sizeIms, List.length_cons]
    omega
/-- a scene's script with other images and operations -/
theorem Scn.enc (s : Scn) {ms : List Im} {os : List Oq} (h1 : ms.length ≤ 64) (h2 : ∀ m ∈ ms, m.formed = true ∧ m.w ≤ 100 ∧ m.h ≤ 100) (h3 : os.length ≤ 100) (h4 : os.all opOk = true) : encOk ⟨s.bits, s.c, s.gtw, s.gth, s.ord, ms, os⟩ = true := by
  obtain ⟨f1, f2, f3, f4, f5, f6⟩ := s.facts
  have CF := s.c_facts
  have hb := s.bits_fit
  have ho := s.ord_len
  have hz := sizeIms_small h2
  have g1 : fitL 0 255 [s.bits] = true := fitL_iff.2 fun v hv => by
    simp only [List.mem_cons, List.not_mem_nil, or_false] at hv
    subst hv
    omega
  have g2 : fitL (-2147483648) 2147483647 [s.c.a, s.c.b, s.c.c, s.c.d] = true := fitL_iff.2 fun v hv => by
    simp only [List.mem_cons, List.not_mem_nil, or_false] at hv
    rcases hv with rfl | rfl | rfl | rfl <;> omega
  have g3 : fitL 0 4294967295 [s.gtw, s.gth] = true := fitL_iff.2 fun v hv => by
    simp only [List.mem_cons, List.not_mem_nil, or_false] at hv
    rcases hv with rfl | rfl <;> omega
  have g4 : fitL 0 4294967295 s.ord = true := fitL_iff.2 s.ord_fit
  have g5 : ms.all Im.formed = true := List.all_eq_true.2 fun m hm => (h2 m hm).1
  simp only [encOk, encHd, g1, g2, g3, g4, g5, h4, sizeS, Bool.and_true, Bool.true_and, Bool.and_eq_true, decide_eq_true_eq]
  exact ⟨⟨h1, by omega⟩, decide_eq_true (by omega)⟩
theorem formed_of {m : Im} {most : Int} (h : m.valid most = 0) : m.formed = true := by
  unfold Im.valid at h
  split at h
  · cases h
  split at h
  · cases h
  rename_i a b
  unfold Im.formed
  simp only [Bool.not_eq_false] at a b
  rw [a, b]; rfl
end Go.Proofs.Ytkfgmaecbclgfaa

/-
  Rows of images and operations: writing an element, or a field of one.
-/
namespace Go.Proofs.Ytkfgmaecbclgfaa
open Go.RowKit
set_option linter.unusedVariables false
set_option linter.unusedSimpArgs false

section
variable {α : Type} {f : α → List DV} {m : Nat}
theorem flat_len (hf : ∀ a, (f a).length = m) (l : List α) : (l.flatMap f).length = l.length * m := by
  induction l with
  | nil => simp
  | cons a l ih => rw [List.flatMap_cons, List.length_append, hf, ih, List.length_cons, Nat.add_mul]; omega
theorem flat_set (hf : ∀ a, (f a).length = m) {l : List α} {k : Nat} (h : k < l.length) {j : Nat} (hj : j < m) {d : DV} {a : α} (ha : f a = (f l[k]).set j d) : (l.flatMap f).set (k * m + j) d = (l.set k a).flatMap f := by
  have e : l.flatMap f = (l.take k).flatMap f ++ (f l[k] ++ (l.drop (k + 1)).flatMap f) := by
    have e0 : l = l.take k ++ (l[k] :: l.drop (k + 1)) := by rw [← List.drop_eq_getElem_cons h, List.take_append_drop]
    have e1 := congrArg (List.flatMap f) e0
    rw [List.flatMap_append, List.flatMap_cons] at e1
    exact e1
  have e2 : (l.set k a).flatMap f = (l.take k).flatMap f ++ (f a ++ (l.drop (k + 1)).flatMap f) := by
    rw [List.set_eq_take_append_cons_drop, if_pos h]
    simp
  have lt : ((l.take k).flatMap f).length = k * m := by rw [flat_len hf, List.length_take, Nat.min_eq_left (by omega)]
  rw [e, e2, ha, List.set_append_right _ _ (by omega), lt, show k * m + j - k * m = j by omega, List.set_append_left _ _ (by rw [hf]; exact hj)]
end
theorem ims_set {l : List Im} {k : Nat} (h : k < l.length) {j : Nat} (hj : j < 28) {d : DV} {m : Im} (ha : m.ds = l[k].ds.set j d) : (ims l).set (k * 28 + j) d = ims (l.set k m) := flat_set (f := Im.ds) (m := 28) (fun _ => rfl) h hj ha
/-! ### images with longer rows -/
end Go.Proofs.Ytkfgmaecbclgfaa

/-
  Images with longer rows.
-/
namespace Go.Proofs.Ytkfgmaecbclgfaa
open Go.RowKit
set_option linter.unusedVariables false
set_option linter.unusedSimpArgs false
attribute [local irreducible] Ans AnsO AnsG AnsN AnsI

set_option maxRecDepth 4000
end Go.Proofs.Ytkfgmaecbclgfaa

/-
  What a law is handed, in plain words: scenes, lists of operations.
-/
namespace Go.Proofs.Ytkfgmaecbclgfaa
open Go.RowKit
set_option linter.unusedVariables false
set_option linter.unusedSimpArgs false

def Leaves (P : Program) (ls : List TypeId) (n : Nat) (xs : List DV) : Prop :=
  xs.length = n * ls.length ∧ ∀ (j : Nat) d, xs[j]? = some d → ∃ t', ls[j % ls.length]? = some t' ∧ ∃ q, LeafD P q t' d
theorem Leaves.at_ {P : Program} {ls : List TypeId} {n : Nat} {xs : List DV} (h : Leaves P ls n xs) {k r : Nat} {t : TypeId} (hk : k < n) (hr : ls[r]? = some t) : ∃ d q, xs[k * ls.length + r]? = some d ∧ LeafD P q t d := by
  obtain ⟨hn, hx⟩ := h
  have hr' : r < ls.length := (List.getElem?_eq_some_iff.1 hr).1
  have hle : (k + 1) * ls.length ≤ n * ls.length := Nat.mul_le_mul_right _ (by omega)
  rw [Nat.add_mul] at hle
  have hj : k * ls.length + r < xs.length := by omega
  obtain ⟨t', a, q, b⟩ := hx _ _ (List.getElem?_eq_getElem hj)
  rw [Nat.mul_comm k, Nat.mul_add_mod, Nat.mod_eq_of_lt hr', hr] at a
  injection a with a
  subst a
  exact ⟨_, q, List.getElem?_eq_getElem hj, b⟩
theorem Leaves.int {P : Program} {ls : List TypeId} {n : Nat} {xs : List DV} (h : Leaves P ls n xs) {k r : Nat} {t : TypeId} {kk : IntKind} (hk : k < n) (hr : ls[r]? = some t) (hu : P.underlying t = some (.int kk)) : xs[k * ls.length + r]? = some (.int kk (nAt xs (k * ls.length + r))) := by
  obtain ⟨d, q, e, b⟩ := h.at_ hk hr
  obtain ⟨v, rfl⟩ := b.int hu
  simp only [nAt, e]
theorem Leaves.bool {P : Program} {ls : List TypeId} {n : Nat} {xs : List DV} (h : Leaves P ls n xs) {k r : Nat} {t : TypeId} (hk : k < n) (hr : ls[r]? = some t) (hu : P.underlying t = some .bool) : xs[k * ls.length + r]? = some (.bool (bAt xs (k * ls.length + r))) := by
  obtain ⟨d, q, e, b⟩ := h.at_ hk hr
  obtain ⟨v, rfl⟩ := b.bool hu
  simp only [bAt, e]
theorem Leaves.sl {P : Program} {ls : List TypeId} {n : Nat} {xs : List DV} (h : Leaves P ls n xs) {k r : Nat} {t e : TypeId} {ms : List TypeId} (hk : k < n) (hr : ls[r]? = some t) (hu : P.underlying t = some (.slice e)) (hl : lv P e = some ms) :
    xs[k * ls.length + r]? = some (.sl (lAt xs (k * ls.length + r)) (cAt xs (k * ls.length + r))) ∧ Leaves P ms (lAt xs (k * ls.length + r)) (cAt xs (k * ls.length + r)) := by
  obtain ⟨d, q, e1, b⟩ := h.at_ hk hr
  obtain ⟨m, ys, rfl, _, h1, h2⟩ := b.slice hu hl
  simp only [lAt, cAt, e1]
  exact ⟨trivial, h1, h2⟩
theorem Leaves.ints {P : Program} {t : TypeId} {n : Nat} {xs : List DV} (h : Leaves P [t] n xs) (hu : P.underlying t = some (.int .i64)) : xs = is (ints xs) ∧ n = xs.length :=
  isI_of (by have := h.1; simpa using this) fun j d hj => by obtain ⟨t', a, q, b⟩ := h.2 j d hj; exact intLeaf1 hu a b
theorem Leaves.five {P : Program} {t : TypeId} {n : Nat} {xs : List DV} (h : Leaves P [t, t, t, t, t] n xs) (hu : P.underlying t = some (.int .i64)) : Is5 n xs :=
  is5_of h.1 fun j d hj => by obtain ⟨t', a, q, b⟩ := h.2 j d hj; exact intLeaf5 hu a b
theorem Leaves.pics {P : Program} {t ts e : TypeId} {n : Nat} {xs : List DV} (h : Leaves P [t, t, t, t, ts] n xs) (hu : P.underlying t = some (.int .i64)) (hs : P.underlying ts = some (.slice e)) (hl : lv P e = some [t, t, t, t, t]) : IsPics n xs :=
  ⟨h.1, fun k hk => ⟨h.int (r := 0) hk rfl hu, h.int (r := 1) hk rfl hu, h.int (r := 2) hk rfl hu, h.int (r := 3) hk rfl hu, (h.sl (r := 4) hk rfl hs hl).1, (h.sl (r := 4) hk rfl hs hl).2.five hu⟩⟩
theorem Leaves.raws {P : Program} {t : TypeId} {n : Nat} {xs : List DV} (h : Leaves P [t, t, t, t, t, t, t, t, t, t, t] n xs) (hu : P.underlying t = some (.int .i64)) : IsRws n xs := by
  refine ⟨h.1, fun i hi => ?_⟩
  have hr : [t, t, t, t, t, t, t, t, t, t, t][i % 11]? = some t := by
    have h2 : i % 11 < 11 := Nat.mod_lt _ (by omega)
    generalize i % 11 = r at *
    match r, h2 with
    | 0, _ | 1, _ | 2, _ | 3, _ | 4, _ | 5, _ | 6, _ | 7, _ | 8, _ | 9, _ | 10, _ => rfl
  have := h.int (k := i / 11) (r := i % 11) (by omega) hr hu
  have e : i / 11 * [t, t, t, t, t, t, t, t, t, t, t].length + i % 11 = i := by show i / 11 * 11 + i % 11 = i; omega
  rw [e] at this
  exact this
theorem blocks_eq {xs ys : List DV} {n m : Nat} (hx : xs.length = n * m) (hy : ys.length = n * m) (h : ∀ k, k < n → ∀ j, j < m → xs[k * m + j]? = ys[k * m + j]?) : xs = ys := by
  refine List.ext_getElem? fun i => ?_
  by_cases hi : i < n * m
  · have hm : 0 < m := by
      rcases Nat.eq_zero_or_pos m with h0 | h0
      · subst h0; simp at hi
      · exact h0
    have := h (i / m) (Nat.div_lt_of_lt_mul (by rw [Nat.mul_comm]; exact hi)) (i % m) (Nat.mod_lt _ hm)
    have e : i / m * m + i % m = i := by rw [Nat.mul_comm]; exact Nat.div_add_mod i m
    rw [e] at this
    exact this
  · rw [List.getElem?_eq_none (by omega), List.getElem?_eq_none (by omega)]
theorem Leaves.ops {P : Program} {t u b : TypeId} {n : Nat} {xs : List DV} (h : Leaves P [t, t, t, t, t, t, t, u, t, t, b, b] n xs) (ht : P.underlying t = some (.int .i64)) (hu : P.underlying u = some (.int .u16)) (hb : P.underlying b = some .bool) : IsOps n xs := by
  have hl : xs.length = n * 12 := h.1
  have hn : (toOps xs).length = n := by unfold toOps; rw [List.length_map, List.length_range, hl]; omega
  refine ⟨blocks_eq hl (by rw [ops_length, hn]) fun k hk j hj => ?_, hn.symm⟩
  have e : (toOps xs)[k]'(by omega) = oqAt xs (k * 12) := by simp [toOps]
  rw [ops_get (by omega) j hj, e]
  have key := fun r (hr : r < 12) => h.at_ (k := k) (r := r) (t := [t, t, t, t, t, t, t, u, t, t, b, b][r]) hk (List.getElem?_eq_getElem hr)
  match j, hj with
  | 0, _ => exact h.int (r := 0) hk rfl ht
  | 1, _ => exact h.int (r := 1) hk rfl ht
  | 2, _ => exact h.int (r := 2) hk rfl ht
  | 3, _ => exact h.int (r := 3) hk rfl ht
  | 4, _ => exact h.int (r := 4) hk rfl ht
  | 5, _ => exact h.int (r := 5) hk rfl ht
  | 6, _ => exact h.int (r := 6) hk rfl ht
  | 7, _ => exact h.int (r := 7) hk rfl hu
  | 8, _ => exact h.int (r := 8) hk rfl ht
  | 9, _ => exact h.int (r := 9) hk rfl ht
  | 10, _ => exact h.bool (r := 10) hk rfl hb
  | 11, _ => exact h.bool (r := 11) hk rfl hb
def IsBs (n : Nat) (xs : List DV) : Prop := xs.length = n ∧ ∀ i, i < n → xs[i]? = some (.bool (bAt xs i))
theorem Leaves.bools {P : Program} {b : TypeId} {n : Nat} {xs : List DV} (h : Leaves P [b] n xs) (hb : P.underlying b = some .bool) : IsBs n xs :=
  ⟨by have := h.1; simpa using this, fun i hi => by
    have := h.bool (k := i) (r := 0) hi rfl hb
    simpa using this⟩
end Go.Proofs.Ytkfgmaecbclgfaa

/-
  Lists of images that a law is handed.
-/
namespace Go.Proofs.Ytkfgmaecbclgfaa
open Go.RowKit
set_option linter.unusedVariables false
set_option linter.unusedSimpArgs false

theorem Leaves.us {P : Program} {u : TypeId} {n : Nat} {xs : List DV} (h : Leaves P [u] n xs) (hu : P.underlying u = some (.int .u16)) : IsU n xs :=
  isU_of (by have := h.1; simpa using this) fun j d hj => by obtain ⟨t', a, q, b⟩ := h.2 j d hj; exact intLeaf1 hu a b
theorem Leaves.ims {P : Program} {t u b s e : TypeId} {n : Nat} {xs : List DV} (h : Leaves P [t, t, b, u, u, u, u, u, t, t, t, s, t, t, t, s, t, t, t, s, t, t, t, s, t, t, t, s] n xs)
    (ht : P.underlying t = some (.int .i64)) (hu : P.underlying u = some (.int .u16)) (hb : P.underlying b = some .bool) (hs : P.underlying s = some (.slice e)) (hl : lv P e = some [u]) : IsIms n xs := by
  have hlen : xs.length = n * 28 := h.1
  have hn : (toIms xs).length = n := by unfold toIms; rw [List.length_map, List.length_range, hlen]; omega
  have e_ : ∀ k (hk : k < (toIms xs).length), (toIms xs)[k] = imAt xs (k * 28) := fun k hk => by simp [toIms]
  refine ⟨⟨blocks_eq hlen (by rw [ims_length, hn]) fun k hk j hj => ?_, hn.symm⟩, fun m hm => ?_⟩
  · rw [ims_get (by omega) j hj, e_ k (by omega)]
    match j, hj with
    | 0, _ => exact h.int (r := 0) hk rfl ht
    | 1, _ => exact h.int (r := 1) hk rfl ht
    | 2, _ => exact h.bool (r := 2) hk rfl hb
    | 3, _ => exact h.int (r := 3) hk rfl hu
    | 4, _ => exact h.int (r := 4) hk rfl hu
    | 5, _ => exact h.int (r := 5) hk rfl hu
    | 6, _ => exact h.int (r := 6) hk rfl hu
    | 7, _ => exact h.int (r := 7) hk rfl hu
    | 8, _ => exact h.int (r := 8) hk rfl ht
    | 9, _ => exact h.int (r := 9) hk rfl ht
    | 10, _ => exact h.int (r := 10) hk rfl ht
    | 11, _ => exact (h.sl (r := 11) hk rfl hs hl).1
    | 12, _ => exact h.int (r := 12) hk rfl ht
    | 13, _ => exact h.int (r := 13) hk rfl ht
    | 14, _ => exact h.int (r := 14) hk rfl ht
    | 15, _ => exact (h.sl (r := 15) hk rfl hs hl).1
    | 16, _ => exact h.int (r := 16) hk rfl ht
    | 17, _ => exact h.int (r := 17) hk rfl ht
    | 18, _ => exact h.int (r := 18) hk rfl ht
    | 19, _ => exact (h.sl (r := 19) hk rfl hs hl).1
    | 20, _ => exact h.int (r := 20) hk rfl ht
    | 21, _ => exact h.int (r := 21) hk rfl ht
    | 22, _ => exact h.int (r := 22) hk rfl ht
    | 23, _ => exact (h.sl (r := 23) hk rfl hs hl).1
    | 24, _ => exact h.int (r := 24) hk rfl ht
    | 25, _ => exact h.int (r := 25) hk rfl ht
    | 26, _ => exact h.int (r := 26) hk rfl ht
    | 27, _ => exact (h.sl (r := 27) hk rfl hs hl).1
    | j + 28, hj => exact absurd hj (by omega)
  · obtain ⟨k, hk, rfl⟩ := List.getElem_of_mem hm
    rw [e_ k hk]
    have hk' : k < n := by omega
    exact ⟨(h.sl (r := 11) hk' rfl hs hl).2.us hu, (h.sl (r := 15) hk' rfl hs hl).2.us hu, (h.sl (r := 19) hk' rfl hs hl).2.us hu, (h.sl (r := 23) hk' rfl hs hl).2.us hu, (h.sl (r := 27) hk' rfl hs hl).2.us hu⟩
end Go.Proofs.Ytkfgmaecbclgfaa

