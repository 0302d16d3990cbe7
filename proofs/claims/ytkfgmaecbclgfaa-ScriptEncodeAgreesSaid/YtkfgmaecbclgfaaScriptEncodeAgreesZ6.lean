/-
  Part 6 of what ScriptEncodeAgrees rests on.
-/
import Derived.Test.YtkfgmaecbclgfaaScriptEncodeAgreesZ5
import Derived.Test.YtkfgmaecbclgfaaScriptEncodeAgreesZ3
import Derived.Tactics
import Derived.Tactics2
import Derived.Defers
import Derived.Recover
import Derived.WalkSmall
import Derived.Laws.Pointers
import Derived.Test.YtkfgmaecbclgfaaScriptEncodeAgreesZ4
import Derived.Test.YtkfgmaecbclgfaaRows
import Derived.JoinedOf
import Derived.KernelRfl
/-
  The bytes of a script, by the reference.
-/
namespace Go.Proofs.Ytkfgmaecbclgfaa
open Go.RowKit
set_option linter.unusedVariables false
set_option linter.unusedSimpArgs false
attribute [local irreducible] Ans AnsO AnsG AnsN AnsI

set_option maxRecDepth 4000
theorem wf_ops {l : List Oq} (h : DV.wfs (ops l)) {k : Nat} (hk : k < l.length) : 0 ≤ l[k].opac ∧ l[k].opac ≤ 65535 := by
  obtain ⟨_, _, _, _, _, _, _, e, _⟩ := ops_rd hk
  have := (wfs_iff _).1 h _ (List.mem_of_getElem? e)
  exact this
theorem u64_8 {i : Nat} (h : i < 8) : IntKind.wrap .u64 (8 * (i : Int)) = 8 * (i : Int) := by
  rcases (by omega : i = 0 ∨ i = 1 ∨ i = 2 ∨ i = 3 ∨ i = 4 ∨ i = 5 ∨ i = 6 ∨ i = 7) with rfl | rfl | rfl | rfl | rfl | rfl | rfl | rfl <;> rfl
def hdr7 (s : Scr) : List Int := [76, 67] ++ putL 1 [s.bits] ++ putL 4 [s.c.a, s.c.b, s.c.c, s.c.d, s.tw, s.th, (s.ord.length : Int)]
def encO (s : Scr) (k : Nat) : List Int := hdr7 s ++ putL 4 (s.ord.take k)
def hdB (m : Im) : List Int := putL 1 [if m.so then 1 else 0] ++ putL 4 [m.w, m.h]
def pxL (m : Im) : List Px := if m.so then [m.c] else m.pixels
def mAt (s : Scr) (k : Nat) : Im := s.ims[k]?.getD (solidIm 0 0 .zero)
theorem mAt_of {s : Scr} {k : Nat} (h : k < s.ims.length) : mAt s k = s.ims[k] := by simp [mAt, List.getElem?_eq_getElem h]
theorem encO_succ {s : Scr} {k : Nat} (h : k < s.ord.length) : encO s (k + 1) = encO s k ++ beI 4 s.ord[k] := by
  unfold encO
  rw [putL_take h, List.append_assoc]
theorem encO_all (s : Scr) : encO s s.ord.length ++ beI 1 (s.ims.length : Int) = encA s 0 := by
  unfold encO encA hdr7
  simp only [List.take_length, List.take_zero, List.flatMap_nil, List.append_nil]
  rfl
theorem imB_hd (m : Im) : imB_ m = hdB m ++ (pxL m).flatMap pxB := by
  unfold imB_ hdB pxL
  cases m.so <;> simp
def gamEf : Gam where
 pure := fun f xs =>
  if f = 17 then (match xs with | [.agg [.int _ bits, .int _ cx0, .int _ cy0, .int _ cx1, .int _ cy1, .int _ tw, .int _ th, .sl on oxs, .sl mn mxs, .sl pn pxs]] => some (RV.d (DV.bool (encOk (⟨bits, ⟨cx0, cy0, cx1, cy1⟩, tw, th, ints oxs, toIms mxs, toOps pxs⟩ : Scr)))) | _ => none) else
  if f = 33 then (match xs with | [.d (.bool is_)] => some (RV.d (DV.int .i64 (if is_ then 1 else 0))) | _ => none) else
  if f = 34 then (match xs with | [] => some (RV.tup [RV.tup [RV.d (DV.int .i64 37), RV.d (DV.int .i64 5)]]) | [.agg [.int _ w, .int _ h, .bool so, .int _ c0, .int _ c1, .int _ c2, .int _ ca, .int _ cf, .int _ w0, .int _ h0, .int _ s0, .sl n0 xs0, .int _ w1, .int _ h1, .int _ s1, .sl n1 xs1, .int _ w2, .int _ h2, .int _ s2, .sl n2 xs2, .int _ w3, .int _ h3, .int _ s3, .sl n3 xs3, .int _ w4, .int _ h4, .int _ s4, .sl n4 xs4]] => some (RV.d (DV.sl ((Im.pixels ⟨w, h, so, ⟨c0, c1, c2, ca, cf⟩, ⟨w0, h0, s0, n0, xs0⟩, ⟨w1, h1, s1, n1, xs1⟩, ⟨w2, h2, s2, n2, xs2⟩, ⟨w3, h3, s3, n3, xs3⟩, ⟨w4, h4, s4, n4, xs4⟩⟩).length) (pxs (Im.pixels ⟨w, h, so, ⟨c0, c1, c2, ca, cf⟩, ⟨w0, h0, s0, n0, xs0⟩, ⟨w1, h1, s1, n1, xs1⟩, ⟨w2, h2, s2, n2, xs2⟩, ⟨w3, h3, s3, n3, xs3⟩, ⟨w4, h4, s4, n4, xs4⟩⟩)))) | _ => none) else
  none
 modes := fun f =>
  if f = 32 then some ([false, true, true], 0, 1) else
  if f = 35 then some ([false, true], 0, 1) else
  none
 proc := fun f xs bs =>
  if f = 32 then (match xs, bs with | [AV.one (Cl.ref 0 bn), AV.one (Cl.d (DV.int _ n)), AV.one (Cl.d (DV.int _ size))], [Bx.row _ _ bxs] => some ⟨AV.one (Cl.ref 0 (((ints bxs) ++ beI size.toNat n).length)), [Bx.row 5 1 (u8s ((ints bxs) ++ beI size.toNat n))], false⟩ | _, _ => none) else
  if f = 35 then (match xs, bs with | [AV.one (Cl.ref 0 bn), AV.agg [Cl.d (DV.int _ c0), Cl.d (DV.int _ c1), Cl.d (DV.int _ c2), Cl.d (DV.int _ ca), Cl.d (DV.int _ cf)]], [Bx.row _ _ bxs] => some ⟨AV.one (Cl.ref 0 (((ints bxs) ++ pxB ⟨c0, c1, c2, ca, cf⟩).length)), [Bx.row 5 1 (u8s ((ints bxs) ++ pxB ⟨c0, c1, c2, ca, cf⟩))], false⟩ | _, _ => none) else
  none
 iter := fun f cs =>
  none

def R18_bit_ann (is_ : Bool) : Ann := Ann.leaf
theorem R18_bit_vc (is_ : Bool) : vcg Try.prog gamEf 4 (bodyOf Try.f33) (R18_bit_ann is_) kn0 (start [RV.d (DV.bool is_)]) (post Try.prog Try.f33.results.toList (· = RV.d (DV.int .i64 (if is_ then 1 else 0)))) =
  (let zz0 := (DV.int .i64 (if is_ then 1 else 0)); True ∧ True ∧ ((is_ = true → True ∧ RV.d (DV.int .i64 1) = RV.d zz0) ∧ (is_ = false → True ∧ RV.d (DV.int .i64 0) = RV.d zz0))) := by kernel_rfl
theorem R18_bit_ans (is_ : Bool) : Ans Try.prog 33 [RV.d (DV.bool is_)] (RV.d (DV.int .i64 (if is_ then 1 else 0))) :=
  ans_of_vcg (Γ := gamEf) (R18_bit_ann is_) mixed_ Try.func33 rfl (Nat.le_of_ble_eq_true rfl) fun hwf => by
    refine Eq.mpr (R18_bit_vc is_) ?_
    simp only [true_and, and_true, RV.d.injEq, RV.agg.injEq, RV.tup.injEq, DV.bool.injEq, DV.int.injEq, DV.sl.injEq, List.cons.injEq, forall_const, Bool.not_false, Bool.not_true, Bool.not_eq_true', Bool.not_eq_false', decide_eq_true_eq, decide_eq_false_iff_not, Int.toNat_natCast, imQ, imQr, imC, oqQ, oqQr, oqC, oqD, pxQ, pxQr, pxC, pxD]
    cases is_ <;> simp

def R18_big_ann (b : List Int) (n : Int) (size : Int) : Ann := (Ann.seq Ann.leaf (Ann.seq (Ann.seq Ann.leaf (Ann.loop ⟨Nat, fun j => j ≤ size.toNat, fun j => ⟨[(0, AV.one (Cl.ref 9001 ((b ++ (beI size.toNat n).take j).length))), (1, AV.one (Cl.d (DV.int .i64 n))), (7, AV.one (Cl.d (DV.int .i64 (size - 1 - (j : Int)))))], [(9001, Bx.row 5 1 (u8s (b ++ (beI size.toNat n).take j)))]⟩, fun j => size.toNat - j⟩ fun j => Ann.leaf)) Ann.leaf))
theorem R18_big_vc (b : List Int) (n : Int) (size : Int) : vcg Try.prog gamEf ⟨24, fun _ => false, List.range 0, false⟩ (bodyOf Try.f32) (R18_big_ann b n size) kn0 (startG [AV.one (Cl.ref 0 b.length), AV.one (Cl.d (DV.int .i64 n)), AV.one (Cl.d (DV.int .i64 size))] [Bx.row 5 1 (u8s b)]) (postG Try.prog ⟨24, fun _ => false, List.range 0, false⟩ Try.f32.results.toList ⟨AV.one (Cl.ref 0 ((b ++ beI size.toNat n).length)), [Bx.row 5 1 (u8s (b ++ beI size.toNat n))], false⟩) =
  (let zz0 := (DV.int .i64 n = DV.int .i64 n); let zz1 := fun (j : Nat) => (IntKind.wrap .i64 ((8 : Int) * (size - 1 - (j : Int)))); True ∧ True ∧ True ∧ True ∧ ((∃ j : Nat, (j ≤ size.toNat) ∧ (((b.length = (b ++ (beI size.toNat n).take j).length) ∧ zz0 ∧ (DV.int .i64 (IntKind.wrap .i64 (size - (1 : Int))) = DV.int .i64 (size - 1 - (j : Int))) ∧ True) ∧ ((u8s b = u8s (b ++ (beI size.toNat n).take j)) ∧ True))) ∧ ∀ j : Nat, (j ≤ size.toNat) → True ∧ True ∧ (((decide ((size - 1 - (j : Int)) ≥ (0 : Int))) = true → True ∧ True ∧ True ∧ True ∧ True ∧ (0 ≤ IntKind.wrap .u64 (zz1 j)) ∧ True ∧ True ∧ (appVc 1 1 ((b ++ (beI size.toNat n).take j).length) 1 (u8s (b ++ (beI size.toNat n).take j)) ([DV.int .u8 (IntKind.wrap .u8 (Int.fdiv n (2 ^ min (IntKind.wrap .u64 (zz1 j)).toNat 64)))])) ∧ True ∧ True ∧ True ∧ True ∧ ∃ j' : Nat, (j' ≤ size.toNat) ∧ (size.toNat - j' < size.toNat - j) ∧ (((((b ++ (beI size.toNat n).take j).length) + 1 = (b ++ (beI size.toNat n).take j').length) ∧ zz0 ∧ (DV.int .i64 (IntKind.wrap .i64 ((size - 1 - (j : Int)) - (1 : Int))) = DV.int .i64 (size - 1 - (j' : Int))) ∧ True) ∧ (((u8s (b ++ (beI size.toNat n).take j)) ++ ([DV.int .u8 (IntKind.wrap .u8 (Int.fdiv n (2 ^ min (IntKind.wrap .u64 (zz1 j)).toNat 64)))]) = u8s (b ++ (beI size.toNat n).take j')) ∧ True))) ∧ ((decide ((size - 1 - (j : Int)) ≥ (0 : Int))) = false → True ∧ True ∧ ((((b ++ (beI size.toNat n).take j).length = (b ++ beI size.toNat n).length) ∧ True) ∧ ((u8s (b ++ (beI size.toNat n).take j) = u8s (b ++ beI size.toNat n)) ∧ True)) ∧ freshOK ⟨AV.one (Cl.ref 0 ((b ++ beI size.toNat n).length)), [Bx.row 5 1 (u8s (b ++ beI size.toNat n))], false⟩)))) := by kernel_rfl
theorem R18_big_ans (b : List Int) (n : Int) (size : Int) (hn : 1 ≤ size ∧ size ≤ 8) (hb : b.length ≤ 900000000) : AnsG Try.prog 32 0 [AV.one (Cl.ref 0 b.length), AV.one (Cl.d (DV.int .i64 n)), AV.one (Cl.d (DV.int .i64 size))] [Bx.row 5 1 (u8s b)] ⟨AV.one (Cl.ref 0 ((b ++ beI size.toNat n).length)), [Bx.row 5 1 (u8s (b ++ beI size.toNat n))], false⟩ :=
  ansG_of_vcg (Γ := gamEf) (R18_big_ann b n size) mixed_ Try.func32 rfl (Nat.le_of_ble_eq_true rfl) rfl fun hwf hbx => by
    refine Eq.mpr (R18_big_vc b n size) ?_
    simp only [true_and, and_true, RV.d.injEq, RV.agg.injEq, RV.tup.injEq, DV.bool.injEq, DV.int.injEq, DV.sl.injEq, List.cons.injEq, forall_const, Bool.not_false, Bool.not_true, Bool.not_eq_true', Bool.not_eq_false', decide_eq_true_eq, decide_eq_false_iff_not, Int.toNat_natCast, imQ, imQr, imC, oqQ, oqQr, oqC, oqD, pxQ, pxQr, pxC, pxD]
    obtain ⟨hn1, hn8⟩ := hn
    generalize hN : size.toNat = N at *
    have hnN : size = (N : Int) := by omega
    subst hnN
    have hN8 : 1 ≤ N ∧ N ≤ 8 := by omega
    clear hN hn1 hn8 hwf
    have w2 : IntKind.wrap .i64 ((N : Int) - 1) = (N : Int) - 1 := IntWalk.i64_in _ ⟨by omega, by omega⟩
    refine ⟨⟨0, Nat.zero_le _, ⟨by simp, by rw [w2]; omega⟩, by simp⟩, fun j hj => ⟨fun hj0 => ?_, fun hj0 => ?_⟩⟩
    · have hjN : j < N := by omega
      have hi : ∃ i : Nat, (i : Int) = (N : Int) - 1 - (j : Int) ∧ i = N - 1 - j := ⟨N - 1 - j, by omega, rfl⟩
      obtain ⟨i, hi, hi2⟩ := hi
      have hb1 := beI_take (v := n) hjN
      have hl1 : ((beI N n).take j).length = j := by rw [List.length_take, beI_len, Nat.min_eq_left (by omega)]
      have w3 : IntKind.wrap .i64 (8 * (i : Int)) = 8 * (i : Int) := IntWalk.i64_in _ ⟨by omega, by omega⟩
      have w5 := u64_8 (by omega : i < 8)
      have w4 : IntKind.wrap .i64 ((i : Int) - 1) = (i : Int) - 1 := IntWalk.i64_in _ ⟨by omega, by omega⟩
      have w6 := byI_eq n (by omega : i < 8)
      rw [w3] at w6
      rw [← hi, w3, w5, w4, w6, hi2]
      refine ⟨by omega, ⟨by rw [u8s_len, Nat.mul_one], rfl, ?_, ?_⟩, j + 1, by omega, by omega, ⟨?_, by omega⟩, ?_⟩
      · simp only [List.length_append, hl1, maxLen]; omega
      · simp only [List.length_append, hl1]; omega
      · rw [hb1]; simp only [List.length_append, List.length_cons, List.length_nil]; omega
      · rw [hb1]; simp [u8s]
    · have : j = N := by omega
      subst this
      rw [List.take_of_length_le (l := beI j n) (by rw [beI_len]; omega)]
      exact ⟨⟨rfl, rfl⟩, trivial⟩

def R18_pixel_ann (b : List Int) (p : Px) : Ann := Ann.leaf
theorem R18_pixel_vc (b : List Int) (p : Px) : vcg Try.prog gamEf ⟨29, fun _ => false, List.range 0, false⟩ (bodyOf Try.f35) (R18_pixel_ann b p) kn0 (startG [AV.one (Cl.ref 0 b.length), AV.agg [Cl.d (DV.int .u16 p.a), Cl.d (DV.int .u16 p.b), Cl.d (DV.int .u16 p.c), Cl.d (DV.int .u16 p.al), Cl.d (DV.int .u16 p.f)]] [Bx.row 5 1 (u8s b)]) (postG Try.prog ⟨29, fun _ => false, List.range 0, false⟩ Try.f35.results.toList ⟨AV.one (Cl.ref 0 ((b ++ pxB p).length)), [Bx.row 5 1 (u8s (b ++ pxB p))], false⟩) =
  (let zz0 := (Cl.d (DV.int .i64 2)); let zz1 := (Cl.ref 0 (((ints (u8s b)) ++ beI 2 (IntKind.wrap .i64 p.a)).length)); let zz2 := [Bx.row 5 1 (u8s ((ints (u8s b)) ++ beI 2 (IntKind.wrap .i64 p.a)))]; let zz3 := (Cl.ref 0 (((ints (u8s ((ints (u8s b)) ++ beI 2 (IntKind.wrap .i64 p.a)))) ++ beI 2 (IntKind.wrap .i64 p.b)).length)); let zz4 := [Bx.row 5 1 (u8s ((ints (u8s ((ints (u8s b)) ++ beI 2 (IntKind.wrap .i64 p.a)))) ++ beI 2 (IntKind.wrap .i64 p.b)))]; let zz5 := (Cl.ref 0 (((ints (u8s ((ints (u8s ((ints (u8s b)) ++ beI 2 (IntKind.wrap .i64 p.a)))) ++ beI 2 (IntKind.wrap .i64 p.b)))) ++ beI 2 (IntKind.wrap .i64 p.c)).length)); let zz6 := [Bx.row 5 1 (u8s ((ints (u8s ((ints (u8s ((ints (u8s b)) ++ beI 2 (IntKind.wrap .i64 p.a)))) ++ beI 2 (IntKind.wrap .i64 p.b)))) ++ beI 2 (IntKind.wrap .i64 p.c)))]; let zz7 := (Cl.ref 0 (((ints (u8s ((ints (u8s ((ints (u8s ((ints (u8s b)) ++ beI 2 (IntKind.wrap .i64 p.a)))) ++ beI 2 (IntKind.wrap .i64 p.b)))) ++ beI 2 (IntKind.wrap .i64 p.c)))) ++ beI 2 (IntKind.wrap .i64 p.al)).length)); let zz8 := [Bx.row 5 1 (u8s ((ints (u8s ((ints (u8s ((ints (u8s ((ints (u8s b)) ++ beI 2 (IntKind.wrap .i64 p.a)))) ++ beI 2 (IntKind.wrap .i64 p.b)))) ++ beI 2 (IntKind.wrap .i64 p.c)))) ++ beI 2 (IntKind.wrap .i64 p.al)))]; True ∧ True ∧ True ∧ True ∧ (0 ≤ (0 : Int) ∧ (0 : Int) < ((3 : Nat) : Int)) ∧ True ∧ True ∧ (AnsG Try.prog 32 0 [AV.one (Cl.ref 0 b.length), AV.one (Cl.d (DV.int .i64 (IntKind.wrap .i64 p.a))), AV.one zz0] [Bx.row 5 1 (u8s b)] ⟨AV.one zz1, zz2, false⟩) ∧ True ∧ (0 ≤ (1 : Int) ∧ (1 : Int) < ((3 : Nat) : Int)) ∧ True ∧ True ∧ (AnsG Try.prog 32 0 [AV.one zz1, AV.one (Cl.d (DV.int .i64 (IntKind.wrap .i64 p.b))), AV.one zz0] zz2 ⟨AV.one zz3, zz4, false⟩) ∧ True ∧ (0 ≤ (2 : Int) ∧ (2 : Int) < ((3 : Nat) : Int)) ∧ True ∧ True ∧ (AnsG Try.prog 32 0 [AV.one zz3, AV.one (Cl.d (DV.int .i64 (IntKind.wrap .i64 p.c))), AV.one zz0] zz4 ⟨AV.one zz5, zz6, false⟩) ∧ True ∧ True ∧ True ∧ (AnsG Try.prog 32 0 [AV.one zz5, AV.one (Cl.d (DV.int .i64 (IntKind.wrap .i64 p.al))), AV.one zz0] zz6 ⟨AV.one zz7, zz8, false⟩) ∧ True ∧ True ∧ True ∧ (AnsG Try.prog 32 0 [AV.one zz7, AV.one (Cl.d (DV.int .i64 (IntKind.wrap .i64 p.f))), AV.one zz0] zz8 ⟨AV.one (Cl.ref 0 (((ints (u8s ((ints (u8s ((ints (u8s ((ints (u8s ((ints (u8s b)) ++ beI 2 (IntKind.wrap .i64 p.a)))) ++ beI 2 (IntKind.wrap .i64 p.b)))) ++ beI 2 (IntKind.wrap .i64 p.c)))) ++ beI 2 (IntKind.wrap .i64 p.al)))) ++ beI 2 (IntKind.wrap .i64 p.f)).length)), [Bx.row 5 1 (u8s ((ints (u8s ((ints (u8s ((ints (u8s ((ints (u8s ((ints (u8s b)) ++ beI 2 (IntKind.wrap .i64 p.a)))) ++ beI 2 (IntKind.wrap .i64 p.b)))) ++ beI 2 (IntKind.wrap .i64 p.c)))) ++ beI 2 (IntKind.wrap .i64 p.al)))) ++ beI 2 (IntKind.wrap .i64 p.f)))], false⟩) ∧ True ∧ (true = true) ∧ (((((ints (u8s ((ints (u8s ((ints (u8s ((ints (u8s ((ints (u8s b)) ++ beI 2 (IntKind.wrap .i64 p.a)))) ++ beI 2 (IntKind.wrap .i64 p.b)))) ++ beI 2 (IntKind.wrap .i64 p.c)))) ++ beI 2 (IntKind.wrap .i64 p.al)))) ++ beI 2 (IntKind.wrap .i64 p.f)).length = (b ++ pxB p).length) ∧ True) ∧ ((u8s ((ints (u8s ((ints (u8s ((ints (u8s ((ints (u8s ((ints (u8s b)) ++ beI 2 (IntKind.wrap .i64 p.a)))) ++ beI 2 (IntKind.wrap .i64 p.b)))) ++ beI 2 (IntKind.wrap .i64 p.c)))) ++ beI 2 (IntKind.wrap .i64 p.al)))) ++ beI 2 (IntKind.wrap .i64 p.f)) = u8s (b ++ pxB p)) ∧ True)) ∧ freshOK ⟨AV.one (Cl.ref 0 ((b ++ pxB p).length)), [Bx.row 5 1 (u8s (b ++ pxB p))], false⟩) := by kernel_rfl
theorem R18_pixel_ans (b : List Int) (p : Px) (hb : b.length ≤ 800000000) : AnsG Try.prog 35 0 [AV.one (Cl.ref 0 b.length), AV.agg [Cl.d (DV.int .u16 p.a), Cl.d (DV.int .u16 p.b), Cl.d (DV.int .u16 p.c), Cl.d (DV.int .u16 p.al), Cl.d (DV.int .u16 p.f)]] [Bx.row 5 1 (u8s b)] ⟨AV.one (Cl.ref 0 ((b ++ pxB p).length)), [Bx.row 5 1 (u8s (b ++ pxB p))], false⟩ :=
  ansG_of_vcg (Γ := gamEf) (R18_pixel_ann b p) mixed_ Try.func35 rfl (Nat.le_of_ble_eq_true rfl) rfl fun hwf hbx => by
    refine Eq.mpr (R18_pixel_vc b p) ?_
    simp only [true_and, and_true, RV.d.injEq, RV.agg.injEq, RV.tup.injEq, DV.bool.injEq, DV.int.injEq, DV.sl.injEq, List.cons.injEq, forall_const, Bool.not_false, Bool.not_true, Bool.not_eq_true', Bool.not_eq_false', decide_eq_true_eq, decide_eq_false_iff_not, Int.toNat_natCast, imQ, imQr, imC, oqQ, oqQr, oqC, oqD, pxQ, pxQr, pxC, pxD]
    simp only [AV.wfL, AV.wf, Cl.wfs, DV.wf] at hwf
    have w0 : ∀ n : Int, 0 ≤ n ∧ n ≤ 65535 → IntKind.wrap .i64 n = n := fun n h => IntWalk.i64_in _ ⟨by omega, by omega⟩
    obtain ⟨_, ⟨h1, h2, h3, h4, h5, _⟩, _⟩ := hwf
    simp only [ints_u8s, w0 _ h1, w0 _ h2, w0 _ h3, w0 _ h4, w0 _ h5]
    have e : b ++ beI 2 (p.a) ++ beI 2 (p.b) ++ beI 2 (p.c) ++ beI 2 (p.al) ++ beI 2 (p.f) = b ++ pxB p := by simp only [pxB, putL, List.flatMap_cons, List.flatMap_nil, List.append_nil, List.append_assoc]
    refine ⟨⟨by omega, by omega⟩, R18_big_ans (b) (p.a) 2 ⟨by omega, by omega⟩ (by first | omega | (simp only [List.length_append, beI_len, List.length_cons, List.length_nil]; omega)), ⟨by omega, by omega⟩, R18_big_ans (b ++ beI 2 (p.a)) (p.b) 2 ⟨by omega, by omega⟩ (by first | omega | (simp only [List.length_append, beI_len, List.length_cons, List.length_nil]; omega)), ⟨by omega, by omega⟩, R18_big_ans (b ++ beI 2 (p.a) ++ beI 2 (p.b)) (p.c) 2 ⟨by omega, by omega⟩ (by first | omega | (simp only [List.length_append, beI_len, List.length_cons, List.length_nil]; omega)), R18_big_ans (b ++ beI 2 (p.a) ++ beI 2 (p.b) ++ beI 2 (p.c)) (p.al) 2 ⟨by omega, by omega⟩ (by first | omega | (simp only [List.length_append, beI_len, List.length_cons, List.length_nil]; omega)), R18_big_ans (b ++ beI 2 (p.a) ++ beI 2 (p.b) ++ beI 2 (p.c) ++ beI 2 (p.al)) (p.f) 2 ⟨by omega, by omega⟩ (by first | omega | (simp only [List.length_append, beI_len, List.length_cons, List.length_nil]; omega)), ⟨?_, ?_⟩, trivial⟩
    · rw [← e]
    · rw [← e]

def R18_Encode_ann (s : Scr) : Ann := let zz0 := (1, Bx.cells [Cl.d (DV.int .i64 s.bits), Cl.d (DV.int .i64 s.c.a), Cl.d (DV.int .i64 s.c.b), Cl.d (DV.int .i64 s.c.c), Cl.d (DV.int .i64 s.c.d), Cl.d (DV.int .i64 s.tw), Cl.d (DV.int .i64 s.th), Cl.d (DV.sl s.ord.length (is s.ord)), Cl.d (DV.sl s.ims.length (ims s.ims)), Cl.d (DV.sl s.ops.length (ops s.ops))]); let zz1 := fun (k : Nat) => (7, AV.one (Cl.d (DV.int .i64 ((k : Nat) : Int)))); let zz2 := fun (k : Nat) => (9, AV.one (Cl.ref 9010 ((pxL (mAt s k)).length))); let zz3 := fun (k : Nat) => (9010, Bx.row 37 5 (pxs (pxL (mAt s k)))); (Ann.seq Ann.leaf (Ann.seq Ann.leaf (Ann.seq Ann.leaf (Ann.seq Ann.leaf (Ann.seq Ann.leaf (Ann.seq Ann.leaf (Ann.seq (Ann.seq Ann.leaf (Ann.loop ⟨Nat, fun i => i ≤ s.ord.length, fun i => ⟨[(1, AV.one (Cl.ptr 1 0)), (5, AV.one (Cl.ref 9001 ((encO s i).length))), (6, AV.one (Cl.d (DV.int .i64 ((i : Nat) : Int))))], [zz0, (9001, Bx.row 5 1 (u8s (encO s i)))]⟩, fun i => s.ord.length - i⟩ fun i => Ann.leaf)) (Ann.seq Ann.leaf (Ann.seq (Ann.seq Ann.leaf (Ann.loop ⟨Nat, fun k => k ≤ s.ims.length, fun k => ⟨[(1, AV.one (Cl.ptr 1 0)), (5, AV.one (Cl.ref 9002 ((encA s k).length))), (zz1 k)], [zz0, (9002, Bx.row 5 1 (u8s (encA s k)))]⟩, fun k => s.ims.length - k⟩ fun k => (Ann.seq Ann.leaf (Ann.seq (Ann.seq Ann.leaf (Ann.seq Ann.leaf (Ann.seq Ann.leaf (Ann.cut ⟨Nat, fun z => z = 0, fun z => ⟨[(1, AV.one (Cl.ptr 1 0)), (5, AV.one (Cl.ref 9005 ((encA s k ++ hdB (mAt s k)).length))), (zz1 k), (zz2 k)], [zz0, (9005, Bx.row 5 1 (u8s (encA s k ++ hdB (mAt s k)))), (zz3 k)]⟩, fun z => 0⟩ Ann.leaf fun z => (Ann.seq Ann.leaf (Ann.loop ⟨Nat, fun q => q ≤ (pxL (mAt s k)).length, fun q => ⟨[(1, AV.one (Cl.ptr 1 0)), (5, AV.one (Cl.ref 9003 ((encA s k ++ hdB (mAt s k) ++ ((pxL (mAt s k)).take q).flatMap pxB).length))), (zz1 k), (zz2 k), (10, AV.one (Cl.d (DV.int .i64 ((q : Nat) : Int))))], [zz0, (9003, Bx.row 5 1 (u8s (encA s k ++ hdB (mAt s k) ++ ((pxL (mAt s k)).take q).flatMap pxB))), (zz3 k)]⟩, fun q => (pxL (mAt s k)).length - q⟩ fun q => Ann.leaf)))))) Ann.leaf)))) (Ann.seq Ann.leaf (Ann.seq (Ann.seq Ann.leaf (Ann.loop ⟨Nat, fun j => j ≤ s.ops.length, fun j => ⟨[(1, AV.one (Cl.ptr 1 0)), (5, AV.one (Cl.ref 9004 ((encC s j).length))), (11, AV.one (Cl.d (DV.int .i64 ((j : Nat) : Int))))], [zz0, (9004, Bx.row 5 1 (u8s (encC s j)))]⟩, fun j => s.ops.length - j⟩ fun j => Ann.leaf)) Ann.leaf)))))))))))
theorem R18_Encode_vc (s : Scr) : vcg Try.prog gamEf 170 (bodyOf Try.f12) (R18_Encode_ann s) kn0 (start [RV.agg [DV.int .i64 s.bits, DV.int .i64 s.c.a, DV.int .i64 s.c.b, DV.int .i64 s.c.c, DV.int .i64 s.c.d, DV.int .i64 s.tw, DV.int .i64 s.th, DV.sl s.ord.length (is s.ord), DV.sl s.ims.length (ims s.ims), DV.sl s.ops.length (ops s.ops)]]) (post Try.prog Try.f12.results.toList (· = RV.tup [RV.d (DV.sl ((encS s).1.length) (u8s (encS s).1)), RV.d (DV.int .i64 ((encS s).2))])) =
  (let zz0 := [DV.int .i64 s.bits, DV.int .i64 s.c.a, DV.int .i64 s.c.b, DV.int .i64 s.c.c, DV.int .i64 s.c.d, DV.int .i64 s.tw, DV.int .i64 s.th, DV.sl s.ord.length (is s.ord), DV.sl s.ims.length (ims s.ims), DV.sl s.ops.length (ops s.ops)]; let zz1 := [RV.d (DV.sl ((encS s).1.length) (u8s (encS s).1)), RV.d (DV.int .i64 ((encS s).2))]; let zz2 := (Cl.d (DV.int .i64 1)); let zz3 := (Cl.ref 0 (((ints ([DV.int .u8 (76 : Int), DV.int .u8 (67 : Int)])) ++ beI 1 s.bits).length)); let zz4 := [Bx.row 5 1 (u8s ((ints ([DV.int .u8 (76 : Int), DV.int .u8 (67 : Int)])) ++ beI 1 s.bits))]; let zz5 := (Cl.d (DV.int .i64 4)); let zz6 := (Cl.ref 0 (((ints (u8s ((ints ([DV.int .u8 (76 : Int), DV.int .u8 (67 : Int)])) ++ beI 1 s.bits))) ++ beI 4 s.c.a).length)); let zz7 := [Bx.row 5 1 (u8s ((ints (u8s ((ints ([DV.int .u8 (76 : Int), DV.int .u8 (67 : Int)])) ++ beI 1 s.bits))) ++ beI 4 s.c.a))]; let zz8 := (Cl.ref 0 (((ints (u8s ((ints (u8s ((ints ([DV.int .u8 (76 : Int), DV.int .u8 (67 : Int)])) ++ beI 1 s.bits))) ++ beI 4 s.c.a))) ++ beI 4 s.c.b).length)); let zz9 := [Bx.row 5 1 (u8s ((ints (u8s ((ints (u8s ((ints ([DV.int .u8 (76 : Int), DV.int .u8 (67 : Int)])) ++ beI 1 s.bits))) ++ beI 4 s.c.a))) ++ beI 4 s.c.b))]; let zz10 := (Cl.ref 0 (((ints (u8s ((ints (u8s ((ints (u8s ((ints ([DV.int .u8 (76 : Int), DV.int .u8 (67 : Int)])) ++ beI 1 s.bits))) ++ beI 4 s.c.a))) ++ beI 4 s.c.b))) ++ beI 4 s.c.c).length)); let zz11 := [Bx.row 5 1 (u8s ((ints (u8s ((ints (u8s ((ints (u8s ((ints ([DV.int .u8 (76 : Int), DV.int .u8 (67 : Int)])) ++ beI 1 s.bits))) ++ beI 4 s.c.a))) ++ beI 4 s.c.b))) ++ beI 4 s.c.c))]; let zz12 := (Cl.ref 0 (((ints (u8s ((ints (u8s ((ints (u8s ((ints (u8s ((ints ([DV.int .u8 (76 : Int), DV.int .u8 (67 : Int)])) ++ beI 1 s.bits))) ++ beI 4 s.c.a))) ++ beI 4 s.c.b))) ++ beI 4 s.c.c))) ++ beI 4 s.c.d).length)); let zz13 := [Bx.row 5 1 (u8s ((ints (u8s ((ints (u8s ((ints (u8s ((ints (u8s ((ints ([DV.int .u8 (76 : Int), DV.int .u8 (67 : Int)])) ++ beI 1 s.bits))) ++ beI 4 s.c.a))) ++ beI 4 s.c.b))) ++ beI 4 s.c.c))) ++ beI 4 s.c.d))]; let zz14 := (Cl.ref 0 (((ints (u8s ((ints (u8s ((ints (u8s ((ints (u8s ((ints (u8s ((ints ([DV.int .u8 (76 : Int), DV.int .u8 (67 : Int)])) ++ beI 1 s.bits))) ++ beI 4 s.c.a))) ++ beI 4 s.c.b))) ++ beI 4 s.c.c))) ++ beI 4 s.c.d))) ++ beI 4 s.tw).length)); let zz15 := [Bx.row 5 1 (u8s ((ints (u8s ((ints (u8s ((ints (u8s ((ints (u8s ((ints (u8s ((ints ([DV.int .u8 (76 : Int), DV.int .u8 (67 : Int)])) ++ beI 1 s.bits))) ++ beI 4 s.c.a))) ++ beI 4 s.c.b))) ++ beI 4 s.c.c))) ++ beI 4 s.c.d))) ++ beI 4 s.tw))]; let zz16 := (Cl.ref 0 (((ints (u8s ((ints (u8s ((ints (u8s ((ints (u8s ((ints (u8s ((ints (u8s ((ints ([DV.int .u8 (76 : Int), DV.int .u8 (67 : Int)])) ++ beI 1 s.bits))) ++ beI 4 s.c.a))) ++ beI 4 s.c.b))) ++ beI 4 s.c.c))) ++ beI 4 s.c.d))) ++ beI 4 s.tw))) ++ beI 4 s.th).length)); let zz17 := [Bx.row 5 1 (u8s ((ints (u8s ((ints (u8s ((ints (u8s ((ints (u8s ((ints (u8s ((ints (u8s ((ints ([DV.int .u8 (76 : Int), DV.int .u8 (67 : Int)])) ++ beI 1 s.bits))) ++ beI 4 s.c.a))) ++ beI 4 s.c.b))) ++ beI 4 s.c.c))) ++ beI 4 s.c.d))) ++ beI 4 s.tw))) ++ beI 4 s.th))]; let zz18 := (zz0 = zz0); let zz19 := fun (i : Nat) => (Cl.ref 0 ((encO s i).length)); let zz20 := fun (i : Nat) => [Bx.row 5 1 (u8s (encO s i))]; let zz21 := fun (k : Nat) => (Cl.ref 0 ((encA s k).length)); let zz22 := fun (k : Nat) => [Bx.row 5 1 (u8s (encA s k))]; let zz23 := fun (k : Nat) => [Bx.row 5 1 (u8s ((ints (u8s (encA s k))) ++ beI 1 (if (bAt (ims s.ims) (((k : Nat) : Int).toNat * 28 + 1 + 1)) then 1 else 0)))]; let zz24 := fun (k : Nat) => [Bx.row 5 1 (u8s ((ints (u8s ((ints (u8s (encA s k))) ++ beI 1 (if (bAt (ims s.ims) (((k : Nat) : Int).toNat * 28 + 1 + 1)) then 1 else 0)))) ++ beI 4 (nAt (ims s.ims) (((k : Nat) : Int).toNat * 28))))]; let zz25 := fun (k : Nat) => (((ints (u8s ((ints (u8s ((ints (u8s (encA s k))) ++ beI 1 (if (bAt (ims s.ims) (((k : Nat) : Int).toNat * 28 + 1 + 1)) then 1 else 0)))) ++ beI 4 (nAt (ims s.ims) (((k : Nat) : Int).toNat * 28))))) ++ beI 4 (nAt (ims s.ims) (((k : Nat) : Int).toNat * 28 + 1))).length = (encA s k ++ hdB (mAt s k)).length); let zz26 := fun (k : Nat) => (DV.int .i64 ((k : Nat) : Int) = DV.int .i64 ((k : Nat) : Int)); let zz27 := fun (k : Nat) => (u8s ((ints (u8s ((ints (u8s ((ints (u8s (encA s k))) ++ beI 1 (if (bAt (ims s.ims) (((k : Nat) : Int).toNat * 28 + 1 + 1)) then 1 else 0)))) ++ beI 4 (nAt (ims s.ims) (((k : Nat) : Int).toNat * 28))))) ++ beI 4 (nAt (ims s.ims) (((k : Nat) : Int).toNat * 28 + 1))) = u8s (encA s k ++ hdB (mAt s k))); let zz28 := fun (k : Nat) => fun (q : Nat) => (q ≤ (pxL (mAt s k)).length); let zz29 := fun (k : Nat) => ((pxL (mAt s k)).length = (pxL (mAt s k)).length); let zz30 := fun (k : Nat) => (pxs (pxL (mAt s k)) = pxs (pxL (mAt s k))); let zz31 := (Cl.d (DV.int .i64 2)); let zz32 := fun (j : Nat) => [Bx.row 5 1 (u8s ((ints (u8s (encC s j))) ++ beI 1 (nAt (ops s.ops) (((j : Nat) : Int).toNat * 12))))]; let zz33 := fun (j : Nat) => [Bx.row 5 1 (u8s ((ints (u8s ((ints (u8s (encC s j))) ++ beI 1 (nAt (ops s.ops) (((j : Nat) : Int).toNat * 12))))) ++ beI 1 (nAt (ops s.ops) (((j : Nat) : Int).toNat * 12 + 1))))]; let zz34 := fun (j : Nat) => [Bx.row 5 1 (u8s ((ints (u8s ((ints (u8s ((ints (u8s (encC s j))) ++ beI 1 (nAt (ops s.ops) (((j : Nat) : Int).toNat * 12))))) ++ beI 1 (nAt (ops s.ops) (((j : Nat) : Int).toNat * 12 + 1))))) ++ beI 4 (nAt (ops s.ops) (((j : Nat) : Int).toNat * 12 + 1 + 1))))]; let zz35 := fun (j : Nat) => [Bx.row 5 1 (u8s ((ints (u8s ((ints (u8s ((ints (u8s ((ints (u8s (encC s j))) ++ beI 1 (nAt (ops s.ops) (((j : Nat) : Int).toNat * 12))))) ++ beI 1 (nAt (ops s.ops) (((j : Nat) : Int).toNat * 12 + 1))))) ++ beI 4 (nAt (ops s.ops) (((j : Nat) : Int).toNat * 12 + 1 + 1))))) ++ beI 4 (nAt (ops s.ops) (((j : Nat) : Int).toNat * 12 + 1 + 1 + 1))))]; let zz36 := fun (j : Nat) => [Bx.row 5 1 (u8s ((ints (u8s ((ints (u8s ((ints (u8s ((ints (u8s ((ints (u8s (encC s j))) ++ beI 1 (nAt (ops s.ops) (((j : Nat) : Int).toNat * 12))))) ++ beI 1 (nAt (ops s.ops) (((j : Nat) : Int).toNat * 12 + 1))))) ++ beI 4 (nAt (ops s.ops) (((j : Nat) : Int).toNat * 12 + 1 + 1))))) ++ beI 4 (nAt (ops s.ops) (((j : Nat) : Int).toNat * 12 + 1 + 1 + 1))))) ++ beI 1 (nAt (ops s.ops) (((j : Nat) : Int).toNat * 12 + 1 + 1 + 1 + 1))))]; let zz37 := fun (j : Nat) => [Bx.row 5 1 (u8s ((ints (u8s ((ints (u8s ((ints (u8s ((ints (u8s ((ints (u8s ((ints (u8s (encC s j))) ++ beI 1 (nAt (ops s.ops) (((j : Nat) : Int).toNat * 12))))) ++ beI 1 (nAt (ops s.ops) (((j : Nat) : Int).toNat * 12 + 1))))) ++ beI 4 (nAt (ops s.ops) (((j : Nat) : Int).toNat * 12 + 1 + 1))))) ++ beI 4 (nAt (ops s.ops) (((j : Nat) : Int).toNat * 12 + 1 + 1 + 1))))) ++ beI 1 (nAt (ops s.ops) (((j : Nat) : Int).toNat * 12 + 1 + 1 + 1 + 1))))) ++ beI 4 (nAt (ops s.ops) (((j : Nat) : Int).toNat * 12 + 1 + 1 + 1 + 1 + 1))))]; let zz38 := fun (j : Nat) => [Bx.row 5 1 (u8s ((ints (u8s ((ints (u8s ((ints (u8s ((ints (u8s ((ints (u8s ((ints (u8s ((ints (u8s (encC s j))) ++ beI 1 (nAt (ops s.ops) (((j : Nat) : Int).toNat * 12))))) ++ beI 1 (nAt (ops s.ops) (((j : Nat) : Int).toNat * 12 + 1))))) ++ beI 4 (nAt (ops s.ops) (((j : Nat) : Int).toNat * 12 + 1 + 1))))) ++ beI 4 (nAt (ops s.ops) (((j : Nat) : Int).toNat * 12 + 1 + 1 + 1))))) ++ beI 1 (nAt (ops s.ops) (((j : Nat) : Int).toNat * 12 + 1 + 1 + 1 + 1))))) ++ beI 4 (nAt (ops s.ops) (((j : Nat) : Int).toNat * 12 + 1 + 1 + 1 + 1 + 1))))) ++ beI 4 (nAt (ops s.ops) (((j : Nat) : Int).toNat * 12 + 1 + 1 + 1 + 1 + 1 + 1))))]; let zz39 := fun (j : Nat) => [Bx.row 5 1 (u8s ((ints (u8s ((ints (u8s ((ints (u8s ((ints (u8s ((ints (u8s ((ints (u8s ((ints (u8s ((ints (u8s (encC s j))) ++ beI 1 (nAt (ops s.ops) (((j : Nat) : Int).toNat * 12))))) ++ beI 1 (nAt (ops s.ops) (((j : Nat) : Int).toNat * 12 + 1))))) ++ beI 4 (nAt (ops s.ops) (((j : Nat) : Int).toNat * 12 + 1 + 1))))) ++ beI 4 (nAt (ops s.ops) (((j : Nat) : Int).toNat * 12 + 1 + 1 + 1))))) ++ beI 1 (nAt (ops s.ops) (((j : Nat) : Int).toNat * 12 + 1 + 1 + 1 + 1))))) ++ beI 4 (nAt (ops s.ops) (((j : Nat) : Int).toNat * 12 + 1 + 1 + 1 + 1 + 1))))) ++ beI 4 (nAt (ops s.ops) (((j : Nat) : Int).toNat * 12 + 1 + 1 + 1 + 1 + 1 + 1))))) ++ beI 2 (IntKind.wrap .i64 (nAt (ops s.ops) (((j : Nat) : Int).toNat * 12 + 1 + 1 + 1 + 1 + 1 + 1 + 1)))))]; let zz40 := fun (j : Nat) => [Bx.row 5 1 (u8s ((ints (u8s ((ints (u8s ((ints (u8s ((ints (u8s ((ints (u8s ((ints (u8s ((ints (u8s ((ints (u8s ((ints (u8s (encC s j))) ++ beI 1 (nAt (ops s.ops) (((j : Nat) : Int).toNat * 12))))) ++ beI 1 (nAt (ops s.ops) (((j : Nat) : Int).toNat * 12 + 1))))) ++ beI 4 (nAt (ops s.ops) (((j : Nat) : Int).toNat * 12 + 1 + 1))))) ++ beI 4 (nAt (ops s.ops) (((j : Nat) : Int).toNat * 12 + 1 + 1 + 1))))) ++ beI 1 (nAt (ops s.ops) (((j : Nat) : Int).toNat * 12 + 1 + 1 + 1 + 1))))) ++ beI 4 (nAt (ops s.ops) (((j : Nat) : Int).toNat * 12 + 1 + 1 + 1 + 1 + 1))))) ++ beI 4 (nAt (ops s.ops) (((j : Nat) : Int).toNat * 12 + 1 + 1 + 1 + 1 + 1 + 1))))) ++ beI 2 (IntKind.wrap .i64 (nAt (ops s.ops) (((j : Nat) : Int).toNat * 12 + 1 + 1 + 1 + 1 + 1 + 1 + 1)))))) ++ beI 1 (nAt (ops s.ops) (((j : Nat) : Int).toNat * 12 + 1 + 1 + 1 + 1 + 1 + 1 + 1 + 1))))]; let zz41 := fun (j : Nat) => [Bx.row 5 1 (u8s ((ints (u8s ((ints (u8s ((ints (u8s ((ints (u8s ((ints (u8s ((ints (u8s ((ints (u8s ((ints (u8s ((ints (u8s ((ints (u8s (encC s j))) ++ beI 1 (nAt (ops s.ops) (((j : Nat) : Int).toNat * 12))))) ++ beI 1 (nAt (ops s.ops) (((j : Nat) : Int).toNat * 12 + 1))))) ++ beI 4 (nAt (ops s.ops) (((j : Nat) : Int).toNat * 12 + 1 + 1))))) ++ beI 4 (nAt (ops s.ops) (((j : Nat) : Int).toNat * 12 + 1 + 1 + 1))))) ++ beI 1 (nAt (ops s.ops) (((j : Nat) : Int).toNat * 12 + 1 + 1 + 1 + 1))))) ++ beI 4 (nAt (ops s.ops) (((j : Nat) : Int).toNat * 12 + 1 + 1 + 1 + 1 + 1))))) ++ beI 4 (nAt (ops s.ops) (((j : Nat) : Int).toNat * 12 + 1 + 1 + 1 + 1 + 1 + 1))))) ++ beI 2 (IntKind.wrap .i64 (nAt (ops s.ops) (((j : Nat) : Int).toNat * 12 + 1 + 1 + 1 + 1 + 1 + 1 + 1)))))) ++ beI 1 (nAt (ops s.ops) (((j : Nat) : Int).toNat * 12 + 1 + 1 + 1 + 1 + 1 + 1 + 1 + 1))))) ++ beI 1 (nAt (ops s.ops) (((j : Nat) : Int).toNat * 12 + 1 + 1 + 1 + 1 + 1 + 1 + 1 + 1 + 1))))]; True ∧ True ∧ True ∧ True ∧ (Ans Try.prog 17 [RV.agg zz0] (RV.d (DV.bool (encOk (⟨s.bits, s.c, s.tw, s.th, ints (is s.ord), toIms (ims s.ims), toOps (ops s.ops)⟩ : Scr))))) ∧ True ∧ (((!(encOk (⟨s.bits, s.c, s.tw, s.th, ints (is s.ord), toIms (ims s.ims), toOps (ops s.ops)⟩ : Scr))) = true → True ∧ True ∧ RV.tup [RV.d (DV.sl 0 ([])), RV.d (DV.int .i64 19)] = RV.tup zz1) ∧ ((!(encOk (⟨s.bits, s.c, s.tw, s.th, ints (is s.ord), toIms (ims s.ims), toOps (ops s.ops)⟩ : Scr))) = false → True ∧ True ∧ True ∧ True ∧ True ∧ (0 < 2) ∧ True ∧ True ∧ (AnsG Try.prog 32 0 [AV.one (Cl.ref 0 2), AV.one (Cl.d (DV.int .i64 s.bits)), AV.one zz2] [Bx.row 5 1 ([DV.int .u8 (76 : Int), DV.int .u8 (67 : Int)])] ⟨AV.one zz3, zz4, false⟩) ∧ True ∧ True ∧ True ∧ True ∧ (AnsG Try.prog 32 0 [AV.one zz3, AV.one (Cl.d (DV.int .i64 s.c.a)), AV.one zz5] zz4 ⟨AV.one zz6, zz7, false⟩) ∧ True ∧ True ∧ (AnsG Try.prog 32 0 [AV.one zz6, AV.one (Cl.d (DV.int .i64 s.c.b)), AV.one zz5] zz7 ⟨AV.one zz8, zz9, false⟩) ∧ True ∧ True ∧ (AnsG Try.prog 32 0 [AV.one zz8, AV.one (Cl.d (DV.int .i64 s.c.c)), AV.one zz5] zz9 ⟨AV.one zz10, zz11, false⟩) ∧ True ∧ True ∧ (AnsG Try.prog 32 0 [AV.one zz10, AV.one (Cl.d (DV.int .i64 s.c.d)), AV.one zz5] zz11 ⟨AV.one zz12, zz13, false⟩) ∧ True ∧ (true = true) ∧ True ∧ True ∧ True ∧ (AnsG Try.prog 32 0 [AV.one zz12, AV.one (Cl.d (DV.int .i64 s.tw)), AV.one zz5] zz13 ⟨AV.one zz14, zz15, false⟩) ∧ True ∧ True ∧ (AnsG Try.prog 32 0 [AV.one zz14, AV.one (Cl.d (DV.int .i64 s.th)), AV.one zz5] zz15 ⟨AV.one zz16, zz17, false⟩) ∧ True ∧ True ∧ True ∧ (AnsG Try.prog 32 0 [AV.one zz16, AV.one (Cl.d (DV.int .i64 ((s.ord.length : Nat) : Int))), AV.one zz5] zz17 ⟨AV.one (Cl.ref 0 (((ints (u8s ((ints (u8s ((ints (u8s ((ints (u8s ((ints (u8s ((ints (u8s ((ints (u8s ((ints ([DV.int .u8 (76 : Int), DV.int .u8 (67 : Int)])) ++ beI 1 s.bits))) ++ beI 4 s.c.a))) ++ beI 4 s.c.b))) ++ beI 4 s.c.c))) ++ beI 4 s.c.d))) ++ beI 4 s.tw))) ++ beI 4 s.th))) ++ beI 4 ((s.ord.length : Nat) : Int)).length)), [Bx.row 5 1 (u8s ((ints (u8s ((ints (u8s ((ints (u8s ((ints (u8s ((ints (u8s ((ints (u8s ((ints (u8s ((ints ([DV.int .u8 (76 : Int), DV.int .u8 (67 : Int)])) ++ beI 1 s.bits))) ++ beI 4 s.c.a))) ++ beI 4 s.c.b))) ++ beI 4 s.c.c))) ++ beI 4 s.c.d))) ++ beI 4 s.tw))) ++ beI 4 s.th))) ++ beI 4 ((s.ord.length : Nat) : Int)))], false⟩) ∧ True ∧ (true = true) ∧ True ∧ ((∃ i : Nat, (i ≤ s.ord.length) ∧ (((0 = 0) ∧ (((ints (u8s ((ints (u8s ((ints (u8s ((ints (u8s ((ints (u8s ((ints (u8s ((ints (u8s ((ints ([DV.int .u8 (76 : Int), DV.int .u8 (67 : Int)])) ++ beI 1 s.bits))) ++ beI 4 s.c.a))) ++ beI 4 s.c.b))) ++ beI 4 s.c.c))) ++ beI 4 s.c.d))) ++ beI 4 s.tw))) ++ beI 4 s.th))) ++ beI 4 ((s.ord.length : Nat) : Int)).length = (encO s i).length) ∧ (DV.int .i64 0 = DV.int .i64 ((i : Nat) : Int)) ∧ True) ∧ (zz18 ∧ (u8s ((ints (u8s ((ints (u8s ((ints (u8s ((ints (u8s ((ints (u8s ((ints (u8s ((ints (u8s ((ints ([DV.int .u8 (76 : Int), DV.int .u8 (67 : Int)])) ++ beI 1 s.bits))) ++ beI 4 s.c.a))) ++ beI 4 s.c.b))) ++ beI 4 s.c.c))) ++ beI 4 s.c.d))) ++ beI 4 s.tw))) ++ beI 4 s.th))) ++ beI 4 ((s.ord.length : Nat) : Int)) = u8s (encO s i)) ∧ True))) ∧ ∀ i : Nat, (i ≤ s.ord.length) → True ∧ True ∧ True ∧ True ∧ True ∧ (((decide (((i : Nat) : Int) < ((s.ord.length : Nat) : Int))) = true → True ∧ True ∧ True ∧ True ∧ (0 ≤ ((i : Nat) : Int) ∧ ((i : Nat) : Int) < ((s.ord.length : Nat) : Int) ∧ ((i : Nat) : Int).toNat * 1 < (is s.ord).length) ∧ (((is s.ord)[((i : Nat) : Int).toNat * 1]? = some (DV.int .i64 (nAt (is s.ord) (((i : Nat) : Int).toNat * 1)))) ∧ True) ∧ (AnsG Try.prog 32 0 [AV.one (zz19 i), AV.one (Cl.d (DV.int .i64 (nAt (is s.ord) (((i : Nat) : Int).toNat * 1)))), AV.one zz5] (zz20 i) ⟨AV.one (Cl.ref 0 (((ints (u8s (encO s i))) ++ beI 4 (nAt (is s.ord) (((i : Nat) : Int).toNat * 1))).length)), [Bx.row 5 1 (u8s ((ints (u8s (encO s i))) ++ beI 4 (nAt (is s.ord) (((i : Nat) : Int).toNat * 1))))], false⟩) ∧ True ∧ True ∧ True ∧ True ∧ ∃ i' : Nat, (i' ≤ s.ord.length) ∧ (s.ord.length - i' < s.ord.length - i) ∧ (((0 = 0) ∧ (((ints (u8s (encO s i))) ++ beI 4 (nAt (is s.ord) (((i : Nat) : Int).toNat * 1))).length = (encO s i').length) ∧ (DV.int .i64 (IntKind.wrap .i64 (((i : Nat) : Int) + (1 : Int))) = DV.int .i64 ((i' : Nat) : Int)) ∧ True) ∧ (zz18 ∧ (u8s ((ints (u8s (encO s i))) ++ beI 4 (nAt (is s.ord) (((i : Nat) : Int).toNat * 1))) = u8s (encO s i')) ∧ True))) ∧ ((decide (((i : Nat) : Int) < ((s.ord.length : Nat) : Int))) = false → True ∧ True ∧ True ∧ True ∧ (AnsG Try.prog 32 0 [AV.one (zz19 i), AV.one (Cl.d (DV.int .i64 ((s.ims.length : Nat) : Int))), AV.one zz2] (zz20 i) ⟨AV.one (Cl.ref 0 (((ints (u8s (encO s i))) ++ beI 1 ((s.ims.length : Nat) : Int)).length)), [Bx.row 5 1 (u8s ((ints (u8s (encO s i))) ++ beI 1 ((s.ims.length : Nat) : Int)))], false⟩) ∧ True ∧ True ∧ ((∃ k : Nat, (k ≤ s.ims.length) ∧ (((0 = 0) ∧ (((ints (u8s (encO s i))) ++ beI 1 ((s.ims.length : Nat) : Int)).length = (encA s k).length) ∧ (DV.int .i64 0 = DV.int .i64 ((k : Nat) : Int)) ∧ True) ∧ (zz18 ∧ (u8s ((ints (u8s (encO s i))) ++ beI 1 ((s.ims.length : Nat) : Int)) = u8s (encA s k)) ∧ True))) ∧ ∀ k : Nat, (k ≤ s.ims.length) → True ∧ True ∧ True ∧ True ∧ True ∧ (((decide (((k : Nat) : Int) < ((s.ims.length : Nat) : Int))) = true → True ∧ True ∧ True ∧ (0 ≤ ((k : Nat) : Int) ∧ ((k : Nat) : Int) < ((s.ims.length : Nat) : Int) ∧ ((k : Nat) : Int).toNat * 28 < (ims s.ims).length) ∧ ((imQr (ims s.ims) (((k : Nat) : Int).toNat * 28))) ∧ True ∧ True ∧ True ∧ True ∧ True ∧ (Ans Try.prog 33 [RV.d (DV.bool (bAt (ims s.ims) (((k : Nat) : Int).toNat * 28 + 1 + 1)))] (RV.d (DV.int .i64 (if (bAt (ims s.ims) (((k : Nat) : Int).toNat * 28 + 1 + 1)) then 1 else 0)))) ∧ (AnsG Try.prog 32 0 [AV.one (zz21 k), AV.one (Cl.d (DV.int .i64 (if (bAt (ims s.ims) (((k : Nat) : Int).toNat * 28 + 1 + 1)) then 1 else 0))), AV.one zz2] (zz22 k) ⟨AV.one (Cl.ref 0 (((ints (u8s (encA s k))) ++ beI 1 (if (bAt (ims s.ims) (((k : Nat) : Int).toNat * 28 + 1 + 1)) then 1 else 0)).length)), (zz23 k), false⟩) ∧ True ∧ True ∧ (AnsG Try.prog 32 0 [AV.one (Cl.ref 0 (((ints (u8s (encA s k))) ++ beI 1 (if (bAt (ims s.ims) (((k : Nat) : Int).toNat * 28 + 1 + 1)) then 1 else 0)).length)), AV.one (Cl.d (DV.int .i64 (nAt (ims s.ims) (((k : Nat) : Int).toNat * 28)))), AV.one zz5] (zz23 k) ⟨AV.one (Cl.ref 0 (((ints (u8s ((ints (u8s (encA s k))) ++ beI 1 (if (bAt (ims s.ims) (((k : Nat) : Int).toNat * 28 + 1 + 1)) then 1 else 0)))) ++ beI 4 (nAt (ims s.ims) (((k : Nat) : Int).toNat * 28))).length)), (zz24 k), false⟩) ∧ True ∧ True ∧ (AnsG Try.prog 32 0 [AV.one (Cl.ref 0 (((ints (u8s ((ints (u8s (encA s k))) ++ beI 1 (if (bAt (ims s.ims) (((k : Nat) : Int).toNat * 28 + 1 + 1)) then 1 else 0)))) ++ beI 4 (nAt (ims s.ims) (((k : Nat) : Int).toNat * 28))).length)), AV.one (Cl.d (DV.int .i64 (nAt (ims s.ims) (((k : Nat) : Int).toNat * 28 + 1)))), AV.one zz5] (zz24 k) ⟨AV.one (Cl.ref 0 (((ints (u8s ((ints (u8s ((ints (u8s (encA s k))) ++ beI 1 (if (bAt (ims s.ims) (((k : Nat) : Int).toNat * 28 + 1 + 1)) then 1 else 0)))) ++ beI 4 (nAt (ims s.ims) (((k : Nat) : Int).toNat * 28))))) ++ beI 4 (nAt (ims s.ims) (((k : Nat) : Int).toNat * 28 + 1))).length)), [Bx.row 5 1 (u8s ((ints (u8s ((ints (u8s ((ints (u8s (encA s k))) ++ beI 1 (if (bAt (ims s.ims) (((k : Nat) : Int).toNat * 28 + 1 + 1)) then 1 else 0)))) ++ beI 4 (nAt (ims s.ims) (((k : Nat) : Int).toNat * 28))))) ++ beI 4 (nAt (ims s.ims) (((k : Nat) : Int).toNat * 28 + 1))))], false⟩) ∧ True ∧ (true = true) ∧ True ∧ True ∧ True ∧ True ∧ (True ∧ True ∧ True ∧ (((!(bAt (ims s.ims) (((k : Nat) : Int).toNat * 28 + 1 + 1))) = true → True ∧ (AnsO Try.prog 34 [imR (imQ (ims s.ims) (((k : Nat) : Int).toNat * 28))] 37 5 ((Im.pixels (imQ (ims s.ims) (((k : Nat) : Int).toNat * 28))).length) (pxs (Im.pixels (imQ (ims s.ims) (((k : Nat) : Int).toNat * 28))))) ∧ True ∧ ∃ z : Nat, (z = 0) ∧ (((0 = 0) ∧ (zz25 k) ∧ (zz26 k) ∧ ((Im.pixels (imQ (ims s.ims) (((k : Nat) : Int).toNat * 28))).length = (pxL (mAt s k)).length) ∧ True) ∧ (zz18 ∧ (zz27 k) ∧ (pxs (Im.pixels (imQ (ims s.ims) (((k : Nat) : Int).toNat * 28))) = pxs (pxL (mAt s k))) ∧ True))) ∧ ((!(bAt (ims s.ims) (((k : Nat) : Int).toNat * 28 + 1 + 1))) = false → ∃ z : Nat, (z = 0) ∧ (((0 = 0) ∧ (zz25 k) ∧ (zz26 k) ∧ (1 = (pxL (mAt s k)).length) ∧ True) ∧ (zz18 ∧ (zz27 k) ∧ ([DV.int .u16 (nAt (ims s.ims) (((k : Nat) : Int).toNat * 28 + 1 + 1 + 1)), DV.int .u16 (nAt (ims s.ims) (((k : Nat) : Int).toNat * 28 + 1 + 1 + 1 + 1)), DV.int .u16 (nAt (ims s.ims) (((k : Nat) : Int).toNat * 28 + 1 + 1 + 1 + 1 + 1)), DV.int .u16 (nAt (ims s.ims) (((k : Nat) : Int).toNat * 28 + 1 + 1 + 1 + 1 + 1 + 1)), DV.int .u16 (nAt (ims s.ims) (((k : Nat) : Int).toNat * 28 + 1 + 1 + 1 + 1 + 1 + 1 + 1))] = pxs (pxL (mAt s k))) ∧ True))))) ∧ ∀ z : Nat, (z = 0) → True ∧ ((∃ q : Nat, (zz28 k q) ∧ (((0 = 0) ∧ ((encA s k ++ hdB (mAt s k)).length = (encA s k ++ hdB (mAt s k) ++ ((pxL (mAt s k)).take q).flatMap pxB).length) ∧ (zz26 k) ∧ (zz29 k) ∧ (DV.int .i64 0 = DV.int .i64 ((q : Nat) : Int)) ∧ True) ∧ (zz18 ∧ (u8s (encA s k ++ hdB (mAt s k)) = u8s (encA s k ++ hdB (mAt s k) ++ ((pxL (mAt s k)).take q).flatMap pxB)) ∧ (zz30 k) ∧ True))) ∧ ∀ q : Nat, (zz28 k q) → True ∧ True ∧ ((pxL (mAt s k)).length ≤ maxLen) ∧ True ∧ (((decide (((q : Nat) : Int) < (((pxL (mAt s k)).length : Nat) : Int))) = true → True ∧ True ∧ True ∧ (0 ≤ ((q : Nat) : Int) ∧ ((q : Nat) : Int) < (((pxL (mAt s k)).length : Nat) : Int)) ∧ ((pxQr (pxs (pxL (mAt s k))) (((q : Nat) : Int).toNat * 5))) ∧ (AnsG Try.prog 35 0 [AV.one (Cl.ref 0 ((encA s k ++ hdB (mAt s k) ++ ((pxL (mAt s k)).take q).flatMap pxB).length)), pxD (pxQ (pxs (pxL (mAt s k))) (((q : Nat) : Int).toNat * 5))] [Bx.row 5 1 (u8s (encA s k ++ hdB (mAt s k) ++ ((pxL (mAt s k)).take q).flatMap pxB))] ⟨AV.one (Cl.ref 0 (((ints (u8s (encA s k ++ hdB (mAt s k) ++ ((pxL (mAt s k)).take q).flatMap pxB))) ++ pxB (pxQ (pxs (pxL (mAt s k))) (((q : Nat) : Int).toNat * 5))).length)), [Bx.row 5 1 (u8s ((ints (u8s (encA s k ++ hdB (mAt s k) ++ ((pxL (mAt s k)).take q).flatMap pxB))) ++ pxB (pxQ (pxs (pxL (mAt s k))) (((q : Nat) : Int).toNat * 5))))], false⟩) ∧ True ∧ True ∧ True ∧ True ∧ ∃ q' : Nat, (q' ≤ (pxL (mAt s k)).length) ∧ ((pxL (mAt s k)).length - q' < (pxL (mAt s k)).length - q) ∧ (((0 = 0) ∧ (((ints (u8s (encA s k ++ hdB (mAt s k) ++ ((pxL (mAt s k)).take q).flatMap pxB))) ++ pxB (pxQ (pxs (pxL (mAt s k))) (((q : Nat) : Int).toNat * 5))).length = (encA s k ++ hdB (mAt s k) ++ ((pxL (mAt s k)).take q').flatMap pxB).length) ∧ (zz26 k) ∧ (zz29 k) ∧ (DV.int .i64 (IntKind.wrap .i64 (((q : Nat) : Int) + (1 : Int))) = DV.int .i64 ((q' : Nat) : Int)) ∧ True) ∧ (zz18 ∧ (u8s ((ints (u8s (encA s k ++ hdB (mAt s k) ++ ((pxL (mAt s k)).take q).flatMap pxB))) ++ pxB (pxQ (pxs (pxL (mAt s k))) (((q : Nat) : Int).toNat * 5))) = u8s (encA s k ++ hdB (mAt s k) ++ ((pxL (mAt s k)).take q').flatMap pxB)) ∧ (zz30 k) ∧ True))) ∧ ((decide (((q : Nat) : Int) < (((pxL (mAt s k)).length : Nat) : Int))) = false → True ∧ True ∧ True ∧ ∃ k' : Nat, (k' ≤ s.ims.length) ∧ (s.ims.length - k' < s.ims.length - k) ∧ (((0 = 0) ∧ ((encA s k ++ hdB (mAt s k) ++ ((pxL (mAt s k)).take q).flatMap pxB).length = (encA s k').length) ∧ (DV.int .i64 (IntKind.wrap .i64 (((k : Nat) : Int) + (1 : Int))) = DV.int .i64 ((k' : Nat) : Int)) ∧ True) ∧ (zz18 ∧ (u8s (encA s k ++ hdB (mAt s k) ++ ((pxL (mAt s k)).take q).flatMap pxB) = u8s (encA s k')) ∧ True)))))) ∧ ((decide (((k : Nat) : Int) < ((s.ims.length : Nat) : Int))) = false → True ∧ True ∧ True ∧ True ∧ (AnsG Try.prog 32 0 [AV.one (zz21 k), AV.one (Cl.d (DV.int .i64 ((s.ops.length : Nat) : Int))), AV.one zz31] (zz22 k) ⟨AV.one (Cl.ref 0 (((ints (u8s (encA s k))) ++ beI 2 ((s.ops.length : Nat) : Int)).length)), [Bx.row 5 1 (u8s ((ints (u8s (encA s k))) ++ beI 2 ((s.ops.length : Nat) : Int)))], false⟩) ∧ True ∧ True ∧ ((∃ j : Nat, (j ≤ s.ops.length) ∧ (((0 = 0) ∧ (((ints (u8s (encA s k))) ++ beI 2 ((s.ops.length : Nat) : Int)).length = (encC s j).length) ∧ (DV.int .i64 0 = DV.int .i64 ((j : Nat) : Int)) ∧ True) ∧ (zz18 ∧ (u8s ((ints (u8s (encA s k))) ++ beI 2 ((s.ops.length : Nat) : Int)) = u8s (encC s j)) ∧ True))) ∧ ∀ j : Nat, (j ≤ s.ops.length) → True ∧ True ∧ True ∧ True ∧ True ∧ (((decide (((j : Nat) : Int) < ((s.ops.length : Nat) : Int))) = true → True ∧ True ∧ True ∧ (0 ≤ ((j : Nat) : Int) ∧ ((j : Nat) : Int) < ((s.ops.length : Nat) : Int) ∧ ((j : Nat) : Int).toNat * 12 < (ops s.ops).length) ∧ ((oqQr (ops s.ops) (((j : Nat) : Int).toNat * 12))) ∧ True ∧ True ∧ True ∧ True ∧ True ∧ (AnsG Try.prog 32 0 [AV.one (Cl.ref 0 ((encC s j).length)), AV.one (Cl.d (DV.int .i64 (nAt (ops s.ops) (((j : Nat) : Int).toNat * 12)))), AV.one zz2] [Bx.row 5 1 (u8s (encC s j))] ⟨AV.one (Cl.ref 0 (((ints (u8s (encC s j))) ++ beI 1 (nAt (ops s.ops) (((j : Nat) : Int).toNat * 12))).length)), (zz32 j), false⟩) ∧ True ∧ True ∧ (AnsG Try.prog 32 0 [AV.one (Cl.ref 0 (((ints (u8s (encC s j))) ++ beI 1 (nAt (ops s.ops) (((j : Nat) : Int).toNat * 12))).length)), AV.one (Cl.d (DV.int .i64 (nAt (ops s.ops) (((j : Nat) : Int).toNat * 12 + 1)))), AV.one zz2] (zz32 j) ⟨AV.one (Cl.ref 0 (((ints (u8s ((ints (u8s (encC s j))) ++ beI 1 (nAt (ops s.ops) (((j : Nat) : Int).toNat * 12))))) ++ beI 1 (nAt (ops s.ops) (((j : Nat) : Int).toNat * 12 + 1))).length)), (zz33 j), false⟩) ∧ True ∧ True ∧ (AnsG Try.prog 32 0 [AV.one (Cl.ref 0 (((ints (u8s ((ints (u8s (encC s j))) ++ beI 1 (nAt (ops s.ops) (((j : Nat) : Int).toNat * 12))))) ++ beI 1 (nAt (ops s.ops) (((j : Nat) : Int).toNat * 12 + 1))).length)), AV.one (Cl.d (DV.int .i64 (nAt (ops s.ops) (((j : Nat) : Int).toNat * 12 + 1 + 1)))), AV.one zz5] (zz33 j) ⟨AV.one (Cl.ref 0 (((ints (u8s ((ints (u8s ((ints (u8s (encC s j))) ++ beI 1 (nAt (ops s.ops) (((j : Nat) : Int).toNat * 12))))) ++ beI 1 (nAt (ops s.ops) (((j : Nat) : Int).toNat * 12 + 1))))) ++ beI 4 (nAt (ops s.ops) (((j : Nat) : Int).toNat * 12 + 1 + 1))).length)), (zz34 j), false⟩) ∧ True ∧ True ∧ (AnsG Try.prog 32 0 [AV.one (Cl.ref 0 (((ints (u8s ((ints (u8s ((ints (u8s (encC s j))) ++ beI 1 (nAt (ops s.ops) (((j : Nat) : Int).toNat * 12))))) ++ beI 1 (nAt (ops s.ops) (((j : Nat) : Int).toNat * 12 + 1))))) ++ beI 4 (nAt (ops s.ops) (((j : Nat) : Int).toNat * 12 + 1 + 1))).length)), AV.one (Cl.d (DV.int .i64 (nAt (ops s.ops) (((j : Nat) : Int).toNat * 12 + 1 + 1 + 1)))), AV.one zz5] (zz34 j) ⟨AV.one (Cl.ref 0 (((ints (u8s ((ints (u8s ((ints (u8s ((ints (u8s (encC s j))) ++ beI 1 (nAt (ops s.ops) (((j : Nat) : Int).toNat * 12))))) ++ beI 1 (nAt (ops s.ops) (((j : Nat) : Int).toNat * 12 + 1))))) ++ beI 4 (nAt (ops s.ops) (((j : Nat) : Int).toNat * 12 + 1 + 1))))) ++ beI 4 (nAt (ops s.ops) (((j : Nat) : Int).toNat * 12 + 1 + 1 + 1))).length)), (zz35 j), false⟩) ∧ True ∧ (true = true) ∧ True ∧ True ∧ True ∧ (AnsG Try.prog 32 0 [AV.one (Cl.ref 0 (((ints (u8s ((ints (u8s ((ints (u8s ((ints (u8s (encC s j))) ++ beI 1 (nAt (ops s.ops) (((j : Nat) : Int).toNat * 12))))) ++ beI 1 (nAt (ops s.ops) (((j : Nat) : Int).toNat * 12 + 1))))) ++ beI 4 (nAt (ops s.ops) (((j : Nat) : Int).toNat * 12 + 1 + 1))))) ++ beI 4 (nAt (ops s.ops) (((j : Nat) : Int).toNat * 12 + 1 + 1 + 1))).length)), AV.one (Cl.d (DV.int .i64 (nAt (ops s.ops) (((j : Nat) : Int).toNat * 12 + 1 + 1 + 1 + 1)))), AV.one zz2] (zz35 j) ⟨AV.one (Cl.ref 0 (((ints (u8s ((ints (u8s ((ints (u8s ((ints (u8s ((ints (u8s (encC s j))) ++ beI 1 (nAt (ops s.ops) (((j : Nat) : Int).toNat * 12))))) ++ beI 1 (nAt (ops s.ops) (((j : Nat) : Int).toNat * 12 + 1))))) ++ beI 4 (nAt (ops s.ops) (((j : Nat) : Int).toNat * 12 + 1 + 1))))) ++ beI 4 (nAt (ops s.ops) (((j : Nat) : Int).toNat * 12 + 1 + 1 + 1))))) ++ beI 1 (nAt (ops s.ops) (((j : Nat) : Int).toNat * 12 + 1 + 1 + 1 + 1))).length)), (zz36 j), false⟩) ∧ True ∧ True ∧ (AnsG Try.prog 32 0 [AV.one (Cl.ref 0 (((ints (u8s ((ints (u8s ((ints (u8s ((ints (u8s ((ints (u8s (encC s j))) ++ beI 1 (nAt (ops s.ops) (((j : Nat) : Int).toNat * 12))))) ++ beI 1 (nAt (ops s.ops) (((j : Nat) : Int).toNat * 12 + 1))))) ++ beI 4 (nAt (ops s.ops) (((j : Nat) : Int).toNat * 12 + 1 + 1))))) ++ beI 4 (nAt (ops s.ops) (((j : Nat) : Int).toNat * 12 + 1 + 1 + 1))))) ++ beI 1 (nAt (ops s.ops) (((j : Nat) : Int).toNat * 12 + 1 + 1 + 1 + 1))).length)), AV.one (Cl.d (DV.int .i64 (nAt (ops s.ops) (((j : Nat) : Int).toNat * 12 + 1 + 1 + 1 + 1 + 1)))), AV.one zz5] (zz36 j) ⟨AV.one (Cl.ref 0 (((ints (u8s ((ints (u8s ((ints (u8s ((ints (u8s ((ints (u8s ((ints (u8s (encC s j))) ++ beI 1 (nAt (ops s.ops) (((j : Nat) : Int).toNat * 12))))) ++ beI 1 (nAt (ops s.ops) (((j : Nat) : Int).toNat * 12 + 1))))) ++ beI 4 (nAt (ops s.ops) (((j : Nat) : Int).toNat * 12 + 1 + 1))))) ++ beI 4 (nAt (ops s.ops) (((j : Nat) : Int).toNat * 12 + 1 + 1 + 1))))) ++ beI 1 (nAt (ops s.ops) (((j : Nat) : Int).toNat * 12 + 1 + 1 + 1 + 1))))) ++ beI 4 (nAt (ops s.ops) (((j : Nat) : Int).toNat * 12 + 1 + 1 + 1 + 1 + 1))).length)), (zz37 j), false⟩) ∧ True ∧ True ∧ (AnsG Try.prog 32 0 [AV.one (Cl.ref 0 (((ints (u8s ((ints (u8s ((ints (u8s ((ints (u8s ((ints (u8s ((ints (u8s (encC s j))) ++ beI 1 (nAt (ops s.ops) (((j : Nat) : Int).toNat * 12))))) ++ beI 1 (nAt (ops s.ops) (((j : Nat) : Int).toNat * 12 + 1))))) ++ beI 4 (nAt (ops s.ops) (((j : Nat) : Int).toNat * 12 + 1 + 1))))) ++ beI 4 (nAt (ops s.ops) (((j : Nat) : Int).toNat * 12 + 1 + 1 + 1))))) ++ beI 1 (nAt (ops s.ops) (((j : Nat) : Int).toNat * 12 + 1 + 1 + 1 + 1))))) ++ beI 4 (nAt (ops s.ops) (((j : Nat) : Int).toNat * 12 + 1 + 1 + 1 + 1 + 1))).length)), AV.one (Cl.d (DV.int .i64 (nAt (ops s.ops) (((j : Nat) : Int).toNat * 12 + 1 + 1 + 1 + 1 + 1 + 1)))), AV.one zz5] (zz37 j) ⟨AV.one (Cl.ref 0 (((ints (u8s ((ints (u8s ((ints (u8s ((ints (u8s ((ints (u8s ((ints (u8s ((ints (u8s (encC s j))) ++ beI 1 (nAt (ops s.ops) (((j : Nat) : Int).toNat * 12))))) ++ beI 1 (nAt (ops s.ops) (((j : Nat) : Int).toNat * 12 + 1))))) ++ beI 4 (nAt (ops s.ops) (((j : Nat) : Int).toNat * 12 + 1 + 1))))) ++ beI 4 (nAt (ops s.ops) (((j : Nat) : Int).toNat * 12 + 1 + 1 + 1))))) ++ beI 1 (nAt (ops s.ops) (((j : Nat) : Int).toNat * 12 + 1 + 1 + 1 + 1))))) ++ beI 4 (nAt (ops s.ops) (((j : Nat) : Int).toNat * 12 + 1 + 1 + 1 + 1 + 1))))) ++ beI 4 (nAt (ops s.ops) (((j : Nat) : Int).toNat * 12 + 1 + 1 + 1 + 1 + 1 + 1))).length)), (zz38 j), false⟩) ∧ True ∧ (true = true) ∧ True ∧ True ∧ True ∧ True ∧ (AnsG Try.prog 32 0 [AV.one (Cl.ref 0 (((ints (u8s ((ints (u8s ((ints (u8s ((ints (u8s ((ints (u8s ((ints (u8s ((ints (u8s (encC s j))) ++ beI 1 (nAt (ops s.ops) (((j : Nat) : Int).toNat * 12))))) ++ beI 1 (nAt (ops s.ops) (((j : Nat) : Int).toNat * 12 + 1))))) ++ beI 4 (nAt (ops s.ops) (((j : Nat) : Int).toNat * 12 + 1 + 1))))) ++ beI 4 (nAt (ops s.ops) (((j : Nat) : Int).toNat * 12 + 1 + 1 + 1))))) ++ beI 1 (nAt (ops s.ops) (((j : Nat) : Int).toNat * 12 + 1 + 1 + 1 + 1))))) ++ beI 4 (nAt (ops s.ops) (((j : Nat) : Int).toNat * 12 + 1 + 1 + 1 + 1 + 1))))) ++ beI 4 (nAt (ops s.ops) (((j : Nat) : Int).toNat * 12 + 1 + 1 + 1 + 1 + 1 + 1))).length)), AV.one (Cl.d (DV.int .i64 (IntKind.wrap .i64 (nAt (ops s.ops) (((j : Nat) : Int).toNat * 12 + 1 + 1 + 1 + 1 + 1 + 1 + 1))))), AV.one zz31] (zz38 j) ⟨AV.one (Cl.ref 0 (((ints (u8s ((ints (u8s ((ints (u8s ((ints (u8s ((ints (u8s ((ints (u8s ((ints (u8s ((ints (u8s (encC s j))) ++ beI 1 (nAt (ops s.ops) (((j : Nat) : Int).toNat * 12))))) ++ beI 1 (nAt (ops s.ops) (((j : Nat) : Int).toNat * 12 + 1))))) ++ beI 4 (nAt (ops s.ops) (((j : Nat) : Int).toNat * 12 + 1 + 1))))) ++ beI 4 (nAt (ops s.ops) (((j : Nat) : Int).toNat * 12 + 1 + 1 + 1))))) ++ beI 1 (nAt (ops s.ops) (((j : Nat) : Int).toNat * 12 + 1 + 1 + 1 + 1))))) ++ beI 4 (nAt (ops s.ops) (((j : Nat) : Int).toNat * 12 + 1 + 1 + 1 + 1 + 1))))) ++ beI 4 (nAt (ops s.ops) (((j : Nat) : Int).toNat * 12 + 1 + 1 + 1 + 1 + 1 + 1))))) ++ beI 2 (IntKind.wrap .i64 (nAt (ops s.ops) (((j : Nat) : Int).toNat * 12 + 1 + 1 + 1 + 1 + 1 + 1 + 1)))).length)), (zz39 j), false⟩) ∧ True ∧ True ∧ (AnsG Try.prog 32 0 [AV.one (Cl.ref 0 (((ints (u8s ((ints (u8s ((ints (u8s ((ints (u8s ((ints (u8s ((ints (u8s ((ints (u8s ((ints (u8s (encC s j))) ++ beI 1 (nAt (ops s.ops) (((j : Nat) : Int).toNat * 12))))) ++ beI 1 (nAt (ops s.ops) (((j : Nat) : Int).toNat * 12 + 1))))) ++ beI 4 (nAt (ops s.ops) (((j : Nat) : Int).toNat * 12 + 1 + 1))))) ++ beI 4 (nAt (ops s.ops) (((j : Nat) : Int).toNat * 12 + 1 + 1 + 1))))) ++ beI 1 (nAt (ops s.ops) (((j : Nat) : Int).toNat * 12 + 1 + 1 + 1 + 1))))) ++ beI 4 (nAt (ops s.ops) (((j : Nat) : Int).toNat * 12 + 1 + 1 + 1 + 1 + 1))))) ++ beI 4 (nAt (ops s.ops) (((j : Nat) : Int).toNat * 12 + 1 + 1 + 1 + 1 + 1 + 1))))) ++ beI 2 (IntKind.wrap .i64 (nAt (ops s.ops) (((j : Nat) : Int).toNat * 12 + 1 + 1 + 1 + 1 + 1 + 1 + 1)))).length)), AV.one (Cl.d (DV.int .i64 (nAt (ops s.ops) (((j : Nat) : Int).toNat * 12 + 1 + 1 + 1 + 1 + 1 + 1 + 1 + 1)))), AV.one zz2] (zz39 j) ⟨AV.one (Cl.ref 0 (((ints (u8s ((ints (u8s ((ints (u8s ((ints (u8s ((ints (u8s ((ints (u8s ((ints (u8s ((ints (u8s ((ints (u8s (encC s j))) ++ beI 1 (nAt (ops s.ops) (((j : Nat) : Int).toNat * 12))))) ++ beI 1 (nAt (ops s.ops) (((j : Nat) : Int).toNat * 12 + 1))))) ++ beI 4 (nAt (ops s.ops) (((j : Nat) : Int).toNat * 12 + 1 + 1))))) ++ beI 4 (nAt (ops s.ops) (((j : Nat) : Int).toNat * 12 + 1 + 1 + 1))))) ++ beI 1 (nAt (ops s.ops) (((j : Nat) : Int).toNat * 12 + 1 + 1 + 1 + 1))))) ++ beI 4 (nAt (ops s.ops) (((j : Nat) : Int).toNat * 12 + 1 + 1 + 1 + 1 + 1))))) ++ beI 4 (nAt (ops s.ops) (((j : Nat) : Int).toNat * 12 + 1 + 1 + 1 + 1 + 1 + 1))))) ++ beI 2 (IntKind.wrap .i64 (nAt (ops s.ops) (((j : Nat) : Int).toNat * 12 + 1 + 1 + 1 + 1 + 1 + 1 + 1)))))) ++ beI 1 (nAt (ops s.ops) (((j : Nat) : Int).toNat * 12 + 1 + 1 + 1 + 1 + 1 + 1 + 1 + 1))).length)), (zz40 j), false⟩) ∧ True ∧ True ∧ (AnsG Try.prog 32 0 [AV.one (Cl.ref 0 (((ints (u8s ((ints (u8s ((ints (u8s ((ints (u8s ((ints (u8s ((ints (u8s ((ints (u8s ((ints (u8s ((ints (u8s (encC s j))) ++ beI 1 (nAt (ops s.ops) (((j : Nat) : Int).toNat * 12))))) ++ beI 1 (nAt (ops s.ops) (((j : Nat) : Int).toNat * 12 + 1))))) ++ beI 4 (nAt (ops s.ops) (((j : Nat) : Int).toNat * 12 + 1 + 1))))) ++ beI 4 (nAt (ops s.ops) (((j : Nat) : Int).toNat * 12 + 1 + 1 + 1))))) ++ beI 1 (nAt (ops s.ops) (((j : Nat) : Int).toNat * 12 + 1 + 1 + 1 + 1))))) ++ beI 4 (nAt (ops s.ops) (((j : Nat) : Int).toNat * 12 + 1 + 1 + 1 + 1 + 1))))) ++ beI 4 (nAt (ops s.ops) (((j : Nat) : Int).toNat * 12 + 1 + 1 + 1 + 1 + 1 + 1))))) ++ beI 2 (IntKind.wrap .i64 (nAt (ops s.ops) (((j : Nat) : Int).toNat * 12 + 1 + 1 + 1 + 1 + 1 + 1 + 1)))))) ++ beI 1 (nAt (ops s.ops) (((j : Nat) : Int).toNat * 12 + 1 + 1 + 1 + 1 + 1 + 1 + 1 + 1))).length)), AV.one (Cl.d (DV.int .i64 (nAt (ops s.ops) (((j : Nat) : Int).toNat * 12 + 1 + 1 + 1 + 1 + 1 + 1 + 1 + 1 + 1)))), AV.one zz2] (zz40 j) ⟨AV.one (Cl.ref 0 (((ints (u8s ((ints (u8s ((ints (u8s ((ints (u8s ((ints (u8s ((ints (u8s ((ints (u8s ((ints (u8s ((ints (u8s ((ints (u8s (encC s j))) ++ beI 1 (nAt (ops s.ops) (((j : Nat) : Int).toNat * 12))))) ++ beI 1 (nAt (ops s.ops) (((j : Nat) : Int).toNat * 12 + 1))))) ++ beI 4 (nAt (ops s.ops) (((j : Nat) : Int).toNat * 12 + 1 + 1))))) ++ beI 4 (nAt (ops s.ops) (((j : Nat) : Int).toNat * 12 + 1 + 1 + 1))))) ++ beI 1 (nAt (ops s.ops) (((j : Nat) : Int).toNat * 12 + 1 + 1 + 1 + 1))))) ++ beI 4 (nAt (ops s.ops) (((j : Nat) : Int).toNat * 12 + 1 + 1 + 1 + 1 + 1))))) ++ beI 4 (nAt (ops s.ops) (((j : Nat) : Int).toNat * 12 + 1 + 1 + 1 + 1 + 1 + 1))))) ++ beI 2 (IntKind.wrap .i64 (nAt (ops s.ops) (((j : Nat) : Int).toNat * 12 + 1 + 1 + 1 + 1 + 1 + 1 + 1)))))) ++ beI 1 (nAt (ops s.ops) (((j : Nat) : Int).toNat * 12 + 1 + 1 + 1 + 1 + 1 + 1 + 1 + 1))))) ++ beI 1 (nAt (ops s.ops) (((j : Nat) : Int).toNat * 12 + 1 + 1 + 1 + 1 + 1 + 1 + 1 + 1 + 1))).length)), (zz41 j), false⟩) ∧ True ∧ True ∧ (Ans Try.prog 33 [RV.d (DV.bool (bAt (ops s.ops) (((j : Nat) : Int).toNat * 12 + 1 + 1 + 1 + 1 + 1 + 1 + 1 + 1 + 1 + 1)))] (RV.d (DV.int .i64 (if (bAt (ops s.ops) (((j : Nat) : Int).toNat * 12 + 1 + 1 + 1 + 1 + 1 + 1 + 1 + 1 + 1 + 1)) then 1 else 0)))) ∧ True ∧ True ∧ (Ans Try.prog 33 [RV.d (DV.bool (bAt (ops s.ops) (((j : Nat) : Int).toNat * 12 + 1 + 1 + 1 + 1 + 1 + 1 + 1 + 1 + 1 + 1 + 1)))] (RV.d (DV.int .i64 (if (bAt (ops s.ops) (((j : Nat) : Int).toNat * 12 + 1 + 1 + 1 + 1 + 1 + 1 + 1 + 1 + 1 + 1 + 1)) then 1 else 0)))) ∧ True ∧ True ∧ (AnsG Try.prog 32 0 [AV.one (Cl.ref 0 (((ints (u8s ((ints (u8s ((ints (u8s ((ints (u8s ((ints (u8s ((ints (u8s ((ints (u8s ((ints (u8s ((ints (u8s ((ints (u8s (encC s j))) ++ beI 1 (nAt (ops s.ops) (((j : Nat) : Int).toNat * 12))))) ++ beI 1 (nAt (ops s.ops) (((j : Nat) : Int).toNat * 12 + 1))))) ++ beI 4 (nAt (ops s.ops) (((j : Nat) : Int).toNat * 12 + 1 + 1))))) ++ beI 4 (nAt (ops s.ops) (((j : Nat) : Int).toNat * 12 + 1 + 1 + 1))))) ++ beI 1 (nAt (ops s.ops) (((j : Nat) : Int).toNat * 12 + 1 + 1 + 1 + 1))))) ++ beI 4 (nAt (ops s.ops) (((j : Nat) : Int).toNat * 12 + 1 + 1 + 1 + 1 + 1))))) ++ beI 4 (nAt (ops s.ops) (((j : Nat) : Int).toNat * 12 + 1 + 1 + 1 + 1 + 1 + 1))))) ++ beI 2 (IntKind.wrap .i64 (nAt (ops s.ops) (((j : Nat) : Int).toNat * 12 + 1 + 1 + 1 + 1 + 1 + 1 + 1)))))) ++ beI 1 (nAt (ops s.ops) (((j : Nat) : Int).toNat * 12 + 1 + 1 + 1 + 1 + 1 + 1 + 1 + 1))))) ++ beI 1 (nAt (ops s.ops) (((j : Nat) : Int).toNat * 12 + 1 + 1 + 1 + 1 + 1 + 1 + 1 + 1 + 1))).length)), AV.one (Cl.d (DV.int .i64 (IntKind.wrap .i64 ((if (bAt (ops s.ops) (((j : Nat) : Int).toNat * 12 + 1 + 1 + 1 + 1 + 1 + 1 + 1 + 1 + 1 + 1)) then 1 else 0) + (IntKind.wrap .i64 ((2 : Int) * (if (bAt (ops s.ops) (((j : Nat) : Int).toNat * 12 + 1 + 1 + 1 + 1 + 1 + 1 + 1 + 1 + 1 + 1 + 1)) then 1 else 0))))))), AV.one zz2] (zz41 j) ⟨AV.one (Cl.ref 0 (((ints (u8s ((ints (u8s ((ints (u8s ((ints (u8s ((ints (u8s ((ints (u8s ((ints (u8s ((ints (u8s ((ints (u8s ((ints (u8s ((ints (u8s (encC s j))) ++ beI 1 (nAt (ops s.ops) (((j : Nat) : Int).toNat * 12))))) ++ beI 1 (nAt (ops s.ops) (((j : Nat) : Int).toNat * 12 + 1))))) ++ beI 4 (nAt (ops s.ops) (((j : Nat) : Int).toNat * 12 + 1 + 1))))) ++ beI 4 (nAt (ops s.ops) (((j : Nat) : Int).toNat * 12 + 1 + 1 + 1))))) ++ beI 1 (nAt (ops s.ops) (((j : Nat) : Int).toNat * 12 + 1 + 1 + 1 + 1))))) ++ beI 4 (nAt (ops s.ops) (((j : Nat) : Int).toNat * 12 + 1 + 1 + 1 + 1 + 1))))) ++ beI 4 (nAt (ops s.ops) (((j : Nat) : Int).toNat * 12 + 1 + 1 + 1 + 1 + 1 + 1))))) ++ beI 2 (IntKind.wrap .i64 (nAt (ops s.ops) (((j : Nat) : Int).toNat * 12 + 1 + 1 + 1 + 1 + 1 + 1 + 1)))))) ++ beI 1 (nAt (ops s.ops) (((j : Nat) : Int).toNat * 12 + 1 + 1 + 1 + 1 + 1 + 1 + 1 + 1))))) ++ beI 1 (nAt (ops s.ops) (((j : Nat) : Int).toNat * 12 + 1 + 1 + 1 + 1 + 1 + 1 + 1 + 1 + 1))))) ++ beI 1 (IntKind.wrap .i64 ((if (bAt (ops s.ops) (((j : Nat) : Int).toNat * 12 + 1 + 1 + 1 + 1 + 1 + 1 + 1 + 1 + 1 + 1)) then 1 else 0) + (IntKind.wrap .i64 ((2 : Int) * (if (bAt (ops s.ops) (((j : Nat) : Int).toNat * 12 + 1 + 1 + 1 + 1 + 1 + 1 + 1 + 1 + 1 + 1 + 1)) then 1 else 0)))))).length)), [Bx.row 5 1 (u8s ((ints (u8s ((ints (u8s ((ints (u8s ((ints (u8s ((ints (u8s ((ints (u8s ((ints (u8s ((ints (u8s ((ints (u8s ((ints (u8s ((ints (u8s (encC s j))) ++ beI 1 (nAt (ops s.ops) (((j : Nat) : Int).toNat * 12))))) ++ beI 1 (nAt (ops s.ops) (((j : Nat) : Int).toNat * 12 + 1))))) ++ beI 4 (nAt (ops s.ops) (((j : Nat) : Int).toNat * 12 + 1 + 1))))) ++ beI 4 (nAt (ops s.ops) (((j : Nat) : Int).toNat * 12 + 1 + 1 + 1))))) ++ beI 1 (nAt (ops s.ops) (((j : Nat) : Int).toNat * 12 + 1 + 1 + 1 + 1))))) ++ beI 4 (nAt (ops s.ops) (((j : Nat) : Int).toNat * 12 + 1 + 1 + 1 + 1 + 1))))) ++ beI 4 (nAt (ops s.ops) (((j : Nat) : Int).toNat * 12 + 1 + 1 + 1 + 1 + 1 + 1))))) ++ beI 2 (IntKind.wrap .i64 (nAt (ops s.ops) (((j : Nat) : Int).toNat * 12 + 1 + 1 + 1 + 1 + 1 + 1 + 1)))))) ++ beI 1 (nAt (ops s.ops) (((j : Nat) : Int).toNat * 12 + 1 + 1 + 1 + 1 + 1 + 1 + 1 + 1))))) ++ beI 1 (nAt (ops s.ops) (((j : Nat) : Int).toNat * 12 + 1 + 1 + 1 + 1 + 1 + 1 + 1 + 1 + 1))))) ++ beI 1 (IntKind.wrap .i64 ((if (bAt (ops s.ops) (((j : Nat) : Int).toNat * 12 + 1 + 1 + 1 + 1 + 1 + 1 + 1 + 1 + 1 + 1)) then 1 else 0) + (IntKind.wrap .i64 ((2 : Int) * (if (bAt (ops s.ops) (((j : Nat) : Int).toNat * 12 + 1 + 1 + 1 + 1 + 1 + 1 + 1 + 1 + 1 + 1 + 1)) then 1 else 0)))))))], false⟩) ∧ True ∧ (true = true) ∧ True ∧ True ∧ True ∧ ∃ j' : Nat, (j' ≤ s.ops.length) ∧ (s.ops.length - j' < s.ops.length - j) ∧ (((0 = 0) ∧ (((ints (u8s ((ints (u8s ((ints (u8s ((ints (u8s ((ints (u8s ((ints (u8s ((ints (u8s ((ints (u8s ((ints (u8s ((ints (u8s ((ints (u8s (encC s j))) ++ beI 1 (nAt (ops s.ops) (((j : Nat) : Int).toNat * 12))))) ++ beI 1 (nAt (ops s.ops) (((j : Nat) : Int).toNat * 12 + 1))))) ++ beI 4 (nAt (ops s.ops) (((j : Nat) : Int).toNat * 12 + 1 + 1))))) ++ beI 4 (nAt (ops s.ops) (((j : Nat) : Int).toNat * 12 + 1 + 1 + 1))))) ++ beI 1 (nAt (ops s.ops) (((j : Nat) : Int).toNat * 12 + 1 + 1 + 1 + 1))))) ++ beI 4 (nAt (ops s.ops) (((j : Nat) : Int).toNat * 12 + 1 + 1 + 1 + 1 + 1))))) ++ beI 4 (nAt (ops s.ops) (((j : Nat) : Int).toNat * 12 + 1 + 1 + 1 + 1 + 1 + 1))))) ++ beI 2 (IntKind.wrap .i64 (nAt (ops s.ops) (((j : Nat) : Int).toNat * 12 + 1 + 1 + 1 + 1 + 1 + 1 + 1)))))) ++ beI 1 (nAt (ops s.ops) (((j : Nat) : Int).toNat * 12 + 1 + 1 + 1 + 1 + 1 + 1 + 1 + 1))))) ++ beI 1 (nAt (ops s.ops) (((j : Nat) : Int).toNat * 12 + 1 + 1 + 1 + 1 + 1 + 1 + 1 + 1 + 1))))) ++ beI 1 (IntKind.wrap .i64 ((if (bAt (ops s.ops) (((j : Nat) : Int).toNat * 12 + 1 + 1 + 1 + 1 + 1 + 1 + 1 + 1 + 1 + 1)) then 1 else 0) + (IntKind.wrap .i64 ((2 : Int) * (if (bAt (ops s.ops) (((j : Nat) : Int).toNat * 12 + 1 + 1 + 1 + 1 + 1 + 1 + 1 + 1 + 1 + 1 + 1)) then 1 else 0)))))).length = (encC s j').length) ∧ (DV.int .i64 (IntKind.wrap .i64 (((j : Nat) : Int) + (1 : Int))) = DV.int .i64 ((j' : Nat) : Int)) ∧ True) ∧ (zz18 ∧ (u8s ((ints (u8s ((ints (u8s ((ints (u8s ((ints (u8s ((ints (u8s ((ints (u8s ((ints (u8s ((ints (u8s ((ints (u8s ((ints (u8s ((ints (u8s (encC s j))) ++ beI 1 (nAt (ops s.ops) (((j : Nat) : Int).toNat * 12))))) ++ beI 1 (nAt (ops s.ops) (((j : Nat) : Int).toNat * 12 + 1))))) ++ beI 4 (nAt (ops s.ops) (((j : Nat) : Int).toNat * 12 + 1 + 1))))) ++ beI 4 (nAt (ops s.ops) (((j : Nat) : Int).toNat * 12 + 1 + 1 + 1))))) ++ beI 1 (nAt (ops s.ops) (((j : Nat) : Int).toNat * 12 + 1 + 1 + 1 + 1))))) ++ beI 4 (nAt (ops s.ops) (((j : Nat) : Int).toNat * 12 + 1 + 1 + 1 + 1 + 1))))) ++ beI 4 (nAt (ops s.ops) (((j : Nat) : Int).toNat * 12 + 1 + 1 + 1 + 1 + 1 + 1))))) ++ beI 2 (IntKind.wrap .i64 (nAt (ops s.ops) (((j : Nat) : Int).toNat * 12 + 1 + 1 + 1 + 1 + 1 + 1 + 1)))))) ++ beI 1 (nAt (ops s.ops) (((j : Nat) : Int).toNat * 12 + 1 + 1 + 1 + 1 + 1 + 1 + 1 + 1))))) ++ beI 1 (nAt (ops s.ops) (((j : Nat) : Int).toNat * 12 + 1 + 1 + 1 + 1 + 1 + 1 + 1 + 1 + 1))))) ++ beI 1 (IntKind.wrap .i64 ((if (bAt (ops s.ops) (((j : Nat) : Int).toNat * 12 + 1 + 1 + 1 + 1 + 1 + 1 + 1 + 1 + 1 + 1)) then 1 else 0) + (IntKind.wrap .i64 ((2 : Int) * (if (bAt (ops s.ops) (((j : Nat) : Int).toNat * 12 + 1 + 1 + 1 + 1 + 1 + 1 + 1 + 1 + 1 + 1 + 1)) then 1 else 0)))))) = u8s (encC s j')) ∧ True))) ∧ ((decide (((j : Nat) : Int) < ((s.ops.length : Nat) : Int))) = false → True ∧ True ∧ True ∧ RV.tup [RV.d (DV.sl ((encC s j).length) (u8s (encC s j))), RV.d (DV.int .i64 0)] = RV.tup zz1)))))))))))) := by kernel_rfl
theorem R18_Encode_ans (s : Scr) (hM : ∀ m ∈ s.ims, m.isU) (hos : s.ord.length ≤ 17592186044416) : Ans Try.prog 12 [RV.agg [DV.int .i64 s.bits, DV.int .i64 s.c.a, DV.int .i64 s.c.b, DV.int .i64 s.c.c, DV.int .i64 s.c.d, DV.int .i64 s.tw, DV.int .i64 s.th, DV.sl s.ord.length (is s.ord), DV.sl s.ims.length (ims s.ims), DV.sl s.ops.length (ops s.ops)]] (RV.tup [RV.d (DV.sl ((encS s).1.length) (u8s (encS s).1)), RV.d (DV.int .i64 ((encS s).2))]) :=
  ans_of_vcg (Γ := gamEf) (R18_Encode_ann s) mixed_ Try.func12 rfl (Nat.le_of_ble_eq_true rfl) fun hwf => by
    refine Eq.mpr (R18_Encode_vc s) ?_
    simp only [true_and, and_true, RV.d.injEq, RV.agg.injEq, RV.tup.injEq, DV.bool.injEq, DV.int.injEq, DV.sl.injEq, List.cons.injEq, forall_const, Bool.not_false, Bool.not_true, Bool.not_eq_true', Bool.not_eq_false', decide_eq_true_eq, decide_eq_false_iff_not, Int.toNat_natCast, imQ, imQr, imC, oqQ, oqQr, oqC, oqD, pxQ, pxQr, pxC, pxD]
    have eo := R18_Encodable_ans s
    have hS : encOk s = false → encS s = ([], 19) := fun h => by unfold encS; rw [h]; rfl
    have hT : encOk s = true → encS s = (encB s, 0) := fun h => by unfold encS; rw [if_pos h]
    have hwO : DV.wfs (ops s.ops) := by
      simp only [RV.wfs, RV.wf, DV.wf, DV.wfs] at hwf
      exact hwf.1.2.2.2.2.2.2.2.2.2.1.2
    clear hwf
    simp only [toIms_ims, toOps_ops, ints_u8s, ints_is, ints_cons, ints_nil]
    refine ⟨eo, fun h => ?_, fun h => ?_⟩
    · rw [hS h]; exact ⟨⟨rfl, rfl⟩, rfl⟩
    · have hT := hT h
      have E : Enc s := enc_of h
      have hsz := E.sz
      have hzl := sizeIms_le E.fm
      have hol := E.ol
      have hil := E.il
      have hA := fun k => encA_len E k
      have hC := fun j => encC_len E j
      unfold sizeS at hsz
      have hO : ∀ i, (encO s i).length ≤ 300000000 := fun i => by
        unfold encO hdr7
        simp only [List.length_append, putL_len, List.length_cons, List.length_nil, List.length_take]
        omega
      have eH : [76, 67] ++ beI 1 (s.bits) ++ beI 4 (s.c.a) ++ beI 4 (s.c.b) ++ beI 4 (s.c.c) ++ beI 4 (s.c.d) ++ beI 4 (s.tw) ++ beI 4 (s.th) ++ beI 4 ((s.ord.length : Int)) = encO s 0 := by
        unfold encO hdr7
        simp only [putL, List.take_zero, List.flatMap_cons, List.flatMap_nil, List.append_nil, List.append_assoc]
      refine ⟨by omega, R18_big_ans ([76, 67]) (s.bits) 1 ⟨by omega, by omega⟩ (by first | omega | (simp only [List.length_append, beI_len, List.length_cons, List.length_nil]; omega)), R18_big_ans ([76, 67] ++ beI 1 (s.bits)) (s.c.a) 4 ⟨by omega, by omega⟩ (by first | omega | (simp only [List.length_append, beI_len, List.length_cons, List.length_nil]; omega)), R18_big_ans ([76, 67] ++ beI 1 (s.bits) ++ beI 4 (s.c.a)) (s.c.b) 4 ⟨by omega, by omega⟩ (by first | omega | (simp only [List.length_append, beI_len, List.length_cons, List.length_nil]; omega)), R18_big_ans ([76, 67] ++ beI 1 (s.bits) ++ beI 4 (s.c.a) ++ beI 4 (s.c.b)) (s.c.c) 4 ⟨by omega, by omega⟩ (by first | omega | (simp only [List.length_append, beI_len, List.length_cons, List.length_nil]; omega)), R18_big_ans ([76, 67] ++ beI 1 (s.bits) ++ beI 4 (s.c.a) ++ beI 4 (s.c.b) ++ beI 4 (s.c.c)) (s.c.d) 4 ⟨by omega, by omega⟩ (by first | omega | (simp only [List.length_append, beI_len, List.length_cons, List.length_nil]; omega)), R18_big_ans ([76, 67] ++ beI 1 (s.bits) ++ beI 4 (s.c.a) ++ beI 4 (s.c.b) ++ beI 4 (s.c.c) ++ beI 4 (s.c.d)) (s.tw) 4 ⟨by omega, by omega⟩ (by first | omega | (simp only [List.length_append, beI_len, List.length_cons, List.length_nil]; omega)), R18_big_ans ([76, 67] ++ beI 1 (s.bits) ++ beI 4 (s.c.a) ++ beI 4 (s.c.b) ++ beI 4 (s.c.c) ++ beI 4 (s.c.d) ++ beI 4 (s.tw)) (s.th) 4 ⟨by omega, by omega⟩ (by first | omega | (simp only [List.length_append, beI_len, List.length_cons, List.length_nil]; omega)), R18_big_ans ([76, 67] ++ beI 1 (s.bits) ++ beI 4 (s.c.a) ++ beI 4 (s.c.b) ++ beI 4 (s.c.c) ++ beI 4 (s.c.d) ++ beI 4 (s.tw) ++ beI 4 (s.th)) ((s.ord.length : Int)) 4 ⟨by omega, by omega⟩ (by first | omega | (simp only [List.length_append, beI_len, List.length_cons, List.length_nil]; omega)), ⟨0, Nat.zero_le _, ⟨by rw [eH], rfl⟩, by rw [eH]⟩, fun i hi => ⟨fun hlt => ?_, fun hge => ?_⟩⟩
      · have hi : i < s.ord.length := by omega
        obtain ⟨q1, q2⟩ := is_rd hi
        have w1 : IntKind.wrap .i64 ((i : Int) + 1) = ((i + 1 : Nat) : Int) := by rw [IntWalk.i64_in _ ⟨by omega, by omega⟩]; omega
        have pb := R18_big_ans (encO s i) s.ord[i] 4 ⟨by omega, by omega⟩ (by have := hO i; omega)
        have eS := encO_succ hi
        simp only [Nat.mul_one, q2, w1]
        refine ⟨⟨by omega, by omega, by rw [is_length]; omega⟩, q1, pb, i + 1, by omega, by omega, ⟨?_, rfl⟩, ?_⟩
        · rw [eS]
        · rw [eS]
      · have : i = s.ord.length := by omega
        subst this
        have pb := R18_big_ans (encO s s.ord.length) (s.ims.length : Int) 1 ⟨by omega, by omega⟩ (by have := hO s.ord.length; omega)
        have eA := encO_all s
        refine ⟨pb, ⟨0, Nat.zero_le _, ⟨by rw [eA], rfl⟩, by rw [eA]⟩, fun k hk => ⟨fun hlt => ?_, fun hge => ?_⟩⟩
        · have hk : k < s.ims.length := by omega
          have q1 := ims_rd hk
          have q2 := ims_at hk
          have w1 : IntKind.wrap .i64 ((k : Int) + 1) = ((k + 1 : Nat) : Int) := by rw [IntWalk.i64_in _ ⟨by omega, by omega⟩]; omega
          have hfm : s.ims[k].formed = true := by have := E.fm; rw [List.all_eq_true] at this; exact this _ (List.getElem_mem hk)
          have hAk := (hA k).2
          have bt := R18_bit_ans s.ims[k].so
          have em := mAt_of hk
          have hMu := hM _ (List.getElem_mem hk)
          have po := R13_Pixels_im s.ims[k] hMu
          have hpx := Im.pixels_len hfm
          have hpl : s.ims[k].pixels.length ≤ 16777216 := by have := (sizeIm_le' hfm); omega
          have ep0 : s.ims[k].so = false → pxL s.ims[k] = s.ims[k].pixels := fun h => by unfold pxL; rw [if_neg (by rw [h]; simp)]
          have ep1 : s.ims[k].so = true → pxL s.ims[k] = [s.ims[k].c] := fun h => by unfold pxL; rw [if_pos h]
          have hp2 : (pxL s.ims[k]).length ≤ 16777216 := by
            cases hc : s.ims[k].so
            · rw [ep0 hc]; exact hpl
            · rw [ep1 hc]; simp
          have eS := encA_succ hk
          rw [imB_hd] at eS
          have eM : encA s k ++ beI 1 (if s.ims[k].so = true then 1 else 0) ++ beI 4 (s.ims[k].w) ++ beI 4 (s.ims[k].h) = encA s k ++ hdB s.ims[k] := by
            unfold hdB
            simp only [putL, List.flatMap_cons, List.flatMap_nil, List.append_nil, List.append_assoc]
          simp only [q2, w1, em]
          refine ⟨⟨by omega, by omega, by rw [ims_length]; omega⟩, q1, bt, R18_big_ans (encA s k) (if s.ims[k].so = true then 1 else 0) 1 ⟨by omega, by omega⟩ (by first | omega | (simp only [List.length_append, beI_len, List.length_cons, List.length_nil]; omega)), R18_big_ans (encA s k ++ beI 1 (if s.ims[k].so = true then 1 else 0)) (s.ims[k].w) 4 ⟨by omega, by omega⟩ (by first | omega | (simp only [List.length_append, beI_len, List.length_cons, List.length_nil]; omega)), R18_big_ans (encA s k ++ beI 1 (if s.ims[k].so = true then 1 else 0) ++ beI 4 (s.ims[k].w)) (s.ims[k].h) 4 ⟨by omega, by omega⟩ (by first | omega | (simp only [List.length_append, beI_len, List.length_cons, List.length_nil]; omega)), ?_⟩
          refine ⟨⟨fun h => ⟨po, 0, rfl, ⟨by rw [eM], ?_⟩, by rw [eM], ?_⟩, fun h => ⟨0, rfl, ⟨by rw [eM], ?_⟩, by rw [eM], ?_⟩⟩, fun z _ => ⟨⟨0, Nat.zero_le _, ⟨by simp, rfl⟩, by simp⟩, fun q hq => ⟨?_, fun hlt => ?_, fun hge => ?_⟩⟩⟩
          · rw [ep0 h]
          · rw [ep0 h]
          · rw [ep1 h]; rfl
          · rw [ep1 h]; rfl
          · unfold maxLen; omega
          · have hq' : q < (pxL s.ims[k]).length := by omega
            have hpm : q < 16777216 := by omega
            have w2 : IntKind.wrap .i64 ((q : Int) + 1) = ((q + 1 : Nat) : Int) := by rw [IntWalk.i64_in _ ⟨by omega, by omega⟩]; omega
            obtain ⟨x0, x1, x2, x3, x4⟩ := pxs_at hq'
            have n0 : nAt (pxs (pxL s.ims[k])) (q * 5) = (pxL s.ims[k])[q].a := by simp [nAt, x0]
            have n1 : nAt (pxs (pxL s.ims[k])) (q * 5 + 1) = (pxL s.ims[k])[q].b := by simp [nAt, x1]
            have n2 : nAt (pxs (pxL s.ims[k])) (q * 5 + 1 + 1) = (pxL s.ims[k])[q].c := by simp [nAt, x2]
            have n3 : nAt (pxs (pxL s.ims[k])) (q * 5 + 1 + 1 + 1) = (pxL s.ims[k])[q].al := by simp [nAt, x3]
            have n4 : nAt (pxs (pxL s.ims[k])) (q * 5 + 1 + 1 + 1 + 1) = (pxL s.ims[k])[q].f := by simp [nAt, x4]
            simp only [n0, n1, n2, n3, n4, w2]
            have hL : (encA s k ++ hdB s.ims[k] ++ ((pxL s.ims[k]).take q).flatMap pxB).length ≤ 800000000 := by
              unfold hdB
              simp only [List.length_append, putL_len, pxBs_len, List.length_take, List.length_cons, List.length_nil]
              omega
            have hT : encA s k ++ hdB s.ims[k] ++ ((pxL s.ims[k]).take q).flatMap pxB ++ pxB (pxL s.ims[k])[q] = encA s k ++ hdB s.ims[k] ++ ((pxL s.ims[k]).take (q + 1)).flatMap pxB := by
              rw [List.take_succ_eq_append_getElem hq', List.flatMap_append]
              simp only [List.append_assoc, List.flatMap_cons, List.flatMap_nil, List.append_nil]
            exact ⟨⟨by omega, by omega⟩, ⟨x0, x1, x2, x3, x4⟩, R18_pixel_ans _ (pxL s.ims[k])[q] hL, q + 1, by omega, by omega, ⟨by rw [← hT], rfl⟩, by rw [← hT]⟩
          · have : q = (pxL s.ims[k]).length := by omega
            subst this
            rw [List.take_length, List.append_assoc, ← eS]
            exact ⟨k + 1, by omega, by omega, ⟨rfl, rfl⟩, rfl⟩
        · have : k = s.ims.length := by omega
          subst this
          have hAl := (hA s.ims.length).2
          have pb := R18_big_ans (encA s s.ims.length) (s.ops.length : Int) 2 ⟨by omega, by omega⟩ (by omega)
          have eC : encA s s.ims.length ++ beI 2 (s.ops.length : Int) = encC s 0 := by
            unfold encC
            simp only [putL, List.take_zero, List.flatMap_cons, List.flatMap_nil, List.append_nil]
          refine ⟨pb, ⟨0, Nat.zero_le _, ⟨by rw [eC], rfl⟩, by rw [eC]⟩, fun j hj => ⟨fun hlt => ?_, fun hge => ?_⟩⟩
          · have hj : j < s.ops.length := by omega
            have q1 := ops_rd hj
            have q2 := ops_at hj
            have w1 : IntKind.wrap .i64 ((j : Int) + 1) = ((j + 1 : Nat) : Int) := by rw [IntWalk.i64_in _ ⟨by omega, by omega⟩]; omega
            have hCj := hC j
            have eS := encC_succ hj
            have b1 := R18_bit_ans s.ops[j].iso
            have b2 := R18_bit_ans s.ops[j].kno
            have eF : IntKind.wrap .i64 ((if s.ops[j].iso = true then 1 else 0) + IntKind.wrap .i64 (2 * if s.ops[j].kno = true then 1 else 0)) = flagO s.ops[j] := by
              unfold flagO
              cases s.ops[j].iso <;> cases s.ops[j].kno <;> decide
            have eO : encC s j ++ beI 1 (s.ops[j].kind) ++ beI 1 (s.ops[j].image) ++ beI 4 (s.ops[j].x) ++ beI 4 (s.ops[j].y) ++ beI 1 (s.ops[j].mask) ++ beI 4 (s.ops[j].mx) ++ beI 4 (s.ops[j].my) ++ beI 2 (s.ops[j].opac) ++ beI 1 (s.ops[j].oper) ++ beI 1 (s.ops[j].mode) ++ beI 1 (flagO s.ops[j]) = encC s (j + 1) := by
              rw [eS]
              simp only [opB, putL, List.flatMap_cons, List.flatMap_nil, List.append_nil, List.append_assoc]
            have hop := wf_ops hwO hj
            have w3 : IntKind.wrap .i64 s.ops[j].opac = s.ops[j].opac := IntWalk.i64_in _ ⟨by omega, by omega⟩
            simp only [q2, w1, eF, w3]
            refine ⟨⟨by omega, by omega, by rw [ops_length]; omega⟩, q1, R18_big_ans (encC s j) (s.ops[j].kind) 1 ⟨by omega, by omega⟩ (by first | omega | (simp only [List.length_append, beI_len, List.length_cons, List.length_nil]; omega)), R18_big_ans (encC s j ++ beI 1 (s.ops[j].kind)) (s.ops[j].image) 1 ⟨by omega, by omega⟩ (by first | omega | (simp only [List.length_append, beI_len, List.length_cons, List.length_nil]; omega)), R18_big_ans (encC s j ++ beI 1 (s.ops[j].kind) ++ beI 1 (s.ops[j].image)) (s.ops[j].x) 4 ⟨by omega, by omega⟩ (by first | omega | (simp only [List.length_append, beI_len, List.length_cons, List.length_nil]; omega)), R18_big_ans (encC s j ++ beI 1 (s.ops[j].kind) ++ beI 1 (s.ops[j].image) ++ beI 4 (s.ops[j].x)) (s.ops[j].y) 4 ⟨by omega, by omega⟩ (by first | omega | (simp only [List.length_append, beI_len, List.length_cons, List.length_nil]; omega)), R18_big_ans (encC s j ++ beI 1 (s.ops[j].kind) ++ beI 1 (s.ops[j].image) ++ beI 4 (s.ops[j].x) ++ beI 4 (s.ops[j].y)) (s.ops[j].mask) 1 ⟨by omega, by omega⟩ (by first | omega | (simp only [List.length_append, beI_len, List.length_cons, List.length_nil]; omega)), R18_big_ans (encC s j ++ beI 1 (s.ops[j].kind) ++ beI 1 (s.ops[j].image) ++ beI 4 (s.ops[j].x) ++ beI 4 (s.ops[j].y) ++ beI 1 (s.ops[j].mask)) (s.ops[j].mx) 4 ⟨by omega, by omega⟩ (by first | omega | (simp only [List.length_append, beI_len, List.length_cons, List.length_nil]; omega)), R18_big_ans (encC s j ++ beI 1 (s.ops[j].kind) ++ beI 1 (s.ops[j].image) ++ beI 4 (s.ops[j].x) ++ beI 4 (s.ops[j].y) ++ beI 1 (s.ops[j].mask) ++ beI 4 (s.ops[j].mx)) (s.ops[j].my) 4 ⟨by omega, by omega⟩ (by first | omega | (simp only [List.length_append, beI_len, List.length_cons, List.length_nil]; omega)), R18_big_ans (encC s j ++ beI 1 (s.ops[j].kind) ++ beI 1 (s.ops[j].image) ++ beI 4 (s.ops[j].x) ++ beI 4 (s.ops[j].y) ++ beI 1 (s.ops[j].mask) ++ beI 4 (s.ops[j].mx) ++ beI 4 (s.ops[j].my)) (s.ops[j].opac) 2 ⟨by omega, by omega⟩ (by first | omega | (simp only [List.length_append, beI_len, List.length_cons, List.length_nil]; omega)), R18_big_ans (encC s j ++ beI 1 (s.ops[j].kind) ++ beI 1 (s.ops[j].image) ++ beI 4 (s.ops[j].x) ++ beI 4 (s.ops[j].y) ++ beI 1 (s.ops[j].mask) ++ beI 4 (s.ops[j].mx) ++ beI 4 (s.ops[j].my) ++ beI 2 (s.ops[j].opac)) (s.ops[j].oper) 1 ⟨by omega, by omega⟩ (by first | omega | (simp only [List.length_append, beI_len, List.length_cons, List.length_nil]; omega)), R18_big_ans (encC s j ++ beI 1 (s.ops[j].kind) ++ beI 1 (s.ops[j].image) ++ beI 4 (s.ops[j].x) ++ beI 4 (s.ops[j].y) ++ beI 1 (s.ops[j].mask) ++ beI 4 (s.ops[j].mx) ++ beI 4 (s.ops[j].my) ++ beI 2 (s.ops[j].opac) ++ beI 1 (s.ops[j].oper)) (s.ops[j].mode) 1 ⟨by omega, by omega⟩ (by first | omega | (simp only [List.length_append, beI_len, List.length_cons, List.length_nil]; omega)), b1, b2, R18_big_ans (encC s j ++ beI 1 (s.ops[j].kind) ++ beI 1 (s.ops[j].image) ++ beI 4 (s.ops[j].x) ++ beI 4 (s.ops[j].y) ++ beI 1 (s.ops[j].mask) ++ beI 4 (s.ops[j].mx) ++ beI 4 (s.ops[j].my) ++ beI 2 (s.ops[j].opac) ++ beI 1 (s.ops[j].oper) ++ beI 1 (s.ops[j].mode)) (flagO s.ops[j]) 1 ⟨by omega, by omega⟩ (by first | omega | (simp only [List.length_append, beI_len, List.length_cons, List.length_nil]; omega)), j + 1, by omega, by omega, ⟨by rw [← eO], rfl⟩, by rw [← eO]⟩
          · have : j = s.ops.length := by omega
            subst this
            rw [hT, encC_all]
            exact ⟨⟨rfl, rfl⟩, rfl⟩

end Go.Proofs.Ytkfgmaecbclgfaa

/-
  Decode of no bytes: the reader's panic, and the deferred function that recovers it.
-/
namespace Go.Proofs.Ytkfgmaecbclgfaa
open Go.RowKit
set_option linter.unusedVariables false
set_option linter.unusedSimpArgs false

set_option maxRecDepth 100000 in
theorem decode_catch (g g2 : Nat) (w : World) (hp : w.heap[g]? = some (.cells #[Value.int .i64 0, Value.int .i64 0, Value.int .i64 0, Value.int .i64 0, Value.int .i64 0, Value.int .i64 0, Value.int .i64 0, Value.slice none 0 0, Value.slice none 0 0, Value.slice none 0 0] 32 (0, 0))) (hq : w.heap[g2]? = some (.cells #[.int .i64 0] 46 (0, 0))) :
    CallsD Try.prog 44 #[.pointer (some ⟨g, 0, none⟩), .pointer (some ⟨g2, 0, none⟩)] (.panicking ({ v := .iface 94 (.agg #[]), recovered := false } :: [])) w fun e u' w' =>
      e = .returned (.tuple #[]) ∧ u' = .panicking ({ v := .iface 94 (.agg #[]), recovered := true } :: []) ∧ w' = w.setCell ⟨g2, 0, none⟩ (.int .i64 19) := by
  have hta : ∀ w : World, (Instr.typeAssert (.iface 94 (.agg #[])) 20 94 true).run Try.prog w = .ok (.tuple #[.agg #[], .bool true]) w := fun _ => by kernel_rfl
  have c0 : w.cell? ⟨g, 0, none⟩ = some (Value.int .i64 0) := by simp [World.cell?, hp]
  have f0 : w.frozen? ⟨g, 0, none⟩ = false := by simp [World.frozen?, hp]
  have s0 : w.setCell ⟨g, 0, none⟩ (Value.int .i64 0) = w := (setCell_eq_setRow w g 0 _ _ _ _ hp).trans (setRow_self w g _ _ _ hp)
  have c1 : w.cell? ⟨g, 1, none⟩ = some (Value.int .i64 0) := by simp [World.cell?, hp]
  have f1 : w.frozen? ⟨g, 1, none⟩ = false := by simp [World.frozen?, hp]
  have s1 : w.setCell ⟨g, 1, none⟩ (Value.int .i64 0) = w := (setCell_eq_setRow w g 1 _ _ _ _ hp).trans (setRow_self w g _ _ _ hp)
  have c2 : w.cell? ⟨g, 2, none⟩ = some (Value.int .i64 0) := by simp [World.cell?, hp]
  have f2 : w.frozen? ⟨g, 2, none⟩ = false := by simp [World.frozen?, hp]
  have s2 : w.setCell ⟨g, 2, none⟩ (Value.int .i64 0) = w := (setCell_eq_setRow w g 2 _ _ _ _ hp).trans (setRow_self w g _ _ _ hp)
  have c3 : w.cell? ⟨g, 3, none⟩ = some (Value.int .i64 0) := by simp [World.cell?, hp]
  have f3 : w.frozen? ⟨g, 3, none⟩ = false := by simp [World.frozen?, hp]
  have s3 : w.setCell ⟨g, 3, none⟩ (Value.int .i64 0) = w := (setCell_eq_setRow w g 3 _ _ _ _ hp).trans (setRow_self w g _ _ _ hp)
  have c4 : w.cell? ⟨g, 4, none⟩ = some (Value.int .i64 0) := by simp [World.cell?, hp]
  have f4 : w.frozen? ⟨g, 4, none⟩ = false := by simp [World.frozen?, hp]
  have s4 : w.setCell ⟨g, 4, none⟩ (Value.int .i64 0) = w := (setCell_eq_setRow w g 4 _ _ _ _ hp).trans (setRow_self w g _ _ _ hp)
  have c5 : w.cell? ⟨g, 5, none⟩ = some (Value.int .i64 0) := by simp [World.cell?, hp]
  have f5 : w.frozen? ⟨g, 5, none⟩ = false := by simp [World.frozen?, hp]
  have s5 : w.setCell ⟨g, 5, none⟩ (Value.int .i64 0) = w := (setCell_eq_setRow w g 5 _ _ _ _ hp).trans (setRow_self w g _ _ _ hp)
  have c6 : w.cell? ⟨g, 6, none⟩ = some (Value.int .i64 0) := by simp [World.cell?, hp]
  have f6 : w.frozen? ⟨g, 6, none⟩ = false := by simp [World.frozen?, hp]
  have s6 : w.setCell ⟨g, 6, none⟩ (Value.int .i64 0) = w := (setCell_eq_setRow w g 6 _ _ _ _ hp).trans (setRow_self w g _ _ _ hp)
  have c7 : w.cell? ⟨g, 7, none⟩ = some (Value.slice none 0 0) := by simp [World.cell?, hp]
  have f7 : w.frozen? ⟨g, 7, none⟩ = false := by simp [World.frozen?, hp]
  have s7 : w.setCell ⟨g, 7, none⟩ (Value.slice none 0 0) = w := (setCell_eq_setRow w g 7 _ _ _ _ hp).trans (setRow_self w g _ _ _ hp)
  have c8 : w.cell? ⟨g, 8, none⟩ = some (Value.slice none 0 0) := by simp [World.cell?, hp]
  have f8 : w.frozen? ⟨g, 8, none⟩ = false := by simp [World.frozen?, hp]
  have s8 : w.setCell ⟨g, 8, none⟩ (Value.slice none 0 0) = w := (setCell_eq_setRow w g 8 _ _ _ _ hp).trans (setRow_self w g _ _ _ hp)
  have c9 : w.cell? ⟨g, 9, none⟩ = some (Value.slice none 0 0) := by simp [World.cell?, hp]
  have f9 : w.frozen? ⟨g, 9, none⟩ = false := by simp [World.frozen?, hp]
  have s9 : w.setCell ⟨g, 9, none⟩ (Value.slice none 0 0) = w := (setCell_eq_setRow w g 9 _ _ _ _ hp).trans (setRow_self w g _ _ _ hp)
  have q0 : w.cell? ⟨g2, 0, none⟩ = some (.int .i64 0) := by simp [World.cell?, hq]
  have p0 : w.frozen? ⟨g2, 0, none⟩ = false := by simp [World.frozen?, hq]
  refine callsD_of_wpS Try.func44 rfl fun c₀ cs hu => ?_
  apply wpS_seq
  apply wpS_region
  simp [wpOpsS, go_sem, recoverD, hu, Try.ntmps44, Exit.thenS]
  refine wpS_of_wp ?_
  go_wp2
  simp [bodyPostS, results, Try.results44]
set_option maxRecDepth 100000 in
theorem decode_nil (A : Option Addr) (cap : Nat) (w : World) :
    Calls Try.prog 19 #[.slice A 0 cap] w fun e w' => e = .returned (.tuple #[.agg #[.int .i64 0, .int .i64 0, .int .i64 0, .int .i64 0, .int .i64 0, .int .i64 0, .int .i64 0, .slice none 0 0, .slice none 0 0, .slice none 0 0], .int .i64 19]) ∧ Below w.heap.size w w' := by
  have hmf : ∀ (fn : Fn) (first cap : Array Value) (w : World), (Instr.makeFunc fn first cap).run Try.prog w = .ok (.func fn first cap) w := fun _ _ _ _ => rfl
  go_enter_defers Try.func19, Try.ntmps19
  go_wp2
  go_end0
  go_wp2
  simp only [bodyPost]
  refine ⟨trivial, ?_⟩
  go_wp2
  simp only [bodyPost]
  refine ⟨trivial, ?_⟩
  go_wp2
  simp only [bodyPost]
  refine ⟨trivial, ?_⟩
  go_wp2
  have sz : ∀ (u : World) (o : Obj), (u.alloc o).heap.size = u.heap.size + 1 := fun u o => by simp
  have old : ∀ (u : World) (o : Obj) (k : Nat), k < u.heap.size → (u.alloc o).heap[k]? = u.heap[k]? := fun u o k hk => heap_alloc_old u o hk
  have new : ∀ (u : World) (o : Obj), (u.alloc o).heap[u.heap.size]? = some o := fun u o => heap_alloc_new u o
  obtain ⟨W, hW⟩ : ∃ W, W = ((((w.alloc (.cells #[Value.int .i64 0, Value.int .i64 0, Value.int .i64 0, Value.int .i64 0, Value.int .i64 0, Value.int .i64 0, Value.int .i64 0, Value.slice none 0 0, Value.slice none 0 0, Value.slice none 0 0] 32)).alloc (.cells #[.int .i64 0] 46)).alloc (.cells #[.slice A 0 cap] 97)).alloc (.cells #[Value.int .i64 0, Value.int .i64 0, Value.int .i64 0, Value.int .i64 0, Value.int .i64 0, Value.int .i64 0, Value.int .i64 0, Value.slice none 0 0, Value.slice none 0 0, Value.slice none 0 0] 32)) := ⟨_, rfl⟩
  have h1 : W.heap[w.heap.size]? = some (.cells #[Value.int .i64 0, Value.int .i64 0, Value.int .i64 0, Value.int .i64 0, Value.int .i64 0, Value.int .i64 0, Value.int .i64 0, Value.slice none 0 0, Value.slice none 0 0, Value.slice none 0 0] 32) := by
    rw [hW, old _ _ _ (by simp only [sz]; omega), old _ _ _ (by simp only [sz]; omega), old _ _ _ (by simp only [sz]; omega), new]
  have h2 : W.heap[w.heap.size + 1]? = some (.cells #[.int .i64 0] 46) := by
    rw [hW, old _ _ _ (by simp only [sz]; omega), old _ _ _ (by simp only [sz]; omega), ← sz w (.cells #[Value.int .i64 0, Value.int .i64 0, Value.int .i64 0, Value.int .i64 0, Value.int .i64 0, Value.int .i64 0, Value.int .i64 0, Value.slice none 0 0, Value.slice none 0 0, Value.slice none 0 0] 32), new]
  have hs : W.heap.size = w.heap.size + 4 := by rw [hW]; simp only [sz]
  have hb : ∀ k, k < w.heap.size → W.heap[k]? = w.heap[k]? := fun k hk => by
    rw [hW, old _ _ _ (by simp only [sz]; omega), old _ _ _ (by simp only [sz]; omega), old _ _ _ (by simp only [sz]; omega), old _ _ _ hk]
  have ho : W.os = w.os ∧ W.tape = w.tape ∧ W.output = w.output := by rw [hW]; exact ⟨rfl, rfl, rfl⟩
  rw [← hW]
  clear hW
  refine leaves_cons (f := 44) (args := #[.pointer (some ⟨w.heap.size, 0, none⟩), .pointer (some ⟨w.heap.size + 1, 0, none⟩)]) (by simp) (by simp [go_sem]) ?_
  refine (decode_catch w.heap.size (w.heap.size + 1) W h1 h2).mono ?_
  rintro e u' w'' ⟨rfl, rfl, rfl⟩
  obtain ⟨W', hW'⟩ : ∃ W', W' = W.setCell ⟨w.heap.size + 1, 0, none⟩ (.int .i64 19) := ⟨_, rfl⟩
  have e1 := setCell_eq_setRow W (w.heap.size + 1) 0 _ _ _ (.int .i64 19) h2
  rw [← hW'] at e1
  have k1 : W'.heap[w.heap.size]? = some (.cells #[Value.int .i64 0, Value.int .i64 0, Value.int .i64 0, Value.int .i64 0, Value.int .i64 0, Value.int .i64 0, Value.int .i64 0, Value.slice none 0 0, Value.slice none 0 0, Value.slice none 0 0] 32) := by rw [e1, setRow_other W _ _ _ (by omega)]; exact h1
  have k2 : W'.heap[w.heap.size + 1]? = some (.cells #[.int .i64 19] 46) := by rw [e1]; exact setRow_heap W _ _ _ _ _ h2
  have k3 : Below w.heap.size w W' := by
    rw [e1]
    exact ⟨ho.1, ho.2.1, ho.2.2, by show w.heap.size ≤ (W.setRow _ _).heap.size; simp [World.setRow]; omega, fun k hk => by rw [setRow_other W _ _ _ (by omega)]; exact hb k hk⟩
  have c0 : W'.cell? ⟨w.heap.size, 0, none⟩ = some (Value.int .i64 0) := by simp [World.cell?, k1]
  have c1 : W'.cell? ⟨w.heap.size, 1, none⟩ = some (Value.int .i64 0) := by simp [World.cell?, k1]
  have c2 : W'.cell? ⟨w.heap.size, 2, none⟩ = some (Value.int .i64 0) := by simp [World.cell?, k1]
  have c3 : W'.cell? ⟨w.heap.size, 3, none⟩ = some (Value.int .i64 0) := by simp [World.cell?, k1]
  have c4 : W'.cell? ⟨w.heap.size, 4, none⟩ = some (Value.int .i64 0) := by simp [World.cell?, k1]
  have c5 : W'.cell? ⟨w.heap.size, 5, none⟩ = some (Value.int .i64 0) := by simp [World.cell?, k1]
  have c6 : W'.cell? ⟨w.heap.size, 6, none⟩ = some (Value.int .i64 0) := by simp [World.cell?, k1]
  have c7 : W'.cell? ⟨w.heap.size, 7, none⟩ = some (Value.slice none 0 0) := by simp [World.cell?, k1]
  have c8 : W'.cell? ⟨w.heap.size, 8, none⟩ = some (Value.slice none 0 0) := by simp [World.cell?, k1]
  have c9 : W'.cell? ⟨w.heap.size, 9, none⟩ = some (Value.slice none 0 0) := by simp [World.cell?, k1]
  have c10 : W'.cell? ⟨w.heap.size + 1, 0, none⟩ = some (.int .i64 19) := by simp [World.cell?, k2]
  rw [← hW']
  clear hW' e1 k1 k2 h1 h2 hs hb ho
  simp [Leaves, settle, results, Try.results19, go_sem, c0, c1, c2, c3, c4, c5, c6, c7, c8, c9, c10, k3]
def zeroScr : List DV := [.int .i64 0, .int .i64 0, .int .i64 0, .int .i64 0, .int .i64 0, .int .i64 0, .int .i64 0, .sl 0 [], .sl 0 [], .sl 0 []]
theorem script_Decode_nil_ans : Ans Try.prog 19 [RV.d (.sl 0 [])] (RV.tup [RV.agg zeroScr, RV.d (.int .i64 19)]) := by
  intro w S vs _ hr
  obtain ⟨l⟩ := vs
  match l, hr with
  | [v], hr =>
    simp only [RepRs, RepR, RepD, and_true] at hr
    obtain ⟨A, cap, rfl, _⟩ := hr
    refine (decode_nil A cap w).mono ?_
    rintro e w' ⟨rfl, hb⟩
    refine ⟨_, rfl, ?_, hb⟩
    simp only [RepR, RepRs]
    have hi : ∀ n : Int, n = 0 ∨ n = 19 → RepD w' (fun g => S g ∨ w.heap.size ≤ g) (.int .i64 n) (.int .i64 n) := fun n hn => by
      simp only [RepD, true_and]
      rw [inK_iff]
      show (-9223372036854775808 : Int) ≤ n ∧ n ≤ 9223372036854775807
      omega
    have hz := hi 0 (.inl rfl)
    have hs : RepD w' (fun g => S g ∨ w.heap.size ≤ g) (.sl 0 []) (.slice none 0 0) := by
      simp only [RepD]
      exact ⟨none, 0, rfl, Nat.le_refl _, Nat.zero_le _, fun h => absurd rfl h⟩
    exact ⟨_, rfl, ⟨_, rfl, hz, hz, hz, hz, hz, hz, hz, hs, hs, hs, trivial⟩, hi 19 (.inr rfl), trivial⟩
end Go.Proofs.Ytkfgmaecbclgfaa

/-
  What the laws on encodings ask.
-/
namespace Go.Proofs.Ytkfgmaecbclgfaa
open Go.RowKit
set_option linter.unusedVariables false
set_option linter.unusedSimpArgs false
attribute [local irreducible] Ans AnsO AnsG AnsN AnsI

set_option maxRecDepth 4000
theorem allB_u8 : ∀ (l : List Int), allBytes (u8s l)
  | [] => trivial
  | a :: l => ⟨⟨a, rfl⟩, allB_u8 l⟩
def tinyS : Scr := ⟨8, ⟨0, 0, 1, 1⟩, 1, 1, [], [], []⟩
theorem tiny_enc : encS tinyS = ([76, 67, 8, 0, 0, 0, 0, 0, 0, 0, 0, 0, 0, 0, 1, 0, 0, 0, 1, 0, 0, 0, 1, 0, 0, 0, 1, 0, 0, 0, 0, 0, 0, 0], 0) := by decide
def gamEg : Gam where
 pure := fun f xs =>
  if f = 11 then (match xs with | [.agg [.int _ bits, .int _ cx0, .int _ cy0, .int _ cx1, .int _ cy1, .int _ tw, .int _ th, .sl on oxs, .sl mn mxs, .sl pn pxs]] => some (RV.tup [RV.d (DV.sl ((encS (⟨bits, ⟨cx0, cy0, cx1, cy1⟩, tw, th, ints oxs, toIms mxs, toOps pxs⟩ : Scr)).1.length) (u8s (encS (⟨bits, ⟨cx0, cy0, cx1, cy1⟩, tw, th, ints oxs, toIms mxs, toOps pxs⟩ : Scr)).1)), RV.d (DV.int .i64 ((encS (⟨bits, ⟨cx0, cy0, cx1, cy1⟩, tw, th, ints oxs, toIms mxs, toOps pxs⟩ : Scr)).2))]) | _ => none) else
  if f = 19 then (match xs with | [.d (.sl n xs)] => some (RV.tup [RV.agg [DV.int .i64 0, DV.int .i64 0, DV.int .i64 0, DV.int .i64 0, DV.int .i64 0, DV.int .i64 0, DV.int .i64 0, DV.sl 0 ([]), DV.sl 0 ([]), DV.sl 0 ([])], RV.d (DV.int .i64 19)]) | _ => none) else
  none
 modes := fun f =>
  none
 proc := fun f xs bs =>
  none
 iter := fun f cs =>
  none

def L18_bytes_ann (a : List Int) (b : List Int) : Ann := Ann.leaf
theorem L18_bytes_vc (a : List Int) (b : List Int) : vcg Try.prog gamEg 10 (bodyOf Try.f15) (L18_bytes_ann a b) kn0 (start [RV.d (DV.sl a.length (u8s a)), RV.d (DV.sl b.length (u8s b))]) (post Try.prog Try.f15.results.toList (· = RV.d (DV.bool ((strD (u8s a)).toList == (strD (u8s b)).toList)))) =
  (let zz0 := (DV.bool ((strD (u8s a)).toList == (strD (u8s b)).toList)); True ∧ True ∧ (a.length = (u8s a).length ∧ allBytes (u8s a)) ∧ True ∧ (b.length = (u8s b).length ∧ allBytes (u8s b)) ∧ True ∧ True ∧ RV.d zz0 = RV.d zz0) := by kernel_rfl
theorem L18_bytes_ans (a : List Int) (b : List Int) : Ans Try.prog 15 [RV.d (DV.sl a.length (u8s a)), RV.d (DV.sl b.length (u8s b))] (RV.d (DV.bool ((strD (u8s a)).toList == (strD (u8s b)).toList))) :=
  ans_of_vcg (Γ := gamEg) (L18_bytes_ann a b) mixed_ Try.func15 rfl (Nat.le_of_ble_eq_true rfl) fun hwf => by
    refine Eq.mpr (L18_bytes_vc a b) ?_
    simp only [true_and, and_true, RV.d.injEq, RV.agg.injEq, RV.tup.injEq, DV.bool.injEq, DV.int.injEq, DV.sl.injEq, List.cons.injEq, forall_const, Bool.not_false, Bool.not_true, Bool.not_eq_true', Bool.not_eq_false', decide_eq_true_eq, decide_eq_false_iff_not, Int.toNat_natCast, imQ, imQr, imC, oqQ, oqQr, oqC, oqD, pxQ, pxQr, pxC, pxD]
    (repeat' apply And.intro) <;> first | exact allB_u8 _ | exact (u8s_len _).symm | rfl

def L18_awake_ann : Ann := Ann.leaf
theorem L18_awake_vc : vcg Try.prog gamEg 32 (bodyOf Try.f13) (L18_awake_ann ) kn0 (start []) (post Try.prog Try.f13.results.toList (· = RV.d (DV.bool true))) =
  (True ∧ True ∧ True ∧ (Ans Try.prog 11 [RV.agg [DV.int .i64 8, DV.int .i64 0, DV.int .i64 0, DV.int .i64 1, DV.int .i64 1, DV.int .i64 1, DV.int .i64 1, DV.sl 0 ([]), DV.sl 0 ([]), DV.sl 0 ([])]] (RV.tup [RV.d (DV.sl ((encS (⟨(8 : Int), ⟨(0 : Int), (0 : Int), (1 : Int), (1 : Int)⟩, (1 : Int), (1 : Int), ints ([]), toIms ([]), toOps ([])⟩ : Scr)).1.length) (u8s (encS (⟨(8 : Int), ⟨(0 : Int), (0 : Int), (1 : Int), (1 : Int)⟩, (1 : Int), (1 : Int), ints ([]), toIms ([]), toOps ([])⟩ : Scr)).1)), RV.d (DV.int .i64 ((encS (⟨(8 : Int), ⟨(0 : Int), (0 : Int), (1 : Int), (1 : Int)⟩, (1 : Int), (1 : Int), ints ([]), toIms ([]), toOps ([])⟩ : Scr)).2))])) ∧ True ∧ True ∧ True ∧ True ∧ True ∧ (Ans Try.prog 19 [RV.d (DV.sl 0 ([]))] (RV.tup [RV.agg [DV.int .i64 0, DV.int .i64 0, DV.int .i64 0, DV.int .i64 0, DV.int .i64 0, DV.int .i64 0, DV.int .i64 0, DV.sl 0 ([]), DV.sl 0 ([]), DV.sl 0 ([])], RV.d (DV.int .i64 19)])) ∧ True ∧ True ∧ True ∧ True ∧ True ∧ True ∧ True ∧ True ∧ True ∧ (((((encS (⟨(8 : Int), ⟨(0 : Int), (0 : Int), (1 : Int), (1 : Int)⟩, (1 : Int), (1 : Int), ints ([]), toIms ([]), toOps ([])⟩ : Scr)).2) == (0 : Int)) = true → True ∧ True ∧ True ∧ True ∧ True ∧ ((((((encS (⟨(8 : Int), ⟨(0 : Int), (0 : Int), (1 : Int), (1 : Int)⟩, (1 : Int), (1 : Int), ints ([]), toIms ([]), toOps ([])⟩ : Scr)).1.length : Nat) : Int) == (34 : Int)) = true → True ∧ (0 ≤ (0 : Int) ∧ (0 : Int) ≤ (2 : Int) ∧ (2 : Int) ≤ (((encS (⟨(8 : Int), ⟨(0 : Int), (0 : Int), (1 : Int), (1 : Int)⟩, (1 : Int), (1 : Int), ints ([]), toIms ([]), toOps ([])⟩ : Scr)).1.length : Nat) : Int)) ∧ (((2 : Int) - (0 : Int)).toNat = (List.take (((2 : Int) - (0 : Int)).toNat * 1) (List.drop ((0 : Int).toNat * 1) (u8s (encS (⟨(8 : Int), ⟨(0 : Int), (0 : Int), (1 : Int), (1 : Int)⟩, (1 : Int), (1 : Int), ints ([]), toIms ([]), toOps ([])⟩ : Scr)).1))).length ∧ allBytes (List.take (((2 : Int) - (0 : Int)).toNat * 1) (List.drop ((0 : Int).toNat * 1) (u8s (encS (⟨(8 : Int), ⟨(0 : Int), (0 : Int), (1 : Int), (1 : Int)⟩, (1 : Int), (1 : Int), ints ([]), toIms ([]), toOps ([])⟩ : Scr)).1)))) ∧ True ∧ True ∧ True ∧ ((((strD (List.take (((2 : Int) - (0 : Int)).toNat * 1) (List.drop ((0 : Int).toNat * 1) (u8s (encS (⟨(8 : Int), ⟨(0 : Int), (0 : Int), (1 : Int), (1 : Int)⟩, (1 : Int), (1 : Int), ints ([]), toIms ([]), toOps ([])⟩ : Scr)).1)))).toList == (⟨#[76, 67]⟩ : ByteArray).toList) = true → True ∧ True ∧ True ∧ True ∧ RV.d (DV.bool (19 == (19 : Int))) = RV.d (DV.bool true)) ∧ (((strD (List.take (((2 : Int) - (0 : Int)).toNat * 1) (List.drop ((0 : Int).toNat * 1) (u8s (encS (⟨(8 : Int), ⟨(0 : Int), (0 : Int), (1 : Int), (1 : Int)⟩, (1 : Int), (1 : Int), ints ([]), toIms ([]), toOps ([])⟩ : Scr)).1)))).toList == (⟨#[76, 67]⟩ : ByteArray).toList) = (!true) → True ∧ True ∧ RV.d (DV.bool false) = RV.d (DV.bool true)))) ∧ (((((encS (⟨(8 : Int), ⟨(0 : Int), (0 : Int), (1 : Int), (1 : Int)⟩, (1 : Int), (1 : Int), ints ([]), toIms ([]), toOps ([])⟩ : Scr)).1.length : Nat) : Int) == (34 : Int)) = (!true) → True ∧ True ∧ True ∧ True ∧ RV.d (DV.bool false) = RV.d (DV.bool true)))) ∧ ((((encS (⟨(8 : Int), ⟨(0 : Int), (0 : Int), (1 : Int), (1 : Int)⟩, (1 : Int), (1 : Int), ints ([]), toIms ([]), toOps ([])⟩ : Scr)).2) == (0 : Int)) = (!true) → True ∧ True ∧ True ∧ True ∧ True ∧ True ∧ RV.d (DV.bool false) = RV.d (DV.bool true)))) := by kernel_rfl
theorem L18_awake_ans : Ans Try.prog 13 [] (RV.d (DV.bool true)) :=
  ans_of_vcg (Γ := gamEg) (L18_awake_ann ) mixed_ Try.func13 rfl (Nat.le_of_ble_eq_true rfl) fun hwf => by
    refine Eq.mpr (L18_awake_vc ) ?_
    simp only [true_and, and_true, RV.d.injEq, RV.agg.injEq, RV.tup.injEq, DV.bool.injEq, DV.int.injEq, DV.sl.injEq, List.cons.injEq, forall_const, Bool.not_false, Bool.not_true, Bool.not_eq_true', Bool.not_eq_false', decide_eq_true_eq, decide_eq_false_iff_not, Int.toNat_natCast, imQ, imQr, imC, oqQ, oqQr, oqC, oqD, pxQ, pxQr, pxC, pxD]
    have e := script_Encode_ans tinyS (fun m hm => by cases hm) (Nat.zero_le _)
    have d := script_Decode_nil_ans
    have hS : (⟨8, ⟨0, 0, 1, 1⟩, 1, 1, ints [], toIms [], toOps []⟩ : Scr) = tinyS := rfl
    simp only [hS]
    refine ⟨e, d, ?_⟩
    simp only [tiny_enc]
    have t2 : List.take ((2 - 0 : Int).toNat * 1) (List.drop (Int.toNat 0 * 1) (u8s [76, 67, 8, 0, 0, 0, 0, 0, 0, 0, 0, 0, 0, 0, 1, 0, 0, 0, 1, 0, 0, 0, 1, 0, 0, 0, 1, 0, 0, 0, 0, 0, 0, 0])) = [DV.int .u8 76, DV.int .u8 67] := rfl
    have sD : strD [DV.int .u8 76, DV.int .u8 67] = ⟨#[76, 67]⟩ := rfl
    simp only [t2, sD]
    exact ⟨fun _ => ⟨fun _ => ⟨⟨by decide, by decide, by decide⟩, ⟨rfl, ⟨_, rfl⟩, ⟨_, rfl⟩, trivial⟩, fun _ => rfl, fun h => absurd h (by rw [beq_self_eq_true]; decide)⟩, fun h => absurd h (by decide)⟩, fun h => absurd h (by decide)⟩

end Go.Proofs.Ytkfgmaecbclgfaa

/-
  Frames in plain words: when there is an error.
-/
namespace Go.Proofs.Ytkfgmaecbclgfaa
open Go.RowKit
set_option linter.unusedVariables false
set_option linter.unusedSimpArgs false

theorem nearB_iff (v : Int) : nearB v = true ↔ -1048576 ≤ v ∧ v ≤ 1048576 := by simp [nearB]
end Go.Proofs.Ytkfgmaecbclgfaa

/-
  Made images are valid, in plain words.
-/
namespace Go.Proofs.Ytkfgmaecbclgfaa
open Go.RowKit
set_option linter.unusedVariables false
set_option linter.unusedSimpArgs false

theorem Im.list_so {m : Im} (hs : m.so = true) (n : Nat) : m.list n = List.replicate n m.c := by
  unfold Im.list
  refine List.ext_getElem (by simp) fun i h1 h2 => ?_
  simp [Im.nth, Im.px, hs]
theorem Im.count_pos {m : Im} (hf : m.formed = true) : 0 < m.w.toNat * m.h.toNat := by
  obtain ⟨f1, f2, f3, f4, f5⟩ := fits_le (Im.formed_of hf).1
  exact Nat.mul_pos (by omega) (by omega)
theorem Im.pixels_so {m : Im} (hf : m.formed = true) (hs : m.so = true) : m.pixels = List.replicate (m.w.toNat * m.h.toNat) m.c := by
  rw [Im.pixels_of hf, Im.list_so hs]
theorem Im.valid_iff {m : Im} (hf : m.formed = true) (most : Int) : m.valid most = 0 ↔ ∀ p ∈ m.pixels, p.ok most = true := by
  obtain ⟨h1, h2⟩ := Im.formed_of hf
  unfold Im.valid
  rw [if_neg (by simp [h1]), if_neg (by simp [h2])]
  cases hs : m.so with
  | true =>
    rw [if_pos rfl, Im.pixels_so hf hs]
    have := Im.count_pos hf
    constructor
    · intro h p hp
      obtain ⟨_, rfl⟩ := List.mem_replicate.1 hp
      split at h
      · assumption
      · cases h
    · intro h
      rw [if_pos (h m.c (List.mem_replicate.2 ⟨by omega, rfl⟩))]
  | false =>
    rw [if_neg (by simp), Im.pixels_of hf]
    unfold Im.okTo Im.count Im.list
    constructor
    · intro h p hp
      split at h
      · rename_i ha
        obtain ⟨k, hk, rfl⟩ := List.mem_map.1 hp
        exact List.all_eq_true.1 ha k hk
      · cases h
    · intro h
      rw [if_pos (List.all_eq_true.2 fun k hk => h _ (List.mem_map.2 ⟨k, hk, rfl⟩))]
theorem gSample_in (n : Int) {most : Int} (h0 : 0 ≤ most) (h1 : most ≤ 65535) : 0 ≤ gSample n most ∧ gSample n most ≤ most := by
  unfold gSample
  rw [IntWalk.i64_in most ⟨by omega, by omega⟩]
  have a2 := @modS_in (IntKind.wrap .i64 (Int.tdiv n 8)) 2 (by omega) (by omega)
  have a4 := @modS_in (IntKind.wrap .i64 (Int.tdiv n 8)) 4 (by omega) (by omega)
  split
  · omega
  · split
    · omega
    · split
      · rw [IntWalk.i64_in (most + _) ⟨by omega, by omega⟩]
        have e : Int.tdiv (most + modS (IntKind.wrap .i64 (Int.tdiv n 8)) 2) 2 = (most + modS (IntKind.wrap .i64 (Int.tdiv n 8)) 2) / 2 := Int.tdiv_eq_ediv_of_nonneg (by omega)
        rw [e, IntWalk.i64_in _ ⟨by omega, by omega⟩, IntWalk.u16_in _ ⟨by omega, by omega⟩]
        omega
      · split
        · rw [IntWalk.u16_in _ ⟨by omega, by omega⟩]
          omega
        · rw [IntWalk.i64_in (most + 1) ⟨by omega, by omega⟩]
          have a := @modS_in (IntKind.wrap .i64 (Int.tdiv n 8)) (most + 1) (by omega) (by omega)
          rw [IntWalk.u16_in _ ⟨by omega, by omega⟩]
          omega
theorem gPixel_ok (n0 n1 n2 n3 n4 : Int) {most : Int} (h0 : 0 ≤ most) (h1 : most ≤ 65535) : (gPixel n0 n1 n2 n3 n4 most).ok most = true ∧ 0 ≤ (gPixel n0 n1 n2 n3 n4 most).a ∧ 0 ≤ (gPixel n0 n1 n2 n3 n4 most).b ∧ 0 ≤ (gPixel n0 n1 n2 n3 n4 most).c ∧ 0 ≤ (gPixel n0 n1 n2 n3 n4 most).al := by
  have hf := gSample_in n4 h0 h1
  have key : ∀ a f : Int, 0 ≤ a → a ≤ f → f ≤ most → Px.ok ⟨gSample n0 a, gSample n1 a, gSample n2 a, a, f⟩ most = true ∧ 0 ≤ gSample n0 a ∧ 0 ≤ gSample n1 a ∧ 0 ≤ gSample n2 a ∧ 0 ≤ a := fun a f k0 k1 k2 => by
    have q0 := gSample_in n0 k0 (by omega)
    have q1 := gSample_in n1 k0 (by omega)
    have q2 := gSample_in n2 k0 (by omega)
    simp [Px.ok]
    omega
  unfold gPixel
  simp only
  split
  · have ha := gSample_in (IntKind.wrap .i64 (Int.tdiv n3 3)) hf.1 (by omega)
    exact key _ _ ha.1 ha.2 hf.2
  · exact key _ _ hf.1 (Int.le_refl _) hf.2
/-- a pixel that is valid, with no negative sample -/
def Px.fine (p : Px) (most : Int) : Prop := p.ok most = true ∧ 0 ≤ p.a ∧ 0 ≤ p.b ∧ 0 ≤ p.c ∧ 0 ≤ p.al
theorem gPx_fine (mood : Int) (L : Nat) (xs : List DV) {most : Int} (h0 : 0 ≤ most) (h1 : most ≤ 65535) (k : Nat) : (gPx mood L xs most k).fine most := by
  have hz : Px.zero.fine most := ⟨by simp [Px.ok, Px.zero, h0], by decide, by decide, by decide, by decide⟩
  have hp : ∀ k, (gPx1 L xs most k).fine most := fun k => gPixel_ok _ _ _ _ _ h0 h1
  unfold gPx
  split
  · exact hz
  · split
    · obtain ⟨a, b⟩ := hp k
      refine ⟨?_, b.1, b.2.1, b.2.2.1, h0⟩
      simp [Px.ok] at a ⊢
      omega
    · split
      · exact hp 0
      · exact hp k
theorem gImage_fine (pw ph so mood : Int) (L : Nat) (xs : List DV) (x0 y0 x1 y1 : Int) {most : Int} (h0 : 0 ≤ most) (h1 : most ≤ 65535) (hc : 1 ≤ x1 - x0 ∧ x1 - x0 ≤ 100 ∧ 1 ≤ y1 - y0 ∧ y1 - y0 ≤ 100) : ∀ p ∈ (gImage pw ph so mood L xs x0 y0 x1 y1 most).pixels, p.fine most := by
  have hf := (gImage_facts pw ph so mood L xs x0 y0 x1 y1 most hc).1
  intro p hp
  rw [gImage_is pw ph so mood L xs x0 y0 x1 y1 most _ _ rfl rfl] at hf hp
  split at hf
  · rename_i hs
    rw [if_pos hs, Im.pixels_so hf rfl] at hp
    obtain ⟨_, rfl⟩ := List.mem_replicate.1 hp
    exact gPx_fine _ _ _ h0 h1 _
  · rename_i hs
    rw [if_neg hs] at hp
    cases hk : ofOk (gSide pw 5 x0 x1 pw) (gSide ph 4 y0 y1 pw) (gPixels mood L xs most (IntKind.wrap .i64 (gSide pw 5 x0 x1 pw * gSide ph 4 y0 y1 pw)).toNat).length with
    | true =>
      rw [(imOf_pixels hk).2] at hp
      unfold gPixels at hp
      obtain ⟨k, _, rfl⟩ := List.mem_map.1 hp
      exact gPx_fine _ _ _ h0 h1 _
    | false =>
      rw [imOf_no hk] at hf
      exact absurd hf (by decide)
end Go.Proofs.Ytkfgmaecbclgfaa

/-
  What the generator makes is a valid script: in plain words.
-/
namespace Go.Proofs.Ytkfgmaecbclgfaa
open Go.RowKit
set_option linter.unusedVariables false
set_option linter.unusedSimpArgs false

/-! ### lists of operations -/
def okO (bits : Int) (mn : Nat) : List Oq → List Oq → Option (List Oq)
  | [], st => some st
  | o :: r, st => if errO bits mn o st = 0 then okO bits mn r (stepO o st) else none
theorem okO_app {bits : Int} {mn : Nat} : ∀ (l m : List Oq) (st : List Oq), okO bits mn (l ++ m) st = (okO bits mn l st).bind (okO bits mn m)
  | [], m, st => rfl
  | o :: l, m, st => by
    simp only [List.cons_append, okO]
    split
    · exact okO_app l m _
    · rfl
theorem errO_pop {bits : Int} {mn : Nat} {st : List Oq} (h : st ≠ []) : errO bits mn popO st = 0 := by
  have h1 : popO.kind = 3 := rfl
  have h2 : popO.fields = true := by decide
  unfold errO
  rw [if_neg (by rw [h1]; simp), if_neg (by rw [h2]; simp), if_pos h1, if_neg h]
theorem okO_pops {bits : Int} {mn : Nat} : ∀ (n : Nat) (st : List Oq), n ≤ st.length → okO bits mn (List.replicate n popO) st = some (st.take (st.length - n))
  | 0, st, _ => by simp [okO]
  | n + 1, st, h => by
    have hne : st ≠ [] := by intro e; subst e; simp at h
    have h1 : popO.kind = 3 := rfl
    rw [List.replicate_succ, okO, if_pos (errO_pop hne)]
    have e : stepO popO st = st.dropLast := by unfold stepO; rw [if_neg (by rw [h1]; decide), if_pos h1]
    rw [e, okO_pops n _ (by simp; omega), List.dropLast_eq_take, List.take_take]
    congr 2
    simp; omega
theorem okO_one {bits : Int} {mn : Nat} {o : Oq} {st : List Oq} (h : errO bits mn o st = 0) : okO bits mn [o] st = some (stepO o st) := by
  simp only [okO]; rw [if_pos h]

/-! ### an operation of the generator -/
theorem gOff_near {n c : Int} (h : -100 ≤ c ∧ c ≤ 100) : -200 ≤ gOff n c ∧ gOff n c ≤ 200 := by
  have b := @modS_in (IntKind.wrap .i64 (Int.tdiv n 3)) 9 (by omega) (by omega)
  unfold gOff
  split <;> omega
theorem gOp_ok {bits : Int} {mn : Nat} {r : Rw} {push : Bool} {c : Rc} {most : Int} {st : List Oq} (hm : 1 ≤ mn ∧ mn ≤ 64) (hc : (-100 ≤ c.a ∧ c.a ≤ 100) ∧ -100 ≤ c.b ∧ c.b ≤ 100) (hb : mostS bits = most) (h0 : 0 ≤ most ∧ most ≤ 65535) (hl : st.length < 64) :
    errO bits mn (gOp r push mn c (ctxB st) most) st = 0 := by
  have b1 := @modS_in r.im mn (by omega) (by omega)
  have b2 := @modS_in (IntKind.wrap .i64 (Int.tdiv r.ma 4)) mn (by omega) (by omega)
  have b3 := @modS_in (IntKind.wrap .i64 (Int.tdiv r.ope 2)) 12 (by omega) (by omega)
  have b4 := @modS_in (IntKind.wrap .i64 (Int.tdiv r.mo 2)) 12 (by omega) (by omega)
  have o1 := @gOff_near r.x c.a hc.1
  have o2 := @gOff_near r.y c.b hc.2
  have o3 := @gOff_near r.mx c.a hc.1
  have o4 := @gOff_near r.my c.b hc.2
  have s1 := gSample_in (IntKind.wrap .i64 (Int.tdiv r.op 2)) h0.1 h0.2
  unfold errO
  rw [hb]
  rw [if_neg (by simp [gOp]; cases push <;> simp)]
  rw [if_neg (by
    cases push <;> simp only [gOp, Oq.fields] <;> by_cases q : modS r.ma 4 = 0 <;> simp [q] <;> omega)]
  rw [if_neg (by cases push <;> simp [gOp])]
  rw [if_neg (by
    cases push <;> simp only [gOp] <;> by_cases q : modS r.ma 4 = 0 <;> simp [q] <;> omega)]
  rw [if_neg (by
    simp only [Decidable.not_not, nearB_iff, gOp]
    refine ⟨?_, ?_, ?_, ?_⟩ <;> split <;> omega)]
  rw [if_neg (by simp only [gOp]; split <;> omega)]
  rw [if_neg (by simp only [gOp]; split <;> omega)]
  rw [if_neg (by simp only [gOp]; split <;> omega)]
  rw [if_neg (by
    simp only [gOp]
    intro ⟨h1, h2⟩
    rw [h2] at h1
    simp at h1)]
  rw [if_neg (by omega)]
theorem Scn.bits_max (s : Scn) : mostS s.bits = s.most ∧ bitsOk s.bits = true := by
  have := s.most_in
  unfold Scn.bits
  rcases this with h | h <;> rw [h] <;> decide
theorem Scn.run_okO (s : Scn) (k : Nat) (hk : k ≤ 9) : okO s.bits s.ims.length (s.run k).1 [] = some (s.run k).2 := by
  induction k with
  | zero => rfl
  | succ k ih =>
    have ih := ih (by omega)
    have hl := s.run_len k
    have F := s.c_facts
    have li := s.ims_len
    have hm : 0 ≤ s.most ∧ s.most ≤ 65535 := by rcases s.most_in with h | h <;> rw [h] <;> omega
    by_cases h : modS (rwAt s.rxs (k * 11)).k 8 = 0 ∧ 0 < (s.run k).2.length
    · rw [Scn.run_pop h, okO_app, ih]
      have hne : (s.run k).2 ≠ [] := by intro e; rw [e] at h; simp at h
      show okO _ _ [popO] _ = _
      rw [okO_one (errO_pop hne)]
      rfl
    · obtain ⟨r1, r2⟩ := Scn.run_op h rfl
      have he := @gOp_ok s.bits s.ims.length (rwAt s.rxs (k * 11)) (decide (modS (rwAt s.rxs (k * 11)).k 8 < 3)) s.c s.most (s.run k).2 (by omega) (by omega) s.bits_max.1 hm (by omega)
      have hkd : (gOp (rwAt s.rxs (k * 11)) (decide (modS (rwAt s.rxs (k * 11)).k 8 < 3)) s.ims.length s.c (ctxB (s.run k).2) s.most).kind = if modS (rwAt s.rxs (k * 11)).k 8 < 3 then 2 else 1 := by simp [gOp]
      generalize gOp (rwAt s.rxs (k * 11)) (decide (modS (rwAt s.rxs (k * 11)).k 8 < 3)) s.ims.length s.c (ctxB (s.run k).2) s.most = o at *
      by_cases h2 : o.kind = 2
      · rw [r1 h2, okO_app, ih]
        show okO _ _ [o] _ = _
        rw [okO_one he]
        unfold stepO
        rw [if_pos h2]
      · have h3 : o.kind ≠ 3 := by rw [hkd]; split <;> decide
        rw [r2 h2, okO_app, ih]
        show okO _ _ [o] _ = _
        rw [okO_one he]
        unfold stepO
        rw [if_neg h2, if_neg h3]
theorem Scn.ops_ok (s : Scn) : okO s.bits s.ims.length s.ops [] = some [] := by
  unfold Scn.ops
  rw [okO_app, s.run_okO _ (by omega)]
  show okO _ _ _ _ = _
  rw [okO_pops _ _ (Nat.le_refl _), Nat.sub_self]
  rfl
theorem Scn.ops_len (s : Scn) : s.ops.length ≤ 18 := by
  have := s.run_len (min s.rn 9)
  unfold Scn.ops
  simp; omega
theorem Scn.ord_len (s : Scn) : s.ord.length ≤ 64 := by
  have ht := s.tiles_in
  unfold Scn.ord permL
  split
  · simp
  · have := (stp_len (ints s.oxs) (n := s.tiles.toNat) (by omega) s.tiles.toNat (Nat.le_refl _)).2
    omega
/-! ### its images -/
theorem Scn.fine (s : Scn) : ∀ m ∈ s.ims, m.formed = true ∧ (m.w ≤ 100 ∧ m.h ≤ 100) ∧ m.valid s.most = 0 ∧ ∀ more, (gStrided m more).valid s.most = 0 := by
  have CF := s.c_facts
  have hq : 1 ≤ s.c.c - s.c.a ∧ s.c.c - s.c.a ≤ 100 ∧ 1 ≤ s.c.d - s.c.b ∧ s.c.d - s.c.b ≤ 100 := by have := s.facts; omega
  have hm : 0 ≤ s.most ∧ s.most ≤ 65535 := by rcases s.most_in with h | h <;> rw [h] <;> omega
  have key : ∀ m : Im, m.formed = true → m.w ≤ 100 ∧ m.h ≤ 100 → (∀ p ∈ m.pixels, p.fine s.most) → m.formed = true ∧ (m.w ≤ 100 ∧ m.h ≤ 100) ∧ m.valid s.most = 0 ∧ ∀ more, (gStrided m more).valid s.most = 0 := fun m h1 h2 h3 => by
    refine ⟨h1, h2, (Im.valid_iff h1 _).2 fun p hp => (h3 p hp).1, fun more => (Im.valid_iff (gStrided_formed h1 h2 more) _).2 fun p hp => ?_⟩
    rw [gStrided_pixels h1 h2 more] at hp
    exact (h3 p hp).1
  intro m hmem
  unfold Scn.ims at hmem
  split at hmem
  · rw [List.mem_singleton] at hmem
    subst hmem
    have F := s.facts
    have hf : fitsP s.gw s.gh = true := by
      have := Int.mul_le_mul F.2.2.1.2 F.2.2.2.1.2 (by omega) (by omega)
      simp [fitsP]; omega
    refine key _ (solidIm_formed _ hf) ⟨by show s.gw ≤ 100; omega, by show s.gh ≤ 100; omega⟩ fun p hp => ?_
    change p ∈ (solidIm s.gw s.gh ⟨s.most, 0, 0, s.most, s.most⟩).pixels at hp
    rw [Im.pixels_of (solidIm_formed _ hf), Im.list, List.mem_map] at hp
    obtain ⟨k, _, rfl⟩ := hp
    have e : (solidIm s.gw s.gh ⟨s.most, 0, 0, s.most, s.most⟩).nth k = ⟨s.most, 0, 0, s.most, s.most⟩ := by simp [Im.nth, Im.px, solidIm]
    change ((solidIm s.gw s.gh ⟨s.most, 0, 0, s.most, s.most⟩).nth k).fine s.most
    rw [e]
    exact ⟨by simp [Px.ok]; omega, by simp only; omega, by simp only; omega, by simp only; omega, by simp only; omega⟩
  · simp only [Scn.pics, List.mem_map] at hmem
    obtain ⟨k, _, rfl⟩ := hmem
    obtain ⟨gf, g1, g2, g3, g4⟩ := gImage_facts (nAt s.pxs (k * 5)) (nAt s.pxs (k * 5 + 1)) (nAt s.pxs (k * 5 + 2)) (nAt s.pxs (k * 5 + 3)) (lAt s.pxs (k * 5 + 4)) (cAt s.pxs (k * 5 + 4)) s.c.a s.c.b s.c.c s.c.d s.most hq
    exact key _ gf ⟨g2, g4⟩ fun p hp => gImage_fine _ _ _ _ _ _ _ _ _ _ hm.1 hm.2 hq p hp
end Go.Proofs.Ytkfgmaecbclgfaa

/-
  What the generator makes can be encoded.
-/
namespace Go.Proofs.Ytkfgmaecbclgfaa
open Go.RowKit
set_option linter.unusedVariables false
set_option linter.unusedSimpArgs false

theorem fitL_iff {lo hi : Int} {l : List Int} : fitL lo hi l = true ↔ ∀ v ∈ l, lo ≤ v ∧ v ≤ hi := by
  unfold fitL
  rw [List.all_eq_true]
  simp
theorem opOk_of {o : Oq} (h1 : 0 ≤ o.kind ∧ o.kind ≤ 255) (h2 : 0 ≤ o.image ∧ o.image ≤ 255) (h3 : 0 ≤ o.mask ∧ o.mask ≤ 255) (h4 : 0 ≤ o.oper ∧ o.oper ≤ 255) (h5 : 0 ≤ o.mode ∧ o.mode ≤ 255)
    (h6 : -2147483648 ≤ o.x ∧ o.x ≤ 2147483647) (h7 : -2147483648 ≤ o.y ∧ o.y ≤ 2147483647) (h8 : -2147483648 ≤ o.mx ∧ o.mx ≤ 2147483647) (h9 : -2147483648 ≤ o.my ∧ o.my ≤ 2147483647) : opOk o = true := by
  unfold opOk
  rw [Bool.and_eq_true, fitL_iff, fitL_iff]
  refine ⟨fun v hv => ?_, fun v hv => ?_⟩ <;> simp only [List.mem_cons, List.not_mem_nil, or_false] at hv
  · rcases hv with rfl | rfl | rfl | rfl | rfl <;> assumption
  · rcases hv with rfl | rfl | rfl | rfl <;> assumption
theorem near_of {v : Int} (h : nearB v = true) : -2147483648 ≤ v ∧ v ≤ 2147483647 := by
  unfold nearB at h
  have := of_decide_eq_true h
  omega
theorem errO_opOk {bits : Int} {mn : Nat} {o : Oq} {st : List Oq} (h : errO bits mn o st = 0) (hm : mn ≤ 64) : opOk o = true := by
  unfold errO at h
  split at h
  · cases h
  rename_i k1
  split at h
  · cases h
  rename_i k2
  split at h
  · rename_i k3
    have : o = popO := by
      unfold Oq.fields at k2
      rw [if_pos k3] at k2
      simpa using k2
    subst this
    decide
  rename_i k3
  split at h
  · cases h
  rename_i k4
  split at h
  · cases h
  rename_i k5
  split at h
  · cases h
  split at h
  · cases h
  rename_i k7
  split at h
  · cases h
  rename_i k8
  have k5 := Classical.not_not.1 k5
  have k7 := Classical.not_not.1 k7
  have k8 := Classical.not_not.1 k8
  have k1 := Classical.not_not.1 k1
  have hi : 0 ≤ o.image ∧ o.image ≤ 255 := by
    rcases k1 with k1 | k1 | k1
    · omega
    · unfold Oq.fields at k2
      rw [if_neg k3] at k2
      have : o.image = 0 := by
        by_cases hz : o.image = 0
        · exact hz
        · exact absurd (by simp [k1, hz]) k2
      omega
    · exact absurd k1 k3
  exact opOk_of (by omega) hi (by omega) (by omega) (by omega) (near_of k5.1) (near_of k5.2.1) (near_of k5.2.2.1) (near_of k5.2.2.2)
theorem okO_all {bits : Int} {mn : Nat} : ∀ {l st st' : List Oq}, okO bits mn l st = some st' → ∀ o ∈ l, ∃ s', errO bits mn o s' = 0
  | a :: l, st, st', h, o, ho => by
    simp only [okO] at h
    split at h
    · rcases List.mem_cons.1 ho with rfl | ho
      · exact ⟨st, by assumption⟩
      · exact okO_all h o ho
    · cases h
theorem Scn.ops_fit (s : Scn) : s.ops.all opOk = true := by
  rw [List.all_eq_true]
  intro o ho
  obtain ⟨st, h⟩ := okO_all s.ops_ok o ho
  exact errO_opOk h (by have := s.ims_len; omega)
theorem Scn.ord_fit (s : Scn) : ∀ v ∈ s.ord, 0 ≤ v ∧ v ≤ 4294967295 := by
  intro v hv
  have ht := s.tiles_in
  by_cases hl : (ints s.oxs).length = 0
  · have : s.ord = [] := by unfold Scn.ord permL; rw [if_pos (.inl hl)]
    rw [this] at hv; cases hv
  · have := ((permL_perm hl (by omega : s.tiles ≤ 64)).mem_iff).1 hv
    simp only [upto, List.mem_map, List.mem_range] at this
    obtain ⟨i, hi, rfl⟩ := this
    show 0 ≤ (i : Int) ∧ (i : Int) ≤ 4294967295
    omega
theorem Scn.bits_fit (s : Scn) : s.bits = 8 ∨ s.bits = 16 := by
  have := s.bits_of
  by_cases h : gMax s.b > 255
  · exact .inr (this.1 h).symm
  · exact .inl (this.2 h).symm
theorem sizeIms_small : ∀ {l : List Im}, (∀ m ∈ l, m.formed = true ∧ m.w ≤ 100 ∧ m.h ≤ 100) → sizeIms l ≤ 100009 * (l.length : Int)
  | [], _ => by simp [sizeIms]
  | m :: l, h => by
    have h1 := h m (by simp)
    have h2 := sizeIms_small (l := l) fun m hm => h m (by simp [hm])
    have h3 := formed_w h1.1
    have h4 : m.w * m.h ≤ 10000 := by
      have := Int.mul_le_mul_of_nonneg_left h1.2.2 (by omega : 0 ≤ m.w)
      omega
    have h5 : sizeIm m ≤ 100009 := by unfold sizeIm; split <;> omega
    simp only [sizeIms, List.length_cons]
    omega
/-- a scene's script with other images and operations -/
theorem Scn.enc (s : Scn) {ms : List Im} {os : List Oq} (h1 : ms.length ≤ 64) (h2 : ∀ m ∈ ms, m.formed = true ∧ m.w ≤ 100 ∧ m.h ≤ 100) (h3 : os.length ≤ 100) (h4 : os.all opOk = true) : encOk ⟨s.bits, s.c, s.gtw, s.gth, s.ord, ms, os⟩ = true := by
  obtain ⟨f1, f2, f3, f4, f5, f6⟩ := s.facts
  have CF := s.c_facts
  have hb := s.bits_fit
  have ho := s.ord_len
  have hz := sizeIms_small h2
  have g1 : fitL 0 255 [s.bits] = true := fitL_iff.2 fun v hv => by
    simp only [List.mem_cons, List.not_mem_nil, or_false] at hv
    subst hv
    omega
  have g2 : fitL (-2147483648) 2147483647 [s.c.a, s.c.b, s.c.c, s.c.d] = true := fitL_iff.2 fun v hv => by
    simp only [List.mem_cons, List.not_mem_nil, or_false] at hv
    rcases hv with rfl | rfl | rfl | rfl <;> omega
  have g3 : fitL 0 4294967295 [s.gtw, s.gth] = true := fitL_iff.2 fun v hv => by
    simp only [List.mem_cons, List.not_mem_nil, or_false] at hv
    rcases hv with rfl | rfl <;> omega
  have g4 : fitL 0 4294967295 s.ord = true := fitL_iff.2 s.ord_fit
  have g5 : ms.all Im.formed = true := List.all_eq_true.2 fun m hm => (h2 m hm).1
  simp only [encOk, encHd, g1, g2, g3, g4, g5, h4, sizeS, Bool.and_true, Bool.true_and, Bool.and_eq_true, decide_eq_true_eq]
  exact ⟨⟨h1, by omega⟩, decide_eq_true (by omega)⟩
theorem formed_of {m : Im} {most : Int} (h : m.valid most = 0) : m.formed = true := by
  unfold Im.valid at h
  split at h
  · cases h
  split at h
  · cases h
  rename_i a b
  unfold Im.formed
  simp only [Bool.not_eq_false] at a b
  rw [a, b]; rfl
theorem Scn.str_fine (s : Scn) (more : Int) : ∀ m ∈ s.ims.map (gStrided · more), m.formed = true ∧ m.w ≤ 100 ∧ m.h ≤ 100 := by
  intro m hm
  obtain ⟨m', h', rfl⟩ := List.mem_map.1 hm
  obtain ⟨f1, f2, f3, f4⟩ := s.fine m' h'
  obtain ⟨_, e1, e2, _⟩ := gStrided_so m' more
  exact ⟨formed_of (f4 more), by rw [e1]; exact f2.1, by rw [e2]; exact f2.2⟩
end Go.Proofs.Ytkfgmaecbclgfaa

/-
  Rows of images and operations: writing an element, or a field of one.
-/
namespace Go.Proofs.Ytkfgmaecbclgfaa
open Go.RowKit
set_option linter.unusedVariables false
set_option linter.unusedSimpArgs false

section
variable {α : Type} {f : α → List DV} {m : Nat}
theorem flat_len (hf : ∀ a, (f a).length = m) (l : List α) : (l.flatMap f).length = l.length * m := by
  induction l with
  | nil => simp
  | cons a l ih => rw [List.flatMap_cons, List.length_append, hf, ih, List.length_cons, Nat.add_mul]; omega
theorem flat_take (hf : ∀ a, (f a).length = m) : ∀ (l : List α) (k : Nat), (l.flatMap f).take (k * m) = (l.take k).flatMap f
  | [], k => by simp
  | a :: l, 0 => by simp
  | a :: l, k + 1 => by
    rw [List.flatMap_cons, List.take_succ_cons, List.flatMap_cons, List.take_append, hf, List.take_of_length_le (by rw [hf, Nat.add_mul]; omega), show (k + 1) * m - m = k * m by rw [Nat.add_mul]; omega, flat_take hf l k]
theorem flat_drop (hf : ∀ a, (f a).length = m) : ∀ (l : List α) (k : Nat), (l.flatMap f).drop (k * m) = (l.drop k).flatMap f
  | [], k => by simp
  | a :: l, 0 => by simp
  | a :: l, k + 1 => by
    rw [List.flatMap_cons, List.drop_succ_cons, List.drop_append, hf, List.drop_of_length_le (by rw [hf, Nat.add_mul]; omega), show (k + 1) * m - m = k * m by rw [Nat.add_mul]; omega, flat_drop hf l k, List.nil_append]
theorem flat_sets (hf : ∀ a, (f a).length = m) {l : List α} {k : Nat} (h : k < l.length) (a : α) : sets (l.flatMap f) (k * m) (f a) = (l.set k a).flatMap f := by
  have hle : (k + 1) * m ≤ l.length * m := Nat.mul_le_mul_right _ (by omega)
  rw [sets_eq _ _ _ (by rw [flat_len hf, hf]; rw [Nat.add_mul] at hle; omega), hf, flat_take hf, show k * m + m = (k + 1) * m by rw [Nat.add_mul]; omega, flat_drop hf, List.set_eq_take_append_cons_drop, if_pos h]
  simp
end
theorem ims_sets {l : List Im} {k : Nat} (h : k < l.length) (o : Im) : sets (ims l) (k * 28) o.ds = ims (l.set k o) := flat_sets (f := Im.ds) (m := 28) (fun _ => rfl) h o
/-! ### images with longer rows -/
def strTo (l : List Im) (more : Int) (k : Nat) : List Im := (l.take k).map (gStrided · more) ++ l.drop k
theorem strTo_zero (l : List Im) (more : Int) : strTo l more 0 = l := by simp [strTo]
theorem strTo_len (l : List Im) (more : Int) (k : Nat) : (strTo l more k).length = l.length := by simp [strTo]; omega
theorem strTo_at {l : List Im} {more : Int} {k : Nat} (h : k < l.length) : (strTo l more k)[k]'(by rw [strTo_len]; exact h) = l[k] := by
  have e : ((l.take k).map (gStrided · more)).length = k := by simp; omega
  simp only [strTo]
  rw [List.getElem_append_right (by omega), List.getElem_drop]
  congr 1
  rw [e]; omega
theorem strTo_succ {l : List Im} {more : Int} {k : Nat} (h : k < l.length) : (strTo l more k).set k (gStrided l[k] more) = strTo l more (k + 1) := by
  have e : ((l.take k).map (gStrided · more)).length = k := by simp; omega
  simp only [strTo]
  rw [List.set_append_right _ _ (by omega), e, Nat.sub_self, List.drop_eq_getElem_cons h, List.set_cons_zero, List.take_add_one, List.getElem?_eq_getElem h, List.map_append, List.append_assoc]
  rfl
theorem strTo_all (l : List Im) (more : Int) : strTo l more l.length = l.map (gStrided · more) := by simp [strTo]
end Go.Proofs.Ytkfgmaecbclgfaa

/-
  Images with longer rows.
-/
namespace Go.Proofs.Ytkfgmaecbclgfaa
open Go.RowKit
set_option linter.unusedVariables false
set_option linter.unusedSimpArgs false
attribute [local irreducible] Ans AnsO AnsG AnsN AnsI

set_option maxRecDepth 4000
def gamK : Gam where
 pure := fun f xs =>
  if f = 16 then (match xs with | [.d (.int _ n), .d (.int _ k)] => some (RV.d (DV.int .i64 (modS n k))) | _ => none) else
  if f = 82 then (match xs with | [.agg [.int _ a, .int _ b, .int _ c, .int _ d]] => some (RV.d (DV.bool (Rc.valid ⟨a, b, c, d⟩))) | _ => none) else
  if f = 58 then (match xs with | [.agg [.int _ a, .int _ b, .int _ c, .int _ d]] => some (RV.d (DV.bool (Rc.empty ⟨a, b, c, d⟩))) | _ => none) else
  if f = 90 then (match xs with | [.d (.int _ w), .d (.int _ h)] => some (RV.d (DV.bool (fitsP w h))) | _ => none) else
  if f = 70 then (match xs with | [.d (.int _ w), .d (.int _ h)] => some (RV.d (DV.bool (fitsP w h))) | _ => none) else
  if f = 94 then (match xs with | [.d (.int _ w), .d (.int _ h)] => some (RV.d (DV.bool (fitsP w h))) | _ => none) else
  if f = 91 then (match xs with | [.agg [.int _ w, .int _ h, .int _ s, .sl n xs]] => some (RV.d (DV.bool (zeroPl ⟨w, h, s, n, xs⟩))) | _ => none) else
  if f = 95 then (match xs with | [.d (.int _ w), .d (.int _ h), .d (.int _ s)] => some (RV.d (DV.int .i64 (lenW w h s))) | _ => none) else
  if f = 92 then (match xs with | [.agg [.int _ w, .int _ h, .int _ s, .sl n xs]] => some (RV.d (DV.bool (validP w h s n))) | _ => none) else
  if f = 86 then (match xs with | [.agg [.int _ w, .int _ h, .int _ s, .sl n xs]] => some (RV.d (DV.bool (validP w h s n))) | _ => none) else
  if f = 85 then (match xs with | [.agg [.int _ c0, .int _ c1, .int _ c2, .int _ ca, .int _ cf], .d (.int _ most)] => some (RV.d (DV.bool (Px.ok ⟨c0, c1, c2, ca, cf⟩ most))) | _ => none) else
  if f = 79 then (match xs with | [.agg [.int _ w, .int _ h, .bool so, .int _ c0, .int _ c1, .int _ c2, .int _ ca, .int _ cf, .int _ w0, .int _ h0, .int _ s0, .sl n0 xs0, .int _ w1, .int _ h1, .int _ s1, .sl n1 xs1, .int _ w2, .int _ h2, .int _ s2, .sl n2 xs2, .int _ w3, .int _ h3, .int _ s3, .sl n3 xs3, .int _ w4, .int _ h4, .int _ s4, .sl n4 xs4]] => some (RV.d (DV.bool (Im.formed ⟨w, h, so, ⟨c0, c1, c2, ca, cf⟩, ⟨w0, h0, s0, n0, xs0⟩, ⟨w1, h1, s1, n1, xs1⟩, ⟨w2, h2, s2, n2, xs2⟩, ⟨w3, h3, s3, n3, xs3⟩, ⟨w4, h4, s4, n4, xs4⟩⟩))) | _ => none) else
  if f = 71 then (match xs with | [.agg [.int _ w, .int _ h, .bool so, .int _ c0, .int _ c1, .int _ c2, .int _ ca, .int _ cf, .int _ w0, .int _ h0, .int _ s0, .sl n0 xs0, .int _ w1, .int _ h1, .int _ s1, .sl n1 xs1, .int _ w2, .int _ h2, .int _ s2, .sl n2 xs2, .int _ w3, .int _ h3, .int _ s3, .sl n3 xs3, .int _ w4, .int _ h4, .int _ s4, .sl n4 xs4]] => some (RV.d (DV.bool (Im.inner ⟨w, h, so, ⟨c0, c1, c2, ca, cf⟩, ⟨w0, h0, s0, n0, xs0⟩, ⟨w1, h1, s1, n1, xs1⟩, ⟨w2, h2, s2, n2, xs2⟩, ⟨w3, h3, s3, n3, xs3⟩, ⟨w4, h4, s4, n4, xs4⟩⟩))) | _ => none) else
  if f = 42 then (match xs with | [.agg [.int _ w, .int _ h, .bool so, .int _ c0, .int _ c1, .int _ c2, .int _ ca, .int _ cf, .int _ w0, .int _ h0, .int _ s0, .sl n0 xs0, .int _ w1, .int _ h1, .int _ s1, .sl n1 xs1, .int _ w2, .int _ h2, .int _ s2, .sl n2 xs2, .int _ w3, .int _ h3, .int _ s3, .sl n3 xs3, .int _ w4, .int _ h4, .int _ s4, .sl n4 xs4]] => some (RV.d (DV.bool (Im.formed ⟨w, h, so, ⟨c0, c1, c2, ca, cf⟩, ⟨w0, h0, s0, n0, xs0⟩, ⟨w1, h1, s1, n1, xs1⟩, ⟨w2, h2, s2, n2, xs2⟩, ⟨w3, h3, s3, n3, xs3⟩, ⟨w4, h4, s4, n4, xs4⟩⟩))) | _ => none) else
  if f = 81 then (match xs with | [.agg [.int _ w, .int _ h, .bool so, .int _ c0, .int _ c1, .int _ c2, .int _ ca, .int _ cf, .int _ w0, .int _ h0, .int _ s0, .sl n0 xs0, .int _ w1, .int _ h1, .int _ s1, .sl n1 xs1, .int _ w2, .int _ h2, .int _ s2, .sl n2 xs2, .int _ w3, .int _ h3, .int _ s3, .sl n3 xs3, .int _ w4, .int _ h4, .int _ s4, .sl n4 xs4], .d (.int _ x), .d (.int _ y)] => some (RV.agg [DV.int .u16 ((Im.px ⟨w, h, so, ⟨c0, c1, c2, ca, cf⟩, ⟨w0, h0, s0, n0, xs0⟩, ⟨w1, h1, s1, n1, xs1⟩, ⟨w2, h2, s2, n2, xs2⟩, ⟨w3, h3, s3, n3, xs3⟩, ⟨w4, h4, s4, n4, xs4⟩⟩ x y).a), DV.int .u16 ((Im.px ⟨w, h, so, ⟨c0, c1, c2, ca, cf⟩, ⟨w0, h0, s0, n0, xs0⟩, ⟨w1, h1, s1, n1, xs1⟩, ⟨w2, h2, s2, n2, xs2⟩, ⟨w3, h3, s3, n3, xs3⟩, ⟨w4, h4, s4, n4, xs4⟩⟩ x y).b), DV.int .u16 ((Im.px ⟨w, h, so, ⟨c0, c1, c2, ca, cf⟩, ⟨w0, h0, s0, n0, xs0⟩, ⟨w1, h1, s1, n1, xs1⟩, ⟨w2, h2, s2, n2, xs2⟩, ⟨w3, h3, s3, n3, xs3⟩, ⟨w4, h4, s4, n4, xs4⟩⟩ x y).c), DV.int .u16 ((Im.px ⟨w, h, so, ⟨c0, c1, c2, ca, cf⟩, ⟨w0, h0, s0, n0, xs0⟩, ⟨w1, h1, s1, n1, xs1⟩, ⟨w2, h2, s2, n2, xs2⟩, ⟨w3, h3, s3, n3, xs3⟩, ⟨w4, h4, s4, n4, xs4⟩⟩ x y).al), DV.int .u16 ((Im.px ⟨w, h, so, ⟨c0, c1, c2, ca, cf⟩, ⟨w0, h0, s0, n0, xs0⟩, ⟨w1, h1, s1, n1, xs1⟩, ⟨w2, h2, s2, n2, xs2⟩, ⟨w3, h3, s3, n3, xs3⟩, ⟨w4, h4, s4, n4, xs4⟩⟩ x y).f)]) | _ => none) else
  if f = 67 then (match xs with | [.agg [.int _ w, .int _ h, .bool so, .int _ c0, .int _ c1, .int _ c2, .int _ ca, .int _ cf, .int _ w0, .int _ h0, .int _ s0, .sl n0 xs0, .int _ w1, .int _ h1, .int _ s1, .sl n1 xs1, .int _ w2, .int _ h2, .int _ s2, .sl n2 xs2, .int _ w3, .int _ h3, .int _ s3, .sl n3 xs3, .int _ w4, .int _ h4, .int _ s4, .sl n4 xs4], .d (.int _ x), .d (.int _ y)] => some (RV.agg [DV.int .u16 ((Im.px ⟨w, h, so, ⟨c0, c1, c2, ca, cf⟩, ⟨w0, h0, s0, n0, xs0⟩, ⟨w1, h1, s1, n1, xs1⟩, ⟨w2, h2, s2, n2, xs2⟩, ⟨w3, h3, s3, n3, xs3⟩, ⟨w4, h4, s4, n4, xs4⟩⟩ x y).a), DV.int .u16 ((Im.px ⟨w, h, so, ⟨c0, c1, c2, ca, cf⟩, ⟨w0, h0, s0, n0, xs0⟩, ⟨w1, h1, s1, n1, xs1⟩, ⟨w2, h2, s2, n2, xs2⟩, ⟨w3, h3, s3, n3, xs3⟩, ⟨w4, h4, s4, n4, xs4⟩⟩ x y).b), DV.int .u16 ((Im.px ⟨w, h, so, ⟨c0, c1, c2, ca, cf⟩, ⟨w0, h0, s0, n0, xs0⟩, ⟨w1, h1, s1, n1, xs1⟩, ⟨w2, h2, s2, n2, xs2⟩, ⟨w3, h3, s3, n3, xs3⟩, ⟨w4, h4, s4, n4, xs4⟩⟩ x y).c), DV.int .u16 ((Im.px ⟨w, h, so, ⟨c0, c1, c2, ca, cf⟩, ⟨w0, h0, s0, n0, xs0⟩, ⟨w1, h1, s1, n1, xs1⟩, ⟨w2, h2, s2, n2, xs2⟩, ⟨w3, h3, s3, n3, xs3⟩, ⟨w4, h4, s4, n4, xs4⟩⟩ x y).al), DV.int .u16 ((Im.px ⟨w, h, so, ⟨c0, c1, c2, ca, cf⟩, ⟨w0, h0, s0, n0, xs0⟩, ⟨w1, h1, s1, n1, xs1⟩, ⟨w2, h2, s2, n2, xs2⟩, ⟨w3, h3, s3, n3, xs3⟩, ⟨w4, h4, s4, n4, xs4⟩⟩ x y).f)]) | _ => none) else
  if f = 84 then (match xs with | [.agg [.int _ w, .int _ h, .bool so, .int _ c0, .int _ c1, .int _ c2, .int _ ca, .int _ cf, .int _ w0, .int _ h0, .int _ s0, .sl n0 xs0, .int _ w1, .int _ h1, .int _ s1, .sl n1 xs1, .int _ w2, .int _ h2, .int _ s2, .sl n2 xs2, .int _ w3, .int _ h3, .int _ s3, .sl n3 xs3, .int _ w4, .int _ h4, .int _ s4, .sl n4 xs4]] => some (RV.d (DV.int .i64 (Im.shape ⟨w, h, so, ⟨c0, c1, c2, ca, cf⟩, ⟨w0, h0, s0, n0, xs0⟩, ⟨w1, h1, s1, n1, xs1⟩, ⟨w2, h2, s2, n2, xs2⟩, ⟨w3, h3, s3, n3, xs3⟩, ⟨w4, h4, s4, n4, xs4⟩⟩))) | _ => none) else
  if f = 87 then (match xs with | [.d (.int _ w), .d (.int _ h), .agg [.int _ c0, .int _ c1, .int _ c2, .int _ ca, .int _ cf]] => some (RV.agg [DV.int .i64 ((solidIm w h ⟨c0, c1, c2, ca, cf⟩).w), DV.int .i64 ((solidIm w h ⟨c0, c1, c2, ca, cf⟩).h), DV.bool ((solidIm w h ⟨c0, c1, c2, ca, cf⟩).so), DV.int .u16 (((solidIm w h ⟨c0, c1, c2, ca, cf⟩).c).a), DV.int .u16 (((solidIm w h ⟨c0, c1, c2, ca, cf⟩).c).b), DV.int .u16 (((solidIm w h ⟨c0, c1, c2, ca, cf⟩).c).c), DV.int .u16 (((solidIm w h ⟨c0, c1, c2, ca, cf⟩).c).al), DV.int .u16 (((solidIm w h ⟨c0, c1, c2, ca, cf⟩).c).f), DV.int .i64 (((solidIm w h ⟨c0, c1, c2, ca, cf⟩).p0).w), DV.int .i64 (((solidIm w h ⟨c0, c1, c2, ca, cf⟩).p0).h), DV.int .i64 (((solidIm w h ⟨c0, c1, c2, ca, cf⟩).p0).s), DV.sl (((solidIm w h ⟨c0, c1, c2, ca, cf⟩).p0).n) (((solidIm w h ⟨c0, c1, c2, ca, cf⟩).p0).xs), DV.int .i64 (((solidIm w h ⟨c0, c1, c2, ca, cf⟩).p1).w), DV.int .i64 (((solidIm w h ⟨c0, c1, c2, ca, cf⟩).p1).h), DV.int .i64 (((solidIm w h ⟨c0, c1, c2, ca, cf⟩).p1).s), DV.sl (((solidIm w h ⟨c0, c1, c2, ca, cf⟩).p1).n) (((solidIm w h ⟨c0, c1, c2, ca, cf⟩).p1).xs), DV.int .i64 (((solidIm w h ⟨c0, c1, c2, ca, cf⟩).p2).w), DV.int .i64 (((solidIm w h ⟨c0, c1, c2, ca, cf⟩).p2).h), DV.int .i64 (((solidIm w h ⟨c0, c1, c2, ca, cf⟩).p2).s), DV.sl (((solidIm w h ⟨c0, c1, c2, ca, cf⟩).p2).n) (((solidIm w h ⟨c0, c1, c2, ca, cf⟩).p2).xs), DV.int .i64 (((solidIm w h ⟨c0, c1, c2, ca, cf⟩).p3).w), DV.int .i64 (((solidIm w h ⟨c0, c1, c2, ca, cf⟩).p3).h), DV.int .i64 (((solidIm w h ⟨c0, c1, c2, ca, cf⟩).p3).s), DV.sl (((solidIm w h ⟨c0, c1, c2, ca, cf⟩).p3).n) (((solidIm w h ⟨c0, c1, c2, ca, cf⟩).p3).xs), DV.int .i64 (((solidIm w h ⟨c0, c1, c2, ca, cf⟩).p4).w), DV.int .i64 (((solidIm w h ⟨c0, c1, c2, ca, cf⟩).p4).h), DV.int .i64 (((solidIm w h ⟨c0, c1, c2, ca, cf⟩).p4).s), DV.sl (((solidIm w h ⟨c0, c1, c2, ca, cf⟩).p4).n) (((solidIm w h ⟨c0, c1, c2, ca, cf⟩).p4).xs)]) | _ => none) else
  if f = 69 then (match xs with | [.agg [.int _ w, .int _ h, .bool so, .int _ c0, .int _ c1, .int _ c2, .int _ ca, .int _ cf, .int _ w0, .int _ h0, .int _ s0, .sl n0 xs0, .int _ w1, .int _ h1, .int _ s1, .sl n1 xs1, .int _ w2, .int _ h2, .int _ s2, .sl n2 xs2, .int _ w3, .int _ h3, .int _ s3, .sl n3 xs3, .int _ w4, .int _ h4, .int _ s4, .sl n4 xs4], .d (.int _ most)] => some (RV.d (DV.int .i64 (Im.valid ⟨w, h, so, ⟨c0, c1, c2, ca, cf⟩, ⟨w0, h0, s0, n0, xs0⟩, ⟨w1, h1, s1, n1, xs1⟩, ⟨w2, h2, s2, n2, xs2⟩, ⟨w3, h3, s3, n3, xs3⟩, ⟨w4, h4, s4, n4, xs4⟩⟩ most))) | _ => none) else
  if f = 65 then (match xs with | [] => some (RV.tup [RV.tup [RV.d (DV.int .i64 37), RV.d (DV.int .i64 5)]]) | [.agg [.int _ w, .int _ h, .bool so, .int _ c0, .int _ c1, .int _ c2, .int _ ca, .int _ cf, .int _ w0, .int _ h0, .int _ s0, .sl n0 xs0, .int _ w1, .int _ h1, .int _ s1, .sl n1 xs1, .int _ w2, .int _ h2, .int _ s2, .sl n2 xs2, .int _ w3, .int _ h3, .int _ s3, .sl n3 xs3, .int _ w4, .int _ h4, .int _ s4, .sl n4 xs4]] => some (RV.d (DV.sl ((Im.pixels ⟨w, h, so, ⟨c0, c1, c2, ca, cf⟩, ⟨w0, h0, s0, n0, xs0⟩, ⟨w1, h1, s1, n1, xs1⟩, ⟨w2, h2, s2, n2, xs2⟩, ⟨w3, h3, s3, n3, xs3⟩, ⟨w4, h4, s4, n4, xs4⟩⟩).length) (pxs (Im.pixels ⟨w, h, so, ⟨c0, c1, c2, ca, cf⟩, ⟨w0, h0, s0, n0, xs0⟩, ⟨w1, h1, s1, n1, xs1⟩, ⟨w2, h2, s2, n2, xs2⟩, ⟨w3, h3, s3, n3, xs3⟩, ⟨w4, h4, s4, n4, xs4⟩⟩)))) | _ => none) else
  if f = 34 then (match xs with | [] => some (RV.tup [RV.tup [RV.d (DV.int .i64 37), RV.d (DV.int .i64 5)]]) | [.agg [.int _ w, .int _ h, .bool so, .int _ c0, .int _ c1, .int _ c2, .int _ ca, .int _ cf, .int _ w0, .int _ h0, .int _ s0, .sl n0 xs0, .int _ w1, .int _ h1, .int _ s1, .sl n1 xs1, .int _ w2, .int _ h2, .int _ s2, .sl n2 xs2, .int _ w3, .int _ h3, .int _ s3, .sl n3 xs3, .int _ w4, .int _ h4, .int _ s4, .sl n4 xs4]] => some (RV.d (DV.sl ((Im.pixels ⟨w, h, so, ⟨c0, c1, c2, ca, cf⟩, ⟨w0, h0, s0, n0, xs0⟩, ⟨w1, h1, s1, n1, xs1⟩, ⟨w2, h2, s2, n2, xs2⟩, ⟨w3, h3, s3, n3, xs3⟩, ⟨w4, h4, s4, n4, xs4⟩⟩).length) (pxs (Im.pixels ⟨w, h, so, ⟨c0, c1, c2, ca, cf⟩, ⟨w0, h0, s0, n0, xs0⟩, ⟨w1, h1, s1, n1, xs1⟩, ⟨w2, h2, s2, n2, xs2⟩, ⟨w3, h3, s3, n3, xs3⟩, ⟨w4, h4, s4, n4, xs4⟩⟩)))) | _ => none) else
  if f = 54 then (match xs with | [.agg [.int _ w, .int _ h, .bool so, .int _ c0, .int _ c1, .int _ c2, .int _ ca, .int _ cf, .int _ w0, .int _ h0, .int _ s0, .sl n0 xs0, .int _ w1, .int _ h1, .int _ s1, .sl n1 xs1, .int _ w2, .int _ h2, .int _ s2, .sl n2 xs2, .int _ w3, .int _ h3, .int _ s3, .sl n3 xs3, .int _ w4, .int _ h4, .int _ s4, .sl n4 xs4], .agg [.int _ w', .int _ h', .bool so', .int _ c0', .int _ c1', .int _ c2', .int _ ca', .int _ cf', .int _ w0', .int _ h0', .int _ s0', .sl n0' xs0', .int _ w1', .int _ h1', .int _ s1', .sl n1' xs1', .int _ w2', .int _ h2', .int _ s2', .sl n2' xs2', .int _ w3', .int _ h3', .int _ s3', .sl n3' xs3', .int _ w4', .int _ h4', .int _ s4', .sl n4' xs4']] => some (RV.d (DV.bool (Im.equal ⟨w, h, so, ⟨c0, c1, c2, ca, cf⟩, ⟨w0, h0, s0, n0, xs0⟩, ⟨w1, h1, s1, n1, xs1⟩, ⟨w2, h2, s2, n2, xs2⟩, ⟨w3, h3, s3, n3, xs3⟩, ⟨w4, h4, s4, n4, xs4⟩⟩ ⟨w', h', so', ⟨c0', c1', c2', ca', cf'⟩, ⟨w0', h0', s0', n0', xs0'⟩, ⟨w1', h1', s1', n1', xs1'⟩, ⟨w2', h2', s2', n2', xs2'⟩, ⟨w3', h3', s3', n3', xs3'⟩, ⟨w4', h4', s4', n4', xs4'⟩⟩))) | _ => none) else
  if f = 52 then (match xs with | [.agg [.int _ w, .int _ h, .bool so, .int _ c0, .int _ c1, .int _ c2, .int _ ca, .int _ cf, .int _ w0, .int _ h0, .int _ s0, .sl n0 xs0, .int _ w1, .int _ h1, .int _ s1, .sl n1 xs1, .int _ w2, .int _ h2, .int _ s2, .sl n2 xs2, .int _ w3, .int _ h3, .int _ s3, .sl n3 xs3, .int _ w4, .int _ h4, .int _ s4, .sl n4 xs4], .agg [.int _ w', .int _ h', .bool so', .int _ c0', .int _ c1', .int _ c2', .int _ ca', .int _ cf', .int _ w0', .int _ h0', .int _ s0', .sl n0' xs0', .int _ w1', .int _ h1', .int _ s1', .sl n1' xs1', .int _ w2', .int _ h2', .int _ s2', .sl n2' xs2', .int _ w3', .int _ h3', .int _ s3', .sl n3' xs3', .int _ w4', .int _ h4', .int _ s4', .sl n4' xs4']] => some (RV.d (DV.bool (Im.equal ⟨w, h, so, ⟨c0, c1, c2, ca, cf⟩, ⟨w0, h0, s0, n0, xs0⟩, ⟨w1, h1, s1, n1, xs1⟩, ⟨w2, h2, s2, n2, xs2⟩, ⟨w3, h3, s3, n3, xs3⟩, ⟨w4, h4, s4, n4, xs4⟩⟩ ⟨w', h', so', ⟨c0', c1', c2', ca', cf'⟩, ⟨w0', h0', s0', n0', xs0'⟩, ⟨w1', h1', s1', n1', xs1'⟩, ⟨w2', h2', s2', n2', xs2'⟩, ⟨w3', h3', s3', n3', xs3'⟩, ⟨w4', h4', s4', n4', xs4'⟩⟩))) | _ => none) else
  if f = 78 then (match xs with | [.d (.sl n xs), .d (.sl m ys)] => some (RV.d (DV.bool (decide (toPxs xs = toPxs ys)))) | _ => none) else
  if f = 23 then (match xs with | [.d (.int _ n)] => some (RV.d (DV.int .u16 (gMax n))) | _ => none) else
  if f = 63 then (match xs with | [.d (.int _ n), .d (.int _ most)] => some (RV.d (DV.int .u16 (gSample n most))) | _ => none) else
  if f = 83 then (match xs with | [.agg [.int _ n0, .int _ n1, .int _ n2, .int _ n3, .int _ n4], .d (.int _ most)] => some (RV.agg [DV.int .u16 ((gPixel n0 n1 n2 n3 n4 most).a), DV.int .u16 ((gPixel n0 n1 n2 n3 n4 most).b), DV.int .u16 ((gPixel n0 n1 n2 n3 n4 most).c), DV.int .u16 ((gPixel n0 n1 n2 n3 n4 most).al), DV.int .u16 ((gPixel n0 n1 n2 n3 n4 most).f)]) | _ => none) else
  if f = 60 then (match xs with | [] => some (RV.tup [RV.tup [RV.d (DV.int .i64 37), RV.d (DV.int .i64 5)]]) | [.agg [.int _ mood, .sl L xs], .d (.int _ n), .d (.int _ most)] => some (RV.d (DV.sl n.toNat (pxs (gPixels mood L xs most n.toNat)))) | _ => none) else
  if f = 10 then (match xs with | [.agg [.int _ w, .int _ h, .bool so, .int _ c0, .int _ c1, .int _ c2, .int _ ca, .int _ cf, .int _ w0, .int _ h0, .int _ s0, .sl n0 xs0, .int _ w1, .int _ h1, .int _ s1, .sl n1 xs1, .int _ w2, .int _ h2, .int _ s2, .sl n2 xs2, .int _ w3, .int _ h3, .int _ s3, .sl n3 xs3, .int _ w4, .int _ h4, .int _ s4, .sl n4 xs4], .d (.int _ more)] => some (RV.agg [DV.int .i64 ((gStrided ⟨w, h, so, ⟨c0, c1, c2, ca, cf⟩, ⟨w0, h0, s0, n0, xs0⟩, ⟨w1, h1, s1, n1, xs1⟩, ⟨w2, h2, s2, n2, xs2⟩, ⟨w3, h3, s3, n3, xs3⟩, ⟨w4, h4, s4, n4, xs4⟩⟩ more).w), DV.int .i64 ((gStrided ⟨w, h, so, ⟨c0, c1, c2, ca, cf⟩, ⟨w0, h0, s0, n0, xs0⟩, ⟨w1, h1, s1, n1, xs1⟩, ⟨w2, h2, s2, n2, xs2⟩, ⟨w3, h3, s3, n3, xs3⟩, ⟨w4, h4, s4, n4, xs4⟩⟩ more).h), DV.bool ((gStrided ⟨w, h, so, ⟨c0, c1, c2, ca, cf⟩, ⟨w0, h0, s0, n0, xs0⟩, ⟨w1, h1, s1, n1, xs1⟩, ⟨w2, h2, s2, n2, xs2⟩, ⟨w3, h3, s3, n3, xs3⟩, ⟨w4, h4, s4, n4, xs4⟩⟩ more).so), DV.int .u16 (((gStrided ⟨w, h, so, ⟨c0, c1, c2, ca, cf⟩, ⟨w0, h0, s0, n0, xs0⟩, ⟨w1, h1, s1, n1, xs1⟩, ⟨w2, h2, s2, n2, xs2⟩, ⟨w3, h3, s3, n3, xs3⟩, ⟨w4, h4, s4, n4, xs4⟩⟩ more).c).a), DV.int .u16 (((gStrided ⟨w, h, so, ⟨c0, c1, c2, ca, cf⟩, ⟨w0, h0, s0, n0, xs0⟩, ⟨w1, h1, s1, n1, xs1⟩, ⟨w2, h2, s2, n2, xs2⟩, ⟨w3, h3, s3, n3, xs3⟩, ⟨w4, h4, s4, n4, xs4⟩⟩ more).c).b), DV.int .u16 (((gStrided ⟨w, h, so, ⟨c0, c1, c2, ca, cf⟩, ⟨w0, h0, s0, n0, xs0⟩, ⟨w1, h1, s1, n1, xs1⟩, ⟨w2, h2, s2, n2, xs2⟩, ⟨w3, h3, s3, n3, xs3⟩, ⟨w4, h4, s4, n4, xs4⟩⟩ more).c).c), DV.int .u16 (((gStrided ⟨w, h, so, ⟨c0, c1, c2, ca, cf⟩, ⟨w0, h0, s0, n0, xs0⟩, ⟨w1, h1, s1, n1, xs1⟩, ⟨w2, h2, s2, n2, xs2⟩, ⟨w3, h3, s3, n3, xs3⟩, ⟨w4, h4, s4, n4, xs4⟩⟩ more).c).al), DV.int .u16 (((gStrided ⟨w, h, so, ⟨c0, c1, c2, ca, cf⟩, ⟨w0, h0, s0, n0, xs0⟩, ⟨w1, h1, s1, n1, xs1⟩, ⟨w2, h2, s2, n2, xs2⟩, ⟨w3, h3, s3, n3, xs3⟩, ⟨w4, h4, s4, n4, xs4⟩⟩ more).c).f), DV.int .i64 (((gStrided ⟨w, h, so, ⟨c0, c1, c2, ca, cf⟩, ⟨w0, h0, s0, n0, xs0⟩, ⟨w1, h1, s1, n1, xs1⟩, ⟨w2, h2, s2, n2, xs2⟩, ⟨w3, h3, s3, n3, xs3⟩, ⟨w4, h4, s4, n4, xs4⟩⟩ more).p0).w), DV.int .i64 (((gStrided ⟨w, h, so, ⟨c0, c1, c2, ca, cf⟩, ⟨w0, h0, s0, n0, xs0⟩, ⟨w1, h1, s1, n1, xs1⟩, ⟨w2, h2, s2, n2, xs2⟩, ⟨w3, h3, s3, n3, xs3⟩, ⟨w4, h4, s4, n4, xs4⟩⟩ more).p0).h), DV.int .i64 (((gStrided ⟨w, h, so, ⟨c0, c1, c2, ca, cf⟩, ⟨w0, h0, s0, n0, xs0⟩, ⟨w1, h1, s1, n1, xs1⟩, ⟨w2, h2, s2, n2, xs2⟩, ⟨w3, h3, s3, n3, xs3⟩, ⟨w4, h4, s4, n4, xs4⟩⟩ more).p0).s), DV.sl (((gStrided ⟨w, h, so, ⟨c0, c1, c2, ca, cf⟩, ⟨w0, h0, s0, n0, xs0⟩, ⟨w1, h1, s1, n1, xs1⟩, ⟨w2, h2, s2, n2, xs2⟩, ⟨w3, h3, s3, n3, xs3⟩, ⟨w4, h4, s4, n4, xs4⟩⟩ more).p0).n) (((gStrided ⟨w, h, so, ⟨c0, c1, c2, ca, cf⟩, ⟨w0, h0, s0, n0, xs0⟩, ⟨w1, h1, s1, n1, xs1⟩, ⟨w2, h2, s2, n2, xs2⟩, ⟨w3, h3, s3, n3, xs3⟩, ⟨w4, h4, s4, n4, xs4⟩⟩ more).p0).xs), DV.int .i64 (((gStrided ⟨w, h, so, ⟨c0, c1, c2, ca, cf⟩, ⟨w0, h0, s0, n0, xs0⟩, ⟨w1, h1, s1, n1, xs1⟩, ⟨w2, h2, s2, n2, xs2⟩, ⟨w3, h3, s3, n3, xs3⟩, ⟨w4, h4, s4, n4, xs4⟩⟩ more).p1).w), DV.int .i64 (((gStrided ⟨w, h, so, ⟨c0, c1, c2, ca, cf⟩, ⟨w0, h0, s0, n0, xs0⟩, ⟨w1, h1, s1, n1, xs1⟩, ⟨w2, h2, s2, n2, xs2⟩, ⟨w3, h3, s3, n3, xs3⟩, ⟨w4, h4, s4, n4, xs4⟩⟩ more).p1).h), DV.int .i64 (((gStrided ⟨w, h, so, ⟨c0, c1, c2, ca, cf⟩, ⟨w0, h0, s0, n0, xs0⟩, ⟨w1, h1, s1, n1, xs1⟩, ⟨w2, h2, s2, n2, xs2⟩, ⟨w3, h3, s3, n3, xs3⟩, ⟨w4, h4, s4, n4, xs4⟩⟩ more).p1).s), DV.sl (((gStrided ⟨w, h, so, ⟨c0, c1, c2, ca, cf⟩, ⟨w0, h0, s0, n0, xs0⟩, ⟨w1, h1, s1, n1, xs1⟩, ⟨w2, h2, s2, n2, xs2⟩, ⟨w3, h3, s3, n3, xs3⟩, ⟨w4, h4, s4, n4, xs4⟩⟩ more).p1).n) (((gStrided ⟨w, h, so, ⟨c0, c1, c2, ca, cf⟩, ⟨w0, h0, s0, n0, xs0⟩, ⟨w1, h1, s1, n1, xs1⟩, ⟨w2, h2, s2, n2, xs2⟩, ⟨w3, h3, s3, n3, xs3⟩, ⟨w4, h4, s4, n4, xs4⟩⟩ more).p1).xs), DV.int .i64 (((gStrided ⟨w, h, so, ⟨c0, c1, c2, ca, cf⟩, ⟨w0, h0, s0, n0, xs0⟩, ⟨w1, h1, s1, n1, xs1⟩, ⟨w2, h2, s2, n2, xs2⟩, ⟨w3, h3, s3, n3, xs3⟩, ⟨w4, h4, s4, n4, xs4⟩⟩ more).p2).w), DV.int .i64 (((gStrided ⟨w, h, so, ⟨c0, c1, c2, ca, cf⟩, ⟨w0, h0, s0, n0, xs0⟩, ⟨w1, h1, s1, n1, xs1⟩, ⟨w2, h2, s2, n2, xs2⟩, ⟨w3, h3, s3, n3, xs3⟩, ⟨w4, h4, s4, n4, xs4⟩⟩ more).p2).h), DV.int .i64 (((gStrided ⟨w, h, so, ⟨c0, c1, c2, ca, cf⟩, ⟨w0, h0, s0, n0, xs0⟩, ⟨w1, h1, s1, n1, xs1⟩, ⟨w2, h2, s2, n2, xs2⟩, ⟨w3, h3, s3, n3, xs3⟩, ⟨w4, h4, s4, n4, xs4⟩⟩ more).p2).s), DV.sl (((gStrided ⟨w, h, so, ⟨c0, c1, c2, ca, cf⟩, ⟨w0, h0, s0, n0, xs0⟩, ⟨w1, h1, s1, n1, xs1⟩, ⟨w2, h2, s2, n2, xs2⟩, ⟨w3, h3, s3, n3, xs3⟩, ⟨w4, h4, s4, n4, xs4⟩⟩ more).p2).n) (((gStrided ⟨w, h, so, ⟨c0, c1, c2, ca, cf⟩, ⟨w0, h0, s0, n0, xs0⟩, ⟨w1, h1, s1, n1, xs1⟩, ⟨w2, h2, s2, n2, xs2⟩, ⟨w3, h3, s3, n3, xs3⟩, ⟨w4, h4, s4, n4, xs4⟩⟩ more).p2).xs), DV.int .i64 (((gStrided ⟨w, h, so, ⟨c0, c1, c2, ca, cf⟩, ⟨w0, h0, s0, n0, xs0⟩, ⟨w1, h1, s1, n1, xs1⟩, ⟨w2, h2, s2, n2, xs2⟩, ⟨w3, h3, s3, n3, xs3⟩, ⟨w4, h4, s4, n4, xs4⟩⟩ more).p3).w), DV.int .i64 (((gStrided ⟨w, h, so, ⟨c0, c1, c2, ca, cf⟩, ⟨w0, h0, s0, n0, xs0⟩, ⟨w1, h1, s1, n1, xs1⟩, ⟨w2, h2, s2, n2, xs2⟩, ⟨w3, h3, s3, n3, xs3⟩, ⟨w4, h4, s4, n4, xs4⟩⟩ more).p3).h), DV.int .i64 (((gStrided ⟨w, h, so, ⟨c0, c1, c2, ca, cf⟩, ⟨w0, h0, s0, n0, xs0⟩, ⟨w1, h1, s1, n1, xs1⟩, ⟨w2, h2, s2, n2, xs2⟩, ⟨w3, h3, s3, n3, xs3⟩, ⟨w4, h4, s4, n4, xs4⟩⟩ more).p3).s), DV.sl (((gStrided ⟨w, h, so, ⟨c0, c1, c2, ca, cf⟩, ⟨w0, h0, s0, n0, xs0⟩, ⟨w1, h1, s1, n1, xs1⟩, ⟨w2, h2, s2, n2, xs2⟩, ⟨w3, h3, s3, n3, xs3⟩, ⟨w4, h4, s4, n4, xs4⟩⟩ more).p3).n) (((gStrided ⟨w, h, so, ⟨c0, c1, c2, ca, cf⟩, ⟨w0, h0, s0, n0, xs0⟩, ⟨w1, h1, s1, n1, xs1⟩, ⟨w2, h2, s2, n2, xs2⟩, ⟨w3, h3, s3, n3, xs3⟩, ⟨w4, h4, s4, n4, xs4⟩⟩ more).p3).xs), DV.int .i64 (((gStrided ⟨w, h, so, ⟨c0, c1, c2, ca, cf⟩, ⟨w0, h0, s0, n0, xs0⟩, ⟨w1, h1, s1, n1, xs1⟩, ⟨w2, h2, s2, n2, xs2⟩, ⟨w3, h3, s3, n3, xs3⟩, ⟨w4, h4, s4, n4, xs4⟩⟩ more).p4).w), DV.int .i64 (((gStrided ⟨w, h, so, ⟨c0, c1, c2, ca, cf⟩, ⟨w0, h0, s0, n0, xs0⟩, ⟨w1, h1, s1, n1, xs1⟩, ⟨w2, h2, s2, n2, xs2⟩, ⟨w3, h3, s3, n3, xs3⟩, ⟨w4, h4, s4, n4, xs4⟩⟩ more).p4).h), DV.int .i64 (((gStrided ⟨w, h, so, ⟨c0, c1, c2, ca, cf⟩, ⟨w0, h0, s0, n0, xs0⟩, ⟨w1, h1, s1, n1, xs1⟩, ⟨w2, h2, s2, n2, xs2⟩, ⟨w3, h3, s3, n3, xs3⟩, ⟨w4, h4, s4, n4, xs4⟩⟩ more).p4).s), DV.sl (((gStrided ⟨w, h, so, ⟨c0, c1, c2, ca, cf⟩, ⟨w0, h0, s0, n0, xs0⟩, ⟨w1, h1, s1, n1, xs1⟩, ⟨w2, h2, s2, n2, xs2⟩, ⟨w3, h3, s3, n3, xs3⟩, ⟨w4, h4, s4, n4, xs4⟩⟩ more).p4).n) (((gStrided ⟨w, h, so, ⟨c0, c1, c2, ca, cf⟩, ⟨w0, h0, s0, n0, xs0⟩, ⟨w1, h1, s1, n1, xs1⟩, ⟨w2, h2, s2, n2, xs2⟩, ⟨w3, h3, s3, n3, xs3⟩, ⟨w4, h4, s4, n4, xs4⟩⟩ more).p4).xs)]) | _ => none) else
  none
 modes := fun f =>
  if f = 27 then some ([true, true, true], 0, 0) else
  if f = 80 then some ([true, true], 0, 2) else
  if f = 89 then some ([true, true, true], 0, 5) else
  if f = 61 then some ([true, true, true], 0, 5) else
  if f = 26 then some ([true, true, true], 0, 5) else
  none
 proc := fun f xs bs =>
  if f = 27 then (match xs, bs with | [AV.one (Cl.d (DV.int _ w)), AV.one (Cl.d (DV.int _ h)), AV.agg [Cl.d (DV.int _ c0), Cl.d (DV.int _ c1), Cl.d (DV.int _ c2), Cl.d (DV.int _ ca), Cl.d (DV.int _ cf)]], [] => some ⟨AV.agg [Cl.d (DV.int .i64 w), Cl.d (DV.int .i64 h), Cl.d (DV.bool true), Cl.d (DV.int .u16 c0), Cl.d (DV.int .u16 c1), Cl.d (DV.int .u16 c2), Cl.d (DV.int .u16 ca), Cl.d (DV.int .u16 cf), Cl.d (DV.int .i64 0), Cl.d (DV.int .i64 0), Cl.d (DV.int .i64 0), Cl.nil, Cl.d (DV.int .i64 0), Cl.d (DV.int .i64 0), Cl.d (DV.int .i64 0), Cl.nil, Cl.d (DV.int .i64 0), Cl.d (DV.int .i64 0), Cl.d (DV.int .i64 0), Cl.nil, Cl.d (DV.int .i64 0), Cl.d (DV.int .i64 0), Cl.d (DV.int .i64 0), Cl.nil, Cl.d (DV.int .i64 0), Cl.d (DV.int .i64 0), Cl.d (DV.int .i64 0), Cl.nil], [], true⟩ | _, _ => none) else
  if f = 80 then (match xs, bs with | [AV.one (Cl.d (DV.int _ w)), AV.one (Cl.d (DV.int _ h))], [] => some ⟨AV.one (Cl.clo 93 [Cap.ptr 0 0, Cap.ptr 1 0]), [Bx.cells [Cl.d (DV.int .i64 h)], Bx.cells [Cl.d (DV.int .i64 w)]], false⟩ | _, _ => none) else
  if f = 89 then (match xs, bs with | [AV.one (Cl.d (DV.int _ w)), AV.one (Cl.d (DV.int _ h)), AV.one (Cl.d (DV.sl n xs))], [] => some ⟨AV.tup [AV.agg [Cl.d (DV.int .i64 ((imOf w h (toPxs xs)).w)), Cl.d (DV.int .i64 ((imOf w h (toPxs xs)).h)), Cl.d (DV.bool ((imOf w h (toPxs xs)).so)), Cl.d (DV.int .u16 ((imOf w h (toPxs xs)).c.a)), Cl.d (DV.int .u16 ((imOf w h (toPxs xs)).c.b)), Cl.d (DV.int .u16 ((imOf w h (toPxs xs)).c.c)), Cl.d (DV.int .u16 ((imOf w h (toPxs xs)).c.al)), Cl.d (DV.int .u16 ((imOf w h (toPxs xs)).c.f)), Cl.d (DV.int .i64 ((imOf w h (toPxs xs)).p0.w)), Cl.d (DV.int .i64 ((imOf w h (toPxs xs)).p0.h)), Cl.d (DV.int .i64 ((imOf w h (toPxs xs)).p0.s)), Cl.ref 0 ((imOf w h (toPxs xs)).p0.n), Cl.d (DV.int .i64 ((imOf w h (toPxs xs)).p1.w)), Cl.d (DV.int .i64 ((imOf w h (toPxs xs)).p1.h)), Cl.d (DV.int .i64 ((imOf w h (toPxs xs)).p1.s)), Cl.ref 1 ((imOf w h (toPxs xs)).p1.n), Cl.d (DV.int .i64 ((imOf w h (toPxs xs)).p2.w)), Cl.d (DV.int .i64 ((imOf w h (toPxs xs)).p2.h)), Cl.d (DV.int .i64 ((imOf w h (toPxs xs)).p2.s)), Cl.ref 2 ((imOf w h (toPxs xs)).p2.n), Cl.d (DV.int .i64 ((imOf w h (toPxs xs)).p3.w)), Cl.d (DV.int .i64 ((imOf w h (toPxs xs)).p3.h)), Cl.d (DV.int .i64 ((imOf w h (toPxs xs)).p3.s)), Cl.ref 3 ((imOf w h (toPxs xs)).p3.n), Cl.d (DV.int .i64 ((imOf w h (toPxs xs)).p4.w)), Cl.d (DV.int .i64 ((imOf w h (toPxs xs)).p4.h)), Cl.d (DV.int .i64 ((imOf w h (toPxs xs)).p4.s)), Cl.ref 4 ((imOf w h (toPxs xs)).p4.n)], AV.one (Cl.d (DV.bool (ofOk w h n)))], [Bx.row 34 1 ((imOf w h (toPxs xs)).p0.xs), Bx.row 34 1 ((imOf w h (toPxs xs)).p1.xs), Bx.row 34 1 ((imOf w h (toPxs xs)).p2.xs), Bx.row 34 1 ((imOf w h (toPxs xs)).p3.xs), Bx.row 34 1 ((imOf w h (toPxs xs)).p4.xs)], true⟩ | _, _ => none) else
  if f = 61 then (match xs, bs with | [AV.one (Cl.d (DV.int _ w)), AV.one (Cl.d (DV.int _ h)), AV.one (Cl.d (DV.sl n xs))], [] => some ⟨AV.tup [AV.agg [Cl.d (DV.int .i64 ((imOf w h (toPxs xs)).w)), Cl.d (DV.int .i64 ((imOf w h (toPxs xs)).h)), Cl.d (DV.bool ((imOf w h (toPxs xs)).so)), Cl.d (DV.int .u16 ((imOf w h (toPxs xs)).c.a)), Cl.d (DV.int .u16 ((imOf w h (toPxs xs)).c.b)), Cl.d (DV.int .u16 ((imOf w h (toPxs xs)).c.c)), Cl.d (DV.int .u16 ((imOf w h (toPxs xs)).c.al)), Cl.d (DV.int .u16 ((imOf w h (toPxs xs)).c.f)), Cl.d (DV.int .i64 ((imOf w h (toPxs xs)).p0.w)), Cl.d (DV.int .i64 ((imOf w h (toPxs xs)).p0.h)), Cl.d (DV.int .i64 ((imOf w h (toPxs xs)).p0.s)), Cl.ref 0 ((imOf w h (toPxs xs)).p0.n), Cl.d (DV.int .i64 ((imOf w h (toPxs xs)).p1.w)), Cl.d (DV.int .i64 ((imOf w h (toPxs xs)).p1.h)), Cl.d (DV.int .i64 ((imOf w h (toPxs xs)).p1.s)), Cl.ref 1 ((imOf w h (toPxs xs)).p1.n), Cl.d (DV.int .i64 ((imOf w h (toPxs xs)).p2.w)), Cl.d (DV.int .i64 ((imOf w h (toPxs xs)).p2.h)), Cl.d (DV.int .i64 ((imOf w h (toPxs xs)).p2.s)), Cl.ref 2 ((imOf w h (toPxs xs)).p2.n), Cl.d (DV.int .i64 ((imOf w h (toPxs xs)).p3.w)), Cl.d (DV.int .i64 ((imOf w h (toPxs xs)).p3.h)), Cl.d (DV.int .i64 ((imOf w h (toPxs xs)).p3.s)), Cl.ref 3 ((imOf w h (toPxs xs)).p3.n), Cl.d (DV.int .i64 ((imOf w h (toPxs xs)).p4.w)), Cl.d (DV.int .i64 ((imOf w h (toPxs xs)).p4.h)), Cl.d (DV.int .i64 ((imOf w h (toPxs xs)).p4.s)), Cl.ref 4 ((imOf w h (toPxs xs)).p4.n)], AV.one (Cl.d (DV.bool (ofOk w h n)))], [Bx.row 34 1 ((imOf w h (toPxs xs)).p0.xs), Bx.row 34 1 ((imOf w h (toPxs xs)).p1.xs), Bx.row 34 1 ((imOf w h (toPxs xs)).p2.xs), Bx.row 34 1 ((imOf w h (toPxs xs)).p3.xs), Bx.row 34 1 ((imOf w h (toPxs xs)).p4.xs)], true⟩ | _, _ => none) else
  if f = 26 then (match xs, bs with | [AV.agg [Cl.d (DV.int _ pw), Cl.d (DV.int _ ph), Cl.d (DV.int _ so), Cl.d (DV.int _ mood), Cl.d (DV.sl L xs)], AV.agg [Cl.d (DV.int _ x0), Cl.d (DV.int _ y0), Cl.d (DV.int _ x1), Cl.d (DV.int _ y1)], AV.one (Cl.d (DV.int _ most))], [] => some ⟨AV.agg [Cl.d (DV.int .i64 ((gImage pw ph so mood L xs x0 y0 x1 y1 most).w)), Cl.d (DV.int .i64 ((gImage pw ph so mood L xs x0 y0 x1 y1 most).h)), Cl.d (DV.bool ((gImage pw ph so mood L xs x0 y0 x1 y1 most).so)), Cl.d (DV.int .u16 ((gImage pw ph so mood L xs x0 y0 x1 y1 most).c.a)), Cl.d (DV.int .u16 ((gImage pw ph so mood L xs x0 y0 x1 y1 most).c.b)), Cl.d (DV.int .u16 ((gImage pw ph so mood L xs x0 y0 x1 y1 most).c.c)), Cl.d (DV.int .u16 ((gImage pw ph so mood L xs x0 y0 x1 y1 most).c.al)), Cl.d (DV.int .u16 ((gImage pw ph so mood L xs x0 y0 x1 y1 most).c.f)), Cl.d (DV.int .i64 ((gImage pw ph so mood L xs x0 y0 x1 y1 most).p0.w)), Cl.d (DV.int .i64 ((gImage pw ph so mood L xs x0 y0 x1 y1 most).p0.h)), Cl.d (DV.int .i64 ((gImage pw ph so mood L xs x0 y0 x1 y1 most).p0.s)), Cl.ref 0 ((gImage pw ph so mood L xs x0 y0 x1 y1 most).p0.n), Cl.d (DV.int .i64 ((gImage pw ph so mood L xs x0 y0 x1 y1 most).p1.w)), Cl.d (DV.int .i64 ((gImage pw ph so mood L xs x0 y0 x1 y1 most).p1.h)), Cl.d (DV.int .i64 ((gImage pw ph so mood L xs x0 y0 x1 y1 most).p1.s)), Cl.ref 1 ((gImage pw ph so mood L xs x0 y0 x1 y1 most).p1.n), Cl.d (DV.int .i64 ((gImage pw ph so mood L xs x0 y0 x1 y1 most).p2.w)), Cl.d (DV.int .i64 ((gImage pw ph so mood L xs x0 y0 x1 y1 most).p2.h)), Cl.d (DV.int .i64 ((gImage pw ph so mood L xs x0 y0 x1 y1 most).p2.s)), Cl.ref 2 ((gImage pw ph so mood L xs x0 y0 x1 y1 most).p2.n), Cl.d (DV.int .i64 ((gImage pw ph so mood L xs x0 y0 x1 y1 most).p3.w)), Cl.d (DV.int .i64 ((gImage pw ph so mood L xs x0 y0 x1 y1 most).p3.h)), Cl.d (DV.int .i64 ((gImage pw ph so mood L xs x0 y0 x1 y1 most).p3.s)), Cl.ref 3 ((gImage pw ph so mood L xs x0 y0 x1 y1 most).p3.n), Cl.d (DV.int .i64 ((gImage pw ph so mood L xs x0 y0 x1 y1 most).p4.w)), Cl.d (DV.int .i64 ((gImage pw ph so mood L xs x0 y0 x1 y1 most).p4.h)), Cl.d (DV.int .i64 ((gImage pw ph so mood L xs x0 y0 x1 y1 most).p4.s)), Cl.ref 4 ((gImage pw ph so mood L xs x0 y0 x1 y1 most).p4.n)], [Bx.row 34 1 ((gImage pw ph so mood L xs x0 y0 x1 y1 most).p0.xs), Bx.row 34 1 ((gImage pw ph so mood L xs x0 y0 x1 y1 most).p1.xs), Bx.row 34 1 ((gImage pw ph so mood L xs x0 y0 x1 y1 most).p2.xs), Bx.row 34 1 ((gImage pw ph so mood L xs x0 y0 x1 y1 most).p3.xs), Bx.row 34 1 ((gImage pw ph so mood L xs x0 y0 x1 y1 most).p4.xs)], true⟩ | _, _ => none) else
  none
 iter := fun f cs =>
  if f = 93 then (match cs with | [(true, [DV.int _ h]), (true, [DV.int _ w])] => some ((w.toNat * h.toNat), fun _k => [DV.int .i64 (((_k % w.toNat : Nat)) : Int), DV.int .i64 (((_k / w.toNat : Nat)) : Int)]) | _ => none) else
  none

def G_Strided_ann (m : Im) (more : Int) : Ann := let zz0 := (1, AV.one (Cl.d (DV.int .i64 more))); let zz1 := (5, AV.one (Cl.d (DV.int .i64 0))); let zz2 := (2, Bx.cells [Cl.d (DV.int .i64 m.w), Cl.d (DV.int .i64 m.h), Cl.d (DV.bool m.so), Cl.d (DV.int .u16 m.c.a), Cl.d (DV.int .u16 m.c.b), Cl.d (DV.int .u16 m.c.c), Cl.d (DV.int .u16 m.c.al), Cl.d (DV.int .u16 m.c.f), Cl.d (DV.int .i64 m.p0.w), Cl.d (DV.int .i64 m.p0.h), Cl.d (DV.int .i64 m.p0.s), Cl.d (DV.sl m.p0.n m.p0.xs), Cl.d (DV.int .i64 m.p1.w), Cl.d (DV.int .i64 m.p1.h), Cl.d (DV.int .i64 m.p1.s), Cl.d (DV.sl m.p1.n m.p1.xs), Cl.d (DV.int .i64 m.p2.w), Cl.d (DV.int .i64 m.p2.h), Cl.d (DV.int .i64 m.p2.s), Cl.d (DV.sl m.p2.n m.p2.xs), Cl.d (DV.int .i64 m.p3.w), Cl.d (DV.int .i64 m.p3.h), Cl.d (DV.int .i64 m.p3.s), Cl.d (DV.sl m.p3.n m.p3.xs), Cl.d (DV.int .i64 m.p4.w), Cl.d (DV.int .i64 m.p4.h), Cl.d (DV.int .i64 m.p4.s), Cl.d (DV.sl m.p4.n m.p4.xs)]); let zz3 := (4, Bx.cells [Cl.d (DV.int .i64 0), Cl.d (DV.int .i64 0), Cl.d (DV.bool false), Cl.d (DV.int .u16 0), Cl.d (DV.int .u16 0), Cl.d (DV.int .u16 0), Cl.d (DV.int .u16 0), Cl.d (DV.int .u16 0), Cl.d (DV.int .i64 0), Cl.d (DV.int .i64 0), Cl.d (DV.int .i64 0), Cl.nil, Cl.d (DV.int .i64 0), Cl.d (DV.int .i64 0), Cl.d (DV.int .i64 0), Cl.nil, Cl.d (DV.int .i64 0), Cl.d (DV.int .i64 0), Cl.d (DV.int .i64 0), Cl.nil, Cl.d (DV.int .i64 0), Cl.d (DV.int .i64 0), Cl.d (DV.int .i64 0), Cl.nil, Cl.d (DV.int .i64 0), Cl.d (DV.int .i64 0), Cl.d (DV.int .i64 0), Cl.nil]); let zz4 := (Ann.seq Ann.leaf (Ann.sure true Ann.leaf)); let zz5 := fun (i : Nat) => (8, AV.one (Cl.d (DV.int .i64 ((i : Nat) : Int)))); let zz6 := (DV.int .i64 (strS m.p0 more 0)); let zz7 := (5, AV.one (Cl.d (DV.int .i64 1))); let zz8 := (2, Bx.cells [Cl.d (DV.int .i64 m.w), Cl.d (DV.int .i64 m.h), Cl.d (DV.bool m.so), Cl.d (DV.int .u16 m.c.a), Cl.d (DV.int .u16 m.c.b), Cl.d (DV.int .u16 m.c.c), Cl.d (DV.int .u16 m.c.al), Cl.d (DV.int .u16 m.c.f), Cl.d (DV.int .i64 m.p0.w), Cl.d (DV.int .i64 m.p0.h), Cl.d zz6, Cl.ref 8000 (strN m.p0 (strS m.p0 more 0)), Cl.d (DV.int .i64 m.p1.w), Cl.d (DV.int .i64 m.p1.h), Cl.d (DV.int .i64 m.p1.s), Cl.d (DV.sl m.p1.n m.p1.xs), Cl.d (DV.int .i64 m.p2.w), Cl.d (DV.int .i64 m.p2.h), Cl.d (DV.int .i64 m.p2.s), Cl.d (DV.sl m.p2.n m.p2.xs), Cl.d (DV.int .i64 m.p3.w), Cl.d (DV.int .i64 m.p3.h), Cl.d (DV.int .i64 m.p3.s), Cl.d (DV.sl m.p3.n m.p3.xs), Cl.d (DV.int .i64 m.p4.w), Cl.d (DV.int .i64 m.p4.h), Cl.d (DV.int .i64 m.p4.s), Cl.d (DV.sl m.p4.n m.p4.xs)]); let zz9 := (8000, Bx.row 34 1 (strRow m.p0 (strS m.p0 more 0) (strN m.p0 (strS m.p0 more 0)))); let zz10 := (DV.int .i64 (strS m.p1 more 1)); let zz11 := (5, AV.one (Cl.d (DV.int .i64 2))); let zz12 := (2, Bx.cells [Cl.d (DV.int .i64 m.w), Cl.d (DV.int .i64 m.h), Cl.d (DV.bool m.so), Cl.d (DV.int .u16 m.c.a), Cl.d (DV.int .u16 m.c.b), Cl.d (DV.int .u16 m.c.c), Cl.d (DV.int .u16 m.c.al), Cl.d (DV.int .u16 m.c.f), Cl.d (DV.int .i64 m.p0.w), Cl.d (DV.int .i64 m.p0.h), Cl.d zz6, Cl.ref 8000 (strN m.p0 (strS m.p0 more 0)), Cl.d (DV.int .i64 m.p1.w), Cl.d (DV.int .i64 m.p1.h), Cl.d zz10, Cl.ref 8001 (strN m.p1 (strS m.p1 more 1)), Cl.d (DV.int .i64 m.p2.w), Cl.d (DV.int .i64 m.p2.h), Cl.d (DV.int .i64 m.p2.s), Cl.d (DV.sl m.p2.n m.p2.xs), Cl.d (DV.int .i64 m.p3.w), Cl.d (DV.int .i64 m.p3.h), Cl.d (DV.int .i64 m.p3.s), Cl.d (DV.sl m.p3.n m.p3.xs), Cl.d (DV.int .i64 m.p4.w), Cl.d (DV.int .i64 m.p4.h), Cl.d (DV.int .i64 m.p4.s), Cl.d (DV.sl m.p4.n m.p4.xs)]); let zz13 := (8001, Bx.row 34 1 (strRow m.p1 (strS m.p1 more 1) (strN m.p1 (strS m.p1 more 1)))); let zz14 := (DV.int .i64 (strS m.p2 more 2)); let zz15 := (5, AV.one (Cl.d (DV.int .i64 3))); let zz16 := (2, Bx.cells [Cl.d (DV.int .i64 m.w), Cl.d (DV.int .i64 m.h), Cl.d (DV.bool m.so), Cl.d (DV.int .u16 m.c.a), Cl.d (DV.int .u16 m.c.b), Cl.d (DV.int .u16 m.c.c), Cl.d (DV.int .u16 m.c.al), Cl.d (DV.int .u16 m.c.f), Cl.d (DV.int .i64 m.p0.w), Cl.d (DV.int .i64 m.p0.h), Cl.d zz6, Cl.ref 8000 (strN m.p0 (strS m.p0 more 0)), Cl.d (DV.int .i64 m.p1.w), Cl.d (DV.int .i64 m.p1.h), Cl.d zz10, Cl.ref 8001 (strN m.p1 (strS m.p1 more 1)), Cl.d (DV.int .i64 m.p2.w), Cl.d (DV.int .i64 m.p2.h), Cl.d zz14, Cl.ref 8002 (strN m.p2 (strS m.p2 more 2)), Cl.d (DV.int .i64 m.p3.w), Cl.d (DV.int .i64 m.p3.h), Cl.d (DV.int .i64 m.p3.s), Cl.d (DV.sl m.p3.n m.p3.xs), Cl.d (DV.int .i64 m.p4.w), Cl.d (DV.int .i64 m.p4.h), Cl.d (DV.int .i64 m.p4.s), Cl.d (DV.sl m.p4.n m.p4.xs)]); let zz17 := (8002, Bx.row 34 1 (strRow m.p2 (strS m.p2 more 2) (strN m.p2 (strS m.p2 more 2)))); let zz18 := (DV.int .i64 (strS m.p3 more 3)); let zz19 := (5, AV.one (Cl.d (DV.int .i64 4))); let zz20 := (2, Bx.cells [Cl.d (DV.int .i64 m.w), Cl.d (DV.int .i64 m.h), Cl.d (DV.bool m.so), Cl.d (DV.int .u16 m.c.a), Cl.d (DV.int .u16 m.c.b), Cl.d (DV.int .u16 m.c.c), Cl.d (DV.int .u16 m.c.al), Cl.d (DV.int .u16 m.c.f), Cl.d (DV.int .i64 m.p0.w), Cl.d (DV.int .i64 m.p0.h), Cl.d zz6, Cl.ref 8000 (strN m.p0 (strS m.p0 more 0)), Cl.d (DV.int .i64 m.p1.w), Cl.d (DV.int .i64 m.p1.h), Cl.d zz10, Cl.ref 8001 (strN m.p1 (strS m.p1 more 1)), Cl.d (DV.int .i64 m.p2.w), Cl.d (DV.int .i64 m.p2.h), Cl.d zz14, Cl.ref 8002 (strN m.p2 (strS m.p2 more 2)), Cl.d (DV.int .i64 m.p3.w), Cl.d (DV.int .i64 m.p3.h), Cl.d zz18, Cl.ref 8003 (strN m.p3 (strS m.p3 more 3)), Cl.d (DV.int .i64 m.p4.w), Cl.d (DV.int .i64 m.p4.h), Cl.d (DV.int .i64 m.p4.s), Cl.d (DV.sl m.p4.n m.p4.xs)]); let zz21 := (8003, Bx.row 34 1 (strRow m.p3 (strS m.p3 more 3) (strN m.p3 (strS m.p3 more 3)))); let zz22 := (DV.int .i64 (strS m.p4 more 4)); (Ann.seq Ann.leaf (Ann.seq Ann.leaf (Ann.seq (Ann.seq Ann.leaf (Ann.link ⟨Unit, fun _u => True, fun _u => ⟨[zz0, (2, AV.one (Cl.ptr 2 0)), (4, AV.one (Cl.ptr 4 0)), zz1], [zz2, zz3]⟩, fun _u => 0⟩ (fun _u => (Ann.seq zz4 (Ann.seq (Ann.seq Ann.leaf (Ann.seq Ann.leaf (Ann.seq (Ann.seq Ann.leaf (Ann.loop ⟨Nat, fun i => i ≤ (strN m.p0 (strS m.p0 more 0)), fun i => ⟨[zz0, (2, AV.one (Cl.ptr 2 0)), (4, AV.one (Cl.ptr 4 0)), zz1, (6, AV.one (Cl.ptr 6 0)), (7, AV.one (Cl.ptr 7 0)), (zz5 i)], [zz2, zz3, (6, Bx.cells [Cl.d (DV.int .i64 m.p0.w), Cl.d (DV.int .i64 m.p0.h), Cl.d (DV.int .i64 m.p0.s), Cl.d (DV.sl m.p0.n m.p0.xs)]), (7, Bx.cells [Cl.d (DV.int .i64 m.p0.w), Cl.d (DV.int .i64 m.p0.h), Cl.d zz6, Cl.ref 8000 i]), (8000, Bx.row 34 1 (strRow m.p0 (strS m.p0 more 0) i))]⟩, fun i => (strN m.p0 (strS m.p0 more 0)) - i⟩ fun i => Ann.leaf)) Ann.leaf))) Ann.leaf))) (Ann.link ⟨Unit, fun _u => True, fun _u => ⟨[zz0, (2, AV.one (Cl.ptr 2 0)), (4, AV.one (Cl.ptr 4 0)), zz7], [zz8, zz3, zz9]⟩, fun _u => 0⟩ (fun _u => (Ann.seq zz4 (Ann.seq (Ann.seq Ann.leaf (Ann.seq Ann.leaf (Ann.seq (Ann.seq Ann.leaf (Ann.loop ⟨Nat, fun i => i ≤ (strN m.p1 (strS m.p1 more 1)), fun i => ⟨[zz0, (2, AV.one (Cl.ptr 2 0)), (4, AV.one (Cl.ptr 4 0)), zz7, (6, AV.one (Cl.ptr 6 0)), (7, AV.one (Cl.ptr 7 0)), (zz5 i)], [zz8, zz3, (6, Bx.cells [Cl.d (DV.int .i64 m.p1.w), Cl.d (DV.int .i64 m.p1.h), Cl.d (DV.int .i64 m.p1.s), Cl.d (DV.sl m.p1.n m.p1.xs)]), (7, Bx.cells [Cl.d (DV.int .i64 m.p1.w), Cl.d (DV.int .i64 m.p1.h), Cl.d zz10, Cl.ref 8001 i]), zz9, (8001, Bx.row 34 1 (strRow m.p1 (strS m.p1 more 1) i))]⟩, fun i => (strN m.p1 (strS m.p1 more 1)) - i⟩ fun i => Ann.leaf)) Ann.leaf))) Ann.leaf))) (Ann.link ⟨Unit, fun _u => True, fun _u => ⟨[zz0, (2, AV.one (Cl.ptr 2 0)), (4, AV.one (Cl.ptr 4 0)), zz11], [zz12, zz3, zz9, zz13]⟩, fun _u => 0⟩ (fun _u => (Ann.seq zz4 (Ann.seq (Ann.seq Ann.leaf (Ann.seq Ann.leaf (Ann.seq (Ann.seq Ann.leaf (Ann.loop ⟨Nat, fun i => i ≤ (strN m.p2 (strS m.p2 more 2)), fun i => ⟨[zz0, (2, AV.one (Cl.ptr 2 0)), (4, AV.one (Cl.ptr 4 0)), zz11, (6, AV.one (Cl.ptr 6 0)), (7, AV.one (Cl.ptr 7 0)), (zz5 i)], [zz12, zz3, (6, Bx.cells [Cl.d (DV.int .i64 m.p2.w), Cl.d (DV.int .i64 m.p2.h), Cl.d (DV.int .i64 m.p2.s), Cl.d (DV.sl m.p2.n m.p2.xs)]), (7, Bx.cells [Cl.d (DV.int .i64 m.p2.w), Cl.d (DV.int .i64 m.p2.h), Cl.d zz14, Cl.ref 8002 i]), zz9, zz13, (8002, Bx.row 34 1 (strRow m.p2 (strS m.p2 more 2) i))]⟩, fun i => (strN m.p2 (strS m.p2 more 2)) - i⟩ fun i => Ann.leaf)) Ann.leaf))) Ann.leaf))) (Ann.link ⟨Unit, fun _u => True, fun _u => ⟨[zz0, (2, AV.one (Cl.ptr 2 0)), (4, AV.one (Cl.ptr 4 0)), zz15], [zz16, zz3, zz9, zz13, zz17]⟩, fun _u => 0⟩ (fun _u => (Ann.seq zz4 (Ann.seq (Ann.seq Ann.leaf (Ann.seq Ann.leaf (Ann.seq (Ann.seq Ann.leaf (Ann.loop ⟨Nat, fun i => i ≤ (strN m.p3 (strS m.p3 more 3)), fun i => ⟨[zz0, (2, AV.one (Cl.ptr 2 0)), (4, AV.one (Cl.ptr 4 0)), zz15, (6, AV.one (Cl.ptr 6 0)), (7, AV.one (Cl.ptr 7 0)), (zz5 i)], [zz16, zz3, (6, Bx.cells [Cl.d (DV.int .i64 m.p3.w), Cl.d (DV.int .i64 m.p3.h), Cl.d (DV.int .i64 m.p3.s), Cl.d (DV.sl m.p3.n m.p3.xs)]), (7, Bx.cells [Cl.d (DV.int .i64 m.p3.w), Cl.d (DV.int .i64 m.p3.h), Cl.d zz18, Cl.ref 8003 i]), zz9, zz13, zz17, (8003, Bx.row 34 1 (strRow m.p3 (strS m.p3 more 3) i))]⟩, fun i => (strN m.p3 (strS m.p3 more 3)) - i⟩ fun i => Ann.leaf)) Ann.leaf))) Ann.leaf))) (Ann.link ⟨Unit, fun _u => True, fun _u => ⟨[zz0, (2, AV.one (Cl.ptr 2 0)), (4, AV.one (Cl.ptr 4 0)), zz19], [zz20, zz3, zz9, zz13, zz17, zz21]⟩, fun _u => 0⟩ (fun _u => (Ann.seq zz4 (Ann.seq (Ann.seq Ann.leaf (Ann.seq Ann.leaf (Ann.seq (Ann.seq Ann.leaf (Ann.loop ⟨Nat, fun i => i ≤ (strN m.p4 (strS m.p4 more 4)), fun i => ⟨[zz0, (2, AV.one (Cl.ptr 2 0)), (4, AV.one (Cl.ptr 4 0)), zz19, (6, AV.one (Cl.ptr 6 0)), (7, AV.one (Cl.ptr 7 0)), (zz5 i)], [zz20, zz3, (6, Bx.cells [Cl.d (DV.int .i64 m.p4.w), Cl.d (DV.int .i64 m.p4.h), Cl.d (DV.int .i64 m.p4.s), Cl.d (DV.sl m.p4.n m.p4.xs)]), (7, Bx.cells [Cl.d (DV.int .i64 m.p4.w), Cl.d (DV.int .i64 m.p4.h), Cl.d zz22, Cl.ref 8004 i]), zz9, zz13, zz17, zz21, (8004, Bx.row 34 1 (strRow m.p4 (strS m.p4 more 4) i))]⟩, fun i => (strN m.p4 (strS m.p4 more 4)) - i⟩ fun i => Ann.leaf)) Ann.leaf))) Ann.leaf))) (Ann.link ⟨Unit, fun _u => True, fun _u => ⟨[zz0, (2, AV.one (Cl.ptr 2 0)), (4, AV.one (Cl.ptr 4 0)), (5, AV.one (Cl.d (DV.int .i64 5)))], [(2, Bx.cells [Cl.d (DV.int .i64 m.w), Cl.d (DV.int .i64 m.h), Cl.d (DV.bool m.so), Cl.d (DV.int .u16 m.c.a), Cl.d (DV.int .u16 m.c.b), Cl.d (DV.int .u16 m.c.c), Cl.d (DV.int .u16 m.c.al), Cl.d (DV.int .u16 m.c.f), Cl.d (DV.int .i64 m.p0.w), Cl.d (DV.int .i64 m.p0.h), Cl.d zz6, Cl.ref 8000 (strN m.p0 (strS m.p0 more 0)), Cl.d (DV.int .i64 m.p1.w), Cl.d (DV.int .i64 m.p1.h), Cl.d zz10, Cl.ref 8001 (strN m.p1 (strS m.p1 more 1)), Cl.d (DV.int .i64 m.p2.w), Cl.d (DV.int .i64 m.p2.h), Cl.d zz14, Cl.ref 8002 (strN m.p2 (strS m.p2 more 2)), Cl.d (DV.int .i64 m.p3.w), Cl.d (DV.int .i64 m.p3.h), Cl.d zz18, Cl.ref 8003 (strN m.p3 (strS m.p3 more 3)), Cl.d (DV.int .i64 m.p4.w), Cl.d (DV.int .i64 m.p4.h), Cl.d zz22, Cl.ref 8004 (strN m.p4 (strS m.p4 more 4))]), zz3, zz9, zz13, zz17, zz21, (8004, Bx.row 34 1 (strRow m.p4 (strS m.p4 more 4) (strN m.p4 (strS m.p4 more 4))))]⟩, fun _u => 0⟩ (fun _u => (Ann.seq (Ann.seq Ann.leaf (Ann.sure false Ann.leaf)) Ann.leaf)) Ann.leaf))))))) Ann.leaf)))
theorem G_Strided_vc (m : Im) (more : Int) : vcg Try.prog gamK 79 (bodyOf Try.f10) (G_Strided_ann m more) kn0 (start [RV.agg [DV.int .i64 m.w, DV.int .i64 m.h, DV.bool m.so, DV.int .u16 m.c.a, DV.int .u16 m.c.b, DV.int .u16 m.c.c, DV.int .u16 m.c.al, DV.int .u16 m.c.f, DV.int .i64 m.p0.w, DV.int .i64 m.p0.h, DV.int .i64 m.p0.s, DV.sl m.p0.n m.p0.xs, DV.int .i64 m.p1.w, DV.int .i64 m.p1.h, DV.int .i64 m.p1.s, DV.sl m.p1.n m.p1.xs, DV.int .i64 m.p2.w, DV.int .i64 m.p2.h, DV.int .i64 m.p2.s, DV.sl m.p2.n m.p2.xs, DV.int .i64 m.p3.w, DV.int .i64 m.p3.h, DV.int .i64 m.p3.s, DV.sl m.p3.n m.p3.xs, DV.int .i64 m.p4.w, DV.int .i64 m.p4.h, DV.int .i64 m.p4.s, DV.sl m.p4.n m.p4.xs], RV.d (DV.int .i64 more)]) (post Try.prog Try.f10.results.toList (· = RV.agg [DV.int .i64 ((gStrided m more).w), DV.int .i64 ((gStrided m more).h), DV.bool ((gStrided m more).so), DV.int .u16 (((gStrided m more).c).a), DV.int .u16 (((gStrided m more).c).b), DV.int .u16 (((gStrided m more).c).c), DV.int .u16 (((gStrided m more).c).al), DV.int .u16 (((gStrided m more).c).f), DV.int .i64 (((gStrided m more).p0).w), DV.int .i64 (((gStrided m more).p0).h), DV.int .i64 (((gStrided m more).p0).s), DV.sl (((gStrided m more).p0).n) (((gStrided m more).p0).xs), DV.int .i64 (((gStrided m more).p1).w), DV.int .i64 (((gStrided m more).p1).h), DV.int .i64 (((gStrided m more).p1).s), DV.sl (((gStrided m more).p1).n) (((gStrided m more).p1).xs), DV.int .i64 (((gStrided m more).p2).w), DV.int .i64 (((gStrided m more).p2).h), DV.int .i64 (((gStrided m more).p2).s), DV.sl (((gStrided m more).p2).n) (((gStrided m more).p2).xs), DV.int .i64 (((gStrided m more).p3).w), DV.int .i64 (((gStrided m more).p3).h), DV.int .i64 (((gStrided m more).p3).s), DV.sl (((gStrided m more).p3).n) (((gStrided m more).p3).xs), DV.int .i64 (((gStrided m more).p4).w), DV.int .i64 (((gStrided m more).p4).h), DV.int .i64 (((gStrided m more).p4).s), DV.sl (((gStrided m more).p4).n) (((gStrided m more).p4).xs)])) =
  (let zz0 := [DV.int .i64 m.w, DV.int .i64 m.h, DV.bool m.so, DV.int .u16 m.c.a, DV.int .u16 m.c.b, DV.int .u16 m.c.c, DV.int .u16 m.c.al, DV.int .u16 m.c.f, DV.int .i64 m.p0.w, DV.int .i64 m.p0.h, DV.int .i64 m.p0.s, DV.sl m.p0.n m.p0.xs, DV.int .i64 m.p1.w, DV.int .i64 m.p1.h, DV.int .i64 m.p1.s, DV.sl m.p1.n m.p1.xs, DV.int .i64 m.p2.w, DV.int .i64 m.p2.h, DV.int .i64 m.p2.s, DV.sl m.p2.n m.p2.xs, DV.int .i64 m.p3.w, DV.int .i64 m.p3.h, DV.int .i64 m.p3.s, DV.sl m.p3.n m.p3.xs, DV.int .i64 m.p4.w, DV.int .i64 m.p4.h, DV.int .i64 m.p4.s, DV.sl m.p4.n m.p4.xs]; let zz1 := [DV.int .i64 ((gStrided m more).w), DV.int .i64 ((gStrided m more).h), DV.bool ((gStrided m more).so), DV.int .u16 (((gStrided m more).c).a), DV.int .u16 (((gStrided m more).c).b), DV.int .u16 (((gStrided m more).c).c), DV.int .u16 (((gStrided m more).c).al), DV.int .u16 (((gStrided m more).c).f), DV.int .i64 (((gStrided m more).p0).w), DV.int .i64 (((gStrided m more).p0).h), DV.int .i64 (((gStrided m more).p0).s), DV.sl (((gStrided m more).p0).n) (((gStrided m more).p0).xs), DV.int .i64 (((gStrided m more).p1).w), DV.int .i64 (((gStrided m more).p1).h), DV.int .i64 (((gStrided m more).p1).s), DV.sl (((gStrided m more).p1).n) (((gStrided m more).p1).xs), DV.int .i64 (((gStrided m more).p2).w), DV.int .i64 (((gStrided m more).p2).h), DV.int .i64 (((gStrided m more).p2).s), DV.sl (((gStrided m more).p2).n) (((gStrided m more).p2).xs), DV.int .i64 (((gStrided m more).p3).w), DV.int .i64 (((gStrided m more).p3).h), DV.int .i64 (((gStrided m more).p3).s), DV.sl (((gStrided m more).p3).n) (((gStrided m more).p3).xs), DV.int .i64 (((gStrided m more).p4).w), DV.int .i64 (((gStrided m more).p4).h), DV.int .i64 (((gStrided m more).p4).s), DV.sl (((gStrided m more).p4).n) (((gStrided m more).p4).xs)]; let zz2 := (DV.int .i64 more = DV.int .i64 more); let zz3 := (DV.int .i64 0 = DV.int .i64 0); let zz4 := (zz0 = zz0); let zz5 := (DV.int .u16 0 = DV.int .u16 0); let zz6 := (zz3 ∧ zz3 ∧ (DV.bool false = DV.bool false) ∧ zz5 ∧ zz5 ∧ zz5 ∧ zz5 ∧ zz5 ∧ zz3 ∧ zz3 ∧ zz3 ∧ True ∧ zz3 ∧ zz3 ∧ zz3 ∧ True ∧ zz3 ∧ zz3 ∧ zz3 ∧ True ∧ zz3 ∧ zz3 ∧ zz3 ∧ True ∧ zz3 ∧ zz3 ∧ zz3 ∧ True ∧ True); let zz7 := (0 ≤ (0 : Int) ∧ (0 : Int) < ((5 : Nat) : Int)); let zz8 := (IntKind.wrap .i64 (more + (0 : Int))); let zz9 := fun (i : Nat) => (i ≤ (strN m.p0 (strS m.p0 more 0))); let zz10 := fun (i : Nat) => (DV.int .i64 0 = DV.int .i64 ((i : Nat) : Int)); let zz11 := [DV.int .i64 m.p0.w, DV.int .i64 m.p0.h, DV.int .i64 m.p0.s, DV.sl m.p0.n m.p0.xs]; let zz12 := (zz11 = zz11); let zz13 := (DV.int .i64 m.p0.w = DV.int .i64 m.p0.w); let zz14 := (DV.int .i64 m.p0.h = DV.int .i64 m.p0.h); let zz15 := fun (i' : Nat) => (i' ≤ (strN m.p0 (strS m.p0 more 0))); let zz16 := fun (i : Nat) => fun (i' : Nat) => ((strN m.p0 (strS m.p0 more 0)) - i' < (strN m.p0 (strS m.p0 more 0)) - i); let zz17 := fun (i : Nat) => fun (i' : Nat) => (DV.int .i64 (IntKind.wrap .i64 (((i : Nat) : Int) + (1 : Int))) = DV.int .i64 ((i' : Nat) : Int)); let zz18 := fun (i : Nat) => fun (i' : Nat) => (zz2 ∧ (0 = 0) ∧ (0 = 0) ∧ zz3 ∧ (0 = 0) ∧ (0 = 0) ∧ (zz17 i i') ∧ True); let zz19 := (DV.int .i64 (strS m.p0 more 0) = DV.int .i64 (strS m.p0 more 0)); let zz20 := fun (i : Nat) => fun (i' : Nat) => (zz13 ∧ zz14 ∧ zz19 ∧ (i + 1 = i') ∧ True); let zz21 := (DV.int .i64 m.w = DV.int .i64 m.w); let zz22 := (DV.int .i64 m.h = DV.int .i64 m.h); let zz23 := (DV.bool m.so = DV.bool m.so); let zz24 := (DV.int .u16 m.c.a = DV.int .u16 m.c.a); let zz25 := (DV.int .u16 m.c.b = DV.int .u16 m.c.b); let zz26 := (DV.int .u16 m.c.c = DV.int .u16 m.c.c); let zz27 := (DV.int .u16 m.c.al = DV.int .u16 m.c.al); let zz28 := (DV.int .u16 m.c.f = DV.int .u16 m.c.f); let zz29 := (DV.int .i64 m.p1.w = DV.int .i64 m.p1.w); let zz30 := (DV.int .i64 m.p1.h = DV.int .i64 m.p1.h); let zz31 := (DV.int .i64 m.p1.s = DV.int .i64 m.p1.s); let zz32 := (DV.sl m.p1.n m.p1.xs = DV.sl m.p1.n m.p1.xs); let zz33 := (DV.int .i64 m.p2.w = DV.int .i64 m.p2.w); let zz34 := (DV.int .i64 m.p2.h = DV.int .i64 m.p2.h); let zz35 := (DV.int .i64 m.p2.s = DV.int .i64 m.p2.s); let zz36 := (DV.sl m.p2.n m.p2.xs = DV.sl m.p2.n m.p2.xs); let zz37 := (DV.int .i64 m.p3.w = DV.int .i64 m.p3.w); let zz38 := (DV.int .i64 m.p3.h = DV.int .i64 m.p3.h); let zz39 := (DV.int .i64 m.p3.s = DV.int .i64 m.p3.s); let zz40 := (DV.sl m.p3.n m.p3.xs = DV.sl m.p3.n m.p3.xs); let zz41 := (DV.int .i64 m.p4.w = DV.int .i64 m.p4.w); let zz42 := (DV.int .i64 m.p4.h = DV.int .i64 m.p4.h); let zz43 := (DV.int .i64 m.p4.s = DV.int .i64 m.p4.s); let zz44 := (DV.sl m.p4.n m.p4.xs = DV.sl m.p4.n m.p4.xs); let zz45 := (0 ≤ (1 : Int) ∧ (1 : Int) < ((5 : Nat) : Int)); let zz46 := (IntKind.wrap .i64 (more + (1 : Int))); let zz47 := fun (i : Nat) => (i ≤ (strN m.p1 (strS m.p1 more 1))); let zz48 := (DV.int .i64 1 = DV.int .i64 1); let zz49 := ((strN m.p0 (strS m.p0 more 0)) = (strN m.p0 (strS m.p0 more 0))); let zz50 := (zz21 ∧ zz22 ∧ zz23 ∧ zz24 ∧ zz25 ∧ zz26 ∧ zz27 ∧ zz28 ∧ zz13 ∧ zz14 ∧ zz19 ∧ zz49 ∧ zz29 ∧ zz30 ∧ zz31 ∧ zz32 ∧ zz33 ∧ zz34 ∧ zz35 ∧ zz36 ∧ zz37 ∧ zz38 ∧ zz39 ∧ zz40 ∧ zz41 ∧ zz42 ∧ zz43 ∧ zz44 ∧ True); let zz51 := [DV.int .i64 m.p1.w, DV.int .i64 m.p1.h, DV.int .i64 m.p1.s, DV.sl m.p1.n m.p1.xs]; let zz52 := (zz51 = zz51); let zz53 := (strRow m.p0 (strS m.p0 more 0) (strN m.p0 (strS m.p0 more 0)) = strRow m.p0 (strS m.p0 more 0) (strN m.p0 (strS m.p0 more 0))); let zz54 := fun (i' : Nat) => (i' ≤ (strN m.p1 (strS m.p1 more 1))); let zz55 := fun (i : Nat) => fun (i' : Nat) => ((strN m.p1 (strS m.p1 more 1)) - i' < (strN m.p1 (strS m.p1 more 1)) - i); let zz56 := fun (i : Nat) => fun (i' : Nat) => (zz2 ∧ (0 = 0) ∧ (0 = 0) ∧ zz48 ∧ (0 = 0) ∧ (0 = 0) ∧ (zz17 i i') ∧ True); let zz57 := (DV.int .i64 (strS m.p1 more 1) = DV.int .i64 (strS m.p1 more 1)); let zz58 := fun (i : Nat) => fun (i' : Nat) => (zz29 ∧ zz30 ∧ zz57 ∧ (i + 1 = i') ∧ True); let zz59 := (0 ≤ (2 : Int) ∧ (2 : Int) < ((5 : Nat) : Int)); let zz60 := (IntKind.wrap .i64 (more + (2 : Int))); let zz61 := fun (i : Nat) => (i ≤ (strN m.p2 (strS m.p2 more 2))); let zz62 := (DV.int .i64 2 = DV.int .i64 2); let zz63 := ((strN m.p1 (strS m.p1 more 1)) = (strN m.p1 (strS m.p1 more 1))); let zz64 := (zz21 ∧ zz22 ∧ zz23 ∧ zz24 ∧ zz25 ∧ zz26 ∧ zz27 ∧ zz28 ∧ zz13 ∧ zz14 ∧ zz19 ∧ zz49 ∧ zz29 ∧ zz30 ∧ zz57 ∧ zz63 ∧ zz33 ∧ zz34 ∧ zz35 ∧ zz36 ∧ zz37 ∧ zz38 ∧ zz39 ∧ zz40 ∧ zz41 ∧ zz42 ∧ zz43 ∧ zz44 ∧ True); let zz65 := [DV.int .i64 m.p2.w, DV.int .i64 m.p2.h, DV.int .i64 m.p2.s, DV.sl m.p2.n m.p2.xs]; let zz66 := (zz65 = zz65); let zz67 := (strRow m.p1 (strS m.p1 more 1) (strN m.p1 (strS m.p1 more 1)) = strRow m.p1 (strS m.p1 more 1) (strN m.p1 (strS m.p1 more 1))); let zz68 := fun (i' : Nat) => (i' ≤ (strN m.p2 (strS m.p2 more 2))); let zz69 := fun (i : Nat) => fun (i' : Nat) => ((strN m.p2 (strS m.p2 more 2)) - i' < (strN m.p2 (strS m.p2 more 2)) - i); let zz70 := fun (i : Nat) => fun (i' : Nat) => (zz2 ∧ (0 = 0) ∧ (0 = 0) ∧ zz62 ∧ (0 = 0) ∧ (0 = 0) ∧ (zz17 i i') ∧ True); let zz71 := (DV.int .i64 (strS m.p2 more 2) = DV.int .i64 (strS m.p2 more 2)); let zz72 := fun (i : Nat) => fun (i' : Nat) => (zz33 ∧ zz34 ∧ zz71 ∧ (i + 1 = i') ∧ True); let zz73 := (0 ≤ (3 : Int) ∧ (3 : Int) < ((5 : Nat) : Int)); let zz74 := (IntKind.wrap .i64 (more + (3 : Int))); let zz75 := fun (i : Nat) => (i ≤ (strN m.p3 (strS m.p3 more 3))); let zz76 := (DV.int .i64 3 = DV.int .i64 3); let zz77 := ((strN m.p2 (strS m.p2 more 2)) = (strN m.p2 (strS m.p2 more 2))); let zz78 := (zz21 ∧ zz22 ∧ zz23 ∧ zz24 ∧ zz25 ∧ zz26 ∧ zz27 ∧ zz28 ∧ zz13 ∧ zz14 ∧ zz19 ∧ zz49 ∧ zz29 ∧ zz30 ∧ zz57 ∧ zz63 ∧ zz33 ∧ zz34 ∧ zz71 ∧ zz77 ∧ zz37 ∧ zz38 ∧ zz39 ∧ zz40 ∧ zz41 ∧ zz42 ∧ zz43 ∧ zz44 ∧ True); let zz79 := [DV.int .i64 m.p3.w, DV.int .i64 m.p3.h, DV.int .i64 m.p3.s, DV.sl m.p3.n m.p3.xs]; let zz80 := (zz79 = zz79); let zz81 := (strRow m.p2 (strS m.p2 more 2) (strN m.p2 (strS m.p2 more 2)) = strRow m.p2 (strS m.p2 more 2) (strN m.p2 (strS m.p2 more 2))); let zz82 := fun (i' : Nat) => (i' ≤ (strN m.p3 (strS m.p3 more 3))); let zz83 := fun (i : Nat) => fun (i' : Nat) => ((strN m.p3 (strS m.p3 more 3)) - i' < (strN m.p3 (strS m.p3 more 3)) - i); let zz84 := fun (i : Nat) => fun (i' : Nat) => (zz2 ∧ (0 = 0) ∧ (0 = 0) ∧ zz76 ∧ (0 = 0) ∧ (0 = 0) ∧ (zz17 i i') ∧ True); let zz85 := (DV.int .i64 (strS m.p3 more 3) = DV.int .i64 (strS m.p3 more 3)); let zz86 := fun (i : Nat) => fun (i' : Nat) => (zz37 ∧ zz38 ∧ zz85 ∧ (i + 1 = i') ∧ True); let zz87 := (0 ≤ (4 : Int) ∧ (4 : Int) < ((5 : Nat) : Int)); let zz88 := (IntKind.wrap .i64 (more + (4 : Int))); let zz89 := fun (i : Nat) => (i ≤ (strN m.p4 (strS m.p4 more 4))); let zz90 := (DV.int .i64 4 = DV.int .i64 4); let zz91 := ((strN m.p3 (strS m.p3 more 3)) = (strN m.p3 (strS m.p3 more 3))); let zz92 := (zz21 ∧ zz22 ∧ zz23 ∧ zz24 ∧ zz25 ∧ zz26 ∧ zz27 ∧ zz28 ∧ zz13 ∧ zz14 ∧ zz19 ∧ zz49 ∧ zz29 ∧ zz30 ∧ zz57 ∧ zz63 ∧ zz33 ∧ zz34 ∧ zz71 ∧ zz77 ∧ zz37 ∧ zz38 ∧ zz85 ∧ zz91 ∧ zz41 ∧ zz42 ∧ zz43 ∧ zz44 ∧ True); let zz93 := [DV.int .i64 m.p4.w, DV.int .i64 m.p4.h, DV.int .i64 m.p4.s, DV.sl m.p4.n m.p4.xs]; let zz94 := (zz93 = zz93); let zz95 := (strRow m.p3 (strS m.p3 more 3) (strN m.p3 (strS m.p3 more 3)) = strRow m.p3 (strS m.p3 more 3) (strN m.p3 (strS m.p3 more 3))); let zz96 := fun (i' : Nat) => (i' ≤ (strN m.p4 (strS m.p4 more 4))); let zz97 := fun (i : Nat) => fun (i' : Nat) => ((strN m.p4 (strS m.p4 more 4)) - i' < (strN m.p4 (strS m.p4 more 4)) - i); let zz98 := fun (i : Nat) => fun (i' : Nat) => (zz2 ∧ (0 = 0) ∧ (0 = 0) ∧ zz90 ∧ (0 = 0) ∧ (0 = 0) ∧ (zz17 i i') ∧ True); let zz99 := (DV.int .i64 (strS m.p4 more 4) = DV.int .i64 (strS m.p4 more 4)); let zz100 := fun (i : Nat) => fun (i' : Nat) => (zz41 ∧ zz42 ∧ zz99 ∧ (i + 1 = i') ∧ True); True ∧ True ∧ True ∧ True ∧ ((m.so = true → True ∧ True ∧ RV.agg zz0 = RV.agg zz1) ∧ (m.so = false → True ∧ (∃ _u : Unit, True ∧ ((zz2 ∧ (0 = 0) ∧ (0 = 0) ∧ zz3 ∧ True) ∧ (zz4 ∧ zz6 ∧ True))) ∧ ((∀ _u : Unit, (True) → True ∧ True ∧ (decide ((0 : Int) < (5 : Int)) = true ∧ True ∧ True ∧ zz7 ∧ True ∧ True ∧ True ∧ True ∧ True ∧ True ∧ True ∧ True ∧ True ∧ True ∧ True ∧ True ∧ (Ans Try.prog 16 [RV.d (DV.int .i64 zz8), RV.d (DV.int .i64 4)] (RV.d (DV.int .i64 (modS zz8 (4 : Int))))) ∧ True ∧ True ∧ True ∧ True ∧ (true = true) ∧ True ∧ ((∃ i : Nat, (zz9 i) ∧ ((zz2 ∧ (0 = 0) ∧ (0 = 0) ∧ zz3 ∧ (0 = 0) ∧ (0 = 0) ∧ (zz10 i) ∧ True) ∧ (zz4 ∧ zz6 ∧ zz12 ∧ (zz13 ∧ zz14 ∧ (DV.int .i64 (IntKind.wrap .i64 (m.p0.w + (modS zz8 (4 : Int)))) = DV.int .i64 (strS m.p0 more 0)) ∧ (0 = i) ∧ True) ∧ ([] = strRow m.p0 (strS m.p0 more 0) i) ∧ True))) ∧ ∀ i : Nat, (zz9 i) → True ∧ True ∧ True ∧ True ∧ True ∧ True ∧ True ∧ (((decide (((i : Nat) : Int) < (IntKind.wrap .i64 ((strS m.p0 more 0) * m.p0.h)))) = true → True ∧ True ∧ True ∧ True ∧ True ∧ True ∧ True ∧ ((strS m.p0 more 0) ≠ 0) ∧ True ∧ True ∧ True ∧ (true = true) ∧ (((decide ((Int.tmod ((i : Nat) : Int) (strS m.p0 more 0)) < m.p0.w)) = true → True ∧ True ∧ True ∧ True ∧ True ∧ ((strS m.p0 more 0) ≠ 0) ∧ True ∧ True ∧ True ∧ True ∧ True ∧ True ∧ ((strS m.p0 more 0) ≠ 0) ∧ True ∧ (0 ≤ IntKind.wrap .i64 ((IntKind.wrap .i64 ((IntKind.wrap .i64 (Int.tdiv ((i : Nat) : Int) (strS m.p0 more 0))) * m.p0.s)) + (Int.tmod ((i : Nat) : Int) (strS m.p0 more 0))) ∧ IntKind.wrap .i64 ((IntKind.wrap .i64 ((IntKind.wrap .i64 (Int.tdiv ((i : Nat) : Int) (strS m.p0 more 0))) * m.p0.s)) + (Int.tmod ((i : Nat) : Int) (strS m.p0 more 0))) < ((m.p0.n : Nat) : Int) ∧ (IntKind.wrap .i64 ((IntKind.wrap .i64 ((IntKind.wrap .i64 (Int.tdiv ((i : Nat) : Int) (strS m.p0 more 0))) * m.p0.s)) + (Int.tmod ((i : Nat) : Int) (strS m.p0 more 0)))).toNat * 1 < m.p0.xs.length) ∧ ((m.p0.xs[(IntKind.wrap .i64 ((IntKind.wrap .i64 ((IntKind.wrap .i64 (Int.tdiv ((i : Nat) : Int) (strS m.p0 more 0))) * m.p0.s)) + (Int.tmod ((i : Nat) : Int) (strS m.p0 more 0)))).toNat * 1]? = some (DV.int .u16 (nAt m.p0.xs ((IntKind.wrap .i64 ((IntKind.wrap .i64 ((IntKind.wrap .i64 (Int.tdiv ((i : Nat) : Int) (strS m.p0 more 0))) * m.p0.s)) + (Int.tmod ((i : Nat) : Int) (strS m.p0 more 0)))).toNat * 1)))) ∧ True) ∧ True ∧ (true = true) ∧ True ∧ True ∧ True ∧ True ∧ (appVc 1 2 i 1 (strRow m.p0 (strS m.p0 more 0) i) ([DV.int .u16 (nAt m.p0.xs ((IntKind.wrap .i64 ((IntKind.wrap .i64 ((IntKind.wrap .i64 (Int.tdiv ((i : Nat) : Int) (strS m.p0 more 0))) * m.p0.s)) + (Int.tmod ((i : Nat) : Int) (strS m.p0 more 0)))).toNat * 1))])) ∧ True ∧ True ∧ True ∧ True ∧ True ∧ ∃ i' : Nat, (zz15 i') ∧ (zz16 i i') ∧ ((zz18 i i') ∧ (zz4 ∧ zz6 ∧ zz12 ∧ (zz20 i i') ∧ ((strRow m.p0 (strS m.p0 more 0) i) ++ ([DV.int .u16 (nAt m.p0.xs ((IntKind.wrap .i64 ((IntKind.wrap .i64 ((IntKind.wrap .i64 (Int.tdiv ((i : Nat) : Int) (strS m.p0 more 0))) * m.p0.s)) + (Int.tmod ((i : Nat) : Int) (strS m.p0 more 0)))).toNat * 1))]) = strRow m.p0 (strS m.p0 more 0) i') ∧ True))) ∧ ((decide ((Int.tmod ((i : Nat) : Int) (strS m.p0 more 0)) < m.p0.w)) = false → True ∧ True ∧ True ∧ True ∧ (appVc 1 2 i 1 (strRow m.p0 (strS m.p0 more 0) i) ([DV.int .u16 (IntKind.wrap .u16 (IntKind.wrap .i64 ((40000 : Int) + ((i : Nat) : Int))))])) ∧ True ∧ True ∧ True ∧ True ∧ True ∧ ∃ i' : Nat, (zz15 i') ∧ (zz16 i i') ∧ ((zz18 i i') ∧ (zz4 ∧ zz6 ∧ zz12 ∧ (zz20 i i') ∧ ((strRow m.p0 (strS m.p0 more 0) i) ++ ([DV.int .u16 (IntKind.wrap .u16 (IntKind.wrap .i64 ((40000 : Int) + ((i : Nat) : Int))))]) = strRow m.p0 (strS m.p0 more 0) i') ∧ True))))) ∧ ((decide (((i : Nat) : Int) < (IntKind.wrap .i64 ((strS m.p0 more 0) * m.p0.h)))) = false → True ∧ True ∧ True ∧ zz7 ∧ True ∧ True ∧ True ∧ True ∧ ∃ _u : Unit, True ∧ ((zz2 ∧ (0 = 0) ∧ (0 = 0) ∧ (DV.int .i64 (IntKind.wrap .i64 ((0 : Int) + (1 : Int))) = DV.int .i64 1) ∧ True) ∧ ((zz21 ∧ zz22 ∧ zz23 ∧ zz24 ∧ zz25 ∧ zz26 ∧ zz27 ∧ zz28 ∧ zz13 ∧ zz14 ∧ zz19 ∧ (i = (strN m.p0 (strS m.p0 more 0))) ∧ zz29 ∧ zz30 ∧ zz31 ∧ zz32 ∧ zz33 ∧ zz34 ∧ zz35 ∧ zz36 ∧ zz37 ∧ zz38 ∧ zz39 ∧ zz40 ∧ zz41 ∧ zz42 ∧ zz43 ∧ zz44 ∧ True) ∧ zz6 ∧ (strRow m.p0 (strS m.p0 more 0) i = strRow m.p0 (strS m.p0 more 0) (strN m.p0 (strS m.p0 more 0))) ∧ True))))))) ∧ (∀ _u : Unit, (True) → True ∧ True ∧ (decide ((1 : Int) < (5 : Int)) = true ∧ True ∧ True ∧ zz45 ∧ True ∧ True ∧ True ∧ True ∧ True ∧ True ∧ True ∧ True ∧ True ∧ True ∧ True ∧ True ∧ (Ans Try.prog 16 [RV.d (DV.int .i64 zz46), RV.d (DV.int .i64 4)] (RV.d (DV.int .i64 (modS zz46 (4 : Int))))) ∧ True ∧ True ∧ True ∧ True ∧ (true = true) ∧ True ∧ ((∃ i : Nat, (zz47 i) ∧ ((zz2 ∧ (0 = 0) ∧ (0 = 0) ∧ zz48 ∧ (0 = 0) ∧ (0 = 0) ∧ (zz10 i) ∧ True) ∧ (zz50 ∧ zz6 ∧ zz52 ∧ (zz29 ∧ zz30 ∧ (DV.int .i64 (IntKind.wrap .i64 (m.p1.w + (modS zz46 (4 : Int)))) = DV.int .i64 (strS m.p1 more 1)) ∧ (0 = i) ∧ True) ∧ zz53 ∧ ([] = strRow m.p1 (strS m.p1 more 1) i) ∧ True))) ∧ ∀ i : Nat, (zz47 i) → True ∧ True ∧ True ∧ True ∧ True ∧ True ∧ True ∧ (((decide (((i : Nat) : Int) < (IntKind.wrap .i64 ((strS m.p1 more 1) * m.p1.h)))) = true → True ∧ True ∧ True ∧ True ∧ True ∧ True ∧ True ∧ ((strS m.p1 more 1) ≠ 0) ∧ True ∧ True ∧ True ∧ (true = true) ∧ (((decide ((Int.tmod ((i : Nat) : Int) (strS m.p1 more 1)) < m.p1.w)) = true → True ∧ True ∧ True ∧ True ∧ True ∧ ((strS m.p1 more 1) ≠ 0) ∧ True ∧ True ∧ True ∧ True ∧ True ∧ True ∧ ((strS m.p1 more 1) ≠ 0) ∧ True ∧ (0 ≤ IntKind.wrap .i64 ((IntKind.wrap .i64 ((IntKind.wrap .i64 (Int.tdiv ((i : Nat) : Int) (strS m.p1 more 1))) * m.p1.s)) + (Int.tmod ((i : Nat) : Int) (strS m.p1 more 1))) ∧ IntKind.wrap .i64 ((IntKind.wrap .i64 ((IntKind.wrap .i64 (Int.tdiv ((i : Nat) : Int) (strS m.p1 more 1))) * m.p1.s)) + (Int.tmod ((i : Nat) : Int) (strS m.p1 more 1))) < ((m.p1.n : Nat) : Int) ∧ (IntKind.wrap .i64 ((IntKind.wrap .i64 ((IntKind.wrap .i64 (Int.tdiv ((i : Nat) : Int) (strS m.p1 more 1))) * m.p1.s)) + (Int.tmod ((i : Nat) : Int) (strS m.p1 more 1)))).toNat * 1 < m.p1.xs.length) ∧ ((m.p1.xs[(IntKind.wrap .i64 ((IntKind.wrap .i64 ((IntKind.wrap .i64 (Int.tdiv ((i : Nat) : Int) (strS m.p1 more 1))) * m.p1.s)) + (Int.tmod ((i : Nat) : Int) (strS m.p1 more 1)))).toNat * 1]? = some (DV.int .u16 (nAt m.p1.xs ((IntKind.wrap .i64 ((IntKind.wrap .i64 ((IntKind.wrap .i64 (Int.tdiv ((i : Nat) : Int) (strS m.p1 more 1))) * m.p1.s)) + (Int.tmod ((i : Nat) : Int) (strS m.p1 more 1)))).toNat * 1)))) ∧ True) ∧ True ∧ (true = true) ∧ True ∧ True ∧ True ∧ True ∧ (appVc 1 2 i 1 (strRow m.p1 (strS m.p1 more 1) i) ([DV.int .u16 (nAt m.p1.xs ((IntKind.wrap .i64 ((IntKind.wrap .i64 ((IntKind.wrap .i64 (Int.tdiv ((i : Nat) : Int) (strS m.p1 more 1))) * m.p1.s)) + (Int.tmod ((i : Nat) : Int) (strS m.p1 more 1)))).toNat * 1))])) ∧ True ∧ True ∧ True ∧ True ∧ True ∧ ∃ i' : Nat, (zz54 i') ∧ (zz55 i i') ∧ ((zz56 i i') ∧ (zz50 ∧ zz6 ∧ zz52 ∧ (zz58 i i') ∧ zz53 ∧ ((strRow m.p1 (strS m.p1 more 1) i) ++ ([DV.int .u16 (nAt m.p1.xs ((IntKind.wrap .i64 ((IntKind.wrap .i64 ((IntKind.wrap .i64 (Int.tdiv ((i : Nat) : Int) (strS m.p1 more 1))) * m.p1.s)) + (Int.tmod ((i : Nat) : Int) (strS m.p1 more 1)))).toNat * 1))]) = strRow m.p1 (strS m.p1 more 1) i') ∧ True))) ∧ ((decide ((Int.tmod ((i : Nat) : Int) (strS m.p1 more 1)) < m.p1.w)) = false → True ∧ True ∧ True ∧ True ∧ (appVc 1 2 i 1 (strRow m.p1 (strS m.p1 more 1) i) ([DV.int .u16 (IntKind.wrap .u16 (IntKind.wrap .i64 ((40000 : Int) + ((i : Nat) : Int))))])) ∧ True ∧ True ∧ True ∧ True ∧ True ∧ ∃ i' : Nat, (zz54 i') ∧ (zz55 i i') ∧ ((zz56 i i') ∧ (zz50 ∧ zz6 ∧ zz52 ∧ (zz58 i i') ∧ zz53 ∧ ((strRow m.p1 (strS m.p1 more 1) i) ++ ([DV.int .u16 (IntKind.wrap .u16 (IntKind.wrap .i64 ((40000 : Int) + ((i : Nat) : Int))))]) = strRow m.p1 (strS m.p1 more 1) i') ∧ True))))) ∧ ((decide (((i : Nat) : Int) < (IntKind.wrap .i64 ((strS m.p1 more 1) * m.p1.h)))) = false → True ∧ True ∧ True ∧ zz45 ∧ True ∧ True ∧ True ∧ True ∧ ∃ _u : Unit, True ∧ ((zz2 ∧ (0 = 0) ∧ (0 = 0) ∧ (DV.int .i64 (IntKind.wrap .i64 ((1 : Int) + (1 : Int))) = DV.int .i64 2) ∧ True) ∧ ((zz21 ∧ zz22 ∧ zz23 ∧ zz24 ∧ zz25 ∧ zz26 ∧ zz27 ∧ zz28 ∧ zz13 ∧ zz14 ∧ zz19 ∧ zz49 ∧ zz29 ∧ zz30 ∧ zz57 ∧ (i = (strN m.p1 (strS m.p1 more 1))) ∧ zz33 ∧ zz34 ∧ zz35 ∧ zz36 ∧ zz37 ∧ zz38 ∧ zz39 ∧ zz40 ∧ zz41 ∧ zz42 ∧ zz43 ∧ zz44 ∧ True) ∧ zz6 ∧ zz53 ∧ (strRow m.p1 (strS m.p1 more 1) i = strRow m.p1 (strS m.p1 more 1) (strN m.p1 (strS m.p1 more 1))) ∧ True))))))) ∧ (∀ _u : Unit, (True) → True ∧ True ∧ (decide ((2 : Int) < (5 : Int)) = true ∧ True ∧ True ∧ zz59 ∧ True ∧ True ∧ True ∧ True ∧ True ∧ True ∧ True ∧ True ∧ True ∧ True ∧ True ∧ True ∧ (Ans Try.prog 16 [RV.d (DV.int .i64 zz60), RV.d (DV.int .i64 4)] (RV.d (DV.int .i64 (modS zz60 (4 : Int))))) ∧ True ∧ True ∧ True ∧ True ∧ (true = true) ∧ True ∧ ((∃ i : Nat, (zz61 i) ∧ ((zz2 ∧ (0 = 0) ∧ (0 = 0) ∧ zz62 ∧ (0 = 0) ∧ (0 = 0) ∧ (zz10 i) ∧ True) ∧ (zz64 ∧ zz6 ∧ zz66 ∧ (zz33 ∧ zz34 ∧ (DV.int .i64 (IntKind.wrap .i64 (m.p2.w + (modS zz60 (4 : Int)))) = DV.int .i64 (strS m.p2 more 2)) ∧ (0 = i) ∧ True) ∧ zz53 ∧ zz67 ∧ ([] = strRow m.p2 (strS m.p2 more 2) i) ∧ True))) ∧ ∀ i : Nat, (zz61 i) → True ∧ True ∧ True ∧ True ∧ True ∧ True ∧ True ∧ (((decide (((i : Nat) : Int) < (IntKind.wrap .i64 ((strS m.p2 more 2) * m.p2.h)))) = true → True ∧ True ∧ True ∧ True ∧ True ∧ True ∧ True ∧ ((strS m.p2 more 2) ≠ 0) ∧ True ∧ True ∧ True ∧ (true = true) ∧ (((decide ((Int.tmod ((i : Nat) : Int) (strS m.p2 more 2)) < m.p2.w)) = true → True ∧ True ∧ True ∧ True ∧ True ∧ ((strS m.p2 more 2) ≠ 0) ∧ True ∧ True ∧ True ∧ True ∧ True ∧ True ∧ ((strS m.p2 more 2) ≠ 0) ∧ True ∧ (0 ≤ IntKind.wrap .i64 ((IntKind.wrap .i64 ((IntKind.wrap .i64 (Int.tdiv ((i : Nat) : Int) (strS m.p2 more 2))) * m.p2.s)) + (Int.tmod ((i : Nat) : Int) (strS m.p2 more 2))) ∧ IntKind.wrap .i64 ((IntKind.wrap .i64 ((IntKind.wrap .i64 (Int.tdiv ((i : Nat) : Int) (strS m.p2 more 2))) * m.p2.s)) + (Int.tmod ((i : Nat) : Int) (strS m.p2 more 2))) < ((m.p2.n : Nat) : Int) ∧ (IntKind.wrap .i64 ((IntKind.wrap .i64 ((IntKind.wrap .i64 (Int.tdiv ((i : Nat) : Int) (strS m.p2 more 2))) * m.p2.s)) + (Int.tmod ((i : Nat) : Int) (strS m.p2 more 2)))).toNat * 1 < m.p2.xs.length) ∧ ((m.p2.xs[(IntKind.wrap .i64 ((IntKind.wrap .i64 ((IntKind.wrap .i64 (Int.tdiv ((i : Nat) : Int) (strS m.p2 more 2))) * m.p2.s)) + (Int.tmod ((i : Nat) : Int) (strS m.p2 more 2)))).toNat * 1]? = some (DV.int .u16 (nAt m.p2.xs ((IntKind.wrap .i64 ((IntKind.wrap .i64 ((IntKind.wrap .i64 (Int.tdiv ((i : Nat) : Int) (strS m.p2 more 2))) * m.p2.s)) + (Int.tmod ((i : Nat) : Int) (strS m.p2 more 2)))).toNat * 1)))) ∧ True) ∧ True ∧ (true = true) ∧ True ∧ True ∧ True ∧ True ∧ (appVc 1 2 i 1 (strRow m.p2 (strS m.p2 more 2) i) ([DV.int .u16 (nAt m.p2.xs ((IntKind.wrap .i64 ((IntKind.wrap .i64 ((IntKind.wrap .i64 (Int.tdiv ((i : Nat) : Int) (strS m.p2 more 2))) * m.p2.s)) + (Int.tmod ((i : Nat) : Int) (strS m.p2 more 2)))).toNat * 1))])) ∧ True ∧ True ∧ True ∧ True ∧ True ∧ ∃ i' : Nat, (zz68 i') ∧ (zz69 i i') ∧ ((zz70 i i') ∧ (zz64 ∧ zz6 ∧ zz66 ∧ (zz72 i i') ∧ zz53 ∧ zz67 ∧ ((strRow m.p2 (strS m.p2 more 2) i) ++ ([DV.int .u16 (nAt m.p2.xs ((IntKind.wrap .i64 ((IntKind.wrap .i64 ((IntKind.wrap .i64 (Int.tdiv ((i : Nat) : Int) (strS m.p2 more 2))) * m.p2.s)) + (Int.tmod ((i : Nat) : Int) (strS m.p2 more 2)))).toNat * 1))]) = strRow m.p2 (strS m.p2 more 2) i') ∧ True))) ∧ ((decide ((Int.tmod ((i : Nat) : Int) (strS m.p2 more 2)) < m.p2.w)) = false → True ∧ True ∧ True ∧ True ∧ (appVc 1 2 i 1 (strRow m.p2 (strS m.p2 more 2) i) ([DV.int .u16 (IntKind.wrap .u16 (IntKind.wrap .i64 ((40000 : Int) + ((i : Nat) : Int))))])) ∧ True ∧ True ∧ True ∧ True ∧ True ∧ ∃ i' : Nat, (zz68 i') ∧ (zz69 i i') ∧ ((zz70 i i') ∧ (zz64 ∧ zz6 ∧ zz66 ∧ (zz72 i i') ∧ zz53 ∧ zz67 ∧ ((strRow m.p2 (strS m.p2 more 2) i) ++ ([DV.int .u16 (IntKind.wrap .u16 (IntKind.wrap .i64 ((40000 : Int) + ((i : Nat) : Int))))]) = strRow m.p2 (strS m.p2 more 2) i') ∧ True))))) ∧ ((decide (((i : Nat) : Int) < (IntKind.wrap .i64 ((strS m.p2 more 2) * m.p2.h)))) = false → True ∧ True ∧ True ∧ zz59 ∧ True ∧ True ∧ True ∧ True ∧ ∃ _u : Unit, True ∧ ((zz2 ∧ (0 = 0) ∧ (0 = 0) ∧ (DV.int .i64 (IntKind.wrap .i64 ((2 : Int) + (1 : Int))) = DV.int .i64 3) ∧ True) ∧ ((zz21 ∧ zz22 ∧ zz23 ∧ zz24 ∧ zz25 ∧ zz26 ∧ zz27 ∧ zz28 ∧ zz13 ∧ zz14 ∧ zz19 ∧ zz49 ∧ zz29 ∧ zz30 ∧ zz57 ∧ zz63 ∧ zz33 ∧ zz34 ∧ zz71 ∧ (i = (strN m.p2 (strS m.p2 more 2))) ∧ zz37 ∧ zz38 ∧ zz39 ∧ zz40 ∧ zz41 ∧ zz42 ∧ zz43 ∧ zz44 ∧ True) ∧ zz6 ∧ zz53 ∧ zz67 ∧ (strRow m.p2 (strS m.p2 more 2) i = strRow m.p2 (strS m.p2 more 2) (strN m.p2 (strS m.p2 more 2))) ∧ True))))))) ∧ (∀ _u : Unit, (True) → True ∧ True ∧ (decide ((3 : Int) < (5 : Int)) = true ∧ True ∧ True ∧ zz73 ∧ True ∧ True ∧ True ∧ True ∧ True ∧ True ∧ True ∧ True ∧ True ∧ True ∧ True ∧ True ∧ (Ans Try.prog 16 [RV.d (DV.int .i64 zz74), RV.d (DV.int .i64 4)] (RV.d (DV.int .i64 (modS zz74 (4 : Int))))) ∧ True ∧ True ∧ True ∧ True ∧ (true = true) ∧ True ∧ ((∃ i : Nat, (zz75 i) ∧ ((zz2 ∧ (0 = 0) ∧ (0 = 0) ∧ zz76 ∧ (0 = 0) ∧ (0 = 0) ∧ (zz10 i) ∧ True) ∧ (zz78 ∧ zz6 ∧ zz80 ∧ (zz37 ∧ zz38 ∧ (DV.int .i64 (IntKind.wrap .i64 (m.p3.w + (modS zz74 (4 : Int)))) = DV.int .i64 (strS m.p3 more 3)) ∧ (0 = i) ∧ True) ∧ zz53 ∧ zz67 ∧ zz81 ∧ ([] = strRow m.p3 (strS m.p3 more 3) i) ∧ True))) ∧ ∀ i : Nat, (zz75 i) → True ∧ True ∧ True ∧ True ∧ True ∧ True ∧ True ∧ (((decide (((i : Nat) : Int) < (IntKind.wrap .i64 ((strS m.p3 more 3) * m.p3.h)))) = true → True ∧ True ∧ True ∧ True ∧ True ∧ True ∧ True ∧ ((strS m.p3 more 3) ≠ 0) ∧ True ∧ True ∧ True ∧ (true = true) ∧ (((decide ((Int.tmod ((i : Nat) : Int) (strS m.p3 more 3)) < m.p3.w)) = true → True ∧ True ∧ True ∧ True ∧ True ∧ ((strS m.p3 more 3) ≠ 0) ∧ True ∧ True ∧ True ∧ True ∧ True ∧ True ∧ ((strS m.p3 more 3) ≠ 0) ∧ True ∧ (0 ≤ IntKind.wrap .i64 ((IntKind.wrap .i64 ((IntKind.wrap .i64 (Int.tdiv ((i : Nat) : Int) (strS m.p3 more 3))) * m.p3.s)) + (Int.tmod ((i : Nat) : Int) (strS m.p3 more 3))) ∧ IntKind.wrap .i64 ((IntKind.wrap .i64 ((IntKind.wrap .i64 (Int.tdiv ((i : Nat) : Int) (strS m.p3 more 3))) * m.p3.s)) + (Int.tmod ((i : Nat) : Int) (strS m.p3 more 3))) < ((m.p3.n : Nat) : Int) ∧ (IntKind.wrap .i64 ((IntKind.wrap .i64 ((IntKind.wrap .i64 (Int.tdiv ((i : Nat) : Int) (strS m.p3 more 3))) * m.p3.s)) + (Int.tmod ((i : Nat) : Int) (strS m.p3 more 3)))).toNat * 1 < m.p3.xs.length) ∧ ((m.p3.xs[(IntKind.wrap .i64 ((IntKind.wrap .i64 ((IntKind.wrap .i64 (Int.tdiv ((i : Nat) : Int) (strS m.p3 more 3))) * m.p3.s)) + (Int.tmod ((i : Nat) : Int) (strS m.p3 more 3)))).toNat * 1]? = some (DV.int .u16 (nAt m.p3.xs ((IntKind.wrap .i64 ((IntKind.wrap .i64 ((IntKind.wrap .i64 (Int.tdiv ((i : Nat) : Int) (strS m.p3 more 3))) * m.p3.s)) + (Int.tmod ((i : Nat) : Int) (strS m.p3 more 3)))).toNat * 1)))) ∧ True) ∧ True ∧ (true = true) ∧ True ∧ True ∧ True ∧ True ∧ (appVc 1 2 i 1 (strRow m.p3 (strS m.p3 more 3) i) ([DV.int .u16 (nAt m.p3.xs ((IntKind.wrap .i64 ((IntKind.wrap .i64 ((IntKind.wrap .i64 (Int.tdiv ((i : Nat) : Int) (strS m.p3 more 3))) * m.p3.s)) + (Int.tmod ((i : Nat) : Int) (strS m.p3 more 3)))).toNat * 1))])) ∧ True ∧ True ∧ True ∧ True ∧ True ∧ ∃ i' : Nat, (zz82 i') ∧ (zz83 i i') ∧ ((zz84 i i') ∧ (zz78 ∧ zz6 ∧ zz80 ∧ (zz86 i i') ∧ zz53 ∧ zz67 ∧ zz81 ∧ ((strRow m.p3 (strS m.p3 more 3) i) ++ ([DV.int .u16 (nAt m.p3.xs ((IntKind.wrap .i64 ((IntKind.wrap .i64 ((IntKind.wrap .i64 (Int.tdiv ((i : Nat) : Int) (strS m.p3 more 3))) * m.p3.s)) + (Int.tmod ((i : Nat) : Int) (strS m.p3 more 3)))).toNat * 1))]) = strRow m.p3 (strS m.p3 more 3) i') ∧ True))) ∧ ((decide ((Int.tmod ((i : Nat) : Int) (strS m.p3 more 3)) < m.p3.w)) = false → True ∧ True ∧ True ∧ True ∧ (appVc 1 2 i 1 (strRow m.p3 (strS m.p3 more 3) i) ([DV.int .u16 (IntKind.wrap .u16 (IntKind.wrap .i64 ((40000 : Int) + ((i : Nat) : Int))))])) ∧ True ∧ True ∧ True ∧ True ∧ True ∧ ∃ i' : Nat, (zz82 i') ∧ (zz83 i i') ∧ ((zz84 i i') ∧ (zz78 ∧ zz6 ∧ zz80 ∧ (zz86 i i') ∧ zz53 ∧ zz67 ∧ zz81 ∧ ((strRow m.p3 (strS m.p3 more 3) i) ++ ([DV.int .u16 (IntKind.wrap .u16 (IntKind.wrap .i64 ((40000 : Int) + ((i : Nat) : Int))))]) = strRow m.p3 (strS m.p3 more 3) i') ∧ True))))) ∧ ((decide (((i : Nat) : Int) < (IntKind.wrap .i64 ((strS m.p3 more 3) * m.p3.h)))) = false → True ∧ True ∧ True ∧ zz73 ∧ True ∧ True ∧ True ∧ True ∧ ∃ _u : Unit, True ∧ ((zz2 ∧ (0 = 0) ∧ (0 = 0) ∧ (DV.int .i64 (IntKind.wrap .i64 ((3 : Int) + (1 : Int))) = DV.int .i64 4) ∧ True) ∧ ((zz21 ∧ zz22 ∧ zz23 ∧ zz24 ∧ zz25 ∧ zz26 ∧ zz27 ∧ zz28 ∧ zz13 ∧ zz14 ∧ zz19 ∧ zz49 ∧ zz29 ∧ zz30 ∧ zz57 ∧ zz63 ∧ zz33 ∧ zz34 ∧ zz71 ∧ zz77 ∧ zz37 ∧ zz38 ∧ zz85 ∧ (i = (strN m.p3 (strS m.p3 more 3))) ∧ zz41 ∧ zz42 ∧ zz43 ∧ zz44 ∧ True) ∧ zz6 ∧ zz53 ∧ zz67 ∧ zz81 ∧ (strRow m.p3 (strS m.p3 more 3) i = strRow m.p3 (strS m.p3 more 3) (strN m.p3 (strS m.p3 more 3))) ∧ True))))))) ∧ (∀ _u : Unit, (True) → True ∧ True ∧ (decide ((4 : Int) < (5 : Int)) = true ∧ True ∧ True ∧ zz87 ∧ True ∧ True ∧ True ∧ True ∧ True ∧ True ∧ True ∧ True ∧ True ∧ True ∧ True ∧ True ∧ (Ans Try.prog 16 [RV.d (DV.int .i64 zz88), RV.d (DV.int .i64 4)] (RV.d (DV.int .i64 (modS zz88 (4 : Int))))) ∧ True ∧ True ∧ True ∧ True ∧ (true = true) ∧ True ∧ ((∃ i : Nat, (zz89 i) ∧ ((zz2 ∧ (0 = 0) ∧ (0 = 0) ∧ zz90 ∧ (0 = 0) ∧ (0 = 0) ∧ (zz10 i) ∧ True) ∧ (zz92 ∧ zz6 ∧ zz94 ∧ (zz41 ∧ zz42 ∧ (DV.int .i64 (IntKind.wrap .i64 (m.p4.w + (modS zz88 (4 : Int)))) = DV.int .i64 (strS m.p4 more 4)) ∧ (0 = i) ∧ True) ∧ zz53 ∧ zz67 ∧ zz81 ∧ zz95 ∧ ([] = strRow m.p4 (strS m.p4 more 4) i) ∧ True))) ∧ ∀ i : Nat, (zz89 i) → True ∧ True ∧ True ∧ True ∧ True ∧ True ∧ True ∧ (((decide (((i : Nat) : Int) < (IntKind.wrap .i64 ((strS m.p4 more 4) * m.p4.h)))) = true → True ∧ True ∧ True ∧ True ∧ True ∧ True ∧ True ∧ ((strS m.p4 more 4) ≠ 0) ∧ True ∧ True ∧ True ∧ (true = true) ∧ (((decide ((Int.tmod ((i : Nat) : Int) (strS m.p4 more 4)) < m.p4.w)) = true → True ∧ True ∧ True ∧ True ∧ True ∧ ((strS m.p4 more 4) ≠ 0) ∧ True ∧ True ∧ True ∧ True ∧ True ∧ True ∧ ((strS m.p4 more 4) ≠ 0) ∧ True ∧ (0 ≤ IntKind.wrap .i64 ((IntKind.wrap .i64 ((IntKind.wrap .i64 (Int.tdiv ((i : Nat) : Int) (strS m.p4 more 4))) * m.p4.s)) + (Int.tmod ((i : Nat) : Int) (strS m.p4 more 4))) ∧ IntKind.wrap .i64 ((IntKind.wrap .i64 ((IntKind.wrap .i64 (Int.tdiv ((i : Nat) : Int) (strS m.p4 more 4))) * m.p4.s)) + (Int.tmod ((i : Nat) : Int) (strS m.p4 more 4))) < ((m.p4.n : Nat) : Int) ∧ (IntKind.wrap .i64 ((IntKind.wrap .i64 ((IntKind.wrap .i64 (Int.tdiv ((i : Nat) : Int) (strS m.p4 more 4))) * m.p4.s)) + (Int.tmod ((i : Nat) : Int) (strS m.p4 more 4)))).toNat * 1 < m.p4.xs.length) ∧ ((m.p4.xs[(IntKind.wrap .i64 ((IntKind.wrap .i64 ((IntKind.wrap .i64 (Int.tdiv ((i : Nat) : Int) (strS m.p4 more 4))) * m.p4.s)) + (Int.tmod ((i : Nat) : Int) (strS m.p4 more 4)))).toNat * 1]? = some (DV.int .u16 (nAt m.p4.xs ((IntKind.wrap .i64 ((IntKind.wrap .i64 ((IntKind.wrap .i64 (Int.tdiv ((i : Nat) : Int) (strS m.p4 more 4))) * m.p4.s)) + (Int.tmod ((i : Nat) : Int) (strS m.p4 more 4)))).toNat * 1)))) ∧ True) ∧ True ∧ (true = true) ∧ True ∧ True ∧ True ∧ True ∧ (appVc 1 2 i 1 (strRow m.p4 (strS m.p4 more 4) i) ([DV.int .u16 (nAt m.p4.xs ((IntKind.wrap .i64 ((IntKind.wrap .i64 ((IntKind.wrap .i64 (Int.tdiv ((i : Nat) : Int) (strS m.p4 more 4))) * m.p4.s)) + (Int.tmod ((i : Nat) : Int) (strS m.p4 more 4)))).toNat * 1))])) ∧ True ∧ True ∧ True ∧ True ∧ True ∧ ∃ i' : Nat, (zz96 i') ∧ (zz97 i i') ∧ ((zz98 i i') ∧ (zz92 ∧ zz6 ∧ zz94 ∧ (zz100 i i') ∧ zz53 ∧ zz67 ∧ zz81 ∧ zz95 ∧ ((strRow m.p4 (strS m.p4 more 4) i) ++ ([DV.int .u16 (nAt m.p4.xs ((IntKind.wrap .i64 ((IntKind.wrap .i64 ((IntKind.wrap .i64 (Int.tdiv ((i : Nat) : Int) (strS m.p4 more 4))) * m.p4.s)) + (Int.tmod ((i : Nat) : Int) (strS m.p4 more 4)))).toNat * 1))]) = strRow m.p4 (strS m.p4 more 4) i') ∧ True))) ∧ ((decide ((Int.tmod ((i : Nat) : Int) (strS m.p4 more 4)) < m.p4.w)) = false → True ∧ True ∧ True ∧ True ∧ (appVc 1 2 i 1 (strRow m.p4 (strS m.p4 more 4) i) ([DV.int .u16 (IntKind.wrap .u16 (IntKind.wrap .i64 ((40000 : Int) + ((i : Nat) : Int))))])) ∧ True ∧ True ∧ True ∧ True ∧ True ∧ ∃ i' : Nat, (zz96 i') ∧ (zz97 i i') ∧ ((zz98 i i') ∧ (zz92 ∧ zz6 ∧ zz94 ∧ (zz100 i i') ∧ zz53 ∧ zz67 ∧ zz81 ∧ zz95 ∧ ((strRow m.p4 (strS m.p4 more 4) i) ++ ([DV.int .u16 (IntKind.wrap .u16 (IntKind.wrap .i64 ((40000 : Int) + ((i : Nat) : Int))))]) = strRow m.p4 (strS m.p4 more 4) i') ∧ True))))) ∧ ((decide (((i : Nat) : Int) < (IntKind.wrap .i64 ((strS m.p4 more 4) * m.p4.h)))) = false → True ∧ True ∧ True ∧ zz87 ∧ True ∧ True ∧ True ∧ True ∧ ∃ _u : Unit, True ∧ ((zz2 ∧ (0 = 0) ∧ (0 = 0) ∧ (DV.int .i64 (IntKind.wrap .i64 ((4 : Int) + (1 : Int))) = DV.int .i64 5) ∧ True) ∧ ((zz21 ∧ zz22 ∧ zz23 ∧ zz24 ∧ zz25 ∧ zz26 ∧ zz27 ∧ zz28 ∧ zz13 ∧ zz14 ∧ zz19 ∧ zz49 ∧ zz29 ∧ zz30 ∧ zz57 ∧ zz63 ∧ zz33 ∧ zz34 ∧ zz71 ∧ zz77 ∧ zz37 ∧ zz38 ∧ zz85 ∧ zz91 ∧ zz41 ∧ zz42 ∧ zz99 ∧ (i = (strN m.p4 (strS m.p4 more 4))) ∧ True) ∧ zz6 ∧ zz53 ∧ zz67 ∧ zz81 ∧ zz95 ∧ (strRow m.p4 (strS m.p4 more 4) i = strRow m.p4 (strS m.p4 more 4) (strN m.p4 (strS m.p4 more 4))) ∧ True))))))) ∧ (∀ _u : Unit, (True) → True ∧ True ∧ (decide ((5 : Int) < (5 : Int)) = false ∧ True ∧ True ∧ RV.agg [DV.int .i64 m.w, DV.int .i64 m.h, DV.bool m.so, DV.int .u16 m.c.a, DV.int .u16 m.c.b, DV.int .u16 m.c.c, DV.int .u16 m.c.al, DV.int .u16 m.c.f, DV.int .i64 m.p0.w, DV.int .i64 m.p0.h, DV.int .i64 (strS m.p0 more 0), DV.sl (strN m.p0 (strS m.p0 more 0)) (strRow m.p0 (strS m.p0 more 0) (strN m.p0 (strS m.p0 more 0))), DV.int .i64 m.p1.w, DV.int .i64 m.p1.h, DV.int .i64 (strS m.p1 more 1), DV.sl (strN m.p1 (strS m.p1 more 1)) (strRow m.p1 (strS m.p1 more 1) (strN m.p1 (strS m.p1 more 1))), DV.int .i64 m.p2.w, DV.int .i64 m.p2.h, DV.int .i64 (strS m.p2 more 2), DV.sl (strN m.p2 (strS m.p2 more 2)) (strRow m.p2 (strS m.p2 more 2) (strN m.p2 (strS m.p2 more 2))), DV.int .i64 m.p3.w, DV.int .i64 m.p3.h, DV.int .i64 (strS m.p3 more 3), DV.sl (strN m.p3 (strS m.p3 more 3)) (strRow m.p3 (strS m.p3 more 3) (strN m.p3 (strS m.p3 more 3))), DV.int .i64 m.p4.w, DV.int .i64 m.p4.h, DV.int .i64 (strS m.p4 more 4), DV.sl (strN m.p4 (strS m.p4 more 4)) (strRow m.p4 (strS m.p4 more 4) (strN m.p4 (strS m.p4 more 4)))] = RV.agg zz1)) ∧ True)))) := by kernel_rfl
theorem G_Strided_ans (m : Im) (more : Int) (hu : m.isU) (hf : m.formed = true) (hm : m.w ≤ 100 ∧ m.h ≤ 100) : Ans Try.prog 10 [RV.agg [DV.int .i64 m.w, DV.int .i64 m.h, DV.bool m.so, DV.int .u16 m.c.a, DV.int .u16 m.c.b, DV.int .u16 m.c.c, DV.int .u16 m.c.al, DV.int .u16 m.c.f, DV.int .i64 m.p0.w, DV.int .i64 m.p0.h, DV.int .i64 m.p0.s, DV.sl m.p0.n m.p0.xs, DV.int .i64 m.p1.w, DV.int .i64 m.p1.h, DV.int .i64 m.p1.s, DV.sl m.p1.n m.p1.xs, DV.int .i64 m.p2.w, DV.int .i64 m.p2.h, DV.int .i64 m.p2.s, DV.sl m.p2.n m.p2.xs, DV.int .i64 m.p3.w, DV.int .i64 m.p3.h, DV.int .i64 m.p3.s, DV.sl m.p3.n m.p3.xs, DV.int .i64 m.p4.w, DV.int .i64 m.p4.h, DV.int .i64 m.p4.s, DV.sl m.p4.n m.p4.xs], RV.d (DV.int .i64 more)] (RV.agg [DV.int .i64 ((gStrided m more).w), DV.int .i64 ((gStrided m more).h), DV.bool ((gStrided m more).so), DV.int .u16 (((gStrided m more).c).a), DV.int .u16 (((gStrided m more).c).b), DV.int .u16 (((gStrided m more).c).c), DV.int .u16 (((gStrided m more).c).al), DV.int .u16 (((gStrided m more).c).f), DV.int .i64 (((gStrided m more).p0).w), DV.int .i64 (((gStrided m more).p0).h), DV.int .i64 (((gStrided m more).p0).s), DV.sl (((gStrided m more).p0).n) (((gStrided m more).p0).xs), DV.int .i64 (((gStrided m more).p1).w), DV.int .i64 (((gStrided m more).p1).h), DV.int .i64 (((gStrided m more).p1).s), DV.sl (((gStrided m more).p1).n) (((gStrided m more).p1).xs), DV.int .i64 (((gStrided m more).p2).w), DV.int .i64 (((gStrided m more).p2).h), DV.int .i64 (((gStrided m more).p2).s), DV.sl (((gStrided m more).p2).n) (((gStrided m more).p2).xs), DV.int .i64 (((gStrided m more).p3).w), DV.int .i64 (((gStrided m more).p3).h), DV.int .i64 (((gStrided m more).p3).s), DV.sl (((gStrided m more).p3).n) (((gStrided m more).p3).xs), DV.int .i64 (((gStrided m more).p4).w), DV.int .i64 (((gStrided m more).p4).h), DV.int .i64 (((gStrided m more).p4).s), DV.sl (((gStrided m more).p4).n) (((gStrided m more).p4).xs)]) :=
  ans_of_vcg (Γ := gamK) (G_Strided_ann m more) mixed_ Try.func10 rfl (Nat.le_of_ble_eq_true rfl) fun hwf => by
    refine Eq.mpr (G_Strided_vc m more) ?_
    simp only [true_and, and_true, RV.d.injEq, RV.agg.injEq, RV.tup.injEq, DV.bool.injEq, DV.int.injEq, DV.sl.injEq, List.cons.injEq, forall_const, Bool.not_false, Bool.not_true, Bool.not_eq_true', Bool.not_eq_false', decide_eq_true_eq, decide_eq_false_iff_not, Int.toNat_natCast, G_Mod_ans, image_size_ans, R13_fits_ans, sample_Valid_ans, image_formed_ans, R13_formed_ans, R13_Formed_ans, image_shape_ans, G_Max_ans]
    cases hs : m.so with
    | true => simp [gStrided, hs]
    | false =>
    obtain ⟨u0, u1, u2, u3, u4⟩ := hu
    obtain ⟨qf, qi⟩ := Im.formed_of hf
    obtain ⟨f1, f2, f3, f4, f5⟩ := fits_le qf
    obtain ⟨qc, z0, z1, z2, z3, z4⟩ := Im.inner_planes qi hs
    have S0 := @strS_is m.p0 more 0 ⟨by omega, by omega⟩
    have N0 := @strN_is m.p0 (strS m.p0 more 0) ⟨by omega, by omega⟩ ⟨by omega, by omega⟩
    have A0 := fun (i : Nat) hi hx => @str_at m.p0 u0 z0.1 (strS m.p0 more 0) ⟨by omega, by omega⟩ ⟨by omega, by omega⟩ ⟨by omega, by omega⟩ i hi hx
    have T0 : strS m.p0 more 0 ≠ 0 := by omega
    have S1 := @strS_is m.p1 more 1 ⟨by omega, by omega⟩
    have N1 := @strN_is m.p1 (strS m.p1 more 1) ⟨by omega, by omega⟩ ⟨by omega, by omega⟩
    have A1 := fun (i : Nat) hi hx => @str_at m.p1 u1 z1.1 (strS m.p1 more 1) ⟨by omega, by omega⟩ ⟨by omega, by omega⟩ ⟨by omega, by omega⟩ i hi hx
    have T1 : strS m.p1 more 1 ≠ 0 := by omega
    have S2 := @strS_is m.p2 more 2 ⟨by omega, by omega⟩
    have N2 := @strN_is m.p2 (strS m.p2 more 2) ⟨by omega, by omega⟩ ⟨by omega, by omega⟩
    have A2 := fun (i : Nat) hi hx => @str_at m.p2 u2 z2.1 (strS m.p2 more 2) ⟨by omega, by omega⟩ ⟨by omega, by omega⟩ ⟨by omega, by omega⟩ i hi hx
    have T2 : strS m.p2 more 2 ≠ 0 := by omega
    have S3 := @strS_is m.p3 more 3 ⟨by omega, by omega⟩
    have N3 := @strN_is m.p3 (strS m.p3 more 3) ⟨by omega, by omega⟩ ⟨by omega, by omega⟩
    have A3 := fun (i : Nat) hi hx => @str_at m.p3 u3 z3.1 (strS m.p3 more 3) ⟨by omega, by omega⟩ ⟨by omega, by omega⟩ ⟨by omega, by omega⟩ i hi hx
    have T3 : strS m.p3 more 3 ≠ 0 := by omega
    have S4 := @strS_is m.p4 more 4 ⟨by omega, by omega⟩
    have N4 := @strN_is m.p4 (strS m.p4 more 4) ⟨by omega, by omega⟩ ⟨by omega, by omega⟩
    have A4 := fun (i : Nat) hi hx => @str_at m.p4 u4 z4.1 (strS m.p4 more 4) ⟨by omega, by omega⟩ ⟨by omega, by omega⟩ ⟨by omega, by omega⟩ i hi hx
    have T4 : strS m.p4 more 4 ≠ 0 := by omega
    refine ⟨fun q => absurd q (by simp), fun _ => ⟨⟨(), trivial⟩, ⟨by decide, ⟨by decide, by decide⟩, ⟨0, Nat.zero_le _, rfl, ⟨rfl, rfl⟩, rfl⟩, fun i hi => ⟨fun a => ⟨T0, fun b => ⟨T0, T0, (A0 i (by omega) b).1, (A0 i (by omega) b).2, strApp a N0, strStep a N0 (strV_in b)⟩, fun b => ⟨strApp a N0, strStep a N0 (strV_out b)⟩⟩, fun a => ⟨⟨by decide, by decide⟩, (), by decide, by omega, by rw [show i = (strN m.p0 (strS m.p0 more 0)) by omega]⟩⟩⟩,
      ⟨by decide, ⟨by decide, by decide⟩, ⟨0, Nat.zero_le _, rfl, ⟨rfl, rfl⟩, rfl⟩, fun i hi => ⟨fun a => ⟨T1, fun b => ⟨T1, T1, (A1 i (by omega) b).1, (A1 i (by omega) b).2, strApp a N1, strStep a N1 (strV_in b)⟩, fun b => ⟨strApp a N1, strStep a N1 (strV_out b)⟩⟩, fun a => ⟨⟨by decide, by decide⟩, (), by decide, by omega, by rw [show i = (strN m.p1 (strS m.p1 more 1)) by omega]⟩⟩⟩,
      ⟨by decide, ⟨by decide, by decide⟩, ⟨0, Nat.zero_le _, rfl, ⟨rfl, rfl⟩, rfl⟩, fun i hi => ⟨fun a => ⟨T2, fun b => ⟨T2, T2, (A2 i (by omega) b).1, (A2 i (by omega) b).2, strApp a N2, strStep a N2 (strV_in b)⟩, fun b => ⟨strApp a N2, strStep a N2 (strV_out b)⟩⟩, fun a => ⟨⟨by decide, by decide⟩, (), by decide, by omega, by rw [show i = (strN m.p2 (strS m.p2 more 2)) by omega]⟩⟩⟩,
      ⟨by decide, ⟨by decide, by decide⟩, ⟨0, Nat.zero_le _, rfl, ⟨rfl, rfl⟩, rfl⟩, fun i hi => ⟨fun a => ⟨T3, fun b => ⟨T3, T3, (A3 i (by omega) b).1, (A3 i (by omega) b).2, strApp a N3, strStep a N3 (strV_in b)⟩, fun b => ⟨strApp a N3, strStep a N3 (strV_out b)⟩⟩, fun a => ⟨⟨by decide, by decide⟩, (), by decide, by omega, by rw [show i = (strN m.p3 (strS m.p3 more 3)) by omega]⟩⟩⟩,
      ⟨by decide, ⟨by decide, by decide⟩, ⟨0, Nat.zero_le _, rfl, ⟨rfl, rfl⟩, rfl⟩, fun i hi => ⟨fun a => ⟨T4, fun b => ⟨T4, T4, (A4 i (by omega) b).1, (A4 i (by omega) b).2, strApp a N4, strStep a N4 (strV_in b)⟩, fun b => ⟨strApp a N4, strStep a N4 (strV_out b)⟩⟩, fun a => ⟨⟨by decide, by decide⟩, (), by decide, by omega, by rw [show i = (strN m.p4 (strS m.p4 more 4)) by omega]⟩⟩⟩, by decide, ?_⟩⟩
    simp [gStrided, hs, strP]

end Go.Proofs.Ytkfgmaecbclgfaa

/-
  What a law is handed, in plain words: scenes, lists of operations.
-/
namespace Go.Proofs.Ytkfgmaecbclgfaa
open Go.RowKit
set_option linter.unusedVariables false
set_option linter.unusedSimpArgs false

def Leaves (P : Program) (ls : List TypeId) (n : Nat) (xs : List DV) : Prop :=
  xs.length = n * ls.length ∧ ∀ (j : Nat) d, xs[j]? = some d → ∃ t', ls[j % ls.length]? = some t' ∧ ∃ q, LeafD P q t' d
theorem Leaves.at_ {P : Program} {ls : List TypeId} {n : Nat} {xs : List DV} (h : Leaves P ls n xs) {k r : Nat} {t : TypeId} (hk : k < n) (hr : ls[r]? = some t) : ∃ d q, xs[k * ls.length + r]? = some d ∧ LeafD P q t d := by
  obtain ⟨hn, hx⟩ := h
  have hr' : r < ls.length := (List.getElem?_eq_some_iff.1 hr).1
  have hle : (k + 1) * ls.length ≤ n * ls.length := Nat.mul_le_mul_right _ (by omega)
  rw [Nat.add_mul] at hle
  have hj : k * ls.length + r < xs.length := by omega
  obtain ⟨t', a, q, b⟩ := hx _ _ (List.getElem?_eq_getElem hj)
  rw [Nat.mul_comm k, Nat.mul_add_mod, Nat.mod_eq_of_lt hr', hr] at a
  injection a with a
  subst a
  exact ⟨_, q, List.getElem?_eq_getElem hj, b⟩
theorem Leaves.int {P : Program} {ls : List TypeId} {n : Nat} {xs : List DV} (h : Leaves P ls n xs) {k r : Nat} {t : TypeId} {kk : IntKind} (hk : k < n) (hr : ls[r]? = some t) (hu : P.underlying t = some (.int kk)) : xs[k * ls.length + r]? = some (.int kk (nAt xs (k * ls.length + r))) := by
  obtain ⟨d, q, e, b⟩ := h.at_ hk hr
  obtain ⟨v, rfl⟩ := b.int hu
  simp only [nAt, e]
theorem Leaves.bool {P : Program} {ls : List TypeId} {n : Nat} {xs : List DV} (h : Leaves P ls n xs) {k r : Nat} {t : TypeId} (hk : k < n) (hr : ls[r]? = some t) (hu : P.underlying t = some .bool) : xs[k * ls.length + r]? = some (.bool (bAt xs (k * ls.length + r))) := by
  obtain ⟨d, q, e, b⟩ := h.at_ hk hr
  obtain ⟨v, rfl⟩ := b.bool hu
  simp only [bAt, e]
theorem Leaves.sl {P : Program} {ls : List TypeId} {n : Nat} {xs : List DV} (h : Leaves P ls n xs) {k r : Nat} {t e : TypeId} {ms : List TypeId} (hk : k < n) (hr : ls[r]? = some t) (hu : P.underlying t = some (.slice e)) (hl : lv P e = some ms) :
    xs[k * ls.length + r]? = some (.sl (lAt xs (k * ls.length + r)) (cAt xs (k * ls.length + r))) ∧ Leaves P ms (lAt xs (k * ls.length + r)) (cAt xs (k * ls.length + r)) := by
  obtain ⟨d, q, e1, b⟩ := h.at_ hk hr
  obtain ⟨m, ys, rfl, _, h1, h2⟩ := b.slice hu hl
  simp only [lAt, cAt, e1]
  exact ⟨trivial, h1, h2⟩
theorem Leaves.ints {P : Program} {t : TypeId} {n : Nat} {xs : List DV} (h : Leaves P [t] n xs) (hu : P.underlying t = some (.int .i64)) : xs = is (ints xs) ∧ n = xs.length :=
  isI_of (by have := h.1; simpa using this) fun j d hj => by obtain ⟨t', a, q, b⟩ := h.2 j d hj; exact intLeaf1 hu a b
theorem Leaves.five {P : Program} {t : TypeId} {n : Nat} {xs : List DV} (h : Leaves P [t, t, t, t, t] n xs) (hu : P.underlying t = some (.int .i64)) : Is5 n xs :=
  is5_of h.1 fun j d hj => by obtain ⟨t', a, q, b⟩ := h.2 j d hj; exact intLeaf5 hu a b
theorem Leaves.pics {P : Program} {t ts e : TypeId} {n : Nat} {xs : List DV} (h : Leaves P [t, t, t, t, ts] n xs) (hu : P.underlying t = some (.int .i64)) (hs : P.underlying ts = some (.slice e)) (hl : lv P e = some [t, t, t, t, t]) : IsPics n xs :=
  ⟨h.1, fun k hk => ⟨h.int (r := 0) hk rfl hu, h.int (r := 1) hk rfl hu, h.int (r := 2) hk rfl hu, h.int (r := 3) hk rfl hu, (h.sl (r := 4) hk rfl hs hl).1, (h.sl (r := 4) hk rfl hs hl).2.five hu⟩⟩
theorem Leaves.raws {P : Program} {t : TypeId} {n : Nat} {xs : List DV} (h : Leaves P [t, t, t, t, t, t, t, t, t, t, t] n xs) (hu : P.underlying t = some (.int .i64)) : IsRws n xs := by
  refine ⟨h.1, fun i hi => ?_⟩
  have hr : [t, t, t, t, t, t, t, t, t, t, t][i % 11]? = some t := by
    have h2 : i % 11 < 11 := Nat.mod_lt _ (by omega)
    generalize i % 11 = r at *
    match r, h2 with
    | 0, _ | 1, _ | 2, _ | 3, _ | 4, _ | 5, _ | 6, _ | 7, _ | 8, _ | 9, _ | 10, _ => rfl
  have := h.int (k := i / 11) (r := i % 11) (by omega) hr hu
  have e : i / 11 * [t, t, t, t, t, t, t, t, t, t, t].length + i % 11 = i := by show i / 11 * 11 + i % 11 = i; omega
  rw [e] at this
  exact this
theorem blocks_eq {xs ys : List DV} {n m : Nat} (hx : xs.length = n * m) (hy : ys.length = n * m) (h : ∀ k, k < n → ∀ j, j < m → xs[k * m + j]? = ys[k * m + j]?) : xs = ys := by
  refine List.ext_getElem? fun i => ?_
  by_cases hi : i < n * m
  · have hm : 0 < m := by
      rcases Nat.eq_zero_or_pos m with h0 | h0
      · subst h0; simp at hi
      · exact h0
    have := h (i / m) (Nat.div_lt_of_lt_mul (by rw [Nat.mul_comm]; exact hi)) (i % m) (Nat.mod_lt _ hm)
    have e : i / m * m + i % m = i := by rw [Nat.mul_comm]; exact Nat.div_add_mod i m
    rw [e] at this
    exact this
  · rw [List.getElem?_eq_none (by omega), List.getElem?_eq_none (by omega)]
theorem Leaves.ops {P : Program} {t u b : TypeId} {n : Nat} {xs : List DV} (h : Leaves P [t, t, t, t, t, t, t, u, t, t, b, b] n xs) (ht : P.underlying t = some (.int .i64)) (hu : P.underlying u = some (.int .u16)) (hb : P.underlying b = some .bool) : IsOps n xs := by
  have hl : xs.length = n * 12 := h.1
  have hn : (toOps xs).length = n := by unfold toOps; rw [List.length_map, List.length_range, hl]; omega
  refine ⟨blocks_eq hl (by rw [ops_length, hn]) fun k hk j hj => ?_, hn.symm⟩
  have e : (toOps xs)[k]'(by omega) = oqAt xs (k * 12) := by simp [toOps]
  rw [ops_get (by omega) j hj, e]
  have key := fun r (hr : r < 12) => h.at_ (k := k) (r := r) (t := [t, t, t, t, t, t, t, u, t, t, b, b][r]) hk (List.getElem?_eq_getElem hr)
  match j, hj with
  | 0, _ => exact h.int (r := 0) hk rfl ht
  | 1, _ => exact h.int (r := 1) hk rfl ht
  | 2, _ => exact h.int (r := 2) hk rfl ht
  | 3, _ => exact h.int (r := 3) hk rfl ht
  | 4, _ => exact h.int (r := 4) hk rfl ht
  | 5, _ => exact h.int (r := 5) hk rfl ht
  | 6, _ => exact h.int (r := 6) hk rfl ht
  | 7, _ => exact h.int (r := 7) hk rfl hu
  | 8, _ => exact h.int (r := 8) hk rfl ht
  | 9, _ => exact h.int (r := 9) hk rfl ht
  | 10, _ => exact h.bool (r := 10) hk rfl hb
  | 11, _ => exact h.bool (r := 11) hk rfl hb
def IsBs (n : Nat) (xs : List DV) : Prop := xs.length = n ∧ ∀ i, i < n → xs[i]? = some (.bool (bAt xs i))
theorem Leaves.bools {P : Program} {b : TypeId} {n : Nat} {xs : List DV} (h : Leaves P [b] n xs) (hb : P.underlying b = some .bool) : IsBs n xs :=
  ⟨by have := h.1; simpa using this, fun i hi => by
    have := h.bool (k := i) (r := 0) hi rfl hb
    simpa using this⟩
end Go.Proofs.Ytkfgmaecbclgfaa

/-
  ScriptEncodeAgrees answers true, whatever it is handed.
-/
namespace Go.Proofs.Ytkfgmaecbclgfaa
open Go.RowKit
set_option linter.unusedVariables false
set_option linter.unusedSimpArgs false
attribute [local irreducible] Ans AnsO AnsG AnsN AnsI

set_option maxRecDepth 4000
def gamScriptEncodeAgrees : Gam where
 pure := fun f xs =>
  if f = 10 then (match xs with | [.agg [.int _ w, .int _ h, .bool so, .int _ c0, .int _ c1, .int _ c2, .int _ ca, .int _ cf, .int _ w0, .int _ h0, .int _ s0, .sl n0 xs0, .int _ w1, .int _ h1, .int _ s1, .sl n1 xs1, .int _ w2, .int _ h2, .int _ s2, .sl n2 xs2, .int _ w3, .int _ h3, .int _ s3, .sl n3 xs3, .int _ w4, .int _ h4, .int _ s4, .sl n4 xs4], .d (.int _ more)] => some (RV.agg [DV.int .i64 ((gStrided ⟨w, h, so, ⟨c0, c1, c2, ca, cf⟩, ⟨w0, h0, s0, n0, xs0⟩, ⟨w1, h1, s1, n1, xs1⟩, ⟨w2, h2, s2, n2, xs2⟩, ⟨w3, h3, s3, n3, xs3⟩, ⟨w4, h4, s4, n4, xs4⟩⟩ more).w), DV.int .i64 ((gStrided ⟨w, h, so, ⟨c0, c1, c2, ca, cf⟩, ⟨w0, h0, s0, n0, xs0⟩, ⟨w1, h1, s1, n1, xs1⟩, ⟨w2, h2, s2, n2, xs2⟩, ⟨w3, h3, s3, n3, xs3⟩, ⟨w4, h4, s4, n4, xs4⟩⟩ more).h), DV.bool ((gStrided ⟨w, h, so, ⟨c0, c1, c2, ca, cf⟩, ⟨w0, h0, s0, n0, xs0⟩, ⟨w1, h1, s1, n1, xs1⟩, ⟨w2, h2, s2, n2, xs2⟩, ⟨w3, h3, s3, n3, xs3⟩, ⟨w4, h4, s4, n4, xs4⟩⟩ more).so), DV.int .u16 (((gStrided ⟨w, h, so, ⟨c0, c1, c2, ca, cf⟩, ⟨w0, h0, s0, n0, xs0⟩, ⟨w1, h1, s1, n1, xs1⟩, ⟨w2, h2, s2, n2, xs2⟩, ⟨w3, h3, s3, n3, xs3⟩, ⟨w4, h4, s4, n4, xs4⟩⟩ more).c).a), DV.int .u16 (((gStrided ⟨w, h, so, ⟨c0, c1, c2, ca, cf⟩, ⟨w0, h0, s0, n0, xs0⟩, ⟨w1, h1, s1, n1, xs1⟩, ⟨w2, h2, s2, n2, xs2⟩, ⟨w3, h3, s3, n3, xs3⟩, ⟨w4, h4, s4, n4, xs4⟩⟩ more).c).b), DV.int .u16 (((gStrided ⟨w, h, so, ⟨c0, c1, c2, ca, cf⟩, ⟨w0, h0, s0, n0, xs0⟩, ⟨w1, h1, s1, n1, xs1⟩, ⟨w2, h2, s2, n2, xs2⟩, ⟨w3, h3, s3, n3, xs3⟩, ⟨w4, h4, s4, n4, xs4⟩⟩ more).c).c), DV.int .u16 (((gStrided ⟨w, h, so, ⟨c0, c1, c2, ca, cf⟩, ⟨w0, h0, s0, n0, xs0⟩, ⟨w1, h1, s1, n1, xs1⟩, ⟨w2, h2, s2, n2, xs2⟩, ⟨w3, h3, s3, n3, xs3⟩, ⟨w4, h4, s4, n4, xs4⟩⟩ more).c).al), DV.int .u16 (((gStrided ⟨w, h, so, ⟨c0, c1, c2, ca, cf⟩, ⟨w0, h0, s0, n0, xs0⟩, ⟨w1, h1, s1, n1, xs1⟩, ⟨w2, h2, s2, n2, xs2⟩, ⟨w3, h3, s3, n3, xs3⟩, ⟨w4, h4, s4, n4, xs4⟩⟩ more).c).f), DV.int .i64 (((gStrided ⟨w, h, so, ⟨c0, c1, c2, ca, cf⟩, ⟨w0, h0, s0, n0, xs0⟩, ⟨w1, h1, s1, n1, xs1⟩, ⟨w2, h2, s2, n2, xs2⟩, ⟨w3, h3, s3, n3, xs3⟩, ⟨w4, h4, s4, n4, xs4⟩⟩ more).p0).w), DV.int .i64 (((gStrided ⟨w, h, so, ⟨c0, c1, c2, ca, cf⟩, ⟨w0, h0, s0, n0, xs0⟩, ⟨w1, h1, s1, n1, xs1⟩, ⟨w2, h2, s2, n2, xs2⟩, ⟨w3, h3, s3, n3, xs3⟩, ⟨w4, h4, s4, n4, xs4⟩⟩ more).p0).h), DV.int .i64 (((gStrided ⟨w, h, so, ⟨c0, c1, c2, ca, cf⟩, ⟨w0, h0, s0, n0, xs0⟩, ⟨w1, h1, s1, n1, xs1⟩, ⟨w2, h2, s2, n2, xs2⟩, ⟨w3, h3, s3, n3, xs3⟩, ⟨w4, h4, s4, n4, xs4⟩⟩ more).p0).s), DV.sl (((gStrided ⟨w, h, so, ⟨c0, c1, c2, ca, cf⟩, ⟨w0, h0, s0, n0, xs0⟩, ⟨w1, h1, s1, n1, xs1⟩, ⟨w2, h2, s2, n2, xs2⟩, ⟨w3, h3, s3, n3, xs3⟩, ⟨w4, h4, s4, n4, xs4⟩⟩ more).p0).n) (((gStrided ⟨w, h, so, ⟨c0, c1, c2, ca, cf⟩, ⟨w0, h0, s0, n0, xs0⟩, ⟨w1, h1, s1, n1, xs1⟩, ⟨w2, h2, s2, n2, xs2⟩, ⟨w3, h3, s3, n3, xs3⟩, ⟨w4, h4, s4, n4, xs4⟩⟩ more).p0).xs), DV.int .i64 (((gStrided ⟨w, h, so, ⟨c0, c1, c2, ca, cf⟩, ⟨w0, h0, s0, n0, xs0⟩, ⟨w1, h1, s1, n1, xs1⟩, ⟨w2, h2, s2, n2, xs2⟩, ⟨w3, h3, s3, n3, xs3⟩, ⟨w4, h4, s4, n4, xs4⟩⟩ more).p1).w), DV.int .i64 (((gStrided ⟨w, h, so, ⟨c0, c1, c2, ca, cf⟩, ⟨w0, h0, s0, n0, xs0⟩, ⟨w1, h1, s1, n1, xs1⟩, ⟨w2, h2, s2, n2, xs2⟩, ⟨w3, h3, s3, n3, xs3⟩, ⟨w4, h4, s4, n4, xs4⟩⟩ more).p1).h), DV.int .i64 (((gStrided ⟨w, h, so, ⟨c0, c1, c2, ca, cf⟩, ⟨w0, h0, s0, n0, xs0⟩, ⟨w1, h1, s1, n1, xs1⟩, ⟨w2, h2, s2, n2, xs2⟩, ⟨w3, h3, s3, n3, xs3⟩, ⟨w4, h4, s4, n4, xs4⟩⟩ more).p1).s), DV.sl (((gStrided ⟨w, h, so, ⟨c0, c1, c2, ca, cf⟩, ⟨w0, h0, s0, n0, xs0⟩, ⟨w1, h1, s1, n1, xs1⟩, ⟨w2, h2, s2, n2, xs2⟩, ⟨w3, h3, s3, n3, xs3⟩, ⟨w4, h4, s4, n4, xs4⟩⟩ more).p1).n) (((gStrided ⟨w, h, so, ⟨c0, c1, c2, ca, cf⟩, ⟨w0, h0, s0, n0, xs0⟩, ⟨w1, h1, s1, n1, xs1⟩, ⟨w2, h2, s2, n2, xs2⟩, ⟨w3, h3, s3, n3, xs3⟩, ⟨w4, h4, s4, n4, xs4⟩⟩ more).p1).xs), DV.int .i64 (((gStrided ⟨w, h, so, ⟨c0, c1, c2, ca, cf⟩, ⟨w0, h0, s0, n0, xs0⟩, ⟨w1, h1, s1, n1, xs1⟩, ⟨w2, h2, s2, n2, xs2⟩, ⟨w3, h3, s3, n3, xs3⟩, ⟨w4, h4, s4, n4, xs4⟩⟩ more).p2).w), DV.int .i64 (((gStrided ⟨w, h, so, ⟨c0, c1, c2, ca, cf⟩, ⟨w0, h0, s0, n0, xs0⟩, ⟨w1, h1, s1, n1, xs1⟩, ⟨w2, h2, s2, n2, xs2⟩, ⟨w3, h3, s3, n3, xs3⟩, ⟨w4, h4, s4, n4, xs4⟩⟩ more).p2).h), DV.int .i64 (((gStrided ⟨w, h, so, ⟨c0, c1, c2, ca, cf⟩, ⟨w0, h0, s0, n0, xs0⟩, ⟨w1, h1, s1, n1, xs1⟩, ⟨w2, h2, s2, n2, xs2⟩, ⟨w3, h3, s3, n3, xs3⟩, ⟨w4, h4, s4, n4, xs4⟩⟩ more).p2).s), DV.sl (((gStrided ⟨w, h, so, ⟨c0, c1, c2, ca, cf⟩, ⟨w0, h0, s0, n0, xs0⟩, ⟨w1, h1, s1, n1, xs1⟩, ⟨w2, h2, s2, n2, xs2⟩, ⟨w3, h3, s3, n3, xs3⟩, ⟨w4, h4, s4, n4, xs4⟩⟩ more).p2).n) (((gStrided ⟨w, h, so, ⟨c0, c1, c2, ca, cf⟩, ⟨w0, h0, s0, n0, xs0⟩, ⟨w1, h1, s1, n1, xs1⟩, ⟨w2, h2, s2, n2, xs2⟩, ⟨w3, h3, s3, n3, xs3⟩, ⟨w4, h4, s4, n4, xs4⟩⟩ more).p2).xs), DV.int .i64 (((gStrided ⟨w, h, so, ⟨c0, c1, c2, ca, cf⟩, ⟨w0, h0, s0, n0, xs0⟩, ⟨w1, h1, s1, n1, xs1⟩, ⟨w2, h2, s2, n2, xs2⟩, ⟨w3, h3, s3, n3, xs3⟩, ⟨w4, h4, s4, n4, xs4⟩⟩ more).p3).w), DV.int .i64 (((gStrided ⟨w, h, so, ⟨c0, c1, c2, ca, cf⟩, ⟨w0, h0, s0, n0, xs0⟩, ⟨w1, h1, s1, n1, xs1⟩, ⟨w2, h2, s2, n2, xs2⟩, ⟨w3, h3, s3, n3, xs3⟩, ⟨w4, h4, s4, n4, xs4⟩⟩ more).p3).h), DV.int .i64 (((gStrided ⟨w, h, so, ⟨c0, c1, c2, ca, cf⟩, ⟨w0, h0, s0, n0, xs0⟩, ⟨w1, h1, s1, n1, xs1⟩, ⟨w2, h2, s2, n2, xs2⟩, ⟨w3, h3, s3, n3, xs3⟩, ⟨w4, h4, s4, n4, xs4⟩⟩ more).p3).s), DV.sl (((gStrided ⟨w, h, so, ⟨c0, c1, c2, ca, cf⟩, ⟨w0, h0, s0, n0, xs0⟩, ⟨w1, h1, s1, n1, xs1⟩, ⟨w2, h2, s2, n2, xs2⟩, ⟨w3, h3, s3, n3, xs3⟩, ⟨w4, h4, s4, n4, xs4⟩⟩ more).p3).n) (((gStrided ⟨w, h, so, ⟨c0, c1, c2, ca, cf⟩, ⟨w0, h0, s0, n0, xs0⟩, ⟨w1, h1, s1, n1, xs1⟩, ⟨w2, h2, s2, n2, xs2⟩, ⟨w3, h3, s3, n3, xs3⟩, ⟨w4, h4, s4, n4, xs4⟩⟩ more).p3).xs), DV.int .i64 (((gStrided ⟨w, h, so, ⟨c0, c1, c2, ca, cf⟩, ⟨w0, h0, s0, n0, xs0⟩, ⟨w1, h1, s1, n1, xs1⟩, ⟨w2, h2, s2, n2, xs2⟩, ⟨w3, h3, s3, n3, xs3⟩, ⟨w4, h4, s4, n4, xs4⟩⟩ more).p4).w), DV.int .i64 (((gStrided ⟨w, h, so, ⟨c0, c1, c2, ca, cf⟩, ⟨w0, h0, s0, n0, xs0⟩, ⟨w1, h1, s1, n1, xs1⟩, ⟨w2, h2, s2, n2, xs2⟩, ⟨w3, h3, s3, n3, xs3⟩, ⟨w4, h4, s4, n4, xs4⟩⟩ more).p4).h), DV.int .i64 (((gStrided ⟨w, h, so, ⟨c0, c1, c2, ca, cf⟩, ⟨w0, h0, s0, n0, xs0⟩, ⟨w1, h1, s1, n1, xs1⟩, ⟨w2, h2, s2, n2, xs2⟩, ⟨w3, h3, s3, n3, xs3⟩, ⟨w4, h4, s4, n4, xs4⟩⟩ more).p4).s), DV.sl (((gStrided ⟨w, h, so, ⟨c0, c1, c2, ca, cf⟩, ⟨w0, h0, s0, n0, xs0⟩, ⟨w1, h1, s1, n1, xs1⟩, ⟨w2, h2, s2, n2, xs2⟩, ⟨w3, h3, s3, n3, xs3⟩, ⟨w4, h4, s4, n4, xs4⟩⟩ more).p4).n) (((gStrided ⟨w, h, so, ⟨c0, c1, c2, ca, cf⟩, ⟨w0, h0, s0, n0, xs0⟩, ⟨w1, h1, s1, n1, xs1⟩, ⟨w2, h2, s2, n2, xs2⟩, ⟨w3, h3, s3, n3, xs3⟩, ⟨w4, h4, s4, n4, xs4⟩⟩ more).p4).xs)]) | _ => none) else
  if f = 11 then (match xs with | [.agg [.int _ bits, .int _ cx0, .int _ cy0, .int _ cx1, .int _ cy1, .int _ tw, .int _ th, .sl on oxs, .sl mn mxs, .sl pn pxs]] => some (RV.tup [RV.d (DV.sl ((encS (⟨bits, ⟨cx0, cy0, cx1, cy1⟩, tw, th, ints oxs, toIms mxs, toOps pxs⟩ : Scr)).1.length) (u8s (encS (⟨bits, ⟨cx0, cy0, cx1, cy1⟩, tw, th, ints oxs, toIms mxs, toOps pxs⟩ : Scr)).1)), RV.d (DV.int .i64 ((encS (⟨bits, ⟨cx0, cy0, cx1, cy1⟩, tw, th, ints oxs, toIms mxs, toOps pxs⟩ : Scr)).2))]) | _ => none) else
  if f = 12 then (match xs with | [.agg [.int _ bits, .int _ cx0, .int _ cy0, .int _ cx1, .int _ cy1, .int _ tw, .int _ th, .sl on oxs, .sl mn mxs, .sl pn pxs]] => some (RV.tup [RV.d (DV.sl ((encS (⟨bits, ⟨cx0, cy0, cx1, cy1⟩, tw, th, ints oxs, toIms mxs, toOps pxs⟩ : Scr)).1.length) (u8s (encS (⟨bits, ⟨cx0, cy0, cx1, cy1⟩, tw, th, ints oxs, toIms mxs, toOps pxs⟩ : Scr)).1)), RV.d (DV.int .i64 ((encS (⟨bits, ⟨cx0, cy0, cx1, cy1⟩, tw, th, ints oxs, toIms mxs, toOps pxs⟩ : Scr)).2))]) | _ => none) else
  if f = 13 then (match xs with | [] => some (RV.d (DV.bool true)) | _ => none) else
  if f = 14 then (match xs with | [.agg [.int _ bits, .int _ cx0, .int _ cy0, .int _ cx1, .int _ cy1, .int _ tw, .int _ th, .sl on oxs, .sl mn mxs, .sl pn pxs]] => some (RV.d (DV.bool (encOk (⟨bits, ⟨cx0, cy0, cx1, cy1⟩, tw, th, ints oxs, toIms mxs, toOps pxs⟩ : Scr)))) | _ => none) else
  if f = 15 then (match xs with | [.d (.sl n xs), .d (.sl m ys)] => some (RV.d (DV.bool ((strD (xs)).toList == (strD (ys)).toList))) | _ => none) else
  none
 modes := fun f =>
  if f = 9 then some ([true], 0, 3) else
  none
 proc := fun f xs bs =>
  if f = 9 then (match xs, bs with | [AV.agg [Cl.d (DV.int _ sb), Cl.d (DV.int _ sx), Cl.d (DV.int _ sy), Cl.d (DV.int _ sw), Cl.d (DV.int _ sh), Cl.d (DV.int _ stw), Cl.d (DV.int _ sth), Cl.d (DV.sl son soxs), Cl.d (DV.sl spn spxs), Cl.d (DV.sl srn srxs)]], [] => some ⟨AV.agg [Cl.d (DV.int .i64 (((⟨sb, sx, sy, sw, sh, stw, sth, son, soxs, spn, spxs, srn, srxs⟩ : Scn)).bits)), Cl.d (DV.int .i64 (((⟨sb, sx, sy, sw, sh, stw, sth, son, soxs, spn, spxs, srn, srxs⟩ : Scn)).c.a)), Cl.d (DV.int .i64 (((⟨sb, sx, sy, sw, sh, stw, sth, son, soxs, spn, spxs, srn, srxs⟩ : Scn)).c.b)), Cl.d (DV.int .i64 (((⟨sb, sx, sy, sw, sh, stw, sth, son, soxs, spn, spxs, srn, srxs⟩ : Scn)).c.c)), Cl.d (DV.int .i64 (((⟨sb, sx, sy, sw, sh, stw, sth, son, soxs, spn, spxs, srn, srxs⟩ : Scn)).c.d)), Cl.d (DV.int .i64 (((⟨sb, sx, sy, sw, sh, stw, sth, son, soxs, spn, spxs, srn, srxs⟩ : Scn)).gtw)), Cl.d (DV.int .i64 (((⟨sb, sx, sy, sw, sh, stw, sth, son, soxs, spn, spxs, srn, srxs⟩ : Scn)).gth)), Cl.ref 0 (((⟨sb, sx, sy, sw, sh, stw, sth, son, soxs, spn, spxs, srn, srxs⟩ : Scn)).ord.length), Cl.ref 1 (((⟨sb, sx, sy, sw, sh, stw, sth, son, soxs, spn, spxs, srn, srxs⟩ : Scn)).ims.length), Cl.ref 2 (((⟨sb, sx, sy, sw, sh, stw, sth, son, soxs, spn, spxs, srn, srxs⟩ : Scn)).ops.length)], [Bx.row 3 1 (is ((⟨sb, sx, sy, sw, sh, stw, sth, son, soxs, spn, spxs, srn, srxs⟩ : Scn)).ord), Bx.row 43 28 (ims ((⟨sb, sx, sy, sw, sh, stw, sth, son, soxs, spn, spxs, srn, srxs⟩ : Scn)).ims), Bx.row 55 12 (ops ((⟨sb, sx, sy, sw, sh, stw, sth, son, soxs, spn, spxs, srn, srxs⟩ : Scn)).ops)], false⟩ | _, _ => none) else
  none
 iter := fun f cs =>
  none

def L18_ScriptEncodeAgrees_ann (s : Scn) (more : Int) : Ann := (Ann.seq Ann.leaf (Ann.seq Ann.leaf (Ann.seq (Ann.seq Ann.leaf (Ann.loop ⟨Nat, fun k => k ≤ s.ims.length, fun k => ⟨[(1, AV.one (Cl.d (DV.int .i64 more))), (5, AV.one (Cl.ptr 5 0)), (6, AV.one (Cl.d (DV.int .i64 ((k : Nat) : Int))))], [(5, Bx.cells [Cl.d (DV.int .i64 ((s).bits)), Cl.d (DV.int .i64 ((s).c.a)), Cl.d (DV.int .i64 ((s).c.b)), Cl.d (DV.int .i64 ((s).c.c)), Cl.d (DV.int .i64 ((s).c.d)), Cl.d (DV.int .i64 ((s).gtw)), Cl.d (DV.int .i64 ((s).gth)), Cl.ref 9000 ((s).ord.length), Cl.ref 9001 s.ims.length, Cl.ref 9002 ((s).ops.length)]), (9000, Bx.row 3 1 (is (s).ord)), (9001, Bx.row 43 28 (ims (strTo s.ims more k))), (9002, Bx.row 55 12 (ops (s).ops))]⟩, fun k => s.ims.length - k⟩ fun k => Ann.leaf)) Ann.leaf)))
theorem L18_ScriptEncodeAgrees_vc (s : Scn) (more : Int) : vcg Try.prog gamScriptEncodeAgrees 59 (bodyOf Try.f3) (L18_ScriptEncodeAgrees_ann s more) kn0 (start [RV.agg [DV.int .i64 s.b, DV.int .i64 s.x, DV.int .i64 s.y, DV.int .i64 s.w, DV.int .i64 s.h, DV.int .i64 s.tw, DV.int .i64 s.th, DV.sl s.on s.oxs, DV.sl s.pn s.pxs, DV.sl s.rn s.rxs], RV.d (DV.int .i64 more)]) (post Try.prog Try.f3.results.toList (· = RV.d (DV.bool true))) =
  (let zz0 := (DV.int .i64 more = DV.int .i64 more); let zz1 := (DV.int .i64 ((s).bits) = DV.int .i64 ((s).bits)); let zz2 := (DV.int .i64 ((s).c.a) = DV.int .i64 ((s).c.a)); let zz3 := (DV.int .i64 ((s).c.b) = DV.int .i64 ((s).c.b)); let zz4 := (DV.int .i64 ((s).c.c) = DV.int .i64 ((s).c.c)); let zz5 := (DV.int .i64 ((s).c.d) = DV.int .i64 ((s).c.d)); let zz6 := (DV.int .i64 ((s).gtw) = DV.int .i64 ((s).gtw)); let zz7 := (DV.int .i64 ((s).gth) = DV.int .i64 ((s).gth)); let zz8 := ((s).ord.length = (s).ord.length); let zz9 := ((s).ops.length = (s).ops.length); let zz10 := fun (k : Nat) => (0 ≤ ((k : Nat) : Int) ∧ ((k : Nat) : Int) < ((s.ims.length : Nat) : Int)); let zz11 := fun (k : Nat) => [RV.agg [DV.int .i64 ((s).bits), DV.int .i64 ((s).c.a), DV.int .i64 ((s).c.b), DV.int .i64 ((s).c.c), DV.int .i64 ((s).c.d), DV.int .i64 ((s).gtw), DV.int .i64 ((s).gth), DV.sl ((s).ord.length) (is (s).ord), DV.sl s.ims.length (ims (strTo s.ims more k)), DV.sl ((s).ops.length) (ops (s).ops)]]; True ∧ True ∧ True ∧ (AnsG Try.prog 9 0 [AV.agg [Cl.d (DV.int .i64 s.b), Cl.d (DV.int .i64 s.x), Cl.d (DV.int .i64 s.y), Cl.d (DV.int .i64 s.w), Cl.d (DV.int .i64 s.h), Cl.d (DV.int .i64 s.tw), Cl.d (DV.int .i64 s.th), Cl.d (DV.sl s.on s.oxs), Cl.d (DV.sl s.pn s.pxs), Cl.d (DV.sl s.rn s.rxs)]] [] ⟨AV.agg [Cl.d (DV.int .i64 ((s).bits)), Cl.d (DV.int .i64 ((s).c.a)), Cl.d (DV.int .i64 ((s).c.b)), Cl.d (DV.int .i64 ((s).c.c)), Cl.d (DV.int .i64 ((s).c.d)), Cl.d (DV.int .i64 ((s).gtw)), Cl.d (DV.int .i64 ((s).gth)), Cl.ref 0 ((s).ord.length), Cl.ref 1 ((s).ims.length), Cl.ref 2 ((s).ops.length)], [Bx.row 3 1 (is (s).ord), Bx.row 43 28 (ims (s).ims), Bx.row 55 12 (ops (s).ops)], false⟩) ∧ True ∧ True ∧ True ∧ ((∃ k : Nat, (k ≤ s.ims.length) ∧ ((zz0 ∧ (0 = 0) ∧ (DV.int .i64 0 = DV.int .i64 ((k : Nat) : Int)) ∧ True) ∧ ((zz1 ∧ zz2 ∧ zz3 ∧ zz4 ∧ zz5 ∧ zz6 ∧ zz7 ∧ zz8 ∧ ((s).ims.length = s.ims.length) ∧ zz9 ∧ True) ∧ (is (s).ord = is (s).ord) ∧ (ims (s).ims = ims (strTo s.ims more k)) ∧ (ops (s).ops = ops (s).ops) ∧ True))) ∧ ∀ k : Nat, (k ≤ s.ims.length) → True ∧ True ∧ True ∧ (s.ims.length ≤ maxLen) ∧ True ∧ (((decide (((k : Nat) : Int) < ((s.ims.length : Nat) : Int))) = true → True ∧ True ∧ True ∧ True ∧ True ∧ True ∧ (zz10 k) ∧ ((imQr (ims (strTo s.ims more k)) (((k : Nat) : Int).toNat * 28))) ∧ True ∧ (Ans Try.prog 10 [imR (imQ (ims (strTo s.ims more k)) (((k : Nat) : Int).toNat * 28)), RV.d (DV.int .i64 more)] ((imR (gStrided (imQ (ims (strTo s.ims more k)) (((k : Nat) : Int).toNat * 28)) more)))) ∧ (zz10 k) ∧ (((k : Nat) : Int).toNat * 28 + 28 ≤ (ims (strTo s.ims more k)).length) ∧ (true = true) ∧ True ∧ True ∧ True ∧ ∃ k' : Nat, (k' ≤ s.ims.length) ∧ (s.ims.length - k' < s.ims.length - k) ∧ ((zz0 ∧ (0 = 0) ∧ (DV.int .i64 (IntKind.wrap .i64 (((k : Nat) : Int) + (1 : Int))) = DV.int .i64 ((k' : Nat) : Int)) ∧ True) ∧ ((zz1 ∧ zz2 ∧ zz3 ∧ zz4 ∧ zz5 ∧ zz6 ∧ zz7 ∧ zz8 ∧ (s.ims.length = s.ims.length) ∧ zz9 ∧ True) ∧ (is (s).ord = is (s).ord) ∧ (sets (ims (strTo s.ims more k)) (((k : Nat) : Int).toNat * 28) ((Im.ds (gStrided (imQ (ims (strTo s.ims more k)) (((k : Nat) : Int).toNat * 28)) more))) = ims (strTo s.ims more k')) ∧ (ops (s).ops = ops (s).ops) ∧ True))) ∧ ((decide (((k : Nat) : Int) < ((s.ims.length : Nat) : Int))) = false → True ∧ (Ans Try.prog 11 (zz11 k) (RV.tup [RV.d (DV.sl ((encS (⟨((s).bits), ((s).c), ((s).gtw), ((s).gth), ints (is (s).ord), toIms (ims (strTo s.ims more k)), toOps (ops (s).ops)⟩ : Scr)).1.length) (u8s (encS (⟨((s).bits), ((s).c), ((s).gtw), ((s).gth), ints (is (s).ord), toIms (ims (strTo s.ims more k)), toOps (ops (s).ops)⟩ : Scr)).1)), RV.d (DV.int .i64 ((encS (⟨((s).bits), ((s).c), ((s).gtw), ((s).gth), ints (is (s).ord), toIms (ims (strTo s.ims more k)), toOps (ops (s).ops)⟩ : Scr)).2))])) ∧ True ∧ True ∧ True ∧ True ∧ True ∧ True ∧ (Ans Try.prog 12 (zz11 k) (RV.tup [RV.d (DV.sl ((encS (⟨((s).bits), ((s).c), ((s).gtw), ((s).gth), ints (is (s).ord), toIms (ims (strTo s.ims more k)), toOps (ops (s).ops)⟩ : Scr)).1.length) (u8s (encS (⟨((s).bits), ((s).c), ((s).gtw), ((s).gth), ints (is (s).ord), toIms (ims (strTo s.ims more k)), toOps (ops (s).ops)⟩ : Scr)).1)), RV.d (DV.int .i64 ((encS (⟨((s).bits), ((s).c), ((s).gtw), ((s).gth), ints (is (s).ord), toIms (ims (strTo s.ims more k)), toOps (ops (s).ops)⟩ : Scr)).2))])) ∧ True ∧ True ∧ True ∧ True ∧ True ∧ (Ans Try.prog 13 [] (RV.d (DV.bool true))) ∧ True ∧ ((true = true → True ∧ (Ans Try.prog 14 (zz11 k) (RV.d (DV.bool (encOk (⟨((s).bits), ((s).c), ((s).gtw), ((s).gth), ints (is (s).ord), toIms (ims (strTo s.ims more k)), toOps (ops (s).ops)⟩ : Scr))))) ∧ True ∧ True ∧ (((encOk (⟨((s).bits), ((s).c), ((s).gtw), ((s).gth), ints (is (s).ord), toIms (ims (strTo s.ims more k)), toOps (ops (s).ops)⟩ : Scr)) = true → True ∧ True ∧ True ∧ True ∧ (((((encS (⟨((s).bits), ((s).c), ((s).gtw), ((s).gth), ints (is (s).ord), toIms (ims (strTo s.ims more k)), toOps (ops (s).ops)⟩ : Scr)).2) == (0 : Int)) = true → True ∧ True ∧ True ∧ True ∧ (((((encS (⟨((s).bits), ((s).c), ((s).gtw), ((s).gth), ints (is (s).ord), toIms (ims (strTo s.ims more k)), toOps (ops (s).ops)⟩ : Scr)).2) == (0 : Int)) = true → True ∧ True ∧ (Ans Try.prog 15 [RV.d (DV.sl ((encS (⟨((s).bits), ((s).c), ((s).gtw), ((s).gth), ints (is (s).ord), toIms (ims (strTo s.ims more k)), toOps (ops (s).ops)⟩ : Scr)).1.length) (u8s (encS (⟨((s).bits), ((s).c), ((s).gtw), ((s).gth), ints (is (s).ord), toIms (ims (strTo s.ims more k)), toOps (ops (s).ops)⟩ : Scr)).1)), RV.d (DV.sl ((encS (⟨((s).bits), ((s).c), ((s).gtw), ((s).gth), ints (is (s).ord), toIms (ims (strTo s.ims more k)), toOps (ops (s).ops)⟩ : Scr)).1.length) (u8s (encS (⟨((s).bits), ((s).c), ((s).gtw), ((s).gth), ints (is (s).ord), toIms (ims (strTo s.ims more k)), toOps (ops (s).ops)⟩ : Scr)).1))] (RV.d (DV.bool ((strD ((u8s (encS (⟨((s).bits), ((s).c), ((s).gtw), ((s).gth), ints (is (s).ord), toIms (ims (strTo s.ims more k)), toOps (ops (s).ops)⟩ : Scr)).1))).toList == (strD ((u8s (encS (⟨((s).bits), ((s).c), ((s).gtw), ((s).gth), ints (is (s).ord), toIms (ims (strTo s.ims more k)), toOps (ops (s).ops)⟩ : Scr)).1))).toList)))) ∧ True ∧ True ∧ RV.d (DV.bool ((strD ((u8s (encS (⟨((s).bits), ((s).c), ((s).gtw), ((s).gth), ints (is (s).ord), toIms (ims (strTo s.ims more k)), toOps (ops (s).ops)⟩ : Scr)).1))).toList == (strD ((u8s (encS (⟨((s).bits), ((s).c), ((s).gtw), ((s).gth), ints (is (s).ord), toIms (ims (strTo s.ims more k)), toOps (ops (s).ops)⟩ : Scr)).1))).toList)) = RV.d (DV.bool true)) ∧ ((((encS (⟨((s).bits), ((s).c), ((s).gtw), ((s).gth), ints (is (s).ord), toIms (ims (strTo s.ims more k)), toOps (ops (s).ops)⟩ : Scr)).2) == (0 : Int)) = (!true) → True ∧ True ∧ RV.d (DV.bool false) = RV.d (DV.bool true)))) ∧ ((((encS (⟨((s).bits), ((s).c), ((s).gtw), ((s).gth), ints (is (s).ord), toIms (ims (strTo s.ims more k)), toOps (ops (s).ops)⟩ : Scr)).2) == (0 : Int)) = (!true) → True ∧ True ∧ True ∧ True ∧ RV.d (DV.bool false) = RV.d (DV.bool true)))) ∧ ((encOk (⟨((s).bits), ((s).c), ((s).gtw), ((s).gth), ints (is (s).ord), toIms (ims (strTo s.ims more k)), toOps (ops (s).ops)⟩ : Scr)) = (!true) → True ∧ True ∧ True ∧ True ∧ True ∧ True ∧ RV.d (DV.bool false) = RV.d (DV.bool true)))) ∧ (true = (!true) → True ∧ True ∧ True ∧ True ∧ True ∧ True ∧ True ∧ True ∧ RV.d (DV.bool false) = RV.d (DV.bool true))))))) := by kernel_rfl
theorem L18_ScriptEncodeAgrees_ans (s : Scn) (more : Int) (hs : s.ok) : Ans Try.prog 3 [RV.agg [DV.int .i64 s.b, DV.int .i64 s.x, DV.int .i64 s.y, DV.int .i64 s.w, DV.int .i64 s.h, DV.int .i64 s.tw, DV.int .i64 s.th, DV.sl s.on s.oxs, DV.sl s.pn s.pxs, DV.sl s.rn s.rxs], RV.d (DV.int .i64 more)] (RV.d (DV.bool true)) :=
  ans_of_vcg (Γ := gamScriptEncodeAgrees) (L18_ScriptEncodeAgrees_ann s more) mixed_ Try.func3 rfl (Nat.le_of_ble_eq_true rfl) fun hwf => by
    refine Eq.mpr (L18_ScriptEncodeAgrees_vc s more) ?_
    simp only [true_and, and_true, RV.d.injEq, RV.agg.injEq, RV.tup.injEq, DV.bool.injEq, DV.int.injEq, DV.sl.injEq, List.cons.injEq, forall_const, Bool.not_false, Bool.not_true, Bool.not_eq_true', Bool.not_eq_false', decide_eq_true_eq, decide_eq_false_iff_not, Int.toNat_natCast, imQ, imQr, imC, oqQ, oqQr, oqC, oqD, pxQ, pxQr, pxC, pxD, L18_awake_ans, G_Mod_ans]
    have li := s.ims_len
    have hM : ∀ n : Nat, n ≤ 100 → n ≤ maxLen := fun n h => by unfold maxLen; omega
    refine ⟨G_Script_ans s hs, ⟨0, Nat.zero_le _, rfl, by rw [strTo_zero]⟩, fun k hk => ⟨hM _ (by omega), fun h1 => ?_, fun h1 => ?_⟩⟩
    · have hk1 : k < s.ims.length := by omega
      have hl : (strTo s.ims more k).length = s.ims.length := strTo_len _ _ _
      have q1 := ims_rd (l := strTo s.ims more k) (k := k) (by omega)
      have q2 := ims_at (l := strTo s.ims more k) (k := k) (by omega)
      rw [strTo_at hk1] at q1 q2
      simp only [q2]
      obtain ⟨f1, f2, f3, f4⟩ := s.fine _ (List.getElem_mem hk1)
      have st := G_Strided_ans s.ims[k] more (s.ims_isU _ (List.getElem_mem hk1)) f1 f2
      refine ⟨⟨by omega, by omega⟩, q1, st, ⟨by omega, by omega⟩, ?_⟩
      refine ⟨by rw [ims_length]; omega, k + 1, by omega, by omega, wrap_succ (by omega), ?_⟩
      exact (ims_sets (by omega) (gStrided s.ims[k] more)).trans (congrArg ims (strTo_succ hk1))
    · have : k = s.ims.length := by omega
      subst this
      have hU : ∀ m ∈ s.ims.map (gStrided · more), m.isU := fun m hm => by
        obtain ⟨m', h', rfl⟩ := List.mem_map.1 hm
        exact gStrided_isU (s.ims_isU _ h') more
      have hl : (s.ims.map (gStrided · more)).length = s.ims.length := by simp
      have hol := s.ops_len
      have hod := s.ord_len
      have en := s.enc (ms := s.ims.map (gStrided · more)) (os := s.ops) (by omega) (s.str_fine more) (by omega) s.ops_fit
      have a1 := script_Encode_ans ⟨s.bits, s.c, s.gtw, s.gth, s.ord, s.ims.map (gStrided · more), s.ops⟩ hU (by show s.ord.length ≤ _; omega)
      have a2 := R18_Encode_ans ⟨s.bits, s.c, s.gtw, s.gth, s.ord, s.ims.map (gStrided · more), s.ops⟩ hU (by show s.ord.length ≤ _; omega)
      have a3 := script_Encodable_ans ⟨s.bits, s.c, s.gtw, s.gth, s.ord, s.ims.map (gStrided · more), s.ops⟩ hU (by show s.ord.length ≤ _; omega)
      have a4 := L18_bytes_ans (encB ⟨s.bits, s.c, s.gtw, s.gth, s.ord, s.ims.map (gStrided · more), s.ops⟩) (encB ⟨s.bits, s.c, s.gtw, s.gth, s.ord, s.ims.map (gStrided · more), s.ops⟩)
      have eS : encS ⟨s.bits, s.c, s.gtw, s.gth, s.ord, s.ims.map (gStrided · more), s.ops⟩ = (encB ⟨s.bits, s.c, s.gtw, s.gth, s.ord, s.ims.map (gStrided · more), s.ops⟩, 0) := by unfold encS; rw [if_pos en]
      simp only [ints_is, toIms_ims, toOps_ops, strTo_all, eS, en, hl] at a1 a2 a3 a4 ⊢
      generalize encB ⟨s.bits, s.c, s.gtw, s.gth, s.ord, s.ims.map (gStrided · more), s.ops⟩ = B at *
      have nf : ∀ {p : Prop}, (true = false) → p := fun h => by cases h
      refine ⟨a1, a2, ?_⟩
      (repeat' (first | apply And.intro | intro _)) <;> first | exact a3 | exact a4 | exact beq_self_eq_true _ | (rename_i h; first | exact nf h | exact absurd h (by decide))

end Go.Proofs.Ytkfgmaecbclgfaa

/-
  The program's own closed facts, once: each a declaration of its own.
-/
namespace Go.Proofs.Ytkfgmaecbclgfaa.closed
open Go
set_option linter.unusedVariables false
set_option linter.unusedSimpArgs false

set_option maxRecDepth 100000 in
theorem headWord : Try.prog.initOrder = String.ofList [Char.ofNat 104, Char.ofNat 97, Char.ofNat 114, Char.ofNat 110, Char.ofNat 101, Char.ofNat 115, Char.ofNat 115, Char.ofNat 32, Char.ofNat 52, Char.ofNat 101, Char.ofNat 55, Char.ofNat 100, Char.ofNat 98, Char.ofNat 99, Char.ofNat 99, Char.ofNat 49, Char.ofNat 49, Char.ofNat 55, Char.ofNat 98, Char.ofNat 100, Char.ofNat 53, Char.ofNat 57, Char.ofNat 49, Char.ofNat 102, Char.ofNat 97, Char.ofNat 57, Char.ofNat 97, Char.ofNat 101, Char.ofNat 100, Char.ofNat 56, Char.ofNat 101, Char.ofNat 97, Char.ofNat 97, Char.ofNat 56, Char.ofNat 101, Char.ofNat 102, Char.ofNat 57, Char.ofNat 50, Char.ofNat 100, Char.ofNat 52, Char.ofNat 48, Char.ofNat 100, Char.ofNat 49, Char.ofNat 101, Char.ofNat 99, Char.ofNat 101, Char.ofNat 57, Char.ofNat 98, Char.ofNat 97, Char.ofNat 49, Char.ofNat 54, Char.ofNat 99, Char.ofNat 52, Char.ofNat 102, Char.ofNat 99, Char.ofNat 55, Char.ofNat 55, Char.ofNat 100, Char.ofNat 101, Char.ofNat 52, Char.ofNat 48, Char.ofNat 56, Char.ofNat 54, Char.ofNat 98, Char.ofNat 100, Char.ofNat 97, Char.ofNat 53, Char.ofNat 52, Char.ofNat 99, Char.ofNat 48, Char.ofNat 56, Char.ofNat 56, Char.ofNat 32, Char.ofNat 99, Char.ofNat 117, Char.ofNat 116, Char.ofNat 32, Char.ofNat 97, Char.ofNat 116, Char.ofNat 32, Char.ofNat 99, Char.ofNat 111, Char.ofNat 109, Char.ofNat 112, Char.ofNat 111, Char.ofNat 115, Char.ofNat 105, Char.ofNat 116, Char.ofNat 111, Char.ofNat 114, Char.ofNat 47, Char.ofNat 99, Char.ofNat 111, Char.ofNat 109, Char.ofNat 112, Char.ofNat 111, Char.ofNat 115, Char.ofNat 105, Char.ofNat 116, Char.ofNat 111, Char.ofNat 114, Char.ofNat 108, Char.ofNat 97, Char.ofNat 119, Char.ofNat 49, Char.ofNat 56, Char.ofNat 46, Char.ofNat 83, Char.ofNat 99, Char.ofNat 114, Char.ofNat 105, Char.ofNat 112, Char.ofNat 116, Char.ofNat 69, Char.ofNat 110, Char.ofNat 99, Char.ofNat 111, Char.ofNat 100, Char.ofNat 101, Char.ofNat 65, Char.ofNat 103, Char.ofNat 114, Char.ofNat 101, Char.ofNat 101, Char.ofNat 115, Char.ofNat 32, Char.ofNat 99, Char.ofNat 111, Char.ofNat 109, Char.ofNat 112, Char.ofNat 111, Char.ofNat 115, Char.ofNat 105, Char.ofNat 116, Char.ofNat 111, Char.ofNat 114, Char.ofNat 47, Char.ofNat 99, Char.ofNat 111, Char.ofNat 109, Char.ofNat 112, Char.ofNat 111, Char.ofNat 115, Char.ofNat 105, Char.ofNat 116, Char.ofNat 111, Char.ofNat 114, Char.ofNat 108, Char.ofNat 97, Char.ofNat 119, Char.ofNat 49, Char.ofNat 56, Char.ofNat 46, Char.ofNat 83, Char.ofNat 99, Char.ofNat 114, Char.ofNat 105, Char.ofNat 112, Char.ofNat 116, Char.ofNat 69, Char.ofNat 110, Char.ofNat 99, Char.ofNat 111, Char.ofNat 100, Char.ofNat 97, Char.ofNat 98, Char.ofNat 108, Char.ofNat 101, Char.ofNat 65, Char.ofNat 103, Char.ofNat 114, Char.ofNat 101, Char.ofNat 101, Char.ofNat 115, Char.ofNat 32, Char.ofNat 99, Char.ofNat 111, Char.ofNat 109, Char.ofNat 112, Char.ofNat 111, Char.ofNat 115, Char.ofNat 105, Char.ofNat 116, Char.ofNat 111, Char.ofNat 114, Char.ofNat 47, Char.ofNat 99, Char.ofNat 111, Char.ofNat 109, Char.ofNat 112, Char.ofNat 111, Char.ofNat 115, Char.ofNat 105, Char.ofNat 116, Char.ofNat 111, Char.ofNat 114, Char.ofNat 108, Char.ofNat 97, Char.ofNat 119, Char.ofNat 49, Char.ofNat 56, Char.ofNat 46, Char.ofNat 83, Char.ofNat 99, Char.ofNat 114, Char.ofNat 105, Char.ofNat 112, Char.ofNat 116, Char.ofNat 68, Char.ofNat 101, Char.ofNat 99, Char.ofNat 111, Char.ofNat 100, Char.ofNat 101, Char.ofNat 65, Char.ofNat 103, Char.ofNat 114, Char.ofNat 101, Char.ofNat 101, Char.ofNat 115, Char.ofNat 32, Char.ofNat 99, Char.ofNat 111, Char.ofNat 109, Char.ofNat 112, Char.ofNat 111, Char.ofNat 115, Char.ofNat 105, Char.ofNat 116, Char.ofNat 111, Char.ofNat 114, Char.ofNat 47, Char.ofNat 99, Char.ofNat 111, Char.ofNat 109, Char.ofNat 112, Char.ofNat 111, Char.ofNat 115, Char.ofNat 105, Char.ofNat 116, Char.ofNat 111, Char.ofNat 114, Char.ofNat 108, Char.ofNat 97, Char.ofNat 119, Char.ofNat 49, Char.ofNat 56, Char.ofNat 46, Char.ofNat 83, Char.ofNat 99, Char.ofNat 114, Char.ofNat 105, Char.ofNat 112, Char.ofNat 116, Char.ofNat 68, Char.ofNat 101, Char.ofNat 99, Char.ofNat 111, Char.ofNat 100, Char.ofNat 101, Char.ofNat 78, Char.ofNat 101, Char.ofNat 101, Char.ofNat 100, Char.ofNat 115, Char.ofNat 65, Char.ofNat 108, Char.ofNat 108, Char.ofNat 66, Char.ofNat 121, Char.ofNat 116, Char.ofNat 101, Char.ofNat 115, Char.ofNat 32, Char.ofNat 99, Char.ofNat 111, Char.ofNat 109, Char.ofNat 112, Char.ofNat 111, Char.ofNat 115, Char.ofNat 105, Char.ofNat 116, Char.ofNat 111, Char.ofNat 114, Char.ofNat 47, Char.ofNat 99, Char.ofNat 111, Char.ofNat 109, Char.ofNat 112, Char.ofNat 111, Char.ofNat 115, Char.ofNat 105, Char.ofNat 116, Char.ofNat 111, Char.ofNat 114, Char.ofNat 108, Char.ofNat 97, Char.ofNat 119, Char.ofNat 49, Char.ofNat 56, Char.ofNat 46, Char.ofNat 83, Char.ofNat 99, Char.ofNat 114, Char.ofNat 105, Char.ofNat 112, Char.ofNat 116, Char.ofNat 82, Char.ofNat 111, Char.ofNat 117, Char.ofNat 110, Char.ofNat 100, Char.ofNat 84, Char.ofNat 114, Char.ofNat 105, Char.ofNat 112, Char.ofNat 32, Char.ofNat 99, Char.ofNat 111, Char.ofNat 109, Char.ofNat 112, Char.ofNat 111, Char.ofNat 115, Char.ofNat 105, Char.ofNat 116, Char.ofNat 111, Char.ofNat 114, Char.ofNat 47, Char.ofNat 99, Char.ofNat 111, Char.ofNat 109, Char.ofNat 112, Char.ofNat 111, Char.ofNat 115, Char.ofNat 105, Char.ofNat 116, Char.ofNat 111, Char.ofNat 114, Char.ofNat 108, Char.ofNat 97, Char.ofNat 119, Char.ofNat 49, Char.ofNat 56, Char.ofNat 46, Char.ofNat 83, Char.ofNat 99, Char.ofNat 114, Char.ofNat 105, Char.ofNat 112, Char.ofNat 116, Char.ofNat 69, Char.ofNat 113, Char.ofNat 117, Char.ofNat 97, Char.ofNat 108, Char.ofNat 65, Char.ofNat 103, Char.ofNat 114, Char.ofNat 101, Char.ofNat 101, Char.ofNat 115] := by kernel_rfl
set_option maxRecDepth 100000 in
theorem headSigns : Try.prog.initOrder.toList = [Char.ofNat 104, Char.ofNat 97, Char.ofNat 114, Char.ofNat 110, Char.ofNat 101, Char.ofNat 115, Char.ofNat 115, Char.ofNat 32, Char.ofNat 52, Char.ofNat 101, Char.ofNat 55, Char.ofNat 100, Char.ofNat 98, Char.ofNat 99, Char.ofNat 99, Char.ofNat 49, Char.ofNat 49, Char.ofNat 55, Char.ofNat 98, Char.ofNat 100, Char.ofNat 53, Char.ofNat 57, Char.ofNat 49, Char.ofNat 102, Char.ofNat 97, Char.ofNat 57, Char.ofNat 97, Char.ofNat 101, Char.ofNat 100, Char.ofNat 56, Char.ofNat 101, Char.ofNat 97, Char.ofNat 97, Char.ofNat 56, Char.ofNat 101, Char.ofNat 102, Char.ofNat 57, Char.ofNat 50, Char.ofNat 100, Char.ofNat 52, Char.ofNat 48, Char.ofNat 100, Char.ofNat 49, Char.ofNat 101, Char.ofNat 99, Char.ofNat 101, Char.ofNat 57, Char.ofNat 98, Char.ofNat 97, Char.ofNat 49, Char.ofNat 54, Char.ofNat 99, Char.ofNat 52, Char.ofNat 102, Char.ofNat 99, Char.ofNat 55, Char.ofNat 55, Char.ofNat 100, Char.ofNat 101, Char.ofNat 52, Char.ofNat 48, Char.ofNat 56, Char.ofNat 54, Char.ofNat 98, Char.ofNat 100, Char.ofNat 97, Char.ofNat 53, Char.ofNat 52, Char.ofNat 99, Char.ofNat 48, Char.ofNat 56, Char.ofNat 56, Char.ofNat 32, Char.ofNat 99, Char.ofNat 117, Char.ofNat 116, Char.ofNat 32, Char.ofNat 97, Char.ofNat 116, Char.ofNat 32, Char.ofNat 99, Char.ofNat 111, Char.ofNat 109, Char.ofNat 112, Char.ofNat 111, Char.ofNat 115, Char.ofNat 105, Char.ofNat 116, Char.ofNat 111, Char.ofNat 114, Char.ofNat 47, Char.ofNat 99, Char.ofNat 111, Char.ofNat 109, Char.ofNat 112, Char.ofNat 111, Char.ofNat 115, Char.ofNat 105, Char.ofNat 116, Char.ofNat 111, Char.ofNat 114, Char.ofNat 108, Char.ofNat 97, Char.ofNat 119, Char.ofNat 49, Char.ofNat 56, Char.ofNat 46, Char.ofNat 83, Char.ofNat 99, Char.ofNat 114, Char.ofNat 105, Char.ofNat 112, Char.ofNat 116, Char.ofNat 69, Char.ofNat 110, Char.ofNat 99, Char.ofNat 111, Char.ofNat 100, Char.ofNat 101, Char.ofNat 65, Char.ofNat 103, Char.ofNat 114, Char.ofNat 101, Char.ofNat 101, Char.ofNat 115, Char.ofNat 32, Char.ofNat 99, Char.ofNat 111, Char.ofNat 109, Char.ofNat 112, Char.ofNat 111, Char.ofNat 115, Char.ofNat 105, Char.ofNat 116, Char.ofNat 111, Char.ofNat 114, Char.ofNat 47, Char.ofNat 99, Char.ofNat 111, Char.ofNat 109, Char.ofNat 112, Char.ofNat 111, Char.ofNat 115, Char.ofNat 105, Char.ofNat 116, Char.ofNat 111, Char.ofNat 114, Char.ofNat 108, Char.ofNat 97, Char.ofNat 119, Char.ofNat 49, Char.ofNat 56, Char.ofNat 46, Char.ofNat 83, Char.ofNat 99, Char.ofNat 114, Char.ofNat 105, Char.ofNat 112, Char.ofNat 116, Char.ofNat 69, Char.ofNat 110, Char.ofNat 99, Char.ofNat 111, Char.ofNat 100, Char.ofNat 97, Char.ofNat 98, Char.ofNat 108, Char.ofNat 101, Char.ofNat 65, Char.ofNat 103, Char.ofNat 114, Char.ofNat 101, Char.ofNat 101, Char.ofNat 115, Char.ofNat 32, Char.ofNat 99, Char.ofNat 111, Char.ofNat 109, Char.ofNat 112, Char.ofNat 111, Char.ofNat 115, Char.ofNat 105, Char.ofNat 116, Char.ofNat 111, Char.ofNat 114, Char.ofNat 47, Char.ofNat 99, Char.ofNat 111, Char.ofNat 109, Char.ofNat 112, Char.ofNat 111, Char.ofNat 115, Char.ofNat 105, Char.ofNat 116, Char.ofNat 111, Char.ofNat 114, Char.ofNat 108, Char.ofNat 97, Char.ofNat 119, Char.ofNat 49, Char.ofNat 56, Char.ofNat 46, Char.ofNat 83, Char.ofNat 99, Char.ofNat 114, Char.ofNat 105, Char.ofNat 112, Char.ofNat 116, Char.ofNat 68, Char.ofNat 101, Char.ofNat 99, Char.ofNat 111, Char.ofNat 100, Char.ofNat 101, Char.ofNat 65, Char.ofNat 103, Char.ofNat 114, Char.ofNat 101, Char.ofNat 101, Char.ofNat 115, Char.ofNat 32, Char.ofNat 99, Char.ofNat 111, Char.ofNat 109, Char.ofNat 112, Char.ofNat 111, Char.ofNat 115, Char.ofNat 105, Char.ofNat 116, Char.ofNat 111, Char.ofNat 114, Char.ofNat 47, Char.ofNat 99, Char.ofNat 111, Char.ofNat 109, Char.ofNat 112, Char.ofNat 111, Char.ofNat 115, Char.ofNat 105, Char.ofNat 116, Char.ofNat 111, Char.ofNat 114, Char.ofNat 108, Char.ofNat 97, Char.ofNat 119, Char.ofNat 49, Char.ofNat 56, Char.ofNat 46, Char.ofNat 83, Char.ofNat 99, Char.ofNat 114, Char.ofNat 105, Char.ofNat 112, Char.ofNat 116, Char.ofNat 68, Char.ofNat 101, Char.ofNat 99, Char.ofNat 111, Char.ofNat 100, Char.ofNat 101, Char.ofNat 78, Char.ofNat 101, Char.ofNat 101, Char.ofNat 100, Char.ofNat 115, Char.ofNat 65, Char.ofNat 108, Char.ofNat 108, Char.ofNat 66, Char.ofNat 121, Char.ofNat 116, Char.ofNat 101, Char.ofNat 115, Char.ofNat 32, Char.ofNat 99, Char.ofNat 111, Char.ofNat 109, Char.ofNat 112, Char.ofNat 111, Char.ofNat 115, Char.ofNat 105, Char.ofNat 116, Char.ofNat 111, Char.ofNat 114, Char.ofNat 47, Char.ofNat 99, Char.ofNat 111, Char.ofNat 109, Char.ofNat 112, Char.ofNat 111, Char.ofNat 115, Char.ofNat 105, Char.ofNat 116, Char.ofNat 111, Char.ofNat 114, Char.ofNat 108, Char.ofNat 97, Char.ofNat 119, Char.ofNat 49, Char.ofNat 56, Char.ofNat 46, Char.ofNat 83, Char.ofNat 99, Char.ofNat 114, Char.ofNat 105, Char.ofNat 112, Char.ofNat 116, Char.ofNat 82, Char.ofNat 111, Char.ofNat 117, Char.ofNat 110, Char.ofNat 100, Char.ofNat 84, Char.ofNat 114, Char.ofNat 105, Char.ofNat 112, Char.ofNat 32, Char.ofNat 99, Char.ofNat 111, Char.ofNat 109, Char.ofNat 112, Char.ofNat 111, Char.ofNat 115, Char.ofNat 105, Char.ofNat 116, Char.ofNat 111, Char.ofNat 114, Char.ofNat 47, Char.ofNat 99, Char.ofNat 111, Char.ofNat 109, Char.ofNat 112, Char.ofNat 111, Char.ofNat 115, Char.ofNat 105, Char.ofNat 116, Char.ofNat 111, Char.ofNat 114, Char.ofNat 108, Char.ofNat 97, Char.ofNat 119, Char.ofNat 49, Char.ofNat 56, Char.ofNat 46, Char.ofNat 83, Char.ofNat 99, Char.ofNat 114, Char.ofNat 105, Char.ofNat 112, Char.ofNat 116, Char.ofNat 69, Char.ofNat 113, Char.ofNat 117, Char.ofNat 97, Char.ofNat 108, Char.ofNat 65, Char.ofNat 103, Char.ofNat 114, Char.ofNat 101, Char.ofNat 101, Char.ofNat 115] := by rw [headWord, String.toList_ofList]
set_option maxRecDepth 100000 in
theorem enters : Try.prog.mayEnter = true := by
  unfold Program.mayEnter Program.doorFits
  rw [headSigns]
  kernel_rfl
set_option maxRecDepth 100000 in
theorem liftsNot : Try.prog.liftsFinal = false := by
  unfold Program.liftsFinal Program.headLifts
  rw [headSigns]
  kernel_rfl
set_option maxRecDepth 100000 in
theorem made : Try.prog.make = some .cut := by
  unfold Program.make
  rw [headSigns]
  kernel_rfl
theorem own : ownKnob Try.prog.godebug = none := by kernel_rfl
theorem laidOut : laidOutB Try.prog = true := by kernel_rfl
theorem mapsRow : mapsRowed Try.prog = true := by kernel_rfl
theorem noStops : (Try.prog.stops == []) = true := by kernel_rfl
theorem noKnobs : (Try.prog.stopKnobs == []) = true := by kernel_rfl
theorem plain : Try.prog.plainKeys = true := by kernel_rfl
theorem heard : Try.prog.stopsHeard = true := by kernel_rfl
end Go.Proofs.Ytkfgmaecbclgfaa.closed

