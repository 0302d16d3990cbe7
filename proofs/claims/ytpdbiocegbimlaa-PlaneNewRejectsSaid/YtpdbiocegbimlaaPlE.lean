/-
  Walks: a plane without gaps, of package plane and of its reference.
-/
import Derived.Test.YtpdbiocegbimlaaPlD
namespace Go.Proofs.Ytpdbiocegbimlaa
open Go.RowKit
set_option linter.unusedVariables false
set_option linter.unusedSimpArgs false

theorem slice_eq {g a b m m' c c' : Nat} (h1 : a = b) (h2 : m = m') (h3 : c = c') : Ending.returned (.slice (some ⟨g, a, none⟩) m c) = Ending.returned (.slice (some ⟨g, b, none⟩) m' c') := by rw [h1, h2, h3]

set_option maxHeartbeats 400000 in
theorem row_any (W H S y : Int) (g off n c : Nat) (w : World) (k m : Nat) (hk : y * S = (k : Int)) (hW : W = (m : Int)) (hm : 1 ≤ m) (hn : k + m ≤ n) (hc : n ≤ c) (hb : (c : Int) ≤ 9223372036854775807) :
    Calls Try.prog 27 #[.agg #[.int .i64 W, .int .i64 H, .int .i64 S, .slice (some ⟨g, off, none⟩) n c], .int .i64 y] w fun e w' => e = .returned (.slice (some ⟨g, off + k, none⟩) m (c - k)) ∧ Below w.heap.size w w' := by
  have HK := Lib.hid hk
  have e1 : 0 ≤ y * S := by omega
  have e2 : y * S + W ≤ n := by omega
  have e3 : 1 ≤ W := by omega
  have HW := Lib.hid hW
  clear hk hW
  go_enter Try.func27, Try.ntmps27
  go_wp2
  go_ret
  have := HK.out
  have := HW.out
  exact ⟨slice_eq (by omega) (by omega) (by omega), (by repeat (first | exact Below.refl _ _ | apply Below.drew | apply below_drewN | (refine Below.alloc ?_ ?_ _; rotate_left; (first | omega | (simp only [World.size_alloc, World.size_setCell, World.size_drew]; omega))) | (refine Below.setCell ?_ ?_ _; rotate_left; (first | omega | (simp only [World.size_alloc, World.size_setCell, World.size_drew]; omega))) | (refine below_step ?_ (by assumption) ?_; rotate_left; (first | omega | (simp only [World.size_alloc, World.size_setCell, World.size_drew]; omega))) | assumption))⟩

theorem ownsRow_below {w w' : World} {base : Nat} {e : TypeId} {size : Nat} {v : Value} {n : Nat} {xs : List Value} (h : w.ownsRow base e size v n xs) (hb : Below w.heap.size w w') : w'.ownsRow base e size v n xs := by
  refine h.kept (row := none) ⟨hb.os, hb.tape, hb.output, hb.size, fun i hi _ => hb.block i hi⟩ ?_
  rcases h.2 with ⟨rfl, _⟩ | ⟨g, cap, cur, rfl, _⟩
  · exact .inl rfl
  · exact .inr (by simp [Value.ownBlock])
theorem own_ne {w : World} {base g : Nat} {e t : TypeId} {size n : Nat} {v : Value} {xs : List Value} {cs : Array Value} (h : w.ownsRow base e size v n xs) (ho : Own w g t cs) (hne : e ≠ t) : v.ownBlock ≠ some g := by
  rcases h.2 with ⟨rfl, _⟩ | ⟨g', cap, cur, rfl, _, hh, _⟩
  · simp [Value.ownBlock]
  · intro he
    have : g' = g := by simpa [Value.ownBlock] using he
    subst this
    unfold Own at ho
    rw [hh] at ho
    injection ho with ho
    injection ho with _ h2
    exact hne h2

/-- the samples of the first k rows, one row behind the other -/
def rowsL (xs : List Int) (S W k : Nat) : List Int := (List.range k).flatMap fun y => (xs.drop (y * S)).take W
theorem rowsL_succ (xs : List Int) (S W k : Nat) : rowsL xs S W (k + 1) = rowsL xs S W k ++ (xs.drop (k * S)).take W := by simp [rowsL, List.range_succ]
theorem hmake0 {x : Int} {n : Nat} (hx : x = (n : Int)) (hn : n ≤ 16777216) : ∃ cs : Array Value, cs.size = n ∧
    ∀ w : World, (Instr.makeSlice 22 (.int .i64 0) (.int .i64 x)).run Try.prog w = .ok (.slice (some ⟨w.heap.size, 0, none⟩) 0 n) (w.alloc (.cells cs 38)) := by
  obtain ⟨i0, hi, hz0, hz1, hz2⟩ := info_parts info_u16
  refine ⟨_, size_madeCells (Value.int .u16 0).cells (n * 1) |>.trans (by omega), fun w => ?_⟩
  have h := run_make (P := Try.prog) w 22 38 i0 _ Try.underlying22 hi hz0 .i64 .i64 0 x (by omega) (by omega) (by rw [hz2]; omega) (by omega)
  rw [h, hx]
  simp [hz1]

theorem own_ge {w : World} {base size n m c g o : Nat} {e : TypeId} {A : Option Addr} {xs : List Value} (h : w.ownsRow base e size (.slice A m c) n xs) (hA : A = some ⟨g, o, none⟩) : base ≤ g := by
  subst hA
  rcases h.2 with ⟨e, _⟩ | ⟨g', cap, cur, e, hb, _⟩
  · injection e with e; cases e
  · injection e with e; injection e with e; injection e with e; subst e; exact hb
theorem own_cap {w : World} {base size n c : Nat} {e : TypeId} {A : Option Addr} {xs : List Value} (h : w.ownsRow base e size (.slice A n c) n xs) : n ≤ c ∧ c ≤ maxLen := by
  rcases h.2 with ⟨e, h0⟩ | ⟨g', cap, cur, e, _, _, h1, h2, _⟩
  · injection e with _ _ e; subst h0 e; exact ⟨Nat.le_refl _, Nat.zero_le _⟩
  · injection e with _ _ e; subst e; exact ⟨h1, h2⟩
theorem us_one {l : List Int} : ∀ u ∈ us l, u.oneCell' = true := by
  intro u hu
  simp only [us, List.mem_map] at hu
  obtain ⟨x, _, rfl⟩ := hu
  rfl
theorem row_fits {Wn Hn Sn n k : Nat} (h : plLen (Wn : Int) (Hn : Int) (Sn : Int) ≤ n) (hk : k + 1 ≤ Hn) : k * Sn + Wn ≤ n := by
  unfold plLen at h
  have h1 : (k : Int) * Sn ≤ ((Hn : Int) - 1) * Sn := Int.mul_le_mul_of_nonneg_right (by omega) (by omega)
  have h2 : ((k * Sn : Nat) : Int) = (k : Int) * Sn := by simp
  omega
theorem row_room {Wn Hn k : Nat} (hk : k + 1 ≤ Hn) (h : (Wn : Int) * (Hn : Int) ≤ 16777216) : k * Wn + Wn ≤ 16777216 := by
  have h1 : (k + 1) * Wn ≤ Hn * Wn := Nat.mul_le_mul_right _ hk
  have h2 : ((Hn * Wn : Nat) : Int) = (Wn : Int) * (Hn : Int) := by simp [Int.mul_comm]
  rw [Nat.add_mul] at h1
  omega
theorem us_append (l m : List Int) : us (l ++ m) = us l ++ us m := by simp [us]
theorem ownsRow_far {w : World} {base g : Nat} {e : TypeId} {size n : Nat} {v : Value} {xs : List Value} (h : w.ownsRow base e size v n xs) (hne : v.ownBlock ≠ some g) (i : Nat) (u : Value) : (w.setCell ⟨g, i, none⟩ u).ownsRow base e size v n xs := by
  refine h.kept (row := some g) ⟨rfl, rfl, rfl, by simp, fun k _ hk => Below.heap_setCell _ _ _ _ (fun e => hk (by rw [e]))⟩ (.inr hne)
theorem sl_part {w wr wq : World} {g off n a m : Nat} {xs : List Int} (h : Sl w 1 (some ⟨g, off, none⟩) n (us xs)) (h1 : Below w.heap.size w wr) (h2 : Below wr.heap.size wr wq) :
    ∀ j u, (us ((xs.drop a).take m))[j]? = some u → wq.cell? ((⟨g, off + a, none⟩ : Addr).add j) = some u := by
  intro j u hu
  have hadd : (⟨g, off + a, none⟩ : Addr).add j = ⟨g, off + (a + j), none⟩ := by unfold Addr.add; split <;> simp_all [Nat.add_assoc]
  have hu' : (us xs)[a + j]? = some u := by
    simp only [us, List.getElem?_map, List.getElem?_take, List.getElem?_drop] at hu ⊢
    split at hu
    · exact hu
    · cases hu
  have hn : 0 < n := by
    have := h.1
    rcases Nat.eq_zero_or_pos n with h0 | h0
    · subst h0
      have : us xs = [] := List.eq_nil_of_length_eq_zero (by simpa using this)
      rw [this] at hu'; simp at hu'
    · exact h0
  obtain ⟨g', off', e, hg, hc⟩ := h.2 hn
  cases e
  rw [hadd, h2.cell (p := ⟨g, off + (a + j), none⟩) (Nat.lt_of_lt_of_le hg h1.size), h1.cell (p := ⟨g, off + (a + j), none⟩) hg]
  exact hc _ _ hu'
theorem sl_far {w : World} {size n g i : Nat} {A : Option Addr} {xs : List Value} (h : Sl w size A n xs) (hne : ∀ g' off, A = some ⟨g', off, none⟩ → g' ≠ g) (u : Value) : Sl (w.setCell ⟨g, i, none⟩ u) size A n xs :=
  ⟨h.1, fun hn => by
    obtain ⟨g', off, e, hg, hc⟩ := h.2 hn
    exact ⟨g', off, e, by simpa using hg, fun j v hv => (cell_off (.inl (Ne.symm (hne _ _ e)))).trans (hc j v hv)⟩⟩

set_option maxHeartbeats 4000000 in
theorem Compact_yes (W H S : Int) (g off n c Wn Hn Sn : Nat) (xs : List Int) (w : World) (h : plValid W H S n = true) (hW : W = (Wn : Int)) (hH : H = (Hn : Int)) (hS : S = (Sn : Int))
    (hx : Sl w 1 (some ⟨g, off, none⟩) n (us xs)) (hc : n ≤ c) (hb : (c : Int) ≤ 9223372036854775807) :
    Calls Try.prog 16 #[.agg #[.int .i64 W, .int .i64 H, .int .i64 S, .slice (some ⟨g, off, none⟩) n c]] w (PlOut W H W (rowsL xs Sn Wn Hn) true w) := by
  subst hW hH hS
  have HV := Lib.hid h
  have hs : plSize (Wn : Int) (Hn : Int) = true ∧ (Wn : Int) ≤ Sn ∧ (Sn : Int) ≤ 16777216 ∧ plLen (Wn : Int) (Hn : Int) (Sn : Int) ≤ n := by simp [plValid] at h; exact ⟨h.1.1.1, by have := h.1.1.2; omega, by have := h.1.2; omega, h.2⟩
  obtain ⟨h0, h1, h2, h3⟩ := hs
  obtain ⟨a1, a2, a3, a4, a5⟩ := plSize_true h0
  have a6 : 0 ≤ (Wn : Int) * (Hn : Int) := Int.mul_nonneg (by omega) (by omega)
  have HH0 := Lib.hid h0
  have HX := Lib.hid hx
  clear h h0 hx
  obtain ⟨cs, hcs, hmk⟩ := hmake0 (x := (Wn : Int) * (Hn : Int)) (n := ((Wn : Int) * (Hn : Int)).toNat) (by omega) (by omega)
  have HC := Lib.hid hcs
  clear hcs
  go_enter Try.func16, Try.ntmps16
  go_wp2_with fail
  refine (ValidPl_any _ _ _ _ _ _ _).mono ?_
  rintro e w1 ⟨rfl, hb1⟩
  rw [HV.out]
  have hz1 := hb1.size; (try simp only [World.size_alloc, World.size_setCell, World.size_drew] at hz1)
  have o0 : Own w1 w.heap.size 24 #[.int .i64 (Wn : Int), .int .i64 (Hn : Int), .int .i64 (Sn : Int), .slice (some ⟨g, off, none⟩) n c] := Own.below (by (repeat (first | assumption | (refine Own.new_ _ _ _ ?_; (simp; done)) | apply Own.drew | apply Own.drewN | apply Own.alloc | (refine Own.far' ?_ ?_ _; rotate_left; omega) | apply Own.put | (refine Own.below ?_ ?_; rotate_left; assumption))); all_goals rfl) hb1
  have o1 : Own w1 (w.heap.size + 1) 24 #[.int .i64 0, .int .i64 0, .int .i64 0, .slice none 0 0] := Own.below (by (repeat (first | assumption | (refine Own.new_ _ _ _ ?_; (simp; done)) | apply Own.drew | apply Own.drewN | apply Own.alloc | (refine Own.far' ?_ ?_ _; rotate_left; omega) | apply Own.put | (refine Own.below ?_ ?_; rotate_left; assumption))); all_goals rfl) hb1
  have bel : Below w.heap.size w w1 := (by repeat (first | exact Below.refl _ _ | apply Below.drew | apply below_drewN | (refine Below.alloc ?_ ?_ _; rotate_left; (first | omega | (simp only [World.size_alloc, World.size_setCell, World.size_drew]; omega))) | (refine Below.setCell ?_ ?_ _; rotate_left; (first | omega | (simp only [World.size_alloc, World.size_setCell, World.size_drew]; omega))) | (refine below_step ?_ (by assumption) ?_; rotate_left; (first | omega | (simp only [World.size_alloc, World.size_setCell, World.size_drew]; omega))) | assumption))
  have c0 := o0.cell
  have c1 := o1.cell
  have f1 := o1.free
  have l1 := o1.lt
  go_upto_region 3 with fail
  go_cut [4] (fun s4 wx => ∃ g4 gS : Nat, s4 = .pointer (some ⟨g4, 0, none⟩) ∧ w1.heap.size ≤ g4 ∧ Own wx g4 24 #[.int .i64 (Wn : Int), .int .i64 (Hn : Int), .int .i64 (Wn : Int), .slice (some ⟨gS, 0, none⟩) 0 ((Wn : Int) * (Hn : Int)).toNat] ∧ Own wx gS 38 cs ∧ w1.heap.size ≤ gS ∧
    Own wx w.heap.size 24 #[.int .i64 (Wn : Int), .int .i64 (Hn : Int), .int .i64 (Sn : Int), .slice (some ⟨g, off, none⟩) n c] ∧ Own wx (w.heap.size + 1) 24 #[.int .i64 0, .int .i64 0, .int .i64 0, .slice none 0 0] ∧ Below w1.heap.size w1 wx)
  case first =>
    have z0 : IntKind.i64.wrap ((Wn : Int) * (Hn : Int)) = (Wn : Int) * (Hn : Int) := IntWalk.i64_in _ ⟨by omega, by omega⟩
    go_region_held3 (fun w' => w'.cell? ⟨w.heap.size, 0, none⟩ = some (.int .i64 (Wn : Int)) ∧ w'.cell? ⟨w.heap.size, 1, none⟩ = some (.int .i64 (Hn : Int))) (first | (refine ⟨?_, ?_⟩ <;> ((try rw [World.cell?_drew]); (repeat refine (cell_off (by omega)).trans ?_); simp [c0])) | go_keep) (fail)
    all_goals (go_wp2_with fail; go_meet; exact ⟨_, _, rfl, by omega, (by (repeat (first | assumption | (refine Own.new_ _ _ _ ?_; (simp; done)) | apply Own.drew | apply Own.drewN | apply Own.alloc | (refine Own.far' ?_ ?_ _; rotate_left; omega) | apply Own.put | (refine Own.below ?_ ?_; rotate_left; assumption))); all_goals rfl), (by (repeat (first | assumption | (refine Own.new_ _ _ _ ?_; (simp; done)) | apply Own.drew | apply Own.drewN | apply Own.alloc | (refine Own.far' ?_ ?_ _; rotate_left; omega) | apply Own.put | (refine Own.below ?_ ?_; rotate_left; assumption))); all_goals rfl), by omega, (by (repeat (first | assumption | (refine Own.new_ _ _ _ ?_; (simp; done)) | apply Own.drew | apply Own.drewN | apply Own.alloc | (refine Own.far' ?_ ?_ _; rotate_left; omega) | apply Own.put | (refine Own.below ?_ ?_; rotate_left; assumption))); all_goals rfl), (by (repeat (first | assumption | (refine Own.new_ _ _ _ ?_; (simp; done)) | apply Own.drew | apply Own.drewN | apply Own.alloc | (refine Own.far' ?_ ?_ _; rotate_left; omega) | apply Own.put | (refine Own.below ?_ ?_; rotate_left; assumption))); all_goals rfl), (by repeat (first | exact Below.refl _ _ | apply Below.drew | apply below_drewN | (refine Below.alloc ?_ ?_ _; rotate_left; (first | omega | (simp only [World.size_alloc, World.size_setCell, World.size_drew]; omega))) | (refine Below.setCell ?_ ?_ _; rotate_left; (first | omega | (simp only [World.size_alloc, World.size_setCell, World.size_drew]; omega))) | (refine below_step ?_ (by assumption) ?_; rotate_left; (first | omega | (simp only [World.size_alloc, World.size_setCell, World.size_drew]; omega))) | assumption))⟩)
  case rest =>
    clear c0 c1 f1 hmk
    obtain ⟨g4, gS, rfl, hg4, o4, oS, hgS, o0', o1', belc⟩ := hcut
    have hown : wc.ownsRow w1.heap.size 38 1 (.slice (some ⟨gS, 0, none⟩) 0 ((Wn : Int) * (Hn : Int)).toNat) 0 [] := by
      refine ⟨rfl, .inr ⟨gS, ((Wn : Int) * (Hn : Int)).toNat, cs, rfl, hgS, oS, Nat.zero_le _, by unfold maxLen; omega, by have := HC.out; omega, by simp⟩⟩
    have b0 : w.heap.size < w1.heap.size := by omega
    have b1 : w.heap.size + 1 < w1.heap.size := by omega
    have c0 := o0'.cell
    have lc := o4.lt
    clear oS
    go_wp2
    go_loopw [25] (fun i wr => ∃ k : Nat, k ≤ Hn ∧ i = .int .i64 k ∧ ∃ A cp, Own wr g4 24 #[.int .i64 (Wn : Int), .int .i64 (Hn : Int), .int .i64 (Wn : Int), .slice A (k * Wn) cp] ∧ wr.ownsRow w1.heap.size 38 1 (.slice A (k * Wn) cp) (k * Wn) (us (rowsL xs Sn Wn k)) ∧
      Own wr w.heap.size 24 #[.int .i64 (Wn : Int), .int .i64 (Hn : Int), .int .i64 (Sn : Int), .slice (some ⟨g, off, none⟩) n c] ∧ Own wr (w.heap.size + 1) 24 #[.int .i64 0, .int .i64 0, .int .i64 0, .slice none 0 0] ∧ Below w1.heap.size w1 wr) (fun i _ => Hn - (intOf i).toNat)
    case atStart => exact ⟨0, Nat.zero_le _, rfl, _, _, by simpa using o4, by simpa [rowsL, us] using hown, o0', o1', belc⟩
    case round =>
      obtain ⟨k, hk, rfl, A, cp, p4, pown, p0, p1, belr⟩ := hrel
      clear o4 hown o0' o1' belc c0
      have c4 := p4.cell
      have f4 := p4.free
      have c0 := p0.cell
      have c1 := p1.cell
      have f1 := p1.free
      by_cases hlt : k < Hn
      · have hkS := row_fits (k := k) h3 (by omega)
        have hkW : k * Wn + Wn ≤ 16777216 := row_room (by omega) a3
        have hxl : (us xs).length = n := by have := HX.out.1; omega
        have HXL := Lib.hid hxl
        clear hxl
        obtain ⟨i0, hi0, hi1, hi2, hi3⟩ := info_parts info_u16
        have hpart : ∀ wq : World, Below wr.heap.size wr wq → ∀ j u, (us ((xs.drop (k * Sn)).take Wn))[j]? = some u → wq.cell? ((⟨g, off + k * Sn, none⟩ : Addr).add j) = some u :=
          fun wq hb => sl_part HX.out (bel.trans (belr.mono (by omega))) hb
        have HPA := Lib.hid hpart
        clear hpart
        have hlen : (us ((xs.drop (k * Sn)).take Wn)).length = Wn * 1 := by
          have := HXL.out
          rw [us_length] at this ⊢
          rw [List.length_take, List.length_drop]
          omega
        have HLE := Lib.hid hlen
        clear hlen
        go_wp2_with fail
        go_region_law (first | (refine step_append_lies _ (by rfl) _ _ _ (by rfl) w1.heap.size 38 i0 _ 1 2 Try.underlying22 hi0 hi1 hi2 hi3 rfl (by omega) (.slice A (k * Wn) cp) (k * Wn) (us (rowsL xs Sn Wn k)) (by rfl) (ownsRow_below pown.drew hbq) ⟨g, off + k * Sn, none⟩ Wn (c - k * Sn) (us ((xs.drop (k * Sn)).take Wn)) (by rfl) HLE.out (HPA.out _ ((Below.refl _ _).drew.trans hbq)) us_one (by omega) (by unfold maxLen; omega) (by omega) (Nat.le_trans belr.size hbq.size) _ rfl ?_; intro gg cap w2 hown2 hgrow hat hgl; have r4 := Own.grown q4 hgrow (Ne.symm (own_ne (ownsRow_below pown.drew hbq) q4 (by decide))); have rc4 := r4.cell; have rf4 := r4.free; have r0 := Own.grown q0 hgrow (Ne.symm (own_ne (ownsRow_below pown.drew hbq) q0 (by decide))); have r1 := Own.grown q1 hgrow (Ne.symm (own_ne (ownsRow_below pown.drew hbq) q1 (by decide))); have belw := (below_step belr.drew hbq belr.size).grown hgrow (Nat.le_trans belr.size hbq.size) (fun x hx => (World.ownsRow.lt (ownsRow_below pown.drew hbq) x hx).1)) | (go_simp; go_at_call 27; refine (row_any _ _ _ _ _ _ _ _ _ (k * Sn) Wn (by simp) rfl (by omega) (by omega) (by omega) (by omega)).mono ?_; rintro e wq ⟨rfl, hbq⟩; have q4 := Own.below p4.drew hbq; have qc4 := q4.cell; have q0 := Own.below p0.drew hbq; have qc0 := q0.cell; have q1 := Own.below p1.drew hbq))
        all_goals
          go_wp2
          refine ⟨⟨k + 1, by omega, by go_num, ?_⟩, by simp [intOf]; omega⟩
          rw [Nat.succ_mul, rowsL_succ, us_append]
          exact ⟨_, _, (by (repeat (first | assumption | (refine Own.new_ _ _ _ ?_; (simp; done)) | apply Own.drew | apply Own.drewN | apply Own.alloc | (refine Own.far' ?_ ?_ _; rotate_left; omega) | apply Own.put | (refine Own.below ?_ ?_; rotate_left; assumption))); all_goals rfl), ownsRow_far hown2 (own_ne hown2 r4 (by decide)) _ _, (by (repeat (first | assumption | (refine Own.new_ _ _ _ ?_; (simp; done)) | apply Own.drew | apply Own.drewN | apply Own.alloc | (refine Own.far' ?_ ?_ _; rotate_left; omega) | apply Own.put | (refine Own.below ?_ ?_; rotate_left; assumption))); all_goals rfl), (by (repeat (first | assumption | (refine Own.new_ _ _ _ ?_; (simp; done)) | apply Own.drew | apply Own.drewN | apply Own.alloc | (refine Own.far' ?_ ?_ _; rotate_left; omega) | apply Own.put | (refine Own.below ?_ ?_; rotate_left; assumption))); all_goals rfl), belw.setCell hg4 _⟩
      · go_wp2
        obtain rfl : k = Hn := by omega
        refine bodyPost_ret (v := .tuple #[.agg #[.int .i64 (Wn : Int), .int .i64 (k : Int), .int .i64 (Wn : Int), .slice A (k * Wn) cp], .bool true]) (by simp [results, Try.results16, go_sem, *]) rfl ?_
        have hlen : (rowsL xs Sn Wn k).length = k * Wn := by have := pown.1; rw [us_length] at this; omega
        have hsl := Sl.of_own pown
        unfold PlOut
        rw [hlen]
        have b0 : w.heap.size < w1.heap.size := by omega
        have hne : ∀ g' o, A = some ⟨g', o, none⟩ → g' ≠ w.heap.size + 1 := fun g' o e => by have := own_ge pown e; omega
        exact ⟨_, _, rfl, sl_far (sl_far (sl_far (sl_far hsl hne _) hne _) hne _) hne _, (by repeat (first | exact Below.refl _ _ | apply Below.drew | apply below_drewN | (refine Below.alloc ?_ ?_ _; rotate_left; (first | omega | (simp only [World.size_alloc, World.size_setCell, World.size_drew]; omega))) | (refine Below.setCell ?_ ?_ _; rotate_left; (first | omega | (simp only [World.size_alloc, World.size_setCell, World.size_drew]; omega))) | (refine below_step ?_ (by assumption) ?_; rotate_left; (first | omega | (simp only [World.size_alloc, World.size_setCell, World.size_drew]; omega))) | assumption)), (own_cap pown).1, by have := (own_cap pown).2; unfold maxLen at this; omega⟩

set_option maxHeartbeats 1000000 in
theorem Compact_no (W H S : Int) (A : Option Addr) (n c : Nat) (w : World) (h : plValid W H S n = false) :
    Calls Try.prog 16 #[.agg #[.int .i64 W, .int .i64 H, .int .i64 S, .slice A n c]] w (PlOut 0 0 0 [] false w) := by
  have HV := Lib.hid h
  clear h
  go_enter Try.func16, Try.ntmps16
  go_wp2_with fail
  refine (ValidPl_any _ _ _ _ _ _ _).mono ?_
  rintro e w1 ⟨rfl, hb1⟩
  rw [HV.out]
  have hz1 := hb1.size; (try simp only [World.size_alloc, World.size_setCell, World.size_drew] at hz1)
  have o1 : Own w1 (w.heap.size + 1) 24 #[.int .i64 0, .int .i64 0, .int .i64 0, .slice none 0 0] := Own.below (by (repeat (first | assumption | (refine Own.new_ _ _ _ ?_; (simp; done)) | apply Own.drew | apply Own.drewN | apply Own.alloc | (refine Own.far' ?_ ?_ _; rotate_left; omega) | apply Own.put | (refine Own.below ?_ ?_; rotate_left; assumption))); all_goals rfl) hb1
  have c1 := o1.cell
  have f1 := o1.free
  go_wp2
  refine bodyPost_ret (v := .tuple #[.agg #[.int .i64 0, .int .i64 0, .int .i64 0, .slice none 0 0], .bool false]) (by simp [results, Try.results16, go_sem, *]) rfl ?_
  exact ⟨none, 0, rfl, Sl.nil_ _ _, (by repeat (first | exact Below.refl _ _ | apply Below.drew | apply below_drewN | (refine Below.alloc ?_ ?_ _; rotate_left; (first | omega | (simp only [World.size_alloc, World.size_setCell, World.size_drew]; omega))) | (refine Below.setCell ?_ ?_ _; rotate_left; (first | omega | (simp only [World.size_alloc, World.size_setCell, World.size_drew]; omega))) | (refine below_step ?_ (by assumption) ?_; rotate_left; (first | omega | (simp only [World.size_alloc, World.size_setCell, World.size_drew]; omega))) | assumption)), by simp, by simp⟩

end Go.Proofs.Ytpdbiocegbimlaa
