/-
  The places of an image, row by row: what the iterator calls its body with.
-/
import Derived.Test.YtfeknaojnominaaSpI
import Derived.Test.YtfeknaojnominaaMix
import Derived.RangeFuncCalls
import Derived.TacticsIn
import Derived.RegionIn
namespace Go.Proofs.Ytfeknaojnominaa
open Go.RowKit
set_option linter.unusedVariables false
set_option linter.unusedSimpArgs false

attribute [local go_sem] Oper.semAt_some
theorem two_caps {w : World} {a b : Bool × List DV} {l : Array Value} (h : HoldsL w [a, b] l.toList) : ∃ x y, l = #[x, y] ∧ Holds1 w a x ∧ Holds1 w b y := by
  obtain ⟨l⟩ := l
  match l, h with
  | [x, y], h => exact ⟨x, y, rfl, h.1, h.2.1⟩
theorem box_int {w : World} {n : Int} {v : Value} (h : Holds1 w (true, [.int .i64 n]) v) : ∃ g, v = .pointer (some ⟨g, 0, none⟩) ∧ w.cell? ⟨g, 0, none⟩ = some (.int .i64 n) := by
  obtain ⟨g, e, h⟩ := h
  obtain ⟨u, hu, hc⟩ := h 0 _ rfl
  simp [DV.plain] at hu
  subst hu
  exact ⟨g, e, hc⟩

theorem RoundIn.any {n : Nat} {P : Program} {l : Nat} {f : FuncId} {tmps : Array Value} {assign body : Code} {w : World} {R : Ending → World → Prop} (h : RoundIn Fence.wide n P l f tmps assign body w R) (m : Nat) : RoundIn Fence.wide m P l f tmps assign body w R :=
  ⟨h.1, fun c cs _ => h.2 c cs (room_wide _)⟩
set_option maxRecDepth 100000 in
set_option maxHeartbeats 2000000 in
theorem places_iter (h w : Int) (hh : h ≤ 16777216) (hw : w ≤ 16777216) : AnsI Try.prog 64 [(true, [DV.int .i64 h]), (true, [DV.int .i64 w])] (w.toNat * h.toNat) (fun k => [DV.int .i64 ((k % w.toNat : Nat) : Int), DV.int .i64 ((k / w.toNat : Nat) : Int)]) := by
  intro lb l m J Jx hcap hd hdx hround W hJ
  obtain ⟨a, b, rfl, ha, hb⟩ := two_caps (hcap 0 W hJ)
  obtain ⟨gh, rfl, hch⟩ := box_int ha
  obtain ⟨gw, rfl, hcw⟩ := box_int hb
  have hc : ∀ k W, J k W → W.cell? ⟨gh, 0, none⟩ = some (.int .i64 h) ∧ W.cell? ⟨gw, 0, none⟩ = some (.int .i64 w) := fun k W hk => by
    obtain ⟨a, b, e, ha, hb⟩ := two_caps (hcap k W hk)
    obtain ⟨g1, rfl, h1⟩ := box_int ha
    obtain ⟨g2, rfl, h2⟩ := box_int hb
    simp at e
    obtain ⟨rfl, rfl⟩ := e
    exact ⟨h1, h2⟩
  refine callsIn_of_wp Try.func64 rfl trivial ?_ rfl
  simp only [Try.ntmps64, List.size_toArray, List.length_cons, List.length_nil, Nat.reduceAdd, Nat.reduceSub, Array.replicate_succ, Array.replicate_zero, List.push_toArray, List.append_toArray, List.nil_append, List.cons_append]
  gi_wp2
  gi_loopg [7] (h.toNat) (fun g t7 wr => ∃ y : Nat, y ≤ h.toNat ∧ g = h.toNat - y ∧ t7 = .int .i64 (y : Int) ∧ J (y * w.toNat) wr)
  case atStart => exact ⟨0, by omega, by omega, rfl, by simpa using hJ⟩
  obtain ⟨y, hy, rfl, rfl, hJy⟩ := hrel
  have hc1 := (hc _ _ hJy).1
  have hc2 := (hc _ _ hJy).2
  by_cases hlt : (y : Int) < h
  · gi_wp2
    gi_loopg [11] (w.toNat) (fun g t11 wr => ∃ x : Nat, x ≤ w.toNat ∧ g = w.toNat - x ∧ t11 = .int .i64 (x : Int) ∧ J (y * w.toNat + x) wr)
    case atStart => exact ⟨0, by omega, by omega, rfl, hJy⟩
    obtain ⟨x, hx, rfl, rfl, hJx⟩ := hrel
    by_cases hlx : (x : Int) < w
    · have hW : 0 < w.toNat := by omega
      have hk : y * w.toNat + x < w.toNat * h.toNat := by
        have h1 : (y + 1) * w.toNat ≤ h.toNat * w.toNat := Nat.mul_le_mul_right _ (by omega)
        rw [Nat.mul_comm w.toNat, Nat.add_mul] at *
        omega
      have e1 : (y * w.toNat + x) % w.toNat = x := by rw [Nat.add_comm, Nat.add_mul_mod_self_right, Nat.mod_eq_of_lt (by omega)]
      have e2 : (y * w.toNat + x) / w.toNat = y := by rw [Nat.add_comm, Nat.add_mul_div_right _ _ hW, Nat.div_eq_of_lt (by omega), Nat.zero_add]
      have hY := hround _ _ hk hJx
      simp only [e1, e2, encsOf, List.map_cons, List.map_nil, DV.plain, Option.getD_some] at hY
      obtain ⟨f1, t1, a1, b1, hy1, hR1⟩ := hY
      gi_wp2
      refine ⟨fun h => by (cases h), (RoundIn.any hR1 _).mono ?_⟩
      rintro e W1 (⟨rfl, hJ1⟩ | ⟨rfl, hx1⟩)
      · have w1 : IntKind.wrap .i64 ((x : Int) + 1) = ((x + 1 : Nat) : Int) := by rw [IntWalk.i64_in _ ⟨by omega, by omega⟩]; omega
        gi_wp2
        gi_roundg (w.toNat - (x + 1))
        · exact ⟨x + 1, by omega, rfl, by simp, hJ1⟩
        · omega
      · gi_wp2
        refine bodyPost_ret (results_none rfl _ _ _) rfl ?_
        exact ⟨⟨_, rfl⟩, .inr hx1⟩
    · gi_wp2
      gi_roundg (h.toNat - (y + 1))
      · have hx' : x = w.toNat := by omega
        exact ⟨y + 1, by omega, rfl, by simp, by rw [Nat.add_mul, Nat.one_mul]; rw [hx'] at hJx; exact hJx⟩
      · omega
  · have hy' : y = h.toNat := by omega
    gi_wp2
    go_end0
    exact ⟨⟨_, rfl⟩, .inl (by rw [Nat.mul_comm, ← hy']; exact hJy)⟩
end Go.Proofs.Ytfeknaojnominaa
