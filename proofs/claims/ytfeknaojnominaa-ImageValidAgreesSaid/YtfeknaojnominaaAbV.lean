/-
  A procedure's boxes under other names.
-/
import Derived.Test.YtfeknaojnominaaAbU
namespace Go.Proofs.Ytfeknaojnominaa
open Go.RowKit
set_option linter.unusedVariables false
set_option linter.unusedSimpArgs false

theorem boxes_shift {off : Nat} {ins : List Bx} {ρ : Nat → Nat} (b : Nat) : boxes (List.replicate off .fresh ++ ins.map (Bx.ren ρ)) (b + off) = (boxes ins b).ren ρ := by
  unfold boxes
  simp only [List.getD_eq_getElem?_getD]
  rw [List.getElem?_append_right (by simp), List.length_replicate, Nat.add_sub_cancel, List.getElem?_map]
  cases ins[b]? <;> rfl
theorem boxes_low {off : Nat} {l : List Bx} {b : Nat} (h : b < off) : boxes (List.replicate off .fresh ++ l) b = .fresh := by
  unfold boxes
  simp only [List.getD_eq_getElem?_getD]
  rw [List.getElem?_append_left (by simpa using h)]
  simp [h]
theorem AnsG.shift {P : Program} {f : FuncId} {args : List AV} {ins : List Bx} {r : Ret} (off : Nat) (h : AnsG P f 0 (AV.renL (· + off) args) (List.replicate off .fresh ++ ins.map (Bx.ren (· + off))) r) : AnsG P f 0 args ins r := by
  intro w S ι vs hh
  have hlo : ∀ b, (boxes (List.replicate off .fresh ++ ins.map (Bx.ren (· + off))) b).live = true → ∃ b', b = b' + off ∧ (boxes ins b').live = true := fun b hl => by
    by_cases e : b < off
    · rw [boxes_low e] at hl; cases hl
    · refine ⟨b - off, by omega, ?_⟩
      have := boxes_shift (off := off) (ins := ins) (ρ := (· + off)) (b - off)
      rw [show b - off + off = b from by omega] at this
      rw [this, Bx.ren_live] at hl
      exact hl
  have hι : ∀ b, (fun b => if b < off then none else ι (b - off)) (b + off) = ι b := fun b => by
    simp only
    rw [if_neg (by omega), Nat.add_sub_cancel]
  have hturn : ∀ b, Turns ι (boxes ins) (fun b => if b < off then none else ι (b - off)) (boxes (List.replicate off .fresh ++ ins.map (Bx.ren (· + off)))) (· + off) b := fun b hk => ⟨hι b, by
    rw [boxes_shift, Bx.ren_known]; exact hk⟩
  have hown : OwnB (boxes (List.replicate off .fresh ++ ins.map (Bx.ren (· + off)))) (fun b => if b < off then none else ι (b - off)) = OwnB (boxes ins) ι := by
    funext g
    refine propext ⟨fun ⟨b, c, hl, e⟩ => ?_, fun ⟨b, c, hl, e⟩ => ?_⟩
    · obtain ⟨b', rfl, hl'⟩ := hlo b hl
      exact ⟨b', c, hl', by rw [← hι b']; exact e⟩
    · exact ⟨b + off, c, by rw [boxes_shift, Bx.ren_live]; exact hl, by rw [hι]; exact e⟩
  have hh2 : Handed_ w S (fun b => if b < off then none else ι (b - off)) (AV.renL (· + off) args) (List.replicate off .fresh ++ ins.map (Bx.ren (· + off))) vs.toList := by
    refine ⟨fun b g c hl e => ?_, fun b b2 g c c' hl hl2 hne e => ?_, fun b => ?_, hh.args.turn fun b _ => hturn b⟩
    · obtain ⟨b', rfl, hl'⟩ := hlo b hl
      exact hh.own b' g c hl' (by rw [← hι b']; exact e)
    · obtain ⟨b', rfl, hl'⟩ := hlo b hl
      obtain ⟨b2', rfl, hl2'⟩ := hlo b2 hl2
      have := hh.dist b' b2' g c c' hl' hl2' (by omega) (by rw [← hι b']; exact e)
      rw [← hι b2'] at this
      exact this
    · by_cases e : b < off
      · rw [boxes_low e]; trivial
      · obtain ⟨b', rfl⟩ : ∃ b', b = b' + off := ⟨b - off, by omega⟩
        rw [boxes_shift]
        exact (hh.bx b').turn (hι b') fun x _ => hturn x
  have hc := h w S _ vs hh2
  refine hc.mono fun ed w' hp => ?_
  obtain ⟨v, ι', rfl, ha⟩ := hp
  have hb : Behind w S (fun b => if b < off then none else ι (b - off)) (List.replicate off .fresh ++ ins.map (Bx.ren (· + off))) r ι' = Behind w S ι ins r ι' := by
    unfold Behind
    rw [hown]
  refine ⟨v, ι', rfl, ?_, ?_, ?_, ha.dist, fun b hb => absurd hb (by omega), ?_⟩
  · rw [← hb]; exact ha.rep
  · rw [← hb]; exact ha.bx
  · rw [← hown]; exact ha.own
  · rw [← hown]; exact ha.bel
end Go.Proofs.Ytfeknaojnominaa
