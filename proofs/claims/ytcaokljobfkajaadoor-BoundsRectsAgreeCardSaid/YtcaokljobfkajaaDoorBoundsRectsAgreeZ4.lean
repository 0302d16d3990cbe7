/-
  Part 4 of what BoundsRectsAgree rests on.
-/
import Derived.Test.YtcaokljobfkajaaDoorBoundsRectsAgreeZ3
import Derived.Test.YtcaokljobfkajaaDoorBoundsRectsAgreeZ2
import Derived.RangeFuncCalls
import Derived.TacticsIn
import Derived.RegionIn
/-
  What the generator makes of numbers: operations.
-/
namespace Go.Proofs.YtcaokljobfkajaaDoor
open Go.RowKit
set_option linter.unusedVariables false
set_option linter.unusedSimpArgs false
attribute [local irreducible] Ans AnsO AnsG AnsN AnsI

set_option maxRecDepth 4000
def gamSa : Gam where
 pure := fun f xs =>
  if f = 9 then (match xs with | [.d (.int _ n), .d (.int _ k)] => some (RV.d (DV.int .i64 (modS n k))) | _ => none) else
  if f = 28 then (match xs with | [.d (.int _ n), .d (.int _ most)] => some (RV.d (DV.int .u16 (gSample n most))) | _ => none) else
  if f = 27 then (match xs with | [.d (.int _ n), .d (.int _ corner)] => some (RV.d (DV.int .i64 (gOff n corner))) | _ => none) else
  if f = 8 then (match xs with | [.agg [.int _ vk, .int _ vim, .int _ vx, .int _ vy, .int _ vma, .int _ vmx, .int _ vmy, .int _ vop, .int _ vope, .int _ vmo, .int _ vfl], .d (.bool push), .d (.int _ imgs), .agg [.int _ ca, .int _ cb, .int _ cc, .int _ cd], .d (.bool free), .d (.int _ most)] => some (RV.agg [DV.int .i64 ((gOp ⟨vk, vim, vx, vy, vma, vmx, vmy, vop, vope, vmo, vfl⟩ push imgs ⟨ca, cb, cc, cd⟩ free most).kind), DV.int .i64 ((gOp ⟨vk, vim, vx, vy, vma, vmx, vmy, vop, vope, vmo, vfl⟩ push imgs ⟨ca, cb, cc, cd⟩ free most).image), DV.int .i64 ((gOp ⟨vk, vim, vx, vy, vma, vmx, vmy, vop, vope, vmo, vfl⟩ push imgs ⟨ca, cb, cc, cd⟩ free most).x), DV.int .i64 ((gOp ⟨vk, vim, vx, vy, vma, vmx, vmy, vop, vope, vmo, vfl⟩ push imgs ⟨ca, cb, cc, cd⟩ free most).y), DV.int .i64 ((gOp ⟨vk, vim, vx, vy, vma, vmx, vmy, vop, vope, vmo, vfl⟩ push imgs ⟨ca, cb, cc, cd⟩ free most).mask), DV.int .i64 ((gOp ⟨vk, vim, vx, vy, vma, vmx, vmy, vop, vope, vmo, vfl⟩ push imgs ⟨ca, cb, cc, cd⟩ free most).mx), DV.int .i64 ((gOp ⟨vk, vim, vx, vy, vma, vmx, vmy, vop, vope, vmo, vfl⟩ push imgs ⟨ca, cb, cc, cd⟩ free most).my), DV.int .u16 ((gOp ⟨vk, vim, vx, vy, vma, vmx, vmy, vop, vope, vmo, vfl⟩ push imgs ⟨ca, cb, cc, cd⟩ free most).opac), DV.int .i64 ((gOp ⟨vk, vim, vx, vy, vma, vmx, vmy, vop, vope, vmo, vfl⟩ push imgs ⟨ca, cb, cc, cd⟩ free most).oper), DV.int .i64 ((gOp ⟨vk, vim, vx, vy, vma, vmx, vmy, vop, vope, vmo, vfl⟩ push imgs ⟨ca, cb, cc, cd⟩ free most).mode), DV.bool ((gOp ⟨vk, vim, vx, vy, vma, vmx, vmy, vop, vope, vmo, vfl⟩ push imgs ⟨ca, cb, cc, cd⟩ free most).iso), DV.bool ((gOp ⟨vk, vim, vx, vy, vma, vmx, vmy, vop, vope, vmo, vfl⟩ push imgs ⟨ca, cb, cc, cd⟩ free most).kno)]) | _ => none) else
  none
 modes := fun f =>
  none
 proc := fun f xs bs =>
  none
 iter := fun f cs =>
  none

def G_offset_ann (n : Int) (corner : Int) : Ann := Ann.leaf
theorem G_offset_vc (n : Int) (corner : Int) : vcg Tryd.prog gamSa 15 (bodyOf Tryd.f27) (G_offset_ann n corner) kn0 (start [RV.d (DV.int .i64 n), RV.d (DV.int .i64 corner)]) (post Tryd.prog Tryd.f27.results.toList (· = RV.d (DV.int .i64 (gOff n corner)))) =
  (let zz0 := (DV.int .i64 (gOff n corner)); let zz1 := (IntKind.wrap .i64 (Int.tdiv n (3 : Int))); True ∧ True ∧ (Ans Tryd.prog 9 [RV.d (DV.int .i64 n), RV.d (DV.int .i64 3)] (RV.d (DV.int .i64 (modS n (3 : Int))))) ∧ True ∧ ((((modS n (3 : Int)) == (0 : Int)) = true → True ∧ True ∧ RV.d (DV.int .i64 corner) = RV.d zz0) ∧ (((modS n (3 : Int)) == (0 : Int)) = false → True ∧ True ∧ ((3 : Int) ≠ 0) ∧ (Ans Tryd.prog 9 [RV.d (DV.int .i64 zz1), RV.d (DV.int .i64 9)] (RV.d (DV.int .i64 (modS zz1 (9 : Int))))) ∧ True ∧ True ∧ True ∧ RV.d (DV.int .i64 (IntKind.wrap .i64 ((IntKind.wrap .i64 (corner + (modS zz1 (9 : Int)))) - (4 : Int)))) = RV.d zz0))) := by kernel_rfl
theorem G_offset_ans (n : Int) (corner : Int) (hc : -100 ≤ corner ∧ corner ≤ 100) : Ans Tryd.prog 27 [RV.d (DV.int .i64 n), RV.d (DV.int .i64 corner)] (RV.d (DV.int .i64 (gOff n corner))) :=
  ans_of_vcg (Γ := gamSa) (G_offset_ann n corner) mixed_ Tryd.func27 rfl (Nat.le_of_ble_eq_true rfl) fun hwf => by
    refine Eq.mpr (G_offset_vc n corner) ?_
    simp only [true_and, and_true, RV.d.injEq, RV.agg.injEq, RV.tup.injEq, DV.bool.injEq, DV.int.injEq, DV.sl.injEq, List.cons.injEq, forall_const, Bool.not_false, Bool.not_true, Bool.not_eq_true', Bool.not_eq_false', decide_eq_true_eq, decide_eq_false_iff_not, Int.toNat_natCast, G_Mod_ans, G_Sample_ans]
    have b := @modS_in (IntKind.wrap .i64 (Int.tdiv n 3)) 9 (by omega) (by omega)
    unfold gOff
    have w1 : IntKind.wrap .i64 (corner + modS (IntKind.wrap .i64 (Int.tdiv n 3)) 9) = corner + modS (IntKind.wrap .i64 (Int.tdiv n 3)) 9 := IntWalk.i64_in _ ⟨by omega, by omega⟩
    have w2 : IntKind.wrap .i64 (corner + modS (IntKind.wrap .i64 (Int.tdiv n 3)) 9 - 4) = corner + modS (IntKind.wrap .i64 (Int.tdiv n 3)) 9 - 4 := IntWalk.i64_in _ ⟨by omega, by omega⟩
    simp only [w1, w2]
    refine ⟨fun h => ?_, fun h => ⟨by decide, ?_⟩⟩
    · rw [if_pos (by simpa using h)]
    · rw [if_neg (by simpa using h)]

def G_Op_ann (r : Rw) (push : Bool) (imgs : Int) (c : Rc) (free : Bool) (most : Int) : Ann := let zz0 := (4, AV.one (Cl.d (DV.bool free))); let zz1 := (5, AV.one (Cl.d (DV.int .u16 most))); let zz2 := (6, Bx.cells [Cl.d (DV.int .i64 r.k), Cl.d (DV.int .i64 r.im), Cl.d (DV.int .i64 r.x), Cl.d (DV.int .i64 r.y), Cl.d (DV.int .i64 r.ma), Cl.d (DV.int .i64 r.mx), Cl.d (DV.int .i64 r.my), Cl.d (DV.int .i64 r.op), Cl.d (DV.int .i64 r.ope), Cl.d (DV.int .i64 r.mo), Cl.d (DV.int .i64 r.fl)]); let zz3 := (12, Bx.cells [Cl.d (DV.int .i64 0), Cl.d (DV.int .i64 0), Cl.d (DV.int .i64 0), Cl.d (DV.int .i64 0), Cl.d (DV.int .i64 0), Cl.d (DV.int .i64 0), Cl.d (DV.int .i64 0), Cl.d (DV.int .u16 0), Cl.d (DV.int .i64 0), Cl.d (DV.int .i64 0), Cl.d (DV.bool false), Cl.d (DV.bool false)]); let zz4 := [zz0, (6, AV.one (Cl.ptr 6 0)), (12, AV.one (Cl.ptr 12 0)), (13, AV.one (Cl.ptr 13 0))]; (Ann.seq Ann.leaf (Ann.seq Ann.leaf (Ann.cut ⟨Oq, fun q1 : Oq => q1 = ⟨(gOp r push imgs c free most).kind, (gOp r push imgs c free most).image, (gOp r push imgs c free most).x, (gOp r push imgs c free most).y, 0, 0, 0, most, 4, 1, (gOp r push imgs c free most).iso, (gOp r push imgs c free most).kno⟩, fun q1 : Oq => ⟨[(2, AV.one (Cl.d (DV.int .i64 imgs))), zz0, zz1, (6, AV.one (Cl.ptr 6 0)), (9, AV.one (Cl.ptr 9 0)), (12, AV.one (Cl.ptr 12 0)), (13, AV.one (Cl.ptr 13 0))], [zz2, (9, Bx.cells [Cl.d (DV.int .i64 c.a), Cl.d (DV.int .i64 c.b), Cl.d (DV.int .i64 c.c), Cl.d (DV.int .i64 c.d)]), zz3, (13, Bx.cells [Cl.d (DV.int .i64 q1.kind), Cl.d (DV.int .i64 q1.image), Cl.d (DV.int .i64 q1.x), Cl.d (DV.int .i64 q1.y), Cl.d (DV.int .i64 q1.mask), Cl.d (DV.int .i64 q1.mx), Cl.d (DV.int .i64 q1.my), Cl.d (DV.int .u16 q1.opac), Cl.d (DV.int .i64 q1.oper), Cl.d (DV.int .i64 q1.mode), Cl.d (DV.bool q1.iso), Cl.d (DV.bool q1.kno)])]⟩, fun q1 : Oq => 0⟩ Ann.leaf fun q1 => (Ann.cut ⟨Oq, fun q2 : Oq => q2 = ⟨(gOp r push imgs c free most).kind, (gOp r push imgs c free most).image, (gOp r push imgs c free most).x, (gOp r push imgs c free most).y, (gOp r push imgs c free most).mask, (gOp r push imgs c free most).mx, (gOp r push imgs c free most).my, most, 4, 1, (gOp r push imgs c free most).iso, (gOp r push imgs c free most).kno⟩, fun q2 : Oq => ⟨[zz0, zz1, (6, AV.one (Cl.ptr 6 0)), (12, AV.one (Cl.ptr 12 0)), (13, AV.one (Cl.ptr 13 0))], [zz2, zz3, (13, Bx.cells [Cl.d (DV.int .i64 q2.kind), Cl.d (DV.int .i64 q2.image), Cl.d (DV.int .i64 q2.x), Cl.d (DV.int .i64 q2.y), Cl.d (DV.int .i64 q2.mask), Cl.d (DV.int .i64 q2.mx), Cl.d (DV.int .i64 q2.my), Cl.d (DV.int .u16 q2.opac), Cl.d (DV.int .i64 q2.oper), Cl.d (DV.int .i64 q2.mode), Cl.d (DV.bool q2.iso), Cl.d (DV.bool q2.kno)])]⟩, fun q2 : Oq => 0⟩ Ann.leaf fun q2 => (Ann.cut ⟨Oq, fun q3 : Oq => q3 = ⟨(gOp r push imgs c free most).kind, (gOp r push imgs c free most).image, (gOp r push imgs c free most).x, (gOp r push imgs c free most).y, (gOp r push imgs c free most).mask, (gOp r push imgs c free most).mx, (gOp r push imgs c free most).my, (gOp r push imgs c free most).opac, 4, 1, (gOp r push imgs c free most).iso, (gOp r push imgs c free most).kno⟩, fun q3 : Oq => ⟨zz4, [zz2, zz3, (13, Bx.cells [Cl.d (DV.int .i64 q3.kind), Cl.d (DV.int .i64 q3.image), Cl.d (DV.int .i64 q3.x), Cl.d (DV.int .i64 q3.y), Cl.d (DV.int .i64 q3.mask), Cl.d (DV.int .i64 q3.mx), Cl.d (DV.int .i64 q3.my), Cl.d (DV.int .u16 q3.opac), Cl.d (DV.int .i64 q3.oper), Cl.d (DV.int .i64 q3.mode), Cl.d (DV.bool q3.iso), Cl.d (DV.bool q3.kno)])]⟩, fun q3 : Oq => 0⟩ Ann.leaf fun q3 => (Ann.cut ⟨Oq, fun q4 : Oq => q4 = ⟨(gOp r push imgs c free most).kind, (gOp r push imgs c free most).image, (gOp r push imgs c free most).x, (gOp r push imgs c free most).y, (gOp r push imgs c free most).mask, (gOp r push imgs c free most).mx, (gOp r push imgs c free most).my, (gOp r push imgs c free most).opac, 4, (gOp r push imgs c free most).mode, (gOp r push imgs c free most).iso, (gOp r push imgs c free most).kno⟩, fun q4 : Oq => ⟨zz4, [zz2, zz3, (13, Bx.cells [Cl.d (DV.int .i64 q4.kind), Cl.d (DV.int .i64 q4.image), Cl.d (DV.int .i64 q4.x), Cl.d (DV.int .i64 q4.y), Cl.d (DV.int .i64 q4.mask), Cl.d (DV.int .i64 q4.mx), Cl.d (DV.int .i64 q4.my), Cl.d (DV.int .u16 q4.opac), Cl.d (DV.int .i64 q4.oper), Cl.d (DV.int .i64 q4.mode), Cl.d (DV.bool q4.iso), Cl.d (DV.bool q4.kno)])]⟩, fun q4 : Oq => 0⟩ Ann.leaf fun q4 => Ann.leaf))))))
theorem G_Op_vc (r : Rw) (push : Bool) (imgs : Int) (c : Rc) (free : Bool) (most : Int) : vcg Tryd.prog gamSa 103 (bodyOf Tryd.f8) (G_Op_ann r push imgs c free most) kn0 (start [RV.agg [DV.int .i64 r.k, DV.int .i64 r.im, DV.int .i64 r.x, DV.int .i64 r.y, DV.int .i64 r.ma, DV.int .i64 r.mx, DV.int .i64 r.my, DV.int .i64 r.op, DV.int .i64 r.ope, DV.int .i64 r.mo, DV.int .i64 r.fl], RV.d (DV.bool push), RV.d (DV.int .i64 imgs), RV.agg [DV.int .i64 c.a, DV.int .i64 c.b, DV.int .i64 c.c, DV.int .i64 c.d], RV.d (DV.bool free), RV.d (DV.int .u16 most)]) (post Tryd.prog Tryd.f8.results.toList (· = RV.agg [DV.int .i64 ((gOp r push imgs c free most).kind), DV.int .i64 ((gOp r push imgs c free most).image), DV.int .i64 ((gOp r push imgs c free most).x), DV.int .i64 ((gOp r push imgs c free most).y), DV.int .i64 ((gOp r push imgs c free most).mask), DV.int .i64 ((gOp r push imgs c free most).mx), DV.int .i64 ((gOp r push imgs c free most).my), DV.int .u16 ((gOp r push imgs c free most).opac), DV.int .i64 ((gOp r push imgs c free most).oper), DV.int .i64 ((gOp r push imgs c free most).mode), DV.bool ((gOp r push imgs c free most).iso), DV.bool ((gOp r push imgs c free most).kno)])) =
  (let zz0 := (IntKind.wrap .i64 (Int.tdiv r.fl (2 : Int))); let zz1 := fun (q1 : Oq) => (q1 = ⟨(gOp r push imgs c free most).kind, (gOp r push imgs c free most).image, (gOp r push imgs c free most).x, (gOp r push imgs c free most).y, 0, 0, 0, most, 4, 1, (gOp r push imgs c free most).iso, (gOp r push imgs c free most).kno⟩); let zz2 := (DV.bool free = DV.bool free); let zz3 := (DV.int .u16 most = DV.int .u16 most); let zz4 := ((DV.int .i64 imgs = DV.int .i64 imgs) ∧ zz2 ∧ zz3 ∧ (0 = 0) ∧ (0 = 0) ∧ (0 = 0) ∧ (0 = 0) ∧ True); let zz5 := [DV.int .i64 r.k, DV.int .i64 r.im, DV.int .i64 r.x, DV.int .i64 r.y, DV.int .i64 r.ma, DV.int .i64 r.mx, DV.int .i64 r.my, DV.int .i64 r.op, DV.int .i64 r.ope, DV.int .i64 r.mo, DV.int .i64 r.fl]; let zz6 := (zz5 = zz5); let zz7 := [DV.int .i64 c.a, DV.int .i64 c.b, DV.int .i64 c.c, DV.int .i64 c.d]; let zz8 := (zz7 = zz7); let zz9 := [DV.int .i64 0, DV.int .i64 0, DV.int .i64 0, DV.int .i64 0, DV.int .i64 0, DV.int .i64 0, DV.int .i64 0, DV.int .u16 0, DV.int .i64 0, DV.int .i64 0, DV.bool false, DV.bool false]; let zz10 := (zz9 = zz9); let zz11 := fun (q1 : Oq) => [DV.int .i64 q1.kind, DV.int .i64 q1.image, DV.int .i64 q1.x, DV.int .i64 q1.y, DV.int .i64 q1.mask, DV.int .i64 q1.mx, DV.int .i64 q1.my, DV.int .u16 q1.opac, DV.int .i64 q1.oper, DV.int .i64 q1.mode, DV.bool q1.iso, DV.bool q1.kno]; let zz12 := (IntKind.wrap .i64 (Int.tdiv r.ma (4 : Int))); let zz13 := fun (q2 : Oq) => (q2 = ⟨(gOp r push imgs c free most).kind, (gOp r push imgs c free most).image, (gOp r push imgs c free most).x, (gOp r push imgs c free most).y, (gOp r push imgs c free most).mask, (gOp r push imgs c free most).mx, (gOp r push imgs c free most).my, most, 4, 1, (gOp r push imgs c free most).iso, (gOp r push imgs c free most).kno⟩); let zz14 := (zz2 ∧ zz3 ∧ (0 = 0) ∧ (0 = 0) ∧ (0 = 0) ∧ True); let zz15 := fun (q2 : Oq) => [DV.int .i64 q2.kind, DV.int .i64 q2.image, DV.int .i64 q2.x, DV.int .i64 q2.y, DV.int .i64 q2.mask, DV.int .i64 q2.mx, DV.int .i64 q2.my, DV.int .u16 q2.opac, DV.int .i64 q2.oper, DV.int .i64 q2.mode, DV.bool q2.iso, DV.bool q2.kno]; let zz16 := (IntKind.wrap .i64 (Int.tdiv r.op (2 : Int))); let zz17 := fun (q3 : Oq) => (q3 = ⟨(gOp r push imgs c free most).kind, (gOp r push imgs c free most).image, (gOp r push imgs c free most).x, (gOp r push imgs c free most).y, (gOp r push imgs c free most).mask, (gOp r push imgs c free most).mx, (gOp r push imgs c free most).my, (gOp r push imgs c free most).opac, 4, 1, (gOp r push imgs c free most).iso, (gOp r push imgs c free most).kno⟩); let zz18 := (zz2 ∧ (0 = 0) ∧ (0 = 0) ∧ (0 = 0) ∧ True); let zz19 := fun (q3 : Oq) => [DV.int .i64 q3.kind, DV.int .i64 q3.image, DV.int .i64 q3.x, DV.int .i64 q3.y, DV.int .i64 q3.mask, DV.int .i64 q3.mx, DV.int .i64 q3.my, DV.int .u16 q3.opac, DV.int .i64 q3.oper, DV.int .i64 q3.mode, DV.bool q3.iso, DV.bool q3.kno]; let zz20 := (IntKind.wrap .i64 (Int.tdiv r.mo (2 : Int))); let zz21 := fun (q4 : Oq) => (q4 = ⟨(gOp r push imgs c free most).kind, (gOp r push imgs c free most).image, (gOp r push imgs c free most).x, (gOp r push imgs c free most).y, (gOp r push imgs c free most).mask, (gOp r push imgs c free most).mx, (gOp r push imgs c free most).my, (gOp r push imgs c free most).opac, 4, (gOp r push imgs c free most).mode, (gOp r push imgs c free most).iso, (gOp r push imgs c free most).kno⟩); let zz22 := fun (q4 : Oq) => [DV.int .i64 q4.kind, DV.int .i64 q4.image, DV.int .i64 q4.x, DV.int .i64 q4.y, DV.int .i64 q4.mask, DV.int .i64 q4.mx, DV.int .i64 q4.my, DV.int .u16 q4.opac, DV.int .i64 q4.oper, DV.int .i64 q4.mode, DV.bool q4.iso, DV.bool q4.kno]; let zz23 := (IntKind.wrap .i64 (Int.tdiv r.ope (2 : Int))); let zz24 := [DV.int .i64 ((gOp r push imgs c free most).kind), DV.int .i64 ((gOp r push imgs c free most).image), DV.int .i64 ((gOp r push imgs c free most).x), DV.int .i64 ((gOp r push imgs c free most).y), DV.int .i64 ((gOp r push imgs c free most).mask), DV.int .i64 ((gOp r push imgs c free most).mx), DV.int .i64 ((gOp r push imgs c free most).my), DV.int .u16 ((gOp r push imgs c free most).opac), DV.int .i64 ((gOp r push imgs c free most).oper), DV.int .i64 ((gOp r push imgs c free most).mode), DV.bool ((gOp r push imgs c free most).iso), DV.bool ((gOp r push imgs c free most).kno)]; True ∧ True ∧ True ∧ True ∧ True ∧ True ∧ True ∧ (True ∧ ((push = true → True ∧ True ∧ True ∧ True ∧ (Ans Tryd.prog 9 [RV.d (DV.int .i64 r.fl), RV.d (DV.int .i64 2)] (RV.d (DV.int .i64 (modS r.fl (2 : Int))))) ∧ True ∧ True ∧ True ∧ ((2 : Int) ≠ 0) ∧ (Ans Tryd.prog 9 [RV.d (DV.int .i64 zz0), RV.d (DV.int .i64 3)] (RV.d (DV.int .i64 (modS zz0 (3 : Int))))) ∧ True ∧ True ∧ True ∧ True ∧ True ∧ (true = true) ∧ ∃ q1 : Oq, (zz1 q1) ∧ (zz4 ∧ (zz6 ∧ zz8 ∧ zz10 ∧ ([DV.int .i64 2, DV.int .i64 0, DV.int .i64 0, DV.int .i64 0, DV.int .i64 0, DV.int .i64 0, DV.int .i64 0, DV.int .u16 most, DV.int .i64 4, DV.int .i64 1, DV.bool ((modS r.fl (2 : Int)) == (0 : Int)), DV.bool ((modS zz0 (3 : Int)) == (0 : Int))] = (zz11 q1)) ∧ True))) ∧ (push = false → True ∧ True ∧ True ∧ (Ans Tryd.prog 9 [RV.d (DV.int .i64 r.im), RV.d (DV.int .i64 imgs)] (RV.d (DV.int .i64 (modS r.im imgs)))) ∧ True ∧ True ∧ True ∧ True ∧ True ∧ True ∧ (Ans Tryd.prog 27 [RV.d (DV.int .i64 r.x), RV.d (DV.int .i64 c.a)] (RV.d (DV.int .i64 (gOff r.x c.a)))) ∧ True ∧ True ∧ True ∧ True ∧ (Ans Tryd.prog 27 [RV.d (DV.int .i64 r.y), RV.d (DV.int .i64 c.b)] (RV.d (DV.int .i64 (gOff r.y c.b)))) ∧ True ∧ True ∧ True ∧ True ∧ (true = true) ∧ ∃ q1 : Oq, (zz1 q1) ∧ (zz4 ∧ (zz6 ∧ zz8 ∧ zz10 ∧ ([DV.int .i64 1, DV.int .i64 (modS r.im imgs), DV.int .i64 (gOff r.x c.a), DV.int .i64 (gOff r.y c.b), DV.int .i64 0, DV.int .i64 0, DV.int .i64 0, DV.int .u16 most, DV.int .i64 4, DV.int .i64 1, DV.bool false, DV.bool false] = (zz11 q1)) ∧ True))))) ∧ ∀ q1 : Oq, (zz1 q1) → (True ∧ True ∧ (Ans Tryd.prog 9 [RV.d (DV.int .i64 r.ma), RV.d (DV.int .i64 4)] (RV.d (DV.int .i64 (modS r.ma (4 : Int))))) ∧ True ∧ ((((modS r.ma (4 : Int)) == (0 : Int)) = true → True ∧ True ∧ ((4 : Int) ≠ 0) ∧ True ∧ (Ans Tryd.prog 9 [RV.d (DV.int .i64 zz12), RV.d (DV.int .i64 imgs)] (RV.d (DV.int .i64 (modS zz12 imgs)))) ∧ True ∧ True ∧ True ∧ True ∧ True ∧ True ∧ True ∧ (Ans Tryd.prog 27 [RV.d (DV.int .i64 r.mx), RV.d (DV.int .i64 c.a)] (RV.d (DV.int .i64 (gOff r.mx c.a)))) ∧ True ∧ True ∧ True ∧ True ∧ (Ans Tryd.prog 27 [RV.d (DV.int .i64 r.my), RV.d (DV.int .i64 c.b)] (RV.d (DV.int .i64 (gOff r.my c.b)))) ∧ True ∧ True ∧ True ∧ True ∧ (true = true) ∧ ∃ q2 : Oq, (zz13 q2) ∧ (zz14 ∧ (zz6 ∧ zz10 ∧ ([DV.int .i64 q1.kind, DV.int .i64 q1.image, DV.int .i64 q1.x, DV.int .i64 q1.y, DV.int .i64 (IntKind.wrap .i64 ((1 : Int) + (modS zz12 imgs))), DV.int .i64 (gOff r.mx c.a), DV.int .i64 (gOff r.my c.b), DV.int .u16 q1.opac, DV.int .i64 q1.oper, DV.int .i64 q1.mode, DV.bool q1.iso, DV.bool q1.kno] = (zz15 q2)) ∧ True))) ∧ (((modS r.ma (4 : Int)) == (0 : Int)) = false → ∃ q2 : Oq, (zz13 q2) ∧ (zz14 ∧ (zz6 ∧ zz10 ∧ ((zz11 q1) = (zz15 q2)) ∧ True))))) ∧ ∀ q2 : Oq, (zz13 q2) → (True ∧ True ∧ (Ans Tryd.prog 9 [RV.d (DV.int .i64 r.op), RV.d (DV.int .i64 2)] (RV.d (DV.int .i64 (modS r.op (2 : Int))))) ∧ True ∧ ((((modS r.op (2 : Int)) == (0 : Int)) = true → True ∧ True ∧ ((2 : Int) ≠ 0) ∧ True ∧ (Ans Tryd.prog 28 [RV.d (DV.int .i64 zz16), RV.d (DV.int .u16 most)] (RV.d (DV.int .u16 (gSample zz16 most)))) ∧ True ∧ True ∧ ∃ q3 : Oq, (zz17 q3) ∧ (zz18 ∧ (zz6 ∧ zz10 ∧ ([DV.int .i64 q2.kind, DV.int .i64 q2.image, DV.int .i64 q2.x, DV.int .i64 q2.y, DV.int .i64 q2.mask, DV.int .i64 q2.mx, DV.int .i64 q2.my, DV.int .u16 (gSample zz16 most), DV.int .i64 q2.oper, DV.int .i64 q2.mode, DV.bool q2.iso, DV.bool q2.kno] = (zz19 q3)) ∧ True))) ∧ (((modS r.op (2 : Int)) == (0 : Int)) = false → ∃ q3 : Oq, (zz17 q3) ∧ (zz18 ∧ (zz6 ∧ zz10 ∧ ((zz15 q2) = (zz19 q3)) ∧ True))))) ∧ ∀ q3 : Oq, (zz17 q3) → (True ∧ True ∧ (Ans Tryd.prog 9 [RV.d (DV.int .i64 r.mo), RV.d (DV.int .i64 2)] (RV.d (DV.int .i64 (modS r.mo (2 : Int))))) ∧ True ∧ ((((modS r.mo (2 : Int)) == (0 : Int)) = true → True ∧ True ∧ ((2 : Int) ≠ 0) ∧ (Ans Tryd.prog 9 [RV.d (DV.int .i64 zz20), RV.d (DV.int .i64 12)] (RV.d (DV.int .i64 (modS zz20 (12 : Int))))) ∧ True ∧ True ∧ True ∧ ∃ q4 : Oq, (zz21 q4) ∧ (zz18 ∧ (zz6 ∧ zz10 ∧ ([DV.int .i64 q3.kind, DV.int .i64 q3.image, DV.int .i64 q3.x, DV.int .i64 q3.y, DV.int .i64 q3.mask, DV.int .i64 q3.mx, DV.int .i64 q3.my, DV.int .u16 q3.opac, DV.int .i64 q3.oper, DV.int .i64 (IntKind.wrap .i64 ((1 : Int) + (modS zz20 (12 : Int)))), DV.bool q3.iso, DV.bool q3.kno] = (zz22 q4)) ∧ True))) ∧ (((modS r.mo (2 : Int)) == (0 : Int)) = false → ∃ q4 : Oq, (zz21 q4) ∧ (zz18 ∧ (zz6 ∧ zz10 ∧ ((zz19 q3) = (zz22 q4)) ∧ True))))) ∧ ∀ q4 : Oq, (zz21 q4) → True ∧ True ∧ ((free = true → True ∧ True ∧ (Ans Tryd.prog 9 [RV.d (DV.int .i64 r.ope), RV.d (DV.int .i64 2)] (RV.d (DV.int .i64 (modS r.ope (2 : Int))))) ∧ True ∧ True ∧ ((((modS r.ope (2 : Int)) == (0 : Int)) = true → True ∧ True ∧ ((2 : Int) ≠ 0) ∧ (Ans Tryd.prog 9 [RV.d (DV.int .i64 zz23), RV.d (DV.int .i64 12)] (RV.d (DV.int .i64 (modS zz23 (12 : Int))))) ∧ True ∧ True ∧ True ∧ True ∧ True ∧ RV.agg [DV.int .i64 q4.kind, DV.int .i64 q4.image, DV.int .i64 q4.x, DV.int .i64 q4.y, DV.int .i64 q4.mask, DV.int .i64 q4.mx, DV.int .i64 q4.my, DV.int .u16 q4.opac, DV.int .i64 (IntKind.wrap .i64 ((1 : Int) + (modS zz23 (12 : Int)))), DV.int .i64 q4.mode, DV.bool q4.iso, DV.bool q4.kno] = RV.agg zz24) ∧ (((modS r.ope (2 : Int)) == (0 : Int)) = false → True ∧ True ∧ RV.agg (zz22 q4) = RV.agg zz24))) ∧ (free = (!true) → True ∧ True ∧ True ∧ RV.agg (zz22 q4) = RV.agg zz24))) := by kernel_rfl
theorem G_Op_ans (r : Rw) (push : Bool) (imgs : Int) (c : Rc) (free : Bool) (most : Int) (hc : (-100 ≤ c.a ∧ c.a ≤ 100) ∧ -100 ≤ c.b ∧ c.b ≤ 100) (hi : 1 ≤ imgs ∧ imgs ≤ 100) : Ans Tryd.prog 8 [RV.agg [DV.int .i64 r.k, DV.int .i64 r.im, DV.int .i64 r.x, DV.int .i64 r.y, DV.int .i64 r.ma, DV.int .i64 r.mx, DV.int .i64 r.my, DV.int .i64 r.op, DV.int .i64 r.ope, DV.int .i64 r.mo, DV.int .i64 r.fl], RV.d (DV.bool push), RV.d (DV.int .i64 imgs), RV.agg [DV.int .i64 c.a, DV.int .i64 c.b, DV.int .i64 c.c, DV.int .i64 c.d], RV.d (DV.bool free), RV.d (DV.int .u16 most)] (RV.agg [DV.int .i64 ((gOp r push imgs c free most).kind), DV.int .i64 ((gOp r push imgs c free most).image), DV.int .i64 ((gOp r push imgs c free most).x), DV.int .i64 ((gOp r push imgs c free most).y), DV.int .i64 ((gOp r push imgs c free most).mask), DV.int .i64 ((gOp r push imgs c free most).mx), DV.int .i64 ((gOp r push imgs c free most).my), DV.int .u16 ((gOp r push imgs c free most).opac), DV.int .i64 ((gOp r push imgs c free most).oper), DV.int .i64 ((gOp r push imgs c free most).mode), DV.bool ((gOp r push imgs c free most).iso), DV.bool ((gOp r push imgs c free most).kno)]) :=
  ans_of_vcg (Γ := gamSa) (G_Op_ann r push imgs c free most) mixed_ Tryd.func8 rfl (Nat.le_of_ble_eq_true rfl) fun hwf => by
    refine Eq.mpr (G_Op_vc r push imgs c free most) ?_
    simp only [true_and, and_true, RV.d.injEq, RV.agg.injEq, RV.tup.injEq, DV.bool.injEq, DV.int.injEq, DV.sl.injEq, List.cons.injEq, forall_const, Bool.not_false, Bool.not_true, Bool.not_eq_true', Bool.not_eq_false', decide_eq_true_eq, decide_eq_false_iff_not, Int.toNat_natCast, G_Mod_ans, G_Sample_ans]
    have oa := fun n => G_offset_ans n c.a hc.1
    have ob := fun n => G_offset_ans n c.b hc.2
    have b4 := @modS_in (IntKind.wrap .i64 (Int.tdiv r.ma 4)) imgs (by omega) (by omega)
    have b12 := fun v => @modS_in v 12 (by omega) (by omega)
    have w4 : IntKind.wrap .i64 (1 + modS (IntKind.wrap .i64 (Int.tdiv r.ma 4)) imgs) = 1 + modS (IntKind.wrap .i64 (Int.tdiv r.ma 4)) imgs := IntWalk.i64_in _ ⟨by omega, by omega⟩
    have w12 : ∀ v, IntKind.wrap .i64 (1 + modS v 12) = 1 + modS v 12 := fun v => by have := b12 v; exact IntWalk.i64_in _ ⟨by omega, by omega⟩
    simp only [oa, ob, w4, w12, true_and]
    simp only [exists_eq_left, forall_eq, gOp, beq_iff_eq, beq_eq_false_iff_ne]
    (repeat' (first | apply And.intro | intro _)) <;> (first | decide | (simp_all; done) | (simp_all; rfl))

end Go.Proofs.YtcaokljobfkajaaDoor

/-
  Images: well-formed, pixels.
-/
namespace Go.Proofs.YtcaokljobfkajaaDoor
open Go.RowKit
set_option linter.unusedVariables false
set_option linter.unusedSimpArgs false
attribute [local irreducible] Ans AnsO AnsG AnsN AnsI

set_option maxRecDepth 4000

def R13_fits_ann (w : Int) (h : Int) : Ann := Ann.leaf
theorem R13_fits_vc (w : Int) (h : Int) : vcg Tryd.prog gamI 21 (bodyOf Tryd.f58) (R13_fits_ann w h) kn0 (start [RV.d (DV.int .i64 w), RV.d (DV.int .i64 h)]) (post Tryd.prog Tryd.f58.results.toList (· = RV.d (DV.bool (fitsP w h)))) =
  (True ∧ True ∧ True ∧ True ∧ (((decide (w ≥ (1 : Int))) = true → True ∧ True ∧ True ∧ True ∧ (((decide (h ≥ (1 : Int))) = true → True ∧ True ∧ True ∧ True ∧ (((decide (w ≤ (16777216 : Int))) = true → True ∧ True ∧ (w ≠ 0) ∧ True ∧ True ∧ True ∧ RV.d (DV.bool (decide (h ≤ (IntKind.wrap .i64 (Int.tdiv (16777216 : Int) w))))) = RV.d (DV.bool (fitsP w h))) ∧ ((decide (w ≤ (16777216 : Int))) = (!true) → True ∧ True ∧ RV.d (DV.bool false) = RV.d (DV.bool (fitsP w h))))) ∧ ((decide (h ≥ (1 : Int))) = (!true) → True ∧ True ∧ True ∧ True ∧ RV.d (DV.bool false) = RV.d (DV.bool (fitsP w h))))) ∧ ((decide (w ≥ (1 : Int))) = (!true) → True ∧ True ∧ True ∧ True ∧ True ∧ True ∧ RV.d (DV.bool false) = RV.d (DV.bool (fitsP w h))))) := by kernel_rfl
theorem R13_fits_ans (w : Int) (h : Int) : Ans Tryd.prog 58 [RV.d (DV.int .i64 w), RV.d (DV.int .i64 h)] (RV.d (DV.bool (fitsP w h))) :=
  ans_of_vcg (Γ := gamI) (R13_fits_ann w h) mixed_ Tryd.func58 rfl (Nat.le_of_ble_eq_true rfl) fun hwf => by
    refine Eq.mpr (R13_fits_vc w h) ?_
    simp only [true_and, and_true, RV.d.injEq, RV.agg.injEq, RV.tup.injEq, DV.bool.injEq, DV.int.injEq, DV.sl.injEq, List.cons.injEq, forall_const, Bool.not_false, Bool.not_true, Bool.not_eq_true', Bool.not_eq_false', decide_eq_true_eq, decide_eq_false_iff_not, Int.toNat_natCast, G_Mod_ans]
    have h1 : 1 ≤ w → 1 ≤ h → (h ≤ IntKind.wrap .i64 (Int.tdiv 16777216 w) ↔ w * h ≤ 16777216) := fun a b => by rw [size_fits b a, Int.mul_comm]
    have h2 := @fits_le w h
    grind [fitsP]

end Go.Proofs.YtcaokljobfkajaaDoor

/-
  Images: pixels, what is wrong, solid ones.
-/
namespace Go.Proofs.YtcaokljobfkajaaDoor
open Go.RowKit
set_option linter.unusedVariables false
set_option linter.unusedSimpArgs false
attribute [local irreducible] Ans AnsO AnsG AnsN AnsI

set_option maxRecDepth 4000

def R13_Solid_ann (w : Int) (h : Int) (c0 : Int) (c1 : Int) (c2 : Int) (ca : Int) (cf : Int) : Ann := Ann.leaf
theorem R13_Solid_vc (w : Int) (h : Int) (c0 : Int) (c1 : Int) (c2 : Int) (ca : Int) (cf : Int) : vcg Tryd.prog gamI 11 (bodyOf Tryd.f26) (R13_Solid_ann w h c0 c1 c2 ca cf) kn0 (start [RV.d (DV.int .i64 w), RV.d (DV.int .i64 h), RV.agg [DV.int .u16 c0, DV.int .u16 c1, DV.int .u16 c2, DV.int .u16 ca, DV.int .u16 cf]]) (post Tryd.prog Tryd.f26.results.toList (· = RV.agg [DV.int .i64 ((solidIm w h ⟨c0, c1, c2, ca, cf⟩).w), DV.int .i64 ((solidIm w h ⟨c0, c1, c2, ca, cf⟩).h), DV.bool ((solidIm w h ⟨c0, c1, c2, ca, cf⟩).so), DV.int .u16 (((solidIm w h ⟨c0, c1, c2, ca, cf⟩).c).a), DV.int .u16 (((solidIm w h ⟨c0, c1, c2, ca, cf⟩).c).b), DV.int .u16 (((solidIm w h ⟨c0, c1, c2, ca, cf⟩).c).c), DV.int .u16 (((solidIm w h ⟨c0, c1, c2, ca, cf⟩).c).al), DV.int .u16 (((solidIm w h ⟨c0, c1, c2, ca, cf⟩).c).f), DV.int .i64 (((solidIm w h ⟨c0, c1, c2, ca, cf⟩).p0).w), DV.int .i64 (((solidIm w h ⟨c0, c1, c2, ca, cf⟩).p0).h), DV.int .i64 (((solidIm w h ⟨c0, c1, c2, ca, cf⟩).p0).s), DV.sl (((solidIm w h ⟨c0, c1, c2, ca, cf⟩).p0).n) (((solidIm w h ⟨c0, c1, c2, ca, cf⟩).p0).xs), DV.int .i64 (((solidIm w h ⟨c0, c1, c2, ca, cf⟩).p1).w), DV.int .i64 (((solidIm w h ⟨c0, c1, c2, ca, cf⟩).p1).h), DV.int .i64 (((solidIm w h ⟨c0, c1, c2, ca, cf⟩).p1).s), DV.sl (((solidIm w h ⟨c0, c1, c2, ca, cf⟩).p1).n) (((solidIm w h ⟨c0, c1, c2, ca, cf⟩).p1).xs), DV.int .i64 (((solidIm w h ⟨c0, c1, c2, ca, cf⟩).p2).w), DV.int .i64 (((solidIm w h ⟨c0, c1, c2, ca, cf⟩).p2).h), DV.int .i64 (((solidIm w h ⟨c0, c1, c2, ca, cf⟩).p2).s), DV.sl (((solidIm w h ⟨c0, c1, c2, ca, cf⟩).p2).n) (((solidIm w h ⟨c0, c1, c2, ca, cf⟩).p2).xs), DV.int .i64 (((solidIm w h ⟨c0, c1, c2, ca, cf⟩).p3).w), DV.int .i64 (((solidIm w h ⟨c0, c1, c2, ca, cf⟩).p3).h), DV.int .i64 (((solidIm w h ⟨c0, c1, c2, ca, cf⟩).p3).s), DV.sl (((solidIm w h ⟨c0, c1, c2, ca, cf⟩).p3).n) (((solidIm w h ⟨c0, c1, c2, ca, cf⟩).p3).xs), DV.int .i64 (((solidIm w h ⟨c0, c1, c2, ca, cf⟩).p4).w), DV.int .i64 (((solidIm w h ⟨c0, c1, c2, ca, cf⟩).p4).h), DV.int .i64 (((solidIm w h ⟨c0, c1, c2, ca, cf⟩).p4).s), DV.sl (((solidIm w h ⟨c0, c1, c2, ca, cf⟩).p4).n) (((solidIm w h ⟨c0, c1, c2, ca, cf⟩).p4).xs)])) =
  (True ∧ True ∧ True ∧ True ∧ True ∧ True ∧ True ∧ RV.agg [DV.int .i64 w, DV.int .i64 h, DV.bool true, DV.int .u16 c0, DV.int .u16 c1, DV.int .u16 c2, DV.int .u16 ca, DV.int .u16 cf, DV.int .i64 0, DV.int .i64 0, DV.int .i64 0, DV.sl 0 ([]), DV.int .i64 0, DV.int .i64 0, DV.int .i64 0, DV.sl 0 ([]), DV.int .i64 0, DV.int .i64 0, DV.int .i64 0, DV.sl 0 ([]), DV.int .i64 0, DV.int .i64 0, DV.int .i64 0, DV.sl 0 ([]), DV.int .i64 0, DV.int .i64 0, DV.int .i64 0, DV.sl 0 ([])] = RV.agg [DV.int .i64 ((solidIm w h ⟨c0, c1, c2, ca, cf⟩).w), DV.int .i64 ((solidIm w h ⟨c0, c1, c2, ca, cf⟩).h), DV.bool ((solidIm w h ⟨c0, c1, c2, ca, cf⟩).so), DV.int .u16 (((solidIm w h ⟨c0, c1, c2, ca, cf⟩).c).a), DV.int .u16 (((solidIm w h ⟨c0, c1, c2, ca, cf⟩).c).b), DV.int .u16 (((solidIm w h ⟨c0, c1, c2, ca, cf⟩).c).c), DV.int .u16 (((solidIm w h ⟨c0, c1, c2, ca, cf⟩).c).al), DV.int .u16 (((solidIm w h ⟨c0, c1, c2, ca, cf⟩).c).f), DV.int .i64 (((solidIm w h ⟨c0, c1, c2, ca, cf⟩).p0).w), DV.int .i64 (((solidIm w h ⟨c0, c1, c2, ca, cf⟩).p0).h), DV.int .i64 (((solidIm w h ⟨c0, c1, c2, ca, cf⟩).p0).s), DV.sl (((solidIm w h ⟨c0, c1, c2, ca, cf⟩).p0).n) (((solidIm w h ⟨c0, c1, c2, ca, cf⟩).p0).xs), DV.int .i64 (((solidIm w h ⟨c0, c1, c2, ca, cf⟩).p1).w), DV.int .i64 (((solidIm w h ⟨c0, c1, c2, ca, cf⟩).p1).h), DV.int .i64 (((solidIm w h ⟨c0, c1, c2, ca, cf⟩).p1).s), DV.sl (((solidIm w h ⟨c0, c1, c2, ca, cf⟩).p1).n) (((solidIm w h ⟨c0, c1, c2, ca, cf⟩).p1).xs), DV.int .i64 (((solidIm w h ⟨c0, c1, c2, ca, cf⟩).p2).w), DV.int .i64 (((solidIm w h ⟨c0, c1, c2, ca, cf⟩).p2).h), DV.int .i64 (((solidIm w h ⟨c0, c1, c2, ca, cf⟩).p2).s), DV.sl (((solidIm w h ⟨c0, c1, c2, ca, cf⟩).p2).n) (((solidIm w h ⟨c0, c1, c2, ca, cf⟩).p2).xs), DV.int .i64 (((solidIm w h ⟨c0, c1, c2, ca, cf⟩).p3).w), DV.int .i64 (((solidIm w h ⟨c0, c1, c2, ca, cf⟩).p3).h), DV.int .i64 (((solidIm w h ⟨c0, c1, c2, ca, cf⟩).p3).s), DV.sl (((solidIm w h ⟨c0, c1, c2, ca, cf⟩).p3).n) (((solidIm w h ⟨c0, c1, c2, ca, cf⟩).p3).xs), DV.int .i64 (((solidIm w h ⟨c0, c1, c2, ca, cf⟩).p4).w), DV.int .i64 (((solidIm w h ⟨c0, c1, c2, ca, cf⟩).p4).h), DV.int .i64 (((solidIm w h ⟨c0, c1, c2, ca, cf⟩).p4).s), DV.sl (((solidIm w h ⟨c0, c1, c2, ca, cf⟩).p4).n) (((solidIm w h ⟨c0, c1, c2, ca, cf⟩).p4).xs)]) := by kernel_rfl
theorem R13_Solid_ans (w : Int) (h : Int) (c0 : Int) (c1 : Int) (c2 : Int) (ca : Int) (cf : Int) : Ans Tryd.prog 26 [RV.d (DV.int .i64 w), RV.d (DV.int .i64 h), RV.agg [DV.int .u16 c0, DV.int .u16 c1, DV.int .u16 c2, DV.int .u16 ca, DV.int .u16 cf]] (RV.agg [DV.int .i64 ((solidIm w h ⟨c0, c1, c2, ca, cf⟩).w), DV.int .i64 ((solidIm w h ⟨c0, c1, c2, ca, cf⟩).h), DV.bool ((solidIm w h ⟨c0, c1, c2, ca, cf⟩).so), DV.int .u16 (((solidIm w h ⟨c0, c1, c2, ca, cf⟩).c).a), DV.int .u16 (((solidIm w h ⟨c0, c1, c2, ca, cf⟩).c).b), DV.int .u16 (((solidIm w h ⟨c0, c1, c2, ca, cf⟩).c).c), DV.int .u16 (((solidIm w h ⟨c0, c1, c2, ca, cf⟩).c).al), DV.int .u16 (((solidIm w h ⟨c0, c1, c2, ca, cf⟩).c).f), DV.int .i64 (((solidIm w h ⟨c0, c1, c2, ca, cf⟩).p0).w), DV.int .i64 (((solidIm w h ⟨c0, c1, c2, ca, cf⟩).p0).h), DV.int .i64 (((solidIm w h ⟨c0, c1, c2, ca, cf⟩).p0).s), DV.sl (((solidIm w h ⟨c0, c1, c2, ca, cf⟩).p0).n) (((solidIm w h ⟨c0, c1, c2, ca, cf⟩).p0).xs), DV.int .i64 (((solidIm w h ⟨c0, c1, c2, ca, cf⟩).p1).w), DV.int .i64 (((solidIm w h ⟨c0, c1, c2, ca, cf⟩).p1).h), DV.int .i64 (((solidIm w h ⟨c0, c1, c2, ca, cf⟩).p1).s), DV.sl (((solidIm w h ⟨c0, c1, c2, ca, cf⟩).p1).n) (((solidIm w h ⟨c0, c1, c2, ca, cf⟩).p1).xs), DV.int .i64 (((solidIm w h ⟨c0, c1, c2, ca, cf⟩).p2).w), DV.int .i64 (((solidIm w h ⟨c0, c1, c2, ca, cf⟩).p2).h), DV.int .i64 (((solidIm w h ⟨c0, c1, c2, ca, cf⟩).p2).s), DV.sl (((solidIm w h ⟨c0, c1, c2, ca, cf⟩).p2).n) (((solidIm w h ⟨c0, c1, c2, ca, cf⟩).p2).xs), DV.int .i64 (((solidIm w h ⟨c0, c1, c2, ca, cf⟩).p3).w), DV.int .i64 (((solidIm w h ⟨c0, c1, c2, ca, cf⟩).p3).h), DV.int .i64 (((solidIm w h ⟨c0, c1, c2, ca, cf⟩).p3).s), DV.sl (((solidIm w h ⟨c0, c1, c2, ca, cf⟩).p3).n) (((solidIm w h ⟨c0, c1, c2, ca, cf⟩).p3).xs), DV.int .i64 (((solidIm w h ⟨c0, c1, c2, ca, cf⟩).p4).w), DV.int .i64 (((solidIm w h ⟨c0, c1, c2, ca, cf⟩).p4).h), DV.int .i64 (((solidIm w h ⟨c0, c1, c2, ca, cf⟩).p4).s), DV.sl (((solidIm w h ⟨c0, c1, c2, ca, cf⟩).p4).n) (((solidIm w h ⟨c0, c1, c2, ca, cf⟩).p4).xs)]) :=
  ans_of_vcg (Γ := gamI) (R13_Solid_ann w h c0 c1 c2 ca cf) mixed_ Tryd.func26 rfl (Nat.le_of_ble_eq_true rfl) fun hwf => by
    refine Eq.mpr (R13_Solid_vc w h c0 c1 c2 ca cf) ?_
    simp only [true_and, and_true, RV.d.injEq, RV.agg.injEq, RV.tup.injEq, DV.bool.injEq, DV.int.injEq, DV.sl.injEq, List.cons.injEq, forall_const, Bool.not_false, Bool.not_true, Bool.not_eq_true', Bool.not_eq_false', decide_eq_true_eq, decide_eq_false_iff_not, Int.toNat_natCast, G_Mod_ans, R13_fits_ans]
    simp [solidIm, Pl.none, Px.zero]

end Go.Proofs.YtcaokljobfkajaaDoor

/-
  The places of an image, row by row: what the iterator calls its body with.
-/
namespace Go.Proofs.YtcaokljobfkajaaDoor
open Go.RowKit
set_option linter.unusedVariables false
set_option linter.unusedSimpArgs false

attribute [local go_sem] Oper.semAt_some
end Go.Proofs.YtcaokljobfkajaaDoor
/-
  Images: valid, pixels, at.
-/
namespace Go.Proofs.YtcaokljobfkajaaDoor
open Go.RowKit
set_option linter.unusedVariables false
set_option linter.unusedSimpArgs false
attribute [local irreducible] Ans AnsO AnsG AnsN AnsI

set_option maxRecDepth 4000

end Go.Proofs.YtcaokljobfkajaaDoor

/-
  Images: sameness, equality, an image of pixels.
-/
namespace Go.Proofs.YtcaokljobfkajaaDoor
open Go.RowKit
set_option linter.unusedVariables false
set_option linter.unusedSimpArgs false
attribute [local irreducible] Ans AnsO AnsG AnsN AnsI

set_option maxRecDepth 4000

def R13_ImageOf_ann (w : Int) (h : Int) (n : Nat) (xs : List DV) : Ann := let zz0 := (0, AV.one (Cl.d (DV.int .i64 w))); let zz1 := (1, AV.one (Cl.d (DV.int .i64 h))); let zz2 := (2, AV.one (Cl.d (DV.sl n xs))); let zz3 := (Cl.d (DV.int .i64 0)); let zz4 := (6, Bx.cells [Cl.d (DV.int .i64 0), Cl.d (DV.int .i64 0), Cl.d (DV.bool false), Cl.d (DV.int .u16 0), Cl.d (DV.int .u16 0), Cl.d (DV.int .u16 0), Cl.d (DV.int .u16 0), Cl.d (DV.int .u16 0), Cl.d (DV.int .i64 0), Cl.d (DV.int .i64 0), Cl.d (DV.int .i64 0), Cl.nil, Cl.d (DV.int .i64 0), Cl.d (DV.int .i64 0), Cl.d (DV.int .i64 0), Cl.nil, Cl.d (DV.int .i64 0), Cl.d (DV.int .i64 0), Cl.d (DV.int .i64 0), Cl.nil, Cl.d (DV.int .i64 0), Cl.d (DV.int .i64 0), Cl.d (DV.int .i64 0), Cl.nil, Cl.d (DV.int .i64 0), Cl.d (DV.int .i64 0), Cl.d (DV.int .i64 0), Cl.nil]); let zz5 := (Cl.d (DV.int .i64 1)); let zz6 := ((IntKind.wrap .i64 (w * h)).toNat); let zz7 := (List.replicate (IntKind.wrap .i64 (w * h)).toNat (DV.int .u16 0)); let zz8 := (200039, Bx.row 27 1 zz7); let zz9 := (Cl.d (DV.int .i64 2)); let zz10 := (300039, Bx.row 27 1 zz7); let zz11 := (Cl.d (DV.int .i64 3)); let zz12 := (400039, Bx.row 27 1 zz7); let zz13 := (500039, Bx.row 27 1 zz7); let zz14 := (8, Bx.cells [Cl.d (DV.int .i64 w), Cl.d (DV.int .i64 h), Cl.d (DV.bool false), Cl.d (DV.int .u16 0), Cl.d (DV.int .u16 0), Cl.d (DV.int .u16 0), Cl.d (DV.int .u16 0), Cl.d (DV.int .u16 0), Cl.d (DV.int .i64 w), Cl.d (DV.int .i64 h), Cl.d (DV.int .i64 w), Cl.ref 200039 zz6, Cl.d (DV.int .i64 w), Cl.d (DV.int .i64 h), Cl.d (DV.int .i64 w), Cl.ref 300039 zz6, Cl.d (DV.int .i64 w), Cl.d (DV.int .i64 h), Cl.d (DV.int .i64 w), Cl.ref 400039 zz6, Cl.d (DV.int .i64 w), Cl.d (DV.int .i64 h), Cl.d (DV.int .i64 w), Cl.ref 500039 zz6, Cl.d (DV.int .i64 w), Cl.d (DV.int .i64 h), Cl.d (DV.int .i64 w), Cl.ref 600039 zz6]); let zz15 := fun (i : Nat) => (10, AV.one (Cl.d (DV.int .i64 ((i : Nat) : Int)))); let zz16 := fun (i : Nat) => (300039, Bx.row 27 1 (fillCh (toPxs xs) Px.b i)); let zz17 := fun (i : Nat) => (400039, Bx.row 27 1 (fillCh (toPxs xs) Px.c i)); let zz18 := fun (i : Nat) => (500039, Bx.row 27 1 (fillCh (toPxs xs) Px.al i)); let zz19 := fun (i : Nat) => (600039, Bx.row 27 1 (fillCh (toPxs xs) Px.f i)); let zz20 := fun (i : Nat) => [zz4, zz14, (200039, Bx.row 27 1 (fillCh (toPxs xs) Px.a i)), (zz16 i), (zz17 i), (zz18 i), (zz19 i)]; let zz21 := fun (i : Nat) => (200039, Bx.row 27 1 (List.set (fillCh (toPxs xs) Px.a i) (((i : Nat) : Int).toNat * 1) (DV.int .u16 (nAt xs (((i : Nat) : Int).toNat * 5 + 0 + 0))))); let zz22 := fun (i : Nat) => (300039, Bx.row 27 1 (List.set (fillCh (toPxs xs) Px.b i) (((i : Nat) : Int).toNat * 1) (DV.int .u16 (nAt xs (((i : Nat) : Int).toNat * 5 + 0 + 1))))); (Ann.seq Ann.leaf (Ann.seq Ann.leaf (Ann.seq Ann.leaf (Ann.seq (Ann.seq Ann.leaf (Ann.link ⟨Unit, fun _u => True, fun _u => ⟨[zz0, zz1, zz2, (6, AV.one (Cl.ptr 6 0)), (8, AV.one (Cl.ptr 8 0)), (9, AV.one zz3)], [zz4, (8, Bx.cells [Cl.d (DV.int .i64 w), Cl.d (DV.int .i64 h), Cl.d (DV.bool false), Cl.d (DV.int .u16 0), Cl.d (DV.int .u16 0), Cl.d (DV.int .u16 0), Cl.d (DV.int .u16 0), Cl.d (DV.int .u16 0), Cl.d (DV.int .i64 0), Cl.d (DV.int .i64 0), Cl.d (DV.int .i64 0), Cl.nil, Cl.d (DV.int .i64 0), Cl.d (DV.int .i64 0), Cl.d (DV.int .i64 0), Cl.nil, Cl.d (DV.int .i64 0), Cl.d (DV.int .i64 0), Cl.d (DV.int .i64 0), Cl.nil, Cl.d (DV.int .i64 0), Cl.d (DV.int .i64 0), Cl.d (DV.int .i64 0), Cl.nil, Cl.d (DV.int .i64 0), Cl.d (DV.int .i64 0), Cl.d (DV.int .i64 0), Cl.nil])]⟩, fun _u => 0⟩ (fun _u => (Ann.seq (Ann.seq Ann.leaf (Ann.sure true Ann.leaf)) Ann.leaf)) (Ann.link ⟨Unit, fun _u => True, fun _u => ⟨[zz0, zz1, zz2, (6, AV.one (Cl.ptr 6 0)), (8, AV.one (Cl.ptr 8 0)), (9, AV.one zz5)], [zz4, (8, Bx.cells [Cl.d (DV.int .i64 w), Cl.d (DV.int .i64 h), Cl.d (DV.bool false), Cl.d (DV.int .u16 0), Cl.d (DV.int .u16 0), Cl.d (DV.int .u16 0), Cl.d (DV.int .u16 0), Cl.d (DV.int .u16 0), Cl.d (DV.int .i64 w), Cl.d (DV.int .i64 h), Cl.d (DV.int .i64 w), Cl.ref 200039 zz6, Cl.d (DV.int .i64 0), Cl.d (DV.int .i64 0), Cl.d (DV.int .i64 0), Cl.nil, Cl.d (DV.int .i64 0), Cl.d (DV.int .i64 0), Cl.d (DV.int .i64 0), Cl.nil, Cl.d (DV.int .i64 0), Cl.d (DV.int .i64 0), Cl.d (DV.int .i64 0), Cl.nil, Cl.d (DV.int .i64 0), Cl.d (DV.int .i64 0), Cl.d (DV.int .i64 0), Cl.nil]), zz8]⟩, fun _u => 0⟩ (fun _u => (Ann.seq (Ann.seq Ann.leaf (Ann.sure true Ann.leaf)) Ann.leaf)) (Ann.link ⟨Unit, fun _u => True, fun _u => ⟨[zz0, zz1, zz2, (6, AV.one (Cl.ptr 6 0)), (8, AV.one (Cl.ptr 8 0)), (9, AV.one zz9)], [zz4, (8, Bx.cells [Cl.d (DV.int .i64 w), Cl.d (DV.int .i64 h), Cl.d (DV.bool false), Cl.d (DV.int .u16 0), Cl.d (DV.int .u16 0), Cl.d (DV.int .u16 0), Cl.d (DV.int .u16 0), Cl.d (DV.int .u16 0), Cl.d (DV.int .i64 w), Cl.d (DV.int .i64 h), Cl.d (DV.int .i64 w), Cl.ref 200039 zz6, Cl.d (DV.int .i64 w), Cl.d (DV.int .i64 h), Cl.d (DV.int .i64 w), Cl.ref 300039 zz6, Cl.d (DV.int .i64 0), Cl.d (DV.int .i64 0), Cl.d (DV.int .i64 0), Cl.nil, Cl.d (DV.int .i64 0), Cl.d (DV.int .i64 0), Cl.d (DV.int .i64 0), Cl.nil, Cl.d (DV.int .i64 0), Cl.d (DV.int .i64 0), Cl.d (DV.int .i64 0), Cl.nil]), zz8, zz10]⟩, fun _u => 0⟩ (fun _u => (Ann.seq (Ann.seq Ann.leaf (Ann.sure true Ann.leaf)) Ann.leaf)) (Ann.link ⟨Unit, fun _u => True, fun _u => ⟨[zz0, zz1, zz2, (6, AV.one (Cl.ptr 6 0)), (8, AV.one (Cl.ptr 8 0)), (9, AV.one zz11)], [zz4, (8, Bx.cells [Cl.d (DV.int .i64 w), Cl.d (DV.int .i64 h), Cl.d (DV.bool false), Cl.d (DV.int .u16 0), Cl.d (DV.int .u16 0), Cl.d (DV.int .u16 0), Cl.d (DV.int .u16 0), Cl.d (DV.int .u16 0), Cl.d (DV.int .i64 w), Cl.d (DV.int .i64 h), Cl.d (DV.int .i64 w), Cl.ref 200039 zz6, Cl.d (DV.int .i64 w), Cl.d (DV.int .i64 h), Cl.d (DV.int .i64 w), Cl.ref 300039 zz6, Cl.d (DV.int .i64 w), Cl.d (DV.int .i64 h), Cl.d (DV.int .i64 w), Cl.ref 400039 zz6, Cl.d (DV.int .i64 0), Cl.d (DV.int .i64 0), Cl.d (DV.int .i64 0), Cl.nil, Cl.d (DV.int .i64 0), Cl.d (DV.int .i64 0), Cl.d (DV.int .i64 0), Cl.nil]), zz8, zz10, zz12]⟩, fun _u => 0⟩ (fun _u => (Ann.seq (Ann.seq Ann.leaf (Ann.sure true Ann.leaf)) Ann.leaf)) (Ann.link ⟨Unit, fun _u => True, fun _u => ⟨[zz0, zz1, zz2, (6, AV.one (Cl.ptr 6 0)), (8, AV.one (Cl.ptr 8 0)), (9, AV.one (Cl.d (DV.int .i64 4)))], [zz4, (8, Bx.cells [Cl.d (DV.int .i64 w), Cl.d (DV.int .i64 h), Cl.d (DV.bool false), Cl.d (DV.int .u16 0), Cl.d (DV.int .u16 0), Cl.d (DV.int .u16 0), Cl.d (DV.int .u16 0), Cl.d (DV.int .u16 0), Cl.d (DV.int .i64 w), Cl.d (DV.int .i64 h), Cl.d (DV.int .i64 w), Cl.ref 200039 zz6, Cl.d (DV.int .i64 w), Cl.d (DV.int .i64 h), Cl.d (DV.int .i64 w), Cl.ref 300039 zz6, Cl.d (DV.int .i64 w), Cl.d (DV.int .i64 h), Cl.d (DV.int .i64 w), Cl.ref 400039 zz6, Cl.d (DV.int .i64 w), Cl.d (DV.int .i64 h), Cl.d (DV.int .i64 w), Cl.ref 500039 zz6, Cl.d (DV.int .i64 0), Cl.d (DV.int .i64 0), Cl.d (DV.int .i64 0), Cl.nil]), zz8, zz10, zz12, zz13]⟩, fun _u => 0⟩ (fun _u => (Ann.seq (Ann.seq Ann.leaf (Ann.sure true Ann.leaf)) Ann.leaf)) (Ann.link ⟨Unit, fun _u => True, fun _u => ⟨[zz0, zz1, zz2, (6, AV.one (Cl.ptr 6 0)), (8, AV.one (Cl.ptr 8 0)), (9, AV.one (Cl.d (DV.int .i64 5)))], [zz4, zz14, zz8, zz10, zz12, zz13, (600039, Bx.row 27 1 zz7)]⟩, fun _u => 0⟩ (fun _u => (Ann.seq (Ann.seq Ann.leaf (Ann.sure false Ann.leaf)) Ann.leaf)) Ann.leaf))))))) (Ann.seq (Ann.seq Ann.leaf (Ann.loop ⟨Nat, fun i => i ≤ n, fun i => ⟨[zz2, (6, AV.one (Cl.ptr 6 0)), (8, AV.one (Cl.ptr 8 0)), (zz15 i)], (zz20 i)⟩, fun i => n - i⟩ fun i => (Ann.seq Ann.leaf (Ann.seq (Ann.seq (Ann.seq Ann.leaf (Ann.link ⟨Unit, fun _u => True, fun _u => ⟨[zz2, (6, AV.one (Cl.ptr 6 0)), (8, AV.one (Cl.ptr 8 0)), (zz15 i), (11, AV.one zz3)], (zz20 i)⟩, fun _u => 0⟩ (fun _u => (Ann.seq (Ann.seq Ann.leaf (Ann.sure true Ann.leaf)) Ann.leaf)) (Ann.link ⟨Unit, fun _u => True, fun _u => ⟨[zz2, (6, AV.one (Cl.ptr 6 0)), (8, AV.one (Cl.ptr 8 0)), (zz15 i), (11, AV.one zz5)], [zz4, zz14, (zz21 i), (zz16 i), (zz17 i), (zz18 i), (zz19 i)]⟩, fun _u => 0⟩ (fun _u => (Ann.seq (Ann.seq Ann.leaf (Ann.sure true Ann.leaf)) Ann.leaf)) (Ann.link ⟨Unit, fun _u => True, fun _u => ⟨[zz2, (6, AV.one (Cl.ptr 6 0)), (8, AV.one (Cl.ptr 8 0)), (zz15 i), (11, AV.one zz9)], [zz4, zz14, (zz21 i), (zz22 i), (zz17 i), (zz18 i), (zz19 i)]⟩, fun _u => 0⟩ (fun _u => (Ann.seq (Ann.seq Ann.leaf (Ann.sure true Ann.leaf)) Ann.leaf)) (Ann.link ⟨Unit, fun _u => True, fun _u => ⟨[zz2, (6, AV.one (Cl.ptr 6 0)), (8, AV.one (Cl.ptr 8 0)), (zz15 i), (11, AV.one zz11)], [zz4, zz14, (zz21 i), (zz22 i), (400039, Bx.row 27 1 (List.set (fillCh (toPxs xs) Px.c i) (((i : Nat) : Int).toNat * 1) (DV.int .u16 (nAt xs (((i : Nat) : Int).toNat * 5 + 0 + 2))))), (zz18 i), (zz19 i)]⟩, fun _u => 0⟩ (fun _u => (Ann.seq (Ann.seq Ann.leaf (Ann.sure false Ann.leaf)) Ann.leaf)) Ann.leaf))))) Ann.leaf) Ann.leaf)))) Ann.leaf)))))
theorem R13_ImageOf_vc (w : Int) (h : Int) (n : Nat) (xs : List DV) : vcg Tryd.prog gamI ⟨90, fun _ => false, List.range 0, false⟩ (bodyOf Tryd.f44) (R13_ImageOf_ann w h n xs) kn0 (startG [AV.one (Cl.d (DV.int .i64 w)), AV.one (Cl.d (DV.int .i64 h)), AV.one (Cl.d (DV.sl n xs))] []) (postG Tryd.prog ⟨90, fun _ => false, List.range 0, false⟩ Tryd.f44.results.toList ⟨AV.tup [AV.agg [Cl.d (DV.int .i64 ((imOf w h (toPxs xs)).w)), Cl.d (DV.int .i64 ((imOf w h (toPxs xs)).h)), Cl.d (DV.bool ((imOf w h (toPxs xs)).so)), Cl.d (DV.int .u16 ((imOf w h (toPxs xs)).c.a)), Cl.d (DV.int .u16 ((imOf w h (toPxs xs)).c.b)), Cl.d (DV.int .u16 ((imOf w h (toPxs xs)).c.c)), Cl.d (DV.int .u16 ((imOf w h (toPxs xs)).c.al)), Cl.d (DV.int .u16 ((imOf w h (toPxs xs)).c.f)), Cl.d (DV.int .i64 ((imOf w h (toPxs xs)).p0.w)), Cl.d (DV.int .i64 ((imOf w h (toPxs xs)).p0.h)), Cl.d (DV.int .i64 ((imOf w h (toPxs xs)).p0.s)), Cl.ref 0 ((imOf w h (toPxs xs)).p0.n), Cl.d (DV.int .i64 ((imOf w h (toPxs xs)).p1.w)), Cl.d (DV.int .i64 ((imOf w h (toPxs xs)).p1.h)), Cl.d (DV.int .i64 ((imOf w h (toPxs xs)).p1.s)), Cl.ref 1 ((imOf w h (toPxs xs)).p1.n), Cl.d (DV.int .i64 ((imOf w h (toPxs xs)).p2.w)), Cl.d (DV.int .i64 ((imOf w h (toPxs xs)).p2.h)), Cl.d (DV.int .i64 ((imOf w h (toPxs xs)).p2.s)), Cl.ref 2 ((imOf w h (toPxs xs)).p2.n), Cl.d (DV.int .i64 ((imOf w h (toPxs xs)).p3.w)), Cl.d (DV.int .i64 ((imOf w h (toPxs xs)).p3.h)), Cl.d (DV.int .i64 ((imOf w h (toPxs xs)).p3.s)), Cl.ref 3 ((imOf w h (toPxs xs)).p3.n), Cl.d (DV.int .i64 ((imOf w h (toPxs xs)).p4.w)), Cl.d (DV.int .i64 ((imOf w h (toPxs xs)).p4.h)), Cl.d (DV.int .i64 ((imOf w h (toPxs xs)).p4.s)), Cl.ref 4 ((imOf w h (toPxs xs)).p4.n)], AV.one (Cl.d (DV.bool (ofOk w h n)))], [Bx.row 27 1 ((imOf w h (toPxs xs)).p0.xs), Bx.row 27 1 ((imOf w h (toPxs xs)).p1.xs), Bx.row 27 1 ((imOf w h (toPxs xs)).p2.xs), Bx.row 27 1 ((imOf w h (toPxs xs)).p3.xs), Bx.row 27 1 ((imOf w h (toPxs xs)).p4.xs)], true⟩) =
  (let zz0 := (DV.bool false = DV.bool ((imOf w h (toPxs xs)).so)); let zz1 := (DV.int .u16 0 = DV.int .u16 ((imOf w h (toPxs xs)).c.a)); let zz2 := (DV.int .u16 0 = DV.int .u16 ((imOf w h (toPxs xs)).c.b)); let zz3 := (DV.int .u16 0 = DV.int .u16 ((imOf w h (toPxs xs)).c.c)); let zz4 := (DV.int .u16 0 = DV.int .u16 ((imOf w h (toPxs xs)).c.al)); let zz5 := (DV.int .u16 0 = DV.int .u16 ((imOf w h (toPxs xs)).c.f)); let zz6 := (((((DV.int .i64 0 = DV.int .i64 ((imOf w h (toPxs xs)).w)) ∧ (DV.int .i64 0 = DV.int .i64 ((imOf w h (toPxs xs)).h)) ∧ zz0 ∧ zz1 ∧ zz2 ∧ zz3 ∧ zz4 ∧ zz5 ∧ (DV.int .i64 0 = DV.int .i64 ((imOf w h (toPxs xs)).p0.w)) ∧ (DV.int .i64 0 = DV.int .i64 ((imOf w h (toPxs xs)).p0.h)) ∧ (DV.int .i64 0 = DV.int .i64 ((imOf w h (toPxs xs)).p0.s)) ∧ (0 = (imOf w h (toPxs xs)).p0.n) ∧ (DV.int .i64 0 = DV.int .i64 ((imOf w h (toPxs xs)).p1.w)) ∧ (DV.int .i64 0 = DV.int .i64 ((imOf w h (toPxs xs)).p1.h)) ∧ (DV.int .i64 0 = DV.int .i64 ((imOf w h (toPxs xs)).p1.s)) ∧ (0 = (imOf w h (toPxs xs)).p1.n) ∧ (DV.int .i64 0 = DV.int .i64 ((imOf w h (toPxs xs)).p2.w)) ∧ (DV.int .i64 0 = DV.int .i64 ((imOf w h (toPxs xs)).p2.h)) ∧ (DV.int .i64 0 = DV.int .i64 ((imOf w h (toPxs xs)).p2.s)) ∧ (0 = (imOf w h (toPxs xs)).p2.n) ∧ (DV.int .i64 0 = DV.int .i64 ((imOf w h (toPxs xs)).p3.w)) ∧ (DV.int .i64 0 = DV.int .i64 ((imOf w h (toPxs xs)).p3.h)) ∧ (DV.int .i64 0 = DV.int .i64 ((imOf w h (toPxs xs)).p3.s)) ∧ (0 = (imOf w h (toPxs xs)).p3.n) ∧ (DV.int .i64 0 = DV.int .i64 ((imOf w h (toPxs xs)).p4.w)) ∧ (DV.int .i64 0 = DV.int .i64 ((imOf w h (toPxs xs)).p4.h)) ∧ (DV.int .i64 0 = DV.int .i64 ((imOf w h (toPxs xs)).p4.s)) ∧ (0 = (imOf w h (toPxs xs)).p4.n) ∧ True) ∧ (DV.bool false = DV.bool (ofOk w h n)) ∧ True) ∧ True) ∧ (([] = (imOf w h (toPxs xs)).p0.xs) ∧ ([] = (imOf w h (toPxs xs)).p1.xs) ∧ ([] = (imOf w h (toPxs xs)).p2.xs) ∧ ([] = (imOf w h (toPxs xs)).p3.xs) ∧ ([] = (imOf w h (toPxs xs)).p4.xs) ∧ True)); let zz7 := (DV.int .i64 w = DV.int .i64 w); let zz8 := (DV.int .i64 h = DV.int .i64 h); let zz9 := (DV.int .i64 0 = DV.int .i64 0); let zz10 := (DV.bool false = DV.bool false); let zz11 := (DV.int .u16 0 = DV.int .u16 0); let zz12 := (zz9 ∧ zz9 ∧ zz10 ∧ zz11 ∧ zz11 ∧ zz11 ∧ zz11 ∧ zz11 ∧ zz9 ∧ zz9 ∧ zz9 ∧ True ∧ zz9 ∧ zz9 ∧ zz9 ∧ True ∧ zz9 ∧ zz9 ∧ zz9 ∧ True ∧ zz9 ∧ zz9 ∧ zz9 ∧ True ∧ zz9 ∧ zz9 ∧ zz9 ∧ True ∧ True); let zz13 := (0 ≤ IntKind.wrap .i64 (w * h) ∧ IntKind.wrap .i64 (w * h) ≤ IntKind.wrap .i64 (w * h) ∧ IntKind.wrap .i64 (w * h) ≤ ((maxLen : Nat) : Int) ∧ ((2 : Nat) : Int) * (IntKind.wrap .i64 (w * h)) ≤ 281474976710656); let zz14 := (0 ≤ (0 : Int) ∧ (0 : Int) < ((5 : Nat) : Int)); let zz15 := (DV.int .i64 (IntKind.wrap .i64 ((0 : Int) + (1 : Int))) = DV.int .i64 1); let zz16 := ((IntKind.wrap .i64 (w * h)).toNat = (IntKind.wrap .i64 (w * h)).toNat); let zz17 := (List.replicate (IntKind.wrap .i64 (w * h)).toNat (DV.int .u16 0) = List.replicate (IntKind.wrap .i64 (w * h)).toNat (DV.int .u16 0)); let zz18 := (0 ≤ (1 : Int) ∧ (1 : Int) < ((5 : Nat) : Int)); let zz19 := (DV.int .i64 (IntKind.wrap .i64 ((1 : Int) + (1 : Int))) = DV.int .i64 2); let zz20 := (0 ≤ (2 : Int) ∧ (2 : Int) < ((5 : Nat) : Int)); let zz21 := (DV.int .i64 (IntKind.wrap .i64 ((2 : Int) + (1 : Int))) = DV.int .i64 3); let zz22 := (0 ≤ (3 : Int) ∧ (3 : Int) < ((5 : Nat) : Int)); let zz23 := (0 ≤ (4 : Int) ∧ (4 : Int) < ((5 : Nat) : Int)); let zz24 := (zz7 ∧ zz8 ∧ zz10 ∧ zz11 ∧ zz11 ∧ zz11 ∧ zz11 ∧ zz11 ∧ zz7 ∧ zz8 ∧ zz7 ∧ zz16 ∧ zz7 ∧ zz8 ∧ zz7 ∧ zz16 ∧ zz7 ∧ zz8 ∧ zz7 ∧ zz16 ∧ zz7 ∧ zz8 ∧ zz7 ∧ zz16 ∧ zz7 ∧ zz8 ∧ zz7 ∧ zz16 ∧ True); let zz25 := fun (i : Nat) => (DV.int .i64 ((i : Nat) : Int) = DV.int .i64 ((i : Nat) : Int)); let zz26 := fun (i : Nat) => (fillCh (toPxs xs) Px.b i = fillCh (toPxs xs) Px.b i); let zz27 := fun (i : Nat) => (fillCh (toPxs xs) Px.c i = fillCh (toPxs xs) Px.c i); let zz28 := fun (i : Nat) => (fillCh (toPxs xs) Px.al i = fillCh (toPxs xs) Px.al i); let zz29 := fun (i : Nat) => (fillCh (toPxs xs) Px.f i = fillCh (toPxs xs) Px.f i); let zz30 := fun (i : Nat) => (0 ≤ ((i : Nat) : Int) ∧ ((i : Nat) : Int) < ((n : Nat) : Int) ∧ ((i : Nat) : Int).toNat * 5 < xs.length); let zz31 := fun (i : Nat) => (0 ≤ ((i : Nat) : Int) ∧ ((i : Nat) : Int) < (((IntKind.wrap .i64 (w * h)).toNat : Nat) : Int)); let zz32 := fun (i : Nat) => (List.set (fillCh (toPxs xs) Px.a i) (((i : Nat) : Int).toNat * 1) (DV.int .u16 (nAt xs (((i : Nat) : Int).toNat * 5 + 0 + 0))) = List.set (fillCh (toPxs xs) Px.a i) (((i : Nat) : Int).toNat * 1) (DV.int .u16 (nAt xs (((i : Nat) : Int).toNat * 5 + 0 + 0)))); let zz33 := fun (i : Nat) => (List.set (fillCh (toPxs xs) Px.b i) (((i : Nat) : Int).toNat * 1) (DV.int .u16 (nAt xs (((i : Nat) : Int).toNat * 5 + 0 + 1))) = List.set (fillCh (toPxs xs) Px.b i) (((i : Nat) : Int).toNat * 1) (DV.int .u16 (nAt xs (((i : Nat) : Int).toNat * 5 + 0 + 1)))); True ∧ True ∧ True ∧ True ∧ (Ans Tryd.prog 58 [RV.d (DV.int .i64 w), RV.d (DV.int .i64 h)] (RV.d (DV.bool (fitsP w h)))) ∧ True ∧ True ∧ (((!(fitsP w h)) = false → True ∧ True ∧ True ∧ True ∧ True ∧ True ∧ True ∧ (((((n : Nat) : Int) != (IntKind.wrap .i64 (w * h))) = true → True ∧ True ∧ True ∧ zz6 ∧ freshOK ⟨AV.tup [(imV 0 (imOf w h (toPxs xs))), AV.one (Cl.d (DV.bool (ofOk w h n)))], (imB 27 (imOf w h (toPxs xs))), true⟩) ∧ ((((n : Nat) : Int) != (IntKind.wrap .i64 (w * h))) = false → True ∧ True ∧ True ∧ True ∧ True ∧ True ∧ (∃ _u : Unit, True ∧ ((zz7 ∧ zz8 ∧ (DV.sl n xs = DV.sl n xs) ∧ (0 = 0) ∧ (0 = 0) ∧ zz9 ∧ True) ∧ (zz12 ∧ (zz7 ∧ zz8 ∧ zz10 ∧ zz11 ∧ zz11 ∧ zz11 ∧ zz11 ∧ zz11 ∧ zz9 ∧ zz9 ∧ zz9 ∧ True ∧ zz9 ∧ zz9 ∧ zz9 ∧ True ∧ zz9 ∧ zz9 ∧ zz9 ∧ True ∧ zz9 ∧ zz9 ∧ zz9 ∧ True ∧ zz9 ∧ zz9 ∧ zz9 ∧ True ∧ True) ∧ True))) ∧ ((∀ _u : Unit, (True) → True ∧ True ∧ (decide ((0 : Int) < (5 : Int)) = true ∧ True ∧ True ∧ True ∧ True ∧ True ∧ True ∧ True ∧ zz13 ∧ True ∧ True ∧ zz14 ∧ True ∧ True ∧ True ∧ True ∧ ∃ _u : Unit, True ∧ ((zz7 ∧ zz8 ∧ (DV.sl n xs = DV.sl n xs) ∧ (0 = 0) ∧ (0 = 0) ∧ zz15 ∧ True) ∧ (zz12 ∧ (zz7 ∧ zz8 ∧ zz10 ∧ zz11 ∧ zz11 ∧ zz11 ∧ zz11 ∧ zz11 ∧ zz7 ∧ zz8 ∧ zz7 ∧ zz16 ∧ zz9 ∧ zz9 ∧ zz9 ∧ True ∧ zz9 ∧ zz9 ∧ zz9 ∧ True ∧ zz9 ∧ zz9 ∧ zz9 ∧ True ∧ zz9 ∧ zz9 ∧ zz9 ∧ True ∧ True) ∧ zz17 ∧ True)))) ∧ (∀ _u : Unit, (True) → True ∧ True ∧ (decide ((1 : Int) < (5 : Int)) = true ∧ True ∧ True ∧ True ∧ True ∧ True ∧ True ∧ True ∧ zz13 ∧ True ∧ True ∧ zz18 ∧ True ∧ True ∧ True ∧ True ∧ ∃ _u : Unit, True ∧ ((zz7 ∧ zz8 ∧ (DV.sl n xs = DV.sl n xs) ∧ (0 = 0) ∧ (0 = 0) ∧ zz19 ∧ True) ∧ (zz12 ∧ (zz7 ∧ zz8 ∧ zz10 ∧ zz11 ∧ zz11 ∧ zz11 ∧ zz11 ∧ zz11 ∧ zz7 ∧ zz8 ∧ zz7 ∧ zz16 ∧ zz7 ∧ zz8 ∧ zz7 ∧ zz16 ∧ zz9 ∧ zz9 ∧ zz9 ∧ True ∧ zz9 ∧ zz9 ∧ zz9 ∧ True ∧ zz9 ∧ zz9 ∧ zz9 ∧ True ∧ True) ∧ zz17 ∧ zz17 ∧ True)))) ∧ (∀ _u : Unit, (True) → True ∧ True ∧ (decide ((2 : Int) < (5 : Int)) = true ∧ True ∧ True ∧ True ∧ True ∧ True ∧ True ∧ True ∧ zz13 ∧ True ∧ True ∧ zz20 ∧ True ∧ True ∧ True ∧ True ∧ ∃ _u : Unit, True ∧ ((zz7 ∧ zz8 ∧ (DV.sl n xs = DV.sl n xs) ∧ (0 = 0) ∧ (0 = 0) ∧ zz21 ∧ True) ∧ (zz12 ∧ (zz7 ∧ zz8 ∧ zz10 ∧ zz11 ∧ zz11 ∧ zz11 ∧ zz11 ∧ zz11 ∧ zz7 ∧ zz8 ∧ zz7 ∧ zz16 ∧ zz7 ∧ zz8 ∧ zz7 ∧ zz16 ∧ zz7 ∧ zz8 ∧ zz7 ∧ zz16 ∧ zz9 ∧ zz9 ∧ zz9 ∧ True ∧ zz9 ∧ zz9 ∧ zz9 ∧ True ∧ True) ∧ zz17 ∧ zz17 ∧ zz17 ∧ True)))) ∧ (∀ _u : Unit, (True) → True ∧ True ∧ (decide ((3 : Int) < (5 : Int)) = true ∧ True ∧ True ∧ True ∧ True ∧ True ∧ True ∧ True ∧ zz13 ∧ True ∧ True ∧ zz22 ∧ True ∧ True ∧ True ∧ True ∧ ∃ _u : Unit, True ∧ ((zz7 ∧ zz8 ∧ (DV.sl n xs = DV.sl n xs) ∧ (0 = 0) ∧ (0 = 0) ∧ (DV.int .i64 (IntKind.wrap .i64 ((3 : Int) + (1 : Int))) = DV.int .i64 4) ∧ True) ∧ (zz12 ∧ (zz7 ∧ zz8 ∧ zz10 ∧ zz11 ∧ zz11 ∧ zz11 ∧ zz11 ∧ zz11 ∧ zz7 ∧ zz8 ∧ zz7 ∧ zz16 ∧ zz7 ∧ zz8 ∧ zz7 ∧ zz16 ∧ zz7 ∧ zz8 ∧ zz7 ∧ zz16 ∧ zz7 ∧ zz8 ∧ zz7 ∧ zz16 ∧ zz9 ∧ zz9 ∧ zz9 ∧ True ∧ True) ∧ zz17 ∧ zz17 ∧ zz17 ∧ zz17 ∧ True)))) ∧ (∀ _u : Unit, (True) → True ∧ True ∧ (decide ((4 : Int) < (5 : Int)) = true ∧ True ∧ True ∧ True ∧ True ∧ True ∧ True ∧ True ∧ zz13 ∧ True ∧ True ∧ zz23 ∧ True ∧ True ∧ True ∧ True ∧ ∃ _u : Unit, True ∧ ((zz7 ∧ zz8 ∧ (DV.sl n xs = DV.sl n xs) ∧ (0 = 0) ∧ (0 = 0) ∧ (DV.int .i64 (IntKind.wrap .i64 ((4 : Int) + (1 : Int))) = DV.int .i64 5) ∧ True) ∧ (zz12 ∧ zz24 ∧ zz17 ∧ zz17 ∧ zz17 ∧ zz17 ∧ zz17 ∧ True)))) ∧ (∀ _u : Unit, (True) → True ∧ True ∧ (decide ((5 : Int) < (5 : Int)) = false ∧ True ∧ ((∃ i : Nat, (i ≤ n) ∧ (((DV.sl n xs = DV.sl n xs) ∧ (0 = 0) ∧ (0 = 0) ∧ (DV.int .i64 0 = DV.int .i64 ((i : Nat) : Int)) ∧ True) ∧ (zz12 ∧ zz24 ∧ (List.replicate (IntKind.wrap .i64 (w * h)).toNat (DV.int .u16 0) = fillCh (toPxs xs) Px.a i) ∧ (List.replicate (IntKind.wrap .i64 (w * h)).toNat (DV.int .u16 0) = fillCh (toPxs xs) Px.b i) ∧ (List.replicate (IntKind.wrap .i64 (w * h)).toNat (DV.int .u16 0) = fillCh (toPxs xs) Px.c i) ∧ (List.replicate (IntKind.wrap .i64 (w * h)).toNat (DV.int .u16 0) = fillCh (toPxs xs) Px.al i) ∧ (List.replicate (IntKind.wrap .i64 (w * h)).toNat (DV.int .u16 0) = fillCh (toPxs xs) Px.f i) ∧ True))) ∧ ∀ i : Nat, (i ≤ n) → True ∧ True ∧ True ∧ True ∧ (((decide (((i : Nat) : Int) < ((n : Nat) : Int))) = true → True ∧ (∃ _u : Unit, True ∧ (((DV.sl n xs = DV.sl n xs) ∧ (0 = 0) ∧ (0 = 0) ∧ (zz25 i) ∧ zz9 ∧ True) ∧ (zz12 ∧ zz24 ∧ (fillCh (toPxs xs) Px.a i = fillCh (toPxs xs) Px.a i) ∧ (zz26 i) ∧ (zz27 i) ∧ (zz28 i) ∧ (zz29 i) ∧ True))) ∧ ((∀ _u : Unit, (True) → True ∧ True ∧ (decide ((0 : Int) < (3 : Int)) = true ∧ True ∧ True ∧ zz14 ∧ True ∧ True ∧ True ∧ True ∧ True ∧ True ∧ (zz30 i) ∧ True ∧ (0 ≤ (0 : Int) ∧ (0 : Int) < ((3 : Nat) : Int)) ∧ ((xs[((i : Nat) : Int).toNat * 5 + 0 + 0]? = some (DV.int .u16 (nAt xs (((i : Nat) : Int).toNat * 5 + 0 + 0)))) ∧ True) ∧ (zz31 i) ∧ (((i : Nat) : Int).toNat * 1 + 1 ≤ (fillCh (toPxs xs) Px.a i).length) ∧ (true = true) ∧ True ∧ True ∧ True ∧ ∃ _u : Unit, True ∧ (((DV.sl n xs = DV.sl n xs) ∧ (0 = 0) ∧ (0 = 0) ∧ (zz25 i) ∧ zz15 ∧ True) ∧ (zz12 ∧ zz24 ∧ (zz32 i) ∧ (zz26 i) ∧ (zz27 i) ∧ (zz28 i) ∧ (zz29 i) ∧ True)))) ∧ (∀ _u : Unit, (True) → True ∧ True ∧ (decide ((1 : Int) < (3 : Int)) = true ∧ True ∧ True ∧ zz18 ∧ True ∧ True ∧ True ∧ True ∧ True ∧ True ∧ (zz30 i) ∧ True ∧ (0 ≤ (1 : Int) ∧ (1 : Int) < ((3 : Nat) : Int)) ∧ ((xs[((i : Nat) : Int).toNat * 5 + 0 + 1]? = some (DV.int .u16 (nAt xs (((i : Nat) : Int).toNat * 5 + 0 + 1)))) ∧ True) ∧ (zz31 i) ∧ (((i : Nat) : Int).toNat * 1 + 1 ≤ (fillCh (toPxs xs) Px.b i).length) ∧ (true = true) ∧ True ∧ True ∧ True ∧ ∃ _u : Unit, True ∧ (((DV.sl n xs = DV.sl n xs) ∧ (0 = 0) ∧ (0 = 0) ∧ (zz25 i) ∧ zz19 ∧ True) ∧ (zz12 ∧ zz24 ∧ (zz32 i) ∧ (zz33 i) ∧ (zz27 i) ∧ (zz28 i) ∧ (zz29 i) ∧ True)))) ∧ (∀ _u : Unit, (True) → True ∧ True ∧ (decide ((2 : Int) < (3 : Int)) = true ∧ True ∧ True ∧ zz20 ∧ True ∧ True ∧ True ∧ True ∧ True ∧ True ∧ (zz30 i) ∧ True ∧ (0 ≤ (2 : Int) ∧ (2 : Int) < ((3 : Nat) : Int)) ∧ ((xs[((i : Nat) : Int).toNat * 5 + 0 + 2]? = some (DV.int .u16 (nAt xs (((i : Nat) : Int).toNat * 5 + 0 + 2)))) ∧ True) ∧ (zz31 i) ∧ (((i : Nat) : Int).toNat * 1 + 1 ≤ (fillCh (toPxs xs) Px.c i).length) ∧ (true = true) ∧ True ∧ True ∧ True ∧ ∃ _u : Unit, True ∧ (((DV.sl n xs = DV.sl n xs) ∧ (0 = 0) ∧ (0 = 0) ∧ (zz25 i) ∧ zz21 ∧ True) ∧ (zz12 ∧ zz24 ∧ (zz32 i) ∧ (zz33 i) ∧ (List.set (fillCh (toPxs xs) Px.c i) (((i : Nat) : Int).toNat * 1) (DV.int .u16 (nAt xs (((i : Nat) : Int).toNat * 5 + 0 + 2))) = List.set (fillCh (toPxs xs) Px.c i) (((i : Nat) : Int).toNat * 1) (DV.int .u16 (nAt xs (((i : Nat) : Int).toNat * 5 + 0 + 2)))) ∧ (zz28 i) ∧ (zz29 i) ∧ True)))) ∧ (∀ _u : Unit, (True) → True ∧ True ∧ (decide ((3 : Int) < (3 : Int)) = false ∧ True ∧ zz22 ∧ True ∧ True ∧ True ∧ True ∧ zz23 ∧ True ∧ True ∧ True ∧ True ∧ True ∧ (zz30 i) ∧ True ∧ ((xs[((i : Nat) : Int).toNat * 5 + 3]? = some (DV.int .u16 (nAt xs (((i : Nat) : Int).toNat * 5 + 3)))) ∧ True) ∧ True ∧ True ∧ (zz30 i) ∧ True ∧ ((xs[((i : Nat) : Int).toNat * 5 + 4]? = some (DV.int .u16 (nAt xs (((i : Nat) : Int).toNat * 5 + 4)))) ∧ True) ∧ (zz31 i) ∧ (((i : Nat) : Int).toNat * 1 + 1 ≤ (fillCh (toPxs xs) Px.al i).length) ∧ (zz31 i) ∧ (((i : Nat) : Int).toNat * 1 + 1 ≤ (fillCh (toPxs xs) Px.f i).length) ∧ (true = true) ∧ True ∧ True ∧ True ∧ ∃ i' : Nat, (i' ≤ n) ∧ (n - i' < n - i) ∧ (((DV.sl n xs = DV.sl n xs) ∧ (0 = 0) ∧ (0 = 0) ∧ (DV.int .i64 (IntKind.wrap .i64 (((i : Nat) : Int) + (1 : Int))) = DV.int .i64 ((i' : Nat) : Int)) ∧ True) ∧ (zz12 ∧ zz24 ∧ (List.set (fillCh (toPxs xs) Px.a i) (((i : Nat) : Int).toNat * 1) (DV.int .u16 (nAt xs (((i : Nat) : Int).toNat * 5 + 0 + 0))) = fillCh (toPxs xs) Px.a i') ∧ (List.set (fillCh (toPxs xs) Px.b i) (((i : Nat) : Int).toNat * 1) (DV.int .u16 (nAt xs (((i : Nat) : Int).toNat * 5 + 0 + 1))) = fillCh (toPxs xs) Px.b i') ∧ (List.set (fillCh (toPxs xs) Px.c i) (((i : Nat) : Int).toNat * 1) (DV.int .u16 (nAt xs (((i : Nat) : Int).toNat * 5 + 0 + 2))) = fillCh (toPxs xs) Px.c i') ∧ (List.set (fillCh (toPxs xs) Px.al i) (((i : Nat) : Int).toNat * 1) (DV.int .u16 (nAt xs (((i : Nat) : Int).toNat * 5 + 3))) = fillCh (toPxs xs) Px.al i') ∧ (List.set (fillCh (toPxs xs) Px.f i) (((i : Nat) : Int).toNat * 1) (DV.int .u16 (nAt xs (((i : Nat) : Int).toNat * 5 + 4))) = fillCh (toPxs xs) Px.f i') ∧ True)))) ∧ True)) ∧ ((decide (((i : Nat) : Int) < ((n : Nat) : Int))) = false → True ∧ True ∧ True ∧ (((((DV.int .i64 w = DV.int .i64 ((imOf w h (toPxs xs)).w)) ∧ (DV.int .i64 h = DV.int .i64 ((imOf w h (toPxs xs)).h)) ∧ zz0 ∧ zz1 ∧ zz2 ∧ zz3 ∧ zz4 ∧ zz5 ∧ (DV.int .i64 w = DV.int .i64 ((imOf w h (toPxs xs)).p0.w)) ∧ (DV.int .i64 h = DV.int .i64 ((imOf w h (toPxs xs)).p0.h)) ∧ (DV.int .i64 w = DV.int .i64 ((imOf w h (toPxs xs)).p0.s)) ∧ ((IntKind.wrap .i64 (w * h)).toNat = (imOf w h (toPxs xs)).p0.n) ∧ (DV.int .i64 w = DV.int .i64 ((imOf w h (toPxs xs)).p1.w)) ∧ (DV.int .i64 h = DV.int .i64 ((imOf w h (toPxs xs)).p1.h)) ∧ (DV.int .i64 w = DV.int .i64 ((imOf w h (toPxs xs)).p1.s)) ∧ ((IntKind.wrap .i64 (w * h)).toNat = (imOf w h (toPxs xs)).p1.n) ∧ (DV.int .i64 w = DV.int .i64 ((imOf w h (toPxs xs)).p2.w)) ∧ (DV.int .i64 h = DV.int .i64 ((imOf w h (toPxs xs)).p2.h)) ∧ (DV.int .i64 w = DV.int .i64 ((imOf w h (toPxs xs)).p2.s)) ∧ ((IntKind.wrap .i64 (w * h)).toNat = (imOf w h (toPxs xs)).p2.n) ∧ (DV.int .i64 w = DV.int .i64 ((imOf w h (toPxs xs)).p3.w)) ∧ (DV.int .i64 h = DV.int .i64 ((imOf w h (toPxs xs)).p3.h)) ∧ (DV.int .i64 w = DV.int .i64 ((imOf w h (toPxs xs)).p3.s)) ∧ ((IntKind.wrap .i64 (w * h)).toNat = (imOf w h (toPxs xs)).p3.n) ∧ (DV.int .i64 w = DV.int .i64 ((imOf w h (toPxs xs)).p4.w)) ∧ (DV.int .i64 h = DV.int .i64 ((imOf w h (toPxs xs)).p4.h)) ∧ (DV.int .i64 w = DV.int .i64 ((imOf w h (toPxs xs)).p4.s)) ∧ ((IntKind.wrap .i64 (w * h)).toNat = (imOf w h (toPxs xs)).p4.n) ∧ True) ∧ (DV.bool true = DV.bool (ofOk w h n)) ∧ True) ∧ True) ∧ ((fillCh (toPxs xs) Px.a i = (imOf w h (toPxs xs)).p0.xs) ∧ (fillCh (toPxs xs) Px.b i = (imOf w h (toPxs xs)).p1.xs) ∧ (fillCh (toPxs xs) Px.c i = (imOf w h (toPxs xs)).p2.xs) ∧ (fillCh (toPxs xs) Px.al i = (imOf w h (toPxs xs)).p3.xs) ∧ (fillCh (toPxs xs) Px.f i = (imOf w h (toPxs xs)).p4.xs) ∧ True)) ∧ freshOK ⟨AV.tup [(imV 0 (imOf w h (toPxs xs))), AV.one (Cl.d (DV.bool (ofOk w h n)))], (imB 27 (imOf w h (toPxs xs))), true⟩))))) ∧ True)))) ∧ ((!(fitsP w h)) = (!false) → True ∧ True ∧ True ∧ True ∧ zz6 ∧ freshOK ⟨AV.tup [(imV 0 (imOf w h (toPxs xs))), AV.one (Cl.d (DV.bool (ofOk w h n)))], (imB 27 (imOf w h (toPxs xs))), true⟩))) := by kernel_rfl
theorem R13_ImageOf_ans (w : Int) (h : Int) (n : Nat) (xs : List DV) (hx : IsPxs n xs) : AnsG Tryd.prog 44 0 [AV.one (Cl.d (DV.int .i64 w)), AV.one (Cl.d (DV.int .i64 h)), AV.one (Cl.d (DV.sl n xs))] [] ⟨AV.tup [AV.agg [Cl.d (DV.int .i64 ((imOf w h (toPxs xs)).w)), Cl.d (DV.int .i64 ((imOf w h (toPxs xs)).h)), Cl.d (DV.bool ((imOf w h (toPxs xs)).so)), Cl.d (DV.int .u16 ((imOf w h (toPxs xs)).c.a)), Cl.d (DV.int .u16 ((imOf w h (toPxs xs)).c.b)), Cl.d (DV.int .u16 ((imOf w h (toPxs xs)).c.c)), Cl.d (DV.int .u16 ((imOf w h (toPxs xs)).c.al)), Cl.d (DV.int .u16 ((imOf w h (toPxs xs)).c.f)), Cl.d (DV.int .i64 ((imOf w h (toPxs xs)).p0.w)), Cl.d (DV.int .i64 ((imOf w h (toPxs xs)).p0.h)), Cl.d (DV.int .i64 ((imOf w h (toPxs xs)).p0.s)), Cl.ref 0 ((imOf w h (toPxs xs)).p0.n), Cl.d (DV.int .i64 ((imOf w h (toPxs xs)).p1.w)), Cl.d (DV.int .i64 ((imOf w h (toPxs xs)).p1.h)), Cl.d (DV.int .i64 ((imOf w h (toPxs xs)).p1.s)), Cl.ref 1 ((imOf w h (toPxs xs)).p1.n), Cl.d (DV.int .i64 ((imOf w h (toPxs xs)).p2.w)), Cl.d (DV.int .i64 ((imOf w h (toPxs xs)).p2.h)), Cl.d (DV.int .i64 ((imOf w h (toPxs xs)).p2.s)), Cl.ref 2 ((imOf w h (toPxs xs)).p2.n), Cl.d (DV.int .i64 ((imOf w h (toPxs xs)).p3.w)), Cl.d (DV.int .i64 ((imOf w h (toPxs xs)).p3.h)), Cl.d (DV.int .i64 ((imOf w h (toPxs xs)).p3.s)), Cl.ref 3 ((imOf w h (toPxs xs)).p3.n), Cl.d (DV.int .i64 ((imOf w h (toPxs xs)).p4.w)), Cl.d (DV.int .i64 ((imOf w h (toPxs xs)).p4.h)), Cl.d (DV.int .i64 ((imOf w h (toPxs xs)).p4.s)), Cl.ref 4 ((imOf w h (toPxs xs)).p4.n)], AV.one (Cl.d (DV.bool (ofOk w h n)))], [Bx.row 27 1 ((imOf w h (toPxs xs)).p0.xs), Bx.row 27 1 ((imOf w h (toPxs xs)).p1.xs), Bx.row 27 1 ((imOf w h (toPxs xs)).p2.xs), Bx.row 27 1 ((imOf w h (toPxs xs)).p3.xs), Bx.row 27 1 ((imOf w h (toPxs xs)).p4.xs)], true⟩ :=
  ansG_of_vcg (Γ := gamI) (R13_ImageOf_ann w h n xs) mixed_ Tryd.func44 rfl (Nat.le_of_ble_eq_true rfl) rfl fun hwf hbx => by
    refine Eq.mpr (R13_ImageOf_vc w h n xs) ?_
    simp only [true_and, and_true, RV.d.injEq, RV.agg.injEq, RV.tup.injEq, DV.bool.injEq, DV.int.injEq, DV.sl.injEq, List.cons.injEq, forall_const, Bool.not_false, Bool.not_true, Bool.not_eq_true', Bool.not_eq_false', decide_eq_true_eq, decide_eq_false_iff_not, Int.toNat_natCast, G_Mod_ans, R13_fits_ans]
    obtain ⟨l, rfl, rfl⟩ := hx.of
    simp only [toPxs_pxs, imV, imB, freshOK, AV.flatV, AV.flatVL, Cl.flatV, flatVs, Bx.flatVL, Bx.flatV, imOf_flats, true_and, and_true]
    simp only [DV.flat, true_and, and_true]
    have no : ∀ {P : Prop}, (imOf w h l = Im.zero → ofOk w h l.length = false → P) → (ofOk w h l.length = false) → P := fun f h => f (imOf_no h) h
    have le := @fits_le w h
    refine ⟨fun q1 => ⟨fun q2 => ?_, fun q2 => ?_⟩, fun q1 => ?_⟩
    · obtain ⟨f1, f2, f3, f4, f5⟩ := le q1
      have wm : IntKind.wrap .i64 (w * h) = w * h := IntWalk.i64_in _ ⟨by have := Int.mul_nonneg (a := w) (b := h) (by omega) (by omega); omega, by omega⟩
      refine no (fun e1 e2 => ?_) (by rw [wm] at q2; simp [ofOk, q1]; simpa using q2)
      rw [e1, e2]; simp [Im.zero, Px.zero, Pl.none]
    · obtain ⟨f1, f2, f3, f4, f5⟩ := le q1
      have wm : IntKind.wrap .i64 (w * h) = w * h := IntWalk.i64_in _ ⟨by have := Int.mul_nonneg (a := w) (b := h) (by omega) (by omega); omega, by omega⟩
      have hl : (l.length : Int) = w * h := by rw [wm] at q2; simpa using q2
      have hk : ofOk w h l.length = true := by simp [ofOk, q1, hl]
      have hb : l.length ≤ 16777216 := by omega
      rw [hk, imOf_ok hk]
      simp only [ofIm, Px.zero, maxLen, wm]
      simp only [← hl, Int.toNat_natCast, Nat.add_zero]
      (repeat' (first | apply And.intro | intro)) <;> (first | (exact ⟨0, by omega, rfl, (fillCh_zero _ _).symm, (fillCh_zero _ _).symm, (fillCh_zero _ _).symm, (fillCh_zero _ _).symm, (fillCh_zero _ _).symm⟩) | (first | assumption | rfl | omega | (exact ⟨0, by omega, rfl, (fillCh_zero _ _).symm⟩) | exact pxs_get0 (by omega) | exact pxs_get (j := 1) (by omega) (by omega) | exact pxs_get (j := 2) (by omega) (by omega) | exact pxs_get (j := 3) (by omega) (by omega) | exact pxs_get (j := 4) (by omega) (by omega) | (rw [pxs_length]; omega) | (rw [fillCh_len (by assumption)]; omega) | exact ofStep (by assumption) (by assumption) (fun h => (pxs_nAt h).1) | exact ofStep (by assumption) (by assumption) (fun h => (pxs_nAt h).2.1) | exact ofStep (by assumption) (by assumption) (fun h => (pxs_nAt h).2.2.1) | exact ofStep (by assumption) (by assumption) (fun h => (pxs_nAt h).2.2.2.1) | exact ofStep (by assumption) (by assumption) (fun h => (pxs_nAt h).2.2.2.2) | exact ⟨(), by decide, ofEnd (by assumption) (by assumption)⟩ | exact ⟨(), trivial⟩ | exact ⟨(), by decide⟩ | exact fillCh_all _ _ | (rw [ofEnd (by assumption) (by assumption)]; exact fillCh_all _ _) | exact ofSteps (by assumption) (by assumption) (fun h => (pxs_nAt h).1) (fun h => (pxs_nAt h).2.1) (fun h => (pxs_nAt h).2.2.1) (fun h => (pxs_nAt h).2.2.2.1) (fun h => (pxs_nAt h).2.2.2.2) | (rw [fillCh_len (by omega)]; omega) | decide))
    · refine no (fun e1 e2 => ?_) (by simp [ofOk, q1])
      rw [e1, e2]; simp [Im.zero, Px.zero, Pl.none]

end Go.Proofs.YtcaokljobfkajaaDoor

/-
  Images: equality.
-/
namespace Go.Proofs.YtcaokljobfkajaaDoor
open Go.RowKit
set_option linter.unusedVariables false
set_option linter.unusedSimpArgs false
attribute [local irreducible] Ans AnsO AnsG AnsN AnsI

set_option maxRecDepth 4000

end Go.Proofs.YtcaokljobfkajaaDoor

/-
  Images: awake.
-/
namespace Go.Proofs.YtcaokljobfkajaaDoor
open Go.RowKit
set_option linter.unusedVariables false
set_option linter.unusedSimpArgs false
attribute [local irreducible] Ans AnsO AnsG AnsN AnsI

set_option maxRecDepth 4000
def pxR (p : Px) : RV := RV.agg [DV.int .u16 p.a, DV.int .u16 p.b, DV.int .u16 p.c, DV.int .u16 p.al, DV.int .u16 p.f]
theorem R13_ImageOf_im (w h : Int) (n : Nat) (xs : List DV) (hx : IsPxs n xs) : AnsG Tryd.prog 44 0 [AV.one (Cl.d (DV.int .i64 w)), AV.one (Cl.d (DV.int .i64 h)), AV.one (Cl.d (DV.sl n xs))] [] ⟨AV.tup [imV 0 (imOf w h (toPxs xs)), AV.one (Cl.d (DV.bool (ofOk w h n)))], imB 27 (imOf w h (toPxs xs)), true⟩ := R13_ImageOf_ans w h n xs hx
theorem R13_Solid_im (w h : Int) (c : Px) : Ans Tryd.prog 26 [RV.d (DV.int .i64 w), RV.d (DV.int .i64 h), pxR c] (imR (solidIm w h c)) := R13_Solid_ans w h c.a c.b c.c c.al c.f

end Go.Proofs.YtcaokljobfkajaaDoor

/-
  Images that the generators make.
-/
namespace Go.Proofs.YtcaokljobfkajaaDoor
open Go.RowKit
set_option linter.unusedVariables false
set_option linter.unusedSimpArgs false
attribute [local irreducible] Ans AnsO AnsG AnsN AnsI

set_option maxRecDepth 4000
end Go.Proofs.YtcaokljobfkajaaDoor

/-
  The generator's images, as data.
-/
namespace Go.Proofs.YtcaokljobfkajaaDoor
open Go.RowKit
set_option linter.unusedVariables false
set_option linter.unusedSimpArgs false
attribute [local irreducible] Ans AnsO AnsG AnsN AnsI

set_option maxRecDepth 4000
def gamSb : Gam where
 pure := fun f xs =>
  if f = 9 then (match xs with | [.d (.int _ n), .d (.int _ k)] => some (RV.d (DV.int .i64 (modS n k))) | _ => none) else
  if f = 43 then (match xs with | [] => some (RV.tup [RV.tup [RV.d (DV.int .i64 43), RV.d (DV.int .i64 5)]]) | [.agg [.int _ mood, .sl L xs], .d (.int _ n), .d (.int _ most)] => some (RV.d (DV.sl n.toNat (pxs (gPixels mood L xs most n.toNat)))) | _ => none) else
  if f = 26 then (match xs with | [.d (.int _ w), .d (.int _ h), .agg [.int _ c0, .int _ c1, .int _ c2, .int _ ca, .int _ cf]] => some (RV.agg [DV.int .i64 ((solidIm w h ⟨c0, c1, c2, ca, cf⟩).w), DV.int .i64 ((solidIm w h ⟨c0, c1, c2, ca, cf⟩).h), DV.bool ((solidIm w h ⟨c0, c1, c2, ca, cf⟩).so), DV.int .u16 (((solidIm w h ⟨c0, c1, c2, ca, cf⟩).c).a), DV.int .u16 (((solidIm w h ⟨c0, c1, c2, ca, cf⟩).c).b), DV.int .u16 (((solidIm w h ⟨c0, c1, c2, ca, cf⟩).c).c), DV.int .u16 (((solidIm w h ⟨c0, c1, c2, ca, cf⟩).c).al), DV.int .u16 (((solidIm w h ⟨c0, c1, c2, ca, cf⟩).c).f), DV.int .i64 (((solidIm w h ⟨c0, c1, c2, ca, cf⟩).p0).w), DV.int .i64 (((solidIm w h ⟨c0, c1, c2, ca, cf⟩).p0).h), DV.int .i64 (((solidIm w h ⟨c0, c1, c2, ca, cf⟩).p0).s), DV.sl (((solidIm w h ⟨c0, c1, c2, ca, cf⟩).p0).n) (((solidIm w h ⟨c0, c1, c2, ca, cf⟩).p0).xs), DV.int .i64 (((solidIm w h ⟨c0, c1, c2, ca, cf⟩).p1).w), DV.int .i64 (((solidIm w h ⟨c0, c1, c2, ca, cf⟩).p1).h), DV.int .i64 (((solidIm w h ⟨c0, c1, c2, ca, cf⟩).p1).s), DV.sl (((solidIm w h ⟨c0, c1, c2, ca, cf⟩).p1).n) (((solidIm w h ⟨c0, c1, c2, ca, cf⟩).p1).xs), DV.int .i64 (((solidIm w h ⟨c0, c1, c2, ca, cf⟩).p2).w), DV.int .i64 (((solidIm w h ⟨c0, c1, c2, ca, cf⟩).p2).h), DV.int .i64 (((solidIm w h ⟨c0, c1, c2, ca, cf⟩).p2).s), DV.sl (((solidIm w h ⟨c0, c1, c2, ca, cf⟩).p2).n) (((solidIm w h ⟨c0, c1, c2, ca, cf⟩).p2).xs), DV.int .i64 (((solidIm w h ⟨c0, c1, c2, ca, cf⟩).p3).w), DV.int .i64 (((solidIm w h ⟨c0, c1, c2, ca, cf⟩).p3).h), DV.int .i64 (((solidIm w h ⟨c0, c1, c2, ca, cf⟩).p3).s), DV.sl (((solidIm w h ⟨c0, c1, c2, ca, cf⟩).p3).n) (((solidIm w h ⟨c0, c1, c2, ca, cf⟩).p3).xs), DV.int .i64 (((solidIm w h ⟨c0, c1, c2, ca, cf⟩).p4).w), DV.int .i64 (((solidIm w h ⟨c0, c1, c2, ca, cf⟩).p4).h), DV.int .i64 (((solidIm w h ⟨c0, c1, c2, ca, cf⟩).p4).s), DV.sl (((solidIm w h ⟨c0, c1, c2, ca, cf⟩).p4).n) (((solidIm w h ⟨c0, c1, c2, ca, cf⟩).p4).xs)]) | _ => none) else
  none
 modes := fun f =>
  if f = 44 then some ([true, true, true], 0, 5) else
  none
 proc := fun f xs bs =>
  if f = 44 then (match xs, bs with | [AV.one (Cl.d (DV.int _ w)), AV.one (Cl.d (DV.int _ h)), AV.one (Cl.d (DV.sl n xs))], [] => some ⟨AV.tup [AV.agg [Cl.d (DV.int .i64 ((imOf w h (toPxs xs)).w)), Cl.d (DV.int .i64 ((imOf w h (toPxs xs)).h)), Cl.d (DV.bool ((imOf w h (toPxs xs)).so)), Cl.d (DV.int .u16 ((imOf w h (toPxs xs)).c.a)), Cl.d (DV.int .u16 ((imOf w h (toPxs xs)).c.b)), Cl.d (DV.int .u16 ((imOf w h (toPxs xs)).c.c)), Cl.d (DV.int .u16 ((imOf w h (toPxs xs)).c.al)), Cl.d (DV.int .u16 ((imOf w h (toPxs xs)).c.f)), Cl.d (DV.int .i64 ((imOf w h (toPxs xs)).p0.w)), Cl.d (DV.int .i64 ((imOf w h (toPxs xs)).p0.h)), Cl.d (DV.int .i64 ((imOf w h (toPxs xs)).p0.s)), Cl.ref 0 ((imOf w h (toPxs xs)).p0.n), Cl.d (DV.int .i64 ((imOf w h (toPxs xs)).p1.w)), Cl.d (DV.int .i64 ((imOf w h (toPxs xs)).p1.h)), Cl.d (DV.int .i64 ((imOf w h (toPxs xs)).p1.s)), Cl.ref 1 ((imOf w h (toPxs xs)).p1.n), Cl.d (DV.int .i64 ((imOf w h (toPxs xs)).p2.w)), Cl.d (DV.int .i64 ((imOf w h (toPxs xs)).p2.h)), Cl.d (DV.int .i64 ((imOf w h (toPxs xs)).p2.s)), Cl.ref 2 ((imOf w h (toPxs xs)).p2.n), Cl.d (DV.int .i64 ((imOf w h (toPxs xs)).p3.w)), Cl.d (DV.int .i64 ((imOf w h (toPxs xs)).p3.h)), Cl.d (DV.int .i64 ((imOf w h (toPxs xs)).p3.s)), Cl.ref 3 ((imOf w h (toPxs xs)).p3.n), Cl.d (DV.int .i64 ((imOf w h (toPxs xs)).p4.w)), Cl.d (DV.int .i64 ((imOf w h (toPxs xs)).p4.h)), Cl.d (DV.int .i64 ((imOf w h (toPxs xs)).p4.s)), Cl.ref 4 ((imOf w h (toPxs xs)).p4.n)], AV.one (Cl.d (DV.bool (ofOk w h n)))], [Bx.row 27 1 ((imOf w h (toPxs xs)).p0.xs), Bx.row 27 1 ((imOf w h (toPxs xs)).p1.xs), Bx.row 27 1 ((imOf w h (toPxs xs)).p2.xs), Bx.row 27 1 ((imOf w h (toPxs xs)).p3.xs), Bx.row 27 1 ((imOf w h (toPxs xs)).p4.xs)], true⟩ | _, _ => none) else
  none
 iter := fun f cs =>
  none

def G_ImageD_ann (pw : Int) (ph : Int) (so : Int) (mood : Int) (L : Nat) (xs : List DV) (x0 : Int) (y0 : Int) (x1 : Int) (y1 : Int) (most : Int) : Ann := Ann.leaf
theorem G_ImageD_vc (pw : Int) (ph : Int) (so : Int) (mood : Int) (L : Nat) (xs : List DV) (x0 : Int) (y0 : Int) (x1 : Int) (y1 : Int) (most : Int) : vcg Tryd.prog gamSb 60 (bodyOf Tryd.f25) (G_ImageD_ann pw ph so mood L xs x0 y0 x1 y1 most) kn0 (start [RV.agg [DV.int .i64 pw, DV.int .i64 ph, DV.int .i64 so, DV.int .i64 mood, DV.sl L xs], RV.agg [DV.int .i64 x0, DV.int .i64 y0, DV.int .i64 x1, DV.int .i64 y1], RV.d (DV.int .u16 most)]) (post Tryd.prog Tryd.f25.results.toList (· = RV.agg [DV.int .i64 ((gImage pw ph so mood L xs x0 y0 x1 y1 most).w), DV.int .i64 ((gImage pw ph so mood L xs x0 y0 x1 y1 most).h), DV.bool ((gImage pw ph so mood L xs x0 y0 x1 y1 most).so), DV.int .u16 (((gImage pw ph so mood L xs x0 y0 x1 y1 most).c).a), DV.int .u16 (((gImage pw ph so mood L xs x0 y0 x1 y1 most).c).b), DV.int .u16 (((gImage pw ph so mood L xs x0 y0 x1 y1 most).c).c), DV.int .u16 (((gImage pw ph so mood L xs x0 y0 x1 y1 most).c).al), DV.int .u16 (((gImage pw ph so mood L xs x0 y0 x1 y1 most).c).f), DV.int .i64 (((gImage pw ph so mood L xs x0 y0 x1 y1 most).p0).w), DV.int .i64 (((gImage pw ph so mood L xs x0 y0 x1 y1 most).p0).h), DV.int .i64 (((gImage pw ph so mood L xs x0 y0 x1 y1 most).p0).s), DV.sl (((gImage pw ph so mood L xs x0 y0 x1 y1 most).p0).n) (((gImage pw ph so mood L xs x0 y0 x1 y1 most).p0).xs), DV.int .i64 (((gImage pw ph so mood L xs x0 y0 x1 y1 most).p1).w), DV.int .i64 (((gImage pw ph so mood L xs x0 y0 x1 y1 most).p1).h), DV.int .i64 (((gImage pw ph so mood L xs x0 y0 x1 y1 most).p1).s), DV.sl (((gImage pw ph so mood L xs x0 y0 x1 y1 most).p1).n) (((gImage pw ph so mood L xs x0 y0 x1 y1 most).p1).xs), DV.int .i64 (((gImage pw ph so mood L xs x0 y0 x1 y1 most).p2).w), DV.int .i64 (((gImage pw ph so mood L xs x0 y0 x1 y1 most).p2).h), DV.int .i64 (((gImage pw ph so mood L xs x0 y0 x1 y1 most).p2).s), DV.sl (((gImage pw ph so mood L xs x0 y0 x1 y1 most).p2).n) (((gImage pw ph so mood L xs x0 y0 x1 y1 most).p2).xs), DV.int .i64 (((gImage pw ph so mood L xs x0 y0 x1 y1 most).p3).w), DV.int .i64 (((gImage pw ph so mood L xs x0 y0 x1 y1 most).p3).h), DV.int .i64 (((gImage pw ph so mood L xs x0 y0 x1 y1 most).p3).s), DV.sl (((gImage pw ph so mood L xs x0 y0 x1 y1 most).p3).n) (((gImage pw ph so mood L xs x0 y0 x1 y1 most).p3).xs), DV.int .i64 (((gImage pw ph so mood L xs x0 y0 x1 y1 most).p4).w), DV.int .i64 (((gImage pw ph so mood L xs x0 y0 x1 y1 most).p4).h), DV.int .i64 (((gImage pw ph so mood L xs x0 y0 x1 y1 most).p4).s), DV.sl (((gImage pw ph so mood L xs x0 y0 x1 y1 most).p4).n) (((gImage pw ph so mood L xs x0 y0 x1 y1 most).p4).xs)])) =
  (let zz0 := (IntKind.wrap .i64 (Int.tdiv pw (5 : Int))); let zz1 := [DV.int .i64 mood, DV.sl L xs]; let zz2 := (IntKind.wrap .i64 (x1 - x0)); let zz3 := (IntKind.wrap .i64 (y1 - y0)); let zz4 := (IntKind.wrap .i64 (zz2 * zz3)); let zz5 := (zz4.toNat); let zz6 := (pxs (gPixels mood L xs most zz4.toNat)); let zz7 := (Ans Tryd.prog 9 [RV.d (DV.int .i64 so), RV.d (DV.int .i64 2)] (RV.d (DV.int .i64 (modS so (2 : Int))))); let zz8 := (DV.int .i64 zz2); let zz9 := (DV.int .i64 zz3); let zz10 := (imR (solidIm zz2 zz3 ⟨(nAt zz6 0), (nAt zz6 1), (nAt zz6 2), (nAt zz6 3), (nAt zz6 4)⟩)); let zz11 := (imR (gImage pw ph so mood L xs x0 y0 x1 y1 most)); let zz12 := (IntKind.wrap .i64 ((1 : Int) + (modS pw (5 : Int)))); let zz13 := (IntKind.wrap .i64 ((1 : Int) + (modS ph (4 : Int)))); let zz14 := (IntKind.wrap .i64 (zz12 * zz13)); let zz15 := (zz14.toNat); let zz16 := (pxs (gPixels mood L xs most zz14.toNat)); let zz17 := (DV.int .i64 zz12); let zz18 := (DV.int .i64 zz13); let zz19 := (imR (solidIm zz12 zz13 ⟨(nAt zz16 0), (nAt zz16 1), (nAt zz16 2), (nAt zz16 3), (nAt zz16 4)⟩)); True ∧ True ∧ True ∧ True ∧ True ∧ (Ans Tryd.prog 9 [RV.d (DV.int .i64 pw), RV.d (DV.int .i64 5)] (RV.d (DV.int .i64 (modS pw (5 : Int))))) ∧ True ∧ True ∧ True ∧ (Ans Tryd.prog 9 [RV.d (DV.int .i64 ph), RV.d (DV.int .i64 4)] (RV.d (DV.int .i64 (modS ph (4 : Int))))) ∧ True ∧ True ∧ True ∧ (true = true) ∧ True ∧ True ∧ ((5 : Int) ≠ 0) ∧ (Ans Tryd.prog 9 [RV.d (DV.int .i64 zz0), RV.d (DV.int .i64 3)] (RV.d (DV.int .i64 (modS zz0 (3 : Int))))) ∧ True ∧ ((((modS zz0 (3 : Int)) == (0 : Int)) = true → True ∧ True ∧ True ∧ True ∧ True ∧ True ∧ True ∧ True ∧ True ∧ True ∧ True ∧ True ∧ (true = true) ∧ True ∧ True ∧ True ∧ True ∧ True ∧ True ∧ (AnsO Tryd.prog 43 [RV.agg zz1, RV.d (DV.int .i64 zz4), RV.d (DV.int .u16 most)] 43 5 zz5 zz6) ∧ True ∧ True ∧ True ∧ zz7 ∧ True ∧ ((((modS so (2 : Int)) == (0 : Int)) = true → True ∧ True ∧ True ∧ (0 ≤ (0 : Int) ∧ (0 : Int) < ((zz4.toNat : Nat) : Int)) ∧ ((zz6[0]? = some (DV.int .u16 (nAt zz6 0))) ∧ (zz6[1]? = some (DV.int .u16 (nAt zz6 1))) ∧ (zz6[2]? = some (DV.int .u16 (nAt zz6 2))) ∧ (zz6[3]? = some (DV.int .u16 (nAt zz6 3))) ∧ (zz6[4]? = some (DV.int .u16 (nAt zz6 4))) ∧ True) ∧ (Ans Tryd.prog 26 [RV.d zz8, RV.d zz9, RV.agg [DV.int .u16 (nAt zz6 0), DV.int .u16 (nAt zz6 1), DV.int .u16 (nAt zz6 2), DV.int .u16 (nAt zz6 3), DV.int .u16 (nAt zz6 4)]] (zz10)) ∧ True ∧ zz10 = zz11) ∧ (((modS so (2 : Int)) == (0 : Int)) = false → True ∧ True ∧ True ∧ (AnsG Tryd.prog 44 0 [AV.one (Cl.d zz8), AV.one (Cl.d zz9), AV.one (Cl.d (DV.sl zz5 zz6))] [] ⟨AV.tup [(imV 0 (imOf zz2 zz3 (toPxs zz6))), AV.one (Cl.d (DV.bool (ofOk zz2 zz3 zz5)))], (imB 27 (imOf zz2 zz3 (toPxs zz6))), true⟩) ∧ True ∧ True ∧ True ∧ True ∧ True ∧ True ∧ True ∧ True ∧ (imR (imOf zz2 zz3 (toPxs zz6))) = zz11))) ∧ (((modS zz0 (3 : Int)) == (0 : Int)) = false → True ∧ True ∧ True ∧ True ∧ True ∧ True ∧ (AnsO Tryd.prog 43 [RV.agg zz1, RV.d (DV.int .i64 zz14), RV.d (DV.int .u16 most)] 43 5 zz15 zz16) ∧ True ∧ True ∧ True ∧ zz7 ∧ True ∧ ((((modS so (2 : Int)) == (0 : Int)) = true → True ∧ True ∧ True ∧ (0 ≤ (0 : Int) ∧ (0 : Int) < ((zz14.toNat : Nat) : Int)) ∧ ((zz16[0]? = some (DV.int .u16 (nAt zz16 0))) ∧ (zz16[1]? = some (DV.int .u16 (nAt zz16 1))) ∧ (zz16[2]? = some (DV.int .u16 (nAt zz16 2))) ∧ (zz16[3]? = some (DV.int .u16 (nAt zz16 3))) ∧ (zz16[4]? = some (DV.int .u16 (nAt zz16 4))) ∧ True) ∧ (Ans Tryd.prog 26 [RV.d zz17, RV.d zz18, RV.agg [DV.int .u16 (nAt zz16 0), DV.int .u16 (nAt zz16 1), DV.int .u16 (nAt zz16 2), DV.int .u16 (nAt zz16 3), DV.int .u16 (nAt zz16 4)]] (zz19)) ∧ True ∧ zz19 = zz11) ∧ (((modS so (2 : Int)) == (0 : Int)) = false → True ∧ True ∧ True ∧ (AnsG Tryd.prog 44 0 [AV.one (Cl.d zz17), AV.one (Cl.d zz18), AV.one (Cl.d (DV.sl zz15 zz16))] [] ⟨AV.tup [(imV 0 (imOf zz12 zz13 (toPxs zz16))), AV.one (Cl.d (DV.bool (ofOk zz12 zz13 zz15)))], (imB 27 (imOf zz12 zz13 (toPxs zz16))), true⟩) ∧ True ∧ True ∧ True ∧ True ∧ True ∧ True ∧ True ∧ True ∧ (imR (imOf zz12 zz13 (toPxs zz16))) = zz11))))) := by kernel_rfl
theorem G_ImageD_ans (pw : Int) (ph : Int) (so : Int) (mood : Int) (L : Nat) (xs : List DV) (x0 : Int) (y0 : Int) (x1 : Int) (y1 : Int) (most : Int) (hx : Is5 L xs) (hc : 1 ≤ x1 - x0 ∧ x1 - x0 ≤ 100 ∧ 1 ≤ y1 - y0 ∧ y1 - y0 ≤ 100) : Ans Tryd.prog 25 [RV.agg [DV.int .i64 pw, DV.int .i64 ph, DV.int .i64 so, DV.int .i64 mood, DV.sl L xs], RV.agg [DV.int .i64 x0, DV.int .i64 y0, DV.int .i64 x1, DV.int .i64 y1], RV.d (DV.int .u16 most)] (RV.agg [DV.int .i64 ((gImage pw ph so mood L xs x0 y0 x1 y1 most).w), DV.int .i64 ((gImage pw ph so mood L xs x0 y0 x1 y1 most).h), DV.bool ((gImage pw ph so mood L xs x0 y0 x1 y1 most).so), DV.int .u16 (((gImage pw ph so mood L xs x0 y0 x1 y1 most).c).a), DV.int .u16 (((gImage pw ph so mood L xs x0 y0 x1 y1 most).c).b), DV.int .u16 (((gImage pw ph so mood L xs x0 y0 x1 y1 most).c).c), DV.int .u16 (((gImage pw ph so mood L xs x0 y0 x1 y1 most).c).al), DV.int .u16 (((gImage pw ph so mood L xs x0 y0 x1 y1 most).c).f), DV.int .i64 (((gImage pw ph so mood L xs x0 y0 x1 y1 most).p0).w), DV.int .i64 (((gImage pw ph so mood L xs x0 y0 x1 y1 most).p0).h), DV.int .i64 (((gImage pw ph so mood L xs x0 y0 x1 y1 most).p0).s), DV.sl (((gImage pw ph so mood L xs x0 y0 x1 y1 most).p0).n) (((gImage pw ph so mood L xs x0 y0 x1 y1 most).p0).xs), DV.int .i64 (((gImage pw ph so mood L xs x0 y0 x1 y1 most).p1).w), DV.int .i64 (((gImage pw ph so mood L xs x0 y0 x1 y1 most).p1).h), DV.int .i64 (((gImage pw ph so mood L xs x0 y0 x1 y1 most).p1).s), DV.sl (((gImage pw ph so mood L xs x0 y0 x1 y1 most).p1).n) (((gImage pw ph so mood L xs x0 y0 x1 y1 most).p1).xs), DV.int .i64 (((gImage pw ph so mood L xs x0 y0 x1 y1 most).p2).w), DV.int .i64 (((gImage pw ph so mood L xs x0 y0 x1 y1 most).p2).h), DV.int .i64 (((gImage pw ph so mood L xs x0 y0 x1 y1 most).p2).s), DV.sl (((gImage pw ph so mood L xs x0 y0 x1 y1 most).p2).n) (((gImage pw ph so mood L xs x0 y0 x1 y1 most).p2).xs), DV.int .i64 (((gImage pw ph so mood L xs x0 y0 x1 y1 most).p3).w), DV.int .i64 (((gImage pw ph so mood L xs x0 y0 x1 y1 most).p3).h), DV.int .i64 (((gImage pw ph so mood L xs x0 y0 x1 y1 most).p3).s), DV.sl (((gImage pw ph so mood L xs x0 y0 x1 y1 most).p3).n) (((gImage pw ph so mood L xs x0 y0 x1 y1 most).p3).xs), DV.int .i64 (((gImage pw ph so mood L xs x0 y0 x1 y1 most).p4).w), DV.int .i64 (((gImage pw ph so mood L xs x0 y0 x1 y1 most).p4).h), DV.int .i64 (((gImage pw ph so mood L xs x0 y0 x1 y1 most).p4).s), DV.sl (((gImage pw ph so mood L xs x0 y0 x1 y1 most).p4).n) (((gImage pw ph so mood L xs x0 y0 x1 y1 most).p4).xs)]) :=
  ans_of_vcg (Γ := gamSb) (G_ImageD_ann pw ph so mood L xs x0 y0 x1 y1 most) mixed_ Tryd.func25 rfl (Nat.le_of_ble_eq_true rfl) fun hwf => by
    refine Eq.mpr (G_ImageD_vc pw ph so mood L xs x0 y0 x1 y1 most) ?_
    simp only [true_and, and_true, RV.d.injEq, RV.agg.injEq, RV.tup.injEq, DV.bool.injEq, DV.int.injEq, DV.sl.injEq, List.cons.injEq, forall_const, Bool.not_false, Bool.not_true, Bool.not_eq_true', Bool.not_eq_false', decide_eq_true_eq, decide_eq_false_iff_not, Int.toNat_natCast, G_Mod_ans]
    
    have go : ∀ W H : Int, (1 ≤ W ∧ W ≤ 100) → (1 ≤ H ∧ H ≤ 100) → 0 < (IntKind.wrap .i64 (W * H)).toNat ∧ IntKind.wrap .i64 (W * H) ≤ 16777216 := fun W H a b => by have := wrap_area a b; omega
    have b5 := @modS_in pw 5 (by omega) (by omega)
    have b4 := @modS_in ph 4 (by omega) (by omega)
    refine ⟨by omega, fun q1 => ?_, fun q1 => ?_⟩
    · have hW : gSide pw 5 x0 x1 pw = IntKind.wrap .i64 (x1 - x0) := by unfold gSide; rw [if_pos (by simpa using q1)]
      have hH : gSide ph 4 y0 y1 pw = IntKind.wrap .i64 (y1 - y0) := by unfold gSide; rw [if_pos (by simpa using q1)]
      have gi := gImage_is pw ph so mood L xs x0 y0 x1 y1 most _ _ hW hH
      have cW : 1 ≤ IntKind.wrap .i64 (x1 - x0) ∧ IntKind.wrap .i64 (x1 - x0) ≤ 100 := by rw [IntWalk.i64_in _ ⟨by omega, by omega⟩]; omega
      have cH : 1 ≤ IntKind.wrap .i64 (y1 - y0) ∧ IntKind.wrap .i64 (y1 - y0) ≤ 100 := by rw [IntWalk.i64_in _ ⟨by omega, by omega⟩]; omega
      generalize IntKind.wrap .i64 (x1 - x0) = W at *
      generalize IntKind.wrap .i64 (y1 - y0) = H at *
      obtain ⟨g1, g2⟩ := go W H cW cH
      have pn := G_Pixels_ans mood L xs (IntKind.wrap .i64 (W * H)) most hx g2
      refine ⟨pn, fun q2 => ?_, fun q2 => ?_⟩
      · have hs : modS so 2 = 0 := by simpa using q2
        rw [if_pos hs] at gi
        obtain ⟨v0, v1, v2, v3, v4⟩ := gPixels_head (mood := mood) (L := L) (xs := xs) (most := most) g1
        have f0 := gFirst (mood := mood) (L := L) (xs := xs) (most := most) g1 0 (by omega)
        have f1 := gFirst (mood := mood) (L := L) (xs := xs) (most := most) g1 1 (by omega)
        have f2 := gFirst (mood := mood) (L := L) (xs := xs) (most := most) g1 2 (by omega)
        have f3 := gFirst (mood := mood) (L := L) (xs := xs) (most := most) g1 3 (by omega)
        have f4 := gFirst (mood := mood) (L := L) (xs := xs) (most := most) g1 4 (by omega)
        have g3 : 0 < IntKind.wrap .i64 (W * H) := by omega
        rw [gi]
        simp only [v0, v1, v2, v3, v4] at f0 f1 f2 f3 f4 ⊢
        exact ⟨⟨by omega, by omega⟩, ⟨f0, f1, f2, f3, f4⟩, R13_Solid_im W H ⟨_, _, _, _, _⟩, trivial⟩
      · have hs : ¬ modS so 2 = 0 := by simpa using q2
        rw [if_neg hs] at gi
        rw [gi]
        have po := R13_ImageOf_im W H _ (pxs (gPixels mood L xs most (IntKind.wrap .i64 (W * H)).toNat)) (gPixels_is _ _ _ _ rfl)
        simp only [toPxs_pxs] at po ⊢
        exact ⟨po, trivial⟩
    · have hW : gSide pw 5 x0 x1 pw = IntKind.wrap .i64 (1 + modS pw 5) := by unfold gSide; rw [if_neg (by simpa using q1)]
      have hH : gSide ph 4 y0 y1 pw = IntKind.wrap .i64 (1 + modS ph 4) := by unfold gSide; rw [if_neg (by simpa using q1)]
      have gi := gImage_is pw ph so mood L xs x0 y0 x1 y1 most _ _ hW hH
      have cW : 1 ≤ IntKind.wrap .i64 (1 + modS pw 5) ∧ IntKind.wrap .i64 (1 + modS pw 5) ≤ 100 := by rw [IntWalk.i64_in _ ⟨by omega, by omega⟩]; omega
      have cH : 1 ≤ IntKind.wrap .i64 (1 + modS ph 4) ∧ IntKind.wrap .i64 (1 + modS ph 4) ≤ 100 := by rw [IntWalk.i64_in _ ⟨by omega, by omega⟩]; omega
      generalize IntKind.wrap .i64 (1 + modS pw 5) = W at *
      generalize IntKind.wrap .i64 (1 + modS ph 4) = H at *
      obtain ⟨g1, g2⟩ := go W H cW cH
      have pn := G_Pixels_ans mood L xs (IntKind.wrap .i64 (W * H)) most hx g2
      refine ⟨pn, fun q2 => ?_, fun q2 => ?_⟩
      · have hs : modS so 2 = 0 := by simpa using q2
        rw [if_pos hs] at gi
        obtain ⟨v0, v1, v2, v3, v4⟩ := gPixels_head (mood := mood) (L := L) (xs := xs) (most := most) g1
        have f0 := gFirst (mood := mood) (L := L) (xs := xs) (most := most) g1 0 (by omega)
        have f1 := gFirst (mood := mood) (L := L) (xs := xs) (most := most) g1 1 (by omega)
        have f2 := gFirst (mood := mood) (L := L) (xs := xs) (most := most) g1 2 (by omega)
        have f3 := gFirst (mood := mood) (L := L) (xs := xs) (most := most) g1 3 (by omega)
        have f4 := gFirst (mood := mood) (L := L) (xs := xs) (most := most) g1 4 (by omega)
        have g3 : 0 < IntKind.wrap .i64 (W * H) := by omega
        rw [gi]
        simp only [v0, v1, v2, v3, v4] at f0 f1 f2 f3 f4 ⊢
        exact ⟨⟨by omega, by omega⟩, ⟨f0, f1, f2, f3, f4⟩, R13_Solid_im W H ⟨_, _, _, _, _⟩, trivial⟩
      · have hs : ¬ modS so 2 = 0 := by simpa using q2
        rw [if_neg hs] at gi
        rw [gi]
        have po := R13_ImageOf_im W H _ (pxs (gPixels mood L xs most (IntKind.wrap .i64 (W * H)).toNat)) (gPixels_is _ _ _ _ rfl)
        simp only [toPxs_pxs] at po ⊢
        exact ⟨po, trivial⟩

end Go.Proofs.YtcaokljobfkajaaDoor

/-
  The generator's script.
-/
namespace Go.Proofs.YtcaokljobfkajaaDoor
open Go.RowKit
set_option linter.unusedVariables false
set_option linter.unusedSimpArgs false
attribute [local irreducible] Ans AnsO AnsG AnsN AnsI

set_option maxRecDepth 4000
def gamSc : Gam where
 pure := fun f xs =>
  if f = 9 then (match xs with | [.d (.int _ n), .d (.int _ k)] => some (RV.d (DV.int .i64 (modS n k))) | _ => none) else
  if f = 22 then (match xs with | [.d (.int _ n)] => some (RV.d (DV.int .u16 (gMax n))) | _ => none) else
  if f = 25 then (match xs with | [.agg [.int _ pw, .int _ ph, .int _ so, .int _ mood, .sl L xs], .agg [.int _ x0, .int _ y0, .int _ x1, .int _ y1], .d (.int _ most)] => some (RV.agg [DV.int .i64 ((gImage pw ph so mood L xs x0 y0 x1 y1 most).w), DV.int .i64 ((gImage pw ph so mood L xs x0 y0 x1 y1 most).h), DV.bool ((gImage pw ph so mood L xs x0 y0 x1 y1 most).so), DV.int .u16 (((gImage pw ph so mood L xs x0 y0 x1 y1 most).c).a), DV.int .u16 (((gImage pw ph so mood L xs x0 y0 x1 y1 most).c).b), DV.int .u16 (((gImage pw ph so mood L xs x0 y0 x1 y1 most).c).c), DV.int .u16 (((gImage pw ph so mood L xs x0 y0 x1 y1 most).c).al), DV.int .u16 (((gImage pw ph so mood L xs x0 y0 x1 y1 most).c).f), DV.int .i64 (((gImage pw ph so mood L xs x0 y0 x1 y1 most).p0).w), DV.int .i64 (((gImage pw ph so mood L xs x0 y0 x1 y1 most).p0).h), DV.int .i64 (((gImage pw ph so mood L xs x0 y0 x1 y1 most).p0).s), DV.sl (((gImage pw ph so mood L xs x0 y0 x1 y1 most).p0).n) (((gImage pw ph so mood L xs x0 y0 x1 y1 most).p0).xs), DV.int .i64 (((gImage pw ph so mood L xs x0 y0 x1 y1 most).p1).w), DV.int .i64 (((gImage pw ph so mood L xs x0 y0 x1 y1 most).p1).h), DV.int .i64 (((gImage pw ph so mood L xs x0 y0 x1 y1 most).p1).s), DV.sl (((gImage pw ph so mood L xs x0 y0 x1 y1 most).p1).n) (((gImage pw ph so mood L xs x0 y0 x1 y1 most).p1).xs), DV.int .i64 (((gImage pw ph so mood L xs x0 y0 x1 y1 most).p2).w), DV.int .i64 (((gImage pw ph so mood L xs x0 y0 x1 y1 most).p2).h), DV.int .i64 (((gImage pw ph so mood L xs x0 y0 x1 y1 most).p2).s), DV.sl (((gImage pw ph so mood L xs x0 y0 x1 y1 most).p2).n) (((gImage pw ph so mood L xs x0 y0 x1 y1 most).p2).xs), DV.int .i64 (((gImage pw ph so mood L xs x0 y0 x1 y1 most).p3).w), DV.int .i64 (((gImage pw ph so mood L xs x0 y0 x1 y1 most).p3).h), DV.int .i64 (((gImage pw ph so mood L xs x0 y0 x1 y1 most).p3).s), DV.sl (((gImage pw ph so mood L xs x0 y0 x1 y1 most).p3).n) (((gImage pw ph so mood L xs x0 y0 x1 y1 most).p3).xs), DV.int .i64 (((gImage pw ph so mood L xs x0 y0 x1 y1 most).p4).w), DV.int .i64 (((gImage pw ph so mood L xs x0 y0 x1 y1 most).p4).h), DV.int .i64 (((gImage pw ph so mood L xs x0 y0 x1 y1 most).p4).s), DV.sl (((gImage pw ph so mood L xs x0 y0 x1 y1 most).p4).n) (((gImage pw ph so mood L xs x0 y0 x1 y1 most).p4).xs)]) | _ => none) else
  if f = 8 then (match xs with | [.agg [.int _ vk, .int _ vim, .int _ vx, .int _ vy, .int _ vma, .int _ vmx, .int _ vmy, .int _ vop, .int _ vope, .int _ vmo, .int _ vfl], .d (.bool push), .d (.int _ imgs), .agg [.int _ ca, .int _ cb, .int _ cc, .int _ cd], .d (.bool free), .d (.int _ most)] => some (RV.agg [DV.int .i64 ((gOp ⟨vk, vim, vx, vy, vma, vmx, vmy, vop, vope, vmo, vfl⟩ push imgs ⟨ca, cb, cc, cd⟩ free most).kind), DV.int .i64 ((gOp ⟨vk, vim, vx, vy, vma, vmx, vmy, vop, vope, vmo, vfl⟩ push imgs ⟨ca, cb, cc, cd⟩ free most).image), DV.int .i64 ((gOp ⟨vk, vim, vx, vy, vma, vmx, vmy, vop, vope, vmo, vfl⟩ push imgs ⟨ca, cb, cc, cd⟩ free most).x), DV.int .i64 ((gOp ⟨vk, vim, vx, vy, vma, vmx, vmy, vop, vope, vmo, vfl⟩ push imgs ⟨ca, cb, cc, cd⟩ free most).y), DV.int .i64 ((gOp ⟨vk, vim, vx, vy, vma, vmx, vmy, vop, vope, vmo, vfl⟩ push imgs ⟨ca, cb, cc, cd⟩ free most).mask), DV.int .i64 ((gOp ⟨vk, vim, vx, vy, vma, vmx, vmy, vop, vope, vmo, vfl⟩ push imgs ⟨ca, cb, cc, cd⟩ free most).mx), DV.int .i64 ((gOp ⟨vk, vim, vx, vy, vma, vmx, vmy, vop, vope, vmo, vfl⟩ push imgs ⟨ca, cb, cc, cd⟩ free most).my), DV.int .u16 ((gOp ⟨vk, vim, vx, vy, vma, vmx, vmy, vop, vope, vmo, vfl⟩ push imgs ⟨ca, cb, cc, cd⟩ free most).opac), DV.int .i64 ((gOp ⟨vk, vim, vx, vy, vma, vmx, vmy, vop, vope, vmo, vfl⟩ push imgs ⟨ca, cb, cc, cd⟩ free most).oper), DV.int .i64 ((gOp ⟨vk, vim, vx, vy, vma, vmx, vmy, vop, vope, vmo, vfl⟩ push imgs ⟨ca, cb, cc, cd⟩ free most).mode), DV.bool ((gOp ⟨vk, vim, vx, vy, vma, vmx, vmy, vop, vope, vmo, vfl⟩ push imgs ⟨ca, cb, cc, cd⟩ free most).iso), DV.bool ((gOp ⟨vk, vim, vx, vy, vma, vmx, vmy, vop, vope, vmo, vfl⟩ push imgs ⟨ca, cb, cc, cd⟩ free most).kno)]) | _ => none) else
  if f = 24 then (match xs with | [] => some (RV.tup [RV.tup [RV.d (DV.int .i64 3), RV.d (DV.int .i64 1)]]) | [.d (.sl n xs), .d (.int _ m)] => some (RV.d (DV.sl ((permL (ints xs) m).length) (is (permL (ints xs) m)))) | _ => none) else
  if f = 23 then (match xs with | [.agg [.int _ a, .int _ b, .int _ c, .int _ d], .d (.int _ w), .d (.int _ h)] => some (RV.tup [RV.d (DV.int .i64 ((cntS ⟨a, b, c, d⟩ w h).1)), RV.d (DV.int .i64 ((cntS ⟨a, b, c, d⟩ w h).2.1)), RV.d (DV.bool ((cntS ⟨a, b, c, d⟩ w h).2.2))]) | _ => none) else
  if f = 26 then (match xs with | [.d (.int _ w), .d (.int _ h), .agg [.int _ c0, .int _ c1, .int _ c2, .int _ ca, .int _ cf]] => some (RV.agg [DV.int .i64 ((solidIm w h ⟨c0, c1, c2, ca, cf⟩).w), DV.int .i64 ((solidIm w h ⟨c0, c1, c2, ca, cf⟩).h), DV.bool ((solidIm w h ⟨c0, c1, c2, ca, cf⟩).so), DV.int .u16 (((solidIm w h ⟨c0, c1, c2, ca, cf⟩).c).a), DV.int .u16 (((solidIm w h ⟨c0, c1, c2, ca, cf⟩).c).b), DV.int .u16 (((solidIm w h ⟨c0, c1, c2, ca, cf⟩).c).c), DV.int .u16 (((solidIm w h ⟨c0, c1, c2, ca, cf⟩).c).al), DV.int .u16 (((solidIm w h ⟨c0, c1, c2, ca, cf⟩).c).f), DV.int .i64 (((solidIm w h ⟨c0, c1, c2, ca, cf⟩).p0).w), DV.int .i64 (((solidIm w h ⟨c0, c1, c2, ca, cf⟩).p0).h), DV.int .i64 (((solidIm w h ⟨c0, c1, c2, ca, cf⟩).p0).s), DV.sl (((solidIm w h ⟨c0, c1, c2, ca, cf⟩).p0).n) (((solidIm w h ⟨c0, c1, c2, ca, cf⟩).p0).xs), DV.int .i64 (((solidIm w h ⟨c0, c1, c2, ca, cf⟩).p1).w), DV.int .i64 (((solidIm w h ⟨c0, c1, c2, ca, cf⟩).p1).h), DV.int .i64 (((solidIm w h ⟨c0, c1, c2, ca, cf⟩).p1).s), DV.sl (((solidIm w h ⟨c0, c1, c2, ca, cf⟩).p1).n) (((solidIm w h ⟨c0, c1, c2, ca, cf⟩).p1).xs), DV.int .i64 (((solidIm w h ⟨c0, c1, c2, ca, cf⟩).p2).w), DV.int .i64 (((solidIm w h ⟨c0, c1, c2, ca, cf⟩).p2).h), DV.int .i64 (((solidIm w h ⟨c0, c1, c2, ca, cf⟩).p2).s), DV.sl (((solidIm w h ⟨c0, c1, c2, ca, cf⟩).p2).n) (((solidIm w h ⟨c0, c1, c2, ca, cf⟩).p2).xs), DV.int .i64 (((solidIm w h ⟨c0, c1, c2, ca, cf⟩).p3).w), DV.int .i64 (((solidIm w h ⟨c0, c1, c2, ca, cf⟩).p3).h), DV.int .i64 (((solidIm w h ⟨c0, c1, c2, ca, cf⟩).p3).s), DV.sl (((solidIm w h ⟨c0, c1, c2, ca, cf⟩).p3).n) (((solidIm w h ⟨c0, c1, c2, ca, cf⟩).p3).xs), DV.int .i64 (((solidIm w h ⟨c0, c1, c2, ca, cf⟩).p4).w), DV.int .i64 (((solidIm w h ⟨c0, c1, c2, ca, cf⟩).p4).h), DV.int .i64 (((solidIm w h ⟨c0, c1, c2, ca, cf⟩).p4).s), DV.sl (((solidIm w h ⟨c0, c1, c2, ca, cf⟩).p4).n) (((solidIm w h ⟨c0, c1, c2, ca, cf⟩).p4).xs)]) | _ => none) else
  none
 modes := fun f =>
  none
 proc := fun f xs bs =>
  none
 iter := fun f cs =>
  none

def G_Script_ann (s : Scn) : Ann := let zz0 := (3, AV.one (Cl.d (DV.int .u16 s.most))); let zz1 := [(1, AV.one (Cl.ptr 1 0)), (2, AV.one (Cl.ptr 2 0)), zz0, (4, AV.one (Cl.ptr 4 0))]; let zz2 := (1, Bx.cells [Cl.d (DV.int .i64 s.b), Cl.d (DV.int .i64 s.x), Cl.d (DV.int .i64 s.y), Cl.d (DV.int .i64 s.w), Cl.d (DV.int .i64 s.h), Cl.d (DV.int .i64 s.tw), Cl.d (DV.int .i64 s.th), Cl.d (DV.sl s.on s.oxs), Cl.d (DV.sl s.pn s.pxs), Cl.d (DV.sl s.rn s.rxs)]); let zz3 := (2, Bx.cells [Cl.d (DV.int .i64 0), Cl.d (DV.int .i64 0), Cl.d (DV.int .i64 0), Cl.d (DV.int .i64 0), Cl.d (DV.int .i64 0), Cl.d (DV.int .i64 0), Cl.d (DV.int .i64 0), Cl.nil, Cl.nil, Cl.nil]); let zz4 := [zz2, zz3, (4, Bx.cells [Cl.d (DV.int .i64 s.bits), Cl.d (DV.int .i64 0), Cl.d (DV.int .i64 0), Cl.d (DV.int .i64 0), Cl.d (DV.int .i64 0), Cl.d (DV.int .i64 0), Cl.d (DV.int .i64 0), Cl.nil, Cl.nil, Cl.nil])]; let zz5 := (7, AV.one (Cl.d (DV.int .i64 s.gw))); let zz6 := (8, AV.one (Cl.d (DV.int .i64 s.gh))); let zz7 := [(1, AV.one (Cl.ptr 1 0)), (2, AV.one (Cl.ptr 2 0)), zz0, (4, AV.one (Cl.ptr 4 0)), zz5, zz6]; let zz8 := (7000, Bx.row 3 1 (is s.ord)); let zz9 := (5000, Bx.row 49 28 (ims s.ims)); let zz10 := (13, AV.one (Cl.ref 5002 ((s.run (min s.rn 9)).2.length))); let zz11 := (5002, Bx.row 29 12 (ops (s.run (min s.rn 9)).2)); let zz12 := fun (k : Nat) => (13, AV.one (Cl.ref 5002 ((s.run k).2.length))); let zz13 := fun (k : Nat) => (14, AV.one (Cl.d (DV.int .i64 ((k : Nat) : Int)))); let zz14 := fun (k : Nat) => (4, Bx.cells [Cl.d (DV.int .i64 s.bits), Cl.d (DV.int .i64 s.c.a), Cl.d (DV.int .i64 s.c.b), Cl.d (DV.int .i64 s.c.c), Cl.d (DV.int .i64 s.c.d), Cl.d (DV.int .i64 s.gtw), Cl.d (DV.int .i64 s.gth), Cl.ref 7000 s.ord.length, Cl.ref 5000 s.ims.length, Cl.ref 5001 ((s.run k).1.length)]); let zz15 := fun (k : Nat) => (5002, Bx.row 29 12 (ops (s.run k).2)); let zz16 := fun (k : Nat) => (5001, Bx.row 29 12 (ops (s.run k).1)); let zz17 := fun (k : Nat) => [zz2, zz3, (zz14 k), (zz15 k), zz8, zz9, (zz16 k)]; let zz18 := fun (k : Nat) => (15, AV.one (Cl.d (DV.int .i64 (modS (nAt s.rxs (((k : Nat) : Int).toNat * 11 + 0)) (8 : Int))))); (Ann.seq Ann.leaf (Ann.seq Ann.leaf (Ann.seq Ann.leaf (Ann.cut ⟨Unit, fun u1 : Unit => True, fun u1 : Unit => ⟨zz1, zz4⟩, fun u1 : Unit => 0⟩ Ann.leaf fun u1 => (Ann.seq Ann.leaf (Ann.cut ⟨Unit, fun u2 : Unit => True, fun u2 : Unit => ⟨[(1, AV.one (Cl.ptr 1 0)), (2, AV.one (Cl.ptr 2 0)), zz0, (4, AV.one (Cl.ptr 4 0)), (5, AV.one (Cl.d (DV.int .i64 s.c.a))), (6, AV.one (Cl.d (DV.int .i64 s.c.b))), zz5, zz6], zz4⟩, fun u2 : Unit => 0⟩ Ann.leaf fun u2 => (Ann.seq Ann.leaf (Ann.cut ⟨Unit, fun u3 : Unit => True, fun u3 : Unit => ⟨zz7, [zz2, zz3, (4, Bx.cells [Cl.d (DV.int .i64 s.bits), Cl.d (DV.int .i64 s.c.a), Cl.d (DV.int .i64 s.c.b), Cl.d (DV.int .i64 s.c.c), Cl.d (DV.int .i64 s.c.d), Cl.d (DV.int .i64 s.gtw), Cl.d (DV.int .i64 s.gth), Cl.nil, Cl.nil, Cl.nil])]⟩, fun u3 : Unit => 0⟩ Ann.leaf fun u3 => (Ann.seq Ann.leaf (Ann.cut ⟨Unit, fun u4 : Unit => True, fun u4 : Unit => ⟨zz7, [zz2, zz3, (4, Bx.cells [Cl.d (DV.int .i64 s.bits), Cl.d (DV.int .i64 s.c.a), Cl.d (DV.int .i64 s.c.b), Cl.d (DV.int .i64 s.c.c), Cl.d (DV.int .i64 s.c.d), Cl.d (DV.int .i64 s.gtw), Cl.d (DV.int .i64 s.gth), Cl.ref 7000 s.ord.length, Cl.nil, Cl.nil]), zz8]⟩, fun u4 : Unit => 0⟩ Ann.leaf fun u4 => (Ann.cut ⟨Unit, fun u6 : Unit => True, fun u6 : Unit => ⟨zz7, [zz2, zz3, (4, Bx.cells [Cl.d (DV.int .i64 s.bits), Cl.d (DV.int .i64 s.c.a), Cl.d (DV.int .i64 s.c.b), Cl.d (DV.int .i64 s.c.c), Cl.d (DV.int .i64 s.c.d), Cl.d (DV.int .i64 s.gtw), Cl.d (DV.int .i64 s.gth), Cl.ref 7000 s.ord.length, Cl.ref 5000 ((s.pics (min s.pn 4)).length), Cl.nil]), zz8, (5000, Bx.row 49 28 (ims (s.pics (min s.pn 4))))]⟩, fun u6 : Unit => 0⟩ (Ann.seq Ann.leaf (Ann.loop ⟨Nat, fun p => p ≤ min s.pn 4, fun p => ⟨[(1, AV.one (Cl.ptr 1 0)), (2, AV.one (Cl.ptr 2 0)), zz0, (4, AV.one (Cl.ptr 4 0)), zz5, zz6, (12, AV.one (Cl.d (DV.int .i64 ((p : Nat) : Int))))], [zz2, zz3, (4, Bx.cells [Cl.d (DV.int .i64 s.bits), Cl.d (DV.int .i64 s.c.a), Cl.d (DV.int .i64 s.c.b), Cl.d (DV.int .i64 s.c.c), Cl.d (DV.int .i64 s.c.d), Cl.d (DV.int .i64 s.gtw), Cl.d (DV.int .i64 s.gth), Cl.ref 7000 s.ord.length, Cl.ref 5000 p, Cl.nil]), zz8, (5000, Bx.row 49 28 (ims (s.pics p)))]⟩, fun p => min s.pn 4 - p⟩ fun p => Ann.leaf)) fun u6 => (Ann.cut ⟨Unit, fun u5 : Unit => True, fun u5 : Unit => ⟨zz1, [zz2, zz3, (4, Bx.cells [Cl.d (DV.int .i64 s.bits), Cl.d (DV.int .i64 s.c.a), Cl.d (DV.int .i64 s.c.b), Cl.d (DV.int .i64 s.c.c), Cl.d (DV.int .i64 s.c.d), Cl.d (DV.int .i64 s.gtw), Cl.d (DV.int .i64 s.gth), Cl.ref 7000 s.ord.length, Cl.ref 5000 s.ims.length, Cl.nil]), zz8, zz9]⟩, fun u5 : Unit => 0⟩ Ann.leaf fun u5 => (Ann.seq Ann.leaf (Ann.cut ⟨Unit, fun u7 : Unit => True, fun u7 : Unit => ⟨[(2, AV.one (Cl.ptr 2 0)), (4, AV.one (Cl.ptr 4 0)), zz10], [zz3, (4, Bx.cells [Cl.d (DV.int .i64 s.bits), Cl.d (DV.int .i64 s.c.a), Cl.d (DV.int .i64 s.c.b), Cl.d (DV.int .i64 s.c.c), Cl.d (DV.int .i64 s.c.d), Cl.d (DV.int .i64 s.gtw), Cl.d (DV.int .i64 s.gth), Cl.ref 7000 s.ord.length, Cl.ref 5000 s.ims.length, Cl.ref 5001 ((s.run (min s.rn 9)).1.length)]), zz11, zz8, zz9, (5001, Bx.row 29 12 (ops (s.run (min s.rn 9)).1))]⟩, fun u7 : Unit => 0⟩ (Ann.seq Ann.leaf (Ann.loop ⟨Nat, fun k => k ≤ min s.rn 9, fun k => ⟨[(1, AV.one (Cl.ptr 1 0)), (2, AV.one (Cl.ptr 2 0)), zz0, (4, AV.one (Cl.ptr 4 0)), (zz12 k), (zz13 k)], (zz17 k)⟩, fun k => min s.rn 9 - k⟩ fun k => (Ann.seq Ann.leaf (Ann.seq (Ann.seq Ann.leaf (Ann.seq Ann.leaf (Ann.cut ⟨Unit, fun u8 : Unit => ¬ (modS (rwAt s.rxs (k * 11)).k 8 = 0 ∧ 0 < (s.run k).2.length), fun u8 : Unit => ⟨[(1, AV.one (Cl.ptr 1 0)), (2, AV.one (Cl.ptr 2 0)), zz0, (4, AV.one (Cl.ptr 4 0)), (zz12 k), (zz13 k), (zz18 k), (16, AV.one (Cl.d (DV.int .i64 (((s.run k).2.length : Nat) : Int))))], (zz17 k)⟩, fun u8 : Unit => 0⟩ Ann.leaf fun u8 => (Ann.cut ⟨Bool, fun fr : Bool => fr = ctxB (s.run k).2, fun fr : Bool => ⟨[(1, AV.one (Cl.ptr 1 0)), (2, AV.one (Cl.ptr 2 0)), zz0, (4, AV.one (Cl.ptr 4 0)), (zz12 k), (zz13 k), (zz18 k), (17, AV.one (Cl.d (DV.bool fr)))], (zz17 k)⟩, fun fr : Bool => 0⟩ Ann.leaf fun fr => (Ann.cut ⟨Oq, fun o : Oq => o = gOp (rwAt s.rxs (k * 11)) (decide (modS (rwAt s.rxs (k * 11)).k 8 < 3)) s.ims.length s.c (ctxB (s.run k).2) s.most, fun o : Oq => ⟨[(1, AV.one (Cl.ptr 1 0)), (2, AV.one (Cl.ptr 2 0)), zz0, (4, AV.one (Cl.ptr 4 0)), (zz12 k), (zz13 k), (18, AV.one (Cl.ptr 18 0))], [zz2, zz3, (zz14 k), (zz15 k), (18, Bx.cells [Cl.d (DV.int .i64 o.kind), Cl.d (DV.int .i64 o.image), Cl.d (DV.int .i64 o.x), Cl.d (DV.int .i64 o.y), Cl.d (DV.int .i64 o.mask), Cl.d (DV.int .i64 o.mx), Cl.d (DV.int .i64 o.my), Cl.d (DV.int .u16 o.opac), Cl.d (DV.int .i64 o.oper), Cl.d (DV.int .i64 o.mode), Cl.d (DV.bool o.iso), Cl.d (DV.bool o.kno)]), zz8, zz9, (zz16 k)]⟩, fun o : Oq => 0⟩ Ann.leaf fun o => Ann.leaf))))) Ann.leaf)))) fun u7 => (Ann.seq (Ann.seq Ann.leaf (Ann.loop ⟨Nat, fun j => j ≤ (s.run (min s.rn 9)).2.length, fun j => ⟨[(2, AV.one (Cl.ptr 2 0)), (4, AV.one (Cl.ptr 4 0)), zz10, (19, AV.one (Cl.d (DV.int .i64 ((j : Nat) : Int))))], [zz3, (4, Bx.cells [Cl.d (DV.int .i64 s.bits), Cl.d (DV.int .i64 s.c.a), Cl.d (DV.int .i64 s.c.b), Cl.d (DV.int .i64 s.c.c), Cl.d (DV.int .i64 s.c.d), Cl.d (DV.int .i64 s.gtw), Cl.d (DV.int .i64 s.gth), Cl.ref 7000 s.ord.length, Cl.ref 5000 s.ims.length, Cl.ref 5001 (((s.run (min s.rn 9)).1 ++ List.replicate j popO).length)]), zz11, zz8, zz9, (5001, Bx.row 29 12 (ops ((s.run (min s.rn 9)).1 ++ List.replicate j popO)))]⟩, fun j => (s.run (min s.rn 9)).2.length - j⟩ fun j => Ann.leaf)) Ann.leaf)))))))))))))))
theorem G_Script_vc (s : Scn) : vcg Tryd.prog gamSc ⟨221, fun _ => false, List.range 0, false⟩ (bodyOf Tryd.f7) (G_Script_ann s) kn0 (startG [AV.agg [Cl.d (DV.int .i64 s.b), Cl.d (DV.int .i64 s.x), Cl.d (DV.int .i64 s.y), Cl.d (DV.int .i64 s.w), Cl.d (DV.int .i64 s.h), Cl.d (DV.int .i64 s.tw), Cl.d (DV.int .i64 s.th), Cl.d (DV.sl s.on s.oxs), Cl.d (DV.sl s.pn s.pxs), Cl.d (DV.sl s.rn s.rxs)]] []) (postG Tryd.prog ⟨221, fun _ => false, List.range 0, false⟩ Tryd.f7.results.toList ⟨AV.agg [Cl.d (DV.int .i64 ((s).bits)), Cl.d (DV.int .i64 ((s).c.a)), Cl.d (DV.int .i64 ((s).c.b)), Cl.d (DV.int .i64 ((s).c.c)), Cl.d (DV.int .i64 ((s).c.d)), Cl.d (DV.int .i64 ((s).gtw)), Cl.d (DV.int .i64 ((s).gth)), Cl.ref 0 ((s).ord.length), Cl.ref 1 ((s).ims.length), Cl.ref 2 ((s).ops.length)], [Bx.row 3 1 (is (s).ord), Bx.row 49 28 (ims (s).ims), Bx.row 29 12 (ops (s).ops)], false⟩) =
  (let zz0 := ((0 = 0) ∧ (0 = 0) ∧ (DV.int .u16 (gMax s.b) = DV.int .u16 s.most) ∧ (0 = 0) ∧ True); let zz1 := [DV.int .i64 s.b, DV.int .i64 s.x, DV.int .i64 s.y, DV.int .i64 s.w, DV.int .i64 s.h, DV.int .i64 s.tw, DV.int .i64 s.th, DV.sl s.on s.oxs, DV.sl s.pn s.pxs, DV.sl s.rn s.rxs]; let zz2 := (zz1 = zz1); let zz3 := (DV.int .i64 0 = DV.int .i64 0); let zz4 := (zz3 ∧ zz3 ∧ zz3 ∧ zz3 ∧ zz3 ∧ zz3 ∧ zz3 ∧ True ∧ True ∧ True ∧ True); let zz5 := (DV.int .u16 s.most = DV.int .u16 s.most); let zz6 := (DV.int .i64 s.bits = DV.int .i64 s.bits); let zz7 := (DV.int .i64 s.gw = DV.int .i64 s.gw); let zz8 := (DV.int .i64 s.gh = DV.int .i64 s.gh); let zz9 := ((0 = 0) ∧ (0 = 0) ∧ zz5 ∧ (0 = 0) ∧ zz7 ∧ zz8 ∧ True); let zz10 := (DV.int .i64 s.c.a = DV.int .i64 s.c.a); let zz11 := (DV.int .i64 s.c.b = DV.int .i64 s.c.b); let zz12 := [DV.int .i64 s.c.a, DV.int .i64 s.c.b, DV.int .i64 s.c.c, DV.int .i64 s.c.d]; let zz13 := (IntKind.wrap .i64 (((cntS s.c s.gtw s.gth).1) * ((cntS s.c s.gtw s.gth).2.1))); let zz14 := (DV.int .i64 s.c.c = DV.int .i64 s.c.c); let zz15 := (DV.int .i64 s.c.d = DV.int .i64 s.c.d); let zz16 := (DV.int .i64 s.gtw = DV.int .i64 s.gtw); let zz17 := (DV.int .i64 s.gth = DV.int .i64 s.gth); let zz18 := (s.ord.length = s.ord.length); let zz19 := fun (p : Nat) => (zz9 ∧ (zz2 ∧ zz4 ∧ (zz6 ∧ zz10 ∧ zz11 ∧ zz14 ∧ zz15 ∧ zz16 ∧ zz17 ∧ zz18 ∧ (p = (s.pics (min s.pn 4)).length) ∧ True ∧ True) ∧ (is s.ord = is s.ord) ∧ (ims (s.pics p) = ims (s.pics (min s.pn 4))) ∧ True)); let zz20 := ((Im.ds (solidIm s.gw s.gh ⟨s.most, (0 : Int), (0 : Int), s.most, s.most⟩))); let zz21 := ((0 = 0) ∧ (0 = 0) ∧ zz5 ∧ (0 = 0) ∧ True); let zz22 := (s.ims.length = s.ims.length); let zz23 := fun (k : Nat) => (0 ≤ ((k : Nat) : Int) ∧ ((k : Nat) : Int) < ((s.rn : Nat) : Int) ∧ ((k : Nat) : Int).toNat * 11 < s.rxs.length); let zz24 := fun (k : Nat) => fun (k' : Nat) => (min s.rn 9 - k' < min s.rn 9 - k); let zz25 := fun (k : Nat) => fun (k' : Nat) => (DV.int .i64 (IntKind.wrap .i64 (((k : Nat) : Int) + (1 : Int))) = DV.int .i64 ((k' : Nat) : Int)); let zz26 := fun (k : Nat) => fun (k' : Nat) => (zz6 ∧ zz10 ∧ zz11 ∧ zz14 ∧ zz15 ∧ zz16 ∧ zz17 ∧ zz18 ∧ zz22 ∧ (((s.run k).1.length) + 1 = (s.run k').1.length) ∧ True); let zz27 := fun (k : Nat) => ((s.run k).2.length = (s.run k).2.length); let zz28 := fun (k : Nat) => (DV.int .i64 ((k : Nat) : Int) = DV.int .i64 ((k : Nat) : Int)); let zz29 := fun (k : Nat) => (DV.int .i64 (modS (nAt s.rxs (((k : Nat) : Int).toNat * 11 + 0)) (8 : Int)) = DV.int .i64 (modS (nAt s.rxs (((k : Nat) : Int).toNat * 11 + 0)) (8 : Int))); let zz30 := fun (k : Nat) => (zz6 ∧ zz10 ∧ zz11 ∧ zz14 ∧ zz15 ∧ zz16 ∧ zz17 ∧ zz18 ∧ zz22 ∧ ((s.run k).1.length = (s.run k).1.length) ∧ True); let zz31 := fun (k : Nat) => (ops (s.run k).2 = ops (s.run k).2); let zz32 := fun (k : Nat) => (ops (s.run k).1 = ops (s.run k).1); let zz33 := fun (k : Nat) => (zz2 ∧ zz4 ∧ (zz30 k) ∧ (zz31 k) ∧ (is s.ord = is s.ord) ∧ (ims s.ims = ims s.ims) ∧ (zz32 k) ∧ True); let zz34 := fun (k : Nat) => (((0 = 0) ∧ (0 = 0) ∧ zz5 ∧ (0 = 0) ∧ (zz27 k) ∧ (zz28 k) ∧ (zz29 k) ∧ (DV.int .i64 (((s.run k).2.length : Nat) : Int) = DV.int .i64 (((s.run k).2.length : Nat) : Int)) ∧ True) ∧ (zz33 k)); let zz35 := fun (k : Nat) => (0 ≤ IntKind.wrap .i64 ((((s.run k).2.length : Nat) : Int) - (1 : Int)) ∧ IntKind.wrap .i64 ((((s.run k).2.length : Nat) : Int) - (1 : Int)) < (((s.run k).2.length : Nat) : Int)); let zz36 := fun (k : Nat) => fun (o : Oq) => (o = gOp (rwAt s.rxs (k * 11)) (decide (modS (rwAt s.rxs (k * 11)).k 8 < 3)) s.ims.length s.c (ctxB (s.run k).2) s.most); let zz37 := fun (k : Nat) => fun (k' : Nat) => fun (o : Oq) => ((ops (s.run k).1) ++ ((Oq.cells (o))) = ops (s.run k').1); let zz38 := fun (k : Nat) => (((0 = 0) ∧ (0 = 0) ∧ ((s.run k).2.length = (s.run (min s.rn 9)).2.length) ∧ True) ∧ (zz4 ∧ (zz6 ∧ zz10 ∧ zz11 ∧ zz14 ∧ zz15 ∧ zz16 ∧ zz17 ∧ zz18 ∧ zz22 ∧ ((s.run k).1.length = (s.run (min s.rn 9)).1.length) ∧ True) ∧ (ops (s.run k).2 = ops (s.run (min s.rn 9)).2) ∧ (is s.ord = is s.ord) ∧ (ims s.ims = ims s.ims) ∧ (ops (s.run k).1 = ops (s.run (min s.rn 9)).1) ∧ True)); let zz39 := fun (j : Nat) => (j ≤ (s.run (min s.rn 9)).2.length); let zz40 := ((s.run (min s.rn 9)).2.length = (s.run (min s.rn 9)).2.length); let zz41 := (ops (s.run (min s.rn 9)).2 = ops (s.run (min s.rn 9)).2); True ∧ True ∧ True ∧ True ∧ (Ans Tryd.prog 22 [RV.d (DV.int .i64 s.b)] (RV.d (DV.int .u16 (gMax s.b)))) ∧ True ∧ True ∧ True ∧ True ∧ (True ∧ True ∧ (((decide ((gMax s.b) > (255 : Int))) = true → True ∧ True ∧ ∃ u1 : Unit, True ∧ (zz0 ∧ (zz2 ∧ zz4 ∧ ((DV.int .i64 16 = DV.int .i64 s.bits) ∧ zz3 ∧ zz3 ∧ zz3 ∧ zz3 ∧ zz3 ∧ zz3 ∧ True ∧ True ∧ True ∧ True) ∧ True))) ∧ ((decide ((gMax s.b) > (255 : Int))) = false → ∃ u1 : Unit, True ∧ (zz0 ∧ (zz2 ∧ zz4 ∧ ((DV.int .i64 8 = DV.int .i64 s.bits) ∧ zz3 ∧ zz3 ∧ zz3 ∧ zz3 ∧ zz3 ∧ zz3 ∧ True ∧ True ∧ True ∧ True) ∧ True))))) ∧ ∀ u1 : Unit, (True) → True ∧ True ∧ (Ans Tryd.prog 9 [RV.d (DV.int .i64 s.x), RV.d (DV.int .i64 13)] (RV.d (DV.int .i64 (modS s.x (13 : Int))))) ∧ True ∧ True ∧ True ∧ (Ans Tryd.prog 9 [RV.d (DV.int .i64 s.y), RV.d (DV.int .i64 13)] (RV.d (DV.int .i64 (modS s.y (13 : Int))))) ∧ True ∧ True ∧ True ∧ (true = true) ∧ (True ∧ True ∧ (Ans Tryd.prog 9 [RV.d (DV.int .i64 s.w), RV.d (DV.int .i64 5)] (RV.d (DV.int .i64 (modS s.w (5 : Int))))) ∧ True ∧ True ∧ True ∧ (Ans Tryd.prog 9 [RV.d (DV.int .i64 s.h), RV.d (DV.int .i64 4)] (RV.d (DV.int .i64 (modS s.h (4 : Int))))) ∧ True ∧ True ∧ True ∧ (true = true) ∧ ∃ u2 : Unit, True ∧ (((0 = 0) ∧ (0 = 0) ∧ zz5 ∧ (0 = 0) ∧ (DV.int .i64 (IntKind.wrap .i64 ((modS s.x (13 : Int)) - (6 : Int))) = DV.int .i64 s.c.a) ∧ (DV.int .i64 (IntKind.wrap .i64 ((modS s.y (13 : Int)) - (6 : Int))) = DV.int .i64 s.c.b) ∧ (DV.int .i64 (IntKind.wrap .i64 ((1 : Int) + (modS s.w (5 : Int)))) = DV.int .i64 s.gw) ∧ (DV.int .i64 (IntKind.wrap .i64 ((1 : Int) + (modS s.h (4 : Int)))) = DV.int .i64 s.gh) ∧ True) ∧ (zz2 ∧ zz4 ∧ (zz6 ∧ zz3 ∧ zz3 ∧ zz3 ∧ zz3 ∧ zz3 ∧ zz3 ∧ True ∧ True ∧ True ∧ True) ∧ True))) ∧ ∀ u2 : Unit, (True) → True ∧ True ∧ True ∧ True ∧ True ∧ True ∧ True ∧ True ∧ True ∧ True ∧ True ∧ (True ∧ True ∧ True ∧ (Ans Tryd.prog 9 [RV.d (DV.int .i64 s.tw), RV.d (DV.int .i64 s.gw)] (RV.d (DV.int .i64 (modS s.tw s.gw)))) ∧ True ∧ True ∧ True ∧ True ∧ (Ans Tryd.prog 9 [RV.d (DV.int .i64 s.th), RV.d (DV.int .i64 s.gh)] (RV.d (DV.int .i64 (modS s.th s.gh)))) ∧ True ∧ True ∧ True ∧ True ∧ True ∧ (true = true) ∧ ∃ u3 : Unit, True ∧ (zz9 ∧ (zz2 ∧ zz4 ∧ (zz6 ∧ zz10 ∧ zz11 ∧ (DV.int .i64 (IntKind.wrap .i64 (s.c.a + s.gw)) = DV.int .i64 s.c.c) ∧ (DV.int .i64 (IntKind.wrap .i64 (s.c.b + s.gh)) = DV.int .i64 s.c.d) ∧ (DV.int .i64 (IntKind.wrap .i64 ((1 : Int) + (modS s.tw s.gw))) = DV.int .i64 s.gtw) ∧ (DV.int .i64 (IntKind.wrap .i64 ((1 : Int) + (modS s.th s.gh))) = DV.int .i64 s.gth) ∧ True ∧ True ∧ True ∧ True) ∧ True))) ∧ ∀ u3 : Unit, (True) → True ∧ True ∧ True ∧ True ∧ True ∧ True ∧ (Ans Tryd.prog 23 [RV.agg zz12, RV.d (DV.int .i64 s.gtw), RV.d (DV.int .i64 s.gth)] (RV.tup [RV.d (DV.int .i64 ((cntS s.c s.gtw s.gth).1)), RV.d (DV.int .i64 ((cntS s.c s.gtw s.gth).2.1)), RV.d (DV.bool ((cntS s.c s.gtw s.gth).2.2))])) ∧ True ∧ True ∧ True ∧ True ∧ True ∧ True ∧ True ∧ (True ∧ True ∧ True ∧ True ∧ True ∧ (AnsO Tryd.prog 24 [RV.d (DV.sl s.on s.oxs), RV.d (DV.int .i64 zz13)] 3 1 ((permL (ints s.oxs) zz13).length) (is (permL (ints s.oxs) zz13))) ∧ True ∧ True ∧ ∃ u4 : Unit, True ∧ (zz9 ∧ (zz2 ∧ zz4 ∧ (zz6 ∧ zz10 ∧ zz11 ∧ zz14 ∧ zz15 ∧ zz16 ∧ zz17 ∧ ((permL (ints s.oxs) zz13).length = s.ord.length) ∧ True ∧ True ∧ True) ∧ (is (permL (ints s.oxs) zz13) = is s.ord) ∧ True))) ∧ ∀ u4 : Unit, (True) → (True ∧ ((∃ p : Nat, (p ≤ min s.pn 4) ∧ (((0 = 0) ∧ (0 = 0) ∧ zz5 ∧ (0 = 0) ∧ zz7 ∧ zz8 ∧ (DV.int .i64 0 = DV.int .i64 ((p : Nat) : Int)) ∧ True) ∧ (zz2 ∧ zz4 ∧ (zz6 ∧ zz10 ∧ zz11 ∧ zz14 ∧ zz15 ∧ zz16 ∧ zz17 ∧ zz18 ∧ (0 = p) ∧ True ∧ True) ∧ (is s.ord = is s.ord) ∧ ([] = ims (s.pics p)) ∧ True))) ∧ ∀ p : Nat, (p ≤ min s.pn 4) → True ∧ True ∧ True ∧ True ∧ True ∧ True ∧ (((decide (((p : Nat) : Int) < ((s.pn : Nat) : Int))) = true → True ∧ True ∧ True ∧ (((decide (((p : Nat) : Int) < (4 : Int))) = true → True ∧ True ∧ True ∧ True ∧ True ∧ (0 ≤ ((p : Nat) : Int) ∧ ((p : Nat) : Int) < ((s.pn : Nat) : Int) ∧ ((p : Nat) : Int).toNat * 5 < s.pxs.length) ∧ ((s.pxs[((p : Nat) : Int).toNat * 5]? = some (DV.int .i64 (nAt s.pxs (((p : Nat) : Int).toNat * 5)))) ∧ (s.pxs[((p : Nat) : Int).toNat * 5 + 1]? = some (DV.int .i64 (nAt s.pxs (((p : Nat) : Int).toNat * 5 + 1)))) ∧ (s.pxs[((p : Nat) : Int).toNat * 5 + 1 + 1]? = some (DV.int .i64 (nAt s.pxs (((p : Nat) : Int).toNat * 5 + 1 + 1)))) ∧ (s.pxs[((p : Nat) : Int).toNat * 5 + 1 + 1 + 1]? = some (DV.int .i64 (nAt s.pxs (((p : Nat) : Int).toNat * 5 + 1 + 1 + 1)))) ∧ (s.pxs[((p : Nat) : Int).toNat * 5 + 1 + 1 + 1 + 1]? = some (DV.sl (lAt s.pxs (((p : Nat) : Int).toNat * 5 + 1 + 1 + 1 + 1)) (cAt s.pxs (((p : Nat) : Int).toNat * 5 + 1 + 1 + 1 + 1)))) ∧ True) ∧ True ∧ True ∧ True ∧ (Ans Tryd.prog 25 [RV.agg [DV.int .i64 (nAt s.pxs (((p : Nat) : Int).toNat * 5)), DV.int .i64 (nAt s.pxs (((p : Nat) : Int).toNat * 5 + 1)), DV.int .i64 (nAt s.pxs (((p : Nat) : Int).toNat * 5 + 1 + 1)), DV.int .i64 (nAt s.pxs (((p : Nat) : Int).toNat * 5 + 1 + 1 + 1)), DV.sl (lAt s.pxs (((p : Nat) : Int).toNat * 5 + 1 + 1 + 1 + 1)) (cAt s.pxs (((p : Nat) : Int).toNat * 5 + 1 + 1 + 1 + 1))], RV.agg zz12, RV.d (DV.int .u16 s.most)] ((imR (gImage (nAt s.pxs (((p : Nat) : Int).toNat * 5)) (nAt s.pxs (((p : Nat) : Int).toNat * 5 + 1)) (nAt s.pxs (((p : Nat) : Int).toNat * 5 + 1 + 1)) (nAt s.pxs (((p : Nat) : Int).toNat * 5 + 1 + 1 + 1)) (lAt s.pxs (((p : Nat) : Int).toNat * 5 + 1 + 1 + 1 + 1)) (cAt s.pxs (((p : Nat) : Int).toNat * 5 + 1 + 1 + 1 + 1)) s.c.a s.c.b s.c.c s.c.d s.most)))) ∧ True ∧ (appVc 28 272 p 1 (ims (s.pics p)) ((Im.ds (gImage (nAt s.pxs (((p : Nat) : Int).toNat * 5)) (nAt s.pxs (((p : Nat) : Int).toNat * 5 + 1)) (nAt s.pxs (((p : Nat) : Int).toNat * 5 + 1 + 1)) (nAt s.pxs (((p : Nat) : Int).toNat * 5 + 1 + 1 + 1)) (lAt s.pxs (((p : Nat) : Int).toNat * 5 + 1 + 1 + 1 + 1)) (cAt s.pxs (((p : Nat) : Int).toNat * 5 + 1 + 1 + 1 + 1)) s.c.a s.c.b s.c.c s.c.d s.most)))) ∧ True ∧ True ∧ (true = true) ∧ True ∧ True ∧ True ∧ ∃ p' : Nat, (p' ≤ min s.pn 4) ∧ (min s.pn 4 - p' < min s.pn 4 - p) ∧ (((0 = 0) ∧ (0 = 0) ∧ zz5 ∧ (0 = 0) ∧ zz7 ∧ zz8 ∧ (DV.int .i64 (IntKind.wrap .i64 (((p : Nat) : Int) + (1 : Int))) = DV.int .i64 ((p' : Nat) : Int)) ∧ True) ∧ (zz2 ∧ zz4 ∧ (zz6 ∧ zz10 ∧ zz11 ∧ zz14 ∧ zz15 ∧ zz16 ∧ zz17 ∧ zz18 ∧ (p + 1 = p') ∧ True ∧ True) ∧ (is s.ord = is s.ord) ∧ ((ims (s.pics p)) ++ ((Im.ds (gImage (nAt s.pxs (((p : Nat) : Int).toNat * 5)) (nAt s.pxs (((p : Nat) : Int).toNat * 5 + 1)) (nAt s.pxs (((p : Nat) : Int).toNat * 5 + 1 + 1)) (nAt s.pxs (((p : Nat) : Int).toNat * 5 + 1 + 1 + 1)) (lAt s.pxs (((p : Nat) : Int).toNat * 5 + 1 + 1 + 1 + 1)) (cAt s.pxs (((p : Nat) : Int).toNat * 5 + 1 + 1 + 1 + 1)) s.c.a s.c.b s.c.c s.c.d s.most))) = ims (s.pics p')) ∧ True))) ∧ ((decide (((p : Nat) : Int) < (4 : Int))) = false → ∃ u6 : Unit, True ∧ (zz19 p)))) ∧ ((decide (((p : Nat) : Int) < ((s.pn : Nat) : Int))) = (!true) → True ∧ ∃ u6 : Unit, True ∧ (zz19 p))))) ∧ ∀ u6 : Unit, (True) → (True ∧ True ∧ ((s.pics (min s.pn 4)).length ≤ maxLen) ∧ True ∧ ((((((s.pics (min s.pn 4)).length : Nat) : Int) == (0 : Int)) = true → True ∧ True ∧ True ∧ True ∧ True ∧ True ∧ True ∧ True ∧ True ∧ (Ans Tryd.prog 26 [RV.d (DV.int .i64 s.gw), RV.d (DV.int .i64 s.gh), RV.agg [DV.int .u16 s.most, DV.int .u16 0, DV.int .u16 0, DV.int .u16 s.most, DV.int .u16 s.most]] ((imR (solidIm s.gw s.gh ⟨s.most, (0 : Int), (0 : Int), s.most, s.most⟩)))) ∧ True ∧ (appVc 28 272 ((s.pics (min s.pn 4)).length) 1 (ims (s.pics (min s.pn 4))) zz20) ∧ True ∧ True ∧ (true = true) ∧ ∃ u5 : Unit, True ∧ (zz21 ∧ (zz2 ∧ zz4 ∧ (zz6 ∧ zz10 ∧ zz11 ∧ zz14 ∧ zz15 ∧ zz16 ∧ zz17 ∧ zz18 ∧ (((s.pics (min s.pn 4)).length) + 1 = s.ims.length) ∧ True ∧ True) ∧ (is s.ord = is s.ord) ∧ ((ims (s.pics (min s.pn 4))) ++ zz20 = ims s.ims) ∧ True))) ∧ (((((s.pics (min s.pn 4)).length : Nat) : Int) == (0 : Int)) = false → ∃ u5 : Unit, True ∧ (zz21 ∧ (zz2 ∧ zz4 ∧ (zz6 ∧ zz10 ∧ zz11 ∧ zz14 ∧ zz15 ∧ zz16 ∧ zz17 ∧ zz18 ∧ ((s.pics (min s.pn 4)).length = s.ims.length) ∧ True ∧ True) ∧ (is s.ord = is s.ord) ∧ (ims (s.pics (min s.pn 4)) = ims s.ims) ∧ True))))) ∧ ∀ u5 : Unit, (True) → True ∧ (True ∧ ((∃ k : Nat, (k ≤ min s.rn 9) ∧ (((0 = 0) ∧ (0 = 0) ∧ zz5 ∧ (0 = 0) ∧ (0 = (s.run k).2.length) ∧ (DV.int .i64 0 = DV.int .i64 ((k : Nat) : Int)) ∧ True) ∧ (zz2 ∧ zz4 ∧ (zz6 ∧ zz10 ∧ zz11 ∧ zz14 ∧ zz15 ∧ zz16 ∧ zz17 ∧ zz18 ∧ zz22 ∧ (0 = (s.run k).1.length) ∧ True) ∧ ([] = ops (s.run k).2) ∧ (is s.ord = is s.ord) ∧ (ims s.ims = ims s.ims) ∧ ([] = ops (s.run k).1) ∧ True))) ∧ ∀ k : Nat, (k ≤ min s.rn 9) → True ∧ True ∧ True ∧ True ∧ True ∧ True ∧ (((decide (((k : Nat) : Int) < ((s.rn : Nat) : Int))) = true → True ∧ True ∧ True ∧ (((decide (((k : Nat) : Int) < (9 : Int))) = true → True ∧ True ∧ True ∧ (zz23 k) ∧ True ∧ ((s.rxs[((k : Nat) : Int).toNat * 11 + 0]? = some (DV.int .i64 (nAt s.rxs (((k : Nat) : Int).toNat * 11 + 0)))) ∧ True) ∧ (Ans Tryd.prog 9 [RV.d (DV.int .i64 (nAt s.rxs (((k : Nat) : Int).toNat * 11 + 0))), RV.d (DV.int .i64 8)] (RV.d (DV.int .i64 (modS (nAt s.rxs (((k : Nat) : Int).toNat * 11 + 0)) (8 : Int))))) ∧ True ∧ True ∧ ((s.run k).2.length ≤ maxLen) ∧ True ∧ (True ∧ True ∧ True ∧ ((((modS (nAt s.rxs (((k : Nat) : Int).toNat * 11 + 0)) (8 : Int)) == (0 : Int)) = true → True ∧ True ∧ True ∧ (((decide ((((s.run k).2.length : Nat) : Int) > (0 : Int))) = true → True ∧ True ∧ True ∧ True ∧ (appVc 12 88 ((s.run k).1.length) 1 (ops (s.run k).1) ([DV.int .i64 3, DV.int .i64 0, DV.int .i64 0, DV.int .i64 0, DV.int .i64 0, DV.int .i64 0, DV.int .i64 0, DV.int .u16 0, DV.int .i64 0, DV.int .i64 0, DV.bool false, DV.bool false])) ∧ True ∧ True ∧ True ∧ True ∧ True ∧ (0 ≤ IntKind.wrap .i64 ((((s.run k).2.length : Nat) : Int) - (1 : Int)) ∧ IntKind.wrap .i64 ((((s.run k).2.length : Nat) : Int) - (1 : Int)) ≤ (((s.run k).2.length : Nat) : Int)) ∧ True ∧ True ∧ True ∧ True ∧ ∃ k' : Nat, (k' ≤ min s.rn 9) ∧ (zz24 k k') ∧ (((0 = 0) ∧ (0 = 0) ∧ zz5 ∧ (0 = 0) ∧ ((IntKind.wrap .i64 ((((s.run k).2.length : Nat) : Int) - (1 : Int))).toNat = (s.run k').2.length) ∧ (zz25 k k') ∧ True) ∧ (zz2 ∧ zz4 ∧ (zz26 k k') ∧ (List.take ((IntKind.wrap .i64 ((((s.run k).2.length : Nat) : Int) - (1 : Int))).toNat * 12) (ops (s.run k).2) = ops (s.run k').2) ∧ (is s.ord = is s.ord) ∧ (ims s.ims = ims s.ims) ∧ ((ops (s.run k).1) ++ ([DV.int .i64 3, DV.int .i64 0, DV.int .i64 0, DV.int .i64 0, DV.int .i64 0, DV.int .i64 0, DV.int .i64 0, DV.int .u16 0, DV.int .i64 0, DV.int .i64 0, DV.bool false, DV.bool false]) = ops (s.run k').1) ∧ True))) ∧ ((decide ((((s.run k).2.length : Nat) : Int) > (0 : Int))) = false → ∃ u8 : Unit, (¬ (modS (rwAt s.rxs (k * 11)).k 8 = 0 ∧ 0 < (s.run k).2.length)) ∧ (zz34 k)))) ∧ (((modS (nAt s.rxs (((k : Nat) : Int).toNat * 11 + 0)) (8 : Int)) == (0 : Int)) = (!true) → True ∧ ∃ u8 : Unit, (¬ (modS (rwAt s.rxs (k * 11)).k 8 = 0 ∧ 0 < (s.run k).2.length)) ∧ (zz34 k)))) ∧ ∀ u8 : Unit, (¬ (modS (rwAt s.rxs (k * 11)).k 8 = 0 ∧ 0 < (s.run k).2.length)) → (True ∧ True ∧ True ∧ ((((((s.run k).2.length : Nat) : Int) == (0 : Int)) = false → True ∧ True ∧ True ∧ (zz35 k) ∧ True ∧ (((ops (s.run k).2)[(IntKind.wrap .i64 ((((s.run k).2.length : Nat) : Int) - (1 : Int))).toNat * 12 + 10]? = some (DV.bool (bAt (ops (s.run k).2) ((IntKind.wrap .i64 ((((s.run k).2.length : Nat) : Int) - (1 : Int))).toNat * 12 + 10)))) ∧ True) ∧ True ∧ (((bAt (ops (s.run k).2) ((IntKind.wrap .i64 ((((s.run k).2.length : Nat) : Int) - (1 : Int))).toNat * 12 + 10)) = true → True ∧ True ∧ True ∧ (zz35 k) ∧ True ∧ (((ops (s.run k).2)[(IntKind.wrap .i64 ((((s.run k).2.length : Nat) : Int) - (1 : Int))).toNat * 12 + 11]? = some (DV.bool (bAt (ops (s.run k).2) ((IntKind.wrap .i64 ((((s.run k).2.length : Nat) : Int) - (1 : Int))).toNat * 12 + 11)))) ∧ True) ∧ True ∧ True ∧ True ∧ True ∧ ∃ fr : Bool, (fr = ctxB (s.run k).2) ∧ (((0 = 0) ∧ (0 = 0) ∧ zz5 ∧ (0 = 0) ∧ (zz27 k) ∧ (zz28 k) ∧ (zz29 k) ∧ (DV.bool (!(bAt (ops (s.run k).2) ((IntKind.wrap .i64 ((((s.run k).2.length : Nat) : Int) - (1 : Int))).toNat * 12 + 11))) = DV.bool fr) ∧ True) ∧ (zz33 k))) ∧ ((bAt (ops (s.run k).2) ((IntKind.wrap .i64 ((((s.run k).2.length : Nat) : Int) - (1 : Int))).toNat * 12 + 10)) = (!true) → True ∧ True ∧ True ∧ ∃ fr : Bool, (fr = ctxB (s.run k).2) ∧ (((0 = 0) ∧ (0 = 0) ∧ zz5 ∧ (0 = 0) ∧ (zz27 k) ∧ (zz28 k) ∧ (zz29 k) ∧ (DV.bool false = DV.bool fr) ∧ True) ∧ (zz33 k))))) ∧ (((((s.run k).2.length : Nat) : Int) == (0 : Int)) = (!false) → True ∧ True ∧ ∃ fr : Bool, (fr = ctxB (s.run k).2) ∧ (((0 = 0) ∧ (0 = 0) ∧ zz5 ∧ (0 = 0) ∧ (zz27 k) ∧ (zz28 k) ∧ (zz29 k) ∧ (DV.bool true = DV.bool fr) ∧ True) ∧ (zz33 k))))) ∧ ∀ fr : Bool, (fr = ctxB (s.run k).2) → (True ∧ True ∧ True ∧ (zz23 k) ∧ ((s.rxs[((k : Nat) : Int).toNat * 11]? = some (DV.int .i64 (nAt s.rxs (((k : Nat) : Int).toNat * 11)))) ∧ (s.rxs[((k : Nat) : Int).toNat * 11 + 1]? = some (DV.int .i64 (nAt s.rxs (((k : Nat) : Int).toNat * 11 + 1)))) ∧ (s.rxs[((k : Nat) : Int).toNat * 11 + 1 + 1]? = some (DV.int .i64 (nAt s.rxs (((k : Nat) : Int).toNat * 11 + 1 + 1)))) ∧ (s.rxs[((k : Nat) : Int).toNat * 11 + 1 + 1 + 1]? = some (DV.int .i64 (nAt s.rxs (((k : Nat) : Int).toNat * 11 + 1 + 1 + 1)))) ∧ (s.rxs[((k : Nat) : Int).toNat * 11 + 1 + 1 + 1 + 1]? = some (DV.int .i64 (nAt s.rxs (((k : Nat) : Int).toNat * 11 + 1 + 1 + 1 + 1)))) ∧ (s.rxs[((k : Nat) : Int).toNat * 11 + 1 + 1 + 1 + 1 + 1]? = some (DV.int .i64 (nAt s.rxs (((k : Nat) : Int).toNat * 11 + 1 + 1 + 1 + 1 + 1)))) ∧ (s.rxs[((k : Nat) : Int).toNat * 11 + 1 + 1 + 1 + 1 + 1 + 1]? = some (DV.int .i64 (nAt s.rxs (((k : Nat) : Int).toNat * 11 + 1 + 1 + 1 + 1 + 1 + 1)))) ∧ (s.rxs[((k : Nat) : Int).toNat * 11 + 1 + 1 + 1 + 1 + 1 + 1 + 1]? = some (DV.int .i64 (nAt s.rxs (((k : Nat) : Int).toNat * 11 + 1 + 1 + 1 + 1 + 1 + 1 + 1)))) ∧ (s.rxs[((k : Nat) : Int).toNat * 11 + 1 + 1 + 1 + 1 + 1 + 1 + 1 + 1]? = some (DV.int .i64 (nAt s.rxs (((k : Nat) : Int).toNat * 11 + 1 + 1 + 1 + 1 + 1 + 1 + 1 + 1)))) ∧ (s.rxs[((k : Nat) : Int).toNat * 11 + 1 + 1 + 1 + 1 + 1 + 1 + 1 + 1 + 1]? = some (DV.int .i64 (nAt s.rxs (((k : Nat) : Int).toNat * 11 + 1 + 1 + 1 + 1 + 1 + 1 + 1 + 1 + 1)))) ∧ (s.rxs[((k : Nat) : Int).toNat * 11 + 1 + 1 + 1 + 1 + 1 + 1 + 1 + 1 + 1 + 1]? = some (DV.int .i64 (nAt s.rxs (((k : Nat) : Int).toNat * 11 + 1 + 1 + 1 + 1 + 1 + 1 + 1 + 1 + 1 + 1)))) ∧ True) ∧ True ∧ True ∧ True ∧ True ∧ (s.ims.length ≤ maxLen) ∧ True ∧ True ∧ True ∧ True ∧ (Ans Tryd.prog 8 [RV.agg [DV.int .i64 (nAt s.rxs (((k : Nat) : Int).toNat * 11)), DV.int .i64 (nAt s.rxs (((k : Nat) : Int).toNat * 11 + 1)), DV.int .i64 (nAt s.rxs (((k : Nat) : Int).toNat * 11 + 1 + 1)), DV.int .i64 (nAt s.rxs (((k : Nat) : Int).toNat * 11 + 1 + 1 + 1)), DV.int .i64 (nAt s.rxs (((k : Nat) : Int).toNat * 11 + 1 + 1 + 1 + 1)), DV.int .i64 (nAt s.rxs (((k : Nat) : Int).toNat * 11 + 1 + 1 + 1 + 1 + 1)), DV.int .i64 (nAt s.rxs (((k : Nat) : Int).toNat * 11 + 1 + 1 + 1 + 1 + 1 + 1)), DV.int .i64 (nAt s.rxs (((k : Nat) : Int).toNat * 11 + 1 + 1 + 1 + 1 + 1 + 1 + 1)), DV.int .i64 (nAt s.rxs (((k : Nat) : Int).toNat * 11 + 1 + 1 + 1 + 1 + 1 + 1 + 1 + 1)), DV.int .i64 (nAt s.rxs (((k : Nat) : Int).toNat * 11 + 1 + 1 + 1 + 1 + 1 + 1 + 1 + 1 + 1)), DV.int .i64 (nAt s.rxs (((k : Nat) : Int).toNat * 11 + 1 + 1 + 1 + 1 + 1 + 1 + 1 + 1 + 1 + 1))], RV.d (DV.bool (decide ((modS (nAt s.rxs (((k : Nat) : Int).toNat * 11 + 0)) (8 : Int)) < (3 : Int)))), RV.d (DV.int .i64 ((s.ims.length : Nat) : Int)), RV.agg zz12, RV.d (DV.bool fr), RV.d (DV.int .u16 s.most)] (RV.agg (Oq.cells (gOp ⟨(nAt s.rxs (((k : Nat) : Int).toNat * 11)), (nAt s.rxs (((k : Nat) : Int).toNat * 11 + 1)), (nAt s.rxs (((k : Nat) : Int).toNat * 11 + 1 + 1)), (nAt s.rxs (((k : Nat) : Int).toNat * 11 + 1 + 1 + 1)), (nAt s.rxs (((k : Nat) : Int).toNat * 11 + 1 + 1 + 1 + 1)), (nAt s.rxs (((k : Nat) : Int).toNat * 11 + 1 + 1 + 1 + 1 + 1)), (nAt s.rxs (((k : Nat) : Int).toNat * 11 + 1 + 1 + 1 + 1 + 1 + 1)), (nAt s.rxs (((k : Nat) : Int).toNat * 11 + 1 + 1 + 1 + 1 + 1 + 1 + 1)), (nAt s.rxs (((k : Nat) : Int).toNat * 11 + 1 + 1 + 1 + 1 + 1 + 1 + 1 + 1)), (nAt s.rxs (((k : Nat) : Int).toNat * 11 + 1 + 1 + 1 + 1 + 1 + 1 + 1 + 1 + 1)), (nAt s.rxs (((k : Nat) : Int).toNat * 11 + 1 + 1 + 1 + 1 + 1 + 1 + 1 + 1 + 1 + 1))⟩ (decide ((modS (nAt s.rxs (((k : Nat) : Int).toNat * 11 + 0)) (8 : Int)) < (3 : Int))) ((s.ims.length : Nat) : Int) s.c fr s.most)))) ∧ True ∧ True ∧ (true = true) ∧ ∃ o : Oq, (zz36 k o) ∧ (((0 = 0) ∧ (0 = 0) ∧ zz5 ∧ (0 = 0) ∧ (zz27 k) ∧ (zz28 k) ∧ (0 = 0) ∧ True) ∧ (zz2 ∧ zz4 ∧ (zz30 k) ∧ (zz31 k) ∧ ((Oq.cells (gOp ⟨(nAt s.rxs (((k : Nat) : Int).toNat * 11)), (nAt s.rxs (((k : Nat) : Int).toNat * 11 + 1)), (nAt s.rxs (((k : Nat) : Int).toNat * 11 + 1 + 1)), (nAt s.rxs (((k : Nat) : Int).toNat * 11 + 1 + 1 + 1)), (nAt s.rxs (((k : Nat) : Int).toNat * 11 + 1 + 1 + 1 + 1)), (nAt s.rxs (((k : Nat) : Int).toNat * 11 + 1 + 1 + 1 + 1 + 1)), (nAt s.rxs (((k : Nat) : Int).toNat * 11 + 1 + 1 + 1 + 1 + 1 + 1)), (nAt s.rxs (((k : Nat) : Int).toNat * 11 + 1 + 1 + 1 + 1 + 1 + 1 + 1)), (nAt s.rxs (((k : Nat) : Int).toNat * 11 + 1 + 1 + 1 + 1 + 1 + 1 + 1 + 1)), (nAt s.rxs (((k : Nat) : Int).toNat * 11 + 1 + 1 + 1 + 1 + 1 + 1 + 1 + 1 + 1)), (nAt s.rxs (((k : Nat) : Int).toNat * 11 + 1 + 1 + 1 + 1 + 1 + 1 + 1 + 1 + 1 + 1))⟩ (decide ((modS (nAt s.rxs (((k : Nat) : Int).toNat * 11 + 0)) (8 : Int)) < (3 : Int))) ((s.ims.length : Nat) : Int) s.c fr s.most)) = (Oq.cells (o))) ∧ (is s.ord = is s.ord) ∧ (ims s.ims = ims s.ims) ∧ (zz32 k) ∧ True))) ∧ ∀ o : Oq, (zz36 k o) → True ∧ True ∧ True ∧ True ∧ (appVc 12 88 ((s.run k).1.length) 1 (ops (s.run k).1) ((Oq.cells (o)))) ∧ True ∧ True ∧ True ∧ True ∧ True ∧ (((o.kind == (2 : Int)) = true → True ∧ True ∧ True ∧ (appVc 12 88 ((s.run k).2.length) 1 (ops (s.run k).2) ((Oq.cells (o)))) ∧ True ∧ True ∧ True ∧ True ∧ ∃ k' : Nat, (k' ≤ min s.rn 9) ∧ (zz24 k k') ∧ (((0 = 0) ∧ (0 = 0) ∧ zz5 ∧ (0 = 0) ∧ (((s.run k).2.length) + 1 = (s.run k').2.length) ∧ (zz25 k k') ∧ True) ∧ (zz2 ∧ zz4 ∧ (zz26 k k') ∧ ((ops (s.run k).2) ++ ((Oq.cells (o))) = ops (s.run k').2) ∧ (is s.ord = is s.ord) ∧ (ims s.ims = ims s.ims) ∧ (zz37 k k' o) ∧ True))) ∧ ((o.kind == (2 : Int)) = false → True ∧ True ∧ True ∧ ∃ k' : Nat, (k' ≤ min s.rn 9) ∧ (zz24 k k') ∧ (((0 = 0) ∧ (0 = 0) ∧ zz5 ∧ (0 = 0) ∧ ((s.run k).2.length = (s.run k').2.length) ∧ (zz25 k k') ∧ True) ∧ (zz2 ∧ zz4 ∧ (zz26 k k') ∧ (ops (s.run k).2 = ops (s.run k').2) ∧ (is s.ord = is s.ord) ∧ (ims s.ims = ims s.ims) ∧ (zz37 k k' o) ∧ True))))) ∧ ((decide (((k : Nat) : Int) < (9 : Int))) = false → ∃ u7 : Unit, True ∧ (zz38 k)))) ∧ ((decide (((k : Nat) : Int) < ((s.rn : Nat) : Int))) = (!true) → True ∧ ∃ u7 : Unit, True ∧ (zz38 k))))) ∧ ∀ u7 : Unit, (True) → True ∧ ((∃ j : Nat, (zz39 j) ∧ (((0 = 0) ∧ (0 = 0) ∧ zz40 ∧ (DV.int .i64 0 = DV.int .i64 ((j : Nat) : Int)) ∧ True) ∧ (zz4 ∧ (zz6 ∧ zz10 ∧ zz11 ∧ zz14 ∧ zz15 ∧ zz16 ∧ zz17 ∧ zz18 ∧ zz22 ∧ ((s.run (min s.rn 9)).1.length = ((s.run (min s.rn 9)).1 ++ List.replicate j popO).length) ∧ True) ∧ zz41 ∧ (is s.ord = is s.ord) ∧ (ims s.ims = ims s.ims) ∧ (ops (s.run (min s.rn 9)).1 = ops ((s.run (min s.rn 9)).1 ++ List.replicate j popO)) ∧ True))) ∧ ∀ j : Nat, (zz39 j) → True ∧ True ∧ ((s.run (min s.rn 9)).2.length ≤ maxLen) ∧ True ∧ (((decide (((j : Nat) : Int) < (((s.run (min s.rn 9)).2.length : Nat) : Int))) = true → True ∧ True ∧ True ∧ True ∧ (appVc 12 88 (((s.run (min s.rn 9)).1 ++ List.replicate j popO).length) 1 (ops ((s.run (min s.rn 9)).1 ++ List.replicate j popO)) ([DV.int .i64 3, DV.int .i64 0, DV.int .i64 0, DV.int .i64 0, DV.int .i64 0, DV.int .i64 0, DV.int .i64 0, DV.int .u16 0, DV.int .i64 0, DV.int .i64 0, DV.bool false, DV.bool false])) ∧ True ∧ True ∧ True ∧ True ∧ True ∧ ∃ j' : Nat, (j' ≤ (s.run (min s.rn 9)).2.length) ∧ ((s.run (min s.rn 9)).2.length - j' < (s.run (min s.rn 9)).2.length - j) ∧ (((0 = 0) ∧ (0 = 0) ∧ zz40 ∧ (DV.int .i64 (IntKind.wrap .i64 (((j : Nat) : Int) + (1 : Int))) = DV.int .i64 ((j' : Nat) : Int)) ∧ True) ∧ (zz4 ∧ (zz6 ∧ zz10 ∧ zz11 ∧ zz14 ∧ zz15 ∧ zz16 ∧ zz17 ∧ zz18 ∧ zz22 ∧ ((((s.run (min s.rn 9)).1 ++ List.replicate j popO).length) + 1 = ((s.run (min s.rn 9)).1 ++ List.replicate j' popO).length) ∧ True) ∧ zz41 ∧ (is s.ord = is s.ord) ∧ (ims s.ims = ims s.ims) ∧ ((ops ((s.run (min s.rn 9)).1 ++ List.replicate j popO)) ++ ([DV.int .i64 3, DV.int .i64 0, DV.int .i64 0, DV.int .i64 0, DV.int .i64 0, DV.int .i64 0, DV.int .i64 0, DV.int .u16 0, DV.int .i64 0, DV.int .i64 0, DV.bool false, DV.bool false]) = ops ((s.run (min s.rn 9)).1 ++ List.replicate j' popO)) ∧ True))) ∧ ((decide (((j : Nat) : Int) < (((s.run (min s.rn 9)).2.length : Nat) : Int))) = false → True ∧ True ∧ ((((DV.int .i64 s.bits = DV.int .i64 ((s).bits)) ∧ (DV.int .i64 s.c.a = DV.int .i64 ((s).c.a)) ∧ (DV.int .i64 s.c.b = DV.int .i64 ((s).c.b)) ∧ (DV.int .i64 s.c.c = DV.int .i64 ((s).c.c)) ∧ (DV.int .i64 s.c.d = DV.int .i64 ((s).c.d)) ∧ (DV.int .i64 s.gtw = DV.int .i64 ((s).gtw)) ∧ (DV.int .i64 s.gth = DV.int .i64 ((s).gth)) ∧ (s.ord.length = (s).ord.length) ∧ (s.ims.length = (s).ims.length) ∧ (((s.run (min s.rn 9)).1 ++ List.replicate j popO).length = (s).ops.length) ∧ True) ∧ True) ∧ ((is s.ord = is (s).ord) ∧ (ims s.ims = ims (s).ims) ∧ (ops ((s.run (min s.rn 9)).1 ++ List.replicate j popO) = ops (s).ops) ∧ True)) ∧ freshOK ⟨AV.agg [Cl.d (DV.int .i64 ((s).bits)), Cl.d (DV.int .i64 ((s).c.a)), Cl.d (DV.int .i64 ((s).c.b)), Cl.d (DV.int .i64 ((s).c.c)), Cl.d (DV.int .i64 ((s).c.d)), Cl.d (DV.int .i64 ((s).gtw)), Cl.d (DV.int .i64 ((s).gth)), Cl.ref 0 ((s).ord.length), Cl.ref 1 ((s).ims.length), Cl.ref 2 ((s).ops.length)], [Bx.row 3 1 (is (s).ord), Bx.row 49 28 (ims (s).ims), Bx.row 29 12 (ops (s).ops)], false⟩)))) := by kernel_rfl
theorem G_Script_ans (s : Scn) (hs : s.ok) : AnsG Tryd.prog 7 0 [AV.agg [Cl.d (DV.int .i64 s.b), Cl.d (DV.int .i64 s.x), Cl.d (DV.int .i64 s.y), Cl.d (DV.int .i64 s.w), Cl.d (DV.int .i64 s.h), Cl.d (DV.int .i64 s.tw), Cl.d (DV.int .i64 s.th), Cl.d (DV.sl s.on s.oxs), Cl.d (DV.sl s.pn s.pxs), Cl.d (DV.sl s.rn s.rxs)]] [] ⟨AV.agg [Cl.d (DV.int .i64 ((s).bits)), Cl.d (DV.int .i64 ((s).c.a)), Cl.d (DV.int .i64 ((s).c.b)), Cl.d (DV.int .i64 ((s).c.c)), Cl.d (DV.int .i64 ((s).c.d)), Cl.d (DV.int .i64 ((s).gtw)), Cl.d (DV.int .i64 ((s).gth)), Cl.ref 0 ((s).ord.length), Cl.ref 1 ((s).ims.length), Cl.ref 2 ((s).ops.length)], [Bx.row 3 1 (is (s).ord), Bx.row 49 28 (ims (s).ims), Bx.row 29 12 (ops (s).ops)], false⟩ :=
  ansG_of_vcg (Γ := gamSc) (G_Script_ann s) mixed_ Tryd.func7 rfl (Nat.le_of_ble_eq_true rfl) rfl fun hwf hbx => by
    refine Eq.mpr (G_Script_vc s) ?_
    simp only [true_and, and_true, RV.d.injEq, RV.agg.injEq, RV.tup.injEq, DV.bool.injEq, DV.int.injEq, DV.sl.injEq, List.cons.injEq, forall_const, Bool.not_false, Bool.not_true, Bool.not_eq_true', Bool.not_eq_false', decide_eq_true_eq, decide_eq_false_iff_not, Int.toNat_natCast, G_Mod_ans, G_Max_ans]
    obtain ⟨⟨ho1, ho2⟩, ⟨hp1, hp2⟩, ⟨hr1, hr2⟩⟩ := hs
    obtain ⟨f1, f2, f3, f4, f5, f6⟩ := s.facts
    have CF := s.c_facts
    have w1 : IntKind.wrap .i64 (modS s.x 13 - 6) = s.c.a := IntWalk.i64_in _ ⟨by omega, by omega⟩
    have w2 : IntKind.wrap .i64 (modS s.y 13 - 6) = s.c.b := IntWalk.i64_in _ ⟨by omega, by omega⟩
    have g1 : s.gw = 1 + modS s.w 5 := rfl
    have g2 : s.gh = 1 + modS s.h 4 := rfl
    have g3 : s.gtw = 1 + modS s.tw s.gw := rfl
    have g4 : s.gth = 1 + modS s.th s.gh := rfl
    have w3 : IntKind.wrap .i64 (1 + modS s.w 5) = s.gw := IntWalk.i64_in _ ⟨by omega, by omega⟩
    have w4 : IntKind.wrap .i64 (1 + modS s.h 4) = s.gh := IntWalk.i64_in _ ⟨by omega, by omega⟩
    have w5 : IntKind.wrap .i64 (s.c.a + s.gw) = s.c.c := by rw [IntWalk.i64_in _ ⟨by omega, by omega⟩]; omega
    have w6 : IntKind.wrap .i64 (s.c.b + s.gh) = s.c.d := by rw [IntWalk.i64_in _ ⟨by omega, by omega⟩]; omega
    have w7 : IntKind.wrap .i64 (1 + modS s.tw s.gw) = s.gtw := IntWalk.i64_in _ ⟨by omega, by omega⟩
    have w8 : IntKind.wrap .i64 (1 + modS s.th s.gh) = s.gth := IntWalk.i64_in _ ⟨by omega, by omega⟩
    have hm := s.tiles_in
    have hM : ∀ n : Nat, n ≤ 100 → n ≤ maxLen := fun n h => by unfold maxLen; omega
    have li := s.ims_len
    have lk := fun k => s.run_len k
    have pq : 1 ≤ s.c.c - s.c.a ∧ s.c.c - s.c.a ≤ 100 ∧ 1 ≤ s.c.d - s.c.b ∧ s.c.d - s.c.b ≤ 100 := by omega
    have BI := s.bits_of
    refine ⟨⟨fun h => ⟨(), rfl, BI.1 h⟩, fun h => ⟨(), rfl, BI.2 h⟩⟩, ⟨(), w1, w2, w3, w4⟩, ⟨(), w5, w6, w7, w8⟩, R13_Tiles_ans _ _ _ _ _ _, ⟨G_Permutation_ans _ _ _ ⟨ho1, ho2⟩ hm.1, (), rfl, rfl⟩, ⟨⟨0, Nat.zero_le _, rfl, rfl, rfl⟩, fun p hp => ⟨fun h1 => ⟨fun h2 => ?_, fun h2 => ?_⟩, fun h1 => ?_⟩⟩, ?_⟩
    · obtain ⟨q0, q1, q2, q3, q4, q5⟩ := hp2 p (by omega)
      refine ⟨⟨by omega, by omega, by omega⟩, ⟨q0, q1, q2, q3, q4⟩, G_ImageD_ans _ _ _ _ _ _ _ _ _ _ _ q5 pq, ⟨by rw [ims_length, s.pics_len], by rw [Im.ds_len], hM _ (by omega), by omega⟩, p + 1, by omega, by omega, wrap_succ (by omega), rfl, ?_⟩
      rw [s.pics_succ, ims_append, ims_one]; rfl
    · have : p = min s.pn 4 := by omega
      subst this
      exact ⟨(), (s.pics_len _).symm, rfl⟩
    · have : p = min s.pn 4 := by omega
      subst this
      exact ⟨(), (s.pics_len _).symm, rfl⟩
    have lp := s.pics_len (min s.pn 4)
    refine ⟨⟨hM _ (by omega), fun h => ?_, fun h => ?_⟩, ⟨⟨0, Nat.zero_le _, ⟨rfl, rfl⟩, rfl, rfl, rfl⟩, fun k hk => ⟨fun h1 => ⟨fun h2 => ?_, fun h2 => ?_⟩, fun h1 => ?_⟩⟩, ?_⟩
    · have h0 : min s.pn 4 = 0 := by rw [lp] at h; simpa using h
      have e1 : s.ims = [s.solo] := by unfold Scn.ims; rw [if_pos h0]
      have e2 : s.pics (min s.pn 4) = [] := by rw [h0]; rfl
      rw [e1, e2]
      exact ⟨R13_Solid_im s.gw s.gh ⟨_, _, _, _, _⟩, ⟨by simp [ims], by simp [Im.ds], hM _ (by simp), by simp⟩, (), rfl, by simp [ims]; rfl⟩
    · have h0 : ¬ min s.pn 4 = 0 := by rw [lp] at h; simpa using h
      have e1 : s.ims = s.pics (min s.pn 4) := by unfold Scn.ims; rw [if_neg h0]
      rw [e1]
      exact ⟨(), rfl, rfl⟩
    · have lk1 := (lk k).1
      have lk2 := (lk k).2
      have ro := fun i (h : i < 11) => hr2 (k * 11 + i) (by omega)
      have wl : 0 < (s.run k).2.length → IntKind.wrap .i64 (((s.run k).2.length : Int) - 1) = (((s.run k).2.length - 1 : Nat) : Int) := fun h => by rw [IntWalk.i64_in _ ⟨by omega, by omega⟩]; omega
      have ws : IntKind.wrap .i64 ((k : Int) + 1) = ((k + 1 : Nat) : Int) := wrap_succ (by omega)
      refine ⟨⟨by omega, by omega, by omega⟩, ro 0 (by omega), hM _ (by omega), ⟨fun a1 => ⟨fun a2 => ?_, fun a2 => ⟨(), fun h => a2 (by omega)⟩⟩, fun a1 => ⟨(), fun h => ?_⟩⟩, fun hn => ⟨⟨fun a1 => ?_, fun a1 => ?_⟩, fun fr hfr => ⟨?_, fun o ho => ?_⟩⟩⟩
      · have a3 : 0 < (s.run k).2.length := by omega
        have a4 : modS (nAt s.rxs (k * 11)) 8 = 0 := by simpa using a1
        have rp := Scn.run_pop (s := s) (k := k) ⟨a4, a3⟩
        rw [wl a3]
        refine ⟨⟨by rw [ops_length, lk1], rfl, hM _ (by omega), by omega⟩, ⟨by omega, by omega⟩, k + 1, by omega, by omega, ⟨?_, ws⟩, ?_, ?_, ?_⟩
        · rw [rp]; simp
        · rw [rp]; simp
        · rw [rp, Int.toNat_natCast, ops_take, List.dropLast_eq_take]
        · rw [rp, ops_append, ops_one]; rfl
      · have a4 : ¬ modS (nAt s.rxs (k * 11)) 8 = 0 := by simpa using a1
        exact a4 h.1
      · have a3 : 0 < (s.run k).2.length := by
          have : ¬ (s.run k).2.length = 0 := by simpa using a1
          omega
        have hl : (s.run k).2.length - 1 < (s.run k).2.length := by omega
        have g10 : (ops (s.run k).2)[((s.run k).2.length - 1) * 12 + 10]? = some (.bool (s.run k).2[(s.run k).2.length - 1].iso) := ops_get hl 10 (by omega)
        have g11 : (ops (s.run k).2)[((s.run k).2.length - 1) * 12 + 11]? = some (.bool (s.run k).2[(s.run k).2.length - 1].kno) := ops_get hl 11 (by omega)
        have b10 : bAt (ops (s.run k).2) (((s.run k).2.length - 1) * 12 + 10) = (s.run k).2[(s.run k).2.length - 1].iso := by simp only [bAt, g10]
        have b11 : bAt (ops (s.run k).2) (((s.run k).2.length - 1) * 12 + 11) = (s.run k).2[(s.run k).2.length - 1].kno := by simp only [bAt, g11]
        rw [wl a3, Int.toNat_natCast, b10, b11, ctxB_last a3]
        refine ⟨⟨by omega, by omega⟩, g10, fun h => ⟨⟨by omega, by omega⟩, g11, _, rfl, ?_⟩, fun h => ⟨_, rfl, ?_⟩⟩ <;> simp [h]
      · have a3 : (s.run k).2.length = 0 := by simpa using a1
        rw [List.length_eq_zero_iff.1 a3]
        exact ⟨_, rfl, rfl⟩
      · subst hfr
        refine ⟨⟨by omega, by omega, by omega⟩, ⟨ro 0 (by omega), ro 1 (by omega), ro 2 (by omega), ro 3 (by omega), ro 4 (by omega), ro 5 (by omega), ro 6 (by omega), ro 7 (by omega), ro 8 (by omega), ro 9 (by omega), ro 10 (by omega)⟩, hM _ (by omega), G_Op_ans (rwAt s.rxs (k * 11)) _ _ _ _ _ ⟨⟨by omega, by omega⟩, by omega, by omega⟩ ⟨by omega, by omega⟩, _, rfl, rfl⟩
      · obtain ⟨r1, r2⟩ := Scn.run_op (s := s) (k := k) hn ho
        clear ho
        refine ⟨⟨by rw [ops_length, lk1], rfl, hM _ (by omega), by omega⟩, fun a1 => ⟨⟨by rw [ops_length], rfl, hM _ (by omega), by omega⟩, k + 1, by omega, by omega, ⟨?_, ws⟩, ?_, ?_, ?_⟩, fun a1 => ⟨k + 1, by omega, by omega, ⟨?_, ws⟩, ?_, ?_, ?_⟩⟩
        · rw [r1 (by simpa using a1)]; simp
        · rw [r1 (by simpa using a1)]; simp
        · rw [r1 (by simpa using a1), ops_append, ops_one]
        · rw [r1 (by simpa using a1), ops_append, ops_one]
        · rw [r2 (by simpa using a1)]
        · rw [r2 (by simpa using a1)]; simp
        · rw [r2 (by simpa using a1)]
        · rw [r2 (by simpa using a1), ops_append, ops_one]
    · have : k = min s.rn 9 := by omega
      subst this
      exact ⟨(), rfl, rfl, rfl, rfl⟩
    · have : k = min s.rn 9 := by omega
      subst this
      exact ⟨(), rfl, rfl, rfl, rfl⟩
    · have e : s.ops = (s.run (min s.rn 9)).1 ++ List.replicate (s.run (min s.rn 9)).2.length popO := rfl
      have lr := lk (min s.rn 9)
      rw [e]
      generalize s.run (min s.rn 9) = z at *
      refine ⟨⟨0, Nat.zero_le _, rfl, by simp, by simp⟩, fun j hj => ⟨hM _ (by omega), fun h => ?_, fun h => ?_⟩⟩
      · have e2 : z.1 ++ List.replicate (j + 1) popO = (z.1 ++ List.replicate j popO) ++ [popO] := by rw [List.append_assoc, List.replicate_succ']
        refine ⟨⟨by rw [ops_length], rfl, hM _ (by simp; omega), by simp; omega⟩, j + 1, by omega, by omega, wrap_succ (by omega), ?_, ?_⟩
        · rw [e2]; simp; omega
        · rw [e2, ops_append _ [popO], ops_one]; rfl
      · have : j = z.2.length := by omega
        subst this
        exact ⟨⟨rfl, rfl⟩, trivial⟩

end Go.Proofs.YtcaokljobfkajaaDoor

/-
  Check of a whole script, of package validate and of the reference.
-/
namespace Go.Proofs.YtcaokljobfkajaaDoor
open Go.RowKit
set_option linter.unusedVariables false
set_option linter.unusedSimpArgs false
attribute [local irreducible] Ans AnsO AnsG AnsN AnsI

set_option maxRecDepth 4000
/-- a script in plain words -/
structure Scr where
  bits : Int
  c : Rc
  tw : Int
  th : Int
  ord : List Int
  ims : List Im
  ops : List Oq
def Scr.frame (s : Scr) : Int := frameE s.bits s.c s.tw s.th s.ord s.ims.length s.ops.length
def Scr.run (s : Scr) : Int × Int := opsE s.bits s.c s.tw s.th s.ord s.ims.length s.ops
end Go.Proofs.YtcaokljobfkajaaDoor

/-
  The law's sanity check; scripts as one thing.
-/
namespace Go.Proofs.YtcaokljobfkajaaDoor
open Go.RowKit
set_option linter.unusedVariables false
set_option linter.unusedSimpArgs false
attribute [local irreducible] Ans AnsO AnsG AnsN AnsI

set_option maxRecDepth 4000
def scrR (s : Scr) : RV := RV.agg [DV.int .i64 s.bits, DV.int .i64 s.c.a, DV.int .i64 s.c.b, DV.int .i64 s.c.c, DV.int .i64 s.c.d, DV.int .i64 s.tw, DV.int .i64 s.th, DV.sl s.ord.length (is s.ord), DV.sl s.ims.length (ims s.ims), DV.sl s.ops.length (ops s.ops)]
def eR (p : Int × Int) : RV := RV.tup [RV.d (DV.int .i64 p.1), RV.d (DV.int .i64 p.2)]
theorem scr_eta (s : Scr) : (⟨s.bits, ⟨s.c.a, s.c.b, s.c.c, s.c.d⟩, s.tw, s.th, ints (is s.ord), toIms (ims s.ims), toOps (ops s.ops)⟩ : Scr) = s := by
  rw [ints_is, toIms_ims, toOps_ops]
theorem isI_is {n : Nat} {l : List Int} (h : n = l.length) : is l = is (ints (is l)) ∧ n = (is l).length := ⟨by rw [ints_is], by rw [is_length]; exact h⟩
theorem scr_opsE (s : Scr) : opsE s.bits ⟨s.c.a, s.c.b, s.c.c, s.c.d⟩ s.tw s.th (ints (is s.ord)) s.ims.length (toOps (ops s.ops)) = s.run := by
  rw [ints_is, toOps_ops]; rfl

theorem validate_Ops_scr (s : Scr) : Ans Tryd.prog 33 [scrR s] (eR s.run) := by
  have := validate_Ops_ans s.bits s.c.a s.c.b s.c.c s.c.d s.tw s.th s.ord.length (is s.ord) s.ims.length (ims s.ims) s.ops.length (ops s.ops) (isOps_ops rfl) (isI_is rfl)
  rw [scr_opsE] at this
  exact this

end Go.Proofs.YtcaokljobfkajaaDoor

/-
  Frames in plain words: when there is an error.
-/
namespace Go.Proofs.YtcaokljobfkajaaDoor
open Go.RowKit
set_option linter.unusedVariables false
set_option linter.unusedSimpArgs false

end Go.Proofs.YtcaokljobfkajaaDoor

/-
  Made images are valid, in plain words.
-/
namespace Go.Proofs.YtcaokljobfkajaaDoor
open Go.RowKit
set_option linter.unusedVariables false
set_option linter.unusedSimpArgs false

end Go.Proofs.YtcaokljobfkajaaDoor

/-
  What the generator makes is a valid script: in plain words.
-/
namespace Go.Proofs.YtcaokljobfkajaaDoor
open Go.RowKit
set_option linter.unusedVariables false
set_option linter.unusedSimpArgs false

/-! ### lists of operations -/
def okO (bits : Int) (mn : Nat) : List Oq → List Oq → Option (List Oq)
  | [], st => some st
  | o :: r, st => if errO bits mn o st = 0 then okO bits mn r (stepO o st) else none
theorem okO_app {bits : Int} {mn : Nat} : ∀ (l m : List Oq) (st : List Oq), okO bits mn (l ++ m) st = (okO bits mn l st).bind (okO bits mn m)
  | [], m, st => rfl
  | o :: l, m, st => by
    simp only [List.cons_append, okO]
    split
    · exact okO_app l m _
    · rfl
theorem okO_one {bits : Int} {mn : Nat} {o : Oq} {st : List Oq} (h : errO bits mn o st = 0) : okO bits mn [o] st = some (stepO o st) := by
  simp only [okO]; rw [if_pos h]

/-! ### an operation of the generator -/
/-! ### its images -/
end Go.Proofs.YtcaokljobfkajaaDoor

/-
  Operations of a valid script as a forest.
-/
namespace Go.Proofs.YtcaokljobfkajaaDoor
open Go.RowKit
set_option linter.unusedVariables false
set_option linter.unusedSimpArgs false

inductive Fo where
  | nil
  | draw (o : Oq) (r : Fo)
  | grp (o : Oq) (k r : Fo)
def Fo.flat : Fo → List Oq
  | .nil => []
  | .draw o r => o :: r.flat
  | .grp o k r => o :: (k.flat ++ popO :: r.flat)
def Fo.ok : Fo → Prop
  | .nil => True
  | .draw o r => o.kind = 1 ∧ r.ok
  | .grp o k r => o.kind = 2 ∧ k.ok ∧ r.ok
def Fo.size : Fo → Nat
  | .nil => 0
  | .draw _ r => r.size + 1
  | .grp _ k r => k.size + r.size + 2
theorem Fo.flat_len : ∀ f : Fo, f.flat.length = f.size
  | .nil => rfl
  | .draw o r => by simp [Fo.flat, Fo.size, r.flat_len]
  | .grp o k r => by simp [Fo.flat, Fo.size, k.flat_len, r.flat_len]; omega
def unfl : Fo → List Fo → List Oq
  | f, [] => f.flat
  | f, g :: fs => f.flat ++ popO :: unfl g fs
theorem unfl_draw (o : Oq) (f : Fo) (fs : List Fo) : unfl (.draw o f) fs = o :: unfl f fs := by
  cases fs <;> simp [unfl, Fo.flat]
theorem unfl_grp (o : Oq) (f g : Fo) (fs : List Fo) : unfl (.grp o f g) fs = o :: (f.flat ++ popO :: unfl g fs) := by
  cases fs <;> simp [unfl, Fo.flat]
theorem errO_kind {bits : Int} {mn : Nat} {o : Oq} {st : List Oq} (h : errO bits mn o st = 0) : o.kind = 1 ∨ o.kind = 2 ∨ (o = popO ∧ st ≠ []) := by
  unfold errO at h
  split at h
  · cases h
  · rename_i h1
    have h1 := Decidable.not_not.1 h1
    split at h
    · cases h
    · rename_i h2
      split at h
      · rename_i h3
        split at h
        · cases h
        · rename_i h4
          refine .inr (.inr ⟨?_, h4⟩)
          have h2 : o.fields = true := by simpa using h2
          unfold Oq.fields at h2
          rw [if_pos h3] at h2
          simpa using h2
      · rcases h1 with h1 | h1 | h1
        · exact .inl h1
        · exact .inr (.inl h1)
        · exact absurd h1 (by assumption)
theorem fo_of {bits : Int} {mn : Nat} : ∀ (l st : List Oq), okO bits mn l st = some [] → ∃ f fs, fs.length = st.length ∧ l = unfl f fs ∧ f.ok ∧ ∀ g ∈ fs, g.ok
  | [], st, h => by
    simp only [okO, Option.some.injEq] at h
    subst h
    exact ⟨.nil, [], rfl, rfl, trivial, by simp⟩
  | o :: l, st, h => by
    simp only [okO] at h
    split at h
    · rename_i he
      obtain ⟨f, fs, h1, h2, h3, h4⟩ := fo_of l _ h
      rcases errO_kind he with hk | hk | ⟨rfl, hne⟩
      · have e : stepO o st = st := by unfold stepO; rw [if_neg (by omega), if_neg (by omega)]
        rw [e] at h1
        exact ⟨.draw o f, fs, h1, by rw [h2, unfl_draw], ⟨hk, h3⟩, h4⟩
      · have e : stepO o st = st ++ [o] := by unfold stepO; rw [if_pos hk]
        rw [e] at h1
        cases fs with
        | nil => simp at h1
        | cons g fs =>
          refine ⟨.grp o f g, fs, by simpa using h1, by rw [h2, unfl_grp]; rfl, ⟨hk, h3, h4 g List.mem_cons_self⟩, fun q hq => h4 q (List.mem_cons_of_mem _ hq)⟩
      · have e : stepO popO st = st.dropLast := by unfold stepO; rw [if_neg (by decide), if_pos (by decide)]
        rw [e, List.length_dropLast] at h1
        have := List.length_pos_iff.2 hne
        refine ⟨.nil, f :: fs, by simp; omega, by rw [h2]; rfl, trivial, fun q hq => ?_⟩
        rcases List.mem_cons.1 hq with rfl | hq
        · exact h3
        · exact h4 q hq
    · cases h
theorem fo_valid {bits : Int} {mn : Nat} {l : List Oq} (h : okO bits mn l [] = some []) : ∃ f : Fo, f.ok ∧ l = f.flat := by
  obtain ⟨f, fs, h1, h2, h3, h4⟩ := fo_of l [] h
  cases fs with
  | nil => exact ⟨f, h3, h2⟩
  | cons g fs => simp at h1
theorem okO_of_run {bits : Int} {mn : Nat} : ∀ (l : List Oq) (i : Int) (st : List Oq), (runO bits mn l i st).1 = 0 → okO bits mn l st = some []
  | [], i, st, h => by
    simp only [runO] at h
    split at h
    · rename_i e; subst e; rfl
    · cases h
  | o :: l, i, st, h => by
    simp only [runO] at h
    simp only [okO]
    split at h
    · rename_i he
      rw [if_pos he]
      exact okO_of_run l _ _ h
    · rename_i he; exact absurd h he
end Go.Proofs.YtcaokljobfkajaaDoor

/-
  Where operations have an effect, in plain words: rectangles of images and masks, boxes.
-/
namespace Go.Proofs.YtcaokljobfkajaaDoor
open Go.RowKit
set_option linter.unusedVariables false
set_option linter.unusedSimpArgs false

theorem scr_eta2 (s : Scr) : (⟨s.bits, s.c, s.tw, s.th, ints (is s.ord), toIms (ims s.ims), toOps (ops s.ops)⟩ : Scr) = s := scr_eta s
def neutralB (op : Int) : Bool := decide (op = 3 ∨ op = 4 ∨ op = 5 ∨ op = 9 ∨ op = 10 ∨ op = 12)
def farB (v : Int) : Bool := decide (v < -1099511627776 ∨ v > 1099511627776)
def placedS (s : Scr) (i x y : Int) : Rc :=
  if 0 ≤ i then match s.ims[i.toNat]? with
    | some m => if farB x || farB y || farB m.w || farB m.h then Rc.zero else Rc.inter ⟨x, y, x + m.w, y + m.h⟩ s.c
    | none => Rc.zero
  else Rc.zero
def imgR (s : Scr) (o : Oq) : Rc := if o.kind = 1 then placedS s o.image o.x o.y else Rc.zero
def maskR (s : Scr) (o : Oq) : Rc := if o.mask = 0 then s.c.inter s.c else if o.mask < 0 then Rc.zero else placedS s (o.mask - 1) o.mx o.my
def boxF (s : Scr) (o : Oq) (src : Rc) : Rc := if neutralB o.oper = false then s.c else if o.opac = 0 then Rc.zero else src.inter (maskR s o)
theorem placedS_out {s : Scr} {i : Int} (x y : Int) (h : i < 0 ∨ (s.ims.length : Int) ≤ i) : placedS s i x y = Rc.zero := by
  unfold placedS
  split
  · rw [List.getElem?_eq_none (by omega)]
  · rfl
theorem placedS_in {s : Scr} {i : Int} (x y : Int) (h : 0 ≤ i) (h2 : i.toNat < s.ims.length) : placedS s i x y = if farB x || farB y || farB s.ims[i.toNat].w || farB s.ims[i.toNat].h then Rc.zero else Rc.inter ⟨x, y, x + s.ims[i.toNat].w, y + s.ims[i.toNat].h⟩ s.c := by
  unfold placedS
  rw [if_pos h, List.getElem?_eq_getElem h2]

/-! ### boxes, as the program finds them -/
abbrev Bst := List Rc × List Int × List Rc
def topB (hs : List Rc) (b : Rc) : List Rc := hs.set (hs.length - 1) (hullL [(hs[hs.length - 1]?).getD Rc.zero, b])
def stepA (s : Scr) (i : Nat) (o : Oq) (z : Bst) : Bst :=
  if o.kind = 1 then (z.1.set i (boxF s o (imgR s o)), z.2.1, z.2.2)
  else
    let p := (z.2.1[z.2.1.length - 1]?).getD 0
    let b := boxF s ((s.ops[p.toNat]?).getD popO) ((z.2.2[z.2.2.length - 1]?).getD Rc.zero)
    ((z.1.set i b).set p.toNat b, z.2.1.dropLast, z.2.2.dropLast)
def stepB (s : Scr) (i : Nat) (o : Oq) (z : Bst) : Bst :=
  if o.kind = 2 then (z.1, z.2.1 ++ [(i : Int)], z.2.2 ++ [Rc.zero])
  else
    let y := stepA s i o z
    (y.1, y.2.1, topB y.2.2 ((y.1[i]?).getD Rc.zero))
def runB (s : Scr) : Nat → Bst
  | 0 => (List.replicate s.ops.length Rc.zero, [], [Rc.zero])
  | k + 1 => stepB s k ((s.ops[k]?).getD popO) (runB s k)
def boxesS (s : Scr) : List Rc × Int := if s.run.1 = 0 then ((runB s s.ops.length).1, 0) else ([], s.run.1)
theorem run_frame {s : Scr} (h : s.run.1 = 0) : s.frame = 0 ∧ okO s.bits s.ims.length s.ops [] = some [] := by
  unfold Scr.run opsE at h
  split at h
  · rename_i h1; exact ⟨h1, okO_of_run _ _ _ h⟩
  · rename_i h1; exact absurd h h1
theorem frame_len {s : Scr} (h : s.frame = 0) : s.ims.length ≤ 64 ∧ s.ops.length ≤ 4096 := by
  unfold Scr.frame frameE at h
  split at h
  · cases h
  · split at h
    · cases h
    · split at h
      · cases h
      · split at h
        · cases h
        · split at h
          · cases h
          · omega
theorem okO_take {bits : Int} {mn : Nat} {l : List Oq} (h : okO bits mn l [] = some []) (k : Nat) : ∃ st, okO bits mn (l.take k) [] = some st ∧ okO bits mn (l.drop k) st = some [] := by
  have e := List.take_append_drop k l
  rw [← e, okO_app] at h
  cases hk : okO bits mn (l.take k) [] with
  | none => rw [hk] at h; cases h
  | some st => rw [hk] at h; exact ⟨st, rfl, h⟩
theorem okO_next {bits : Int} {mn : Nat} {l st : List Oq} {k : Nat} (h1 : okO bits mn (l.take k) [] = some st) (h2 : okO bits mn (l.drop k) st = some []) (hk : k < l.length) : errO bits mn l[k] st = 0 ∧ okO bits mn (l.take (k + 1)) [] = some (stepO l[k] st) := by
  rw [List.drop_eq_getElem_cons hk, okO] at h2
  split at h2
  · rename_i he
    refine ⟨he, ?_⟩
    rw [List.take_add_one, List.getElem?_eq_getElem hk, okO_app, h1]
    show okO _ _ [l[k]] st = _
    rw [okO_one he]
  · cases h2
/-- what is known ahead of operation k -/
theorem runB_facts {s : Scr} (h : s.run.1 = 0) : ∀ k, k ≤ s.ops.length → ∃ st : List Oq, okO s.bits s.ims.length (s.ops.take k) [] = some st ∧ okO s.bits s.ims.length (s.ops.drop k) st = some [] ∧
    (runB s k).1.length = s.ops.length ∧ (runB s k).2.1.length = st.length ∧ (runB s k).2.2.length = st.length + 1 ∧ st.length ≤ k ∧ ∀ p ∈ (runB s k).2.1, 0 ≤ p ∧ p < k
  | 0, _ => ⟨[], rfl, by simpa using (run_frame h).2, by simp [runB], rfl, rfl, Nat.le_refl _, by simp [runB]⟩
  | k + 1, hk => by
    obtain ⟨st, h1, h2, h3, h4, h5, h6, h7⟩ := runB_facts h k (by omega)
    have hlt : k < s.ops.length := by omega
    obtain ⟨he, h8⟩ := okO_next h1 h2 hlt
    obtain ⟨st', h1', h2'⟩ := okO_take (run_frame h).2 (k + 1)
    rw [h8] at h1'
    injection h1' with h1'
    subst h1'
    have hr : runB s (k + 1) = stepB s k s.ops[k] (runB s k) := by
      rw [runB, List.getElem?_eq_getElem hlt]; rfl
    rw [hr]
    refine ⟨_, h8, h2', ?_⟩
    rcases errO_kind he with hk1 | hk1 | ⟨hk1, hne⟩
    · have e : stepO s.ops[k] st = st := by unfold stepO; rw [if_neg (by omega), if_neg (by omega)]
      rw [e]
      unfold stepB stepA
      rw [if_neg (by omega), if_pos hk1]
      refine ⟨by simp [h3], h4, by simp [topB, h5], by omega, fun p hp => ?_⟩
      have := h7 p hp
      omega
    · have e : stepO s.ops[k] st = st ++ [s.ops[k]] := by unfold stepO; rw [if_pos hk1]
      rw [e]
      unfold stepB
      rw [if_pos hk1]
      refine ⟨h3, by simp [h4], by simp [h5], by simp; omega, fun p hp => ?_⟩
      rcases List.mem_append.1 hp with hp | hp
      · have := h7 p hp; omega
      · rw [List.mem_singleton] at hp; omega
    · have hk2 : s.ops[k].kind = 3 := by rw [hk1]; rfl
      have e : stepO s.ops[k] st = st.dropLast := by unfold stepO; rw [if_neg (by omega), if_pos hk2]
      have := List.length_pos_iff.2 hne
      rw [e]
      unfold stepB stepA
      rw [if_neg (by omega), if_neg (by omega)]
      refine ⟨by simp [h3], by simp [h4], by simp [topB, h5]; omega, by simp; omega, fun p hp => ?_⟩
      have := h7 p (List.dropLast_subset _ hp)
      omega
end Go.Proofs.YtcaokljobfkajaaDoor

/-
  The ends of operations, in plain words; and where they are in a forest.
-/
namespace Go.Proofs.YtcaokljobfkajaaDoor
open Go.RowKit
set_option linter.unusedVariables false
set_option linter.unusedSimpArgs false

/-! ### the ends, as both programs find them: ahead of operation i, with what was written and the open groups -/
def runE : List Oq → Nat → List Int → List Int → List Int × Int
  | [], _, out, op => if op = [] then (out, 0) else ([], 18)
  | o :: l, i, out, op =>
    if o.kind = 1 then runE l (i + 1) (out.set i i) op
    else if o.kind = 2 then runE l (i + 1) (out.set i i) (op ++ [(i : Int)])
    else if o.kind = 3 then (if op = [] then ([], 18) else runE l (i + 1) ((out.set i i).set ((op[op.length - 1]?).getD 0).toNat i) op.dropLast)
    else ([], 9)
def endsS (l : List Oq) : List Int × Int := runE l 0 (List.replicate l.length 0) []

/-! ### in a forest -/
def endN : Nat → Fo → Nat → Nat
  | _, .nil, p => p
  | n, .draw _ r, p => if p = n then n else endN (n + 1) r p
  | n, .grp _ k r, p => if p = n ∨ p = n + k.size + 1 then n + k.size + 1 else if p ≤ n + k.size then endN (n + 1) k p else endN (n + k.size + 2) r p
def endF (n : Nat) (f : Fo) : List Int := (List.range f.size).map fun j => ((endN n f (n + j) : Nat) : Int)
theorem endF_len (n : Nat) (f : Fo) : (endF n f).length = f.size := by simp [endF]
theorem endF_draw (n : Nat) (o : Oq) (r : Fo) : endF n (.draw o r) = (n : Int) :: endF (n + 1) r := by
  unfold endF
  rw [Fo.size, List.range_succ_eq_map, List.map_cons, List.map_map]
  refine congr (congrArg List.cons (by simp [endN])) (List.map_congr_left fun j _ => ?_)
  show ((endN n (.draw o r) (n + (j + 1)) : Nat) : Int) = _
  rw [endN, if_neg (by omega), show n + (j + 1) = n + 1 + j by omega]
theorem endF_grp (n : Nat) (o : Oq) (k r : Fo) : endF n (.grp o k r) = ((n + k.size + 1 : Nat) : Int) :: (endF (n + 1) k ++ ((n + k.size + 1 : Nat) : Int) :: endF (n + k.size + 2) r) := by
  refine List.ext_getElem (by simp [endF_len, Fo.size]; omega) fun j h1 h2 => ?_
  have hj : j < k.size + r.size + 2 := by simpa [endF, Fo.size] using h1
  have e : (endF n (.grp o k r))[j] = ((endN n (.grp o k r) (n + j) : Nat) : Int) := by simp [endF]
  rw [e, endN]
  cases j with
  | zero => simp
  | succ j =>
    rw [List.getElem_cons_succ]
    by_cases c1 : j < k.size
    · rw [List.getElem_append_left (by rw [endF_len]; exact c1), if_neg (by omega), if_pos (by omega)]
      simp only [endF, List.getElem_map, List.getElem_range]
      rw [show n + (j + 1) = n + 1 + j by omega]
    · rw [List.getElem_append_right (by rw [endF_len]; omega)]
      by_cases c2 : j = k.size
      · subst c2
        rw [if_pos (by omega)]
        simp [endF_len]
      · rw [if_neg (by omega), if_neg (by omega)]
        obtain ⟨m, rfl⟩ : ∃ m, j = k.size + 1 + m := ⟨j - k.size - 1, by omega⟩
        simp only [endF_len, show k.size + 1 + m - k.size = m + 1 by omega, List.getElem_cons_succ]
        simp only [endF, List.getElem_map, List.getElem_range]
        rw [show n + (k.size + 1 + m + 1) = n + k.size + 2 + m by omega]
theorem set_mid {α : Type} (A : List α) (x : α) (B : List α) (v : α) : (A ++ x :: B).set A.length v = A ++ v :: B := by
  rw [List.set_append_right _ _ (Nat.le_refl _), Nat.sub_self]; rfl
theorem set_mid' {α : Type} {A : List α} {x : α} {B : List α} (v : α) {n : Nat} (h : n = A.length) : (A ++ x :: B).set n v = A ++ v :: B := by
  subst h; exact set_mid A x B v
theorem len_split {α : Type} {X : List α} {n : Nat} (h : X.length = n + 1) : ∃ x Y, X = x :: Y ∧ Y.length = n := by
  cases X with
  | nil => simp at h
  | cons x Y => exact ⟨x, Y, rfl, by simpa using h⟩
theorem len_cut {α : Type} {X : List α} {a b : Nat} (h : X.length = a + b) : ∃ U V, X = U ++ V ∧ U.length = a ∧ V.length = b :=
  ⟨X.take a, X.drop a, (List.take_append_drop a X).symm, by rw [List.length_take]; omega, by rw [List.length_drop]; omega⟩
theorem popO_kind : popO.kind = 3 := rfl
theorem runE_fo : ∀ (f : Fo) (A X B op : List Int) (tail : List Oq) (n : Nat), f.ok → n = A.length → X.length = f.size →
    runE (f.flat ++ tail) n (A ++ (X ++ B)) op = runE tail (n + f.size) (A ++ (endF n f ++ B)) op
  | .nil, A, X, B, op, tail, n, _, _, hX => by
    have : X = [] := List.length_eq_zero_iff.1 hX
    subst this
    rfl
  | .draw o r, A, X, B, op, tail, n, ho, hn, hX => by
    obtain ⟨x, X, rfl, hX1⟩ := len_split (n := r.size) hX
    rw [endF_draw, Fo.flat, List.cons_append, runE, if_pos ho.1, List.cons_append, set_mid' _ hn]
    have ih := runE_fo r (A ++ [(n : Int)]) X B op tail (n + 1) ho.2 (by simp [hn]) hX1
    simp only [List.append_assoc, List.cons_append, List.nil_append] at ih
    rw [ih, Fo.size, List.cons_append]
    congr 1; omega
  | .grp o k r, A, X, B, op, tail, n, ho, hn, hX => by
    obtain ⟨x, X, rfl, hX1⟩ := len_split (n := k.size + r.size + 1) hX
    obtain ⟨U, V, rfl, hU, hV⟩ := len_cut (a := k.size) (b := r.size + 1) (by omega : X.length = _)
    obtain ⟨y, V, rfl, hV1⟩ := len_split (n := r.size) hV
    rw [endF_grp, Fo.flat, List.cons_append, runE, if_neg (by rw [ho.1]; decide), if_pos ho.1, List.cons_append, set_mid' _ hn]
    have ik := runE_fo k (A ++ [(n : Int)]) U (y :: V ++ B) (op ++ [(n : Int)]) (popO :: (r.flat ++ tail)) (n + 1) ho.2.1 (by simp [hn]) hU
    simp only [List.append_assoc, List.cons_append, List.nil_append] at ik ⊢
    rw [ik, runE, if_neg (by decide), if_neg (by decide), if_pos popO_kind, if_neg (by simp)]
    have e1 : (A ++ (n : Int) :: (endF (n + 1) k ++ y :: (V ++ B))).set (n + 1 + k.size) ((n + 1 + k.size : Nat) : Int) = A ++ (n : Int) :: (endF (n + 1) k ++ ((n + 1 + k.size : Nat) : Int) :: (V ++ B)) := by
      have := set_mid' (A := A ++ (n : Int) :: endF (n + 1) k) (x := y) (B := V ++ B) ((n + 1 + k.size : Nat) : Int) (n := n + 1 + k.size) (by simp [endF_len]; omega)
      simpa only [List.append_assoc, List.cons_append] using this
    rw [e1]
    have e2 : (((op ++ [(n : Int)])[(op ++ [(n : Int)]).length - 1]?).getD 0).toNat = n := by simp
    rw [e2, set_mid' _ hn, List.dropLast_concat]
    have ir := runE_fo r (A ++ ((n + 1 + k.size : Nat) : Int) :: (endF (n + 1) k ++ [((n + 1 + k.size : Nat) : Int)])) V B op tail (n + 1 + k.size + 1) ho.2.2 (by simp [endF_len]; omega) hV1
    simp only [List.append_assoc, List.cons_append, List.nil_append] at ir
    rw [ir, Fo.size]
    have a1 : n + 1 + k.size + 1 + r.size = n + (k.size + r.size + 2) := by omega
    have a2 : n + 1 + k.size + 1 = n + k.size + 2 := by omega
    have a3 : n + 1 + k.size = n + k.size + 1 := by omega
    rw [a1, a2, a3]
theorem endsS_fo {f : Fo} (h : f.ok) : endsS f.flat = (endF 0 f, 0) := by
  have := runE_fo f [] (List.replicate f.size 0) [] [] [] 0 h rfl (by simp)
  simp only [List.append_nil, List.nil_append] at this
  unfold endsS
  rw [Fo.flat_len, this, runE, if_pos rfl]
end Go.Proofs.YtcaokljobfkajaaDoor

/-
  The boxes of a forest, and what is active: in plain words.
-/
namespace Go.Proofs.YtcaokljobfkajaaDoor
open Go.RowKit
set_option linter.unusedVariables false
set_option linter.unusedSimpArgs false

/-! ### hulls, one after the other -/
theorem hull_zero_left {a : Rc} (h : a = Rc.zero ∨ a.empty = false) : Rc.hull Rc.zero a = a := by
  unfold Rc.hull
  rcases h with rfl | h
  · rw [if_pos (by decide)]
  · rw [h, if_neg (by decide), if_pos (by decide)]
theorem hull_fine {a b : Rc} (h : a = Rc.zero ∨ a.empty = false) : Rc.hull a b = Rc.zero ∨ (Rc.hull a b).empty = false := by
  unfold Rc.hull
  split
  · exact h
  · rename_i hb
    have hb : b.empty = false := by simpa using hb
    split
    · exact .inr hb
    · rename_i ha
      have ha : a.empty = false := by simpa using ha
      refine .inr ?_
      rw [Rc.empty_iff] at *
      simp only
      omega
theorem hullL_two {a b : Rc} (h : a = Rc.zero ∨ a.empty = false) : hullL [a, b] = Rc.hull a b := by
  show Rc.hull (Rc.hull Rc.zero a) b = _
  rw [hull_zero_left h]

/-! ### boxes -/
def boxAll (s : Scr) : Fo → List Rc
  | .nil => []
  | .draw o r => boxF s o (imgR s o) :: boxAll s r
  | .grp o k r => boxF s o (hullL (boxAll s k)) :: boxAll s r
/-- the box of the operation at a place -/
def boxN (s : Scr) : Nat → Fo → Nat → Rc
  | _, .nil, _ => Rc.zero
  | n, .draw o r, p => if p = n then boxF s o (imgR s o) else boxN s (n + 1) r p
  | n, .grp o k r, p => if p = n ∨ p = n + k.size + 1 then boxF s o (hullL (boxAll s k)) else if p ≤ n + k.size then boxN s (n + 1) k p else boxN s (n + k.size + 2) r p
def boxL (s : Scr) (n : Nat) (f : Fo) : List Rc := (List.range f.size).map fun j => boxN s n f (n + j)
theorem boxL_len (s : Scr) (n : Nat) (f : Fo) : (boxL s n f).length = f.size := by simp [boxL]
theorem boxL_draw (s : Scr) (n : Nat) (o : Oq) (r : Fo) : boxL s n (.draw o r) = boxF s o (imgR s o) :: boxL s (n + 1) r := by
  unfold boxL
  rw [Fo.size, List.range_succ_eq_map, List.map_cons, List.map_map]
  refine congr (congrArg List.cons (by simp [boxN])) (List.map_congr_left fun j _ => ?_)
  show boxN s n (.draw o r) (n + (j + 1)) = _
  rw [boxN, if_neg (by omega), show n + (j + 1) = n + 1 + j by omega]
theorem boxL_grp (s : Scr) (n : Nat) (o : Oq) (k r : Fo) : boxL s n (.grp o k r) = boxF s o (hullL (boxAll s k)) :: (boxL s (n + 1) k ++ boxF s o (hullL (boxAll s k)) :: boxL s (n + k.size + 2) r) := by
  refine List.ext_getElem (by simp [boxL_len, Fo.size]; omega) fun j h1 h2 => ?_
  have hj : j < k.size + r.size + 2 := by simpa [boxL, Fo.size] using h1
  have e : (boxL s n (.grp o k r))[j] = boxN s n (.grp o k r) (n + j) := by simp [boxL]
  rw [e, boxN]
  cases j with
  | zero => simp
  | succ j =>
    rw [List.getElem_cons_succ]
    by_cases c1 : j < k.size
    · rw [List.getElem_append_left (by rw [boxL_len]; exact c1), if_neg (by omega), if_pos (by omega)]
      simp only [boxL, List.getElem_map, List.getElem_range]
      rw [show n + (j + 1) = n + 1 + j by omega]
    · rw [List.getElem_append_right (by rw [boxL_len]; omega)]
      by_cases c2 : j = k.size
      · subst c2
        rw [if_pos (by omega)]
        simp [boxL_len]
      · rw [if_neg (by omega), if_neg (by omega)]
        obtain ⟨m, rfl⟩ : ∃ m, j = k.size + 1 + m := ⟨j - k.size - 1, by omega⟩
        simp only [boxL_len, show k.size + 1 + m - k.size = m + 1 by omega, List.getElem_cons_succ]
        simp only [boxL, List.getElem_map, List.getElem_range]
        rw [show n + (k.size + 1 + m + 1) = n + k.size + 2 + m by omega]

/-! ### an operation's place in a forest -/
/-- at place n of the operations l stands the forest f, whose ends and boxes are those of the whole forest w -/
structure Occ (s : Scr) (w : Fo) (n : Nat) (f : Fo) : Prop where
  ok : f.ok
  fits : n + f.size ≤ w.size
  op : ∀ j, j < f.size → w.flat[n + j]? = f.flat[j]?
  en : ∀ p, n ≤ p → p < n + f.size → endN 0 w p = endN n f p
  bx : ∀ p, n ≤ p → p < n + f.size → boxN s 0 w p = boxN s n f p
theorem Occ.whole (s : Scr) {w : Fo} (h : w.ok) : Occ s w 0 w := ⟨h, by omega, fun j _ => by rw [Nat.zero_add], fun _ _ _ => rfl, fun _ _ _ => rfl⟩
theorem Occ.draw {s : Scr} {w : Fo} {n : Nat} {o : Oq} {r : Fo} (h : Occ s w n (.draw o r)) : o.kind = 1 ∧ n < w.size ∧ w.flat[n]? = some o ∧ endN 0 w n = n ∧ boxN s 0 w n = boxF s o (imgR s o) ∧ Occ s w (n + 1) r := by
  obtain ⟨h1, h2, h3, h4, h5⟩ := h
  simp only [Fo.size] at *
  refine ⟨h1.1, by omega, by simpa [Fo.flat] using h3 0 (by omega), by rw [h4 n (Nat.le_refl _) (by omega), endN, if_pos rfl], by rw [h5 n (Nat.le_refl _) (by omega), boxN, if_pos rfl], h1.2, by omega, fun j hj => ?_, fun p p1 p2 => ?_, fun p p1 p2 => ?_⟩
  · have := h3 (j + 1) (by omega)
    rw [show n + 1 + j = n + (j + 1) by omega, this]
    simp [Fo.flat]
  · rw [h4 p (by omega) (by omega), endN, if_neg (by omega)]
  · rw [h5 p (by omega) (by omega), boxN, if_neg (by omega)]
theorem Occ.grp {s : Scr} {w : Fo} {n : Nat} {o : Oq} {k r : Fo} (h : Occ s w n (.grp o k r)) : o.kind = 2 ∧ n + k.size + 1 < w.size ∧ w.flat[n]? = some o ∧ w.flat[n + k.size + 1]? = some popO ∧ endN 0 w n = n + k.size + 1 ∧ endN 0 w (n + k.size + 1) = n + k.size + 1 ∧
    boxN s 0 w n = boxF s o (hullL (boxAll s k)) ∧ boxN s 0 w (n + k.size + 1) = boxF s o (hullL (boxAll s k)) ∧ Occ s w (n + 1) k ∧ Occ s w (n + k.size + 2) r := by
  obtain ⟨h1, h2, h3, h4, h5⟩ := h
  simp only [Fo.size] at *
  refine ⟨h1.1, by omega, by simpa [Fo.flat] using h3 0 (by omega), ?_, by rw [h4 n (Nat.le_refl _) (by omega), endN, if_pos (.inl rfl)], by rw [h4 _ (by omega) (by omega), endN, if_pos (.inr rfl)], by rw [h5 n (Nat.le_refl _) (by omega), boxN, if_pos (.inl rfl)], by rw [h5 _ (by omega) (by omega), boxN, if_pos (.inr rfl)],
    ⟨h1.2.1, by omega, fun j hj => ?_, fun p p1 p2 => ?_, fun p p1 p2 => ?_⟩, ⟨h1.2.2, by omega, fun j hj => ?_, fun p p1 p2 => ?_, fun p p1 p2 => ?_⟩⟩
  · have := h3 (k.size + 1) (by omega)
    rw [← Nat.add_assoc] at this
    rw [this, Fo.flat, List.getElem?_cons_succ, List.getElem?_append_right (by rw [k.flat_len]; omega), k.flat_len]
    simp
  · have := h3 (j + 1) (by omega)
    rw [show n + 1 + j = n + (j + 1) by omega, this, Fo.flat, List.getElem?_cons_succ, List.getElem?_append_left (by rw [k.flat_len]; omega)]
  · rw [h4 p (by omega) (by omega), endN, if_neg (by omega), if_pos (by omega)]
  · rw [h5 p (by omega) (by omega), boxN, if_neg (by omega), if_pos (by omega)]
  · have := h3 (k.size + 2 + j) (by omega)
    rw [show n + k.size + 2 + j = n + (k.size + 2 + j) by omega, this, Fo.flat, show k.size + 2 + j = (k.size + (j + 1)) + 1 by omega, List.getElem?_cons_succ, List.getElem?_append_right (by rw [k.flat_len]; omega), k.flat_len, show k.size + (j + 1) - k.size = j + 1 by omega, List.getElem?_cons_succ]
  · rw [h4 p (by omega) (by omega), endN, if_neg (by omega), if_neg (by omega)]
  · rw [h5 p (by omega) (by omega), boxN, if_neg (by omega), if_neg (by omega)]
/-- every place has its forest -/
theorem Occ.find {s : Scr} {w : Fo} : ∀ (f : Fo) (n : Nat), Occ s w n f → ∀ p, n ≤ p → p < n + f.size →
    (∃ o r, Occ s w p (.draw o r)) ∨ (∃ o k r, Occ s w p (.grp o k r)) ∨ (∃ q o k r, Occ s w q (.grp o k r) ∧ p = q + k.size + 1)
  | .nil, n, h, p, h1, h2 => by simp [Fo.size] at h2; omega
  | .draw o r, n, h, p, h1, h2 => by
    simp only [Fo.size] at h2
    by_cases e : p = n
    · subst e; exact .inl ⟨o, r, h⟩
    · exact Occ.find r (n + 1) h.draw.2.2.2.2.2 p (by omega) (by omega)
  | .grp o k r, n, h, p, h1, h2 => by
    simp only [Fo.size] at h2
    obtain ⟨_, _, _, _, _, _, _, _, hk, hr⟩ := h.grp
    by_cases e : p = n
    · subst e; exact .inr (.inl ⟨o, k, r, h⟩)
    · by_cases e2 : p ≤ n + k.size
      · exact Occ.find k (n + 1) hk p (by omega) (by omega)
      · by_cases e3 : p = n + k.size + 1
        · exact .inr (.inr ⟨n, o, k, r, h, e3⟩)
        · exact Occ.find r (n + k.size + 2) hr p (by omega) (by omega)
theorem Occ.at {s : Scr} {w : Fo} (hw : w.ok) {p : Nat} (h : p < w.size) :
    (∃ o r, Occ s w p (.draw o r)) ∨ (∃ o k r, Occ s w p (.grp o k r)) ∨ (∃ q o k r, Occ s w q (.grp o k r) ∧ p = q + k.size + 1) :=
  Occ.find w 0 (Occ.whole s hw) p (by omega) (by omega)

/-! ### the program's boxes are those of the forest -/
theorem getD_op {l : List Oq} {n : Nat} {o : Oq} (h : l[n]? = some o) : (l[n]?).getD popO = o := by rw [h]; rfl
theorem runB_succ (s : Scr) (n : Nat) : runB s (n + 1) = stepB s n ((s.ops[n]?).getD popO) (runB s n) := rfl
theorem runB_fo {s : Scr} {w : Fo} (hs : s.ops = w.flat) : ∀ (f : Fo) (n : Nat), Occ s w n f → ∀ (A X B : List Rc) (op : List Int) (hs : List Rc) (h : Rc), n = A.length → X.length = f.size → (h = Rc.zero ∨ h.empty = false) →
    runB s n = (A ++ (X ++ B), op, hs ++ [h]) → runB s (n + f.size) = (A ++ (boxL s n f ++ B), op, hs ++ [(boxAll s f).foldl Rc.hull h])
  | .nil, n, ho, A, X, B, op, hs, h, hn, hX, hh, hr => by
    have : X = [] := List.length_eq_zero_iff.1 hX
    subst this
    exact hr
  | .draw o r, n, ho, A, X, B, op, hs', h, hn, hX, hh, hr => by
    obtain ⟨x, X, rfl, hX1⟩ := len_split (n := r.size) hX
    obtain ⟨k1, _, k2, k3, k4, k5⟩ := ho.draw
    have e1 : runB s (n + 1) = ((A ++ [boxF s o (imgR s o)]) ++ (X ++ B), op, hs' ++ [Rc.hull h (boxF s o (imgR s o))]) := by
      rw [runB_succ, hr, hs, getD_op k2]
      unfold stepB stepA
      rw [if_neg (by rw [k1]; decide), if_pos k1]
      simp only [List.cons_append, List.append_assoc, List.nil_append]
      rw [set_mid' _ hn]
      have g : (A ++ boxF s o (imgR s o) :: (X ++ B))[n]? = some (boxF s o (imgR s o)) := by subst hn; simp
      rw [g]
      simp only [Option.getD_some, topB, List.length_append, List.length_cons, List.length_nil, Nat.add_sub_cancel]
      rw [List.getElem?_append_right (Nat.le_refl _), Nat.sub_self, List.getElem?_cons_zero, Option.getD_some, hullL_two hh, set_mid' (A := hs') _ (by simp)]
    have ih := runB_fo hs r (n + 1) k5 _ X B op hs' _ (by simp [hn]) hX1 (hull_fine hh) e1
    rw [boxL_draw, Fo.size, show n + (r.size + 1) = n + 1 + r.size by omega, ih]
    simp [boxAll]
  | .grp o k r, n, ho, A, X, B, op, hs', h, hn, hX, hh, hr => by
    obtain ⟨x, X, rfl, hX1⟩ := len_split (n := k.size + r.size + 1) hX
    obtain ⟨U, V, rfl, hU, hV⟩ := len_cut (a := k.size) (b := r.size + 1) (by omega : X.length = _)
    obtain ⟨y, V, rfl, hV1⟩ := len_split (n := r.size) hV
    obtain ⟨k1, _, k2, k3, k4, k5, k6, k7, k8, k9⟩ := ho.grp
    have e1 : runB s (n + 1) = ((A ++ [x]) ++ (U ++ (y :: (V ++ B))), op ++ [(n : Int)], (hs' ++ [h]) ++ [Rc.zero]) := by
      rw [runB_succ, hr, hs, getD_op k2]
      unfold stepB
      rw [if_pos k1]
      simp
    have ik := runB_fo hs k (n + 1) k8 _ U _ _ _ _ (by simp [hn]) hU (.inl rfl) e1
    have e2 : runB s (n + 1 + k.size + 1) = ((A ++ boxF s o (hullL (boxAll s k)) :: (boxL s (n + 1) k ++ [boxF s o (hullL (boxAll s k))])) ++ (V ++ B), op, hs' ++ [Rc.hull h (boxF s o (hullL (boxAll s k)))]) := by
      rw [runB_succ, ik, hs, show n + 1 + k.size = n + k.size + 1 by omega, getD_op k3]
      have ep : (((op ++ [(n : Int)])[(op ++ [(n : Int)]).length - 1]?).getD 0).toNat = n := by simp
      have eh : (((hs' ++ [h] ++ [(boxAll s k).foldl Rc.hull Rc.zero])[(hs' ++ [h] ++ [(boxAll s k).foldl Rc.hull Rc.zero]).length - 1]?).getD Rc.zero) = hullL (boxAll s k) := by
        simp only [List.length_append, List.length_cons, List.length_nil, Nat.add_sub_cancel]
        rw [List.getElem?_append_right (by simp)]
        simp [hullL]
      unfold stepB stepA
      rw [if_neg (by rw [popO_kind]; decide), if_neg (by rw [popO_kind]; decide)]
      simp only [ep, eh, hs, getD_op k2, List.dropLast_concat]
      have s1 : (A ++ [x] ++ (boxL s (n + 1) k ++ y :: (V ++ B))).set (n + k.size + 1) (boxF s o (hullL (boxAll s k))) = A ++ x :: (boxL s (n + 1) k ++ boxF s o (hullL (boxAll s k)) :: (V ++ B)) := by
        have := set_mid' (A := A ++ [x] ++ boxL s (n + 1) k) (x := y) (B := V ++ B) (boxF s o (hullL (boxAll s k))) (n := n + k.size + 1) (by simp [boxL_len]; omega)
        simpa only [List.append_assoc, List.cons_append, List.nil_append] using this
      rw [s1, set_mid' _ hn]
      have g : (A ++ boxF s o (hullL (boxAll s k)) :: (boxL s (n + 1) k ++ boxF s o (hullL (boxAll s k)) :: (V ++ B)))[n + k.size + 1]? = some (boxF s o (hullL (boxAll s k))) := by
        have : (A ++ boxF s o (hullL (boxAll s k)) :: boxL s (n + 1) k ++ boxF s o (hullL (boxAll s k)) :: (V ++ B))[n + k.size + 1]? = some (boxF s o (hullL (boxAll s k))) := by
          rw [List.getElem?_append_right (by simp [boxL_len]; omega)]
          have : n + k.size + 1 - (A ++ boxF s o (hullL (boxAll s k)) :: boxL s (n + 1) k).length = 0 := by simp [boxL_len]; omega
          rw [this]; rfl
        simpa only [List.append_assoc, List.cons_append] using this
      rw [g]
      simp only [Option.getD_some, topB, List.length_append, List.length_cons, List.length_nil, Nat.add_sub_cancel]
      rw [List.getElem?_append_right (Nat.le_refl _), Nat.sub_self, List.getElem?_cons_zero, Option.getD_some, hullL_two hh, set_mid' (A := hs') _ (by simp)]
      simp
    have ir := runB_fo hs r (n + k.size + 2) k9 (A ++ boxF s o (hullL (boxAll s k)) :: (boxL s (n + 1) k ++ [boxF s o (hullL (boxAll s k))])) V B op hs' _ (by simp [boxL_len]; omega) hV1 (hull_fine hh) (by rw [show n + k.size + 2 = n + 1 + k.size + 1 by omega]; exact e2)
    rw [boxL_grp, Fo.size, show n + (k.size + r.size + 2) = n + k.size + 2 + r.size by omega, ir]
    simp [boxAll]
theorem boxes_fo {s : Scr} {w : Fo} (hw : w.ok) (hs : s.ops = w.flat) : (runB s s.ops.length).1 = boxL s 0 w := by
  have h := runB_fo hs w 0 (Occ.whole s hw) [] (List.replicate s.ops.length Rc.zero) [] [] [] Rc.zero rfl (by rw [List.length_replicate, hs, w.flat_len]) (.inl rfl) (by simp [runB])
  rw [hs, w.flat_len]
  rw [Nat.zero_add] at h
  rw [h]
  simp
theorem run_fo {s : Scr} (h : s.run.1 = 0) : ∃ w : Fo, w.ok ∧ s.ops = w.flat := fo_valid (run_frame h).2
end Go.Proofs.YtcaokljobfkajaaDoor

/-
  The boxes and the active operations as the reference finds them, in plain words.
-/
namespace Go.Proofs.YtcaokljobfkajaaDoor
open Go.RowKit
set_option linter.unusedVariables false
set_option linter.unusedSimpArgs false

open Classical in
/-- the forest of a script whose operations are in order -/
noncomputable def foOf (s : Scr) : Fo := if h : ∃ w : Fo, w.ok ∧ s.ops = w.flat then Classical.choose h else .nil
theorem foOf_spec {s : Scr} (h : s.run.1 = 0) : (foOf s).ok ∧ s.ops = (foOf s).flat := by
  have h := run_fo h
  unfold foOf
  rw [dif_pos h]
  exact Classical.choose_spec h
theorem foOf_size {s : Scr} (h : s.run.1 = 0) : s.ops.length = (foOf s).size := by
  have e := congrArg List.length (foOf_spec h).2
  rw [Fo.flat_len] at e
  exact e
theorem ends_fo {s : Scr} (h : s.run.1 = 0) : endsS s.ops = (endF 0 (foOf s), 0) := by
  rw [(foOf_spec h).2]
  have := endsS_fo (foOf_spec h).1
  generalize foOf s = w at *
  exact this
def enAt (s : Scr) (p : Nat) : Nat := (((endsS s.ops).1[p]?).getD 0).toNat
def bxAt (s : Scr) (p : Nat) : Rc := ((boxesS s).1[p]?).getD Rc.zero
def opAt (s : Scr) (p : Nat) : Oq := (s.ops[p]?).getD popO
theorem enAt_fo {s : Scr} (h : s.run.1 = 0) {p : Nat} (hp : p < s.ops.length) : (endsS s.ops).1[p]? = some ((endN 0 (foOf s) p : Nat) : Int) ∧ enAt s p = endN 0 (foOf s) p := by
  have e : (endsS s.ops).1[p]? = some ((endN 0 (foOf s) p : Nat) : Int) := by
    rw [ends_fo h]
    simp only [endF, Nat.zero_add]
    rw [List.getElem?_map, List.getElem?_range (by rw [← foOf_size h]; exact hp)]
    rfl
  exact ⟨e, by unfold enAt; rw [e]; simp⟩
theorem boxes_in {s : Scr} (h : s.run.1 = 0) : (boxesS s).1 = boxL s 0 (foOf s) ∧ (boxesS s).2 = 0 ∧ (boxesS s).1.length = s.ops.length := by
  have e := boxes_fo (foOf_spec h).1 (foOf_spec h).2
  unfold boxesS
  rw [if_pos h, e]
  exact ⟨rfl, rfl, by rw [boxL_len, ← foOf_size h]⟩
theorem bxAt_fo {s : Scr} (h : s.run.1 = 0) {p : Nat} (hp : p < s.ops.length) : bxAt s p = boxN s 0 (foOf s) p := by
  unfold bxAt
  rw [(boxes_in h).1]
  simp only [boxL, Nat.zero_add]
  rw [List.getElem?_map, List.getElem?_range (by rw [← foOf_size h]; exact hp)]
  rfl
/-! ### the reference's boxes, one after the other -/
/-! ### what is active -/
def bs (l : List Bool) : List DV := l.map .bool
end Go.Proofs.YtcaokljobfkajaaDoor

/-
  Lists of rectangles: Hull, Subtract, and a rectangle out of numbers.
-/
namespace Go.Proofs.YtcaokljobfkajaaDoor
open Go.RowKit
set_option linter.unusedVariables false
set_option linter.unusedSimpArgs false
attribute [local irreducible] Ans AnsO AnsG AnsN AnsI

set_option maxRecDepth 4000
def gamB : Gam where
 pure := fun f xs =>
  if f = 9 then (match xs with | [.d (.int _ n), .d (.int _ k)] => some (RV.d (DV.int .i64 (modS n k))) | _ => none) else
  if f = 76 then (match xs with | [.d (.int _ l), .d (.sl n xs)] => some (RV.d (DV.bool (withinS l xs))) | _ => none) else
  if f = 55 then (match xs with | [.agg [.int _ a, .int _ b, .int _ c, .int _ d]] => some (RV.d (DV.bool (Rc.valid ⟨a, b, c, d⟩))) | _ => none) else
  if f = 56 then (match xs with | [.agg [.int _ a, .int _ b, .int _ c, .int _ d]] => some (RV.d (DV.bool (Rc.valid ⟨a, b, c, d⟩))) | _ => none) else
  if f = 40 then (match xs with | [.agg [.int _ a, .int _ b, .int _ c, .int _ d]] => some (RV.d (DV.bool (Rc.empty ⟨a, b, c, d⟩))) | _ => none) else
  if f = 46 then (match xs with | [.agg [.int _ a, .int _ b, .int _ c, .int _ d]] => some (RV.agg [DV.int .i64 ((Rc.clean ⟨a, b, c, d⟩).a), DV.int .i64 ((Rc.clean ⟨a, b, c, d⟩).b), DV.int .i64 ((Rc.clean ⟨a, b, c, d⟩).c), DV.int .i64 ((Rc.clean ⟨a, b, c, d⟩).d)]) | _ => none) else
  if f = 60 then (match xs with | [.agg [.int _ a, .int _ b, .int _ c, .int _ d]] => some (RV.d (DV.int .i64 (Rc.area ⟨a, b, c, d⟩))) | _ => none) else
  if f = 31 then (match xs with | [.agg [.int _ a, .int _ b, .int _ c, .int _ d], .agg [.int _ a', .int _ b', .int _ c', .int _ d']] => some (RV.agg [DV.int .i64 ((Rc.inter ⟨a, b, c, d⟩ ⟨a', b', c', d'⟩).a), DV.int .i64 ((Rc.inter ⟨a, b, c, d⟩ ⟨a', b', c', d'⟩).b), DV.int .i64 ((Rc.inter ⟨a, b, c, d⟩ ⟨a', b', c', d'⟩).c), DV.int .i64 ((Rc.inter ⟨a, b, c, d⟩ ⟨a', b', c', d'⟩).d)]) | _ => none) else
  if f = 41 then (match xs with | [.agg [.int _ a, .int _ b, .int _ c, .int _ d]] => some (RV.d (DV.bool (Rc.empty ⟨a, b, c, d⟩))) | _ => none) else
  if f = 47 then (match xs with | [.agg [.int _ a, .int _ b, .int _ c, .int _ d]] => some (RV.agg [DV.int .i64 ((Rc.clean ⟨a, b, c, d⟩).a), DV.int .i64 ((Rc.clean ⟨a, b, c, d⟩).b), DV.int .i64 ((Rc.clean ⟨a, b, c, d⟩).c), DV.int .i64 ((Rc.clean ⟨a, b, c, d⟩).d)]) | _ => none) else
  if f = 70 then (match xs with | [.agg [.int _ a, .int _ b, .int _ c, .int _ d]] => some (RV.d (DV.int .i64 (Rc.area ⟨a, b, c, d⟩))) | _ => none) else
  if f = 32 then (match xs with | [.agg [.int _ a, .int _ b, .int _ c, .int _ d], .agg [.int _ a', .int _ b', .int _ c', .int _ d']] => some (RV.agg [DV.int .i64 ((Rc.inter ⟨a, b, c, d⟩ ⟨a', b', c', d'⟩).a), DV.int .i64 ((Rc.inter ⟨a, b, c, d⟩ ⟨a', b', c', d'⟩).b), DV.int .i64 ((Rc.inter ⟨a, b, c, d⟩ ⟨a', b', c', d'⟩).c), DV.int .i64 ((Rc.inter ⟨a, b, c, d⟩ ⟨a', b', c', d'⟩).d)]) | _ => none) else
  if f = 35 then (match xs with | [.d (.sl n xs)] => some (RV.agg [DV.int .i64 ((hullL (toRcs xs)).a), DV.int .i64 ((hullL (toRcs xs)).b), DV.int .i64 ((hullL (toRcs xs)).c), DV.int .i64 ((hullL (toRcs xs)).d)]) | _ => none) else
  if f = 54 then (match xs with | [.d (.sl n xs)] => some (RV.agg [DV.int .i64 ((hullL (toRcs xs)).a), DV.int .i64 ((hullL (toRcs xs)).b), DV.int .i64 ((hullL (toRcs xs)).c), DV.int .i64 ((hullL (toRcs xs)).d)]) | _ => none) else
  if f = 19 then (match xs with | [.agg [.int _ n0, .int _ n1, .int _ n2, .int _ n3]] => some (RV.agg [DV.int .i64 ((genRc n0 n1 n2 n3).a), DV.int .i64 ((genRc n0 n1 n2 n3).b), DV.int .i64 ((genRc n0 n1 n2 n3).c), DV.int .i64 ((genRc n0 n1 n2 n3).d)]) | _ => none) else
  none
 modes := fun f =>
  none
 proc := fun f xs bs =>
  none
 iter := fun f cs =>
  none

def G_Rect_ann (n0 : Int) (n1 : Int) (n2 : Int) (n3 : Int) : Ann := Ann.leaf
theorem G_Rect_vc (n0 : Int) (n1 : Int) (n2 : Int) (n3 : Int) : vcg Tryd.prog gamB 41 (bodyOf Tryd.f19) (G_Rect_ann n0 n1 n2 n3) kn0 (start [RV.agg [DV.int .i64 n0, DV.int .i64 n1, DV.int .i64 n2, DV.int .i64 n3]]) (post Tryd.prog Tryd.f19.results.toList (· = RV.agg [DV.int .i64 ((genRc n0 n1 n2 n3).a), DV.int .i64 ((genRc n0 n1 n2 n3).b), DV.int .i64 ((genRc n0 n1 n2 n3).c), DV.int .i64 ((genRc n0 n1 n2 n3).d)])) =
  (let zz0 := (0 ≤ (0 : Int) ∧ (0 : Int) < ((4 : Nat) : Int)); let zz1 := (0 ≤ (2 : Int) ∧ (2 : Int) < ((4 : Nat) : Int)); let zz2 := (IntKind.wrap .i64 (Int.tdiv n0 (12 : Int))); let zz3 := (IntKind.wrap .i64 ((modS n0 (12 : Int)) - (6 : Int))); let zz4 := (IntKind.wrap .i64 ((modS n1 (12 : Int)) - (6 : Int))); let zz5 := (IntKind.wrap .i64 ((IntKind.wrap .i64 (zz4 + (modS n3 (8 : Int)))) - (1 : Int))); let zz6 := [DV.int .i64 ((genRc n0 n1 n2 n3).a), DV.int .i64 ((genRc n0 n1 n2 n3).b), DV.int .i64 ((genRc n0 n1 n2 n3).c), DV.int .i64 ((genRc n0 n1 n2 n3).d)]; True ∧ True ∧ zz0 ∧ True ∧ (Ans Tryd.prog 9 [RV.d (DV.int .i64 n0), RV.d (DV.int .i64 12)] (RV.d (DV.int .i64 (modS n0 (12 : Int))))) ∧ True ∧ (0 ≤ (1 : Int) ∧ (1 : Int) < ((4 : Nat) : Int)) ∧ True ∧ (Ans Tryd.prog 9 [RV.d (DV.int .i64 n1), RV.d (DV.int .i64 12)] (RV.d (DV.int .i64 (modS n1 (12 : Int))))) ∧ True ∧ True ∧ True ∧ True ∧ (true = true) ∧ True ∧ True ∧ zz1 ∧ True ∧ (Ans Tryd.prog 9 [RV.d (DV.int .i64 n2), RV.d (DV.int .i64 8)] (RV.d (DV.int .i64 (modS n2 (8 : Int))))) ∧ True ∧ True ∧ True ∧ True ∧ (0 ≤ (3 : Int) ∧ (3 : Int) < ((4 : Nat) : Int)) ∧ True ∧ (Ans Tryd.prog 9 [RV.d (DV.int .i64 n3), RV.d (DV.int .i64 8)] (RV.d (DV.int .i64 (modS n3 (8 : Int))))) ∧ True ∧ True ∧ True ∧ True ∧ True ∧ True ∧ (true = true) ∧ zz0 ∧ True ∧ ((12 : Int) ≠ 0) ∧ (Ans Tryd.prog 9 [RV.d (DV.int .i64 zz2), RV.d (DV.int .i64 30)] (RV.d (DV.int .i64 (modS zz2 (30 : Int))))) ∧ True ∧ ((((modS zz2 (30 : Int)) == (29 : Int)) = true → zz1 ∧ True ∧ (Ans Tryd.prog 9 [RV.d (DV.int .i64 n2), RV.d (DV.int .i64 3)] (RV.d (DV.int .i64 (modS n2 (3 : Int))))) ∧ True ∧ True ∧ True ∧ True ∧ True ∧ True ∧ RV.agg [DV.int .i64 zz3, DV.int .i64 zz4, DV.int .i64 (IntKind.wrap .i64 ((IntKind.wrap .i64 ((1073741824 : Int) + (modS n2 (3 : Int)))) - (1 : Int))), DV.int .i64 zz5] = RV.agg zz6) ∧ (((modS zz2 (30 : Int)) == (29 : Int)) = false → True ∧ True ∧ RV.agg [DV.int .i64 zz3, DV.int .i64 zz4, DV.int .i64 (IntKind.wrap .i64 ((IntKind.wrap .i64 (zz3 + (modS n2 (8 : Int)))) - (1 : Int))), DV.int .i64 zz5] = RV.agg zz6))) := by kernel_rfl
theorem G_Rect_ans (n0 : Int) (n1 : Int) (n2 : Int) (n3 : Int) : Ans Tryd.prog 19 [RV.agg [DV.int .i64 n0, DV.int .i64 n1, DV.int .i64 n2, DV.int .i64 n3]] (RV.agg [DV.int .i64 ((genRc n0 n1 n2 n3).a), DV.int .i64 ((genRc n0 n1 n2 n3).b), DV.int .i64 ((genRc n0 n1 n2 n3).c), DV.int .i64 ((genRc n0 n1 n2 n3).d)]) :=
  ans_of_vcg (Γ := gamB) (G_Rect_ann n0 n1 n2 n3) mixed_ Tryd.func19 rfl (Nat.le_of_ble_eq_true rfl) fun hwf => by
    refine Eq.mpr (G_Rect_vc n0 n1 n2 n3) ?_
    simp only [true_and, and_true, RV.d.injEq, RV.agg.injEq, RV.tup.injEq, DV.bool.injEq, DV.int.injEq, DV.sl.injEq, List.cons.injEq, forall_const, Bool.not_false, Bool.not_true, Bool.not_eq_true', Bool.not_eq_false', decide_eq_true_eq, decide_eq_false_iff_not, Int.toNat_natCast, rect_Empty_ans, R13_Empty_ans, rect_Intersect_ans, R13_Intersect_ans, G_Mod_ans]
    simp [genRc]; grind

def rect_Hull_ann (n : Nat) (xs : List DV) : Ann := (Ann.seq Ann.leaf (Ann.seq Ann.leaf (Ann.seq (Ann.seq Ann.leaf (Ann.loop ⟨Nat, fun k => k ≤ n, fun k => ⟨[(0, AV.one (Cl.d (DV.sl n xs))), (2, AV.one (Cl.ptr 2 0)), (3, AV.one (Cl.ptr 3 0)), (6, AV.one (Cl.d (DV.sl n xs))), (7, AV.one (Cl.d (DV.int .i64 ((n : Nat) : Int)))), (8, AV.one (Cl.d (DV.int .i64 ((k : Nat) : Int))))], [(2, Bx.cells [Cl.d (DV.int .i64 0), Cl.d (DV.int .i64 0), Cl.d (DV.int .i64 0), Cl.d (DV.int .i64 0)]), (3, Bx.cells [Cl.d (DV.int .i64 ((hullL ((toRcs xs).take k)).a)), Cl.d (DV.int .i64 ((hullL ((toRcs xs).take k)).b)), Cl.d (DV.int .i64 ((hullL ((toRcs xs).take k)).c)), Cl.d (DV.int .i64 ((hullL ((toRcs xs).take k)).d))])]⟩, fun k => n - k⟩ fun k => Ann.leaf)) Ann.leaf)))
theorem rect_Hull_vc (n : Nat) (xs : List DV) : vcg Tryd.prog gamB 42 (bodyOf Tryd.f35) (rect_Hull_ann n xs) kn0 (start [RV.d (DV.sl n xs)]) (post Tryd.prog Tryd.f35.results.toList (· = RV.agg [DV.int .i64 ((hullL (toRcs xs)).a), DV.int .i64 ((hullL (toRcs xs)).b), DV.int .i64 ((hullL (toRcs xs)).c), DV.int .i64 ((hullL (toRcs xs)).d)])) =
  (let zz0 := (DV.int .i64 ((n : Nat) : Int) = DV.int .i64 ((n : Nat) : Int)); let zz1 := [DV.int .i64 0, DV.int .i64 0, DV.int .i64 0, DV.int .i64 0]; let zz2 := (zz1 = zz1); let zz3 := fun (k : Nat) => [DV.int .i64 ((hullL ((toRcs xs).take k)).a), DV.int .i64 ((hullL ((toRcs xs).take k)).b), DV.int .i64 ((hullL ((toRcs xs).take k)).c), DV.int .i64 ((hullL ((toRcs xs).take k)).d)]; let zz4 := fun (k : Nat) => [DV.int .i64 (nAt xs (((k : Nat) : Int).toNat * 4)), DV.int .i64 (nAt xs (((k : Nat) : Int).toNat * 4 + 1)), DV.int .i64 (nAt xs (((k : Nat) : Int).toNat * 4 + 1 + 1)), DV.int .i64 (nAt xs (((k : Nat) : Int).toNat * 4 + 1 + 1 + 1))]; let zz5 := fun (k : Nat) => fun (k' : Nat) => ((DV.sl n xs = DV.sl n xs) ∧ (0 = 0) ∧ (0 = 0) ∧ (DV.sl n xs = DV.sl n xs) ∧ zz0 ∧ (DV.int .i64 (IntKind.wrap .i64 (((k : Nat) : Int) + (1 : Int))) = DV.int .i64 ((k' : Nat) : Int)) ∧ True); let zz6 := fun (k' : Nat) => [DV.int .i64 ((hullL ((toRcs xs).take k')).a), DV.int .i64 ((hullL ((toRcs xs).take k')).b), DV.int .i64 ((hullL ((toRcs xs).take k')).c), DV.int .i64 ((hullL ((toRcs xs).take k')).d)]; let zz7 := fun (k : Nat) => (Rc.empty ⟨((hullL ((toRcs xs).take k)).a), ((hullL ((toRcs xs).take k)).b), ((hullL ((toRcs xs).take k)).c), ((hullL ((toRcs xs).take k)).d)⟩); True ∧ True ∧ True ∧ True ∧ True ∧ ((∃ k : Nat, (k ≤ n) ∧ (((DV.sl n xs = DV.sl n xs) ∧ (0 = 0) ∧ (0 = 0) ∧ (DV.sl n xs = DV.sl n xs) ∧ zz0 ∧ (DV.int .i64 0 = DV.int .i64 ((k : Nat) : Int)) ∧ True) ∧ (zz2 ∧ (zz1 = (zz3 k)) ∧ True))) ∧ ∀ k : Nat, (k ≤ n) → True ∧ (((decide (((k : Nat) : Int) < ((n : Nat) : Int))) = true → (0 ≤ ((k : Nat) : Int) ∧ ((k : Nat) : Int) < ((n : Nat) : Int) ∧ ((k : Nat) : Int).toNat * 4 < xs.length) ∧ ((xs[((k : Nat) : Int).toNat * 4]? = some (DV.int .i64 (nAt xs (((k : Nat) : Int).toNat * 4)))) ∧ (xs[((k : Nat) : Int).toNat * 4 + 1]? = some (DV.int .i64 (nAt xs (((k : Nat) : Int).toNat * 4 + 1)))) ∧ (xs[((k : Nat) : Int).toNat * 4 + 1 + 1]? = some (DV.int .i64 (nAt xs (((k : Nat) : Int).toNat * 4 + 1 + 1)))) ∧ (xs[((k : Nat) : Int).toNat * 4 + 1 + 1 + 1]? = some (DV.int .i64 (nAt xs (((k : Nat) : Int).toNat * 4 + 1 + 1 + 1)))) ∧ True) ∧ True ∧ True ∧ True ∧ (Ans Tryd.prog 40 [RV.agg (zz4 k)] (RV.d (DV.bool (Rc.empty ⟨(nAt xs (((k : Nat) : Int).toNat * 4)), (nAt xs (((k : Nat) : Int).toNat * 4 + 1)), (nAt xs (((k : Nat) : Int).toNat * 4 + 1 + 1)), (nAt xs (((k : Nat) : Int).toNat * 4 + 1 + 1 + 1))⟩)))) ∧ True ∧ (((Rc.empty ⟨(nAt xs (((k : Nat) : Int).toNat * 4)), (nAt xs (((k : Nat) : Int).toNat * 4 + 1)), (nAt xs (((k : Nat) : Int).toNat * 4 + 1 + 1)), (nAt xs (((k : Nat) : Int).toNat * 4 + 1 + 1 + 1))⟩) = true → True ∧ True ∧ ∃ k' : Nat, (k' ≤ n) ∧ (n - k' < n - k) ∧ ((zz5 k k') ∧ (zz2 ∧ ((zz3 k) = (zz6 k')) ∧ True))) ∧ ((Rc.empty ⟨(nAt xs (((k : Nat) : Int).toNat * 4)), (nAt xs (((k : Nat) : Int).toNat * 4 + 1)), (nAt xs (((k : Nat) : Int).toNat * 4 + 1 + 1)), (nAt xs (((k : Nat) : Int).toNat * 4 + 1 + 1 + 1))⟩) = false → True ∧ (Ans Tryd.prog 40 [RV.agg (zz3 k)] (RV.d (DV.bool (zz7 k)))) ∧ True ∧ (((zz7 k) = true → True ∧ True ∧ True ∧ True ∧ ∃ k' : Nat, (k' ≤ n) ∧ (n - k' < n - k) ∧ ((zz5 k k') ∧ (zz2 ∧ ((zz4 k) = (zz6 k')) ∧ True))) ∧ ((zz7 k) = false → True ∧ True ∧ True ∧ True ∧ True ∧ True ∧ True ∧ True ∧ True ∧ True ∧ True ∧ True ∧ True ∧ True ∧ True ∧ True ∧ True ∧ True ∧ True ∧ True ∧ True ∧ True ∧ True ∧ True ∧ ∃ k' : Nat, (k' ≤ n) ∧ (n - k' < n - k) ∧ ((zz5 k k') ∧ (zz2 ∧ ([DV.int .i64 (min ((hullL ((toRcs xs).take k)).a) (nAt xs (((k : Nat) : Int).toNat * 4))), DV.int .i64 (min ((hullL ((toRcs xs).take k)).b) (nAt xs (((k : Nat) : Int).toNat * 4 + 1))), DV.int .i64 (max ((hullL ((toRcs xs).take k)).c) (nAt xs (((k : Nat) : Int).toNat * 4 + 1 + 1))), DV.int .i64 (max ((hullL ((toRcs xs).take k)).d) (nAt xs (((k : Nat) : Int).toNat * 4 + 1 + 1 + 1)))] = (zz6 k')) ∧ True))))))) ∧ ((decide (((k : Nat) : Int) < ((n : Nat) : Int))) = false → True ∧ True ∧ RV.agg (zz3 k) = RV.agg [DV.int .i64 ((hullL (toRcs xs)).a), DV.int .i64 ((hullL (toRcs xs)).b), DV.int .i64 ((hullL (toRcs xs)).c), DV.int .i64 ((hullL (toRcs xs)).d)])))) := by kernel_rfl
theorem rect_Hull_ans (n : Nat) (xs : List DV) (hx : IsRcs n xs) : Ans Tryd.prog 35 [RV.d (DV.sl n xs)] (RV.agg [DV.int .i64 ((hullL (toRcs xs)).a), DV.int .i64 ((hullL (toRcs xs)).b), DV.int .i64 ((hullL (toRcs xs)).c), DV.int .i64 ((hullL (toRcs xs)).d)]) :=
  ans_of_vcg (Γ := gamB) (rect_Hull_ann n xs) mixed_ Tryd.func35 rfl (Nat.le_of_ble_eq_true rfl) fun hwf => by
    refine Eq.mpr (rect_Hull_vc n xs) ?_
    simp only [true_and, and_true, RV.d.injEq, RV.agg.injEq, RV.tup.injEq, DV.bool.injEq, DV.int.injEq, DV.sl.injEq, List.cons.injEq, forall_const, Bool.not_false, Bool.not_true, Bool.not_eq_true', Bool.not_eq_false', decide_eq_true_eq, decide_eq_false_iff_not, Int.toNat_natCast, rect_Empty_ans, R13_Empty_ans, rect_Intersect_ans, R13_Intersect_ans, G_Mod_ans, G_Rect_ans]
    obtain ⟨l, rfl, rfl⟩ := hx.of
    simp only [RV.wfs, RV.wf, DV.wf, maxLen] at hwf
    simp only [toRcs_rcs, rcs_length]
    refine ⟨⟨0, by omega, rfl, rfl, rfl, rfl, rfl⟩, fun k hk => ⟨fun hlt => ?_, fun hge => ?_⟩⟩
    · have h : k < l.length := by omega
      obtain ⟨e1, e2, e3, e4⟩ := rcs_nAt h
      obtain ⟨q1, q2, q3, q4⟩ := rcs_at l k h
      have hs := hullL_succ h
      have hw : IntKind.wrap .i64 ((k : Int) + 1) = ((k + 1 : Nat) : Int) := by rw [IntWalk.i64_in _ ⟨by omega, by omega⟩]; omega
      simp only [e1, e2, e3, e4]
      generalize hullL (l.take k) = H at *
      refine ⟨by omega, ⟨q1, q2, q3, q4⟩, fun he => ⟨k + 1, by omega, by omega, hw, ?_⟩, fun he => ⟨fun h2 => ⟨k + 1, by omega, by omega, hw, ?_⟩, fun h2 => ⟨k + 1, by omega, by omega, hw, ?_⟩⟩⟩
      · have he : l[k].empty = true := he
        rw [hs]; simp [Rc.hull, he]
      · have he : l[k].empty = false := he
        have h2 : H.empty = true := h2
        rw [hs]; simp [Rc.hull, he, h2]
      · have he : l[k].empty = false := he
        have h2 : H.empty = false := h2
        rw [hs]; simp [Rc.hull, he, h2, Int.min_comm, Int.max_comm]
    · have : k = l.length := by omega
      subst this
      simp

end Go.Proofs.YtcaokljobfkajaaDoor

/-
  Where operations have an effect: rectangles of images and masks, boxes.
-/
namespace Go.Proofs.YtcaokljobfkajaaDoor
open Go.RowKit
set_option linter.unusedVariables false
set_option linter.unusedSimpArgs false
attribute [local irreducible] Ans AnsO AnsG AnsN AnsI

set_option maxRecDepth 4000
def gamBa : Gam where
 pure := fun f xs =>
  if f = 68 then (match xs with | [.d (.int _ op)] => some (RV.tup [RV.agg [DV.str (opNameS op), DV.int .i64 (ruleS op 1), DV.int .i64 (ruleS op 2), DV.int .i64 (ruleS op 3)], RV.d (DV.bool (decide (1 ≤ op ∧ op < 13)))]) | _ => none) else
  if f = 50 then (match xs with | [.d (.int _ op)] => some (RV.d (DV.bool (neutralB op))) | _ => none) else
  if f = 53 then (match xs with | [.d (.int _ op)] => some (RV.d (DV.bool (neutralB op))) | _ => none) else
  if f = 45 then (match xs with | [.d (.int _ v)] => some (RV.d (DV.bool (farB v))) | _ => none) else
  if f = 31 then (match xs with | [.agg [.int _ a, .int _ b, .int _ c, .int _ d], .agg [.int _ a', .int _ b', .int _ c', .int _ d']] => some (RV.agg [DV.int .i64 ((Rc.inter ⟨a, b, c, d⟩ ⟨a', b', c', d'⟩).a), DV.int .i64 ((Rc.inter ⟨a, b, c, d⟩ ⟨a', b', c', d'⟩).b), DV.int .i64 ((Rc.inter ⟨a, b, c, d⟩ ⟨a', b', c', d'⟩).c), DV.int .i64 ((Rc.inter ⟨a, b, c, d⟩ ⟨a', b', c', d'⟩).d)]) | _ => none) else
  if f = 32 then (match xs with | [.agg [.int _ a, .int _ b, .int _ c, .int _ d], .agg [.int _ a', .int _ b', .int _ c', .int _ d']] => some (RV.agg [DV.int .i64 ((Rc.inter ⟨a, b, c, d⟩ ⟨a', b', c', d'⟩).a), DV.int .i64 ((Rc.inter ⟨a, b, c, d⟩ ⟨a', b', c', d'⟩).b), DV.int .i64 ((Rc.inter ⟨a, b, c, d⟩ ⟨a', b', c', d'⟩).c), DV.int .i64 ((Rc.inter ⟨a, b, c, d⟩ ⟨a', b', c', d'⟩).d)]) | _ => none) else
  if f = 29 then (match xs with | [.agg [.int _ bits, .int _ cx0, .int _ cy0, .int _ cx1, .int _ cy1, .int _ tw, .int _ th, .sl on oxs, .sl mn mxs, .sl pn pxs], .d (.int _ i), .d (.int _ x), .d (.int _ y)] => some (RV.agg [DV.int .i64 ((placedS (⟨bits, ⟨cx0, cy0, cx1, cy1⟩, tw, th, ints oxs, toIms mxs, toOps pxs⟩ : Scr) i x y).a), DV.int .i64 ((placedS (⟨bits, ⟨cx0, cy0, cx1, cy1⟩, tw, th, ints oxs, toIms mxs, toOps pxs⟩ : Scr) i x y).b), DV.int .i64 ((placedS (⟨bits, ⟨cx0, cy0, cx1, cy1⟩, tw, th, ints oxs, toIms mxs, toOps pxs⟩ : Scr) i x y).c), DV.int .i64 ((placedS (⟨bits, ⟨cx0, cy0, cx1, cy1⟩, tw, th, ints oxs, toIms mxs, toOps pxs⟩ : Scr) i x y).d)]) | _ => none) else
  if f = 11 then (match xs with | [.agg [.int _ bits, .int _ cx0, .int _ cy0, .int _ cx1, .int _ cy1, .int _ tw, .int _ th, .sl on oxs, .sl mn mxs, .sl pn pxs], .agg [.int _ okind, .int _ oimage, .int _ ox, .int _ oy, .int _ omask, .int _ omx, .int _ omy, .int _ oopac, .int _ ooper, .int _ omode, .bool oiso, .bool okno]] => some (RV.agg [DV.int .i64 ((imgR (⟨bits, ⟨cx0, cy0, cx1, cy1⟩, tw, th, ints oxs, toIms mxs, toOps pxs⟩ : Scr) (⟨okind, oimage, ox, oy, omask, omx, omy, oopac, ooper, omode, oiso, okno⟩ : Oq)).a), DV.int .i64 ((imgR (⟨bits, ⟨cx0, cy0, cx1, cy1⟩, tw, th, ints oxs, toIms mxs, toOps pxs⟩ : Scr) (⟨okind, oimage, ox, oy, omask, omx, omy, oopac, ooper, omode, oiso, okno⟩ : Oq)).b), DV.int .i64 ((imgR (⟨bits, ⟨cx0, cy0, cx1, cy1⟩, tw, th, ints oxs, toIms mxs, toOps pxs⟩ : Scr) (⟨okind, oimage, ox, oy, omask, omx, omy, oopac, ooper, omode, oiso, okno⟩ : Oq)).c), DV.int .i64 ((imgR (⟨bits, ⟨cx0, cy0, cx1, cy1⟩, tw, th, ints oxs, toIms mxs, toOps pxs⟩ : Scr) (⟨okind, oimage, ox, oy, omask, omx, omy, oopac, ooper, omode, oiso, okno⟩ : Oq)).d)]) | _ => none) else
  if f = 13 then (match xs with | [.agg [.int _ bits, .int _ cx0, .int _ cy0, .int _ cx1, .int _ cy1, .int _ tw, .int _ th, .sl on oxs, .sl mn mxs, .sl pn pxs], .agg [.int _ okind, .int _ oimage, .int _ ox, .int _ oy, .int _ omask, .int _ omx, .int _ omy, .int _ oopac, .int _ ooper, .int _ omode, .bool oiso, .bool okno]] => some (RV.agg [DV.int .i64 ((maskR (⟨bits, ⟨cx0, cy0, cx1, cy1⟩, tw, th, ints oxs, toIms mxs, toOps pxs⟩ : Scr) (⟨okind, oimage, ox, oy, omask, omx, omy, oopac, ooper, omode, oiso, okno⟩ : Oq)).a), DV.int .i64 ((maskR (⟨bits, ⟨cx0, cy0, cx1, cy1⟩, tw, th, ints oxs, toIms mxs, toOps pxs⟩ : Scr) (⟨okind, oimage, ox, oy, omask, omx, omy, oopac, ooper, omode, oiso, okno⟩ : Oq)).b), DV.int .i64 ((maskR (⟨bits, ⟨cx0, cy0, cx1, cy1⟩, tw, th, ints oxs, toIms mxs, toOps pxs⟩ : Scr) (⟨okind, oimage, ox, oy, omask, omx, omy, oopac, ooper, omode, oiso, okno⟩ : Oq)).c), DV.int .i64 ((maskR (⟨bits, ⟨cx0, cy0, cx1, cy1⟩, tw, th, ints oxs, toIms mxs, toOps pxs⟩ : Scr) (⟨okind, oimage, ox, oy, omask, omx, omy, oopac, ooper, omode, oiso, okno⟩ : Oq)).d)]) | _ => none) else
  if f = 30 then (match xs with | [.agg [.int _ bits, .int _ cx0, .int _ cy0, .int _ cx1, .int _ cy1, .int _ tw, .int _ th, .sl on oxs, .sl mn mxs, .sl pn pxs], .d (.int _ i), .d (.int _ x), .d (.int _ y)] => some (RV.agg [DV.int .i64 ((placedS (⟨bits, ⟨cx0, cy0, cx1, cy1⟩, tw, th, ints oxs, toIms mxs, toOps pxs⟩ : Scr) i x y).a), DV.int .i64 ((placedS (⟨bits, ⟨cx0, cy0, cx1, cy1⟩, tw, th, ints oxs, toIms mxs, toOps pxs⟩ : Scr) i x y).b), DV.int .i64 ((placedS (⟨bits, ⟨cx0, cy0, cx1, cy1⟩, tw, th, ints oxs, toIms mxs, toOps pxs⟩ : Scr) i x y).c), DV.int .i64 ((placedS (⟨bits, ⟨cx0, cy0, cx1, cy1⟩, tw, th, ints oxs, toIms mxs, toOps pxs⟩ : Scr) i x y).d)]) | _ => none) else
  if f = 12 then (match xs with | [.agg [.int _ bits, .int _ cx0, .int _ cy0, .int _ cx1, .int _ cy1, .int _ tw, .int _ th, .sl on oxs, .sl mn mxs, .sl pn pxs], .agg [.int _ okind, .int _ oimage, .int _ ox, .int _ oy, .int _ omask, .int _ omx, .int _ omy, .int _ oopac, .int _ ooper, .int _ omode, .bool oiso, .bool okno]] => some (RV.agg [DV.int .i64 ((imgR (⟨bits, ⟨cx0, cy0, cx1, cy1⟩, tw, th, ints oxs, toIms mxs, toOps pxs⟩ : Scr) (⟨okind, oimage, ox, oy, omask, omx, omy, oopac, ooper, omode, oiso, okno⟩ : Oq)).a), DV.int .i64 ((imgR (⟨bits, ⟨cx0, cy0, cx1, cy1⟩, tw, th, ints oxs, toIms mxs, toOps pxs⟩ : Scr) (⟨okind, oimage, ox, oy, omask, omx, omy, oopac, ooper, omode, oiso, okno⟩ : Oq)).b), DV.int .i64 ((imgR (⟨bits, ⟨cx0, cy0, cx1, cy1⟩, tw, th, ints oxs, toIms mxs, toOps pxs⟩ : Scr) (⟨okind, oimage, ox, oy, omask, omx, omy, oopac, ooper, omode, oiso, okno⟩ : Oq)).c), DV.int .i64 ((imgR (⟨bits, ⟨cx0, cy0, cx1, cy1⟩, tw, th, ints oxs, toIms mxs, toOps pxs⟩ : Scr) (⟨okind, oimage, ox, oy, omask, omx, omy, oopac, ooper, omode, oiso, okno⟩ : Oq)).d)]) | _ => none) else
  if f = 14 then (match xs with | [.agg [.int _ bits, .int _ cx0, .int _ cy0, .int _ cx1, .int _ cy1, .int _ tw, .int _ th, .sl on oxs, .sl mn mxs, .sl pn pxs], .agg [.int _ okind, .int _ oimage, .int _ ox, .int _ oy, .int _ omask, .int _ omx, .int _ omy, .int _ oopac, .int _ ooper, .int _ omode, .bool oiso, .bool okno]] => some (RV.agg [DV.int .i64 ((maskR (⟨bits, ⟨cx0, cy0, cx1, cy1⟩, tw, th, ints oxs, toIms mxs, toOps pxs⟩ : Scr) (⟨okind, oimage, ox, oy, omask, omx, omy, oopac, ooper, omode, oiso, okno⟩ : Oq)).a), DV.int .i64 ((maskR (⟨bits, ⟨cx0, cy0, cx1, cy1⟩, tw, th, ints oxs, toIms mxs, toOps pxs⟩ : Scr) (⟨okind, oimage, ox, oy, omask, omx, omy, oopac, ooper, omode, oiso, okno⟩ : Oq)).b), DV.int .i64 ((maskR (⟨bits, ⟨cx0, cy0, cx1, cy1⟩, tw, th, ints oxs, toIms mxs, toOps pxs⟩ : Scr) (⟨okind, oimage, ox, oy, omask, omx, omy, oopac, ooper, omode, oiso, okno⟩ : Oq)).c), DV.int .i64 ((maskR (⟨bits, ⟨cx0, cy0, cx1, cy1⟩, tw, th, ints oxs, toIms mxs, toOps pxs⟩ : Scr) (⟨okind, oimage, ox, oy, omask, omx, omy, oopac, ooper, omode, oiso, okno⟩ : Oq)).d)]) | _ => none) else
  if f = 34 then (match xs with | [.agg [.int _ bits, .int _ cx0, .int _ cy0, .int _ cx1, .int _ cy1, .int _ tw, .int _ th, .sl on oxs, .sl mn mxs, .sl pn pxs], .agg [.int _ okind, .int _ oimage, .int _ ox, .int _ oy, .int _ omask, .int _ omx, .int _ omy, .int _ oopac, .int _ ooper, .int _ omode, .bool oiso, .bool okno], .agg [.int _ ra, .int _ rb, .int _ rc_, .int _ rd]] => some (RV.agg [DV.int .i64 ((boxF (⟨bits, ⟨cx0, cy0, cx1, cy1⟩, tw, th, ints oxs, toIms mxs, toOps pxs⟩ : Scr) (⟨okind, oimage, ox, oy, omask, omx, omy, oopac, ooper, omode, oiso, okno⟩ : Oq) ⟨ra, rb, rc_, rd⟩).a), DV.int .i64 ((boxF (⟨bits, ⟨cx0, cy0, cx1, cy1⟩, tw, th, ints oxs, toIms mxs, toOps pxs⟩ : Scr) (⟨okind, oimage, ox, oy, omask, omx, omy, oopac, ooper, omode, oiso, okno⟩ : Oq) ⟨ra, rb, rc_, rd⟩).b), DV.int .i64 ((boxF (⟨bits, ⟨cx0, cy0, cx1, cy1⟩, tw, th, ints oxs, toIms mxs, toOps pxs⟩ : Scr) (⟨okind, oimage, ox, oy, omask, omx, omy, oopac, ooper, omode, oiso, okno⟩ : Oq) ⟨ra, rb, rc_, rd⟩).c), DV.int .i64 ((boxF (⟨bits, ⟨cx0, cy0, cx1, cy1⟩, tw, th, ints oxs, toIms mxs, toOps pxs⟩ : Scr) (⟨okind, oimage, ox, oy, omask, omx, omy, oopac, ooper, omode, oiso, okno⟩ : Oq) ⟨ra, rb, rc_, rd⟩).d)]) | _ => none) else
  none
 modes := fun f =>
  none
 proc := fun f xs bs =>
  none
 iter := fun f cs =>
  none

def operator_Neutral_ann (op : Int) : Ann := Ann.leaf
theorem operator_Neutral_vc (op : Int) : vcg Tryd.prog gamBa 31 (bodyOf Tryd.f50) (operator_Neutral_ann op) kn0 (start [RV.d (DV.int .i64 op)]) (post Tryd.prog Tryd.f50.results.toList (· = RV.d (DV.bool (neutralB op)))) =
  (let zz0 := ((((ruleS op 3) == (2 : Int)) = false → True ∧ True ∧ True ∧ True ∧ True ∧ True ∧ RV.d (DV.bool ((ruleS op 3) == (3 : Int))) = RV.d (DV.bool (neutralB op))) ∧ (((ruleS op 3) == (2 : Int)) = (!false) → True ∧ True ∧ True ∧ RV.d (DV.bool true) = RV.d (DV.bool (neutralB op)))); True ∧ True ∧ (Ans Tryd.prog 68 [RV.d (DV.int .i64 op)] (RV.tup [RV.agg [DV.str (opNameS op), DV.int .i64 (ruleS op 1), DV.int .i64 (ruleS op 2), DV.int .i64 (ruleS op 3)], RV.d (DV.bool (decide (1 ≤ op ∧ op < 13)))])) ∧ True ∧ True ∧ True ∧ True ∧ True ∧ True ∧ True ∧ True ∧ (((decide (1 ≤ op ∧ op < 13)) = true → True ∧ True ∧ True ∧ True ∧ ((((ruleS op 2) == (1 : Int)) = false → True ∧ True ∧ True ∧ True ∧ True ∧ True ∧ ((((ruleS op 2) == (3 : Int)) = true → True ∧ True ∧ True ∧ True ∧ zz0) ∧ (((ruleS op 2) == (3 : Int)) = (!true) → True ∧ True ∧ RV.d (DV.bool false) = RV.d (DV.bool (neutralB op))))) ∧ (((ruleS op 2) == (1 : Int)) = (!false) → True ∧ True ∧ True ∧ True ∧ True ∧ True ∧ True ∧ zz0))) ∧ ((decide (1 ≤ op ∧ op < 13)) = (!true) → True ∧ True ∧ True ∧ True ∧ RV.d (DV.bool false) = RV.d (DV.bool (neutralB op))))) := by kernel_rfl
theorem operator_Neutral_ans (op : Int) : Ans Tryd.prog 50 [RV.d (DV.int .i64 op)] (RV.d (DV.bool (neutralB op))) :=
  ans_of_vcg (Γ := gamBa) (operator_Neutral_ann op) mixed_ Tryd.func50 rfl (Nat.le_of_ble_eq_true rfl) fun hwf => by
    refine Eq.mpr (operator_Neutral_vc op) ?_
    simp only [true_and, and_true, RV.d.injEq, RV.agg.injEq, RV.tup.injEq, DV.bool.injEq, DV.int.injEq, DV.sl.injEq, List.cons.injEq, forall_const, Bool.not_false, Bool.not_true, Bool.not_eq_true', Bool.not_eq_false', decide_eq_true_eq, decide_eq_false_iff_not, Int.toNat_natCast, operator_find_ans, rect_Intersect_ans, R13_Intersect_ans]
    by_cases h : 1 ≤ op ∧ op < 13
    · rcases op_cases h with rfl | rfl | rfl | rfl | rfl | rfl | rfl | rfl | rfl | rfl | rfl | rfl <;> decide +kernel
    · have h2 : neutralB op = false := by unfold neutralB; simp; omega
      simp [h, h2]

def R06_Neutral_ann (op : Int) : Ann := Ann.leaf
theorem R06_Neutral_vc (op : Int) : vcg Tryd.prog gamBa 25 (bodyOf Tryd.f53) (R06_Neutral_ann op) kn0 (start [RV.d (DV.int .i64 op)]) (post Tryd.prog Tryd.f53.results.toList (· = RV.d (DV.bool (neutralB op)))) =
  (True ∧ True ∧ True ∧ True ∧ (((op == (3 : Int)) = false → True ∧ True ∧ True ∧ True ∧ (((op == (4 : Int)) = false → True ∧ True ∧ True ∧ True ∧ (((op == (5 : Int)) = false → True ∧ True ∧ True ∧ True ∧ (((op == (9 : Int)) = false → True ∧ True ∧ True ∧ True ∧ (((op == (10 : Int)) = false → True ∧ True ∧ True ∧ True ∧ RV.d (DV.bool (op == (12 : Int))) = RV.d (DV.bool (neutralB op))) ∧ ((op == (10 : Int)) = (!false) → True ∧ True ∧ RV.d (DV.bool true) = RV.d (DV.bool (neutralB op))))) ∧ ((op == (9 : Int)) = (!false) → True ∧ True ∧ True ∧ True ∧ RV.d (DV.bool true) = RV.d (DV.bool (neutralB op))))) ∧ ((op == (5 : Int)) = (!false) → True ∧ True ∧ True ∧ True ∧ True ∧ True ∧ RV.d (DV.bool true) = RV.d (DV.bool (neutralB op))))) ∧ ((op == (4 : Int)) = (!false) → True ∧ True ∧ True ∧ True ∧ True ∧ True ∧ True ∧ True ∧ RV.d (DV.bool true) = RV.d (DV.bool (neutralB op))))) ∧ ((op == (3 : Int)) = (!false) → True ∧ True ∧ True ∧ True ∧ True ∧ True ∧ True ∧ True ∧ True ∧ True ∧ RV.d (DV.bool true) = RV.d (DV.bool (neutralB op))))) := by kernel_rfl
theorem R06_Neutral_ans (op : Int) : Ans Tryd.prog 53 [RV.d (DV.int .i64 op)] (RV.d (DV.bool (neutralB op))) :=
  ans_of_vcg (Γ := gamBa) (R06_Neutral_ann op) mixed_ Tryd.func53 rfl (Nat.le_of_ble_eq_true rfl) fun hwf => by
    refine Eq.mpr (R06_Neutral_vc op) ?_
    simp only [true_and, and_true, RV.d.injEq, RV.agg.injEq, RV.tup.injEq, DV.bool.injEq, DV.int.injEq, DV.sl.injEq, List.cons.injEq, forall_const, Bool.not_false, Bool.not_true, Bool.not_eq_true', Bool.not_eq_false', decide_eq_true_eq, decide_eq_false_iff_not, Int.toNat_natCast, operator_find_ans, rect_Intersect_ans, R13_Intersect_ans, operator_Neutral_ans]
    unfold neutralB
    grind

def bounds_far_ann (v : Int) : Ann := Ann.leaf
theorem bounds_far_vc (v : Int) : vcg Tryd.prog gamBa 9 (bodyOf Tryd.f45) (bounds_far_ann v) kn0 (start [RV.d (DV.int .i64 v)]) (post Tryd.prog Tryd.f45.results.toList (· = RV.d (DV.bool (farB v)))) =
  (True ∧ True ∧ True ∧ True ∧ (((decide (v < (-1099511627776 : Int))) = false → True ∧ True ∧ True ∧ True ∧ RV.d (DV.bool (decide (v > (1099511627776 : Int)))) = RV.d (DV.bool (farB v))) ∧ ((decide (v < (-1099511627776 : Int))) = (!false) → True ∧ True ∧ RV.d (DV.bool true) = RV.d (DV.bool (farB v))))) := by kernel_rfl
theorem bounds_far_ans (v : Int) : Ans Tryd.prog 45 [RV.d (DV.int .i64 v)] (RV.d (DV.bool (farB v))) :=
  ans_of_vcg (Γ := gamBa) (bounds_far_ann v) mixed_ Tryd.func45 rfl (Nat.le_of_ble_eq_true rfl) fun hwf => by
    refine Eq.mpr (bounds_far_vc v) ?_
    simp only [true_and, and_true, RV.d.injEq, RV.agg.injEq, RV.tup.injEq, DV.bool.injEq, DV.int.injEq, DV.sl.injEq, List.cons.injEq, forall_const, Bool.not_false, Bool.not_true, Bool.not_eq_true', Bool.not_eq_false', decide_eq_true_eq, decide_eq_false_iff_not, Int.toNat_natCast, operator_find_ans, rect_Intersect_ans, R13_Intersect_ans, operator_Neutral_ans, R06_Neutral_ans]
    unfold farB
    grind

def bounds_placed_ann (s : Scr) (i : Int) (x : Int) (y : Int) : Ann := Ann.leaf
theorem bounds_placed_vc (s : Scr) (i : Int) (x : Int) (y : Int) : vcg Tryd.prog gamBa 56 (bodyOf Tryd.f29) (bounds_placed_ann s i x y) kn0 (start [RV.agg [DV.int .i64 s.bits, DV.int .i64 s.c.a, DV.int .i64 s.c.b, DV.int .i64 s.c.c, DV.int .i64 s.c.d, DV.int .i64 s.tw, DV.int .i64 s.th, DV.sl s.ord.length (is s.ord), DV.sl s.ims.length (ims s.ims), DV.sl s.ops.length (ops s.ops)], RV.d (DV.int .i64 i), RV.d (DV.int .i64 x), RV.d (DV.int .i64 y)]) (post Tryd.prog Tryd.f29.results.toList (· = RV.agg [DV.int .i64 ((placedS s i x y).a), DV.int .i64 ((placedS s i x y).b), DV.int .i64 ((placedS s i x y).c), DV.int .i64 ((placedS s i x y).d)])) =
  (let zz0 := [DV.int .i64 0, DV.int .i64 0, DV.int .i64 0, DV.int .i64 0]; let zz1 := [DV.int .i64 ((placedS s i x y).a), DV.int .i64 ((placedS s i x y).b), DV.int .i64 ((placedS s i x y).c), DV.int .i64 ((placedS s i x y).d)]; let zz2 := (DV.int .i64 (nAt (ims s.ims) (i.toNat * 28))); let zz3 := (DV.int .i64 (nAt (ims s.ims) (i.toNat * 28 + 1))); let zz4 := (IntKind.wrap .i64 (x + (nAt (ims s.ims) (i.toNat * 28)))); let zz5 := (IntKind.wrap .i64 (y + (nAt (ims s.ims) (i.toNat * 28 + 1)))); let zz6 := (Rc.inter ⟨x, y, zz4, zz5⟩ s.c); let zz7 := [DV.int .i64 (zz6.a), DV.int .i64 (zz6.b), DV.int .i64 (zz6.c), DV.int .i64 (zz6.d)]; True ∧ True ∧ True ∧ True ∧ True ∧ (((decide (i < (0 : Int))) = false → True ∧ True ∧ True ∧ True ∧ True ∧ True ∧ (((decide (i ≥ ((s.ims.length : Nat) : Int))) = true → True ∧ True ∧ RV.agg zz0 = RV.agg zz1) ∧ ((decide (i ≥ ((s.ims.length : Nat) : Int))) = false → True ∧ True ∧ True ∧ (0 ≤ i ∧ i < ((s.ims.length : Nat) : Int) ∧ i.toNat * 28 < (ims s.ims).length) ∧ (((ims s.ims)[i.toNat * 28]? = some zz2) ∧ ((ims s.ims)[i.toNat * 28 + 1]? = some zz3) ∧ ((ims s.ims)[i.toNat * 28 + 1 + 1]? = some (DV.bool (bAt (ims s.ims) (i.toNat * 28 + 1 + 1)))) ∧ ((ims s.ims)[i.toNat * 28 + 1 + 1 + 1]? = some (DV.int .u16 (nAt (ims s.ims) (i.toNat * 28 + 1 + 1 + 1)))) ∧ ((ims s.ims)[i.toNat * 28 + 1 + 1 + 1 + 1]? = some (DV.int .u16 (nAt (ims s.ims) (i.toNat * 28 + 1 + 1 + 1 + 1)))) ∧ ((ims s.ims)[i.toNat * 28 + 1 + 1 + 1 + 1 + 1]? = some (DV.int .u16 (nAt (ims s.ims) (i.toNat * 28 + 1 + 1 + 1 + 1 + 1)))) ∧ ((ims s.ims)[i.toNat * 28 + 1 + 1 + 1 + 1 + 1 + 1]? = some (DV.int .u16 (nAt (ims s.ims) (i.toNat * 28 + 1 + 1 + 1 + 1 + 1 + 1)))) ∧ ((ims s.ims)[i.toNat * 28 + 1 + 1 + 1 + 1 + 1 + 1 + 1]? = some (DV.int .u16 (nAt (ims s.ims) (i.toNat * 28 + 1 + 1 + 1 + 1 + 1 + 1 + 1)))) ∧ ((ims s.ims)[i.toNat * 28 + 1 + 1 + 1 + 1 + 1 + 1 + 1 + 1]? = some (DV.int .i64 (nAt (ims s.ims) (i.toNat * 28 + 1 + 1 + 1 + 1 + 1 + 1 + 1 + 1)))) ∧ ((ims s.ims)[i.toNat * 28 + 1 + 1 + 1 + 1 + 1 + 1 + 1 + 1 + 1]? = some (DV.int .i64 (nAt (ims s.ims) (i.toNat * 28 + 1 + 1 + 1 + 1 + 1 + 1 + 1 + 1 + 1)))) ∧ ((ims s.ims)[i.toNat * 28 + 1 + 1 + 1 + 1 + 1 + 1 + 1 + 1 + 1 + 1]? = some (DV.int .i64 (nAt (ims s.ims) (i.toNat * 28 + 1 + 1 + 1 + 1 + 1 + 1 + 1 + 1 + 1 + 1)))) ∧ ((ims s.ims)[i.toNat * 28 + 1 + 1 + 1 + 1 + 1 + 1 + 1 + 1 + 1 + 1 + 1]? = some (DV.sl (lAt (ims s.ims) (i.toNat * 28 + 1 + 1 + 1 + 1 + 1 + 1 + 1 + 1 + 1 + 1 + 1)) (cAt (ims s.ims) (i.toNat * 28 + 1 + 1 + 1 + 1 + 1 + 1 + 1 + 1 + 1 + 1 + 1)))) ∧ ((ims s.ims)[i.toNat * 28 + 1 + 1 + 1 + 1 + 1 + 1 + 1 + 1 + 1 + 1 + 1 + 1]? = some (DV.int .i64 (nAt (ims s.ims) (i.toNat * 28 + 1 + 1 + 1 + 1 + 1 + 1 + 1 + 1 + 1 + 1 + 1 + 1)))) ∧ ((ims s.ims)[i.toNat * 28 + 1 + 1 + 1 + 1 + 1 + 1 + 1 + 1 + 1 + 1 + 1 + 1 + 1]? = some (DV.int .i64 (nAt (ims s.ims) (i.toNat * 28 + 1 + 1 + 1 + 1 + 1 + 1 + 1 + 1 + 1 + 1 + 1 + 1 + 1)))) ∧ ((ims s.ims)[i.toNat * 28 + 1 + 1 + 1 + 1 + 1 + 1 + 1 + 1 + 1 + 1 + 1 + 1 + 1 + 1]? = some (DV.int .i64 (nAt (ims s.ims) (i.toNat * 28 + 1 + 1 + 1 + 1 + 1 + 1 + 1 + 1 + 1 + 1 + 1 + 1 + 1 + 1)))) ∧ ((ims s.ims)[i.toNat * 28 + 1 + 1 + 1 + 1 + 1 + 1 + 1 + 1 + 1 + 1 + 1 + 1 + 1 + 1 + 1]? = some (DV.sl (lAt (ims s.ims) (i.toNat * 28 + 1 + 1 + 1 + 1 + 1 + 1 + 1 + 1 + 1 + 1 + 1 + 1 + 1 + 1 + 1)) (cAt (ims s.ims) (i.toNat * 28 + 1 + 1 + 1 + 1 + 1 + 1 + 1 + 1 + 1 + 1 + 1 + 1 + 1 + 1 + 1)))) ∧ ((ims s.ims)[i.toNat * 28 + 1 + 1 + 1 + 1 + 1 + 1 + 1 + 1 + 1 + 1 + 1 + 1 + 1 + 1 + 1 + 1]? = some (DV.int .i64 (nAt (ims s.ims) (i.toNat * 28 + 1 + 1 + 1 + 1 + 1 + 1 + 1 + 1 + 1 + 1 + 1 + 1 + 1 + 1 + 1 + 1)))) ∧ ((ims s.ims)[i.toNat * 28 + 1 + 1 + 1 + 1 + 1 + 1 + 1 + 1 + 1 + 1 + 1 + 1 + 1 + 1 + 1 + 1 + 1]? = some (DV.int .i64 (nAt (ims s.ims) (i.toNat * 28 + 1 + 1 + 1 + 1 + 1 + 1 + 1 + 1 + 1 + 1 + 1 + 1 + 1 + 1 + 1 + 1 + 1)))) ∧ ((ims s.ims)[i.toNat * 28 + 1 + 1 + 1 + 1 + 1 + 1 + 1 + 1 + 1 + 1 + 1 + 1 + 1 + 1 + 1 + 1 + 1 + 1]? = some (DV.int .i64 (nAt (ims s.ims) (i.toNat * 28 + 1 + 1 + 1 + 1 + 1 + 1 + 1 + 1 + 1 + 1 + 1 + 1 + 1 + 1 + 1 + 1 + 1 + 1)))) ∧ ((ims s.ims)[i.toNat * 28 + 1 + 1 + 1 + 1 + 1 + 1 + 1 + 1 + 1 + 1 + 1 + 1 + 1 + 1 + 1 + 1 + 1 + 1 + 1]? = some (DV.sl (lAt (ims s.ims) (i.toNat * 28 + 1 + 1 + 1 + 1 + 1 + 1 + 1 + 1 + 1 + 1 + 1 + 1 + 1 + 1 + 1 + 1 + 1 + 1 + 1)) (cAt (ims s.ims) (i.toNat * 28 + 1 + 1 + 1 + 1 + 1 + 1 + 1 + 1 + 1 + 1 + 1 + 1 + 1 + 1 + 1 + 1 + 1 + 1 + 1)))) ∧ ((ims s.ims)[i.toNat * 28 + 1 + 1 + 1 + 1 + 1 + 1 + 1 + 1 + 1 + 1 + 1 + 1 + 1 + 1 + 1 + 1 + 1 + 1 + 1 + 1]? = some (DV.int .i64 (nAt (ims s.ims) (i.toNat * 28 + 1 + 1 + 1 + 1 + 1 + 1 + 1 + 1 + 1 + 1 + 1 + 1 + 1 + 1 + 1 + 1 + 1 + 1 + 1 + 1)))) ∧ ((ims s.ims)[i.toNat * 28 + 1 + 1 + 1 + 1 + 1 + 1 + 1 + 1 + 1 + 1 + 1 + 1 + 1 + 1 + 1 + 1 + 1 + 1 + 1 + 1 + 1]? = some (DV.int .i64 (nAt (ims s.ims) (i.toNat * 28 + 1 + 1 + 1 + 1 + 1 + 1 + 1 + 1 + 1 + 1 + 1 + 1 + 1 + 1 + 1 + 1 + 1 + 1 + 1 + 1 + 1)))) ∧ ((ims s.ims)[i.toNat * 28 + 1 + 1 + 1 + 1 + 1 + 1 + 1 + 1 + 1 + 1 + 1 + 1 + 1 + 1 + 1 + 1 + 1 + 1 + 1 + 1 + 1 + 1]? = some (DV.int .i64 (nAt (ims s.ims) (i.toNat * 28 + 1 + 1 + 1 + 1 + 1 + 1 + 1 + 1 + 1 + 1 + 1 + 1 + 1 + 1 + 1 + 1 + 1 + 1 + 1 + 1 + 1 + 1)))) ∧ ((ims s.ims)[i.toNat * 28 + 1 + 1 + 1 + 1 + 1 + 1 + 1 + 1 + 1 + 1 + 1 + 1 + 1 + 1 + 1 + 1 + 1 + 1 + 1 + 1 + 1 + 1 + 1]? = some (DV.sl (lAt (ims s.ims) (i.toNat * 28 + 1 + 1 + 1 + 1 + 1 + 1 + 1 + 1 + 1 + 1 + 1 + 1 + 1 + 1 + 1 + 1 + 1 + 1 + 1 + 1 + 1 + 1 + 1)) (cAt (ims s.ims) (i.toNat * 28 + 1 + 1 + 1 + 1 + 1 + 1 + 1 + 1 + 1 + 1 + 1 + 1 + 1 + 1 + 1 + 1 + 1 + 1 + 1 + 1 + 1 + 1 + 1)))) ∧ ((ims s.ims)[i.toNat * 28 + 1 + 1 + 1 + 1 + 1 + 1 + 1 + 1 + 1 + 1 + 1 + 1 + 1 + 1 + 1 + 1 + 1 + 1 + 1 + 1 + 1 + 1 + 1 + 1]? = some (DV.int .i64 (nAt (ims s.ims) (i.toNat * 28 + 1 + 1 + 1 + 1 + 1 + 1 + 1 + 1 + 1 + 1 + 1 + 1 + 1 + 1 + 1 + 1 + 1 + 1 + 1 + 1 + 1 + 1 + 1 + 1)))) ∧ ((ims s.ims)[i.toNat * 28 + 1 + 1 + 1 + 1 + 1 + 1 + 1 + 1 + 1 + 1 + 1 + 1 + 1 + 1 + 1 + 1 + 1 + 1 + 1 + 1 + 1 + 1 + 1 + 1 + 1]? = some (DV.int .i64 (nAt (ims s.ims) (i.toNat * 28 + 1 + 1 + 1 + 1 + 1 + 1 + 1 + 1 + 1 + 1 + 1 + 1 + 1 + 1 + 1 + 1 + 1 + 1 + 1 + 1 + 1 + 1 + 1 + 1 + 1)))) ∧ ((ims s.ims)[i.toNat * 28 + 1 + 1 + 1 + 1 + 1 + 1 + 1 + 1 + 1 + 1 + 1 + 1 + 1 + 1 + 1 + 1 + 1 + 1 + 1 + 1 + 1 + 1 + 1 + 1 + 1 + 1]? = some (DV.int .i64 (nAt (ims s.ims) (i.toNat * 28 + 1 + 1 + 1 + 1 + 1 + 1 + 1 + 1 + 1 + 1 + 1 + 1 + 1 + 1 + 1 + 1 + 1 + 1 + 1 + 1 + 1 + 1 + 1 + 1 + 1 + 1)))) ∧ ((ims s.ims)[i.toNat * 28 + 1 + 1 + 1 + 1 + 1 + 1 + 1 + 1 + 1 + 1 + 1 + 1 + 1 + 1 + 1 + 1 + 1 + 1 + 1 + 1 + 1 + 1 + 1 + 1 + 1 + 1 + 1]? = some (DV.sl (lAt (ims s.ims) (i.toNat * 28 + 1 + 1 + 1 + 1 + 1 + 1 + 1 + 1 + 1 + 1 + 1 + 1 + 1 + 1 + 1 + 1 + 1 + 1 + 1 + 1 + 1 + 1 + 1 + 1 + 1 + 1 + 1)) (cAt (ims s.ims) (i.toNat * 28 + 1 + 1 + 1 + 1 + 1 + 1 + 1 + 1 + 1 + 1 + 1 + 1 + 1 + 1 + 1 + 1 + 1 + 1 + 1 + 1 + 1 + 1 + 1 + 1 + 1 + 1 + 1)))) ∧ True) ∧ True ∧ True ∧ True ∧ (Ans Tryd.prog 45 [RV.d (DV.int .i64 x)] (RV.d (DV.bool (farB x)))) ∧ True ∧ (((farB x) = false → True ∧ (Ans Tryd.prog 45 [RV.d (DV.int .i64 y)] (RV.d (DV.bool (farB y)))) ∧ True ∧ True ∧ (((farB y) = false → True ∧ True ∧ (Ans Tryd.prog 45 [RV.d zz2] (RV.d (DV.bool (farB (nAt (ims s.ims) (i.toNat * 28)))))) ∧ True ∧ True ∧ (((farB (nAt (ims s.ims) (i.toNat * 28))) = false → True ∧ True ∧ (Ans Tryd.prog 45 [RV.d zz3] (RV.d (DV.bool (farB (nAt (ims s.ims) (i.toNat * 28 + 1)))))) ∧ True ∧ (((farB (nAt (ims s.ims) (i.toNat * 28 + 1))) = true → True ∧ True ∧ RV.agg zz0 = RV.agg zz1) ∧ ((farB (nAt (ims s.ims) (i.toNat * 28 + 1))) = false → True ∧ True ∧ True ∧ True ∧ True ∧ True ∧ True ∧ True ∧ True ∧ True ∧ True ∧ True ∧ True ∧ (Ans Tryd.prog 31 [RV.agg [DV.int .i64 x, DV.int .i64 y, DV.int .i64 zz4, DV.int .i64 zz5], RV.agg [DV.int .i64 s.c.a, DV.int .i64 s.c.b, DV.int .i64 s.c.c, DV.int .i64 s.c.d]] (RV.agg zz7)) ∧ True ∧ RV.agg zz7 = RV.agg zz1))) ∧ ((farB (nAt (ims s.ims) (i.toNat * 28))) = (!false) → True ∧ True ∧ True ∧ RV.agg zz0 = RV.agg zz1))) ∧ ((farB y) = (!false) → True ∧ True ∧ True ∧ True ∧ True ∧ RV.agg zz0 = RV.agg zz1))) ∧ ((farB x) = (!false) → True ∧ True ∧ True ∧ True ∧ True ∧ True ∧ True ∧ RV.agg zz0 = RV.agg zz1))))) ∧ ((decide (i < (0 : Int))) = (!false) → True ∧ True ∧ True ∧ RV.agg zz0 = RV.agg zz1))) := by kernel_rfl
theorem bounds_placed_ans (s : Scr) (i : Int) (x : Int) (y : Int) : Ans Tryd.prog 29 [RV.agg [DV.int .i64 s.bits, DV.int .i64 s.c.a, DV.int .i64 s.c.b, DV.int .i64 s.c.c, DV.int .i64 s.c.d, DV.int .i64 s.tw, DV.int .i64 s.th, DV.sl s.ord.length (is s.ord), DV.sl s.ims.length (ims s.ims), DV.sl s.ops.length (ops s.ops)], RV.d (DV.int .i64 i), RV.d (DV.int .i64 x), RV.d (DV.int .i64 y)] (RV.agg [DV.int .i64 ((placedS s i x y).a), DV.int .i64 ((placedS s i x y).b), DV.int .i64 ((placedS s i x y).c), DV.int .i64 ((placedS s i x y).d)]) :=
  ans_of_vcg (Γ := gamBa) (bounds_placed_ann s i x y) mixed_ Tryd.func29 rfl (Nat.le_of_ble_eq_true rfl) fun hwf => by
    refine Eq.mpr (bounds_placed_vc s i x y) ?_
    simp only [true_and, and_true, RV.d.injEq, RV.agg.injEq, RV.tup.injEq, DV.bool.injEq, DV.int.injEq, DV.sl.injEq, List.cons.injEq, forall_const, Bool.not_false, Bool.not_true, Bool.not_eq_true', Bool.not_eq_false', decide_eq_true_eq, decide_eq_false_iff_not, Int.toNat_natCast, operator_find_ans, rect_Intersect_ans, R13_Intersect_ans, operator_Neutral_ans, R06_Neutral_ans, bounds_far_ans]
    (try simp only [scr_eta, scr_eta2, ints_is, toIms_ims, toOps_ops])
    have hsE : (⟨s.bits, s.c, s.tw, s.th, s.ord, s.ims, s.ops⟩ : Scr) = s := rfl
    (try simp only [hsE])
    clear hsE
    have hfw : ∀ a b : Int, farB a = false → farB b = false → IntKind.wrap .i64 (a + b) = a + b := fun a b h1 h2 => by
      unfold farB at h1 h2
      have h1 := of_decide_eq_false h1
      have h2 := of_decide_eq_false h2
      exact IntWalk.i64_in _ ⟨by omega, by omega⟩
    have z : placedS s i x y = Rc.zero → 0 = (placedS s i x y).a ∧ 0 = (placedS s i x y).b ∧ 0 = (placedS s i x y).c ∧ 0 = (placedS s i x y).d := fun h => by rw [h]; exact ⟨rfl, rfl, rfl, rfl⟩
    refine ⟨fun h0 => ⟨fun h1 => z (placedS_out x y (.inr h1)), fun h1 => ?_⟩, fun h0 => z (placedS_out x y (.inl h0))⟩
    have hk : i.toNat < s.ims.length := by omega
    have e := placedS_in x y (show 0 ≤ i by omega) hk
    have q1 := ims_rd hk
    have q2 := ims_at hk
    simp only [q2]
    have fin : farB x = false → farB y = false → farB s.ims[i.toNat].w = false → farB s.ims[i.toNat].h = false → Rc.inter ⟨x, y, IntKind.wrap .i64 (x + s.ims[i.toNat].w), IntKind.wrap .i64 (y + s.ims[i.toNat].h)⟩ s.c = placedS s i x y := fun f1 f2 f3 f4 => by
      rw [e, hfw _ _ f1 f3, hfw _ _ f2 f4, f1, f2, f3, f4]; rfl
    refine ⟨⟨by omega, by omega, by rw [ims_length]; omega⟩, q1, fun f1 => ⟨fun f2 => ⟨fun f3 => ⟨fun f4 => z (by rw [e, f4]; simp), fun f4 => ?_⟩, fun f3 => z (by rw [e, f3]; simp)⟩, fun f2 => z (by rw [e, f2]; simp)⟩, fun f1 => z (by rw [e, f1]; simp)⟩
    rw [← fin f1 f2 f3 f4]
    exact ⟨rect_Intersect_ans _ _ _ _ _ _ _ _, rfl, rfl, rfl, rfl⟩

def R22_placed_ann (s : Scr) (i : Int) (x : Int) (y : Int) : Ann := let zz0 := (2, AV.one (Cl.d (DV.int .i64 x))); let zz1 := (3, AV.one (Cl.d (DV.int .i64 y))); let zz2 := [(4, Bx.cells [Cl.d (DV.int .i64 s.bits), Cl.d (DV.int .i64 s.c.a), Cl.d (DV.int .i64 s.c.b), Cl.d (DV.int .i64 s.c.c), Cl.d (DV.int .i64 s.c.d), Cl.d (DV.int .i64 s.tw), Cl.d (DV.int .i64 s.th), Cl.d (DV.sl s.ord.length (is s.ord)), Cl.d (DV.sl s.ims.length (ims s.ims)), Cl.d (DV.sl s.ops.length (ops s.ops))]), (8, Bx.cells [Cl.d (DV.int .i64 0), Cl.d (DV.int .i64 0), Cl.d (DV.int .i64 0), Cl.d (DV.int .i64 0)]), (35, Bx.row 3 1 ([DV.int .i64 (nAt (ims s.ims) (i.toNat * 28 + 0)), DV.int .i64 (nAt (ims s.ims) (i.toNat * 28 + 1)), DV.int .i64 x, DV.int .i64 y]))]; (Ann.seq Ann.leaf (Ann.seq Ann.leaf (Ann.seq Ann.leaf (Ann.seq (Ann.seq Ann.leaf (Ann.link ⟨Unit, fun _u => True, fun _u => ⟨[zz0, zz1, (4, AV.one (Cl.ptr 4 0)), (8, AV.one (Cl.ptr 8 0)), (9, AV.one (Cl.ref 35 4)), (10, AV.one (Cl.d (DV.int .i64 0)))], zz2⟩, fun _u => 0⟩ (fun _u => (Ann.seq (Ann.seq Ann.leaf (Ann.sure true Ann.leaf)) Ann.leaf)) (Ann.link ⟨Unit, fun _u => farB (nAt (ims s.ims) (i.toNat * 28 + 0)) = false ∧ True, fun _u => ⟨[zz0, zz1, (4, AV.one (Cl.ptr 4 0)), (8, AV.one (Cl.ptr 8 0)), (9, AV.one (Cl.ref 35 4)), (10, AV.one (Cl.d (DV.int .i64 1)))], zz2⟩, fun _u => 0⟩ (fun _u => (Ann.seq (Ann.seq Ann.leaf (Ann.sure true Ann.leaf)) Ann.leaf)) (Ann.link ⟨Unit, fun _u => farB (nAt (ims s.ims) (i.toNat * 28 + 0)) = false ∧ farB (nAt (ims s.ims) (i.toNat * 28 + 1)) = false ∧ True, fun _u => ⟨[zz0, zz1, (4, AV.one (Cl.ptr 4 0)), (8, AV.one (Cl.ptr 8 0)), (9, AV.one (Cl.ref 35 4)), (10, AV.one (Cl.d (DV.int .i64 2)))], zz2⟩, fun _u => 0⟩ (fun _u => (Ann.seq (Ann.seq Ann.leaf (Ann.sure true Ann.leaf)) Ann.leaf)) (Ann.link ⟨Unit, fun _u => farB (nAt (ims s.ims) (i.toNat * 28 + 0)) = false ∧ farB (nAt (ims s.ims) (i.toNat * 28 + 1)) = false ∧ farB (x) = false ∧ True, fun _u => ⟨[zz0, zz1, (4, AV.one (Cl.ptr 4 0)), (8, AV.one (Cl.ptr 8 0)), (9, AV.one (Cl.ref 35 4)), (10, AV.one (Cl.d (DV.int .i64 3)))], zz2⟩, fun _u => 0⟩ (fun _u => (Ann.seq (Ann.seq Ann.leaf (Ann.sure true Ann.leaf)) Ann.leaf)) (Ann.link ⟨Unit, fun _u => farB (nAt (ims s.ims) (i.toNat * 28 + 0)) = false ∧ farB (nAt (ims s.ims) (i.toNat * 28 + 1)) = false ∧ farB (x) = false ∧ farB (y) = false ∧ True, fun _u => ⟨[zz0, zz1, (4, AV.one (Cl.ptr 4 0)), (8, AV.one (Cl.ptr 8 0)), (9, AV.one (Cl.ref 35 4)), (10, AV.one (Cl.d (DV.int .i64 4)))], zz2⟩, fun _u => 0⟩ (fun _u => (Ann.seq (Ann.seq Ann.leaf (Ann.sure false Ann.leaf)) Ann.leaf)) Ann.leaf)))))) Ann.leaf))))
theorem R22_placed_vc (s : Scr) (i : Int) (x : Int) (y : Int) : vcg Tryd.prog gamBa 69 (bodyOf Tryd.f30) (R22_placed_ann s i x y) kn0 (start [RV.agg [DV.int .i64 s.bits, DV.int .i64 s.c.a, DV.int .i64 s.c.b, DV.int .i64 s.c.c, DV.int .i64 s.c.d, DV.int .i64 s.tw, DV.int .i64 s.th, DV.sl s.ord.length (is s.ord), DV.sl s.ims.length (ims s.ims), DV.sl s.ops.length (ops s.ops)], RV.d (DV.int .i64 i), RV.d (DV.int .i64 x), RV.d (DV.int .i64 y)]) (post Tryd.prog Tryd.f30.results.toList (· = RV.agg [DV.int .i64 ((placedS s i x y).a), DV.int .i64 ((placedS s i x y).b), DV.int .i64 ((placedS s i x y).c), DV.int .i64 ((placedS s i x y).d)])) =
  (let zz0 := [DV.int .i64 0, DV.int .i64 0, DV.int .i64 0, DV.int .i64 0]; let zz1 := [DV.int .i64 ((placedS s i x y).a), DV.int .i64 ((placedS s i x y).b), DV.int .i64 ((placedS s i x y).c), DV.int .i64 ((placedS s i x y).d)]; let zz2 := (0 ≤ i ∧ i < ((s.ims.length : Nat) : Int) ∧ i.toNat * 28 < (ims s.ims).length); let zz3 := (DV.int .i64 (nAt (ims s.ims) (i.toNat * 28 + 0))); let zz4 := (DV.int .i64 (nAt (ims s.ims) (i.toNat * 28 + 1))); let zz5 := (DV.int .i64 x = DV.int .i64 x); let zz6 := (DV.int .i64 y = DV.int .i64 y); let zz7 := [DV.int .i64 s.bits, DV.int .i64 s.c.a, DV.int .i64 s.c.b, DV.int .i64 s.c.c, DV.int .i64 s.c.d, DV.int .i64 s.tw, DV.int .i64 s.th, DV.sl s.ord.length (is s.ord), DV.sl s.ims.length (ims s.ims), DV.sl s.ops.length (ops s.ops)]; let zz8 := [DV.int .i64 (nAt (ims s.ims) (i.toNat * 28 + 0)), DV.int .i64 (nAt (ims s.ims) (i.toNat * 28 + 1)), DV.int .i64 x, DV.int .i64 y]; let zz9 := ((zz7 = zz7) ∧ (zz0 = zz0) ∧ (zz8 = zz8) ∧ True); let zz10 := (0 ≤ (0 : Int) ∧ (0 : Int) < ((4 : Nat) : Int)); let zz11 := ((some zz3 = some zz3) ∧ True); let zz12 := (farB (nAt (ims s.ims) (i.toNat * 28 + 0)) = false ∧ True); let zz13 := (0 ≤ (1 : Int) ∧ (1 : Int) < ((4 : Nat) : Int)); let zz14 := ((some zz4 = some zz4) ∧ True); let zz15 := (farB (nAt (ims s.ims) (i.toNat * 28 + 0)) = false ∧ farB (nAt (ims s.ims) (i.toNat * 28 + 1)) = false ∧ True); let zz16 := (0 ≤ (2 : Int) ∧ (2 : Int) < ((4 : Nat) : Int)); let zz17 := ((some (DV.int .i64 x) = some (DV.int .i64 x)) ∧ True); let zz18 := (farB (nAt (ims s.ims) (i.toNat * 28 + 0)) = false ∧ farB (nAt (ims s.ims) (i.toNat * 28 + 1)) = false ∧ farB (x) = false ∧ True); let zz19 := (0 ≤ (3 : Int) ∧ (3 : Int) < ((4 : Nat) : Int)); let zz20 := ((some (DV.int .i64 y) = some (DV.int .i64 y)) ∧ True); let zz21 := (farB (nAt (ims s.ims) (i.toNat * 28 + 0)) = false ∧ farB (nAt (ims s.ims) (i.toNat * 28 + 1)) = false ∧ farB (x) = false ∧ farB (y) = false ∧ True); let zz22 := (IntKind.wrap .i64 (x + (nAt (ims s.ims) (i.toNat * 28 + 0)))); let zz23 := (IntKind.wrap .i64 (y + (nAt (ims s.ims) (i.toNat * 28 + 1)))); let zz24 := (Rc.inter ⟨x, y, zz22, zz23⟩ s.c); let zz25 := [DV.int .i64 (zz24.a), DV.int .i64 (zz24.b), DV.int .i64 (zz24.c), DV.int .i64 (zz24.d)]; True ∧ True ∧ True ∧ True ∧ True ∧ (((decide (i < (0 : Int))) = false → True ∧ True ∧ True ∧ True ∧ True ∧ True ∧ (((decide (i ≥ ((s.ims.length : Nat) : Int))) = true → True ∧ True ∧ RV.agg zz0 = RV.agg zz1) ∧ ((decide (i ≥ ((s.ims.length : Nat) : Int))) = false → True ∧ True ∧ True ∧ zz2 ∧ True ∧ (((ims s.ims)[i.toNat * 28 + 0]? = some zz3) ∧ True) ∧ True ∧ True ∧ True ∧ zz2 ∧ True ∧ (((ims s.ims)[i.toNat * 28 + 1]? = some zz4) ∧ True) ∧ True ∧ True ∧ True ∧ True ∧ (true = true) ∧ True ∧ (∃ _u : Unit, True ∧ ((zz5 ∧ zz6 ∧ (0 = 0) ∧ (0 = 0) ∧ (4 = 4) ∧ (DV.int .i64 0 = DV.int .i64 0) ∧ True) ∧ zz9)) ∧ ((∀ _u : Unit, (True) → True ∧ True ∧ (decide ((0 : Int) < (4 : Int)) = true ∧ True ∧ True ∧ zz10 ∧ zz11 ∧ True ∧ True ∧ (((decide ((nAt (ims s.ims) (i.toNat * 28 + 0)) < (-1099511627776 : Int))) = false → True ∧ True ∧ zz10 ∧ zz11 ∧ True ∧ True ∧ (((decide ((nAt (ims s.ims) (i.toNat * 28 + 0)) > (1099511627776 : Int))) = true → True ∧ True ∧ RV.agg zz0 = RV.agg zz1) ∧ ((decide ((nAt (ims s.ims) (i.toNat * 28 + 0)) > (1099511627776 : Int))) = false → True ∧ True ∧ True ∧ ∃ _u : Unit, zz12 ∧ ((zz5 ∧ zz6 ∧ (0 = 0) ∧ (0 = 0) ∧ (4 = 4) ∧ (DV.int .i64 (IntKind.wrap .i64 ((0 : Int) + (1 : Int))) = DV.int .i64 1) ∧ True) ∧ zz9)))) ∧ ((decide ((nAt (ims s.ims) (i.toNat * 28 + 0)) < (-1099511627776 : Int))) = (!false) → True ∧ True ∧ True ∧ RV.agg zz0 = RV.agg zz1)))) ∧ (∀ _u : Unit, zz12 → True ∧ True ∧ (decide ((1 : Int) < (4 : Int)) = true ∧ True ∧ True ∧ zz13 ∧ zz14 ∧ True ∧ True ∧ (((decide ((nAt (ims s.ims) (i.toNat * 28 + 1)) < (-1099511627776 : Int))) = false → True ∧ True ∧ zz13 ∧ zz14 ∧ True ∧ True ∧ (((decide ((nAt (ims s.ims) (i.toNat * 28 + 1)) > (1099511627776 : Int))) = true → True ∧ True ∧ RV.agg zz0 = RV.agg zz1) ∧ ((decide ((nAt (ims s.ims) (i.toNat * 28 + 1)) > (1099511627776 : Int))) = false → True ∧ True ∧ True ∧ ∃ _u : Unit, zz15 ∧ ((zz5 ∧ zz6 ∧ (0 = 0) ∧ (0 = 0) ∧ (4 = 4) ∧ (DV.int .i64 (IntKind.wrap .i64 ((1 : Int) + (1 : Int))) = DV.int .i64 2) ∧ True) ∧ zz9)))) ∧ ((decide ((nAt (ims s.ims) (i.toNat * 28 + 1)) < (-1099511627776 : Int))) = (!false) → True ∧ True ∧ True ∧ RV.agg zz0 = RV.agg zz1)))) ∧ (∀ _u : Unit, zz15 → True ∧ True ∧ (decide ((2 : Int) < (4 : Int)) = true ∧ True ∧ True ∧ zz16 ∧ zz17 ∧ True ∧ True ∧ (((decide (x < (-1099511627776 : Int))) = false → True ∧ True ∧ zz16 ∧ zz17 ∧ True ∧ True ∧ (((decide (x > (1099511627776 : Int))) = true → True ∧ True ∧ RV.agg zz0 = RV.agg zz1) ∧ ((decide (x > (1099511627776 : Int))) = false → True ∧ True ∧ True ∧ ∃ _u : Unit, zz18 ∧ ((zz5 ∧ zz6 ∧ (0 = 0) ∧ (0 = 0) ∧ (4 = 4) ∧ (DV.int .i64 (IntKind.wrap .i64 ((2 : Int) + (1 : Int))) = DV.int .i64 3) ∧ True) ∧ zz9)))) ∧ ((decide (x < (-1099511627776 : Int))) = (!false) → True ∧ True ∧ True ∧ RV.agg zz0 = RV.agg zz1)))) ∧ (∀ _u : Unit, zz18 → True ∧ True ∧ (decide ((3 : Int) < (4 : Int)) = true ∧ True ∧ True ∧ zz19 ∧ zz20 ∧ True ∧ True ∧ (((decide (y < (-1099511627776 : Int))) = false → True ∧ True ∧ zz19 ∧ zz20 ∧ True ∧ True ∧ (((decide (y > (1099511627776 : Int))) = true → True ∧ True ∧ RV.agg zz0 = RV.agg zz1) ∧ ((decide (y > (1099511627776 : Int))) = false → True ∧ True ∧ True ∧ ∃ _u : Unit, zz21 ∧ ((zz5 ∧ zz6 ∧ (0 = 0) ∧ (0 = 0) ∧ (4 = 4) ∧ (DV.int .i64 (IntKind.wrap .i64 ((3 : Int) + (1 : Int))) = DV.int .i64 4) ∧ True) ∧ zz9)))) ∧ ((decide (y < (-1099511627776 : Int))) = (!false) → True ∧ True ∧ True ∧ RV.agg zz0 = RV.agg zz1)))) ∧ (∀ _u : Unit, zz21 → True ∧ True ∧ (decide ((4 : Int) < (4 : Int)) = false ∧ True ∧ True ∧ True ∧ True ∧ zz10 ∧ zz11 ∧ True ∧ True ∧ True ∧ zz13 ∧ zz14 ∧ True ∧ True ∧ True ∧ True ∧ (Ans Tryd.prog 32 [RV.agg [DV.int .i64 x, DV.int .i64 y, DV.int .i64 zz22, DV.int .i64 zz23], RV.agg [DV.int .i64 s.c.a, DV.int .i64 s.c.b, DV.int .i64 s.c.c, DV.int .i64 s.c.d]] (RV.agg zz25)) ∧ True ∧ (true = true) ∧ RV.agg zz25 = RV.agg zz1)) ∧ True)))) ∧ ((decide (i < (0 : Int))) = (!false) → True ∧ True ∧ True ∧ RV.agg zz0 = RV.agg zz1))) := by kernel_rfl
theorem R22_placed_ans (s : Scr) (i : Int) (x : Int) (y : Int) : Ans Tryd.prog 30 [RV.agg [DV.int .i64 s.bits, DV.int .i64 s.c.a, DV.int .i64 s.c.b, DV.int .i64 s.c.c, DV.int .i64 s.c.d, DV.int .i64 s.tw, DV.int .i64 s.th, DV.sl s.ord.length (is s.ord), DV.sl s.ims.length (ims s.ims), DV.sl s.ops.length (ops s.ops)], RV.d (DV.int .i64 i), RV.d (DV.int .i64 x), RV.d (DV.int .i64 y)] (RV.agg [DV.int .i64 ((placedS s i x y).a), DV.int .i64 ((placedS s i x y).b), DV.int .i64 ((placedS s i x y).c), DV.int .i64 ((placedS s i x y).d)]) :=
  ans_of_vcg (Γ := gamBa) (R22_placed_ann s i x y) mixed_ Tryd.func30 rfl (Nat.le_of_ble_eq_true rfl) fun hwf => by
    refine Eq.mpr (R22_placed_vc s i x y) ?_
    simp only [true_and, and_true, RV.d.injEq, RV.agg.injEq, RV.tup.injEq, DV.bool.injEq, DV.int.injEq, DV.sl.injEq, List.cons.injEq, forall_const, Bool.not_false, Bool.not_true, Bool.not_eq_true', Bool.not_eq_false', decide_eq_true_eq, decide_eq_false_iff_not, Int.toNat_natCast, operator_find_ans, rect_Intersect_ans, R13_Intersect_ans, operator_Neutral_ans, R06_Neutral_ans, bounds_far_ans]
    (try simp only [scr_eta, scr_eta2, ints_is, toIms_ims, toOps_ops])
    have hsE : (⟨s.bits, s.c, s.tw, s.th, s.ord, s.ims, s.ops⟩ : Scr) = s := rfl
    (try simp only [hsE])
    clear hsE
    have hfw : ∀ a b : Int, farB a = false → farB b = false → IntKind.wrap .i64 (a + b) = a + b := fun a b h1 h2 => by
      unfold farB at h1 h2
      have h1 := of_decide_eq_false h1
      have h2 := of_decide_eq_false h2
      exact IntWalk.i64_in _ ⟨by omega, by omega⟩
    have z : placedS s i x y = Rc.zero → 0 = (placedS s i x y).a ∧ 0 = (placedS s i x y).b ∧ 0 = (placedS s i x y).c ∧ 0 = (placedS s i x y).d := fun h => by rw [h]; exact ⟨rfl, rfl, rfl, rfl⟩
    refine ⟨fun h0 => ⟨fun h1 => z (placedS_out x y (.inr h1)), fun h1 => ?_⟩, fun h0 => z (placedS_out x y (.inl h0))⟩
    have hk : i.toNat < s.ims.length := by omega
    have e := placedS_in x y (show 0 ≤ i by omega) hk
    have q1 := ims_rd hk
    have q2 := ims_at hk
    simp only [Nat.add_zero, q2]
    have fb : ∀ v : Int, ¬ v < -1099511627776 → ¬ v > 1099511627776 → farB v = false := fun v h1 h2 => by unfold farB; simp; omega
    have ft : ∀ v : Int, (v < -1099511627776 ∨ v > 1099511627776) → farB v = true := fun v h => by unfold farB; simpa using h
    have zt : ∀ v : Int, (v = s.ims[i.toNat].w ∨ v = s.ims[i.toNat].h ∨ v = x ∨ v = y) → (v < -1099511627776 ∨ v > 1099511627776) → placedS s i x y = Rc.zero := fun v hv h => by
      have := ft v h
      rcases hv with rfl | rfl | rfl | rfl <;> rw [e, this] <;> simp
    have fin : farB x = false → farB y = false → farB s.ims[i.toNat].w = false → farB s.ims[i.toNat].h = false → Rc.inter ⟨x, y, IntKind.wrap .i64 (x + s.ims[i.toNat].w), IntKind.wrap .i64 (y + s.ims[i.toNat].h)⟩ s.c = placedS s i x y := fun f1 f2 f3 f4 => by
      rw [e, hfw _ _ f1 f3, hfw _ _ f2 f4, f1, f2, f3, f4]; rfl
    generalize s.ims[i.toNat].w = W at *
    generalize s.ims[i.toNat].h = H at *
    have hl : 0 ≤ i ∧ i < (s.ims.length : Int) ∧ i.toNat * 28 < (ims s.ims).length := ⟨by omega, by omega, by rw [ims_length]; omega⟩
    refine ⟨hl, q1.1, hl, q1.2.1, ⟨(), trivial⟩, ?_⟩
    have zr : ∀ v : Int, (v = W ∨ v = H ∨ v = x ∨ v = y) → (v < -1099511627776 ∨ v > 1099511627776) → 0 = (placedS s i x y).a ∧ 0 = (placedS s i x y).b ∧ 0 = (placedS s i x y).c ∧ 0 = (placedS s i x y).d := fun v hv h => z (zt v hv h)
    refine ⟨⟨by decide, by decide, fun a1 => ⟨by decide, fun a2 => zr W (.inl rfl) (.inr a2), fun a2 => ⟨(), fb W a1 a2, by decide⟩⟩, fun a1 => zr W (.inl rfl) (.inl a1)⟩, fun p1 => ⟨by decide, by decide, fun a1 => ⟨by decide, fun a2 => zr H (.inr (.inl rfl)) (.inr a2), fun a2 => ⟨(), ⟨p1, fb H a1 a2⟩, by decide⟩⟩, fun a1 => zr H (.inr (.inl rfl)) (.inl a1)⟩, fun p2 => ⟨by decide, by decide, fun a1 => ⟨by decide, fun a2 => zr x (.inr (.inr (.inl rfl))) (.inr a2), fun a2 => ⟨(), ⟨p2.1, p2.2, fb x a1 a2⟩, by decide⟩⟩, fun a1 => zr x (.inr (.inr (.inl rfl))) (.inl a1)⟩, fun p3 => ⟨by decide, by decide, fun a1 => ⟨by decide, fun a2 => zr y (.inr (.inr (.inr rfl))) (.inr a2), fun a2 => ⟨(), ⟨p3.1, p3.2.1, p3.2.2, fb y a1 a2⟩, by decide⟩⟩, fun a1 => zr y (.inr (.inr (.inr rfl))) (.inl a1)⟩, fun p4 => ?_⟩
    rw [← fin p4.2.2.1 p4.2.2.2 p4.1 p4.2.1]
    exact ⟨by decide, by decide, by decide, R13_Intersect_ans _ _ _ _ _ _ _ _, rfl, rfl, rfl, rfl⟩

def bounds_ImageRect_ann (s : Scr) (o : Oq) : Ann := Ann.leaf
theorem bounds_ImageRect_vc (s : Scr) (o : Oq) : vcg Tryd.prog gamBa 17 (bodyOf Tryd.f11) (bounds_ImageRect_ann s o) kn0 (start [RV.agg [DV.int .i64 s.bits, DV.int .i64 s.c.a, DV.int .i64 s.c.b, DV.int .i64 s.c.c, DV.int .i64 s.c.d, DV.int .i64 s.tw, DV.int .i64 s.th, DV.sl s.ord.length (is s.ord), DV.sl s.ims.length (ims s.ims), DV.sl s.ops.length (ops s.ops)], RV.agg [DV.int .i64 o.kind, DV.int .i64 o.image, DV.int .i64 o.x, DV.int .i64 o.y, DV.int .i64 o.mask, DV.int .i64 o.mx, DV.int .i64 o.my, DV.int .u16 o.opac, DV.int .i64 o.oper, DV.int .i64 o.mode, DV.bool o.iso, DV.bool o.kno]]) (post Tryd.prog Tryd.f11.results.toList (· = RV.agg [DV.int .i64 ((imgR s o).a), DV.int .i64 ((imgR s o).b), DV.int .i64 ((imgR s o).c), DV.int .i64 ((imgR s o).d)])) =
  (let zz0 := [DV.int .i64 ((imgR s o).a), DV.int .i64 ((imgR s o).b), DV.int .i64 ((imgR s o).c), DV.int .i64 ((imgR s o).d)]; let zz1 := [DV.int .i64 ((placedS (⟨s.bits, s.c, s.tw, s.th, ints (is s.ord), toIms (ims s.ims), toOps (ops s.ops)⟩ : Scr) o.image o.x o.y).a), DV.int .i64 ((placedS (⟨s.bits, s.c, s.tw, s.th, ints (is s.ord), toIms (ims s.ims), toOps (ops s.ops)⟩ : Scr) o.image o.x o.y).b), DV.int .i64 ((placedS (⟨s.bits, s.c, s.tw, s.th, ints (is s.ord), toIms (ims s.ims), toOps (ops s.ops)⟩ : Scr) o.image o.x o.y).c), DV.int .i64 ((placedS (⟨s.bits, s.c, s.tw, s.th, ints (is s.ord), toIms (ims s.ims), toOps (ops s.ops)⟩ : Scr) o.image o.x o.y).d)]; True ∧ True ∧ True ∧ True ∧ True ∧ True ∧ (((o.kind != (1 : Int)) = true → True ∧ True ∧ RV.agg [DV.int .i64 0, DV.int .i64 0, DV.int .i64 0, DV.int .i64 0] = RV.agg zz0) ∧ ((o.kind != (1 : Int)) = false → True ∧ True ∧ True ∧ True ∧ True ∧ True ∧ True ∧ (Ans Tryd.prog 29 [RV.agg [DV.int .i64 s.bits, DV.int .i64 s.c.a, DV.int .i64 s.c.b, DV.int .i64 s.c.c, DV.int .i64 s.c.d, DV.int .i64 s.tw, DV.int .i64 s.th, DV.sl s.ord.length (is s.ord), DV.sl s.ims.length (ims s.ims), DV.sl s.ops.length (ops s.ops)], RV.d (DV.int .i64 o.image), RV.d (DV.int .i64 o.x), RV.d (DV.int .i64 o.y)] (RV.agg zz1)) ∧ True ∧ RV.agg zz1 = RV.agg zz0))) := by kernel_rfl
theorem bounds_ImageRect_ans (s : Scr) (o : Oq) : Ans Tryd.prog 11 [RV.agg [DV.int .i64 s.bits, DV.int .i64 s.c.a, DV.int .i64 s.c.b, DV.int .i64 s.c.c, DV.int .i64 s.c.d, DV.int .i64 s.tw, DV.int .i64 s.th, DV.sl s.ord.length (is s.ord), DV.sl s.ims.length (ims s.ims), DV.sl s.ops.length (ops s.ops)], RV.agg [DV.int .i64 o.kind, DV.int .i64 o.image, DV.int .i64 o.x, DV.int .i64 o.y, DV.int .i64 o.mask, DV.int .i64 o.mx, DV.int .i64 o.my, DV.int .u16 o.opac, DV.int .i64 o.oper, DV.int .i64 o.mode, DV.bool o.iso, DV.bool o.kno]] (RV.agg [DV.int .i64 ((imgR s o).a), DV.int .i64 ((imgR s o).b), DV.int .i64 ((imgR s o).c), DV.int .i64 ((imgR s o).d)]) :=
  ans_of_vcg (Γ := gamBa) (bounds_ImageRect_ann s o) mixed_ Tryd.func11 rfl (Nat.le_of_ble_eq_true rfl) fun hwf => by
    refine Eq.mpr (bounds_ImageRect_vc s o) ?_
    simp only [true_and, and_true, RV.d.injEq, RV.agg.injEq, RV.tup.injEq, DV.bool.injEq, DV.int.injEq, DV.sl.injEq, List.cons.injEq, forall_const, Bool.not_false, Bool.not_true, Bool.not_eq_true', Bool.not_eq_false', decide_eq_true_eq, decide_eq_false_iff_not, Int.toNat_natCast, operator_find_ans, rect_Intersect_ans, R13_Intersect_ans, operator_Neutral_ans, R06_Neutral_ans, bounds_far_ans]
    (try simp only [scr_eta, scr_eta2, ints_is, toIms_ims, toOps_ops])
    have hsE : (⟨s.bits, s.c, s.tw, s.th, s.ord, s.ims, s.ops⟩ : Scr) = s := rfl
    (try simp only [hsE])
    clear hsE
    refine ⟨fun h => ?_, fun h => ?_⟩
    · have h : ¬ o.kind = 1 := by simpa using h
      unfold imgR
      rw [if_neg h]
      exact ⟨rfl, rfl, rfl, rfl⟩
    · have h : o.kind = 1 := by simpa using h
      unfold imgR
      rw [if_pos h]
      exact ⟨bounds_placed_ans s o.image o.x o.y, rfl, rfl, rfl, rfl⟩

def bounds_MaskRect_ann (s : Scr) (o : Oq) : Ann := Ann.leaf
theorem bounds_MaskRect_vc (s : Scr) (o : Oq) : vcg Tryd.prog gamBa 26 (bodyOf Tryd.f13) (bounds_MaskRect_ann s o) kn0 (start [RV.agg [DV.int .i64 s.bits, DV.int .i64 s.c.a, DV.int .i64 s.c.b, DV.int .i64 s.c.c, DV.int .i64 s.c.d, DV.int .i64 s.tw, DV.int .i64 s.th, DV.sl s.ord.length (is s.ord), DV.sl s.ims.length (ims s.ims), DV.sl s.ops.length (ops s.ops)], RV.agg [DV.int .i64 o.kind, DV.int .i64 o.image, DV.int .i64 o.x, DV.int .i64 o.y, DV.int .i64 o.mask, DV.int .i64 o.mx, DV.int .i64 o.my, DV.int .u16 o.opac, DV.int .i64 o.oper, DV.int .i64 o.mode, DV.bool o.iso, DV.bool o.kno]]) (post Tryd.prog Tryd.f13.results.toList (· = RV.agg [DV.int .i64 ((maskR s o).a), DV.int .i64 ((maskR s o).b), DV.int .i64 ((maskR s o).c), DV.int .i64 ((maskR s o).d)])) =
  (let zz0 := [DV.int .i64 s.c.a, DV.int .i64 s.c.b, DV.int .i64 s.c.c, DV.int .i64 s.c.d]; let zz1 := [DV.int .i64 ((Rc.inter s.c s.c).a), DV.int .i64 ((Rc.inter s.c s.c).b), DV.int .i64 ((Rc.inter s.c s.c).c), DV.int .i64 ((Rc.inter s.c s.c).d)]; let zz2 := [DV.int .i64 ((maskR s o).a), DV.int .i64 ((maskR s o).b), DV.int .i64 ((maskR s o).c), DV.int .i64 ((maskR s o).d)]; let zz3 := (IntKind.wrap .i64 (o.mask - (1 : Int))); let zz4 := [DV.int .i64 ((placedS (⟨s.bits, s.c, s.tw, s.th, ints (is s.ord), toIms (ims s.ims), toOps (ops s.ops)⟩ : Scr) zz3 o.mx o.my).a), DV.int .i64 ((placedS (⟨s.bits, s.c, s.tw, s.th, ints (is s.ord), toIms (ims s.ims), toOps (ops s.ops)⟩ : Scr) zz3 o.mx o.my).b), DV.int .i64 ((placedS (⟨s.bits, s.c, s.tw, s.th, ints (is s.ord), toIms (ims s.ims), toOps (ops s.ops)⟩ : Scr) zz3 o.mx o.my).c), DV.int .i64 ((placedS (⟨s.bits, s.c, s.tw, s.th, ints (is s.ord), toIms (ims s.ims), toOps (ops s.ops)⟩ : Scr) zz3 o.mx o.my).d)]; True ∧ True ∧ True ∧ True ∧ True ∧ True ∧ (((o.mask == (0 : Int)) = true → True ∧ True ∧ True ∧ True ∧ (Ans Tryd.prog 31 [RV.agg zz0, RV.agg zz0] (RV.agg zz1)) ∧ True ∧ RV.agg zz1 = RV.agg zz2) ∧ ((o.mask == (0 : Int)) = false → True ∧ True ∧ True ∧ (((decide (o.mask < (0 : Int))) = true → True ∧ True ∧ RV.agg [DV.int .i64 0, DV.int .i64 0, DV.int .i64 0, DV.int .i64 0] = RV.agg zz2) ∧ ((decide (o.mask < (0 : Int))) = false → True ∧ True ∧ True ∧ True ∧ True ∧ True ∧ True ∧ True ∧ (Ans Tryd.prog 29 [RV.agg [DV.int .i64 s.bits, DV.int .i64 s.c.a, DV.int .i64 s.c.b, DV.int .i64 s.c.c, DV.int .i64 s.c.d, DV.int .i64 s.tw, DV.int .i64 s.th, DV.sl s.ord.length (is s.ord), DV.sl s.ims.length (ims s.ims), DV.sl s.ops.length (ops s.ops)], RV.d (DV.int .i64 zz3), RV.d (DV.int .i64 o.mx), RV.d (DV.int .i64 o.my)] (RV.agg zz4)) ∧ True ∧ RV.agg zz4 = RV.agg zz2))))) := by kernel_rfl
theorem bounds_MaskRect_ans (s : Scr) (o : Oq) : Ans Tryd.prog 13 [RV.agg [DV.int .i64 s.bits, DV.int .i64 s.c.a, DV.int .i64 s.c.b, DV.int .i64 s.c.c, DV.int .i64 s.c.d, DV.int .i64 s.tw, DV.int .i64 s.th, DV.sl s.ord.length (is s.ord), DV.sl s.ims.length (ims s.ims), DV.sl s.ops.length (ops s.ops)], RV.agg [DV.int .i64 o.kind, DV.int .i64 o.image, DV.int .i64 o.x, DV.int .i64 o.y, DV.int .i64 o.mask, DV.int .i64 o.mx, DV.int .i64 o.my, DV.int .u16 o.opac, DV.int .i64 o.oper, DV.int .i64 o.mode, DV.bool o.iso, DV.bool o.kno]] (RV.agg [DV.int .i64 ((maskR s o).a), DV.int .i64 ((maskR s o).b), DV.int .i64 ((maskR s o).c), DV.int .i64 ((maskR s o).d)]) :=
  ans_of_vcg (Γ := gamBa) (bounds_MaskRect_ann s o) mixed_ Tryd.func13 rfl (Nat.le_of_ble_eq_true rfl) fun hwf => by
    refine Eq.mpr (bounds_MaskRect_vc s o) ?_
    simp only [true_and, and_true, RV.d.injEq, RV.agg.injEq, RV.tup.injEq, DV.bool.injEq, DV.int.injEq, DV.sl.injEq, List.cons.injEq, forall_const, Bool.not_false, Bool.not_true, Bool.not_eq_true', Bool.not_eq_false', decide_eq_true_eq, decide_eq_false_iff_not, Int.toNat_natCast, operator_find_ans, rect_Intersect_ans, R13_Intersect_ans, operator_Neutral_ans, R06_Neutral_ans, bounds_far_ans]
    (try simp only [scr_eta, scr_eta2, ints_is, toIms_ims, toOps_ops])
    have hsE : (⟨s.bits, s.c, s.tw, s.th, s.ord, s.ims, s.ops⟩ : Scr) = s := rfl
    (try simp only [hsE])
    clear hsE
    refine ⟨fun h => ?_, fun h => ⟨fun h2 => ?_, fun h2 => ?_⟩⟩
    · have h : o.mask = 0 := by simpa using h
      unfold maskR
      rw [if_pos h]
      exact ⟨rect_Intersect_ans _ _ _ _ _ _ _ _, rfl, rfl, rfl, rfl⟩
    · have h : ¬ o.mask = 0 := by simpa using h
      unfold maskR
      rw [if_neg h, if_pos h2]
      exact ⟨rfl, rfl, rfl, rfl⟩
    · have h : ¬ o.mask = 0 := by simpa using h
      unfold maskR
      rw [if_neg h, if_neg h2]
      simp only [RV.wfs, RV.wf, DV.wf, DV.wfs] at hwf
      have hr : -9223372036854775808 ≤ o.mask ∧ o.mask ≤ 9223372036854775807 := hwf.2.1.2.2.2.2.1
      rw [IntWalk.i64_in _ ⟨by omega, by omega⟩]
      exact ⟨bounds_placed_ans s (o.mask - 1) o.mx o.my, rfl, rfl, rfl, rfl⟩

def R22_ImageRect_ann (s : Scr) (o : Oq) : Ann := Ann.leaf
theorem R22_ImageRect_vc (s : Scr) (o : Oq) : vcg Tryd.prog gamBa 17 (bodyOf Tryd.f12) (R22_ImageRect_ann s o) kn0 (start [RV.agg [DV.int .i64 s.bits, DV.int .i64 s.c.a, DV.int .i64 s.c.b, DV.int .i64 s.c.c, DV.int .i64 s.c.d, DV.int .i64 s.tw, DV.int .i64 s.th, DV.sl s.ord.length (is s.ord), DV.sl s.ims.length (ims s.ims), DV.sl s.ops.length (ops s.ops)], RV.agg [DV.int .i64 o.kind, DV.int .i64 o.image, DV.int .i64 o.x, DV.int .i64 o.y, DV.int .i64 o.mask, DV.int .i64 o.mx, DV.int .i64 o.my, DV.int .u16 o.opac, DV.int .i64 o.oper, DV.int .i64 o.mode, DV.bool o.iso, DV.bool o.kno]]) (post Tryd.prog Tryd.f12.results.toList (· = RV.agg [DV.int .i64 ((imgR s o).a), DV.int .i64 ((imgR s o).b), DV.int .i64 ((imgR s o).c), DV.int .i64 ((imgR s o).d)])) =
  (let zz0 := [DV.int .i64 ((imgR s o).a), DV.int .i64 ((imgR s o).b), DV.int .i64 ((imgR s o).c), DV.int .i64 ((imgR s o).d)]; let zz1 := [DV.int .i64 ((placedS (⟨s.bits, s.c, s.tw, s.th, ints (is s.ord), toIms (ims s.ims), toOps (ops s.ops)⟩ : Scr) o.image o.x o.y).a), DV.int .i64 ((placedS (⟨s.bits, s.c, s.tw, s.th, ints (is s.ord), toIms (ims s.ims), toOps (ops s.ops)⟩ : Scr) o.image o.x o.y).b), DV.int .i64 ((placedS (⟨s.bits, s.c, s.tw, s.th, ints (is s.ord), toIms (ims s.ims), toOps (ops s.ops)⟩ : Scr) o.image o.x o.y).c), DV.int .i64 ((placedS (⟨s.bits, s.c, s.tw, s.th, ints (is s.ord), toIms (ims s.ims), toOps (ops s.ops)⟩ : Scr) o.image o.x o.y).d)]; True ∧ True ∧ True ∧ True ∧ True ∧ True ∧ (((o.kind != (1 : Int)) = true → True ∧ True ∧ RV.agg [DV.int .i64 0, DV.int .i64 0, DV.int .i64 0, DV.int .i64 0] = RV.agg zz0) ∧ ((o.kind != (1 : Int)) = false → True ∧ True ∧ True ∧ True ∧ True ∧ True ∧ True ∧ (Ans Tryd.prog 30 [RV.agg [DV.int .i64 s.bits, DV.int .i64 s.c.a, DV.int .i64 s.c.b, DV.int .i64 s.c.c, DV.int .i64 s.c.d, DV.int .i64 s.tw, DV.int .i64 s.th, DV.sl s.ord.length (is s.ord), DV.sl s.ims.length (ims s.ims), DV.sl s.ops.length (ops s.ops)], RV.d (DV.int .i64 o.image), RV.d (DV.int .i64 o.x), RV.d (DV.int .i64 o.y)] (RV.agg zz1)) ∧ True ∧ RV.agg zz1 = RV.agg zz0))) := by kernel_rfl
theorem R22_ImageRect_ans (s : Scr) (o : Oq) : Ans Tryd.prog 12 [RV.agg [DV.int .i64 s.bits, DV.int .i64 s.c.a, DV.int .i64 s.c.b, DV.int .i64 s.c.c, DV.int .i64 s.c.d, DV.int .i64 s.tw, DV.int .i64 s.th, DV.sl s.ord.length (is s.ord), DV.sl s.ims.length (ims s.ims), DV.sl s.ops.length (ops s.ops)], RV.agg [DV.int .i64 o.kind, DV.int .i64 o.image, DV.int .i64 o.x, DV.int .i64 o.y, DV.int .i64 o.mask, DV.int .i64 o.mx, DV.int .i64 o.my, DV.int .u16 o.opac, DV.int .i64 o.oper, DV.int .i64 o.mode, DV.bool o.iso, DV.bool o.kno]] (RV.agg [DV.int .i64 ((imgR s o).a), DV.int .i64 ((imgR s o).b), DV.int .i64 ((imgR s o).c), DV.int .i64 ((imgR s o).d)]) :=
  ans_of_vcg (Γ := gamBa) (R22_ImageRect_ann s o) mixed_ Tryd.func12 rfl (Nat.le_of_ble_eq_true rfl) fun hwf => by
    refine Eq.mpr (R22_ImageRect_vc s o) ?_
    simp only [true_and, and_true, RV.d.injEq, RV.agg.injEq, RV.tup.injEq, DV.bool.injEq, DV.int.injEq, DV.sl.injEq, List.cons.injEq, forall_const, Bool.not_false, Bool.not_true, Bool.not_eq_true', Bool.not_eq_false', decide_eq_true_eq, decide_eq_false_iff_not, Int.toNat_natCast, operator_find_ans, rect_Intersect_ans, R13_Intersect_ans, operator_Neutral_ans, R06_Neutral_ans, bounds_far_ans]
    (try simp only [scr_eta, scr_eta2, ints_is, toIms_ims, toOps_ops])
    have hsE : (⟨s.bits, s.c, s.tw, s.th, s.ord, s.ims, s.ops⟩ : Scr) = s := rfl
    (try simp only [hsE])
    clear hsE
    refine ⟨fun h => ?_, fun h => ?_⟩
    · have h : ¬ o.kind = 1 := by simpa using h
      unfold imgR
      rw [if_neg h]
      exact ⟨rfl, rfl, rfl, rfl⟩
    · have h : o.kind = 1 := by simpa using h
      unfold imgR
      rw [if_pos h]
      exact ⟨R22_placed_ans s o.image o.x o.y, rfl, rfl, rfl, rfl⟩

def R22_MaskRect_ann (s : Scr) (o : Oq) : Ann := Ann.leaf
theorem R22_MaskRect_vc (s : Scr) (o : Oq) : vcg Tryd.prog gamBa 22 (bodyOf Tryd.f14) (R22_MaskRect_ann s o) kn0 (start [RV.agg [DV.int .i64 s.bits, DV.int .i64 s.c.a, DV.int .i64 s.c.b, DV.int .i64 s.c.c, DV.int .i64 s.c.d, DV.int .i64 s.tw, DV.int .i64 s.th, DV.sl s.ord.length (is s.ord), DV.sl s.ims.length (ims s.ims), DV.sl s.ops.length (ops s.ops)], RV.agg [DV.int .i64 o.kind, DV.int .i64 o.image, DV.int .i64 o.x, DV.int .i64 o.y, DV.int .i64 o.mask, DV.int .i64 o.mx, DV.int .i64 o.my, DV.int .u16 o.opac, DV.int .i64 o.oper, DV.int .i64 o.mode, DV.bool o.iso, DV.bool o.kno]]) (post Tryd.prog Tryd.f14.results.toList (· = RV.agg [DV.int .i64 ((maskR s o).a), DV.int .i64 ((maskR s o).b), DV.int .i64 ((maskR s o).c), DV.int .i64 ((maskR s o).d)])) =
  (let zz0 := [DV.int .i64 s.c.a, DV.int .i64 s.c.b, DV.int .i64 s.c.c, DV.int .i64 s.c.d]; let zz1 := [DV.int .i64 ((Rc.inter s.c s.c).a), DV.int .i64 ((Rc.inter s.c s.c).b), DV.int .i64 ((Rc.inter s.c s.c).c), DV.int .i64 ((Rc.inter s.c s.c).d)]; let zz2 := [DV.int .i64 ((maskR s o).a), DV.int .i64 ((maskR s o).b), DV.int .i64 ((maskR s o).c), DV.int .i64 ((maskR s o).d)]; let zz3 := (IntKind.wrap .i64 (o.mask - (1 : Int))); let zz4 := [DV.int .i64 ((placedS (⟨s.bits, s.c, s.tw, s.th, ints (is s.ord), toIms (ims s.ims), toOps (ops s.ops)⟩ : Scr) zz3 o.mx o.my).a), DV.int .i64 ((placedS (⟨s.bits, s.c, s.tw, s.th, ints (is s.ord), toIms (ims s.ims), toOps (ops s.ops)⟩ : Scr) zz3 o.mx o.my).b), DV.int .i64 ((placedS (⟨s.bits, s.c, s.tw, s.th, ints (is s.ord), toIms (ims s.ims), toOps (ops s.ops)⟩ : Scr) zz3 o.mx o.my).c), DV.int .i64 ((placedS (⟨s.bits, s.c, s.tw, s.th, ints (is s.ord), toIms (ims s.ims), toOps (ops s.ops)⟩ : Scr) zz3 o.mx o.my).d)]; True ∧ True ∧ True ∧ True ∧ True ∧ True ∧ (((o.mask == (0 : Int)) = true → True ∧ True ∧ True ∧ True ∧ (Ans Tryd.prog 32 [RV.agg zz0, RV.agg zz0] (RV.agg zz1)) ∧ True ∧ RV.agg zz1 = RV.agg zz2) ∧ ((o.mask == (0 : Int)) = false → True ∧ True ∧ True ∧ True ∧ True ∧ True ∧ True ∧ True ∧ (Ans Tryd.prog 30 [RV.agg [DV.int .i64 s.bits, DV.int .i64 s.c.a, DV.int .i64 s.c.b, DV.int .i64 s.c.c, DV.int .i64 s.c.d, DV.int .i64 s.tw, DV.int .i64 s.th, DV.sl s.ord.length (is s.ord), DV.sl s.ims.length (ims s.ims), DV.sl s.ops.length (ops s.ops)], RV.d (DV.int .i64 zz3), RV.d (DV.int .i64 o.mx), RV.d (DV.int .i64 o.my)] (RV.agg zz4)) ∧ True ∧ RV.agg zz4 = RV.agg zz2))) := by kernel_rfl
theorem R22_MaskRect_ans (s : Scr) (o : Oq) : Ans Tryd.prog 14 [RV.agg [DV.int .i64 s.bits, DV.int .i64 s.c.a, DV.int .i64 s.c.b, DV.int .i64 s.c.c, DV.int .i64 s.c.d, DV.int .i64 s.tw, DV.int .i64 s.th, DV.sl s.ord.length (is s.ord), DV.sl s.ims.length (ims s.ims), DV.sl s.ops.length (ops s.ops)], RV.agg [DV.int .i64 o.kind, DV.int .i64 o.image, DV.int .i64 o.x, DV.int .i64 o.y, DV.int .i64 o.mask, DV.int .i64 o.mx, DV.int .i64 o.my, DV.int .u16 o.opac, DV.int .i64 o.oper, DV.int .i64 o.mode, DV.bool o.iso, DV.bool o.kno]] (RV.agg [DV.int .i64 ((maskR s o).a), DV.int .i64 ((maskR s o).b), DV.int .i64 ((maskR s o).c), DV.int .i64 ((maskR s o).d)]) :=
  ans_of_vcg (Γ := gamBa) (R22_MaskRect_ann s o) mixed_ Tryd.func14 rfl (Nat.le_of_ble_eq_true rfl) fun hwf => by
    refine Eq.mpr (R22_MaskRect_vc s o) ?_
    simp only [true_and, and_true, RV.d.injEq, RV.agg.injEq, RV.tup.injEq, DV.bool.injEq, DV.int.injEq, DV.sl.injEq, List.cons.injEq, forall_const, Bool.not_false, Bool.not_true, Bool.not_eq_true', Bool.not_eq_false', decide_eq_true_eq, decide_eq_false_iff_not, Int.toNat_natCast, operator_find_ans, rect_Intersect_ans, R13_Intersect_ans, operator_Neutral_ans, R06_Neutral_ans, bounds_far_ans]
    (try simp only [scr_eta, scr_eta2, ints_is, toIms_ims, toOps_ops])
    have hsE : (⟨s.bits, s.c, s.tw, s.th, s.ord, s.ims, s.ops⟩ : Scr) = s := rfl
    (try simp only [hsE])
    clear hsE
    refine ⟨fun h => ?_, fun h => ?_⟩
    · have h : o.mask = 0 := by simpa using h
      unfold maskR
      rw [if_pos h]
      exact ⟨R13_Intersect_ans _ _ _ _ _ _ _ _, rfl, rfl, rfl, rfl⟩
    · have h : ¬ o.mask = 0 := by simpa using h
      simp only [RV.wfs, RV.wf, DV.wf, DV.wfs] at hwf
      have hr : -9223372036854775808 ≤ o.mask ∧ o.mask ≤ 9223372036854775807 := hwf.2.1.2.2.2.2.1
      have hl : s.ims.length ≤ maxLen := hwf.1.2.2.2.2.2.2.2.2.1.1
      have e : placedS s (IntKind.wrap .i64 (o.mask - 1)) o.mx o.my = maskR s o := by
        unfold maskR
        rw [if_neg h]
        split
        · refine placedS_out _ _ ?_
          unfold maxLen at hl
          by_cases q : o.mask = -9223372036854775808
          · rw [q]
            exact .inr (show (s.ims.length : Int) ≤ 9223372036854775807 by omega)
          · rw [IntWalk.i64_in _ ⟨by omega, by omega⟩]
            exact .inl (by omega)
        · rw [IntWalk.i64_in _ ⟨by omega, by omega⟩]
      rw [← e]
      exact ⟨R22_placed_ans s _ o.mx o.my, rfl, rfl, rfl, rfl⟩

def bounds_box_ann (s : Scr) (o : Oq) (r : Rc) : Ann := Ann.leaf
theorem bounds_box_vc (s : Scr) (o : Oq) (r : Rc) : vcg Tryd.prog gamBa 24 (bodyOf Tryd.f34) (bounds_box_ann s o r) kn0 (start [RV.agg [DV.int .i64 s.bits, DV.int .i64 s.c.a, DV.int .i64 s.c.b, DV.int .i64 s.c.c, DV.int .i64 s.c.d, DV.int .i64 s.tw, DV.int .i64 s.th, DV.sl s.ord.length (is s.ord), DV.sl s.ims.length (ims s.ims), DV.sl s.ops.length (ops s.ops)], RV.agg [DV.int .i64 o.kind, DV.int .i64 o.image, DV.int .i64 o.x, DV.int .i64 o.y, DV.int .i64 o.mask, DV.int .i64 o.mx, DV.int .i64 o.my, DV.int .u16 o.opac, DV.int .i64 o.oper, DV.int .i64 o.mode, DV.bool o.iso, DV.bool o.kno], RV.agg [DV.int .i64 r.a, DV.int .i64 r.b, DV.int .i64 r.c, DV.int .i64 r.d]]) (post Tryd.prog Tryd.f34.results.toList (· = RV.agg [DV.int .i64 ((boxF s o r).a), DV.int .i64 ((boxF s o r).b), DV.int .i64 ((boxF s o r).c), DV.int .i64 ((boxF s o r).d)])) =
  (let zz0 := [DV.int .i64 ((boxF s o r).a), DV.int .i64 ((boxF s o r).b), DV.int .i64 ((boxF s o r).c), DV.int .i64 ((boxF s o r).d)]; let zz1 := [DV.int .i64 ((maskR (⟨s.bits, s.c, s.tw, s.th, ints (is s.ord), toIms (ims s.ims), toOps (ops s.ops)⟩ : Scr) o).a), DV.int .i64 ((maskR (⟨s.bits, s.c, s.tw, s.th, ints (is s.ord), toIms (ims s.ims), toOps (ops s.ops)⟩ : Scr) o).b), DV.int .i64 ((maskR (⟨s.bits, s.c, s.tw, s.th, ints (is s.ord), toIms (ims s.ims), toOps (ops s.ops)⟩ : Scr) o).c), DV.int .i64 ((maskR (⟨s.bits, s.c, s.tw, s.th, ints (is s.ord), toIms (ims s.ims), toOps (ops s.ops)⟩ : Scr) o).d)]; let zz2 := [DV.int .i64 ((Rc.inter r (maskR (⟨s.bits, s.c, s.tw, s.th, ints (is s.ord), toIms (ims s.ims), toOps (ops s.ops)⟩ : Scr) o)).a), DV.int .i64 ((Rc.inter r (maskR (⟨s.bits, s.c, s.tw, s.th, ints (is s.ord), toIms (ims s.ims), toOps (ops s.ops)⟩ : Scr) o)).b), DV.int .i64 ((Rc.inter r (maskR (⟨s.bits, s.c, s.tw, s.th, ints (is s.ord), toIms (ims s.ims), toOps (ops s.ops)⟩ : Scr) o)).c), DV.int .i64 ((Rc.inter r (maskR (⟨s.bits, s.c, s.tw, s.th, ints (is s.ord), toIms (ims s.ims), toOps (ops s.ops)⟩ : Scr) o)).d)]; True ∧ True ∧ True ∧ True ∧ True ∧ True ∧ (Ans Tryd.prog 50 [RV.d (DV.int .i64 o.oper)] (RV.d (DV.bool (neutralB o.oper)))) ∧ True ∧ True ∧ (((!(neutralB o.oper)) = true → True ∧ True ∧ True ∧ RV.agg [DV.int .i64 s.c.a, DV.int .i64 s.c.b, DV.int .i64 s.c.c, DV.int .i64 s.c.d] = RV.agg zz0) ∧ ((!(neutralB o.oper)) = false → True ∧ True ∧ True ∧ True ∧ (((o.opac == (0 : Int)) = true → True ∧ True ∧ RV.agg [DV.int .i64 0, DV.int .i64 0, DV.int .i64 0, DV.int .i64 0] = RV.agg zz0) ∧ ((o.opac == (0 : Int)) = false → True ∧ True ∧ True ∧ (Ans Tryd.prog 13 [RV.agg [DV.int .i64 s.bits, DV.int .i64 s.c.a, DV.int .i64 s.c.b, DV.int .i64 s.c.c, DV.int .i64 s.c.d, DV.int .i64 s.tw, DV.int .i64 s.th, DV.sl s.ord.length (is s.ord), DV.sl s.ims.length (ims s.ims), DV.sl s.ops.length (ops s.ops)], RV.agg (Oq.cells (o))] (RV.agg zz1)) ∧ (Ans Tryd.prog 31 [RV.agg [DV.int .i64 r.a, DV.int .i64 r.b, DV.int .i64 r.c, DV.int .i64 r.d], RV.agg zz1] (RV.agg zz2)) ∧ True ∧ (true = true) ∧ RV.agg zz2 = RV.agg zz0))))) := by kernel_rfl
theorem bounds_box_ans (s : Scr) (o : Oq) (r : Rc) : Ans Tryd.prog 34 [RV.agg [DV.int .i64 s.bits, DV.int .i64 s.c.a, DV.int .i64 s.c.b, DV.int .i64 s.c.c, DV.int .i64 s.c.d, DV.int .i64 s.tw, DV.int .i64 s.th, DV.sl s.ord.length (is s.ord), DV.sl s.ims.length (ims s.ims), DV.sl s.ops.length (ops s.ops)], RV.agg [DV.int .i64 o.kind, DV.int .i64 o.image, DV.int .i64 o.x, DV.int .i64 o.y, DV.int .i64 o.mask, DV.int .i64 o.mx, DV.int .i64 o.my, DV.int .u16 o.opac, DV.int .i64 o.oper, DV.int .i64 o.mode, DV.bool o.iso, DV.bool o.kno], RV.agg [DV.int .i64 r.a, DV.int .i64 r.b, DV.int .i64 r.c, DV.int .i64 r.d]] (RV.agg [DV.int .i64 ((boxF s o r).a), DV.int .i64 ((boxF s o r).b), DV.int .i64 ((boxF s o r).c), DV.int .i64 ((boxF s o r).d)]) :=
  ans_of_vcg (Γ := gamBa) (bounds_box_ann s o r) mixed_ Tryd.func34 rfl (Nat.le_of_ble_eq_true rfl) fun hwf => by
    refine Eq.mpr (bounds_box_vc s o r) ?_
    simp only [true_and, and_true, RV.d.injEq, RV.agg.injEq, RV.tup.injEq, DV.bool.injEq, DV.int.injEq, DV.sl.injEq, List.cons.injEq, forall_const, Bool.not_false, Bool.not_true, Bool.not_eq_true', Bool.not_eq_false', decide_eq_true_eq, decide_eq_false_iff_not, Int.toNat_natCast, operator_find_ans, rect_Intersect_ans, R13_Intersect_ans, operator_Neutral_ans, R06_Neutral_ans, bounds_far_ans]
    (try simp only [scr_eta, scr_eta2, ints_is, toIms_ims, toOps_ops])
    have hsE : (⟨s.bits, s.c, s.tw, s.th, s.ord, s.ims, s.ops⟩ : Scr) = s := rfl
    (try simp only [hsE])
    clear hsE
    refine ⟨fun h => ?_, fun h => ⟨fun h2 => ?_, fun h2 => ?_⟩⟩
    · unfold boxF
      rw [if_pos h]
      exact ⟨rfl, rfl, rfl, rfl⟩
    · have h2 : o.opac = 0 := by simpa using h2
      unfold boxF
      rw [if_neg (by rw [h]; decide), if_pos h2]
      exact ⟨rfl, rfl, rfl, rfl⟩
    · have h2 : ¬ o.opac = 0 := by simpa using h2
      unfold boxF
      rw [if_neg (by rw [h]; decide), if_neg h2]
      exact ⟨bounds_MaskRect_ans s o, rect_Intersect_ans _ _ _ _ _ _ _ _, rfl, rfl, rfl, rfl⟩

end Go.Proofs.YtcaokljobfkajaaDoor

/-
  Rows of images and operations: writing an element, or a field of one.
-/
namespace Go.Proofs.YtcaokljobfkajaaDoor
open Go.RowKit
set_option linter.unusedVariables false
set_option linter.unusedSimpArgs false

section
variable {α : Type} {f : α → List DV} {m : Nat}
theorem flat_len (hf : ∀ a, (f a).length = m) (l : List α) : (l.flatMap f).length = l.length * m := by
  induction l with
  | nil => simp
  | cons a l ih => rw [List.flatMap_cons, List.length_append, hf, ih, List.length_cons, Nat.add_mul]; omega
theorem flat_take (hf : ∀ a, (f a).length = m) : ∀ (l : List α) (k : Nat), (l.flatMap f).take (k * m) = (l.take k).flatMap f
  | [], k => by simp
  | a :: l, 0 => by simp
  | a :: l, k + 1 => by
    rw [List.flatMap_cons, List.take_succ_cons, List.flatMap_cons, List.take_append, hf, List.take_of_length_le (by rw [hf, Nat.add_mul]; omega), show (k + 1) * m - m = k * m by rw [Nat.add_mul]; omega, flat_take hf l k]
theorem flat_drop (hf : ∀ a, (f a).length = m) : ∀ (l : List α) (k : Nat), (l.flatMap f).drop (k * m) = (l.drop k).flatMap f
  | [], k => by simp
  | a :: l, 0 => by simp
  | a :: l, k + 1 => by
    rw [List.flatMap_cons, List.drop_succ_cons, List.drop_append, hf, List.drop_of_length_le (by rw [hf, Nat.add_mul]; omega), show (k + 1) * m - m = k * m by rw [Nat.add_mul]; omega, flat_drop hf l k, List.nil_append]
theorem flat_sets (hf : ∀ a, (f a).length = m) {l : List α} {k : Nat} (h : k < l.length) (a : α) : sets (l.flatMap f) (k * m) (f a) = (l.set k a).flatMap f := by
  have hle : (k + 1) * m ≤ l.length * m := Nat.mul_le_mul_right _ (by omega)
  rw [sets_eq _ _ _ (by rw [flat_len hf, hf]; rw [Nat.add_mul] at hle; omega), hf, flat_take hf, show k * m + m = (k + 1) * m by rw [Nat.add_mul]; omega, flat_drop hf, List.set_eq_take_append_cons_drop, if_pos h]
  simp
end
/-! ### images with longer rows -/
end Go.Proofs.YtcaokljobfkajaaDoor

