/-
  Part 5 of what ValidateSeesUnusedImages rests on.
-/
import Derived.Test.YthlmmlcdoiahkaaDoorValidateSeesUnusedImagesZ4
import Derived.Test.YthlmmlcdoiahkaaDoorValidateSeesUnusedImagesZ3
import Derived.Test.YthlmmlcdoiahkaaDoorValidateSeesUnusedImagesZ2
import Derived.Test.YthlmmlcdoiahkaaDoorRows
import Derived.JoinedOf
import Derived.KernelRfl
import Derived.Test.YthlmmlcdoiahkaaDoorValidateSeesUnusedImagesZ1
import Derived.MakeChecks
import Derived.LaidHandle
import Derived.LaidMore
import Derived.Stop.Joined
/-
  The generator's script.
-/
namespace Go.Proofs.YthlmmlcdoiahkaaDoor
open Go.RowKit
set_option linter.unusedVariables false
set_option linter.unusedSimpArgs false
attribute [local irreducible] Ans AnsO AnsG AnsN AnsI

set_option maxRecDepth 4000
def gamSc : Gam where
 pure := fun f xs =>
  if f = 20 then (match xs with | [.d (.int _ n), .d (.int _ k)] => some (RV.d (DV.int .i64 (modS n k))) | _ => none) else
  if f = 23 then (match xs with | [.d (.int _ n)] => some (RV.d (DV.int .u16 (gMax n))) | _ => none) else
  if f = 26 then (match xs with | [.agg [.int _ pw, .int _ ph, .int _ so, .int _ mood, .sl L xs], .agg [.int _ x0, .int _ y0, .int _ x1, .int _ y1], .d (.int _ most)] => some (RV.agg [DV.int .i64 ((gImage pw ph so mood L xs x0 y0 x1 y1 most).w), DV.int .i64 ((gImage pw ph so mood L xs x0 y0 x1 y1 most).h), DV.bool ((gImage pw ph so mood L xs x0 y0 x1 y1 most).so), DV.int .u16 (((gImage pw ph so mood L xs x0 y0 x1 y1 most).c).a), DV.int .u16 (((gImage pw ph so mood L xs x0 y0 x1 y1 most).c).b), DV.int .u16 (((gImage pw ph so mood L xs x0 y0 x1 y1 most).c).c), DV.int .u16 (((gImage pw ph so mood L xs x0 y0 x1 y1 most).c).al), DV.int .u16 (((gImage pw ph so mood L xs x0 y0 x1 y1 most).c).f), DV.int .i64 (((gImage pw ph so mood L xs x0 y0 x1 y1 most).p0).w), DV.int .i64 (((gImage pw ph so mood L xs x0 y0 x1 y1 most).p0).h), DV.int .i64 (((gImage pw ph so mood L xs x0 y0 x1 y1 most).p0).s), DV.sl (((gImage pw ph so mood L xs x0 y0 x1 y1 most).p0).n) (((gImage pw ph so mood L xs x0 y0 x1 y1 most).p0).xs), DV.int .i64 (((gImage pw ph so mood L xs x0 y0 x1 y1 most).p1).w), DV.int .i64 (((gImage pw ph so mood L xs x0 y0 x1 y1 most).p1).h), DV.int .i64 (((gImage pw ph so mood L xs x0 y0 x1 y1 most).p1).s), DV.sl (((gImage pw ph so mood L xs x0 y0 x1 y1 most).p1).n) (((gImage pw ph so mood L xs x0 y0 x1 y1 most).p1).xs), DV.int .i64 (((gImage pw ph so mood L xs x0 y0 x1 y1 most).p2).w), DV.int .i64 (((gImage pw ph so mood L xs x0 y0 x1 y1 most).p2).h), DV.int .i64 (((gImage pw ph so mood L xs x0 y0 x1 y1 most).p2).s), DV.sl (((gImage pw ph so mood L xs x0 y0 x1 y1 most).p2).n) (((gImage pw ph so mood L xs x0 y0 x1 y1 most).p2).xs), DV.int .i64 (((gImage pw ph so mood L xs x0 y0 x1 y1 most).p3).w), DV.int .i64 (((gImage pw ph so mood L xs x0 y0 x1 y1 most).p3).h), DV.int .i64 (((gImage pw ph so mood L xs x0 y0 x1 y1 most).p3).s), DV.sl (((gImage pw ph so mood L xs x0 y0 x1 y1 most).p3).n) (((gImage pw ph so mood L xs x0 y0 x1 y1 most).p3).xs), DV.int .i64 (((gImage pw ph so mood L xs x0 y0 x1 y1 most).p4).w), DV.int .i64 (((gImage pw ph so mood L xs x0 y0 x1 y1 most).p4).h), DV.int .i64 (((gImage pw ph so mood L xs x0 y0 x1 y1 most).p4).s), DV.sl (((gImage pw ph so mood L xs x0 y0 x1 y1 most).p4).n) (((gImage pw ph so mood L xs x0 y0 x1 y1 most).p4).xs)]) | _ => none) else
  if f = 28 then (match xs with | [.agg [.int _ vk, .int _ vim, .int _ vx, .int _ vy, .int _ vma, .int _ vmx, .int _ vmy, .int _ vop, .int _ vope, .int _ vmo, .int _ vfl], .d (.bool push), .d (.int _ imgs), .agg [.int _ ca, .int _ cb, .int _ cc, .int _ cd], .d (.bool free), .d (.int _ most)] => some (RV.agg [DV.int .i64 ((gOp ⟨vk, vim, vx, vy, vma, vmx, vmy, vop, vope, vmo, vfl⟩ push imgs ⟨ca, cb, cc, cd⟩ free most).kind), DV.int .i64 ((gOp ⟨vk, vim, vx, vy, vma, vmx, vmy, vop, vope, vmo, vfl⟩ push imgs ⟨ca, cb, cc, cd⟩ free most).image), DV.int .i64 ((gOp ⟨vk, vim, vx, vy, vma, vmx, vmy, vop, vope, vmo, vfl⟩ push imgs ⟨ca, cb, cc, cd⟩ free most).x), DV.int .i64 ((gOp ⟨vk, vim, vx, vy, vma, vmx, vmy, vop, vope, vmo, vfl⟩ push imgs ⟨ca, cb, cc, cd⟩ free most).y), DV.int .i64 ((gOp ⟨vk, vim, vx, vy, vma, vmx, vmy, vop, vope, vmo, vfl⟩ push imgs ⟨ca, cb, cc, cd⟩ free most).mask), DV.int .i64 ((gOp ⟨vk, vim, vx, vy, vma, vmx, vmy, vop, vope, vmo, vfl⟩ push imgs ⟨ca, cb, cc, cd⟩ free most).mx), DV.int .i64 ((gOp ⟨vk, vim, vx, vy, vma, vmx, vmy, vop, vope, vmo, vfl⟩ push imgs ⟨ca, cb, cc, cd⟩ free most).my), DV.int .u16 ((gOp ⟨vk, vim, vx, vy, vma, vmx, vmy, vop, vope, vmo, vfl⟩ push imgs ⟨ca, cb, cc, cd⟩ free most).opac), DV.int .i64 ((gOp ⟨vk, vim, vx, vy, vma, vmx, vmy, vop, vope, vmo, vfl⟩ push imgs ⟨ca, cb, cc, cd⟩ free most).oper), DV.int .i64 ((gOp ⟨vk, vim, vx, vy, vma, vmx, vmy, vop, vope, vmo, vfl⟩ push imgs ⟨ca, cb, cc, cd⟩ free most).mode), DV.bool ((gOp ⟨vk, vim, vx, vy, vma, vmx, vmy, vop, vope, vmo, vfl⟩ push imgs ⟨ca, cb, cc, cd⟩ free most).iso), DV.bool ((gOp ⟨vk, vim, vx, vy, vma, vmx, vmy, vop, vope, vmo, vfl⟩ push imgs ⟨ca, cb, cc, cd⟩ free most).kno)]) | _ => none) else
  if f = 25 then (match xs with | [] => some (RV.tup [RV.tup [RV.d (DV.int .i64 3), RV.d (DV.int .i64 1)]]) | [.d (.sl n xs), .d (.int _ m)] => some (RV.d (DV.sl ((permL (ints xs) m).length) (is (permL (ints xs) m)))) | _ => none) else
  if f = 24 then (match xs with | [.agg [.int _ a, .int _ b, .int _ c, .int _ d], .d (.int _ w), .d (.int _ h)] => some (RV.tup [RV.d (DV.int .i64 ((cntS ⟨a, b, c, d⟩ w h).1)), RV.d (DV.int .i64 ((cntS ⟨a, b, c, d⟩ w h).2.1)), RV.d (DV.bool ((cntS ⟨a, b, c, d⟩ w h).2.2))]) | _ => none) else
  if f = 27 then (match xs with | [.d (.int _ w), .d (.int _ h), .agg [.int _ c0, .int _ c1, .int _ c2, .int _ ca, .int _ cf]] => some (RV.agg [DV.int .i64 ((solidIm w h ⟨c0, c1, c2, ca, cf⟩).w), DV.int .i64 ((solidIm w h ⟨c0, c1, c2, ca, cf⟩).h), DV.bool ((solidIm w h ⟨c0, c1, c2, ca, cf⟩).so), DV.int .u16 (((solidIm w h ⟨c0, c1, c2, ca, cf⟩).c).a), DV.int .u16 (((solidIm w h ⟨c0, c1, c2, ca, cf⟩).c).b), DV.int .u16 (((solidIm w h ⟨c0, c1, c2, ca, cf⟩).c).c), DV.int .u16 (((solidIm w h ⟨c0, c1, c2, ca, cf⟩).c).al), DV.int .u16 (((solidIm w h ⟨c0, c1, c2, ca, cf⟩).c).f), DV.int .i64 (((solidIm w h ⟨c0, c1, c2, ca, cf⟩).p0).w), DV.int .i64 (((solidIm w h ⟨c0, c1, c2, ca, cf⟩).p0).h), DV.int .i64 (((solidIm w h ⟨c0, c1, c2, ca, cf⟩).p0).s), DV.sl (((solidIm w h ⟨c0, c1, c2, ca, cf⟩).p0).n) (((solidIm w h ⟨c0, c1, c2, ca, cf⟩).p0).xs), DV.int .i64 (((solidIm w h ⟨c0, c1, c2, ca, cf⟩).p1).w), DV.int .i64 (((solidIm w h ⟨c0, c1, c2, ca, cf⟩).p1).h), DV.int .i64 (((solidIm w h ⟨c0, c1, c2, ca, cf⟩).p1).s), DV.sl (((solidIm w h ⟨c0, c1, c2, ca, cf⟩).p1).n) (((solidIm w h ⟨c0, c1, c2, ca, cf⟩).p1).xs), DV.int .i64 (((solidIm w h ⟨c0, c1, c2, ca, cf⟩).p2).w), DV.int .i64 (((solidIm w h ⟨c0, c1, c2, ca, cf⟩).p2).h), DV.int .i64 (((solidIm w h ⟨c0, c1, c2, ca, cf⟩).p2).s), DV.sl (((solidIm w h ⟨c0, c1, c2, ca, cf⟩).p2).n) (((solidIm w h ⟨c0, c1, c2, ca, cf⟩).p2).xs), DV.int .i64 (((solidIm w h ⟨c0, c1, c2, ca, cf⟩).p3).w), DV.int .i64 (((solidIm w h ⟨c0, c1, c2, ca, cf⟩).p3).h), DV.int .i64 (((solidIm w h ⟨c0, c1, c2, ca, cf⟩).p3).s), DV.sl (((solidIm w h ⟨c0, c1, c2, ca, cf⟩).p3).n) (((solidIm w h ⟨c0, c1, c2, ca, cf⟩).p3).xs), DV.int .i64 (((solidIm w h ⟨c0, c1, c2, ca, cf⟩).p4).w), DV.int .i64 (((solidIm w h ⟨c0, c1, c2, ca, cf⟩).p4).h), DV.int .i64 (((solidIm w h ⟨c0, c1, c2, ca, cf⟩).p4).s), DV.sl (((solidIm w h ⟨c0, c1, c2, ca, cf⟩).p4).n) (((solidIm w h ⟨c0, c1, c2, ca, cf⟩).p4).xs)]) | _ => none) else
  none
 modes := fun f =>
  none
 proc := fun f xs bs =>
  none
 iter := fun f cs =>
  none

def G_Script_ann (s : Scn) : Ann := let zz0 := (3, AV.one (Cl.d (DV.int .u16 s.most))); let zz1 := [(1, AV.one (Cl.ptr 1 0)), (2, AV.one (Cl.ptr 2 0)), zz0, (4, AV.one (Cl.ptr 4 0))]; let zz2 := (1, Bx.cells [Cl.d (DV.int .i64 s.b), Cl.d (DV.int .i64 s.x), Cl.d (DV.int .i64 s.y), Cl.d (DV.int .i64 s.w), Cl.d (DV.int .i64 s.h), Cl.d (DV.int .i64 s.tw), Cl.d (DV.int .i64 s.th), Cl.d (DV.sl s.on s.oxs), Cl.d (DV.sl s.pn s.pxs), Cl.d (DV.sl s.rn s.rxs)]); let zz3 := (2, Bx.cells [Cl.d (DV.int .i64 0), Cl.d (DV.int .i64 0), Cl.d (DV.int .i64 0), Cl.d (DV.int .i64 0), Cl.d (DV.int .i64 0), Cl.d (DV.int .i64 0), Cl.d (DV.int .i64 0), Cl.nil, Cl.nil, Cl.nil]); let zz4 := [zz2, zz3, (4, Bx.cells [Cl.d (DV.int .i64 s.bits), Cl.d (DV.int .i64 0), Cl.d (DV.int .i64 0), Cl.d (DV.int .i64 0), Cl.d (DV.int .i64 0), Cl.d (DV.int .i64 0), Cl.d (DV.int .i64 0), Cl.nil, Cl.nil, Cl.nil])]; let zz5 := (7, AV.one (Cl.d (DV.int .i64 s.gw))); let zz6 := (8, AV.one (Cl.d (DV.int .i64 s.gh))); let zz7 := [(1, AV.one (Cl.ptr 1 0)), (2, AV.one (Cl.ptr 2 0)), zz0, (4, AV.one (Cl.ptr 4 0)), zz5, zz6]; let zz8 := (7000, Bx.row 3 1 (is s.ord)); let zz9 := (5000, Bx.row 43 28 (ims s.ims)); let zz10 := (13, AV.one (Cl.ref 5002 ((s.run (min s.rn 9)).2.length))); let zz11 := (5002, Bx.row 54 12 (ops (s.run (min s.rn 9)).2)); let zz12 := fun (k : Nat) => (13, AV.one (Cl.ref 5002 ((s.run k).2.length))); let zz13 := fun (k : Nat) => (14, AV.one (Cl.d (DV.int .i64 ((k : Nat) : Int)))); let zz14 := fun (k : Nat) => (4, Bx.cells [Cl.d (DV.int .i64 s.bits), Cl.d (DV.int .i64 s.c.a), Cl.d (DV.int .i64 s.c.b), Cl.d (DV.int .i64 s.c.c), Cl.d (DV.int .i64 s.c.d), Cl.d (DV.int .i64 s.gtw), Cl.d (DV.int .i64 s.gth), Cl.ref 7000 s.ord.length, Cl.ref 5000 s.ims.length, Cl.ref 5001 ((s.run k).1.length)]); let zz15 := fun (k : Nat) => (5002, Bx.row 54 12 (ops (s.run k).2)); let zz16 := fun (k : Nat) => (5001, Bx.row 54 12 (ops (s.run k).1)); let zz17 := fun (k : Nat) => [zz2, zz3, (zz14 k), (zz15 k), zz8, zz9, (zz16 k)]; let zz18 := fun (k : Nat) => (15, AV.one (Cl.d (DV.int .i64 (modS (nAt s.rxs (((k : Nat) : Int).toNat * 11 + 0)) (8 : Int))))); (Ann.seq Ann.leaf (Ann.seq Ann.leaf (Ann.seq Ann.leaf (Ann.cut ⟨Unit, fun u1 : Unit => True, fun u1 : Unit => ⟨zz1, zz4⟩, fun u1 : Unit => 0⟩ Ann.leaf fun u1 => (Ann.seq Ann.leaf (Ann.cut ⟨Unit, fun u2 : Unit => True, fun u2 : Unit => ⟨[(1, AV.one (Cl.ptr 1 0)), (2, AV.one (Cl.ptr 2 0)), zz0, (4, AV.one (Cl.ptr 4 0)), (5, AV.one (Cl.d (DV.int .i64 s.c.a))), (6, AV.one (Cl.d (DV.int .i64 s.c.b))), zz5, zz6], zz4⟩, fun u2 : Unit => 0⟩ Ann.leaf fun u2 => (Ann.seq Ann.leaf (Ann.cut ⟨Unit, fun u3 : Unit => True, fun u3 : Unit => ⟨zz7, [zz2, zz3, (4, Bx.cells [Cl.d (DV.int .i64 s.bits), Cl.d (DV.int .i64 s.c.a), Cl.d (DV.int .i64 s.c.b), Cl.d (DV.int .i64 s.c.c), Cl.d (DV.int .i64 s.c.d), Cl.d (DV.int .i64 s.gtw), Cl.d (DV.int .i64 s.gth), Cl.nil, Cl.nil, Cl.nil])]⟩, fun u3 : Unit => 0⟩ Ann.leaf fun u3 => (Ann.seq Ann.leaf (Ann.cut ⟨Unit, fun u4 : Unit => True, fun u4 : Unit => ⟨zz7, [zz2, zz3, (4, Bx.cells [Cl.d (DV.int .i64 s.bits), Cl.d (DV.int .i64 s.c.a), Cl.d (DV.int .i64 s.c.b), Cl.d (DV.int .i64 s.c.c), Cl.d (DV.int .i64 s.c.d), Cl.d (DV.int .i64 s.gtw), Cl.d (DV.int .i64 s.gth), Cl.ref 7000 s.ord.length, Cl.nil, Cl.nil]), zz8]⟩, fun u4 : Unit => 0⟩ Ann.leaf fun u4 => (Ann.cut ⟨Unit, fun u6 : Unit => True, fun u6 : Unit => ⟨zz7, [zz2, zz3, (4, Bx.cells [Cl.d (DV.int .i64 s.bits), Cl.d (DV.int .i64 s.c.a), Cl.d (DV.int .i64 s.c.b), Cl.d (DV.int .i64 s.c.c), Cl.d (DV.int .i64 s.c.d), Cl.d (DV.int .i64 s.gtw), Cl.d (DV.int .i64 s.gth), Cl.ref 7000 s.ord.length, Cl.ref 5000 ((s.pics (min s.pn 4)).length), Cl.nil]), zz8, (5000, Bx.row 43 28 (ims (s.pics (min s.pn 4))))]⟩, fun u6 : Unit => 0⟩ (Ann.seq Ann.leaf (Ann.loop ⟨Nat, fun p => p ≤ min s.pn 4, fun p => ⟨[(1, AV.one (Cl.ptr 1 0)), (2, AV.one (Cl.ptr 2 0)), zz0, (4, AV.one (Cl.ptr 4 0)), zz5, zz6, (12, AV.one (Cl.d (DV.int .i64 ((p : Nat) : Int))))], [zz2, zz3, (4, Bx.cells [Cl.d (DV.int .i64 s.bits), Cl.d (DV.int .i64 s.c.a), Cl.d (DV.int .i64 s.c.b), Cl.d (DV.int .i64 s.c.c), Cl.d (DV.int .i64 s.c.d), Cl.d (DV.int .i64 s.gtw), Cl.d (DV.int .i64 s.gth), Cl.ref 7000 s.ord.length, Cl.ref 5000 p, Cl.nil]), zz8, (5000, Bx.row 43 28 (ims (s.pics p)))]⟩, fun p => min s.pn 4 - p⟩ fun p => Ann.leaf)) fun u6 => (Ann.cut ⟨Unit, fun u5 : Unit => True, fun u5 : Unit => ⟨zz1, [zz2, zz3, (4, Bx.cells [Cl.d (DV.int .i64 s.bits), Cl.d (DV.int .i64 s.c.a), Cl.d (DV.int .i64 s.c.b), Cl.d (DV.int .i64 s.c.c), Cl.d (DV.int .i64 s.c.d), Cl.d (DV.int .i64 s.gtw), Cl.d (DV.int .i64 s.gth), Cl.ref 7000 s.ord.length, Cl.ref 5000 s.ims.length, Cl.nil]), zz8, zz9]⟩, fun u5 : Unit => 0⟩ Ann.leaf fun u5 => (Ann.seq Ann.leaf (Ann.cut ⟨Unit, fun u7 : Unit => True, fun u7 : Unit => ⟨[(2, AV.one (Cl.ptr 2 0)), (4, AV.one (Cl.ptr 4 0)), zz10], [zz3, (4, Bx.cells [Cl.d (DV.int .i64 s.bits), Cl.d (DV.int .i64 s.c.a), Cl.d (DV.int .i64 s.c.b), Cl.d (DV.int .i64 s.c.c), Cl.d (DV.int .i64 s.c.d), Cl.d (DV.int .i64 s.gtw), Cl.d (DV.int .i64 s.gth), Cl.ref 7000 s.ord.length, Cl.ref 5000 s.ims.length, Cl.ref 5001 ((s.run (min s.rn 9)).1.length)]), zz11, zz8, zz9, (5001, Bx.row 54 12 (ops (s.run (min s.rn 9)).1))]⟩, fun u7 : Unit => 0⟩ (Ann.seq Ann.leaf (Ann.loop ⟨Nat, fun k => k ≤ min s.rn 9, fun k => ⟨[(1, AV.one (Cl.ptr 1 0)), (2, AV.one (Cl.ptr 2 0)), zz0, (4, AV.one (Cl.ptr 4 0)), (zz12 k), (zz13 k)], (zz17 k)⟩, fun k => min s.rn 9 - k⟩ fun k => (Ann.seq Ann.leaf (Ann.seq (Ann.seq Ann.leaf (Ann.seq Ann.leaf (Ann.cut ⟨Unit, fun u8 : Unit => ¬ (modS (rwAt s.rxs (k * 11)).k 8 = 0 ∧ 0 < (s.run k).2.length), fun u8 : Unit => ⟨[(1, AV.one (Cl.ptr 1 0)), (2, AV.one (Cl.ptr 2 0)), zz0, (4, AV.one (Cl.ptr 4 0)), (zz12 k), (zz13 k), (zz18 k), (16, AV.one (Cl.d (DV.int .i64 (((s.run k).2.length : Nat) : Int))))], (zz17 k)⟩, fun u8 : Unit => 0⟩ Ann.leaf fun u8 => (Ann.cut ⟨Bool, fun fr : Bool => fr = ctxB (s.run k).2, fun fr : Bool => ⟨[(1, AV.one (Cl.ptr 1 0)), (2, AV.one (Cl.ptr 2 0)), zz0, (4, AV.one (Cl.ptr 4 0)), (zz12 k), (zz13 k), (zz18 k), (17, AV.one (Cl.d (DV.bool fr)))], (zz17 k)⟩, fun fr : Bool => 0⟩ Ann.leaf fun fr => (Ann.cut ⟨Oq, fun o : Oq => o = gOp (rwAt s.rxs (k * 11)) (decide (modS (rwAt s.rxs (k * 11)).k 8 < 3)) s.ims.length s.c (ctxB (s.run k).2) s.most, fun o : Oq => ⟨[(1, AV.one (Cl.ptr 1 0)), (2, AV.one (Cl.ptr 2 0)), zz0, (4, AV.one (Cl.ptr 4 0)), (zz12 k), (zz13 k), (18, AV.one (Cl.ptr 18 0))], [zz2, zz3, (zz14 k), (zz15 k), (18, Bx.cells [Cl.d (DV.int .i64 o.kind), Cl.d (DV.int .i64 o.image), Cl.d (DV.int .i64 o.x), Cl.d (DV.int .i64 o.y), Cl.d (DV.int .i64 o.mask), Cl.d (DV.int .i64 o.mx), Cl.d (DV.int .i64 o.my), Cl.d (DV.int .u16 o.opac), Cl.d (DV.int .i64 o.oper), Cl.d (DV.int .i64 o.mode), Cl.d (DV.bool o.iso), Cl.d (DV.bool o.kno)]), zz8, zz9, (zz16 k)]⟩, fun o : Oq => 0⟩ Ann.leaf fun o => Ann.leaf))))) Ann.leaf)))) fun u7 => (Ann.seq (Ann.seq Ann.leaf (Ann.loop ⟨Nat, fun j => j ≤ (s.run (min s.rn 9)).2.length, fun j => ⟨[(2, AV.one (Cl.ptr 2 0)), (4, AV.one (Cl.ptr 4 0)), zz10, (19, AV.one (Cl.d (DV.int .i64 ((j : Nat) : Int))))], [zz3, (4, Bx.cells [Cl.d (DV.int .i64 s.bits), Cl.d (DV.int .i64 s.c.a), Cl.d (DV.int .i64 s.c.b), Cl.d (DV.int .i64 s.c.c), Cl.d (DV.int .i64 s.c.d), Cl.d (DV.int .i64 s.gtw), Cl.d (DV.int .i64 s.gth), Cl.ref 7000 s.ord.length, Cl.ref 5000 s.ims.length, Cl.ref 5001 (((s.run (min s.rn 9)).1 ++ List.replicate j popO).length)]), zz11, zz8, zz9, (5001, Bx.row 54 12 (ops ((s.run (min s.rn 9)).1 ++ List.replicate j popO)))]⟩, fun j => (s.run (min s.rn 9)).2.length - j⟩ fun j => Ann.leaf)) Ann.leaf)))))))))))))))
theorem G_Script_vc (s : Scn) : vcg Tryd.prog gamSc ⟨221, fun _ => false, List.range 0, false⟩ (bodyOf Tryd.f10) (G_Script_ann s) kn0 (startG [AV.agg [Cl.d (DV.int .i64 s.b), Cl.d (DV.int .i64 s.x), Cl.d (DV.int .i64 s.y), Cl.d (DV.int .i64 s.w), Cl.d (DV.int .i64 s.h), Cl.d (DV.int .i64 s.tw), Cl.d (DV.int .i64 s.th), Cl.d (DV.sl s.on s.oxs), Cl.d (DV.sl s.pn s.pxs), Cl.d (DV.sl s.rn s.rxs)]] []) (postG Tryd.prog ⟨221, fun _ => false, List.range 0, false⟩ Tryd.f10.results.toList ⟨AV.agg [Cl.d (DV.int .i64 ((s).bits)), Cl.d (DV.int .i64 ((s).c.a)), Cl.d (DV.int .i64 ((s).c.b)), Cl.d (DV.int .i64 ((s).c.c)), Cl.d (DV.int .i64 ((s).c.d)), Cl.d (DV.int .i64 ((s).gtw)), Cl.d (DV.int .i64 ((s).gth)), Cl.ref 0 ((s).ord.length), Cl.ref 1 ((s).ims.length), Cl.ref 2 ((s).ops.length)], [Bx.row 3 1 (is (s).ord), Bx.row 43 28 (ims (s).ims), Bx.row 54 12 (ops (s).ops)], false⟩) =
  (let zz0 := ((0 = 0) ∧ (0 = 0) ∧ (DV.int .u16 (gMax s.b) = DV.int .u16 s.most) ∧ (0 = 0) ∧ True); let zz1 := [DV.int .i64 s.b, DV.int .i64 s.x, DV.int .i64 s.y, DV.int .i64 s.w, DV.int .i64 s.h, DV.int .i64 s.tw, DV.int .i64 s.th, DV.sl s.on s.oxs, DV.sl s.pn s.pxs, DV.sl s.rn s.rxs]; let zz2 := (zz1 = zz1); let zz3 := (DV.int .i64 0 = DV.int .i64 0); let zz4 := (zz3 ∧ zz3 ∧ zz3 ∧ zz3 ∧ zz3 ∧ zz3 ∧ zz3 ∧ True ∧ True ∧ True ∧ True); let zz5 := (DV.int .u16 s.most = DV.int .u16 s.most); let zz6 := (DV.int .i64 s.bits = DV.int .i64 s.bits); let zz7 := (DV.int .i64 s.gw = DV.int .i64 s.gw); let zz8 := (DV.int .i64 s.gh = DV.int .i64 s.gh); let zz9 := ((0 = 0) ∧ (0 = 0) ∧ zz5 ∧ (0 = 0) ∧ zz7 ∧ zz8 ∧ True); let zz10 := (DV.int .i64 s.c.a = DV.int .i64 s.c.a); let zz11 := (DV.int .i64 s.c.b = DV.int .i64 s.c.b); let zz12 := [DV.int .i64 s.c.a, DV.int .i64 s.c.b, DV.int .i64 s.c.c, DV.int .i64 s.c.d]; let zz13 := (IntKind.wrap .i64 (((cntS s.c s.gtw s.gth).1) * ((cntS s.c s.gtw s.gth).2.1))); let zz14 := (DV.int .i64 s.c.c = DV.int .i64 s.c.c); let zz15 := (DV.int .i64 s.c.d = DV.int .i64 s.c.d); let zz16 := (DV.int .i64 s.gtw = DV.int .i64 s.gtw); let zz17 := (DV.int .i64 s.gth = DV.int .i64 s.gth); let zz18 := (s.ord.length = s.ord.length); let zz19 := fun (p : Nat) => (zz9 ∧ (zz2 ∧ zz4 ∧ (zz6 ∧ zz10 ∧ zz11 ∧ zz14 ∧ zz15 ∧ zz16 ∧ zz17 ∧ zz18 ∧ (p = (s.pics (min s.pn 4)).length) ∧ True ∧ True) ∧ (is s.ord = is s.ord) ∧ (ims (s.pics p) = ims (s.pics (min s.pn 4))) ∧ True)); let zz20 := ((Im.ds (solidIm s.gw s.gh ⟨s.most, (0 : Int), (0 : Int), s.most, s.most⟩))); let zz21 := ((0 = 0) ∧ (0 = 0) ∧ zz5 ∧ (0 = 0) ∧ True); let zz22 := (s.ims.length = s.ims.length); let zz23 := fun (k : Nat) => (0 ≤ ((k : Nat) : Int) ∧ ((k : Nat) : Int) < ((s.rn : Nat) : Int) ∧ ((k : Nat) : Int).toNat * 11 < s.rxs.length); let zz24 := fun (k : Nat) => fun (k' : Nat) => (min s.rn 9 - k' < min s.rn 9 - k); let zz25 := fun (k : Nat) => fun (k' : Nat) => (DV.int .i64 (IntKind.wrap .i64 (((k : Nat) : Int) + (1 : Int))) = DV.int .i64 ((k' : Nat) : Int)); let zz26 := fun (k : Nat) => fun (k' : Nat) => (zz6 ∧ zz10 ∧ zz11 ∧ zz14 ∧ zz15 ∧ zz16 ∧ zz17 ∧ zz18 ∧ zz22 ∧ (((s.run k).1.length) + 1 = (s.run k').1.length) ∧ True); let zz27 := fun (k : Nat) => ((s.run k).2.length = (s.run k).2.length); let zz28 := fun (k : Nat) => (DV.int .i64 ((k : Nat) : Int) = DV.int .i64 ((k : Nat) : Int)); let zz29 := fun (k : Nat) => (DV.int .i64 (modS (nAt s.rxs (((k : Nat) : Int).toNat * 11 + 0)) (8 : Int)) = DV.int .i64 (modS (nAt s.rxs (((k : Nat) : Int).toNat * 11 + 0)) (8 : Int))); let zz30 := fun (k : Nat) => (zz6 ∧ zz10 ∧ zz11 ∧ zz14 ∧ zz15 ∧ zz16 ∧ zz17 ∧ zz18 ∧ zz22 ∧ ((s.run k).1.length = (s.run k).1.length) ∧ True); let zz31 := fun (k : Nat) => (ops (s.run k).2 = ops (s.run k).2); let zz32 := fun (k : Nat) => (ops (s.run k).1 = ops (s.run k).1); let zz33 := fun (k : Nat) => (zz2 ∧ zz4 ∧ (zz30 k) ∧ (zz31 k) ∧ (is s.ord = is s.ord) ∧ (ims s.ims = ims s.ims) ∧ (zz32 k) ∧ True); let zz34 := fun (k : Nat) => (((0 = 0) ∧ (0 = 0) ∧ zz5 ∧ (0 = 0) ∧ (zz27 k) ∧ (zz28 k) ∧ (zz29 k) ∧ (DV.int .i64 (((s.run k).2.length : Nat) : Int) = DV.int .i64 (((s.run k).2.length : Nat) : Int)) ∧ True) ∧ (zz33 k)); let zz35 := fun (k : Nat) => (0 ≤ IntKind.wrap .i64 ((((s.run k).2.length : Nat) : Int) - (1 : Int)) ∧ IntKind.wrap .i64 ((((s.run k).2.length : Nat) : Int) - (1 : Int)) < (((s.run k).2.length : Nat) : Int)); let zz36 := fun (k : Nat) => fun (o : Oq) => (o = gOp (rwAt s.rxs (k * 11)) (decide (modS (rwAt s.rxs (k * 11)).k 8 < 3)) s.ims.length s.c (ctxB (s.run k).2) s.most); let zz37 := fun (k : Nat) => fun (k' : Nat) => fun (o : Oq) => ((ops (s.run k).1) ++ ((Oq.cells (o))) = ops (s.run k').1); let zz38 := fun (k : Nat) => (((0 = 0) ∧ (0 = 0) ∧ ((s.run k).2.length = (s.run (min s.rn 9)).2.length) ∧ True) ∧ (zz4 ∧ (zz6 ∧ zz10 ∧ zz11 ∧ zz14 ∧ zz15 ∧ zz16 ∧ zz17 ∧ zz18 ∧ zz22 ∧ ((s.run k).1.length = (s.run (min s.rn 9)).1.length) ∧ True) ∧ (ops (s.run k).2 = ops (s.run (min s.rn 9)).2) ∧ (is s.ord = is s.ord) ∧ (ims s.ims = ims s.ims) ∧ (ops (s.run k).1 = ops (s.run (min s.rn 9)).1) ∧ True)); let zz39 := fun (j : Nat) => (j ≤ (s.run (min s.rn 9)).2.length); let zz40 := ((s.run (min s.rn 9)).2.length = (s.run (min s.rn 9)).2.length); let zz41 := (ops (s.run (min s.rn 9)).2 = ops (s.run (min s.rn 9)).2); True ∧ True ∧ True ∧ True ∧ (Ans Tryd.prog 23 [RV.d (DV.int .i64 s.b)] (RV.d (DV.int .u16 (gMax s.b)))) ∧ True ∧ True ∧ True ∧ True ∧ (True ∧ True ∧ (((decide ((gMax s.b) > (255 : Int))) = true → True ∧ True ∧ ∃ u1 : Unit, True ∧ (zz0 ∧ (zz2 ∧ zz4 ∧ ((DV.int .i64 16 = DV.int .i64 s.bits) ∧ zz3 ∧ zz3 ∧ zz3 ∧ zz3 ∧ zz3 ∧ zz3 ∧ True ∧ True ∧ True ∧ True) ∧ True))) ∧ ((decide ((gMax s.b) > (255 : Int))) = false → ∃ u1 : Unit, True ∧ (zz0 ∧ (zz2 ∧ zz4 ∧ ((DV.int .i64 8 = DV.int .i64 s.bits) ∧ zz3 ∧ zz3 ∧ zz3 ∧ zz3 ∧ zz3 ∧ zz3 ∧ True ∧ True ∧ True ∧ True) ∧ True))))) ∧ ∀ u1 : Unit, (True) → True ∧ True ∧ (Ans Tryd.prog 20 [RV.d (DV.int .i64 s.x), RV.d (DV.int .i64 13)] (RV.d (DV.int .i64 (modS s.x (13 : Int))))) ∧ True ∧ True ∧ True ∧ (Ans Tryd.prog 20 [RV.d (DV.int .i64 s.y), RV.d (DV.int .i64 13)] (RV.d (DV.int .i64 (modS s.y (13 : Int))))) ∧ True ∧ True ∧ True ∧ (true = true) ∧ (True ∧ True ∧ (Ans Tryd.prog 20 [RV.d (DV.int .i64 s.w), RV.d (DV.int .i64 5)] (RV.d (DV.int .i64 (modS s.w (5 : Int))))) ∧ True ∧ True ∧ True ∧ (Ans Tryd.prog 20 [RV.d (DV.int .i64 s.h), RV.d (DV.int .i64 4)] (RV.d (DV.int .i64 (modS s.h (4 : Int))))) ∧ True ∧ True ∧ True ∧ (true = true) ∧ ∃ u2 : Unit, True ∧ (((0 = 0) ∧ (0 = 0) ∧ zz5 ∧ (0 = 0) ∧ (DV.int .i64 (IntKind.wrap .i64 ((modS s.x (13 : Int)) - (6 : Int))) = DV.int .i64 s.c.a) ∧ (DV.int .i64 (IntKind.wrap .i64 ((modS s.y (13 : Int)) - (6 : Int))) = DV.int .i64 s.c.b) ∧ (DV.int .i64 (IntKind.wrap .i64 ((1 : Int) + (modS s.w (5 : Int)))) = DV.int .i64 s.gw) ∧ (DV.int .i64 (IntKind.wrap .i64 ((1 : Int) + (modS s.h (4 : Int)))) = DV.int .i64 s.gh) ∧ True) ∧ (zz2 ∧ zz4 ∧ (zz6 ∧ zz3 ∧ zz3 ∧ zz3 ∧ zz3 ∧ zz3 ∧ zz3 ∧ True ∧ True ∧ True ∧ True) ∧ True))) ∧ ∀ u2 : Unit, (True) → True ∧ True ∧ True ∧ True ∧ True ∧ True ∧ True ∧ True ∧ True ∧ True ∧ True ∧ (True ∧ True ∧ True ∧ (Ans Tryd.prog 20 [RV.d (DV.int .i64 s.tw), RV.d (DV.int .i64 s.gw)] (RV.d (DV.int .i64 (modS s.tw s.gw)))) ∧ True ∧ True ∧ True ∧ True ∧ (Ans Tryd.prog 20 [RV.d (DV.int .i64 s.th), RV.d (DV.int .i64 s.gh)] (RV.d (DV.int .i64 (modS s.th s.gh)))) ∧ True ∧ True ∧ True ∧ True ∧ True ∧ (true = true) ∧ ∃ u3 : Unit, True ∧ (zz9 ∧ (zz2 ∧ zz4 ∧ (zz6 ∧ zz10 ∧ zz11 ∧ (DV.int .i64 (IntKind.wrap .i64 (s.c.a + s.gw)) = DV.int .i64 s.c.c) ∧ (DV.int .i64 (IntKind.wrap .i64 (s.c.b + s.gh)) = DV.int .i64 s.c.d) ∧ (DV.int .i64 (IntKind.wrap .i64 ((1 : Int) + (modS s.tw s.gw))) = DV.int .i64 s.gtw) ∧ (DV.int .i64 (IntKind.wrap .i64 ((1 : Int) + (modS s.th s.gh))) = DV.int .i64 s.gth) ∧ True ∧ True ∧ True ∧ True) ∧ True))) ∧ ∀ u3 : Unit, (True) → True ∧ True ∧ True ∧ True ∧ True ∧ True ∧ (Ans Tryd.prog 24 [RV.agg zz12, RV.d (DV.int .i64 s.gtw), RV.d (DV.int .i64 s.gth)] (RV.tup [RV.d (DV.int .i64 ((cntS s.c s.gtw s.gth).1)), RV.d (DV.int .i64 ((cntS s.c s.gtw s.gth).2.1)), RV.d (DV.bool ((cntS s.c s.gtw s.gth).2.2))])) ∧ True ∧ True ∧ True ∧ True ∧ True ∧ True ∧ True ∧ (True ∧ True ∧ True ∧ True ∧ True ∧ (AnsO Tryd.prog 25 [RV.d (DV.sl s.on s.oxs), RV.d (DV.int .i64 zz13)] 3 1 ((permL (ints s.oxs) zz13).length) (is (permL (ints s.oxs) zz13))) ∧ True ∧ True ∧ ∃ u4 : Unit, True ∧ (zz9 ∧ (zz2 ∧ zz4 ∧ (zz6 ∧ zz10 ∧ zz11 ∧ zz14 ∧ zz15 ∧ zz16 ∧ zz17 ∧ ((permL (ints s.oxs) zz13).length = s.ord.length) ∧ True ∧ True ∧ True) ∧ (is (permL (ints s.oxs) zz13) = is s.ord) ∧ True))) ∧ ∀ u4 : Unit, (True) → (True ∧ ((∃ p : Nat, (p ≤ min s.pn 4) ∧ (((0 = 0) ∧ (0 = 0) ∧ zz5 ∧ (0 = 0) ∧ zz7 ∧ zz8 ∧ (DV.int .i64 0 = DV.int .i64 ((p : Nat) : Int)) ∧ True) ∧ (zz2 ∧ zz4 ∧ (zz6 ∧ zz10 ∧ zz11 ∧ zz14 ∧ zz15 ∧ zz16 ∧ zz17 ∧ zz18 ∧ (0 = p) ∧ True ∧ True) ∧ (is s.ord = is s.ord) ∧ ([] = ims (s.pics p)) ∧ True))) ∧ ∀ p : Nat, (p ≤ min s.pn 4) → True ∧ True ∧ True ∧ True ∧ True ∧ True ∧ (((decide (((p : Nat) : Int) < ((s.pn : Nat) : Int))) = true → True ∧ True ∧ True ∧ (((decide (((p : Nat) : Int) < (4 : Int))) = true → True ∧ True ∧ True ∧ True ∧ True ∧ (0 ≤ ((p : Nat) : Int) ∧ ((p : Nat) : Int) < ((s.pn : Nat) : Int) ∧ ((p : Nat) : Int).toNat * 5 < s.pxs.length) ∧ ((s.pxs[((p : Nat) : Int).toNat * 5]? = some (DV.int .i64 (nAt s.pxs (((p : Nat) : Int).toNat * 5)))) ∧ (s.pxs[((p : Nat) : Int).toNat * 5 + 1]? = some (DV.int .i64 (nAt s.pxs (((p : Nat) : Int).toNat * 5 + 1)))) ∧ (s.pxs[((p : Nat) : Int).toNat * 5 + 1 + 1]? = some (DV.int .i64 (nAt s.pxs (((p : Nat) : Int).toNat * 5 + 1 + 1)))) ∧ (s.pxs[((p : Nat) : Int).toNat * 5 + 1 + 1 + 1]? = some (DV.int .i64 (nAt s.pxs (((p : Nat) : Int).toNat * 5 + 1 + 1 + 1)))) ∧ (s.pxs[((p : Nat) : Int).toNat * 5 + 1 + 1 + 1 + 1]? = some (DV.sl (lAt s.pxs (((p : Nat) : Int).toNat * 5 + 1 + 1 + 1 + 1)) (cAt s.pxs (((p : Nat) : Int).toNat * 5 + 1 + 1 + 1 + 1)))) ∧ True) ∧ True ∧ True ∧ True ∧ (Ans Tryd.prog 26 [RV.agg [DV.int .i64 (nAt s.pxs (((p : Nat) : Int).toNat * 5)), DV.int .i64 (nAt s.pxs (((p : Nat) : Int).toNat * 5 + 1)), DV.int .i64 (nAt s.pxs (((p : Nat) : Int).toNat * 5 + 1 + 1)), DV.int .i64 (nAt s.pxs (((p : Nat) : Int).toNat * 5 + 1 + 1 + 1)), DV.sl (lAt s.pxs (((p : Nat) : Int).toNat * 5 + 1 + 1 + 1 + 1)) (cAt s.pxs (((p : Nat) : Int).toNat * 5 + 1 + 1 + 1 + 1))], RV.agg zz12, RV.d (DV.int .u16 s.most)] ((imR (gImage (nAt s.pxs (((p : Nat) : Int).toNat * 5)) (nAt s.pxs (((p : Nat) : Int).toNat * 5 + 1)) (nAt s.pxs (((p : Nat) : Int).toNat * 5 + 1 + 1)) (nAt s.pxs (((p : Nat) : Int).toNat * 5 + 1 + 1 + 1)) (lAt s.pxs (((p : Nat) : Int).toNat * 5 + 1 + 1 + 1 + 1)) (cAt s.pxs (((p : Nat) : Int).toNat * 5 + 1 + 1 + 1 + 1)) s.c.a s.c.b s.c.c s.c.d s.most)))) ∧ True ∧ (appVc 28 272 p 1 (ims (s.pics p)) ((Im.ds (gImage (nAt s.pxs (((p : Nat) : Int).toNat * 5)) (nAt s.pxs (((p : Nat) : Int).toNat * 5 + 1)) (nAt s.pxs (((p : Nat) : Int).toNat * 5 + 1 + 1)) (nAt s.pxs (((p : Nat) : Int).toNat * 5 + 1 + 1 + 1)) (lAt s.pxs (((p : Nat) : Int).toNat * 5 + 1 + 1 + 1 + 1)) (cAt s.pxs (((p : Nat) : Int).toNat * 5 + 1 + 1 + 1 + 1)) s.c.a s.c.b s.c.c s.c.d s.most)))) ∧ True ∧ True ∧ (true = true) ∧ True ∧ True ∧ True ∧ ∃ p' : Nat, (p' ≤ min s.pn 4) ∧ (min s.pn 4 - p' < min s.pn 4 - p) ∧ (((0 = 0) ∧ (0 = 0) ∧ zz5 ∧ (0 = 0) ∧ zz7 ∧ zz8 ∧ (DV.int .i64 (IntKind.wrap .i64 (((p : Nat) : Int) + (1 : Int))) = DV.int .i64 ((p' : Nat) : Int)) ∧ True) ∧ (zz2 ∧ zz4 ∧ (zz6 ∧ zz10 ∧ zz11 ∧ zz14 ∧ zz15 ∧ zz16 ∧ zz17 ∧ zz18 ∧ (p + 1 = p') ∧ True ∧ True) ∧ (is s.ord = is s.ord) ∧ ((ims (s.pics p)) ++ ((Im.ds (gImage (nAt s.pxs (((p : Nat) : Int).toNat * 5)) (nAt s.pxs (((p : Nat) : Int).toNat * 5 + 1)) (nAt s.pxs (((p : Nat) : Int).toNat * 5 + 1 + 1)) (nAt s.pxs (((p : Nat) : Int).toNat * 5 + 1 + 1 + 1)) (lAt s.pxs (((p : Nat) : Int).toNat * 5 + 1 + 1 + 1 + 1)) (cAt s.pxs (((p : Nat) : Int).toNat * 5 + 1 + 1 + 1 + 1)) s.c.a s.c.b s.c.c s.c.d s.most))) = ims (s.pics p')) ∧ True))) ∧ ((decide (((p : Nat) : Int) < (4 : Int))) = false → ∃ u6 : Unit, True ∧ (zz19 p)))) ∧ ((decide (((p : Nat) : Int) < ((s.pn : Nat) : Int))) = (!true) → True ∧ ∃ u6 : Unit, True ∧ (zz19 p))))) ∧ ∀ u6 : Unit, (True) → (True ∧ True ∧ ((s.pics (min s.pn 4)).length ≤ maxLen) ∧ True ∧ ((((((s.pics (min s.pn 4)).length : Nat) : Int) == (0 : Int)) = true → True ∧ True ∧ True ∧ True ∧ True ∧ True ∧ True ∧ True ∧ True ∧ (Ans Tryd.prog 27 [RV.d (DV.int .i64 s.gw), RV.d (DV.int .i64 s.gh), RV.agg [DV.int .u16 s.most, DV.int .u16 0, DV.int .u16 0, DV.int .u16 s.most, DV.int .u16 s.most]] ((imR (solidIm s.gw s.gh ⟨s.most, (0 : Int), (0 : Int), s.most, s.most⟩)))) ∧ True ∧ (appVc 28 272 ((s.pics (min s.pn 4)).length) 1 (ims (s.pics (min s.pn 4))) zz20) ∧ True ∧ True ∧ (true = true) ∧ ∃ u5 : Unit, True ∧ (zz21 ∧ (zz2 ∧ zz4 ∧ (zz6 ∧ zz10 ∧ zz11 ∧ zz14 ∧ zz15 ∧ zz16 ∧ zz17 ∧ zz18 ∧ (((s.pics (min s.pn 4)).length) + 1 = s.ims.length) ∧ True ∧ True) ∧ (is s.ord = is s.ord) ∧ ((ims (s.pics (min s.pn 4))) ++ zz20 = ims s.ims) ∧ True))) ∧ (((((s.pics (min s.pn 4)).length : Nat) : Int) == (0 : Int)) = false → ∃ u5 : Unit, True ∧ (zz21 ∧ (zz2 ∧ zz4 ∧ (zz6 ∧ zz10 ∧ zz11 ∧ zz14 ∧ zz15 ∧ zz16 ∧ zz17 ∧ zz18 ∧ ((s.pics (min s.pn 4)).length = s.ims.length) ∧ True ∧ True) ∧ (is s.ord = is s.ord) ∧ (ims (s.pics (min s.pn 4)) = ims s.ims) ∧ True))))) ∧ ∀ u5 : Unit, (True) → True ∧ (True ∧ ((∃ k : Nat, (k ≤ min s.rn 9) ∧ (((0 = 0) ∧ (0 = 0) ∧ zz5 ∧ (0 = 0) ∧ (0 = (s.run k).2.length) ∧ (DV.int .i64 0 = DV.int .i64 ((k : Nat) : Int)) ∧ True) ∧ (zz2 ∧ zz4 ∧ (zz6 ∧ zz10 ∧ zz11 ∧ zz14 ∧ zz15 ∧ zz16 ∧ zz17 ∧ zz18 ∧ zz22 ∧ (0 = (s.run k).1.length) ∧ True) ∧ ([] = ops (s.run k).2) ∧ (is s.ord = is s.ord) ∧ (ims s.ims = ims s.ims) ∧ ([] = ops (s.run k).1) ∧ True))) ∧ ∀ k : Nat, (k ≤ min s.rn 9) → True ∧ True ∧ True ∧ True ∧ True ∧ True ∧ (((decide (((k : Nat) : Int) < ((s.rn : Nat) : Int))) = true → True ∧ True ∧ True ∧ (((decide (((k : Nat) : Int) < (9 : Int))) = true → True ∧ True ∧ True ∧ (zz23 k) ∧ True ∧ ((s.rxs[((k : Nat) : Int).toNat * 11 + 0]? = some (DV.int .i64 (nAt s.rxs (((k : Nat) : Int).toNat * 11 + 0)))) ∧ True) ∧ (Ans Tryd.prog 20 [RV.d (DV.int .i64 (nAt s.rxs (((k : Nat) : Int).toNat * 11 + 0))), RV.d (DV.int .i64 8)] (RV.d (DV.int .i64 (modS (nAt s.rxs (((k : Nat) : Int).toNat * 11 + 0)) (8 : Int))))) ∧ True ∧ True ∧ ((s.run k).2.length ≤ maxLen) ∧ True ∧ (True ∧ True ∧ True ∧ ((((modS (nAt s.rxs (((k : Nat) : Int).toNat * 11 + 0)) (8 : Int)) == (0 : Int)) = true → True ∧ True ∧ True ∧ (((decide ((((s.run k).2.length : Nat) : Int) > (0 : Int))) = true → True ∧ True ∧ True ∧ True ∧ (appVc 12 88 ((s.run k).1.length) 1 (ops (s.run k).1) ([DV.int .i64 3, DV.int .i64 0, DV.int .i64 0, DV.int .i64 0, DV.int .i64 0, DV.int .i64 0, DV.int .i64 0, DV.int .u16 0, DV.int .i64 0, DV.int .i64 0, DV.bool false, DV.bool false])) ∧ True ∧ True ∧ True ∧ True ∧ True ∧ (0 ≤ IntKind.wrap .i64 ((((s.run k).2.length : Nat) : Int) - (1 : Int)) ∧ IntKind.wrap .i64 ((((s.run k).2.length : Nat) : Int) - (1 : Int)) ≤ (((s.run k).2.length : Nat) : Int)) ∧ True ∧ True ∧ True ∧ True ∧ ∃ k' : Nat, (k' ≤ min s.rn 9) ∧ (zz24 k k') ∧ (((0 = 0) ∧ (0 = 0) ∧ zz5 ∧ (0 = 0) ∧ ((IntKind.wrap .i64 ((((s.run k).2.length : Nat) : Int) - (1 : Int))).toNat = (s.run k').2.length) ∧ (zz25 k k') ∧ True) ∧ (zz2 ∧ zz4 ∧ (zz26 k k') ∧ (List.take ((IntKind.wrap .i64 ((((s.run k).2.length : Nat) : Int) - (1 : Int))).toNat * 12) (ops (s.run k).2) = ops (s.run k').2) ∧ (is s.ord = is s.ord) ∧ (ims s.ims = ims s.ims) ∧ ((ops (s.run k).1) ++ ([DV.int .i64 3, DV.int .i64 0, DV.int .i64 0, DV.int .i64 0, DV.int .i64 0, DV.int .i64 0, DV.int .i64 0, DV.int .u16 0, DV.int .i64 0, DV.int .i64 0, DV.bool false, DV.bool false]) = ops (s.run k').1) ∧ True))) ∧ ((decide ((((s.run k).2.length : Nat) : Int) > (0 : Int))) = false → ∃ u8 : Unit, (¬ (modS (rwAt s.rxs (k * 11)).k 8 = 0 ∧ 0 < (s.run k).2.length)) ∧ (zz34 k)))) ∧ (((modS (nAt s.rxs (((k : Nat) : Int).toNat * 11 + 0)) (8 : Int)) == (0 : Int)) = (!true) → True ∧ ∃ u8 : Unit, (¬ (modS (rwAt s.rxs (k * 11)).k 8 = 0 ∧ 0 < (s.run k).2.length)) ∧ (zz34 k)))) ∧ ∀ u8 : Unit, (¬ (modS (rwAt s.rxs (k * 11)).k 8 = 0 ∧ 0 < (s.run k).2.length)) → (True ∧ True ∧ True ∧ ((((((s.run k).2.length : Nat) : Int) == (0 : Int)) = false → True ∧ True ∧ True ∧ (zz35 k) ∧ True ∧ (((ops (s.run k).2)[(IntKind.wrap .i64 ((((s.run k).2.length : Nat) : Int) - (1 : Int))).toNat * 12 + 10]? = some (DV.bool (bAt (ops (s.run k).2) ((IntKind.wrap .i64 ((((s.run k).2.length : Nat) : Int) - (1 : Int))).toNat * 12 + 10)))) ∧ True) ∧ True ∧ (((bAt (ops (s.run k).2) ((IntKind.wrap .i64 ((((s.run k).2.length : Nat) : Int) - (1 : Int))).toNat * 12 + 10)) = true → True ∧ True ∧ True ∧ (zz35 k) ∧ True ∧ (((ops (s.run k).2)[(IntKind.wrap .i64 ((((s.run k).2.length : Nat) : Int) - (1 : Int))).toNat * 12 + 11]? = some (DV.bool (bAt (ops (s.run k).2) ((IntKind.wrap .i64 ((((s.run k).2.length : Nat) : Int) - (1 : Int))).toNat * 12 + 11)))) ∧ True) ∧ True ∧ True ∧ True ∧ True ∧ ∃ fr : Bool, (fr = ctxB (s.run k).2) ∧ (((0 = 0) ∧ (0 = 0) ∧ zz5 ∧ (0 = 0) ∧ (zz27 k) ∧ (zz28 k) ∧ (zz29 k) ∧ (DV.bool (!(bAt (ops (s.run k).2) ((IntKind.wrap .i64 ((((s.run k).2.length : Nat) : Int) - (1 : Int))).toNat * 12 + 11))) = DV.bool fr) ∧ True) ∧ (zz33 k))) ∧ ((bAt (ops (s.run k).2) ((IntKind.wrap .i64 ((((s.run k).2.length : Nat) : Int) - (1 : Int))).toNat * 12 + 10)) = (!true) → True ∧ True ∧ True ∧ ∃ fr : Bool, (fr = ctxB (s.run k).2) ∧ (((0 = 0) ∧ (0 = 0) ∧ zz5 ∧ (0 = 0) ∧ (zz27 k) ∧ (zz28 k) ∧ (zz29 k) ∧ (DV.bool false = DV.bool fr) ∧ True) ∧ (zz33 k))))) ∧ (((((s.run k).2.length : Nat) : Int) == (0 : Int)) = (!false) → True ∧ True ∧ ∃ fr : Bool, (fr = ctxB (s.run k).2) ∧ (((0 = 0) ∧ (0 = 0) ∧ zz5 ∧ (0 = 0) ∧ (zz27 k) ∧ (zz28 k) ∧ (zz29 k) ∧ (DV.bool true = DV.bool fr) ∧ True) ∧ (zz33 k))))) ∧ ∀ fr : Bool, (fr = ctxB (s.run k).2) → (True ∧ True ∧ True ∧ (zz23 k) ∧ ((s.rxs[((k : Nat) : Int).toNat * 11]? = some (DV.int .i64 (nAt s.rxs (((k : Nat) : Int).toNat * 11)))) ∧ (s.rxs[((k : Nat) : Int).toNat * 11 + 1]? = some (DV.int .i64 (nAt s.rxs (((k : Nat) : Int).toNat * 11 + 1)))) ∧ (s.rxs[((k : Nat) : Int).toNat * 11 + 1 + 1]? = some (DV.int .i64 (nAt s.rxs (((k : Nat) : Int).toNat * 11 + 1 + 1)))) ∧ (s.rxs[((k : Nat) : Int).toNat * 11 + 1 + 1 + 1]? = some (DV.int .i64 (nAt s.rxs (((k : Nat) : Int).toNat * 11 + 1 + 1 + 1)))) ∧ (s.rxs[((k : Nat) : Int).toNat * 11 + 1 + 1 + 1 + 1]? = some (DV.int .i64 (nAt s.rxs (((k : Nat) : Int).toNat * 11 + 1 + 1 + 1 + 1)))) ∧ (s.rxs[((k : Nat) : Int).toNat * 11 + 1 + 1 + 1 + 1 + 1]? = some (DV.int .i64 (nAt s.rxs (((k : Nat) : Int).toNat * 11 + 1 + 1 + 1 + 1 + 1)))) ∧ (s.rxs[((k : Nat) : Int).toNat * 11 + 1 + 1 + 1 + 1 + 1 + 1]? = some (DV.int .i64 (nAt s.rxs (((k : Nat) : Int).toNat * 11 + 1 + 1 + 1 + 1 + 1 + 1)))) ∧ (s.rxs[((k : Nat) : Int).toNat * 11 + 1 + 1 + 1 + 1 + 1 + 1 + 1]? = some (DV.int .i64 (nAt s.rxs (((k : Nat) : Int).toNat * 11 + 1 + 1 + 1 + 1 + 1 + 1 + 1)))) ∧ (s.rxs[((k : Nat) : Int).toNat * 11 + 1 + 1 + 1 + 1 + 1 + 1 + 1 + 1]? = some (DV.int .i64 (nAt s.rxs (((k : Nat) : Int).toNat * 11 + 1 + 1 + 1 + 1 + 1 + 1 + 1 + 1)))) ∧ (s.rxs[((k : Nat) : Int).toNat * 11 + 1 + 1 + 1 + 1 + 1 + 1 + 1 + 1 + 1]? = some (DV.int .i64 (nAt s.rxs (((k : Nat) : Int).toNat * 11 + 1 + 1 + 1 + 1 + 1 + 1 + 1 + 1 + 1)))) ∧ (s.rxs[((k : Nat) : Int).toNat * 11 + 1 + 1 + 1 + 1 + 1 + 1 + 1 + 1 + 1 + 1]? = some (DV.int .i64 (nAt s.rxs (((k : Nat) : Int).toNat * 11 + 1 + 1 + 1 + 1 + 1 + 1 + 1 + 1 + 1 + 1)))) ∧ True) ∧ True ∧ True ∧ True ∧ True ∧ (s.ims.length ≤ maxLen) ∧ True ∧ True ∧ True ∧ True ∧ (Ans Tryd.prog 28 [RV.agg [DV.int .i64 (nAt s.rxs (((k : Nat) : Int).toNat * 11)), DV.int .i64 (nAt s.rxs (((k : Nat) : Int).toNat * 11 + 1)), DV.int .i64 (nAt s.rxs (((k : Nat) : Int).toNat * 11 + 1 + 1)), DV.int .i64 (nAt s.rxs (((k : Nat) : Int).toNat * 11 + 1 + 1 + 1)), DV.int .i64 (nAt s.rxs (((k : Nat) : Int).toNat * 11 + 1 + 1 + 1 + 1)), DV.int .i64 (nAt s.rxs (((k : Nat) : Int).toNat * 11 + 1 + 1 + 1 + 1 + 1)), DV.int .i64 (nAt s.rxs (((k : Nat) : Int).toNat * 11 + 1 + 1 + 1 + 1 + 1 + 1)), DV.int .i64 (nAt s.rxs (((k : Nat) : Int).toNat * 11 + 1 + 1 + 1 + 1 + 1 + 1 + 1)), DV.int .i64 (nAt s.rxs (((k : Nat) : Int).toNat * 11 + 1 + 1 + 1 + 1 + 1 + 1 + 1 + 1)), DV.int .i64 (nAt s.rxs (((k : Nat) : Int).toNat * 11 + 1 + 1 + 1 + 1 + 1 + 1 + 1 + 1 + 1)), DV.int .i64 (nAt s.rxs (((k : Nat) : Int).toNat * 11 + 1 + 1 + 1 + 1 + 1 + 1 + 1 + 1 + 1 + 1))], RV.d (DV.bool (decide ((modS (nAt s.rxs (((k : Nat) : Int).toNat * 11 + 0)) (8 : Int)) < (3 : Int)))), RV.d (DV.int .i64 ((s.ims.length : Nat) : Int)), RV.agg zz12, RV.d (DV.bool fr), RV.d (DV.int .u16 s.most)] (RV.agg (Oq.cells (gOp ⟨(nAt s.rxs (((k : Nat) : Int).toNat * 11)), (nAt s.rxs (((k : Nat) : Int).toNat * 11 + 1)), (nAt s.rxs (((k : Nat) : Int).toNat * 11 + 1 + 1)), (nAt s.rxs (((k : Nat) : Int).toNat * 11 + 1 + 1 + 1)), (nAt s.rxs (((k : Nat) : Int).toNat * 11 + 1 + 1 + 1 + 1)), (nAt s.rxs (((k : Nat) : Int).toNat * 11 + 1 + 1 + 1 + 1 + 1)), (nAt s.rxs (((k : Nat) : Int).toNat * 11 + 1 + 1 + 1 + 1 + 1 + 1)), (nAt s.rxs (((k : Nat) : Int).toNat * 11 + 1 + 1 + 1 + 1 + 1 + 1 + 1)), (nAt s.rxs (((k : Nat) : Int).toNat * 11 + 1 + 1 + 1 + 1 + 1 + 1 + 1 + 1)), (nAt s.rxs (((k : Nat) : Int).toNat * 11 + 1 + 1 + 1 + 1 + 1 + 1 + 1 + 1 + 1)), (nAt s.rxs (((k : Nat) : Int).toNat * 11 + 1 + 1 + 1 + 1 + 1 + 1 + 1 + 1 + 1 + 1))⟩ (decide ((modS (nAt s.rxs (((k : Nat) : Int).toNat * 11 + 0)) (8 : Int)) < (3 : Int))) ((s.ims.length : Nat) : Int) s.c fr s.most)))) ∧ True ∧ True ∧ (true = true) ∧ ∃ o : Oq, (zz36 k o) ∧ (((0 = 0) ∧ (0 = 0) ∧ zz5 ∧ (0 = 0) ∧ (zz27 k) ∧ (zz28 k) ∧ (0 = 0) ∧ True) ∧ (zz2 ∧ zz4 ∧ (zz30 k) ∧ (zz31 k) ∧ ((Oq.cells (gOp ⟨(nAt s.rxs (((k : Nat) : Int).toNat * 11)), (nAt s.rxs (((k : Nat) : Int).toNat * 11 + 1)), (nAt s.rxs (((k : Nat) : Int).toNat * 11 + 1 + 1)), (nAt s.rxs (((k : Nat) : Int).toNat * 11 + 1 + 1 + 1)), (nAt s.rxs (((k : Nat) : Int).toNat * 11 + 1 + 1 + 1 + 1)), (nAt s.rxs (((k : Nat) : Int).toNat * 11 + 1 + 1 + 1 + 1 + 1)), (nAt s.rxs (((k : Nat) : Int).toNat * 11 + 1 + 1 + 1 + 1 + 1 + 1)), (nAt s.rxs (((k : Nat) : Int).toNat * 11 + 1 + 1 + 1 + 1 + 1 + 1 + 1)), (nAt s.rxs (((k : Nat) : Int).toNat * 11 + 1 + 1 + 1 + 1 + 1 + 1 + 1 + 1)), (nAt s.rxs (((k : Nat) : Int).toNat * 11 + 1 + 1 + 1 + 1 + 1 + 1 + 1 + 1 + 1)), (nAt s.rxs (((k : Nat) : Int).toNat * 11 + 1 + 1 + 1 + 1 + 1 + 1 + 1 + 1 + 1 + 1))⟩ (decide ((modS (nAt s.rxs (((k : Nat) : Int).toNat * 11 + 0)) (8 : Int)) < (3 : Int))) ((s.ims.length : Nat) : Int) s.c fr s.most)) = (Oq.cells (o))) ∧ (is s.ord = is s.ord) ∧ (ims s.ims = ims s.ims) ∧ (zz32 k) ∧ True))) ∧ ∀ o : Oq, (zz36 k o) → True ∧ True ∧ True ∧ True ∧ (appVc 12 88 ((s.run k).1.length) 1 (ops (s.run k).1) ((Oq.cells (o)))) ∧ True ∧ True ∧ True ∧ True ∧ True ∧ (((o.kind == (2 : Int)) = true → True ∧ True ∧ True ∧ (appVc 12 88 ((s.run k).2.length) 1 (ops (s.run k).2) ((Oq.cells (o)))) ∧ True ∧ True ∧ True ∧ True ∧ ∃ k' : Nat, (k' ≤ min s.rn 9) ∧ (zz24 k k') ∧ (((0 = 0) ∧ (0 = 0) ∧ zz5 ∧ (0 = 0) ∧ (((s.run k).2.length) + 1 = (s.run k').2.length) ∧ (zz25 k k') ∧ True) ∧ (zz2 ∧ zz4 ∧ (zz26 k k') ∧ ((ops (s.run k).2) ++ ((Oq.cells (o))) = ops (s.run k').2) ∧ (is s.ord = is s.ord) ∧ (ims s.ims = ims s.ims) ∧ (zz37 k k' o) ∧ True))) ∧ ((o.kind == (2 : Int)) = false → True ∧ True ∧ True ∧ ∃ k' : Nat, (k' ≤ min s.rn 9) ∧ (zz24 k k') ∧ (((0 = 0) ∧ (0 = 0) ∧ zz5 ∧ (0 = 0) ∧ ((s.run k).2.length = (s.run k').2.length) ∧ (zz25 k k') ∧ True) ∧ (zz2 ∧ zz4 ∧ (zz26 k k') ∧ (ops (s.run k).2 = ops (s.run k').2) ∧ (is s.ord = is s.ord) ∧ (ims s.ims = ims s.ims) ∧ (zz37 k k' o) ∧ True))))) ∧ ((decide (((k : Nat) : Int) < (9 : Int))) = false → ∃ u7 : Unit, True ∧ (zz38 k)))) ∧ ((decide (((k : Nat) : Int) < ((s.rn : Nat) : Int))) = (!true) → True ∧ ∃ u7 : Unit, True ∧ (zz38 k))))) ∧ ∀ u7 : Unit, (True) → True ∧ ((∃ j : Nat, (zz39 j) ∧ (((0 = 0) ∧ (0 = 0) ∧ zz40 ∧ (DV.int .i64 0 = DV.int .i64 ((j : Nat) : Int)) ∧ True) ∧ (zz4 ∧ (zz6 ∧ zz10 ∧ zz11 ∧ zz14 ∧ zz15 ∧ zz16 ∧ zz17 ∧ zz18 ∧ zz22 ∧ ((s.run (min s.rn 9)).1.length = ((s.run (min s.rn 9)).1 ++ List.replicate j popO).length) ∧ True) ∧ zz41 ∧ (is s.ord = is s.ord) ∧ (ims s.ims = ims s.ims) ∧ (ops (s.run (min s.rn 9)).1 = ops ((s.run (min s.rn 9)).1 ++ List.replicate j popO)) ∧ True))) ∧ ∀ j : Nat, (zz39 j) → True ∧ True ∧ ((s.run (min s.rn 9)).2.length ≤ maxLen) ∧ True ∧ (((decide (((j : Nat) : Int) < (((s.run (min s.rn 9)).2.length : Nat) : Int))) = true → True ∧ True ∧ True ∧ True ∧ (appVc 12 88 (((s.run (min s.rn 9)).1 ++ List.replicate j popO).length) 1 (ops ((s.run (min s.rn 9)).1 ++ List.replicate j popO)) ([DV.int .i64 3, DV.int .i64 0, DV.int .i64 0, DV.int .i64 0, DV.int .i64 0, DV.int .i64 0, DV.int .i64 0, DV.int .u16 0, DV.int .i64 0, DV.int .i64 0, DV.bool false, DV.bool false])) ∧ True ∧ True ∧ True ∧ True ∧ True ∧ ∃ j' : Nat, (j' ≤ (s.run (min s.rn 9)).2.length) ∧ ((s.run (min s.rn 9)).2.length - j' < (s.run (min s.rn 9)).2.length - j) ∧ (((0 = 0) ∧ (0 = 0) ∧ zz40 ∧ (DV.int .i64 (IntKind.wrap .i64 (((j : Nat) : Int) + (1 : Int))) = DV.int .i64 ((j' : Nat) : Int)) ∧ True) ∧ (zz4 ∧ (zz6 ∧ zz10 ∧ zz11 ∧ zz14 ∧ zz15 ∧ zz16 ∧ zz17 ∧ zz18 ∧ zz22 ∧ ((((s.run (min s.rn 9)).1 ++ List.replicate j popO).length) + 1 = ((s.run (min s.rn 9)).1 ++ List.replicate j' popO).length) ∧ True) ∧ zz41 ∧ (is s.ord = is s.ord) ∧ (ims s.ims = ims s.ims) ∧ ((ops ((s.run (min s.rn 9)).1 ++ List.replicate j popO)) ++ ([DV.int .i64 3, DV.int .i64 0, DV.int .i64 0, DV.int .i64 0, DV.int .i64 0, DV.int .i64 0, DV.int .i64 0, DV.int .u16 0, DV.int .i64 0, DV.int .i64 0, DV.bool false, DV.bool false]) = ops ((s.run (min s.rn 9)).1 ++ List.replicate j' popO)) ∧ True))) ∧ ((decide (((j : Nat) : Int) < (((s.run (min s.rn 9)).2.length : Nat) : Int))) = false → True ∧ True ∧ ((((DV.int .i64 s.bits = DV.int .i64 ((s).bits)) ∧ (DV.int .i64 s.c.a = DV.int .i64 ((s).c.a)) ∧ (DV.int .i64 s.c.b = DV.int .i64 ((s).c.b)) ∧ (DV.int .i64 s.c.c = DV.int .i64 ((s).c.c)) ∧ (DV.int .i64 s.c.d = DV.int .i64 ((s).c.d)) ∧ (DV.int .i64 s.gtw = DV.int .i64 ((s).gtw)) ∧ (DV.int .i64 s.gth = DV.int .i64 ((s).gth)) ∧ (s.ord.length = (s).ord.length) ∧ (s.ims.length = (s).ims.length) ∧ (((s.run (min s.rn 9)).1 ++ List.replicate j popO).length = (s).ops.length) ∧ True) ∧ True) ∧ ((is s.ord = is (s).ord) ∧ (ims s.ims = ims (s).ims) ∧ (ops ((s.run (min s.rn 9)).1 ++ List.replicate j popO) = ops (s).ops) ∧ True)) ∧ freshOK ⟨AV.agg [Cl.d (DV.int .i64 ((s).bits)), Cl.d (DV.int .i64 ((s).c.a)), Cl.d (DV.int .i64 ((s).c.b)), Cl.d (DV.int .i64 ((s).c.c)), Cl.d (DV.int .i64 ((s).c.d)), Cl.d (DV.int .i64 ((s).gtw)), Cl.d (DV.int .i64 ((s).gth)), Cl.ref 0 ((s).ord.length), Cl.ref 1 ((s).ims.length), Cl.ref 2 ((s).ops.length)], [Bx.row 3 1 (is (s).ord), Bx.row 43 28 (ims (s).ims), Bx.row 54 12 (ops (s).ops)], false⟩)))) := by kernel_rfl
theorem G_Script_ans (s : Scn) (hs : s.ok) : AnsG Tryd.prog 10 0 [AV.agg [Cl.d (DV.int .i64 s.b), Cl.d (DV.int .i64 s.x), Cl.d (DV.int .i64 s.y), Cl.d (DV.int .i64 s.w), Cl.d (DV.int .i64 s.h), Cl.d (DV.int .i64 s.tw), Cl.d (DV.int .i64 s.th), Cl.d (DV.sl s.on s.oxs), Cl.d (DV.sl s.pn s.pxs), Cl.d (DV.sl s.rn s.rxs)]] [] ⟨AV.agg [Cl.d (DV.int .i64 ((s).bits)), Cl.d (DV.int .i64 ((s).c.a)), Cl.d (DV.int .i64 ((s).c.b)), Cl.d (DV.int .i64 ((s).c.c)), Cl.d (DV.int .i64 ((s).c.d)), Cl.d (DV.int .i64 ((s).gtw)), Cl.d (DV.int .i64 ((s).gth)), Cl.ref 0 ((s).ord.length), Cl.ref 1 ((s).ims.length), Cl.ref 2 ((s).ops.length)], [Bx.row 3 1 (is (s).ord), Bx.row 43 28 (ims (s).ims), Bx.row 54 12 (ops (s).ops)], false⟩ :=
  ansG_of_vcg (Γ := gamSc) (G_Script_ann s) mixed_ Tryd.func10 rfl (Nat.le_of_ble_eq_true rfl) rfl fun hwf hbx => by
    refine Eq.mpr (G_Script_vc s) ?_
    simp only [true_and, and_true, RV.d.injEq, RV.agg.injEq, RV.tup.injEq, DV.bool.injEq, DV.int.injEq, DV.sl.injEq, List.cons.injEq, forall_const, Bool.not_false, Bool.not_true, Bool.not_eq_true', Bool.not_eq_false', decide_eq_true_eq, decide_eq_false_iff_not, Int.toNat_natCast, G_Mod_ans, G_Max_ans]
    obtain ⟨⟨ho1, ho2⟩, ⟨hp1, hp2⟩, ⟨hr1, hr2⟩⟩ := hs
    obtain ⟨f1, f2, f3, f4, f5, f6⟩ := s.facts
    have CF := s.c_facts
    have w1 : IntKind.wrap .i64 (modS s.x 13 - 6) = s.c.a := IntWalk.i64_in _ ⟨by omega, by omega⟩
    have w2 : IntKind.wrap .i64 (modS s.y 13 - 6) = s.c.b := IntWalk.i64_in _ ⟨by omega, by omega⟩
    have g1 : s.gw = 1 + modS s.w 5 := rfl
    have g2 : s.gh = 1 + modS s.h 4 := rfl
    have g3 : s.gtw = 1 + modS s.tw s.gw := rfl
    have g4 : s.gth = 1 + modS s.th s.gh := rfl
    have w3 : IntKind.wrap .i64 (1 + modS s.w 5) = s.gw := IntWalk.i64_in _ ⟨by omega, by omega⟩
    have w4 : IntKind.wrap .i64 (1 + modS s.h 4) = s.gh := IntWalk.i64_in _ ⟨by omega, by omega⟩
    have w5 : IntKind.wrap .i64 (s.c.a + s.gw) = s.c.c := by rw [IntWalk.i64_in _ ⟨by omega, by omega⟩]; omega
    have w6 : IntKind.wrap .i64 (s.c.b + s.gh) = s.c.d := by rw [IntWalk.i64_in _ ⟨by omega, by omega⟩]; omega
    have w7 : IntKind.wrap .i64 (1 + modS s.tw s.gw) = s.gtw := IntWalk.i64_in _ ⟨by omega, by omega⟩
    have w8 : IntKind.wrap .i64 (1 + modS s.th s.gh) = s.gth := IntWalk.i64_in _ ⟨by omega, by omega⟩
    have hm := s.tiles_in
    have hM : ∀ n : Nat, n ≤ 100 → n ≤ maxLen := fun n h => by unfold maxLen; omega
    have li := s.ims_len
    have lk := fun k => s.run_len k
    have pq : 1 ≤ s.c.c - s.c.a ∧ s.c.c - s.c.a ≤ 100 ∧ 1 ≤ s.c.d - s.c.b ∧ s.c.d - s.c.b ≤ 100 := by omega
    have BI := s.bits_of
    refine ⟨⟨fun h => ⟨(), rfl, BI.1 h⟩, fun h => ⟨(), rfl, BI.2 h⟩⟩, ⟨(), w1, w2, w3, w4⟩, ⟨(), w5, w6, w7, w8⟩, R13_Tiles_ans _ _ _ _ _ _, ⟨G_Permutation_ans _ _ _ ⟨ho1, ho2⟩ hm.1, (), rfl, rfl⟩, ⟨⟨0, Nat.zero_le _, rfl, rfl, rfl⟩, fun p hp => ⟨fun h1 => ⟨fun h2 => ?_, fun h2 => ?_⟩, fun h1 => ?_⟩⟩, ?_⟩
    · obtain ⟨q0, q1, q2, q3, q4, q5⟩ := hp2 p (by omega)
      refine ⟨⟨by omega, by omega, by omega⟩, ⟨q0, q1, q2, q3, q4⟩, G_ImageD_ans _ _ _ _ _ _ _ _ _ _ _ q5 pq, ⟨by rw [ims_length, s.pics_len], by rw [Im.ds_len], hM _ (by omega), by omega⟩, p + 1, by omega, by omega, wrap_succ (by omega), rfl, ?_⟩
      rw [s.pics_succ, ims_append, ims_one]; rfl
    · have : p = min s.pn 4 := by omega
      subst this
      exact ⟨(), (s.pics_len _).symm, rfl⟩
    · have : p = min s.pn 4 := by omega
      subst this
      exact ⟨(), (s.pics_len _).symm, rfl⟩
    have lp := s.pics_len (min s.pn 4)
    refine ⟨⟨hM _ (by omega), fun h => ?_, fun h => ?_⟩, ⟨⟨0, Nat.zero_le _, ⟨rfl, rfl⟩, rfl, rfl, rfl⟩, fun k hk => ⟨fun h1 => ⟨fun h2 => ?_, fun h2 => ?_⟩, fun h1 => ?_⟩⟩, ?_⟩
    · have h0 : min s.pn 4 = 0 := by rw [lp] at h; simpa using h
      have e1 : s.ims = [s.solo] := by unfold Scn.ims; rw [if_pos h0]
      have e2 : s.pics (min s.pn 4) = [] := by rw [h0]; rfl
      rw [e1, e2]
      exact ⟨R13_Solid_im s.gw s.gh ⟨_, _, _, _, _⟩, ⟨by simp [ims], by simp [Im.ds], hM _ (by simp), by simp⟩, (), rfl, by simp [ims]; rfl⟩
    · have h0 : ¬ min s.pn 4 = 0 := by rw [lp] at h; simpa using h
      have e1 : s.ims = s.pics (min s.pn 4) := by unfold Scn.ims; rw [if_neg h0]
      rw [e1]
      exact ⟨(), rfl, rfl⟩
    · have lk1 := (lk k).1
      have lk2 := (lk k).2
      have ro := fun i (h : i < 11) => hr2 (k * 11 + i) (by omega)
      have wl : 0 < (s.run k).2.length → IntKind.wrap .i64 (((s.run k).2.length : Int) - 1) = (((s.run k).2.length - 1 : Nat) : Int) := fun h => by rw [IntWalk.i64_in _ ⟨by omega, by omega⟩]; omega
      have ws : IntKind.wrap .i64 ((k : Int) + 1) = ((k + 1 : Nat) : Int) := wrap_succ (by omega)
      refine ⟨⟨by omega, by omega, by omega⟩, ro 0 (by omega), hM _ (by omega), ⟨fun a1 => ⟨fun a2 => ?_, fun a2 => ⟨(), fun h => a2 (by omega)⟩⟩, fun a1 => ⟨(), fun h => ?_⟩⟩, fun hn => ⟨⟨fun a1 => ?_, fun a1 => ?_⟩, fun fr hfr => ⟨?_, fun o ho => ?_⟩⟩⟩
      · have a3 : 0 < (s.run k).2.length := by omega
        have a4 : modS (nAt s.rxs (k * 11)) 8 = 0 := by simpa using a1
        have rp := Scn.run_pop (s := s) (k := k) ⟨a4, a3⟩
        rw [wl a3]
        refine ⟨⟨by rw [ops_length, lk1], rfl, hM _ (by omega), by omega⟩, ⟨by omega, by omega⟩, k + 1, by omega, by omega, ⟨?_, ws⟩, ?_, ?_, ?_⟩
        · rw [rp]; simp
        · rw [rp]; simp
        · rw [rp, Int.toNat_natCast, ops_take, List.dropLast_eq_take]
        · rw [rp, ops_append, ops_one]; rfl
      · have a4 : ¬ modS (nAt s.rxs (k * 11)) 8 = 0 := by simpa using a1
        exact a4 h.1
      · have a3 : 0 < (s.run k).2.length := by
          have : ¬ (s.run k).2.length = 0 := by simpa using a1
          omega
        have hl : (s.run k).2.length - 1 < (s.run k).2.length := by omega
        have g10 : (ops (s.run k).2)[((s.run k).2.length - 1) * 12 + 10]? = some (.bool (s.run k).2[(s.run k).2.length - 1].iso) := ops_get hl 10 (by omega)
        have g11 : (ops (s.run k).2)[((s.run k).2.length - 1) * 12 + 11]? = some (.bool (s.run k).2[(s.run k).2.length - 1].kno) := ops_get hl 11 (by omega)
        have b10 : bAt (ops (s.run k).2) (((s.run k).2.length - 1) * 12 + 10) = (s.run k).2[(s.run k).2.length - 1].iso := by simp only [bAt, g10]
        have b11 : bAt (ops (s.run k).2) (((s.run k).2.length - 1) * 12 + 11) = (s.run k).2[(s.run k).2.length - 1].kno := by simp only [bAt, g11]
        rw [wl a3, Int.toNat_natCast, b10, b11, ctxB_last a3]
        refine ⟨⟨by omega, by omega⟩, g10, fun h => ⟨⟨by omega, by omega⟩, g11, _, rfl, ?_⟩, fun h => ⟨_, rfl, ?_⟩⟩ <;> simp [h]
      · have a3 : (s.run k).2.length = 0 := by simpa using a1
        rw [List.length_eq_zero_iff.1 a3]
        exact ⟨_, rfl, rfl⟩
      · subst hfr
        refine ⟨⟨by omega, by omega, by omega⟩, ⟨ro 0 (by omega), ro 1 (by omega), ro 2 (by omega), ro 3 (by omega), ro 4 (by omega), ro 5 (by omega), ro 6 (by omega), ro 7 (by omega), ro 8 (by omega), ro 9 (by omega), ro 10 (by omega)⟩, hM _ (by omega), G_Op_ans (rwAt s.rxs (k * 11)) _ _ _ _ _ ⟨⟨by omega, by omega⟩, by omega, by omega⟩ ⟨by omega, by omega⟩, _, rfl, rfl⟩
      · obtain ⟨r1, r2⟩ := Scn.run_op (s := s) (k := k) hn ho
        clear ho
        refine ⟨⟨by rw [ops_length, lk1], rfl, hM _ (by omega), by omega⟩, fun a1 => ⟨⟨by rw [ops_length], rfl, hM _ (by omega), by omega⟩, k + 1, by omega, by omega, ⟨?_, ws⟩, ?_, ?_, ?_⟩, fun a1 => ⟨k + 1, by omega, by omega, ⟨?_, ws⟩, ?_, ?_, ?_⟩⟩
        · rw [r1 (by simpa using a1)]; simp
        · rw [r1 (by simpa using a1)]; simp
        · rw [r1 (by simpa using a1), ops_append, ops_one]
        · rw [r1 (by simpa using a1), ops_append, ops_one]
        · rw [r2 (by simpa using a1)]
        · rw [r2 (by simpa using a1)]; simp
        · rw [r2 (by simpa using a1)]
        · rw [r2 (by simpa using a1), ops_append, ops_one]
    · have : k = min s.rn 9 := by omega
      subst this
      exact ⟨(), rfl, rfl, rfl, rfl⟩
    · have : k = min s.rn 9 := by omega
      subst this
      exact ⟨(), rfl, rfl, rfl, rfl⟩
    · have e : s.ops = (s.run (min s.rn 9)).1 ++ List.replicate (s.run (min s.rn 9)).2.length popO := rfl
      have lr := lk (min s.rn 9)
      rw [e]
      generalize s.run (min s.rn 9) = z at *
      refine ⟨⟨0, Nat.zero_le _, rfl, by simp, by simp⟩, fun j hj => ⟨hM _ (by omega), fun h => ?_, fun h => ?_⟩⟩
      · have e2 : z.1 ++ List.replicate (j + 1) popO = (z.1 ++ List.replicate j popO) ++ [popO] := by rw [List.append_assoc, List.replicate_succ']
        refine ⟨⟨by rw [ops_length], rfl, hM _ (by simp; omega), by simp; omega⟩, j + 1, by omega, by omega, wrap_succ (by omega), ?_, ?_⟩
        · rw [e2]; simp; omega
        · rw [e2, ops_append _ [popO], ops_one]; rfl
      · have : j = z.2.length := by omega
        subst this
        exact ⟨⟨rfl, rfl⟩, trivial⟩

end Go.Proofs.YthlmmlcdoiahkaaDoor

/-
  Check of a whole script, of package validate and of the reference.
-/
namespace Go.Proofs.YthlmmlcdoiahkaaDoor
open Go.RowKit
set_option linter.unusedVariables false
set_option linter.unusedSimpArgs false
attribute [local irreducible] Ans AnsO AnsG AnsN AnsI

set_option maxRecDepth 4000
/-- a script in plain words -/
structure Scr where
  bits : Int
  c : Rc
  tw : Int
  th : Int
  ord : List Int
  ims : List Im
  ops : List Oq
def imsE (most : Int) : List Im → Int → Int × Int
  | [], _ => (0, 0)
  | m :: r, i => if m.valid most = 0 then imsE most r (i + 1) else (m.valid most, i)
def Scr.frame (s : Scr) : Int := frameE s.bits s.c s.tw s.th s.ord s.ims.length s.ops.length
def Scr.run (s : Scr) : Int × Int := opsE s.bits s.c s.tw s.th s.ord s.ims.length s.ops
def checkE (s : Scr) : Int × Int :=
  if s.frame = 0 then (if (imsE (mostS s.bits) s.ims 0).1 = 0 then s.run else imsE (mostS s.bits) s.ims 0) else (s.frame, 0)
def gamVf : Gam where
 pure := fun f xs =>
  if f = 15 then (match xs with | [.agg [.int _ bits, .int _ cx0, .int _ cy0, .int _ cx1, .int _ cy1, .int _ tw, .int _ th, .sl on oxs, .sl mn mxs, .sl pn pxs]] => some (RV.d (DV.int .i64 (frameE bits ⟨cx0, cy0, cx1, cy1⟩ tw th (ints oxs) mn pn))) | _ => none) else
  if f = 19 then (match xs with | [.agg [.int _ bits, .int _ cx0, .int _ cy0, .int _ cx1, .int _ cy1, .int _ tw, .int _ th, .sl on oxs, .sl mn mxs, .sl pn pxs]] => some (RV.d (DV.int .i64 (frameE bits ⟨cx0, cy0, cx1, cy1⟩ tw th (ints oxs) mn pn))) | _ => none) else
  if f = 29 then (match xs with | [.d (.int _ b)] => some (RV.tup [RV.d (DV.int .u16 (mostS b)), RV.d (DV.bool (bitsOk b))]) | _ => none) else
  if f = 36 then (match xs with | [.d (.int _ b)] => some (RV.tup [RV.d (DV.int .u16 (mostS b)), RV.d (DV.bool (bitsOk b))]) | _ => none) else
  if f = 30 then (match xs with | [.agg [.int _ w, .int _ h, .bool so, .int _ c0, .int _ c1, .int _ c2, .int _ ca, .int _ cf, .int _ w0, .int _ h0, .int _ s0, .sl n0 xs0, .int _ w1, .int _ h1, .int _ s1, .sl n1 xs1, .int _ w2, .int _ h2, .int _ s2, .sl n2 xs2, .int _ w3, .int _ h3, .int _ s3, .sl n3 xs3, .int _ w4, .int _ h4, .int _ s4, .sl n4 xs4], .d (.int _ most)] => some (RV.d (DV.int .i64 (Im.valid ⟨w, h, so, ⟨c0, c1, c2, ca, cf⟩, ⟨w0, h0, s0, n0, xs0⟩, ⟨w1, h1, s1, n1, xs1⟩, ⟨w2, h2, s2, n2, xs2⟩, ⟨w3, h3, s3, n3, xs3⟩, ⟨w4, h4, s4, n4, xs4⟩⟩ most))) | _ => none) else
  if f = 37 then (match xs with | [.agg [.int _ w, .int _ h, .bool so, .int _ c0, .int _ c1, .int _ c2, .int _ ca, .int _ cf, .int _ w0, .int _ h0, .int _ s0, .sl n0 xs0, .int _ w1, .int _ h1, .int _ s1, .sl n1 xs1, .int _ w2, .int _ h2, .int _ s2, .sl n2 xs2, .int _ w3, .int _ h3, .int _ s3, .sl n3 xs3, .int _ w4, .int _ h4, .int _ s4, .sl n4 xs4], .d (.int _ most)] => some (RV.d (DV.int .i64 (Im.valid ⟨w, h, so, ⟨c0, c1, c2, ca, cf⟩, ⟨w0, h0, s0, n0, xs0⟩, ⟨w1, h1, s1, n1, xs1⟩, ⟨w2, h2, s2, n2, xs2⟩, ⟨w3, h3, s3, n3, xs3⟩, ⟨w4, h4, s4, n4, xs4⟩⟩ most))) | _ => none) else
  if f = 13 then (match xs with | [.agg [.int _ bits, .int _ cx0, .int _ cy0, .int _ cx1, .int _ cy1, .int _ tw, .int _ th, .sl on oxs, .sl mn mxs, .sl pn pxs]] => some (RV.tup [RV.d (DV.int .i64 ((opsE bits ⟨cx0, cy0, cx1, cy1⟩ tw th (ints oxs) mn (toOps pxs)).1)), RV.d (DV.int .i64 ((opsE bits ⟨cx0, cy0, cx1, cy1⟩ tw th (ints oxs) mn (toOps pxs)).2))]) | _ => none) else
  if f = 18 then (match xs with | [.agg [.int _ bits, .int _ cx0, .int _ cy0, .int _ cx1, .int _ cy1, .int _ tw, .int _ th, .sl on oxs, .sl mn mxs, .sl pn pxs]] => some (RV.tup [RV.d (DV.int .i64 ((opsE bits ⟨cx0, cy0, cx1, cy1⟩ tw th (ints oxs) mn (toOps pxs)).1)), RV.d (DV.int .i64 ((opsE bits ⟨cx0, cy0, cx1, cy1⟩ tw th (ints oxs) mn (toOps pxs)).2))]) | _ => none) else
  none
 modes := fun f =>
  none
 proc := fun f xs bs =>
  none
 iter := fun f cs =>
  none

def validate_Check_ann (bits : Int) (cx0 : Int) (cy0 : Int) (cx1 : Int) (cy1 : Int) (tw : Int) (th : Int) (on : Nat) (oxs : List DV) (mn : Nat) (mxs : List DV) (pn : Nat) (pxs : List DV) : Ann := (Ann.seq Ann.leaf (Ann.seq Ann.leaf (Ann.seq Ann.leaf (Ann.seq (Ann.seq Ann.leaf (Ann.loop ⟨Nat, fun k => k ≤ mn ∧ imsE (mostS bits) ((toIms mxs).drop k) (k : Int) = imsE (mostS bits) (toIms mxs) 0, fun k => ⟨[(1, AV.one (Cl.ptr 1 0)), (5, AV.one (Cl.d (DV.int .u16 (mostS bits)))), (22, AV.one (Cl.d (DV.sl mn mxs))), (23, AV.one (Cl.d (DV.int .i64 ((mn : Nat) : Int)))), (24, AV.one (Cl.d (DV.int .i64 ((k : Nat) : Int))))], [(1, Bx.cells [Cl.d (DV.int .i64 bits), Cl.d (DV.int .i64 cx0), Cl.d (DV.int .i64 cy0), Cl.d (DV.int .i64 cx1), Cl.d (DV.int .i64 cy1), Cl.d (DV.int .i64 tw), Cl.d (DV.int .i64 th), Cl.d (DV.sl on oxs), Cl.d (DV.sl mn mxs), Cl.d (DV.sl pn pxs)])]⟩, fun k => mn - k⟩ fun k => Ann.leaf)) Ann.leaf))))
theorem validate_Check_vc (bits : Int) (cx0 : Int) (cy0 : Int) (cx1 : Int) (cy1 : Int) (tw : Int) (th : Int) (on : Nat) (oxs : List DV) (mn : Nat) (mxs : List DV) (pn : Nat) (pxs : List DV) : vcg Tryd.prog gamVf 41 (bodyOf Tryd.f12) (validate_Check_ann bits cx0 cy0 cx1 cy1 tw th on oxs mn mxs pn pxs) kn0 (start [RV.agg [DV.int .i64 bits, DV.int .i64 cx0, DV.int .i64 cy0, DV.int .i64 cx1, DV.int .i64 cy1, DV.int .i64 tw, DV.int .i64 th, DV.sl on oxs, DV.sl mn mxs, DV.sl pn pxs]]) (post Tryd.prog Tryd.f12.results.toList (· = RV.tup [RV.d (DV.int .i64 ((checkE ⟨bits, ⟨cx0, cy0, cx1, cy1⟩, tw, th, ints oxs, toIms mxs, toOps pxs⟩).1)), RV.d (DV.int .i64 ((checkE ⟨bits, ⟨cx0, cy0, cx1, cy1⟩, tw, th, ints oxs, toIms mxs, toOps pxs⟩).2))])) =
  (let zz0 := [DV.int .i64 bits, DV.int .i64 cx0, DV.int .i64 cy0, DV.int .i64 cx1, DV.int .i64 cy1, DV.int .i64 tw, DV.int .i64 th, DV.sl on oxs, DV.sl mn mxs, DV.sl pn pxs]; let zz1 := [RV.agg zz0]; let zz2 := (DV.int .i64 (frameE bits ⟨cx0, cy0, cx1, cy1⟩ tw th (ints oxs) mn pn)); let zz3 := [RV.d (DV.int .i64 ((checkE ⟨bits, ⟨cx0, cy0, cx1, cy1⟩, tw, th, ints oxs, toIms mxs, toOps pxs⟩).1)), RV.d (DV.int .i64 ((checkE ⟨bits, ⟨cx0, cy0, cx1, cy1⟩, tw, th, ints oxs, toIms mxs, toOps pxs⟩).2))]; let zz4 := fun (k : Nat) => (k ≤ mn ∧ imsE (mostS bits) ((toIms mxs).drop k) (k : Int) = imsE (mostS bits) (toIms mxs) 0); let zz5 := (DV.int .u16 (mostS bits) = DV.int .u16 (mostS bits)); let zz6 := (DV.sl mn mxs = DV.sl mn mxs); let zz7 := (DV.int .i64 ((mn : Nat) : Int) = DV.int .i64 ((mn : Nat) : Int)); let zz8 := ((zz0 = zz0) ∧ True); let zz9 := [RV.d (DV.int .i64 ((opsE bits ⟨cx0, cy0, cx1, cy1⟩ tw th (ints oxs) mn (toOps pxs)).1)), RV.d (DV.int .i64 ((opsE bits ⟨cx0, cy0, cx1, cy1⟩ tw th (ints oxs) mn (toOps pxs)).2))]; True ∧ True ∧ True ∧ True ∧ (Ans Tryd.prog 15 zz1 (RV.d zz2)) ∧ True ∧ True ∧ True ∧ ((((frameE bits ⟨cx0, cy0, cx1, cy1⟩ tw th (ints oxs) mn pn) != (0 : Int)) = true → True ∧ True ∧ True ∧ RV.tup [RV.d zz2, RV.d (DV.int .i64 0)] = RV.tup zz3) ∧ (((frameE bits ⟨cx0, cy0, cx1, cy1⟩ tw th (ints oxs) mn pn) != (0 : Int)) = false → True ∧ True ∧ (Ans Tryd.prog 29 [RV.d (DV.int .i64 bits)] (RV.tup [RV.d (DV.int .u16 (mostS bits)), RV.d (DV.bool (bitsOk bits))])) ∧ True ∧ True ∧ True ∧ True ∧ True ∧ True ∧ True ∧ True ∧ True ∧ ((∃ k : Nat, (zz4 k) ∧ (((0 = 0) ∧ zz5 ∧ zz6 ∧ zz7 ∧ (DV.int .i64 0 = DV.int .i64 ((k : Nat) : Int)) ∧ True) ∧ zz8)) ∧ ∀ k : Nat, (zz4 k) → True ∧ (((decide (((k : Nat) : Int) < ((mn : Nat) : Int))) = true → True ∧ (0 ≤ ((k : Nat) : Int) ∧ ((k : Nat) : Int) < ((mn : Nat) : Int) ∧ ((k : Nat) : Int).toNat * 28 < mxs.length) ∧ ((mxs[((k : Nat) : Int).toNat * 28]? = some (DV.int .i64 (nAt mxs (((k : Nat) : Int).toNat * 28)))) ∧ (mxs[((k : Nat) : Int).toNat * 28 + 1]? = some (DV.int .i64 (nAt mxs (((k : Nat) : Int).toNat * 28 + 1)))) ∧ (mxs[((k : Nat) : Int).toNat * 28 + 1 + 1]? = some (DV.bool (bAt mxs (((k : Nat) : Int).toNat * 28 + 1 + 1)))) ∧ (mxs[((k : Nat) : Int).toNat * 28 + 1 + 1 + 1]? = some (DV.int .u16 (nAt mxs (((k : Nat) : Int).toNat * 28 + 1 + 1 + 1)))) ∧ (mxs[((k : Nat) : Int).toNat * 28 + 1 + 1 + 1 + 1]? = some (DV.int .u16 (nAt mxs (((k : Nat) : Int).toNat * 28 + 1 + 1 + 1 + 1)))) ∧ (mxs[((k : Nat) : Int).toNat * 28 + 1 + 1 + 1 + 1 + 1]? = some (DV.int .u16 (nAt mxs (((k : Nat) : Int).toNat * 28 + 1 + 1 + 1 + 1 + 1)))) ∧ (mxs[((k : Nat) : Int).toNat * 28 + 1 + 1 + 1 + 1 + 1 + 1]? = some (DV.int .u16 (nAt mxs (((k : Nat) : Int).toNat * 28 + 1 + 1 + 1 + 1 + 1 + 1)))) ∧ (mxs[((k : Nat) : Int).toNat * 28 + 1 + 1 + 1 + 1 + 1 + 1 + 1]? = some (DV.int .u16 (nAt mxs (((k : Nat) : Int).toNat * 28 + 1 + 1 + 1 + 1 + 1 + 1 + 1)))) ∧ (mxs[((k : Nat) : Int).toNat * 28 + 1 + 1 + 1 + 1 + 1 + 1 + 1 + 1]? = some (DV.int .i64 (nAt mxs (((k : Nat) : Int).toNat * 28 + 1 + 1 + 1 + 1 + 1 + 1 + 1 + 1)))) ∧ (mxs[((k : Nat) : Int).toNat * 28 + 1 + 1 + 1 + 1 + 1 + 1 + 1 + 1 + 1]? = some (DV.int .i64 (nAt mxs (((k : Nat) : Int).toNat * 28 + 1 + 1 + 1 + 1 + 1 + 1 + 1 + 1 + 1)))) ∧ (mxs[((k : Nat) : Int).toNat * 28 + 1 + 1 + 1 + 1 + 1 + 1 + 1 + 1 + 1 + 1]? = some (DV.int .i64 (nAt mxs (((k : Nat) : Int).toNat * 28 + 1 + 1 + 1 + 1 + 1 + 1 + 1 + 1 + 1 + 1)))) ∧ (mxs[((k : Nat) : Int).toNat * 28 + 1 + 1 + 1 + 1 + 1 + 1 + 1 + 1 + 1 + 1 + 1]? = some (DV.sl (lAt mxs (((k : Nat) : Int).toNat * 28 + 1 + 1 + 1 + 1 + 1 + 1 + 1 + 1 + 1 + 1 + 1)) (cAt mxs (((k : Nat) : Int).toNat * 28 + 1 + 1 + 1 + 1 + 1 + 1 + 1 + 1 + 1 + 1 + 1)))) ∧ (mxs[((k : Nat) : Int).toNat * 28 + 1 + 1 + 1 + 1 + 1 + 1 + 1 + 1 + 1 + 1 + 1 + 1]? = some (DV.int .i64 (nAt mxs (((k : Nat) : Int).toNat * 28 + 1 + 1 + 1 + 1 + 1 + 1 + 1 + 1 + 1 + 1 + 1 + 1)))) ∧ (mxs[((k : Nat) : Int).toNat * 28 + 1 + 1 + 1 + 1 + 1 + 1 + 1 + 1 + 1 + 1 + 1 + 1 + 1]? = some (DV.int .i64 (nAt mxs (((k : Nat) : Int).toNat * 28 + 1 + 1 + 1 + 1 + 1 + 1 + 1 + 1 + 1 + 1 + 1 + 1 + 1)))) ∧ (mxs[((k : Nat) : Int).toNat * 28 + 1 + 1 + 1 + 1 + 1 + 1 + 1 + 1 + 1 + 1 + 1 + 1 + 1 + 1]? = some (DV.int .i64 (nAt mxs (((k : Nat) : Int).toNat * 28 + 1 + 1 + 1 + 1 + 1 + 1 + 1 + 1 + 1 + 1 + 1 + 1 + 1 + 1)))) ∧ (mxs[((k : Nat) : Int).toNat * 28 + 1 + 1 + 1 + 1 + 1 + 1 + 1 + 1 + 1 + 1 + 1 + 1 + 1 + 1 + 1]? = some (DV.sl (lAt mxs (((k : Nat) : Int).toNat * 28 + 1 + 1 + 1 + 1 + 1 + 1 + 1 + 1 + 1 + 1 + 1 + 1 + 1 + 1 + 1)) (cAt mxs (((k : Nat) : Int).toNat * 28 + 1 + 1 + 1 + 1 + 1 + 1 + 1 + 1 + 1 + 1 + 1 + 1 + 1 + 1 + 1)))) ∧ (mxs[((k : Nat) : Int).toNat * 28 + 1 + 1 + 1 + 1 + 1 + 1 + 1 + 1 + 1 + 1 + 1 + 1 + 1 + 1 + 1 + 1]? = some (DV.int .i64 (nAt mxs (((k : Nat) : Int).toNat * 28 + 1 + 1 + 1 + 1 + 1 + 1 + 1 + 1 + 1 + 1 + 1 + 1 + 1 + 1 + 1 + 1)))) ∧ (mxs[((k : Nat) : Int).toNat * 28 + 1 + 1 + 1 + 1 + 1 + 1 + 1 + 1 + 1 + 1 + 1 + 1 + 1 + 1 + 1 + 1 + 1]? = some (DV.int .i64 (nAt mxs (((k : Nat) : Int).toNat * 28 + 1 + 1 + 1 + 1 + 1 + 1 + 1 + 1 + 1 + 1 + 1 + 1 + 1 + 1 + 1 + 1 + 1)))) ∧ (mxs[((k : Nat) : Int).toNat * 28 + 1 + 1 + 1 + 1 + 1 + 1 + 1 + 1 + 1 + 1 + 1 + 1 + 1 + 1 + 1 + 1 + 1 + 1]? = some (DV.int .i64 (nAt mxs (((k : Nat) : Int).toNat * 28 + 1 + 1 + 1 + 1 + 1 + 1 + 1 + 1 + 1 + 1 + 1 + 1 + 1 + 1 + 1 + 1 + 1 + 1)))) ∧ (mxs[((k : Nat) : Int).toNat * 28 + 1 + 1 + 1 + 1 + 1 + 1 + 1 + 1 + 1 + 1 + 1 + 1 + 1 + 1 + 1 + 1 + 1 + 1 + 1]? = some (DV.sl (lAt mxs (((k : Nat) : Int).toNat * 28 + 1 + 1 + 1 + 1 + 1 + 1 + 1 + 1 + 1 + 1 + 1 + 1 + 1 + 1 + 1 + 1 + 1 + 1 + 1)) (cAt mxs (((k : Nat) : Int).toNat * 28 + 1 + 1 + 1 + 1 + 1 + 1 + 1 + 1 + 1 + 1 + 1 + 1 + 1 + 1 + 1 + 1 + 1 + 1 + 1)))) ∧ (mxs[((k : Nat) : Int).toNat * 28 + 1 + 1 + 1 + 1 + 1 + 1 + 1 + 1 + 1 + 1 + 1 + 1 + 1 + 1 + 1 + 1 + 1 + 1 + 1 + 1]? = some (DV.int .i64 (nAt mxs (((k : Nat) : Int).toNat * 28 + 1 + 1 + 1 + 1 + 1 + 1 + 1 + 1 + 1 + 1 + 1 + 1 + 1 + 1 + 1 + 1 + 1 + 1 + 1 + 1)))) ∧ (mxs[((k : Nat) : Int).toNat * 28 + 1 + 1 + 1 + 1 + 1 + 1 + 1 + 1 + 1 + 1 + 1 + 1 + 1 + 1 + 1 + 1 + 1 + 1 + 1 + 1 + 1]? = some (DV.int .i64 (nAt mxs (((k : Nat) : Int).toNat * 28 + 1 + 1 + 1 + 1 + 1 + 1 + 1 + 1 + 1 + 1 + 1 + 1 + 1 + 1 + 1 + 1 + 1 + 1 + 1 + 1 + 1)))) ∧ (mxs[((k : Nat) : Int).toNat * 28 + 1 + 1 + 1 + 1 + 1 + 1 + 1 + 1 + 1 + 1 + 1 + 1 + 1 + 1 + 1 + 1 + 1 + 1 + 1 + 1 + 1 + 1]? = some (DV.int .i64 (nAt mxs (((k : Nat) : Int).toNat * 28 + 1 + 1 + 1 + 1 + 1 + 1 + 1 + 1 + 1 + 1 + 1 + 1 + 1 + 1 + 1 + 1 + 1 + 1 + 1 + 1 + 1 + 1)))) ∧ (mxs[((k : Nat) : Int).toNat * 28 + 1 + 1 + 1 + 1 + 1 + 1 + 1 + 1 + 1 + 1 + 1 + 1 + 1 + 1 + 1 + 1 + 1 + 1 + 1 + 1 + 1 + 1 + 1]? = some (DV.sl (lAt mxs (((k : Nat) : Int).toNat * 28 + 1 + 1 + 1 + 1 + 1 + 1 + 1 + 1 + 1 + 1 + 1 + 1 + 1 + 1 + 1 + 1 + 1 + 1 + 1 + 1 + 1 + 1 + 1)) (cAt mxs (((k : Nat) : Int).toNat * 28 + 1 + 1 + 1 + 1 + 1 + 1 + 1 + 1 + 1 + 1 + 1 + 1 + 1 + 1 + 1 + 1 + 1 + 1 + 1 + 1 + 1 + 1 + 1)))) ∧ (mxs[((k : Nat) : Int).toNat * 28 + 1 + 1 + 1 + 1 + 1 + 1 + 1 + 1 + 1 + 1 + 1 + 1 + 1 + 1 + 1 + 1 + 1 + 1 + 1 + 1 + 1 + 1 + 1 + 1]? = some (DV.int .i64 (nAt mxs (((k : Nat) : Int).toNat * 28 + 1 + 1 + 1 + 1 + 1 + 1 + 1 + 1 + 1 + 1 + 1 + 1 + 1 + 1 + 1 + 1 + 1 + 1 + 1 + 1 + 1 + 1 + 1 + 1)))) ∧ (mxs[((k : Nat) : Int).toNat * 28 + 1 + 1 + 1 + 1 + 1 + 1 + 1 + 1 + 1 + 1 + 1 + 1 + 1 + 1 + 1 + 1 + 1 + 1 + 1 + 1 + 1 + 1 + 1 + 1 + 1]? = some (DV.int .i64 (nAt mxs (((k : Nat) : Int).toNat * 28 + 1 + 1 + 1 + 1 + 1 + 1 + 1 + 1 + 1 + 1 + 1 + 1 + 1 + 1 + 1 + 1 + 1 + 1 + 1 + 1 + 1 + 1 + 1 + 1 + 1)))) ∧ (mxs[((k : Nat) : Int).toNat * 28 + 1 + 1 + 1 + 1 + 1 + 1 + 1 + 1 + 1 + 1 + 1 + 1 + 1 + 1 + 1 + 1 + 1 + 1 + 1 + 1 + 1 + 1 + 1 + 1 + 1 + 1]? = some (DV.int .i64 (nAt mxs (((k : Nat) : Int).toNat * 28 + 1 + 1 + 1 + 1 + 1 + 1 + 1 + 1 + 1 + 1 + 1 + 1 + 1 + 1 + 1 + 1 + 1 + 1 + 1 + 1 + 1 + 1 + 1 + 1 + 1 + 1)))) ∧ (mxs[((k : Nat) : Int).toNat * 28 + 1 + 1 + 1 + 1 + 1 + 1 + 1 + 1 + 1 + 1 + 1 + 1 + 1 + 1 + 1 + 1 + 1 + 1 + 1 + 1 + 1 + 1 + 1 + 1 + 1 + 1 + 1]? = some (DV.sl (lAt mxs (((k : Nat) : Int).toNat * 28 + 1 + 1 + 1 + 1 + 1 + 1 + 1 + 1 + 1 + 1 + 1 + 1 + 1 + 1 + 1 + 1 + 1 + 1 + 1 + 1 + 1 + 1 + 1 + 1 + 1 + 1 + 1)) (cAt mxs (((k : Nat) : Int).toNat * 28 + 1 + 1 + 1 + 1 + 1 + 1 + 1 + 1 + 1 + 1 + 1 + 1 + 1 + 1 + 1 + 1 + 1 + 1 + 1 + 1 + 1 + 1 + 1 + 1 + 1 + 1 + 1)))) ∧ True) ∧ True ∧ True ∧ True ∧ True ∧ True ∧ (Ans Tryd.prog 30 [RV.agg [DV.int .i64 (nAt mxs (((k : Nat) : Int).toNat * 28)), DV.int .i64 (nAt mxs (((k : Nat) : Int).toNat * 28 + 1)), DV.bool (bAt mxs (((k : Nat) : Int).toNat * 28 + 1 + 1)), DV.int .u16 (nAt mxs (((k : Nat) : Int).toNat * 28 + 1 + 1 + 1)), DV.int .u16 (nAt mxs (((k : Nat) : Int).toNat * 28 + 1 + 1 + 1 + 1)), DV.int .u16 (nAt mxs (((k : Nat) : Int).toNat * 28 + 1 + 1 + 1 + 1 + 1)), DV.int .u16 (nAt mxs (((k : Nat) : Int).toNat * 28 + 1 + 1 + 1 + 1 + 1 + 1)), DV.int .u16 (nAt mxs (((k : Nat) : Int).toNat * 28 + 1 + 1 + 1 + 1 + 1 + 1 + 1)), DV.int .i64 (nAt mxs (((k : Nat) : Int).toNat * 28 + 1 + 1 + 1 + 1 + 1 + 1 + 1 + 1)), DV.int .i64 (nAt mxs (((k : Nat) : Int).toNat * 28 + 1 + 1 + 1 + 1 + 1 + 1 + 1 + 1 + 1)), DV.int .i64 (nAt mxs (((k : Nat) : Int).toNat * 28 + 1 + 1 + 1 + 1 + 1 + 1 + 1 + 1 + 1 + 1)), DV.sl (lAt mxs (((k : Nat) : Int).toNat * 28 + 1 + 1 + 1 + 1 + 1 + 1 + 1 + 1 + 1 + 1 + 1)) (cAt mxs (((k : Nat) : Int).toNat * 28 + 1 + 1 + 1 + 1 + 1 + 1 + 1 + 1 + 1 + 1 + 1)), DV.int .i64 (nAt mxs (((k : Nat) : Int).toNat * 28 + 1 + 1 + 1 + 1 + 1 + 1 + 1 + 1 + 1 + 1 + 1 + 1)), DV.int .i64 (nAt mxs (((k : Nat) : Int).toNat * 28 + 1 + 1 + 1 + 1 + 1 + 1 + 1 + 1 + 1 + 1 + 1 + 1 + 1)), DV.int .i64 (nAt mxs (((k : Nat) : Int).toNat * 28 + 1 + 1 + 1 + 1 + 1 + 1 + 1 + 1 + 1 + 1 + 1 + 1 + 1 + 1)), DV.sl (lAt mxs (((k : Nat) : Int).toNat * 28 + 1 + 1 + 1 + 1 + 1 + 1 + 1 + 1 + 1 + 1 + 1 + 1 + 1 + 1 + 1)) (cAt mxs (((k : Nat) : Int).toNat * 28 + 1 + 1 + 1 + 1 + 1 + 1 + 1 + 1 + 1 + 1 + 1 + 1 + 1 + 1 + 1)), DV.int .i64 (nAt mxs (((k : Nat) : Int).toNat * 28 + 1 + 1 + 1 + 1 + 1 + 1 + 1 + 1 + 1 + 1 + 1 + 1 + 1 + 1 + 1 + 1)), DV.int .i64 (nAt mxs (((k : Nat) : Int).toNat * 28 + 1 + 1 + 1 + 1 + 1 + 1 + 1 + 1 + 1 + 1 + 1 + 1 + 1 + 1 + 1 + 1 + 1)), DV.int .i64 (nAt mxs (((k : Nat) : Int).toNat * 28 + 1 + 1 + 1 + 1 + 1 + 1 + 1 + 1 + 1 + 1 + 1 + 1 + 1 + 1 + 1 + 1 + 1 + 1)), DV.sl (lAt mxs (((k : Nat) : Int).toNat * 28 + 1 + 1 + 1 + 1 + 1 + 1 + 1 + 1 + 1 + 1 + 1 + 1 + 1 + 1 + 1 + 1 + 1 + 1 + 1)) (cAt mxs (((k : Nat) : Int).toNat * 28 + 1 + 1 + 1 + 1 + 1 + 1 + 1 + 1 + 1 + 1 + 1 + 1 + 1 + 1 + 1 + 1 + 1 + 1 + 1)), DV.int .i64 (nAt mxs (((k : Nat) : Int).toNat * 28 + 1 + 1 + 1 + 1 + 1 + 1 + 1 + 1 + 1 + 1 + 1 + 1 + 1 + 1 + 1 + 1 + 1 + 1 + 1 + 1)), DV.int .i64 (nAt mxs (((k : Nat) : Int).toNat * 28 + 1 + 1 + 1 + 1 + 1 + 1 + 1 + 1 + 1 + 1 + 1 + 1 + 1 + 1 + 1 + 1 + 1 + 1 + 1 + 1 + 1)), DV.int .i64 (nAt mxs (((k : Nat) : Int).toNat * 28 + 1 + 1 + 1 + 1 + 1 + 1 + 1 + 1 + 1 + 1 + 1 + 1 + 1 + 1 + 1 + 1 + 1 + 1 + 1 + 1 + 1 + 1)), DV.sl (lAt mxs (((k : Nat) : Int).toNat * 28 + 1 + 1 + 1 + 1 + 1 + 1 + 1 + 1 + 1 + 1 + 1 + 1 + 1 + 1 + 1 + 1 + 1 + 1 + 1 + 1 + 1 + 1 + 1)) (cAt mxs (((k : Nat) : Int).toNat * 28 + 1 + 1 + 1 + 1 + 1 + 1 + 1 + 1 + 1 + 1 + 1 + 1 + 1 + 1 + 1 + 1 + 1 + 1 + 1 + 1 + 1 + 1 + 1)), DV.int .i64 (nAt mxs (((k : Nat) : Int).toNat * 28 + 1 + 1 + 1 + 1 + 1 + 1 + 1 + 1 + 1 + 1 + 1 + 1 + 1 + 1 + 1 + 1 + 1 + 1 + 1 + 1 + 1 + 1 + 1 + 1)), DV.int .i64 (nAt mxs (((k : Nat) : Int).toNat * 28 + 1 + 1 + 1 + 1 + 1 + 1 + 1 + 1 + 1 + 1 + 1 + 1 + 1 + 1 + 1 + 1 + 1 + 1 + 1 + 1 + 1 + 1 + 1 + 1 + 1)), DV.int .i64 (nAt mxs (((k : Nat) : Int).toNat * 28 + 1 + 1 + 1 + 1 + 1 + 1 + 1 + 1 + 1 + 1 + 1 + 1 + 1 + 1 + 1 + 1 + 1 + 1 + 1 + 1 + 1 + 1 + 1 + 1 + 1 + 1)), DV.sl (lAt mxs (((k : Nat) : Int).toNat * 28 + 1 + 1 + 1 + 1 + 1 + 1 + 1 + 1 + 1 + 1 + 1 + 1 + 1 + 1 + 1 + 1 + 1 + 1 + 1 + 1 + 1 + 1 + 1 + 1 + 1 + 1 + 1)) (cAt mxs (((k : Nat) : Int).toNat * 28 + 1 + 1 + 1 + 1 + 1 + 1 + 1 + 1 + 1 + 1 + 1 + 1 + 1 + 1 + 1 + 1 + 1 + 1 + 1 + 1 + 1 + 1 + 1 + 1 + 1 + 1 + 1))], RV.d (DV.int .u16 (mostS bits))] (RV.d (DV.int .i64 (Im.valid ⟨(nAt mxs (((k : Nat) : Int).toNat * 28)), (nAt mxs (((k : Nat) : Int).toNat * 28 + 1)), (bAt mxs (((k : Nat) : Int).toNat * 28 + 1 + 1)), ⟨(nAt mxs (((k : Nat) : Int).toNat * 28 + 1 + 1 + 1)), (nAt mxs (((k : Nat) : Int).toNat * 28 + 1 + 1 + 1 + 1)), (nAt mxs (((k : Nat) : Int).toNat * 28 + 1 + 1 + 1 + 1 + 1)), (nAt mxs (((k : Nat) : Int).toNat * 28 + 1 + 1 + 1 + 1 + 1 + 1)), (nAt mxs (((k : Nat) : Int).toNat * 28 + 1 + 1 + 1 + 1 + 1 + 1 + 1))⟩, ⟨(nAt mxs (((k : Nat) : Int).toNat * 28 + 1 + 1 + 1 + 1 + 1 + 1 + 1 + 1)), (nAt mxs (((k : Nat) : Int).toNat * 28 + 1 + 1 + 1 + 1 + 1 + 1 + 1 + 1 + 1)), (nAt mxs (((k : Nat) : Int).toNat * 28 + 1 + 1 + 1 + 1 + 1 + 1 + 1 + 1 + 1 + 1)), (lAt mxs (((k : Nat) : Int).toNat * 28 + 1 + 1 + 1 + 1 + 1 + 1 + 1 + 1 + 1 + 1 + 1)), (cAt mxs (((k : Nat) : Int).toNat * 28 + 1 + 1 + 1 + 1 + 1 + 1 + 1 + 1 + 1 + 1 + 1))⟩, ⟨(nAt mxs (((k : Nat) : Int).toNat * 28 + 1 + 1 + 1 + 1 + 1 + 1 + 1 + 1 + 1 + 1 + 1 + 1)), (nAt mxs (((k : Nat) : Int).toNat * 28 + 1 + 1 + 1 + 1 + 1 + 1 + 1 + 1 + 1 + 1 + 1 + 1 + 1)), (nAt mxs (((k : Nat) : Int).toNat * 28 + 1 + 1 + 1 + 1 + 1 + 1 + 1 + 1 + 1 + 1 + 1 + 1 + 1 + 1)), (lAt mxs (((k : Nat) : Int).toNat * 28 + 1 + 1 + 1 + 1 + 1 + 1 + 1 + 1 + 1 + 1 + 1 + 1 + 1 + 1 + 1)), (cAt mxs (((k : Nat) : Int).toNat * 28 + 1 + 1 + 1 + 1 + 1 + 1 + 1 + 1 + 1 + 1 + 1 + 1 + 1 + 1 + 1))⟩, ⟨(nAt mxs (((k : Nat) : Int).toNat * 28 + 1 + 1 + 1 + 1 + 1 + 1 + 1 + 1 + 1 + 1 + 1 + 1 + 1 + 1 + 1 + 1)), (nAt mxs (((k : Nat) : Int).toNat * 28 + 1 + 1 + 1 + 1 + 1 + 1 + 1 + 1 + 1 + 1 + 1 + 1 + 1 + 1 + 1 + 1 + 1)), (nAt mxs (((k : Nat) : Int).toNat * 28 + 1 + 1 + 1 + 1 + 1 + 1 + 1 + 1 + 1 + 1 + 1 + 1 + 1 + 1 + 1 + 1 + 1 + 1)), (lAt mxs (((k : Nat) : Int).toNat * 28 + 1 + 1 + 1 + 1 + 1 + 1 + 1 + 1 + 1 + 1 + 1 + 1 + 1 + 1 + 1 + 1 + 1 + 1 + 1)), (cAt mxs (((k : Nat) : Int).toNat * 28 + 1 + 1 + 1 + 1 + 1 + 1 + 1 + 1 + 1 + 1 + 1 + 1 + 1 + 1 + 1 + 1 + 1 + 1 + 1))⟩, ⟨(nAt mxs (((k : Nat) : Int).toNat * 28 + 1 + 1 + 1 + 1 + 1 + 1 + 1 + 1 + 1 + 1 + 1 + 1 + 1 + 1 + 1 + 1 + 1 + 1 + 1 + 1)), (nAt mxs (((k : Nat) : Int).toNat * 28 + 1 + 1 + 1 + 1 + 1 + 1 + 1 + 1 + 1 + 1 + 1 + 1 + 1 + 1 + 1 + 1 + 1 + 1 + 1 + 1 + 1)), (nAt mxs (((k : Nat) : Int).toNat * 28 + 1 + 1 + 1 + 1 + 1 + 1 + 1 + 1 + 1 + 1 + 1 + 1 + 1 + 1 + 1 + 1 + 1 + 1 + 1 + 1 + 1 + 1)), (lAt mxs (((k : Nat) : Int).toNat * 28 + 1 + 1 + 1 + 1 + 1 + 1 + 1 + 1 + 1 + 1 + 1 + 1 + 1 + 1 + 1 + 1 + 1 + 1 + 1 + 1 + 1 + 1 + 1)), (cAt mxs (((k : Nat) : Int).toNat * 28 + 1 + 1 + 1 + 1 + 1 + 1 + 1 + 1 + 1 + 1 + 1 + 1 + 1 + 1 + 1 + 1 + 1 + 1 + 1 + 1 + 1 + 1 + 1))⟩, ⟨(nAt mxs (((k : Nat) : Int).toNat * 28 + 1 + 1 + 1 + 1 + 1 + 1 + 1 + 1 + 1 + 1 + 1 + 1 + 1 + 1 + 1 + 1 + 1 + 1 + 1 + 1 + 1 + 1 + 1 + 1)), (nAt mxs (((k : Nat) : Int).toNat * 28 + 1 + 1 + 1 + 1 + 1 + 1 + 1 + 1 + 1 + 1 + 1 + 1 + 1 + 1 + 1 + 1 + 1 + 1 + 1 + 1 + 1 + 1 + 1 + 1 + 1)), (nAt mxs (((k : Nat) : Int).toNat * 28 + 1 + 1 + 1 + 1 + 1 + 1 + 1 + 1 + 1 + 1 + 1 + 1 + 1 + 1 + 1 + 1 + 1 + 1 + 1 + 1 + 1 + 1 + 1 + 1 + 1 + 1)), (lAt mxs (((k : Nat) : Int).toNat * 28 + 1 + 1 + 1 + 1 + 1 + 1 + 1 + 1 + 1 + 1 + 1 + 1 + 1 + 1 + 1 + 1 + 1 + 1 + 1 + 1 + 1 + 1 + 1 + 1 + 1 + 1 + 1)), (cAt mxs (((k : Nat) : Int).toNat * 28 + 1 + 1 + 1 + 1 + 1 + 1 + 1 + 1 + 1 + 1 + 1 + 1 + 1 + 1 + 1 + 1 + 1 + 1 + 1 + 1 + 1 + 1 + 1 + 1 + 1 + 1 + 1))⟩⟩ (mostS bits))))) ∧ True ∧ True ∧ True ∧ ((((Im.valid ⟨(nAt mxs (((k : Nat) : Int).toNat * 28)), (nAt mxs (((k : Nat) : Int).toNat * 28 + 1)), (bAt mxs (((k : Nat) : Int).toNat * 28 + 1 + 1)), ⟨(nAt mxs (((k : Nat) : Int).toNat * 28 + 1 + 1 + 1)), (nAt mxs (((k : Nat) : Int).toNat * 28 + 1 + 1 + 1 + 1)), (nAt mxs (((k : Nat) : Int).toNat * 28 + 1 + 1 + 1 + 1 + 1)), (nAt mxs (((k : Nat) : Int).toNat * 28 + 1 + 1 + 1 + 1 + 1 + 1)), (nAt mxs (((k : Nat) : Int).toNat * 28 + 1 + 1 + 1 + 1 + 1 + 1 + 1))⟩, ⟨(nAt mxs (((k : Nat) : Int).toNat * 28 + 1 + 1 + 1 + 1 + 1 + 1 + 1 + 1)), (nAt mxs (((k : Nat) : Int).toNat * 28 + 1 + 1 + 1 + 1 + 1 + 1 + 1 + 1 + 1)), (nAt mxs (((k : Nat) : Int).toNat * 28 + 1 + 1 + 1 + 1 + 1 + 1 + 1 + 1 + 1 + 1)), (lAt mxs (((k : Nat) : Int).toNat * 28 + 1 + 1 + 1 + 1 + 1 + 1 + 1 + 1 + 1 + 1 + 1)), (cAt mxs (((k : Nat) : Int).toNat * 28 + 1 + 1 + 1 + 1 + 1 + 1 + 1 + 1 + 1 + 1 + 1))⟩, ⟨(nAt mxs (((k : Nat) : Int).toNat * 28 + 1 + 1 + 1 + 1 + 1 + 1 + 1 + 1 + 1 + 1 + 1 + 1)), (nAt mxs (((k : Nat) : Int).toNat * 28 + 1 + 1 + 1 + 1 + 1 + 1 + 1 + 1 + 1 + 1 + 1 + 1 + 1)), (nAt mxs (((k : Nat) : Int).toNat * 28 + 1 + 1 + 1 + 1 + 1 + 1 + 1 + 1 + 1 + 1 + 1 + 1 + 1 + 1)), (lAt mxs (((k : Nat) : Int).toNat * 28 + 1 + 1 + 1 + 1 + 1 + 1 + 1 + 1 + 1 + 1 + 1 + 1 + 1 + 1 + 1)), (cAt mxs (((k : Nat) : Int).toNat * 28 + 1 + 1 + 1 + 1 + 1 + 1 + 1 + 1 + 1 + 1 + 1 + 1 + 1 + 1 + 1))⟩, ⟨(nAt mxs (((k : Nat) : Int).toNat * 28 + 1 + 1 + 1 + 1 + 1 + 1 + 1 + 1 + 1 + 1 + 1 + 1 + 1 + 1 + 1 + 1)), (nAt mxs (((k : Nat) : Int).toNat * 28 + 1 + 1 + 1 + 1 + 1 + 1 + 1 + 1 + 1 + 1 + 1 + 1 + 1 + 1 + 1 + 1 + 1)), (nAt mxs (((k : Nat) : Int).toNat * 28 + 1 + 1 + 1 + 1 + 1 + 1 + 1 + 1 + 1 + 1 + 1 + 1 + 1 + 1 + 1 + 1 + 1 + 1)), (lAt mxs (((k : Nat) : Int).toNat * 28 + 1 + 1 + 1 + 1 + 1 + 1 + 1 + 1 + 1 + 1 + 1 + 1 + 1 + 1 + 1 + 1 + 1 + 1 + 1)), (cAt mxs (((k : Nat) : Int).toNat * 28 + 1 + 1 + 1 + 1 + 1 + 1 + 1 + 1 + 1 + 1 + 1 + 1 + 1 + 1 + 1 + 1 + 1 + 1 + 1))⟩, ⟨(nAt mxs (((k : Nat) : Int).toNat * 28 + 1 + 1 + 1 + 1 + 1 + 1 + 1 + 1 + 1 + 1 + 1 + 1 + 1 + 1 + 1 + 1 + 1 + 1 + 1 + 1)), (nAt mxs (((k : Nat) : Int).toNat * 28 + 1 + 1 + 1 + 1 + 1 + 1 + 1 + 1 + 1 + 1 + 1 + 1 + 1 + 1 + 1 + 1 + 1 + 1 + 1 + 1 + 1)), (nAt mxs (((k : Nat) : Int).toNat * 28 + 1 + 1 + 1 + 1 + 1 + 1 + 1 + 1 + 1 + 1 + 1 + 1 + 1 + 1 + 1 + 1 + 1 + 1 + 1 + 1 + 1 + 1)), (lAt mxs (((k : Nat) : Int).toNat * 28 + 1 + 1 + 1 + 1 + 1 + 1 + 1 + 1 + 1 + 1 + 1 + 1 + 1 + 1 + 1 + 1 + 1 + 1 + 1 + 1 + 1 + 1 + 1)), (cAt mxs (((k : Nat) : Int).toNat * 28 + 1 + 1 + 1 + 1 + 1 + 1 + 1 + 1 + 1 + 1 + 1 + 1 + 1 + 1 + 1 + 1 + 1 + 1 + 1 + 1 + 1 + 1 + 1))⟩, ⟨(nAt mxs (((k : Nat) : Int).toNat * 28 + 1 + 1 + 1 + 1 + 1 + 1 + 1 + 1 + 1 + 1 + 1 + 1 + 1 + 1 + 1 + 1 + 1 + 1 + 1 + 1 + 1 + 1 + 1 + 1)), (nAt mxs (((k : Nat) : Int).toNat * 28 + 1 + 1 + 1 + 1 + 1 + 1 + 1 + 1 + 1 + 1 + 1 + 1 + 1 + 1 + 1 + 1 + 1 + 1 + 1 + 1 + 1 + 1 + 1 + 1 + 1)), (nAt mxs (((k : Nat) : Int).toNat * 28 + 1 + 1 + 1 + 1 + 1 + 1 + 1 + 1 + 1 + 1 + 1 + 1 + 1 + 1 + 1 + 1 + 1 + 1 + 1 + 1 + 1 + 1 + 1 + 1 + 1 + 1)), (lAt mxs (((k : Nat) : Int).toNat * 28 + 1 + 1 + 1 + 1 + 1 + 1 + 1 + 1 + 1 + 1 + 1 + 1 + 1 + 1 + 1 + 1 + 1 + 1 + 1 + 1 + 1 + 1 + 1 + 1 + 1 + 1 + 1)), (cAt mxs (((k : Nat) : Int).toNat * 28 + 1 + 1 + 1 + 1 + 1 + 1 + 1 + 1 + 1 + 1 + 1 + 1 + 1 + 1 + 1 + 1 + 1 + 1 + 1 + 1 + 1 + 1 + 1 + 1 + 1 + 1 + 1))⟩⟩ (mostS bits)) != (0 : Int)) = true → True ∧ True ∧ True ∧ True ∧ RV.tup [RV.d (DV.int .i64 (Im.valid ⟨(nAt mxs (((k : Nat) : Int).toNat * 28)), (nAt mxs (((k : Nat) : Int).toNat * 28 + 1)), (bAt mxs (((k : Nat) : Int).toNat * 28 + 1 + 1)), ⟨(nAt mxs (((k : Nat) : Int).toNat * 28 + 1 + 1 + 1)), (nAt mxs (((k : Nat) : Int).toNat * 28 + 1 + 1 + 1 + 1)), (nAt mxs (((k : Nat) : Int).toNat * 28 + 1 + 1 + 1 + 1 + 1)), (nAt mxs (((k : Nat) : Int).toNat * 28 + 1 + 1 + 1 + 1 + 1 + 1)), (nAt mxs (((k : Nat) : Int).toNat * 28 + 1 + 1 + 1 + 1 + 1 + 1 + 1))⟩, ⟨(nAt mxs (((k : Nat) : Int).toNat * 28 + 1 + 1 + 1 + 1 + 1 + 1 + 1 + 1)), (nAt mxs (((k : Nat) : Int).toNat * 28 + 1 + 1 + 1 + 1 + 1 + 1 + 1 + 1 + 1)), (nAt mxs (((k : Nat) : Int).toNat * 28 + 1 + 1 + 1 + 1 + 1 + 1 + 1 + 1 + 1 + 1)), (lAt mxs (((k : Nat) : Int).toNat * 28 + 1 + 1 + 1 + 1 + 1 + 1 + 1 + 1 + 1 + 1 + 1)), (cAt mxs (((k : Nat) : Int).toNat * 28 + 1 + 1 + 1 + 1 + 1 + 1 + 1 + 1 + 1 + 1 + 1))⟩, ⟨(nAt mxs (((k : Nat) : Int).toNat * 28 + 1 + 1 + 1 + 1 + 1 + 1 + 1 + 1 + 1 + 1 + 1 + 1)), (nAt mxs (((k : Nat) : Int).toNat * 28 + 1 + 1 + 1 + 1 + 1 + 1 + 1 + 1 + 1 + 1 + 1 + 1 + 1)), (nAt mxs (((k : Nat) : Int).toNat * 28 + 1 + 1 + 1 + 1 + 1 + 1 + 1 + 1 + 1 + 1 + 1 + 1 + 1 + 1)), (lAt mxs (((k : Nat) : Int).toNat * 28 + 1 + 1 + 1 + 1 + 1 + 1 + 1 + 1 + 1 + 1 + 1 + 1 + 1 + 1 + 1)), (cAt mxs (((k : Nat) : Int).toNat * 28 + 1 + 1 + 1 + 1 + 1 + 1 + 1 + 1 + 1 + 1 + 1 + 1 + 1 + 1 + 1))⟩, ⟨(nAt mxs (((k : Nat) : Int).toNat * 28 + 1 + 1 + 1 + 1 + 1 + 1 + 1 + 1 + 1 + 1 + 1 + 1 + 1 + 1 + 1 + 1)), (nAt mxs (((k : Nat) : Int).toNat * 28 + 1 + 1 + 1 + 1 + 1 + 1 + 1 + 1 + 1 + 1 + 1 + 1 + 1 + 1 + 1 + 1 + 1)), (nAt mxs (((k : Nat) : Int).toNat * 28 + 1 + 1 + 1 + 1 + 1 + 1 + 1 + 1 + 1 + 1 + 1 + 1 + 1 + 1 + 1 + 1 + 1 + 1)), (lAt mxs (((k : Nat) : Int).toNat * 28 + 1 + 1 + 1 + 1 + 1 + 1 + 1 + 1 + 1 + 1 + 1 + 1 + 1 + 1 + 1 + 1 + 1 + 1 + 1)), (cAt mxs (((k : Nat) : Int).toNat * 28 + 1 + 1 + 1 + 1 + 1 + 1 + 1 + 1 + 1 + 1 + 1 + 1 + 1 + 1 + 1 + 1 + 1 + 1 + 1))⟩, ⟨(nAt mxs (((k : Nat) : Int).toNat * 28 + 1 + 1 + 1 + 1 + 1 + 1 + 1 + 1 + 1 + 1 + 1 + 1 + 1 + 1 + 1 + 1 + 1 + 1 + 1 + 1)), (nAt mxs (((k : Nat) : Int).toNat * 28 + 1 + 1 + 1 + 1 + 1 + 1 + 1 + 1 + 1 + 1 + 1 + 1 + 1 + 1 + 1 + 1 + 1 + 1 + 1 + 1 + 1)), (nAt mxs (((k : Nat) : Int).toNat * 28 + 1 + 1 + 1 + 1 + 1 + 1 + 1 + 1 + 1 + 1 + 1 + 1 + 1 + 1 + 1 + 1 + 1 + 1 + 1 + 1 + 1 + 1)), (lAt mxs (((k : Nat) : Int).toNat * 28 + 1 + 1 + 1 + 1 + 1 + 1 + 1 + 1 + 1 + 1 + 1 + 1 + 1 + 1 + 1 + 1 + 1 + 1 + 1 + 1 + 1 + 1 + 1)), (cAt mxs (((k : Nat) : Int).toNat * 28 + 1 + 1 + 1 + 1 + 1 + 1 + 1 + 1 + 1 + 1 + 1 + 1 + 1 + 1 + 1 + 1 + 1 + 1 + 1 + 1 + 1 + 1 + 1))⟩, ⟨(nAt mxs (((k : Nat) : Int).toNat * 28 + 1 + 1 + 1 + 1 + 1 + 1 + 1 + 1 + 1 + 1 + 1 + 1 + 1 + 1 + 1 + 1 + 1 + 1 + 1 + 1 + 1 + 1 + 1 + 1)), (nAt mxs (((k : Nat) : Int).toNat * 28 + 1 + 1 + 1 + 1 + 1 + 1 + 1 + 1 + 1 + 1 + 1 + 1 + 1 + 1 + 1 + 1 + 1 + 1 + 1 + 1 + 1 + 1 + 1 + 1 + 1)), (nAt mxs (((k : Nat) : Int).toNat * 28 + 1 + 1 + 1 + 1 + 1 + 1 + 1 + 1 + 1 + 1 + 1 + 1 + 1 + 1 + 1 + 1 + 1 + 1 + 1 + 1 + 1 + 1 + 1 + 1 + 1 + 1)), (lAt mxs (((k : Nat) : Int).toNat * 28 + 1 + 1 + 1 + 1 + 1 + 1 + 1 + 1 + 1 + 1 + 1 + 1 + 1 + 1 + 1 + 1 + 1 + 1 + 1 + 1 + 1 + 1 + 1 + 1 + 1 + 1 + 1)), (cAt mxs (((k : Nat) : Int).toNat * 28 + 1 + 1 + 1 + 1 + 1 + 1 + 1 + 1 + 1 + 1 + 1 + 1 + 1 + 1 + 1 + 1 + 1 + 1 + 1 + 1 + 1 + 1 + 1 + 1 + 1 + 1 + 1))⟩⟩ (mostS bits))), RV.d (DV.int .i64 ((k : Nat) : Int))] = RV.tup zz3) ∧ (((Im.valid ⟨(nAt mxs (((k : Nat) : Int).toNat * 28)), (nAt mxs (((k : Nat) : Int).toNat * 28 + 1)), (bAt mxs (((k : Nat) : Int).toNat * 28 + 1 + 1)), ⟨(nAt mxs (((k : Nat) : Int).toNat * 28 + 1 + 1 + 1)), (nAt mxs (((k : Nat) : Int).toNat * 28 + 1 + 1 + 1 + 1)), (nAt mxs (((k : Nat) : Int).toNat * 28 + 1 + 1 + 1 + 1 + 1)), (nAt mxs (((k : Nat) : Int).toNat * 28 + 1 + 1 + 1 + 1 + 1 + 1)), (nAt mxs (((k : Nat) : Int).toNat * 28 + 1 + 1 + 1 + 1 + 1 + 1 + 1))⟩, ⟨(nAt mxs (((k : Nat) : Int).toNat * 28 + 1 + 1 + 1 + 1 + 1 + 1 + 1 + 1)), (nAt mxs (((k : Nat) : Int).toNat * 28 + 1 + 1 + 1 + 1 + 1 + 1 + 1 + 1 + 1)), (nAt mxs (((k : Nat) : Int).toNat * 28 + 1 + 1 + 1 + 1 + 1 + 1 + 1 + 1 + 1 + 1)), (lAt mxs (((k : Nat) : Int).toNat * 28 + 1 + 1 + 1 + 1 + 1 + 1 + 1 + 1 + 1 + 1 + 1)), (cAt mxs (((k : Nat) : Int).toNat * 28 + 1 + 1 + 1 + 1 + 1 + 1 + 1 + 1 + 1 + 1 + 1))⟩, ⟨(nAt mxs (((k : Nat) : Int).toNat * 28 + 1 + 1 + 1 + 1 + 1 + 1 + 1 + 1 + 1 + 1 + 1 + 1)), (nAt mxs (((k : Nat) : Int).toNat * 28 + 1 + 1 + 1 + 1 + 1 + 1 + 1 + 1 + 1 + 1 + 1 + 1 + 1)), (nAt mxs (((k : Nat) : Int).toNat * 28 + 1 + 1 + 1 + 1 + 1 + 1 + 1 + 1 + 1 + 1 + 1 + 1 + 1 + 1)), (lAt mxs (((k : Nat) : Int).toNat * 28 + 1 + 1 + 1 + 1 + 1 + 1 + 1 + 1 + 1 + 1 + 1 + 1 + 1 + 1 + 1)), (cAt mxs (((k : Nat) : Int).toNat * 28 + 1 + 1 + 1 + 1 + 1 + 1 + 1 + 1 + 1 + 1 + 1 + 1 + 1 + 1 + 1))⟩, ⟨(nAt mxs (((k : Nat) : Int).toNat * 28 + 1 + 1 + 1 + 1 + 1 + 1 + 1 + 1 + 1 + 1 + 1 + 1 + 1 + 1 + 1 + 1)), (nAt mxs (((k : Nat) : Int).toNat * 28 + 1 + 1 + 1 + 1 + 1 + 1 + 1 + 1 + 1 + 1 + 1 + 1 + 1 + 1 + 1 + 1 + 1)), (nAt mxs (((k : Nat) : Int).toNat * 28 + 1 + 1 + 1 + 1 + 1 + 1 + 1 + 1 + 1 + 1 + 1 + 1 + 1 + 1 + 1 + 1 + 1 + 1)), (lAt mxs (((k : Nat) : Int).toNat * 28 + 1 + 1 + 1 + 1 + 1 + 1 + 1 + 1 + 1 + 1 + 1 + 1 + 1 + 1 + 1 + 1 + 1 + 1 + 1)), (cAt mxs (((k : Nat) : Int).toNat * 28 + 1 + 1 + 1 + 1 + 1 + 1 + 1 + 1 + 1 + 1 + 1 + 1 + 1 + 1 + 1 + 1 + 1 + 1 + 1))⟩, ⟨(nAt mxs (((k : Nat) : Int).toNat * 28 + 1 + 1 + 1 + 1 + 1 + 1 + 1 + 1 + 1 + 1 + 1 + 1 + 1 + 1 + 1 + 1 + 1 + 1 + 1 + 1)), (nAt mxs (((k : Nat) : Int).toNat * 28 + 1 + 1 + 1 + 1 + 1 + 1 + 1 + 1 + 1 + 1 + 1 + 1 + 1 + 1 + 1 + 1 + 1 + 1 + 1 + 1 + 1)), (nAt mxs (((k : Nat) : Int).toNat * 28 + 1 + 1 + 1 + 1 + 1 + 1 + 1 + 1 + 1 + 1 + 1 + 1 + 1 + 1 + 1 + 1 + 1 + 1 + 1 + 1 + 1 + 1)), (lAt mxs (((k : Nat) : Int).toNat * 28 + 1 + 1 + 1 + 1 + 1 + 1 + 1 + 1 + 1 + 1 + 1 + 1 + 1 + 1 + 1 + 1 + 1 + 1 + 1 + 1 + 1 + 1 + 1)), (cAt mxs (((k : Nat) : Int).toNat * 28 + 1 + 1 + 1 + 1 + 1 + 1 + 1 + 1 + 1 + 1 + 1 + 1 + 1 + 1 + 1 + 1 + 1 + 1 + 1 + 1 + 1 + 1 + 1))⟩, ⟨(nAt mxs (((k : Nat) : Int).toNat * 28 + 1 + 1 + 1 + 1 + 1 + 1 + 1 + 1 + 1 + 1 + 1 + 1 + 1 + 1 + 1 + 1 + 1 + 1 + 1 + 1 + 1 + 1 + 1 + 1)), (nAt mxs (((k : Nat) : Int).toNat * 28 + 1 + 1 + 1 + 1 + 1 + 1 + 1 + 1 + 1 + 1 + 1 + 1 + 1 + 1 + 1 + 1 + 1 + 1 + 1 + 1 + 1 + 1 + 1 + 1 + 1)), (nAt mxs (((k : Nat) : Int).toNat * 28 + 1 + 1 + 1 + 1 + 1 + 1 + 1 + 1 + 1 + 1 + 1 + 1 + 1 + 1 + 1 + 1 + 1 + 1 + 1 + 1 + 1 + 1 + 1 + 1 + 1 + 1)), (lAt mxs (((k : Nat) : Int).toNat * 28 + 1 + 1 + 1 + 1 + 1 + 1 + 1 + 1 + 1 + 1 + 1 + 1 + 1 + 1 + 1 + 1 + 1 + 1 + 1 + 1 + 1 + 1 + 1 + 1 + 1 + 1 + 1)), (cAt mxs (((k : Nat) : Int).toNat * 28 + 1 + 1 + 1 + 1 + 1 + 1 + 1 + 1 + 1 + 1 + 1 + 1 + 1 + 1 + 1 + 1 + 1 + 1 + 1 + 1 + 1 + 1 + 1 + 1 + 1 + 1 + 1))⟩⟩ (mostS bits)) != (0 : Int)) = false → True ∧ True ∧ ∃ k' : Nat, (k' ≤ mn ∧ imsE (mostS bits) ((toIms mxs).drop k') (k' : Int) = imsE (mostS bits) (toIms mxs) 0) ∧ (mn - k' < mn - k) ∧ (((0 = 0) ∧ zz5 ∧ zz6 ∧ zz7 ∧ (DV.int .i64 (IntKind.wrap .i64 (((k : Nat) : Int) + (1 : Int))) = DV.int .i64 ((k' : Nat) : Int)) ∧ True) ∧ zz8)))) ∧ ((decide (((k : Nat) : Int) < ((mn : Nat) : Int))) = false → True ∧ (Ans Tryd.prog 13 zz1 (RV.tup zz9)) ∧ True ∧ True ∧ True ∧ True ∧ RV.tup zz9 = RV.tup zz3)))))) := by kernel_rfl
theorem validate_Check_ans (bits : Int) (cx0 : Int) (cy0 : Int) (cx1 : Int) (cy1 : Int) (tw : Int) (th : Int) (on : Nat) (oxs : List DV) (mn : Nat) (mxs : List DV) (pn : Nat) (pxs : List DV) (hP : pxs = ops (toOps pxs) ∧ pn = (toOps pxs).length) (hO : oxs = is (ints oxs) ∧ on = oxs.length) (hM : IsIms mn mxs) : Ans Tryd.prog 12 [RV.agg [DV.int .i64 bits, DV.int .i64 cx0, DV.int .i64 cy0, DV.int .i64 cx1, DV.int .i64 cy1, DV.int .i64 tw, DV.int .i64 th, DV.sl on oxs, DV.sl mn mxs, DV.sl pn pxs]] (RV.tup [RV.d (DV.int .i64 ((checkE ⟨bits, ⟨cx0, cy0, cx1, cy1⟩, tw, th, ints oxs, toIms mxs, toOps pxs⟩).1)), RV.d (DV.int .i64 ((checkE ⟨bits, ⟨cx0, cy0, cx1, cy1⟩, tw, th, ints oxs, toIms mxs, toOps pxs⟩).2))]) :=
  ans_of_vcg (Γ := gamVf) (validate_Check_ann bits cx0 cy0 cx1 cy1 tw th on oxs mn mxs pn pxs) mixed_ Tryd.func12 rfl (Nat.le_of_ble_eq_true rfl) fun hwf => by
    refine Eq.mpr (validate_Check_vc bits cx0 cy0 cx1 cy1 tw th on oxs mn mxs pn pxs) ?_
    simp only [true_and, and_true, RV.d.injEq, RV.agg.injEq, RV.tup.injEq, DV.bool.injEq, DV.int.injEq, DV.sl.injEq, List.cons.injEq, forall_const, Bool.not_false, Bool.not_true, Bool.not_eq_true', Bool.not_eq_false', decide_eq_true_eq, decide_eq_false_iff_not, Int.toNat_natCast, sample_Max_ans, R01_Max_ans]
    obtain ⟨ml, hMu, rfl, rfl⟩ := hM.of
    have hfr := validate_Frame_ans bits cx0 cy0 cx1 cy1 tw th on oxs ml.length (ims ml) pn pxs hO
    have hop := validate_Ops_ans bits cx0 cy0 cx1 cy1 tw th on oxs ml.length (ims ml) pn pxs hP hO
    obtain ⟨hP, rfl⟩ := hP
    simp only [toIms_ims]
    generalize toOps pxs = ps at *
    subst hP
    simp only [RV.wfs, RV.wf, DV.wf, DV.wfs, maxLen] at hwf
    have hml : ml.length ≤ 9223372036854775807 := by omega
    have hC : checkE ⟨bits, ⟨cx0, cy0, cx1, cy1⟩, tw, th, ints oxs, ml, ps⟩ = if frameE bits ⟨cx0, cy0, cx1, cy1⟩ tw th (ints oxs) ml.length ps.length = 0 then (if (imsE (mostS bits) ml 0).1 = 0 then opsE bits ⟨cx0, cy0, cx1, cy1⟩ tw th (ints oxs) ml.length ps else imsE (mostS bits) ml 0) else (frameE bits ⟨cx0, cy0, cx1, cy1⟩ tw th (ints oxs) ml.length ps.length, 0) := rfl
    rw [hC]
    clear hC hwf
    generalize frameE bits ⟨cx0, cy0, cx1, cy1⟩ tw th (ints oxs) ml.length ps.length = FE at *
    generalize opsE bits ⟨cx0, cy0, cx1, cy1⟩ tw th (ints oxs) ml.length ps = OE at *
    generalize mostS bits = most at *
    refine ⟨hfr, fun hne => ?_, fun he => ⟨⟨0, ⟨Nat.zero_le _, by simp⟩, rfl⟩, fun k hk => ⟨fun hlt => ?_, fun hge => ?_⟩⟩⟩
    · have : FE ≠ 0 := by simpa using hne
      simp [this]
    · obtain ⟨k1, k2⟩ := hk
      have hk : k < ml.length := by omega
      have q1 := ims_rd hk
      have q2 := ims_at hk
      have hd : ml.drop k = ml[k] :: ml.drop (k + 1) := List.drop_eq_getElem_cons hk
      have hF : FE = 0 := by simpa using he
      have vI := image_Valid_im ml[k] most (hMu _ (List.getElem_mem hk))
      rw [hd] at k2
      simp only [imsE] at k2
      have w1 : IntKind.wrap .i64 (((k : Nat) : Int) + 1) = ((k + 1 : Nat) : Int) := by rw [IntKind.wrap_i64]; omega
      simp only [q2, hF, if_true]
      refine ⟨⟨by omega, by omega, by rw [ims_length]; omega⟩, q1, vI, fun hne => ?_, fun h0 => ?_⟩
      · have h0 : ml[k].valid most ≠ 0 := by simpa using hne
        rw [if_neg h0] at k2
        rw [← k2, if_neg h0]
        exact ⟨rfl, rfl⟩
      · have h0 : ml[k].valid most = 0 := by simpa using h0
        rw [if_pos h0] at k2
        exact ⟨k + 1, ⟨by omega, by rw [← k2]; rfl⟩, by omega, w1⟩
    · obtain ⟨k1, k2⟩ := hk
      have hk : k = ml.length := by omega
      subst hk
      rw [List.drop_length] at k2
      simp only [imsE] at k2
      have hF : FE = 0 := by simpa using he
      simp only [hF, if_true, ← k2]
      exact ⟨hop, trivial, trivial⟩

end Go.Proofs.YthlmmlcdoiahkaaDoor

/-
  The law's sanity check; scripts as one thing.
-/
namespace Go.Proofs.YthlmmlcdoiahkaaDoor
open Go.RowKit
set_option linter.unusedVariables false
set_option linter.unusedSimpArgs false
attribute [local irreducible] Ans AnsO AnsG AnsN AnsI

set_option maxRecDepth 4000
def scrR (s : Scr) : RV := RV.agg [DV.int .i64 s.bits, DV.int .i64 s.c.a, DV.int .i64 s.c.b, DV.int .i64 s.c.c, DV.int .i64 s.c.d, DV.int .i64 s.tw, DV.int .i64 s.th, DV.sl s.ord.length (is s.ord), DV.sl s.ims.length (ims s.ims), DV.sl s.ops.length (ops s.ops)]
def eR (p : Int × Int) : RV := RV.tup [RV.d (DV.int .i64 p.1), RV.d (DV.int .i64 p.2)]
theorem scr_eta (s : Scr) : (⟨s.bits, ⟨s.c.a, s.c.b, s.c.c, s.c.d⟩, s.tw, s.th, ints (is s.ord), toIms (ims s.ims), toOps (ops s.ops)⟩ : Scr) = s := by
  rw [ints_is, toIms_ims, toOps_ops]
theorem isI_is {n : Nat} {l : List Int} (h : n = l.length) : is l = is (ints (is l)) ∧ n = (is l).length := ⟨by rw [ints_is], by rw [is_length]; exact h⟩
theorem scr_opsE (s : Scr) : opsE s.bits ⟨s.c.a, s.c.b, s.c.c, s.c.d⟩ s.tw s.th (ints (is s.ord)) s.ims.length (toOps (ops s.ops)) = s.run := by
  rw [ints_is, toOps_ops]; rfl
theorem validate_Check_scr (s : Scr) (h : ∀ m ∈ s.ims, m.isU) : Ans Tryd.prog 12 [scrR s] (eR (checkE s)) := by
  have := validate_Check_ans s.bits s.c.a s.c.b s.c.c s.c.d s.tw s.th s.ord.length (is s.ord) s.ims.length (ims s.ims) s.ops.length (ops s.ops) (isOps_ops rfl) (isI_is rfl) (isIms_ims rfl h)
  rw [scr_eta] at this
  exact this
theorem validate_Ops_scr (s : Scr) : Ans Tryd.prog 13 [scrR s] (eR s.run) := by
  have := validate_Ops_ans s.bits s.c.a s.c.b s.c.c s.c.d s.tw s.th s.ord.length (is s.ord) s.ims.length (ims s.ims) s.ops.length (ops s.ops) (isOps_ops rfl) (isI_is rfl)
  rw [scr_opsE] at this
  exact this
def gamVg : Gam where
 pure := fun f xs =>
  if f = 12 then (match xs with | [.agg [.int _ bits, .int _ cx0, .int _ cy0, .int _ cx1, .int _ cy1, .int _ tw, .int _ th, .sl on oxs, .sl mn mxs, .sl pn pxs]] => some (RV.tup [RV.d (DV.int .i64 ((checkE ⟨bits, ⟨cx0, cy0, cx1, cy1⟩, tw, th, ints oxs, toIms mxs, toOps pxs⟩).1)), RV.d (DV.int .i64 ((checkE ⟨bits, ⟨cx0, cy0, cx1, cy1⟩, tw, th, ints oxs, toIms mxs, toOps pxs⟩).2))]) | _ => none) else
  if f = 13 then (match xs with | [.agg [.int _ bits, .int _ cx0, .int _ cy0, .int _ cx1, .int _ cy1, .int _ tw, .int _ th, .sl on oxs, .sl mn mxs, .sl pn pxs]] => some (RV.tup [RV.d (DV.int .i64 ((opsE bits ⟨cx0, cy0, cx1, cy1⟩ tw th (ints oxs) mn (toOps pxs)).1)), RV.d (DV.int .i64 ((opsE bits ⟨cx0, cy0, cx1, cy1⟩ tw th (ints oxs) mn (toOps pxs)).2))]) | _ => none) else
  if f = 15 then (match xs with | [.agg [.int _ bits, .int _ cx0, .int _ cy0, .int _ cx1, .int _ cy1, .int _ tw, .int _ th, .sl on oxs, .sl mn mxs, .sl pn pxs]] => some (RV.d (DV.int .i64 (frameE bits ⟨cx0, cy0, cx1, cy1⟩ tw th (ints oxs) mn pn))) | _ => none) else
  none
 modes := fun f =>
  none
 proc := fun f xs bs =>
  none
 iter := fun f cs =>
  none

def L20_awake_ann : Ann := Ann.leaf
theorem L20_awake_vc : vcg Tryd.prog gamVg 49 (bodyOf Tryd.f14) (L20_awake_ann ) kn0 (start []) (post Tryd.prog Tryd.f14.results.toList (· = RV.d (DV.bool true))) =
  (True ∧ True ∧ True ∧ True ∧ True ∧ True ∧ (Ans Tryd.prog 12 [RV.agg [DV.int .i64 8, DV.int .i64 0, DV.int .i64 0, DV.int .i64 1, DV.int .i64 1, DV.int .i64 1, DV.int .i64 1, DV.sl 0 ([]), DV.sl 0 ([]), DV.sl 0 ([])]] (RV.tup [RV.d (DV.int .i64 ((checkE ⟨(8 : Int), ⟨(0 : Int), (0 : Int), (1 : Int), (1 : Int)⟩, (1 : Int), (1 : Int), ints ([]), toIms ([]), toOps ([])⟩).1)), RV.d (DV.int .i64 ((checkE ⟨(8 : Int), ⟨(0 : Int), (0 : Int), (1 : Int), (1 : Int)⟩, (1 : Int), (1 : Int), ints ([]), toIms ([]), toOps ([])⟩).2))])) ∧ True ∧ True ∧ True ∧ True ∧ True ∧ True ∧ True ∧ True ∧ True ∧ True ∧ (Ans Tryd.prog 12 [RV.agg [DV.int .i64 8, DV.int .i64 0, DV.int .i64 0, DV.int .i64 1, DV.int .i64 1, DV.int .i64 1, DV.int .i64 1, DV.sl 0 ([]), DV.sl 0 ([]), DV.sl 1 ([DV.int .i64 3, DV.int .i64 0, DV.int .i64 0, DV.int .i64 0, DV.int .i64 0, DV.int .i64 0, DV.int .i64 0, DV.int .u16 0, DV.int .i64 0, DV.int .i64 0, DV.bool false, DV.bool false])]] (RV.tup [RV.d (DV.int .i64 ((checkE ⟨(8 : Int), ⟨(0 : Int), (0 : Int), (1 : Int), (1 : Int)⟩, (1 : Int), (1 : Int), ints ([]), toIms ([]), toOps ([DV.int .i64 3, DV.int .i64 0, DV.int .i64 0, DV.int .i64 0, DV.int .i64 0, DV.int .i64 0, DV.int .i64 0, DV.int .u16 0, DV.int .i64 0, DV.int .i64 0, DV.bool false, DV.bool false])⟩).1)), RV.d (DV.int .i64 ((checkE ⟨(8 : Int), ⟨(0 : Int), (0 : Int), (1 : Int), (1 : Int)⟩, (1 : Int), (1 : Int), ints ([]), toIms ([]), toOps ([DV.int .i64 3, DV.int .i64 0, DV.int .i64 0, DV.int .i64 0, DV.int .i64 0, DV.int .i64 0, DV.int .i64 0, DV.int .u16 0, DV.int .i64 0, DV.int .i64 0, DV.bool false, DV.bool false])⟩).2))])) ∧ True ∧ True ∧ True ∧ True ∧ True ∧ True ∧ True ∧ True ∧ True ∧ True ∧ (Ans Tryd.prog 13 [RV.agg [DV.int .i64 8, DV.int .i64 0, DV.int .i64 0, DV.int .i64 1, DV.int .i64 1, DV.int .i64 1, DV.int .i64 1, DV.sl 0 ([]), DV.sl 0 ([]), DV.sl 1 ([DV.int .i64 2, DV.int .i64 0, DV.int .i64 0, DV.int .i64 0, DV.int .i64 0, DV.int .i64 0, DV.int .i64 0, DV.int .u16 0, DV.int .i64 4, DV.int .i64 1, DV.bool false, DV.bool false])]] (RV.tup [RV.d (DV.int .i64 ((opsE (8 : Int) ⟨(0 : Int), (0 : Int), (1 : Int), (1 : Int)⟩ (1 : Int) (1 : Int) (ints ([])) 0 (toOps ([DV.int .i64 2, DV.int .i64 0, DV.int .i64 0, DV.int .i64 0, DV.int .i64 0, DV.int .i64 0, DV.int .i64 0, DV.int .u16 0, DV.int .i64 4, DV.int .i64 1, DV.bool false, DV.bool false]))).1)), RV.d (DV.int .i64 ((opsE (8 : Int) ⟨(0 : Int), (0 : Int), (1 : Int), (1 : Int)⟩ (1 : Int) (1 : Int) (ints ([])) 0 (toOps ([DV.int .i64 2, DV.int .i64 0, DV.int .i64 0, DV.int .i64 0, DV.int .i64 0, DV.int .i64 0, DV.int .i64 0, DV.int .u16 0, DV.int .i64 4, DV.int .i64 1, DV.bool false, DV.bool false]))).2))])) ∧ True ∧ True ∧ True ∧ True ∧ True ∧ True ∧ True ∧ True ∧ (((((checkE ⟨(8 : Int), ⟨(0 : Int), (0 : Int), (1 : Int), (1 : Int)⟩, (1 : Int), (1 : Int), ints ([]), toIms ([]), toOps ([])⟩).1) == (0 : Int)) = true → True ∧ True ∧ True ∧ True ∧ (((((checkE ⟨(8 : Int), ⟨(0 : Int), (0 : Int), (1 : Int), (1 : Int)⟩, (1 : Int), (1 : Int), ints ([]), toIms ([]), toOps ([DV.int .i64 3, DV.int .i64 0, DV.int .i64 0, DV.int .i64 0, DV.int .i64 0, DV.int .i64 0, DV.int .i64 0, DV.int .u16 0, DV.int .i64 0, DV.int .i64 0, DV.bool false, DV.bool false])⟩).1) == (18 : Int)) = true → True ∧ True ∧ True ∧ True ∧ (((((checkE ⟨(8 : Int), ⟨(0 : Int), (0 : Int), (1 : Int), (1 : Int)⟩, (1 : Int), (1 : Int), ints ([]), toIms ([]), toOps ([DV.int .i64 3, DV.int .i64 0, DV.int .i64 0, DV.int .i64 0, DV.int .i64 0, DV.int .i64 0, DV.int .i64 0, DV.int .u16 0, DV.int .i64 0, DV.int .i64 0, DV.bool false, DV.bool false])⟩).2) == (0 : Int)) = true → True ∧ True ∧ True ∧ True ∧ (((((opsE (8 : Int) ⟨(0 : Int), (0 : Int), (1 : Int), (1 : Int)⟩ (1 : Int) (1 : Int) (ints ([])) 0 (toOps ([DV.int .i64 2, DV.int .i64 0, DV.int .i64 0, DV.int .i64 0, DV.int .i64 0, DV.int .i64 0, DV.int .i64 0, DV.int .u16 0, DV.int .i64 4, DV.int .i64 1, DV.bool false, DV.bool false]))).1) == (18 : Int)) = true → True ∧ True ∧ True ∧ True ∧ RV.d (DV.bool (((opsE (8 : Int) ⟨(0 : Int), (0 : Int), (1 : Int), (1 : Int)⟩ (1 : Int) (1 : Int) (ints ([])) 0 (toOps ([DV.int .i64 2, DV.int .i64 0, DV.int .i64 0, DV.int .i64 0, DV.int .i64 0, DV.int .i64 0, DV.int .i64 0, DV.int .u16 0, DV.int .i64 4, DV.int .i64 1, DV.bool false, DV.bool false]))).2) == (1 : Int))) = RV.d (DV.bool true)) ∧ ((((opsE (8 : Int) ⟨(0 : Int), (0 : Int), (1 : Int), (1 : Int)⟩ (1 : Int) (1 : Int) (ints ([])) 0 (toOps ([DV.int .i64 2, DV.int .i64 0, DV.int .i64 0, DV.int .i64 0, DV.int .i64 0, DV.int .i64 0, DV.int .i64 0, DV.int .u16 0, DV.int .i64 4, DV.int .i64 1, DV.bool false, DV.bool false]))).1) == (18 : Int)) = (!true) → True ∧ True ∧ RV.d (DV.bool false) = RV.d (DV.bool true)))) ∧ ((((checkE ⟨(8 : Int), ⟨(0 : Int), (0 : Int), (1 : Int), (1 : Int)⟩, (1 : Int), (1 : Int), ints ([]), toIms ([]), toOps ([DV.int .i64 3, DV.int .i64 0, DV.int .i64 0, DV.int .i64 0, DV.int .i64 0, DV.int .i64 0, DV.int .i64 0, DV.int .u16 0, DV.int .i64 0, DV.int .i64 0, DV.bool false, DV.bool false])⟩).2) == (0 : Int)) = (!true) → True ∧ True ∧ True ∧ True ∧ RV.d (DV.bool false) = RV.d (DV.bool true)))) ∧ ((((checkE ⟨(8 : Int), ⟨(0 : Int), (0 : Int), (1 : Int), (1 : Int)⟩, (1 : Int), (1 : Int), ints ([]), toIms ([]), toOps ([DV.int .i64 3, DV.int .i64 0, DV.int .i64 0, DV.int .i64 0, DV.int .i64 0, DV.int .i64 0, DV.int .i64 0, DV.int .u16 0, DV.int .i64 0, DV.int .i64 0, DV.bool false, DV.bool false])⟩).1) == (18 : Int)) = (!true) → True ∧ True ∧ True ∧ True ∧ True ∧ True ∧ RV.d (DV.bool false) = RV.d (DV.bool true)))) ∧ ((((checkE ⟨(8 : Int), ⟨(0 : Int), (0 : Int), (1 : Int), (1 : Int)⟩, (1 : Int), (1 : Int), ints ([]), toIms ([]), toOps ([])⟩).1) == (0 : Int)) = (!true) → True ∧ True ∧ True ∧ True ∧ True ∧ True ∧ True ∧ True ∧ RV.d (DV.bool false) = RV.d (DV.bool true)))) := by kernel_rfl
theorem L20_awake_ans : Ans Tryd.prog 14 [] (RV.d (DV.bool true)) :=
  ans_of_vcg (Γ := gamVg) (L20_awake_ann ) mixed_ Tryd.func14 rfl (Nat.le_of_ble_eq_true rfl) fun hwf => by
    refine Eq.mpr (L20_awake_vc ) ?_
    simp only [true_and, and_true, RV.d.injEq, RV.agg.injEq, RV.tup.injEq, DV.bool.injEq, DV.int.injEq, DV.sl.injEq, List.cons.injEq, forall_const, Bool.not_false, Bool.not_true, Bool.not_eq_true', Bool.not_eq_false', decide_eq_true_eq, decide_eq_false_iff_not, Int.toNat_natCast]
    have e1 : checkE ⟨8, ⟨0, 0, 1, 1⟩, 1, 1, ints [], toIms [], toOps []⟩ = (0, 0) := by decide +kernel
    have e2 : checkE ⟨8, ⟨0, 0, 1, 1⟩, 1, 1, ints [], toIms [], toOps [DV.int .i64 3, DV.int .i64 0, DV.int .i64 0, DV.int .i64 0, DV.int .i64 0, DV.int .i64 0, DV.int .i64 0, DV.int .u16 0, DV.int .i64 0, DV.int .i64 0, DV.bool false, DV.bool false]⟩ = (18, 0) := by decide +kernel
    have e3 : opsE 8 ⟨0, 0, 1, 1⟩ 1 1 (ints []) 0 (toOps [DV.int .i64 2, DV.int .i64 0, DV.int .i64 0, DV.int .i64 0, DV.int .i64 0, DV.int .i64 0, DV.int .i64 0, DV.int .u16 0, DV.int .i64 4, DV.int .i64 1, DV.bool false, DV.bool false]) = (18, 1) := by decide +kernel
    have a1 := validate_Check_scr ⟨8, ⟨0, 0, 1, 1⟩, 1, 1, [], [], []⟩ (by simp)
    have a2 := validate_Check_scr ⟨8, ⟨0, 0, 1, 1⟩, 1, 1, [], [], [popO]⟩ (by simp)
    have a3 := validate_Ops_scr ⟨8, ⟨0, 0, 1, 1⟩, 1, 1, [], [], [⟨2, 0, 0, 0, 0, 0, 0, 0, 4, 1, false, false⟩]⟩
    have b1 : checkE ⟨8, ⟨0, 0, 1, 1⟩, 1, 1, [], [], []⟩ = (0, 0) := e1
    have b2 : checkE ⟨8, ⟨0, 0, 1, 1⟩, 1, 1, [], [], [popO]⟩ = (18, 0) := by decide +kernel
    have b3 : Scr.run ⟨8, ⟨0, 0, 1, 1⟩, 1, 1, [], [], [⟨2, 0, 0, 0, 0, 0, 0, 0, 4, 1, false, false⟩]⟩ = (18, 1) := by decide +kernel
    rw [b1] at a1
    rw [b2] at a2
    rw [b3] at a3
    simp only [e1, e2, e3]
    exact ⟨a1, a2, a3, by decide⟩

end Go.Proofs.YthlmmlcdoiahkaaDoor

/-
  Frames in plain words: when there is an error.
-/
namespace Go.Proofs.YthlmmlcdoiahkaaDoor
open Go.RowKit
set_option linter.unusedVariables false
set_option linter.unusedSimpArgs false

theorem frameE_ok {bits : Int} {c : Rc} {tw th : Int} {l : List Int} {mn pn : Nat} (hb : bitsOk bits = true) (he : c.empty = false) (ha : c.area ≤ 16777216) (h1 : nearB c.a = true) (h2 : nearB c.b = true)
    (h3 : (cntS c tw th).2.2 = true) (h4 : orderOk l (IntKind.wrap .i64 ((cntS c tw th).1 * (cntS c tw th).2.1)) = true) (h5 : mn ≤ 64) (h6 : pn ≤ 4096) : frameE bits c tw th l mn pn = 0 := by
  unfold frameE
  rw [if_neg (by rw [hb]; simp), if_neg (by rw [he, h1, h2]; simp; omega), if_neg (by rw [h3]; simp), if_neg (by rw [h4]; simp), if_neg (by omega)]
theorem nearB_iff (v : Int) : nearB v = true ↔ -1048576 ≤ v ∧ v ≤ 1048576 := by simp [nearB]
end Go.Proofs.YthlmmlcdoiahkaaDoor

/-
  Made images are valid, in plain words.
-/
namespace Go.Proofs.YthlmmlcdoiahkaaDoor
open Go.RowKit
set_option linter.unusedVariables false
set_option linter.unusedSimpArgs false

theorem Im.list_so {m : Im} (hs : m.so = true) (n : Nat) : m.list n = List.replicate n m.c := by
  unfold Im.list
  refine List.ext_getElem (by simp) fun i h1 h2 => ?_
  simp [Im.nth, Im.px, hs]
theorem Im.count_pos {m : Im} (hf : m.formed = true) : 0 < m.w.toNat * m.h.toNat := by
  obtain ⟨f1, f2, f3, f4, f5⟩ := fits_le (Im.formed_of hf).1
  exact Nat.mul_pos (by omega) (by omega)
theorem Im.pixels_so {m : Im} (hf : m.formed = true) (hs : m.so = true) : m.pixels = List.replicate (m.w.toNat * m.h.toNat) m.c := by
  rw [Im.pixels_of hf, Im.list_so hs]
theorem Im.valid_iff {m : Im} (hf : m.formed = true) (most : Int) : m.valid most = 0 ↔ ∀ p ∈ m.pixels, p.ok most = true := by
  obtain ⟨h1, h2⟩ := Im.formed_of hf
  unfold Im.valid
  rw [if_neg (by simp [h1]), if_neg (by simp [h2])]
  cases hs : m.so with
  | true =>
    rw [if_pos rfl, Im.pixels_so hf hs]
    have := Im.count_pos hf
    constructor
    · intro h p hp
      obtain ⟨_, rfl⟩ := List.mem_replicate.1 hp
      split at h
      · assumption
      · cases h
    · intro h
      rw [if_pos (h m.c (List.mem_replicate.2 ⟨by omega, rfl⟩))]
  | false =>
    rw [if_neg (by simp), Im.pixels_of hf]
    unfold Im.okTo Im.count Im.list
    constructor
    · intro h p hp
      split at h
      · rename_i ha
        obtain ⟨k, hk, rfl⟩ := List.mem_map.1 hp
        exact List.all_eq_true.1 ha k hk
      · cases h
    · intro h
      rw [if_pos (List.all_eq_true.2 fun k hk => h _ (List.mem_map.2 ⟨k, hk, rfl⟩))]
theorem gSample_in (n : Int) {most : Int} (h0 : 0 ≤ most) (h1 : most ≤ 65535) : 0 ≤ gSample n most ∧ gSample n most ≤ most := by
  unfold gSample
  rw [IntWalk.i64_in most ⟨by omega, by omega⟩]
  have a2 := @modS_in (IntKind.wrap .i64 (Int.tdiv n 8)) 2 (by omega) (by omega)
  have a4 := @modS_in (IntKind.wrap .i64 (Int.tdiv n 8)) 4 (by omega) (by omega)
  split
  · omega
  · split
    · omega
    · split
      · rw [IntWalk.i64_in (most + _) ⟨by omega, by omega⟩]
        have e : Int.tdiv (most + modS (IntKind.wrap .i64 (Int.tdiv n 8)) 2) 2 = (most + modS (IntKind.wrap .i64 (Int.tdiv n 8)) 2) / 2 := Int.tdiv_eq_ediv_of_nonneg (by omega)
        rw [e, IntWalk.i64_in _ ⟨by omega, by omega⟩, IntWalk.u16_in _ ⟨by omega, by omega⟩]
        omega
      · split
        · rw [IntWalk.u16_in _ ⟨by omega, by omega⟩]
          omega
        · rw [IntWalk.i64_in (most + 1) ⟨by omega, by omega⟩]
          have a := @modS_in (IntKind.wrap .i64 (Int.tdiv n 8)) (most + 1) (by omega) (by omega)
          rw [IntWalk.u16_in _ ⟨by omega, by omega⟩]
          omega
theorem gPixel_ok (n0 n1 n2 n3 n4 : Int) {most : Int} (h0 : 0 ≤ most) (h1 : most ≤ 65535) : (gPixel n0 n1 n2 n3 n4 most).ok most = true ∧ 0 ≤ (gPixel n0 n1 n2 n3 n4 most).a ∧ 0 ≤ (gPixel n0 n1 n2 n3 n4 most).b ∧ 0 ≤ (gPixel n0 n1 n2 n3 n4 most).c ∧ 0 ≤ (gPixel n0 n1 n2 n3 n4 most).al := by
  have hf := gSample_in n4 h0 h1
  have key : ∀ a f : Int, 0 ≤ a → a ≤ f → f ≤ most → Px.ok ⟨gSample n0 a, gSample n1 a, gSample n2 a, a, f⟩ most = true ∧ 0 ≤ gSample n0 a ∧ 0 ≤ gSample n1 a ∧ 0 ≤ gSample n2 a ∧ 0 ≤ a := fun a f k0 k1 k2 => by
    have q0 := gSample_in n0 k0 (by omega)
    have q1 := gSample_in n1 k0 (by omega)
    have q2 := gSample_in n2 k0 (by omega)
    simp [Px.ok]
    omega
  unfold gPixel
  simp only
  split
  · have ha := gSample_in (IntKind.wrap .i64 (Int.tdiv n3 3)) hf.1 (by omega)
    exact key _ _ ha.1 ha.2 hf.2
  · exact key _ _ hf.1 (Int.le_refl _) hf.2
/-- a pixel that is valid, with no negative sample -/
def Px.fine (p : Px) (most : Int) : Prop := p.ok most = true ∧ 0 ≤ p.a ∧ 0 ≤ p.b ∧ 0 ≤ p.c ∧ 0 ≤ p.al
theorem gPx_fine (mood : Int) (L : Nat) (xs : List DV) {most : Int} (h0 : 0 ≤ most) (h1 : most ≤ 65535) (k : Nat) : (gPx mood L xs most k).fine most := by
  have hz : Px.zero.fine most := ⟨by simp [Px.ok, Px.zero, h0], by decide, by decide, by decide, by decide⟩
  have hp : ∀ k, (gPx1 L xs most k).fine most := fun k => gPixel_ok _ _ _ _ _ h0 h1
  unfold gPx
  split
  · exact hz
  · split
    · obtain ⟨a, b⟩ := hp k
      refine ⟨?_, b.1, b.2.1, b.2.2.1, h0⟩
      simp [Px.ok] at a ⊢
      omega
    · split
      · exact hp 0
      · exact hp k
theorem gImage_fine (pw ph so mood : Int) (L : Nat) (xs : List DV) (x0 y0 x1 y1 : Int) {most : Int} (h0 : 0 ≤ most) (h1 : most ≤ 65535) (hc : 1 ≤ x1 - x0 ∧ x1 - x0 ≤ 100 ∧ 1 ≤ y1 - y0 ∧ y1 - y0 ≤ 100) : ∀ p ∈ (gImage pw ph so mood L xs x0 y0 x1 y1 most).pixels, p.fine most := by
  have hf := (gImage_facts pw ph so mood L xs x0 y0 x1 y1 most hc).1
  intro p hp
  rw [gImage_is pw ph so mood L xs x0 y0 x1 y1 most _ _ rfl rfl] at hf hp
  split at hf
  · rename_i hs
    rw [if_pos hs, Im.pixels_so hf rfl] at hp
    obtain ⟨_, rfl⟩ := List.mem_replicate.1 hp
    exact gPx_fine _ _ _ h0 h1 _
  · rename_i hs
    rw [if_neg hs] at hp
    cases hk : ofOk (gSide pw 5 x0 x1 pw) (gSide ph 4 y0 y1 pw) (gPixels mood L xs most (IntKind.wrap .i64 (gSide pw 5 x0 x1 pw * gSide ph 4 y0 y1 pw)).toNat).length with
    | true =>
      rw [(imOf_pixels hk).2] at hp
      unfold gPixels at hp
      obtain ⟨k, _, rfl⟩ := List.mem_map.1 hp
      exact gPx_fine _ _ _ h0 h1 _
    | false =>
      rw [imOf_no hk] at hf
      exact absurd hf (by decide)
end Go.Proofs.YthlmmlcdoiahkaaDoor

/-
  What the generator makes is a valid script: in plain words.
-/
namespace Go.Proofs.YthlmmlcdoiahkaaDoor
open Go.RowKit
set_option linter.unusedVariables false
set_option linter.unusedSimpArgs false

/-! ### lists of operations -/
/-! ### an operation of the generator -/
theorem Scn.bits_max (s : Scn) : mostS s.bits = s.most ∧ bitsOk s.bits = true := by
  have := s.most_in
  unfold Scn.bits
  rcases this with h | h <;> rw [h] <;> decide
theorem Scn.frame_ok (s : Scn) {mn pn : Nat} (h1 : mn ≤ 64) (h2 : pn ≤ 4096) : frameE s.bits s.c s.gtw s.gth s.ord mn pn = 0 := by
  obtain ⟨c1, c2, c3⟩ := s.cnt
  obtain ⟨f1, f2, f3, f4, f5, f6⟩ := s.facts
  have CF := s.c_facts
  have he : Rc.empty s.c = false := by rw [Rc.empty_iff]; omega
  refine frameE_ok s.bits_max.2 he ?_ ((nearB_iff _).2 (by omega)) ((nearB_iff _).2 (by omega)) c1 ?_ h1 h2
  · unfold Rc.area
    rw [he, CF.1, CF.2.1]
    have := Int.mul_le_mul f3.2 f4.2 (by omega) (by omega)
    simp; omega
  · have ht := s.tiles_in
    exact (perm_ok (l := ints s.oxs) ht.1 (by omega)).1

/-! ### its images -/
theorem Scn.fine (s : Scn) : ∀ m ∈ s.ims, m.formed = true ∧ (m.w ≤ 100 ∧ m.h ≤ 100) ∧ m.valid s.most = 0 ∧ ∀ more, (gStrided m more).valid s.most = 0 := by
  have CF := s.c_facts
  have hq : 1 ≤ s.c.c - s.c.a ∧ s.c.c - s.c.a ≤ 100 ∧ 1 ≤ s.c.d - s.c.b ∧ s.c.d - s.c.b ≤ 100 := by have := s.facts; omega
  have hm : 0 ≤ s.most ∧ s.most ≤ 65535 := by rcases s.most_in with h | h <;> rw [h] <;> omega
  have key : ∀ m : Im, m.formed = true → m.w ≤ 100 ∧ m.h ≤ 100 → (∀ p ∈ m.pixels, p.fine s.most) → m.formed = true ∧ (m.w ≤ 100 ∧ m.h ≤ 100) ∧ m.valid s.most = 0 ∧ ∀ more, (gStrided m more).valid s.most = 0 := fun m h1 h2 h3 => by
    refine ⟨h1, h2, (Im.valid_iff h1 _).2 fun p hp => (h3 p hp).1, fun more => (Im.valid_iff (gStrided_formed h1 h2 more) _).2 fun p hp => ?_⟩
    rw [gStrided_pixels h1 h2 more] at hp
    exact (h3 p hp).1
  intro m hmem
  unfold Scn.ims at hmem
  split at hmem
  · rw [List.mem_singleton] at hmem
    subst hmem
    have F := s.facts
    have hf : fitsP s.gw s.gh = true := by
      have := Int.mul_le_mul F.2.2.1.2 F.2.2.2.1.2 (by omega) (by omega)
      simp [fitsP]; omega
    refine key _ (solidIm_formed _ hf) ⟨by show s.gw ≤ 100; omega, by show s.gh ≤ 100; omega⟩ fun p hp => ?_
    change p ∈ (solidIm s.gw s.gh ⟨s.most, 0, 0, s.most, s.most⟩).pixels at hp
    rw [Im.pixels_of (solidIm_formed _ hf), Im.list, List.mem_map] at hp
    obtain ⟨k, _, rfl⟩ := hp
    have e : (solidIm s.gw s.gh ⟨s.most, 0, 0, s.most, s.most⟩).nth k = ⟨s.most, 0, 0, s.most, s.most⟩ := by simp [Im.nth, Im.px, solidIm]
    change ((solidIm s.gw s.gh ⟨s.most, 0, 0, s.most, s.most⟩).nth k).fine s.most
    rw [e]
    exact ⟨by simp [Px.ok]; omega, by simp only; omega, by simp only; omega, by simp only; omega, by simp only; omega⟩
  · simp only [Scn.pics, List.mem_map] at hmem
    obtain ⟨k, _, rfl⟩ := hmem
    obtain ⟨gf, g1, g2, g3, g4⟩ := gImage_facts (nAt s.pxs (k * 5)) (nAt s.pxs (k * 5 + 1)) (nAt s.pxs (k * 5 + 2)) (nAt s.pxs (k * 5 + 3)) (lAt s.pxs (k * 5 + 4)) (cAt s.pxs (k * 5 + 4)) s.c.a s.c.b s.c.c s.c.d s.most hq
    exact key _ gf ⟨g2, g4⟩ fun p hp => gImage_fine _ _ _ _ _ _ _ _ _ _ hm.1 hm.2 hq p hp
end Go.Proofs.YthlmmlcdoiahkaaDoor

/-
  Rows of images and operations: writing an element, or a field of one.
-/
namespace Go.Proofs.YthlmmlcdoiahkaaDoor
open Go.RowKit
set_option linter.unusedVariables false
set_option linter.unusedSimpArgs false

section
variable {α : Type} {f : α → List DV} {m : Nat}
theorem flat_take (hf : ∀ a, (f a).length = m) : ∀ (l : List α) (k : Nat), (l.flatMap f).take (k * m) = (l.take k).flatMap f
  | [], k => by simp
  | a :: l, 0 => by simp
  | a :: l, k + 1 => by
    rw [List.flatMap_cons, List.take_succ_cons, List.flatMap_cons, List.take_append, hf, List.take_of_length_le (by rw [hf, Nat.add_mul]; omega), show (k + 1) * m - m = k * m by rw [Nat.add_mul]; omega, flat_take hf l k]
theorem flat_drop (hf : ∀ a, (f a).length = m) : ∀ (l : List α) (k : Nat), (l.flatMap f).drop (k * m) = (l.drop k).flatMap f
  | [], k => by simp
  | a :: l, 0 => by simp
  | a :: l, k + 1 => by
    rw [List.flatMap_cons, List.drop_succ_cons, List.drop_append, hf, List.drop_of_length_le (by rw [hf, Nat.add_mul]; omega), show (k + 1) * m - m = k * m by rw [Nat.add_mul]; omega, flat_drop hf l k, List.nil_append]
end
theorem ims_take (l : List Im) (k : Nat) : (ims l).take (k * 28) = ims (l.take k) := flat_take (f := Im.ds) (m := 28) (fun _ => rfl) l k
theorem ims_drop (l : List Im) (k : Nat) : (ims l).drop (k * 28) = ims (l.drop k) := flat_drop (f := Im.ds) (m := 28) (fun _ => rfl) l k
/-! ### images with longer rows -/
end Go.Proofs.YthlmmlcdoiahkaaDoor

/-
  A procedure that is handed data alone is a function of its data, if its caller gives up what it makes.
-/
namespace Go.Proofs.YthlmmlcdoiahkaaDoor
open Go.RowKit
set_option linter.unusedVariables false
set_option linter.unusedSimpArgs false

def Cl.thaw (bx : Nat → Bx) : Cl → Option DV
  | .d v => some v
  | .nil => some (.sl 0 [])
  | .ref b n => match inside (bx b) with
    | some xs => some (.sl n xs)
    | none => none
  | _ => none
def thaws (bx : Nat → Bx) : List Cl → Option (List DV)
  | [] => some []
  | c :: cs => match c.thaw bx, thaws bx cs with
    | some d, some ds => some (d :: ds)
    | _, _ => none
mutual
def AV.thaw (bx : Nat → Bx) : AV → Option RV
  | .one c => match c.thaw bx with
    | some d => some (.d d)
    | none => none
  | .agg cs => match thaws bx cs with
    | some ds => some (.agg ds)
    | none => none
  | .tup vs => match AV.thawL bx vs with
    | some rs => some (.tup rs)
    | none => none
def AV.thawL (bx : Nat → Bx) : List AV → Option (List RV)
  | [] => some []
  | x :: xs => match x.thaw bx, AV.thawL bx xs with
    | some r, some rs => some (r :: rs)
    | _, _ => none
end
section
variable {w : World} {V V' : Nat → Prop} {ι : Names} {bx : Nat → Bx}
theorem thaw_cl (hk : ∀ g, V g → V' g) (hb : ∀ b, RepBx w V ι bx b (bx b)) (ho : ∀ b g c, (bx b).live = true → ι b = some (g, c) → V' g) {c : Cl} {d : DV} {v : Value} (h : c.thaw bx = some d) (hr : RepCl w V ι bx c v) : RepD w V' d v := by
  have hkk : Keeps w V w V' := fun g off u hV hu => ⟨hk g hV, hu⟩
  cases c with
  | d x =>
    simp only [Cl.thaw, Option.some.injEq] at h
    subst h
    exact RepD.keep hkk hr
  | nil =>
    simp only [Cl.thaw, Option.some.injEq] at h
    subst h
    simp only [RepCl] at hr
    simp only [RepD]
    exact ⟨none, 0, hr, Nat.le_refl _, Nat.zero_le _, fun hne => absurd rfl hne⟩
  | ref b n =>
    simp only [Cl.thaw] at h
    split at h
    · rename_i xs hin
      simp only [Option.some.injEq] at h
      subst h
      simp only [RepCl] at hr
      have hbb := hb b
      cases hB : bx b with
      | row e size ys =>
        rw [hB] at hin hbb
        simp only [inside, Option.some.injEq] at hin
        subst hin
        obtain ⟨_, ⟨h1, h2, h3⟩ | ⟨g, cap, h1, h2, h3⟩⟩ := hr
        · rcases hbb with ⟨h4, h5⟩ | ⟨g, cap, cur, h4, _⟩
          · subst h5 h2
            simp only [RepD]
            exact ⟨none, 0, h3, Nat.le_refl _, Nat.zero_le _, fun hne => absurd rfl hne⟩
          · rw [h1] at h4; cases h4
        · rcases hbb with ⟨h4, h5⟩ | ⟨g', cap', cur, h4, h5, h6, h7, h8⟩
          · rw [h1] at h4; cases h4
          · rw [h1] at h4
            injection h4 with h4
            injection h4 with h4 h4'
            subst h4 h4'
            simp only [RepD]
            exact ⟨_, cap, h2, h3, h6, fun hne => ⟨g, 0, rfl, ho b g cap (by rw [hB]; rfl) h1, RepCells.of_row h5 (h8.keep hkk)⟩⟩
      | ice ys =>
        rw [hB] at hin hbb
        simp only [inside, Option.some.injEq] at hin
        subst hin
        obtain ⟨_, ⟨h1, h2, h3⟩ | ⟨g, cap, h1, h2, h3⟩⟩ := hr
        · rcases hbb with ⟨h4, h5⟩ | ⟨g, cap, h4, _⟩
          · subst h5 h2
            simp only [RepD]
            exact ⟨none, 0, h3, Nat.le_refl _, Nat.zero_le _, fun hne => absurd rfl hne⟩
          · rw [h1] at h4; cases h4
        · rcases hbb with ⟨h4, h5⟩ | ⟨g', cap', h4, h5, h6⟩
          · rw [h1] at h4; cases h4
          · rw [h1] at h4
            injection h4 with h4
            injection h4 with h4 h4'
            subst h4 h4'
            simp only [RepD]
            refine ⟨_, cap, h2, h3, h6, fun hne => ⟨g, 0, rfl, ?_⟩⟩
            have h9 := Lies.keep hkk h5
            exact h9 hne
      | fresh => rw [hB] at hin; cases hin
      | gone => rw [hB] at hin; cases hin
      | cells cs => rw [hB] at hin; cases hin
    · cases h
  | lit u => cases h
  | ptr b off => cases h
  | vp cs off => cases h
  | clo f cs => cases h
  | dead => cases h
theorem thaw_cls (hk : ∀ g, V g → V' g) (hb : ∀ b, RepBx w V ι bx b (bx b)) (ho : ∀ b g c, (bx b).live = true → ι b = some (g, c) → V' g) : ∀ {cs : List Cl} {ds : List DV} {vs : List Value}, thaws bx cs = some ds → RepCls w V ι bx cs vs → RepDs w V' ds vs
  | [], ds, vs, h, hr => by
    simp only [thaws, Option.some.injEq] at h
    subst h
    cases vs with
    | nil => trivial
    | cons _ _ => exact hr.elim
  | c :: cs, ds, vs, h, hr => by
    simp only [thaws] at h
    split at h
    · rename_i d ds' h1 h2
      simp only [Option.some.injEq] at h
      subst h
      cases vs with
      | nil => exact hr.elim
      | cons v vs => exact ⟨thaw_cl hk hb ho h1 hr.1, thaw_cls hk hb ho h2 hr.2⟩
    · cases h
mutual
theorem thaw_av (hk : ∀ g, V g → V' g) (hb : ∀ b, RepBx w V ι bx b (bx b)) (ho : ∀ b g c, (bx b).live = true → ι b = some (g, c) → V' g) : ∀ {x : AV} {r : RV} {v : Value}, x.thaw bx = some r → RepAV w V ι bx x v → RepR w V' r v
  | .one c, r, v, h, hr => by
    simp only [AV.thaw] at h
    split at h
    · rename_i d h1
      simp only [Option.some.injEq] at h
      subst h
      simp only [RepAV] at hr
      simp only [RepR]
      exact thaw_cl hk hb ho h1 hr
    · cases h
  | .agg cs, r, v, h, hr => by
    simp only [AV.thaw] at h
    split at h
    · rename_i d h1
      simp only [Option.some.injEq] at h
      subst h
      simp only [RepAV] at hr
      obtain ⟨cur, e, hr⟩ := hr
      simp only [RepR]
      exact ⟨cur, e, thaw_cls hk hb ho h1 hr⟩
    · cases h
  | .tup vs, r, v, h, hr => by
    simp only [AV.thaw] at h
    split at h
    · rename_i d h1
      simp only [Option.some.injEq] at h
      subst h
      simp only [RepAV] at hr
      obtain ⟨cur, e, hr⟩ := hr
      simp only [RepR]
      exact ⟨cur, e, thaw_avs hk hb ho h1 hr⟩
    · cases h
theorem thaw_avs (hk : ∀ g, V g → V' g) (hb : ∀ b, RepBx w V ι bx b (bx b)) (ho : ∀ b g c, (bx b).live = true → ι b = some (g, c) → V' g) : ∀ {xs : List AV} {rs : List RV} {vs : List Value}, AV.thawL bx xs = some rs → RepAVs w V ι bx xs vs → RepRs w V' rs vs
  | [], rs, vs, h, hr => by
    simp only [AV.thawL, Option.some.injEq] at h
    subst h
    cases vs with
    | nil => simp only [RepRs]
    | cons _ _ => simp only [RepAVs] at hr
  | x :: xs, rs, vs, h, hr => by
    simp only [AV.thawL] at h
    split at h
    · rename_i d ds' h1 h2
      simp only [Option.some.injEq] at h
      subst h
      cases vs with
      | nil => simp only [RepAVs] at hr
      | cons v vs =>
        simp only [RepAVs] at hr
        simp only [RepRs]
        exact ⟨thaw_av hk hb ho h1 hr.1, thaw_avs hk hb ho h2 hr.2⟩
    · cases h
end
end
theorem AnsG.ans {P : Program} {f : FuncId} {args : List AV} {rs : List RV} {r : Ret} {res : RV} (h : AnsG P f 0 args [] r) (ha : args = RV.avs rs) (hr : r.res.thaw (boxes r.outs) = some res) : Ans P f rs res := by
  subst ha
  intro w S vs hg hrep
  have hno : ∀ b, (boxes ([] : List Bx) b) = .fresh := fun b => by simp [boxes]
  have hnone : ∀ g, ¬ OwnB (boxes ([] : List Bx)) (fun _ => none) g := fun g ⟨b, c, hl, e⟩ => by rw [hno] at hl; cases hl
  have hh : Handed_ w S (fun _ => none) (RV.avs rs) [] vs.toList := by
    refine ⟨fun b g c hl e => ?_, fun b b' g c c' hl hl' hne e => ?_, fun b => ?_, rep_avs hrep⟩
    · rw [hno] at hl; cases hl
    · rw [hno] at hl; cases hl
    · rw [hno]; trivial
  refine (h w S _ vs hg hh).mono fun ed w' hp => ?_
  obtain ⟨v, ι', rfl, ha⟩ := hp
  refine ⟨v, rfl, thaw_av (fun g hV => ?_) ha.bx (fun b g c hl e => ?_) hr ha.rep, ha.bel.below hnone⟩
  · rcases hV.1 with ⟨_, h⟩ | h | h
    · exact .inl h
    · exact .inr h
    · exact absurd h (hnone g)
  · rcases (ha.own b g c hl e).1 with h | h
    · exact .inr h
    · exact absurd h (hnone g)
end Go.Proofs.YthlmmlcdoiahkaaDoor

/-
  What a law is handed, in plain words: scenes, lists of operations.
-/
namespace Go.Proofs.YthlmmlcdoiahkaaDoor
open Go.RowKit
set_option linter.unusedVariables false
set_option linter.unusedSimpArgs false

def Leaves (P : Program) (ls : List TypeId) (n : Nat) (xs : List DV) : Prop :=
  xs.length = n * ls.length ∧ ∀ (j : Nat) d, xs[j]? = some d → ∃ t', ls[j % ls.length]? = some t' ∧ ∃ q, LeafD P q t' d
theorem Leaves.at_ {P : Program} {ls : List TypeId} {n : Nat} {xs : List DV} (h : Leaves P ls n xs) {k r : Nat} {t : TypeId} (hk : k < n) (hr : ls[r]? = some t) : ∃ d q, xs[k * ls.length + r]? = some d ∧ LeafD P q t d := by
  obtain ⟨hn, hx⟩ := h
  have hr' : r < ls.length := (List.getElem?_eq_some_iff.1 hr).1
  have hle : (k + 1) * ls.length ≤ n * ls.length := Nat.mul_le_mul_right _ (by omega)
  rw [Nat.add_mul] at hle
  have hj : k * ls.length + r < xs.length := by omega
  obtain ⟨t', a, q, b⟩ := hx _ _ (List.getElem?_eq_getElem hj)
  rw [Nat.mul_comm k, Nat.mul_add_mod, Nat.mod_eq_of_lt hr', hr] at a
  injection a with a
  subst a
  exact ⟨_, q, List.getElem?_eq_getElem hj, b⟩
theorem Leaves.int {P : Program} {ls : List TypeId} {n : Nat} {xs : List DV} (h : Leaves P ls n xs) {k r : Nat} {t : TypeId} {kk : IntKind} (hk : k < n) (hr : ls[r]? = some t) (hu : P.underlying t = some (.int kk)) : xs[k * ls.length + r]? = some (.int kk (nAt xs (k * ls.length + r))) := by
  obtain ⟨d, q, e, b⟩ := h.at_ hk hr
  obtain ⟨v, rfl⟩ := b.int hu
  simp only [nAt, e]
theorem Leaves.bool {P : Program} {ls : List TypeId} {n : Nat} {xs : List DV} (h : Leaves P ls n xs) {k r : Nat} {t : TypeId} (hk : k < n) (hr : ls[r]? = some t) (hu : P.underlying t = some .bool) : xs[k * ls.length + r]? = some (.bool (bAt xs (k * ls.length + r))) := by
  obtain ⟨d, q, e, b⟩ := h.at_ hk hr
  obtain ⟨v, rfl⟩ := b.bool hu
  simp only [bAt, e]
theorem Leaves.sl {P : Program} {ls : List TypeId} {n : Nat} {xs : List DV} (h : Leaves P ls n xs) {k r : Nat} {t e : TypeId} {ms : List TypeId} (hk : k < n) (hr : ls[r]? = some t) (hu : P.underlying t = some (.slice e)) (hl : lv P e = some ms) :
    xs[k * ls.length + r]? = some (.sl (lAt xs (k * ls.length + r)) (cAt xs (k * ls.length + r))) ∧ Leaves P ms (lAt xs (k * ls.length + r)) (cAt xs (k * ls.length + r)) := by
  obtain ⟨d, q, e1, b⟩ := h.at_ hk hr
  obtain ⟨m, ys, rfl, _, h1, h2⟩ := b.slice hu hl
  simp only [lAt, cAt, e1]
  exact ⟨trivial, h1, h2⟩
theorem Leaves.ints {P : Program} {t : TypeId} {n : Nat} {xs : List DV} (h : Leaves P [t] n xs) (hu : P.underlying t = some (.int .i64)) : xs = is (ints xs) ∧ n = xs.length :=
  isI_of (by have := h.1; simpa using this) fun j d hj => by obtain ⟨t', a, q, b⟩ := h.2 j d hj; exact intLeaf1 hu a b
theorem Leaves.five {P : Program} {t : TypeId} {n : Nat} {xs : List DV} (h : Leaves P [t, t, t, t, t] n xs) (hu : P.underlying t = some (.int .i64)) : Is5 n xs :=
  is5_of h.1 fun j d hj => by obtain ⟨t', a, q, b⟩ := h.2 j d hj; exact intLeaf5 hu a b
theorem Leaves.pics {P : Program} {t ts e : TypeId} {n : Nat} {xs : List DV} (h : Leaves P [t, t, t, t, ts] n xs) (hu : P.underlying t = some (.int .i64)) (hs : P.underlying ts = some (.slice e)) (hl : lv P e = some [t, t, t, t, t]) : IsPics n xs :=
  ⟨h.1, fun k hk => ⟨h.int (r := 0) hk rfl hu, h.int (r := 1) hk rfl hu, h.int (r := 2) hk rfl hu, h.int (r := 3) hk rfl hu, (h.sl (r := 4) hk rfl hs hl).1, (h.sl (r := 4) hk rfl hs hl).2.five hu⟩⟩
theorem Leaves.raws {P : Program} {t : TypeId} {n : Nat} {xs : List DV} (h : Leaves P [t, t, t, t, t, t, t, t, t, t, t] n xs) (hu : P.underlying t = some (.int .i64)) : IsRws n xs := by
  refine ⟨h.1, fun i hi => ?_⟩
  have hr : [t, t, t, t, t, t, t, t, t, t, t][i % 11]? = some t := by
    have h2 : i % 11 < 11 := Nat.mod_lt _ (by omega)
    generalize i % 11 = r at *
    match r, h2 with
    | 0, _ | 1, _ | 2, _ | 3, _ | 4, _ | 5, _ | 6, _ | 7, _ | 8, _ | 9, _ | 10, _ => rfl
  have := h.int (k := i / 11) (r := i % 11) (by omega) hr hu
  have e : i / 11 * [t, t, t, t, t, t, t, t, t, t, t].length + i % 11 = i := by show i / 11 * 11 + i % 11 = i; omega
  rw [e] at this
  exact this
theorem blocks_eq {xs ys : List DV} {n m : Nat} (hx : xs.length = n * m) (hy : ys.length = n * m) (h : ∀ k, k < n → ∀ j, j < m → xs[k * m + j]? = ys[k * m + j]?) : xs = ys := by
  refine List.ext_getElem? fun i => ?_
  by_cases hi : i < n * m
  · have hm : 0 < m := by
      rcases Nat.eq_zero_or_pos m with h0 | h0
      · subst h0; simp at hi
      · exact h0
    have := h (i / m) (Nat.div_lt_of_lt_mul (by rw [Nat.mul_comm]; exact hi)) (i % m) (Nat.mod_lt _ hm)
    have e : i / m * m + i % m = i := by rw [Nat.mul_comm]; exact Nat.div_add_mod i m
    rw [e] at this
    exact this
  · rw [List.getElem?_eq_none (by omega), List.getElem?_eq_none (by omega)]
theorem Leaves.ops {P : Program} {t u b : TypeId} {n : Nat} {xs : List DV} (h : Leaves P [t, t, t, t, t, t, t, u, t, t, b, b] n xs) (ht : P.underlying t = some (.int .i64)) (hu : P.underlying u = some (.int .u16)) (hb : P.underlying b = some .bool) : IsOps n xs := by
  have hl : xs.length = n * 12 := h.1
  have hn : (toOps xs).length = n := by unfold toOps; rw [List.length_map, List.length_range, hl]; omega
  refine ⟨blocks_eq hl (by rw [ops_length, hn]) fun k hk j hj => ?_, hn.symm⟩
  have e : (toOps xs)[k]'(by omega) = oqAt xs (k * 12) := by simp [toOps]
  rw [ops_get (by omega) j hj, e]
  have key := fun r (hr : r < 12) => h.at_ (k := k) (r := r) (t := [t, t, t, t, t, t, t, u, t, t, b, b][r]) hk (List.getElem?_eq_getElem hr)
  match j, hj with
  | 0, _ => exact h.int (r := 0) hk rfl ht
  | 1, _ => exact h.int (r := 1) hk rfl ht
  | 2, _ => exact h.int (r := 2) hk rfl ht
  | 3, _ => exact h.int (r := 3) hk rfl ht
  | 4, _ => exact h.int (r := 4) hk rfl ht
  | 5, _ => exact h.int (r := 5) hk rfl ht
  | 6, _ => exact h.int (r := 6) hk rfl ht
  | 7, _ => exact h.int (r := 7) hk rfl hu
  | 8, _ => exact h.int (r := 8) hk rfl ht
  | 9, _ => exact h.int (r := 9) hk rfl ht
  | 10, _ => exact h.bool (r := 10) hk rfl hb
  | 11, _ => exact h.bool (r := 11) hk rfl hb
end Go.Proofs.YthlmmlcdoiahkaaDoor

/-
  ValidateSeesUnusedImages answers true, whatever it is handed.
-/
namespace Go.Proofs.YthlmmlcdoiahkaaDoor
open Go.RowKit
set_option linter.unusedVariables false
set_option linter.unusedSimpArgs false
attribute [local irreducible] Ans AnsO AnsG AnsN AnsI

set_option maxRecDepth 4000
theorem G_Script_dat (s : Scn) (hs : s.ok) : Ans Tryd.prog 10 [RV.agg [DV.int .i64 s.b, DV.int .i64 s.x, DV.int .i64 s.y, DV.int .i64 s.w, DV.int .i64 s.h, DV.int .i64 s.tw, DV.int .i64 s.th, DV.sl s.on s.oxs, DV.sl s.pn s.pxs, DV.sl s.rn s.rxs]] (RV.agg [DV.int .i64 s.bits, DV.int .i64 s.c.a, DV.int .i64 s.c.b, DV.int .i64 s.c.c, DV.int .i64 s.c.d, DV.int .i64 s.gtw, DV.int .i64 s.gth, DV.sl s.ord.length (is s.ord), DV.sl s.ims.length (ims s.ims), DV.sl s.ops.length (ops s.ops)]) := AnsG.ans (G_Script_ans s hs) rfl rfl
def badIm : Im := ⟨1, 1, true, ⟨0, 0, 0, 1, 0⟩, .none, .none, .none, .none, .none⟩
theorem badIm_valid (most : Int) : badIm.valid most = 8 := by
  have h1 : fitsP badIm.w badIm.h = true := by decide
  have h2 : badIm.inner = true := by decide
  unfold Im.valid
  rw [if_neg (by rw [h1]; simp), if_neg (by rw [h2]; simp)]
  simp [badIm, Px.ok]
theorem imsE_bad {most : Int} {m : Im} (hm : m.valid most ≠ 0) (r : List Im) : ∀ (l : List Im) (i : Int), (∀ m ∈ l, m.valid most = 0) → imsE most (l ++ m :: r) i = (m.valid most, i + l.length)
  | [], i, _ => by
    rw [List.nil_append, imsE, if_neg hm]
    simp
  | q :: l, i, h => by
    rw [List.cons_append, imsE, if_pos (h q List.mem_cons_self), imsE_bad hm r l _ fun m hm => h m (List.mem_cons_of_mem _ hm)]
    congr 1
    simp only [List.length_cons, Int.natCast_add, Int.natCast_one]
    omega
def seenI (s : Scn) (at_ : Int) : Int := modS at_ (IntKind.wrap .i64 (((s.ims.length : Nat) : Int) + 1))
def seenX (s : Scn) (at_ : Int) : List Im := s.ims.take (seenI s at_).toNat ++ badIm :: s.ims.drop (seenI s at_).toNat
def gamValidateSeesUnusedImages : Gam where
 pure := fun f xs =>
  if f = 10 then (match xs with | [.agg [.int _ sb, .int _ sx, .int _ sy, .int _ sw, .int _ sh, .int _ stw, .int _ sth, .sl son soxs, .sl spn spxs, .sl srn srxs]] => some (RV.agg [DV.int .i64 (((⟨sb, sx, sy, sw, sh, stw, sth, son, soxs, spn, spxs, srn, srxs⟩ : Scn)).bits), DV.int .i64 (((⟨sb, sx, sy, sw, sh, stw, sth, son, soxs, spn, spxs, srn, srxs⟩ : Scn)).c.a), DV.int .i64 (((⟨sb, sx, sy, sw, sh, stw, sth, son, soxs, spn, spxs, srn, srxs⟩ : Scn)).c.b), DV.int .i64 (((⟨sb, sx, sy, sw, sh, stw, sth, son, soxs, spn, spxs, srn, srxs⟩ : Scn)).c.c), DV.int .i64 (((⟨sb, sx, sy, sw, sh, stw, sth, son, soxs, spn, spxs, srn, srxs⟩ : Scn)).c.d), DV.int .i64 (((⟨sb, sx, sy, sw, sh, stw, sth, son, soxs, spn, spxs, srn, srxs⟩ : Scn)).gtw), DV.int .i64 (((⟨sb, sx, sy, sw, sh, stw, sth, son, soxs, spn, spxs, srn, srxs⟩ : Scn)).gth), DV.sl (((⟨sb, sx, sy, sw, sh, stw, sth, son, soxs, spn, spxs, srn, srxs⟩ : Scn)).ord.length) (is ((⟨sb, sx, sy, sw, sh, stw, sth, son, soxs, spn, spxs, srn, srxs⟩ : Scn)).ord), DV.sl (((⟨sb, sx, sy, sw, sh, stw, sth, son, soxs, spn, spxs, srn, srxs⟩ : Scn)).ims.length) (ims ((⟨sb, sx, sy, sw, sh, stw, sth, son, soxs, spn, spxs, srn, srxs⟩ : Scn)).ims), DV.sl (((⟨sb, sx, sy, sw, sh, stw, sth, son, soxs, spn, spxs, srn, srxs⟩ : Scn)).ops.length) (ops ((⟨sb, sx, sy, sw, sh, stw, sth, son, soxs, spn, spxs, srn, srxs⟩ : Scn)).ops)]) | _ => none) else
  if f = 20 then (match xs with | [.d (.int _ n), .d (.int _ k)] => some (RV.d (DV.int .i64 (modS n k))) | _ => none) else
  if f = 12 then (match xs with | [.agg [.int _ bits, .int _ cx0, .int _ cy0, .int _ cx1, .int _ cy1, .int _ tw, .int _ th, .sl on oxs, .sl mn mxs, .sl pn pxs]] => some (RV.tup [RV.d (DV.int .i64 ((checkE ⟨bits, ⟨cx0, cy0, cx1, cy1⟩, tw, th, ints oxs, toIms mxs, toOps pxs⟩).1)), RV.d (DV.int .i64 ((checkE ⟨bits, ⟨cx0, cy0, cx1, cy1⟩, tw, th, ints oxs, toIms mxs, toOps pxs⟩).2))]) | _ => none) else
  if f = 14 then (match xs with | [] => some (RV.d (DV.bool true)) | _ => none) else
  none
 modes := fun f =>
  none
 proc := fun f xs bs =>
  none
 iter := fun f cs =>
  none

def L20_ValidateSeesUnusedImages_ann (s : Scn) (at_ : Int) (bad : Bool) : Ann := let zz0 := (8, AV.one (Cl.d (DV.int .i64 (seenI s at_)))); let zz1 := (DV.sl s.ord.length (is s.ord)); let zz2 := (7001, Bx.row 43 28 (ims (seenX s at_))); (Ann.seq Ann.leaf (Ann.seq Ann.leaf (Ann.seq Ann.leaf (Ann.seq Ann.leaf (Ann.seq Ann.leaf (Ann.seq Ann.leaf (Ann.cut ⟨Unit, fun u1 : Unit => True, fun u1 : Unit => ⟨[(2, AV.one (Cl.d (DV.bool bad))), (7, AV.one (Cl.ptr 7 0)), zz0], [(7, Bx.cells [Cl.d (DV.int .i64 s.bits), Cl.d (DV.int .i64 s.c.a), Cl.d (DV.int .i64 s.c.b), Cl.d (DV.int .i64 s.c.c), Cl.d (DV.int .i64 s.c.d), Cl.d (DV.int .i64 s.gtw), Cl.d (DV.int .i64 s.gth), Cl.d zz1, Cl.ref 7001 ((seenX s at_).length), Cl.nil]), zz2]⟩, fun u1 : Unit => 0⟩ Ann.leaf fun u1 => (Ann.cut ⟨List Oq, fun po : List Oq => po.length ≤ 1, fun po : List Oq => ⟨[(7, AV.one (Cl.ptr 7 0)), zz0], [(7, Bx.cells [Cl.d (DV.int .i64 s.bits), Cl.d (DV.int .i64 s.c.a), Cl.d (DV.int .i64 s.c.b), Cl.d (DV.int .i64 s.c.c), Cl.d (DV.int .i64 s.c.d), Cl.d (DV.int .i64 s.gtw), Cl.d (DV.int .i64 s.gth), Cl.d zz1, Cl.ref 7001 ((seenX s at_).length), Cl.ref 7002 po.length]), zz2, (7002, Bx.row 54 12 (ops po))]⟩, fun po : List Oq => 0⟩ Ann.leaf fun po => Ann.leaf))))))))
theorem L20_ValidateSeesUnusedImages_vc (s : Scn) (at_ : Int) (bad : Bool) : vcg Tryd.prog gamValidateSeesUnusedImages 57 (bodyOf Tryd.f8) (L20_ValidateSeesUnusedImages_ann s at_ bad) kn0 (start [RV.agg [DV.int .i64 s.b, DV.int .i64 s.x, DV.int .i64 s.y, DV.int .i64 s.w, DV.int .i64 s.h, DV.int .i64 s.tw, DV.int .i64 s.th, DV.sl s.on s.oxs, DV.sl s.pn s.pxs, DV.sl s.rn s.rxs], RV.d (DV.int .i64 at_), RV.d (DV.bool bad)]) (post Tryd.prog Tryd.f8.results.toList (· = RV.d (DV.bool true))) =
  (let zz0 := ((0 = 0) ∧ (DV.int .i64 (seenI s at_) = DV.int .i64 (seenI s at_)) ∧ True); let zz1 := (DV.int .i64 s.bits = DV.int .i64 s.bits); let zz2 := (DV.int .i64 s.c.a = DV.int .i64 s.c.a); let zz3 := (DV.int .i64 s.c.b = DV.int .i64 s.c.b); let zz4 := (DV.int .i64 s.c.c = DV.int .i64 s.c.c); let zz5 := (DV.int .i64 s.c.d = DV.int .i64 s.c.d); let zz6 := (DV.int .i64 s.gtw = DV.int .i64 s.gtw); let zz7 := (DV.int .i64 s.gth = DV.int .i64 s.gth); let zz8 := (DV.sl s.ord.length (is s.ord) = DV.sl s.ord.length (is s.ord)); let zz9 := ((seenX s at_).length = (seenX s at_).length); let zz10 := (ims (seenX s at_) = ims (seenX s at_)); True ∧ True ∧ True ∧ (Ans Tryd.prog 10 [RV.agg [DV.int .i64 s.b, DV.int .i64 s.x, DV.int .i64 s.y, DV.int .i64 s.w, DV.int .i64 s.h, DV.int .i64 s.tw, DV.int .i64 s.th, DV.sl s.on s.oxs, DV.sl s.pn s.pxs, DV.sl s.rn s.rxs]] (RV.agg [DV.int .i64 ((s).bits), DV.int .i64 ((s).c.a), DV.int .i64 ((s).c.b), DV.int .i64 ((s).c.c), DV.int .i64 ((s).c.d), DV.int .i64 ((s).gtw), DV.int .i64 ((s).gth), DV.sl ((s).ord.length) (is (s).ord), DV.sl ((s).ims.length) (ims (s).ims), DV.sl ((s).ops.length) (ops (s).ops)])) ∧ True ∧ True ∧ True ∧ True ∧ True ∧ True ∧ True ∧ (Ans Tryd.prog 20 [RV.d (DV.int .i64 at_), RV.d (DV.int .i64 (IntKind.wrap .i64 ((((s).ims.length : Nat) : Int) + (1 : Int))))] (RV.d (DV.int .i64 (modS at_ (IntKind.wrap .i64 ((((s).ims.length : Nat) : Int) + (1 : Int))))))) ∧ True ∧ True ∧ True ∧ True ∧ (0 ≤ (0 : Int) ∧ (0 : Int) ≤ modS at_ (IntKind.wrap .i64 ((((s).ims.length : Nat) : Int) + (1 : Int))) ∧ modS at_ (IntKind.wrap .i64 ((((s).ims.length : Nat) : Int) + (1 : Int))) ≤ (((s).ims.length : Nat) : Int)) ∧ (appVc 28 272 0 ((modS at_ (IntKind.wrap .i64 ((((s).ims.length : Nat) : Int) + (1 : Int))) - (0 : Int)).toNat) ([]) (List.take ((modS at_ (IntKind.wrap .i64 ((((s).ims.length : Nat) : Int) + (1 : Int))) - (0 : Int)).toNat * 28) (List.drop ((0 : Int).toNat * 28) (ims (s).ims)))) ∧ True ∧ True ∧ True ∧ True ∧ True ∧ (appVc 28 272 ((modS at_ (IntKind.wrap .i64 ((((s).ims.length : Nat) : Int) + (1 : Int))) - (0 : Int)).toNat) 1 (List.take ((modS at_ (IntKind.wrap .i64 ((((s).ims.length : Nat) : Int) + (1 : Int))) - (0 : Int)).toNat * 28) (List.drop ((0 : Int).toNat * 28) (ims (s).ims))) ([DV.int .i64 1, DV.int .i64 1, DV.bool true, DV.int .u16 0, DV.int .u16 0, DV.int .u16 0, DV.int .u16 1, DV.int .u16 0, DV.int .i64 0, DV.int .i64 0, DV.int .i64 0, DV.sl 0 ([]), DV.int .i64 0, DV.int .i64 0, DV.int .i64 0, DV.sl 0 ([]), DV.int .i64 0, DV.int .i64 0, DV.int .i64 0, DV.sl 0 ([]), DV.int .i64 0, DV.int .i64 0, DV.int .i64 0, DV.sl 0 ([]), DV.int .i64 0, DV.int .i64 0, DV.int .i64 0, DV.sl 0 ([])])) ∧ True ∧ True ∧ True ∧ True ∧ True ∧ (0 ≤ modS at_ (IntKind.wrap .i64 ((((s).ims.length : Nat) : Int) + (1 : Int))) ∧ modS at_ (IntKind.wrap .i64 ((((s).ims.length : Nat) : Int) + (1 : Int))) ≤ (((s).ims.length : Nat) : Int) ∧ (((s).ims.length : Nat) : Int) ≤ (((s).ims.length : Nat) : Int)) ∧ (appVc 28 272 (((modS at_ (IntKind.wrap .i64 ((((s).ims.length : Nat) : Int) + (1 : Int))) - (0 : Int)).toNat) + 1) (((((s).ims.length : Nat) : Int) - modS at_ (IntKind.wrap .i64 ((((s).ims.length : Nat) : Int) + (1 : Int)))).toNat) ((List.take ((modS at_ (IntKind.wrap .i64 ((((s).ims.length : Nat) : Int) + (1 : Int))) - (0 : Int)).toNat * 28) (List.drop ((0 : Int).toNat * 28) (ims (s).ims))) ++ ([DV.int .i64 1, DV.int .i64 1, DV.bool true, DV.int .u16 0, DV.int .u16 0, DV.int .u16 0, DV.int .u16 1, DV.int .u16 0, DV.int .i64 0, DV.int .i64 0, DV.int .i64 0, DV.sl 0 ([]), DV.int .i64 0, DV.int .i64 0, DV.int .i64 0, DV.sl 0 ([]), DV.int .i64 0, DV.int .i64 0, DV.int .i64 0, DV.sl 0 ([]), DV.int .i64 0, DV.int .i64 0, DV.int .i64 0, DV.sl 0 ([]), DV.int .i64 0, DV.int .i64 0, DV.int .i64 0, DV.sl 0 ([])])) (List.take (((((s).ims.length : Nat) : Int) - modS at_ (IntKind.wrap .i64 ((((s).ims.length : Nat) : Int) + (1 : Int)))).toNat * 28) (List.drop ((modS at_ (IntKind.wrap .i64 ((((s).ims.length : Nat) : Int) + (1 : Int)))).toNat * 28) (ims (s).ims)))) ∧ True ∧ True ∧ (True ∧ True ∧ ∃ u1 : Unit, True ∧ (((DV.bool bad = DV.bool bad) ∧ (0 = 0) ∧ (DV.int .i64 (modS at_ (IntKind.wrap .i64 ((((s).ims.length : Nat) : Int) + (1 : Int)))) = DV.int .i64 (seenI s at_)) ∧ True) ∧ (((DV.int .i64 ((s).bits) = DV.int .i64 s.bits) ∧ (DV.int .i64 ((s).c.a) = DV.int .i64 s.c.a) ∧ (DV.int .i64 ((s).c.b) = DV.int .i64 s.c.b) ∧ (DV.int .i64 ((s).c.c) = DV.int .i64 s.c.c) ∧ (DV.int .i64 ((s).c.d) = DV.int .i64 s.c.d) ∧ (DV.int .i64 ((s).gtw) = DV.int .i64 s.gtw) ∧ (DV.int .i64 ((s).gth) = DV.int .i64 s.gth) ∧ (DV.sl ((s).ord.length) (is (s).ord) = DV.sl s.ord.length (is s.ord)) ∧ ((((modS at_ (IntKind.wrap .i64 ((((s).ims.length : Nat) : Int) + (1 : Int))) - (0 : Int)).toNat) + 1) + (((((s).ims.length : Nat) : Int) - modS at_ (IntKind.wrap .i64 ((((s).ims.length : Nat) : Int) + (1 : Int)))).toNat) = (seenX s at_).length) ∧ True ∧ True) ∧ (((List.take ((modS at_ (IntKind.wrap .i64 ((((s).ims.length : Nat) : Int) + (1 : Int))) - (0 : Int)).toNat * 28) (List.drop ((0 : Int).toNat * 28) (ims (s).ims))) ++ ([DV.int .i64 1, DV.int .i64 1, DV.bool true, DV.int .u16 0, DV.int .u16 0, DV.int .u16 0, DV.int .u16 1, DV.int .u16 0, DV.int .i64 0, DV.int .i64 0, DV.int .i64 0, DV.sl 0 ([]), DV.int .i64 0, DV.int .i64 0, DV.int .i64 0, DV.sl 0 ([]), DV.int .i64 0, DV.int .i64 0, DV.int .i64 0, DV.sl 0 ([]), DV.int .i64 0, DV.int .i64 0, DV.int .i64 0, DV.sl 0 ([]), DV.int .i64 0, DV.int .i64 0, DV.int .i64 0, DV.sl 0 ([])])) ++ (List.take (((((s).ims.length : Nat) : Int) - modS at_ (IntKind.wrap .i64 ((((s).ims.length : Nat) : Int) + (1 : Int)))).toNat * 28) (List.drop ((modS at_ (IntKind.wrap .i64 ((((s).ims.length : Nat) : Int) + (1 : Int)))).toNat * 28) (ims (s).ims))) = ims (seenX s at_)) ∧ True))) ∧ ∀ u1 : Unit, (True) → (True ∧ ((bad = true → True ∧ True ∧ True ∧ True ∧ ∃ po : List Oq, (po.length ≤ 1) ∧ (zz0 ∧ ((zz1 ∧ zz2 ∧ zz3 ∧ zz4 ∧ zz5 ∧ zz6 ∧ zz7 ∧ zz8 ∧ zz9 ∧ (1 = po.length) ∧ True) ∧ zz10 ∧ ([DV.int .i64 9, DV.int .i64 0, DV.int .i64 0, DV.int .i64 0, DV.int .i64 0, DV.int .i64 0, DV.int .i64 0, DV.int .u16 0, DV.int .i64 0, DV.int .i64 0, DV.bool false, DV.bool false] = ops po) ∧ True))) ∧ (bad = false → ∃ po : List Oq, (po.length ≤ 1) ∧ (zz0 ∧ ((zz1 ∧ zz2 ∧ zz3 ∧ zz4 ∧ zz5 ∧ zz6 ∧ zz7 ∧ zz8 ∧ zz9 ∧ (0 = po.length) ∧ True) ∧ zz10 ∧ ([] = ops po) ∧ True))))) ∧ ∀ po : List Oq, (po.length ≤ 1) → True ∧ (Ans Tryd.prog 12 [RV.agg [DV.int .i64 s.bits, DV.int .i64 s.c.a, DV.int .i64 s.c.b, DV.int .i64 s.c.c, DV.int .i64 s.c.d, DV.int .i64 s.gtw, DV.int .i64 s.gth, DV.sl s.ord.length (is s.ord), DV.sl ((seenX s at_).length) (ims (seenX s at_)), DV.sl po.length (ops po)]] (RV.tup [RV.d (DV.int .i64 ((checkE ⟨s.bits, s.c, s.gtw, s.gth, ints (is s.ord), toIms (ims (seenX s at_)), toOps (ops po)⟩).1)), RV.d (DV.int .i64 ((checkE ⟨s.bits, s.c, s.gtw, s.gth, ints (is s.ord), toIms (ims (seenX s at_)), toOps (ops po)⟩).2))])) ∧ True ∧ True ∧ True ∧ True ∧ True ∧ (Ans Tryd.prog 14 [] (RV.d (DV.bool true))) ∧ True ∧ ((true = true → True ∧ True ∧ True ∧ True ∧ (((((checkE ⟨s.bits, s.c, s.gtw, s.gth, ints (is s.ord), toIms (ims (seenX s at_)), toOps (ops po)⟩).1) == (8 : Int)) = true → True ∧ True ∧ True ∧ True ∧ True ∧ RV.d (DV.bool (((checkE ⟨s.bits, s.c, s.gtw, s.gth, ints (is s.ord), toIms (ims (seenX s at_)), toOps (ops po)⟩).2) == (seenI s at_))) = RV.d (DV.bool true)) ∧ ((((checkE ⟨s.bits, s.c, s.gtw, s.gth, ints (is s.ord), toIms (ims (seenX s at_)), toOps (ops po)⟩).1) == (8 : Int)) = (!true) → True ∧ True ∧ RV.d (DV.bool false) = RV.d (DV.bool true)))) ∧ (true = (!true) → True ∧ True ∧ True ∧ True ∧ RV.d (DV.bool false) = RV.d (DV.bool true)))) := by kernel_rfl
theorem L20_ValidateSeesUnusedImages_ans (s : Scn) (at_ : Int) (bad : Bool) (hs : s.ok) : Ans Tryd.prog 8 [RV.agg [DV.int .i64 s.b, DV.int .i64 s.x, DV.int .i64 s.y, DV.int .i64 s.w, DV.int .i64 s.h, DV.int .i64 s.tw, DV.int .i64 s.th, DV.sl s.on s.oxs, DV.sl s.pn s.pxs, DV.sl s.rn s.rxs], RV.d (DV.int .i64 at_), RV.d (DV.bool bad)] (RV.d (DV.bool true)) :=
  ans_of_vcg (Γ := gamValidateSeesUnusedImages) (L20_ValidateSeesUnusedImages_ann s at_ bad) mixed_ Tryd.func8 rfl (Nat.le_of_ble_eq_true rfl) fun hwf => by
    refine Eq.mpr (L20_ValidateSeesUnusedImages_vc s at_ bad) ?_
    simp only [true_and, and_true, RV.d.injEq, RV.agg.injEq, RV.tup.injEq, DV.bool.injEq, DV.int.injEq, DV.sl.injEq, List.cons.injEq, forall_const, Bool.not_false, Bool.not_true, Bool.not_eq_true', Bool.not_eq_false', decide_eq_true_eq, decide_eq_false_iff_not, Int.toNat_natCast, L20_awake_ans, G_Mod_ans]
    have li := s.ims_len
    have hM : ∀ n : Nat, n ≤ 100 → n ≤ maxLen := fun n h => by unfold maxLen; omega
    have mi : 0 ≤ seenI s at_ ∧ seenI s at_ < ((s.ims.length : Nat) : Int) + 1 := by
      unfold seenI
      rw [IntWalk.i64_in _ ⟨by omega, by omega⟩]
      exact modS_in (by omega) (by omega)
    have hI : modS at_ (IntKind.wrap .i64 (((s.ims.length : Nat) : Int) + 1)) = seenI s at_ := rfl
    simp only [hI]
    have hX : seenX s at_ = s.ims.take (seenI s at_).toNat ++ badIm :: s.ims.drop (seenI s at_).toNat := rfl
    generalize seenI s at_ = i at *
    obtain ⟨k, rfl⟩ : ∃ k : Nat, i = k := ⟨i.toNat, by omega⟩
    have e1 : (ims s.ims).take (k * 28) = ims (s.ims.take k) := ims_take _ _
    have e2 : (ims s.ims).drop (k * 28) = ims (s.ims.drop k) := ims_drop _ _
    have e3 : (((s.ims.length : Nat) : Int) - (k : Int)).toNat = s.ims.length - k := by omega
    have e4 : (ims (s.ims.drop k)).take ((s.ims.length - k) * 28) = ims (s.ims.drop k) := List.take_of_length_le (by rw [ims_length, List.length_drop]; exact Nat.le_refl _)
    have e5 : ((k : Int) - 0).toNat = k := by omega
    have e6 : Int.toNat 0 * 28 = 0 := rfl
    simp only [Int.toNat_natCast, e6, List.drop_zero, e5, e1, e2, e3, e4] at hX ⊢
    have lt : (s.ims.take k).length = k := by rw [List.length_take]; omega
    have hrow : ims (s.ims.take k) ++ badIm.ds ++ ims (s.ims.drop k) = ims (seenX s at_) := by
      rw [hX, ← ims_one, ← ims_append, ← ims_append, List.append_assoc]; rfl
    refine ⟨G_Script_dat s hs, ⟨by omega, by omega, by omega⟩, ⟨rfl, by rw [ims_length, lt], hM _ (by omega), by omega⟩, ⟨by rw [ims_length, lt], rfl, hM _ (by omega), by omega⟩, ⟨by omega, by omega, by omega⟩, ⟨by rw [List.length_append, ims_length, lt]; simp; omega, by rw [ims_length, List.length_drop], hM _ (by omega), by omega⟩, ⟨(), trivial, by rw [hX]; simp; omega, hrow⟩, ⟨fun h => ⟨[⟨9, 0, 0, 0, 0, 0, 0, 0, 0, 0, false, false⟩], by simp, rfl, rfl⟩, fun h => ⟨[], by simp, rfl, rfl⟩⟩, fun po hpo => ?_⟩
    have hU : ∀ m ∈ seenX s at_, m.isU := by
      rw [hX]
      intro m hm
      rcases List.mem_append.1 hm with hm | hm
      · exact s.ims_isU m (List.mem_of_mem_take hm)
      · rcases List.mem_cons.1 hm with rfl | hm
        · exact ⟨isU_nil, isU_nil, isU_nil, isU_nil, isU_nil⟩
        · exact s.ims_isU m (List.mem_of_mem_drop hm)
    have hL : (seenX s at_).length ≤ 10 := by rw [hX]; simp; omega
    have eE : checkE ⟨s.bits, s.c, s.gtw, s.gth, s.ord, seenX s at_, po⟩ = (8, (k : Int)) := by
      have hf : Scr.frame ⟨s.bits, s.c, s.gtw, s.gth, s.ord, seenX s at_, po⟩ = 0 := s.frame_ok (by simp only; omega) (by simp only; omega)
      have hb := badIm_valid s.most
      have h1 := imsE_bad (most := s.most) (m := badIm) (by rw [hb]; decide) (s.ims.drop k) (s.ims.take k) 0 fun m hm => (s.fine m (List.mem_of_mem_take hm)).2.2.1
      rw [hb, lt, ← hX] at h1
      have h2 : (0 : Int) + (k : Nat) = k := by omega
      rw [h2] at h1
      unfold checkE
      rw [if_pos hf]
      show (if (imsE (mostS s.bits) (seenX s at_) 0).1 = 0 then _ else imsE (mostS s.bits) (seenX s at_) 0) = _
      rw [s.bits_max.1, h1]
      rfl
    have a1 := validate_Check_ans s.bits s.c.a s.c.b s.c.c s.c.d s.gtw s.gth s.ord.length (is s.ord) (seenX s at_).length (ims (seenX s at_)) po.length (ops po) (isOps_ops rfl) (isI_is rfl) (isIms_ims rfl hU)
    simp only [ints_is, toIms_ims, toOps_ops, eE] at a1 ⊢
    exact ⟨a1, by simp⟩

end Go.Proofs.YthlmmlcdoiahkaaDoor

/-
  The program's own closed facts, once: each a declaration of its own.
-/
namespace Go.Proofs.YthlmmlcdoiahkaaDoor.closed
open Go
set_option linter.unusedVariables false
set_option linter.unusedSimpArgs false

set_option maxRecDepth 100000 in
theorem headWord : Tryd.prog.initOrder = String.ofList [Char.ofNat 104, Char.ofNat 97, Char.ofNat 114, Char.ofNat 110, Char.ofNat 101, Char.ofNat 115, Char.ofNat 115, Char.ofNat 32, Char.ofNat 55, Char.ofNat 55, Char.ofNat 101, Char.ofNat 52, Char.ofNat 101, Char.ofNat 54, Char.ofNat 102, Char.ofNat 48, Char.ofNat 100, Char.ofNat 54, Char.ofNat 102, Char.ofNat 102, Char.ofNat 53, Char.ofNat 51, Char.ofNat 100, Char.ofNat 48, Char.ofNat 99, Char.ofNat 57, Char.ofNat 52, Char.ofNat 54, Char.ofNat 101, Char.ofNat 51, Char.ofNat 102, Char.ofNat 54, Char.ofNat 100, Char.ofNat 97, Char.ofNat 52, Char.ofNat 51, Char.ofNat 50, Char.ofNat 52, Char.ofNat 50, Char.ofNat 53, Char.ofNat 57, Char.ofNat 48, Char.ofNat 55, Char.ofNat 101, Char.ofNat 100, Char.ofNat 51, Char.ofNat 52, Char.ofNat 54, Char.ofNat 97, Char.ofNat 55, Char.ofNat 50, Char.ofNat 101, Char.ofNat 54, Char.ofNat 50, Char.ofNat 51, Char.ofNat 49, Char.ofNat 102, Char.ofNat 55, Char.ofNat 101, Char.ofNat 98, Char.ofNat 102, Char.ofNat 57, Char.ofNat 49, Char.ofNat 54, Char.ofNat 51, Char.ofNat 52, Char.ofNat 97, Char.ofNat 54, Char.ofNat 51, Char.ofNat 52, Char.ofNat 100, Char.ofNat 49, Char.ofNat 32, Char.ofNat 99, Char.ofNat 117, Char.ofNat 116, Char.ofNat 32, Char.ofNat 97, Char.ofNat 116, Char.ofNat 32, Char.ofNat 99, Char.ofNat 111, Char.ofNat 109, Char.ofNat 112, Char.ofNat 111, Char.ofNat 115, Char.ofNat 105, Char.ofNat 116, Char.ofNat 111, Char.ofNat 114, Char.ofNat 47, Char.ofNat 99, Char.ofNat 111, Char.ofNat 109, Char.ofNat 112, Char.ofNat 111, Char.ofNat 115, Char.ofNat 105, Char.ofNat 116, Char.ofNat 111, Char.ofNat 114, Char.ofNat 108, Char.ofNat 97, Char.ofNat 119, Char.ofNat 50, Char.ofNat 48, Char.ofNat 46, Char.ofNat 86, Char.ofNat 97, Char.ofNat 108, Char.ofNat 105, Char.ofNat 100, Char.ofNat 97, Char.ofNat 116, Char.ofNat 101, Char.ofNat 65, Char.ofNat 99, Char.ofNat 99, Char.ofNat 101, Char.ofNat 112, Char.ofNat 116, Char.ofNat 115, Char.ofNat 83, Char.ofNat 99, Char.ofNat 101, Char.ofNat 110, Char.ofNat 101, Char.ofNat 115, Char.ofNat 32, Char.ofNat 99, Char.ofNat 111, Char.ofNat 109, Char.ofNat 112, Char.ofNat 111, Char.ofNat 115, Char.ofNat 105, Char.ofNat 116, Char.ofNat 111, Char.ofNat 114, Char.ofNat 47, Char.ofNat 99, Char.ofNat 111, Char.ofNat 109, Char.ofNat 112, Char.ofNat 111, Char.ofNat 115, Char.ofNat 105, Char.ofNat 116, Char.ofNat 111, Char.ofNat 114, Char.ofNat 108, Char.ofNat 97, Char.ofNat 119, Char.ofNat 50, Char.ofNat 48, Char.ofNat 46, Char.ofNat 86, Char.ofNat 97, Char.ofNat 108, Char.ofNat 105, Char.ofNat 100, Char.ofNat 97, Char.ofNat 116, Char.ofNat 101, Char.ofNat 65, Char.ofNat 103, Char.ofNat 114, Char.ofNat 101, Char.ofNat 101, Char.ofNat 115, Char.ofNat 32, Char.ofNat 99, Char.ofNat 111, Char.ofNat 109, Char.ofNat 112, Char.ofNat 111, Char.ofNat 115, Char.ofNat 105, Char.ofNat 116, Char.ofNat 111, Char.ofNat 114, Char.ofNat 47, Char.ofNat 99, Char.ofNat 111, Char.ofNat 109, Char.ofNat 112, Char.ofNat 111, Char.ofNat 115, Char.ofNat 105, Char.ofNat 116, Char.ofNat 111, Char.ofNat 114, Char.ofNat 108, Char.ofNat 97, Char.ofNat 119, Char.ofNat 50, Char.ofNat 48, Char.ofNat 46, Char.ofNat 86, Char.ofNat 97, Char.ofNat 108, Char.ofNat 105, Char.ofNat 100, Char.ofNat 97, Char.ofNat 116, Char.ofNat 101, Char.ofNat 79, Char.ofNat 112, Char.ofNat 65, Char.ofNat 103, Char.ofNat 114, Char.ofNat 101, Char.ofNat 101, Char.ofNat 115, Char.ofNat 32, Char.ofNat 99, Char.ofNat 111, Char.ofNat 109, Char.ofNat 112, Char.ofNat 111, Char.ofNat 115, Char.ofNat 105, Char.ofNat 116, Char.ofNat 111, Char.ofNat 114, Char.ofNat 47, Char.ofNat 99, Char.ofNat 111, Char.ofNat 109, Char.ofNat 112, Char.ofNat 111, Char.ofNat 115, Char.ofNat 105, Char.ofNat 116, Char.ofNat 111, Char.ofNat 114, Char.ofNat 108, Char.ofNat 97, Char.ofNat 119, Char.ofNat 50, Char.ofNat 48, Char.ofNat 46, Char.ofNat 86, Char.ofNat 97, Char.ofNat 108, Char.ofNat 105, Char.ofNat 100, Char.ofNat 97, Char.ofNat 116, Char.ofNat 101, Char.ofNat 67, Char.ofNat 111, Char.ofNat 110, Char.ofNat 116, Char.ofNat 101, Char.ofNat 120, Char.ofNat 116, Char.ofNat 115, Char.ofNat 32, Char.ofNat 99, Char.ofNat 111, Char.ofNat 109, Char.ofNat 112, Char.ofNat 111, Char.ofNat 115, Char.ofNat 105, Char.ofNat 116, Char.ofNat 111, Char.ofNat 114, Char.ofNat 47, Char.ofNat 99, Char.ofNat 111, Char.ofNat 109, Char.ofNat 112, Char.ofNat 111, Char.ofNat 115, Char.ofNat 105, Char.ofNat 116, Char.ofNat 111, Char.ofNat 114, Char.ofNat 108, Char.ofNat 97, Char.ofNat 119, Char.ofNat 50, Char.ofNat 48, Char.ofNat 46, Char.ofNat 86, Char.ofNat 97, Char.ofNat 108, Char.ofNat 105, Char.ofNat 100, Char.ofNat 97, Char.ofNat 116, Char.ofNat 101, Char.ofNat 78, Char.ofNat 101, Char.ofNat 115, Char.ofNat 116, Char.ofNat 105, Char.ofNat 110, Char.ofNat 103, Char.ofNat 32, Char.ofNat 99, Char.ofNat 111, Char.ofNat 109, Char.ofNat 112, Char.ofNat 111, Char.ofNat 115, Char.ofNat 105, Char.ofNat 116, Char.ofNat 111, Char.ofNat 114, Char.ofNat 47, Char.ofNat 99, Char.ofNat 111, Char.ofNat 109, Char.ofNat 112, Char.ofNat 111, Char.ofNat 115, Char.ofNat 105, Char.ofNat 116, Char.ofNat 111, Char.ofNat 114, Char.ofNat 108, Char.ofNat 97, Char.ofNat 119, Char.ofNat 50, Char.ofNat 48, Char.ofNat 46, Char.ofNat 86, Char.ofNat 97, Char.ofNat 108, Char.ofNat 105, Char.ofNat 100, Char.ofNat 97, Char.ofNat 116, Char.ofNat 101, Char.ofNat 83, Char.ofNat 101, Char.ofNat 101, Char.ofNat 115, Char.ofNat 85, Char.ofNat 110, Char.ofNat 117, Char.ofNat 115, Char.ofNat 101, Char.ofNat 100, Char.ofNat 73, Char.ofNat 109, Char.ofNat 97, Char.ofNat 103, Char.ofNat 101, Char.ofNat 115, Char.ofNat 32, Char.ofNat 99, Char.ofNat 111, Char.ofNat 109, Char.ofNat 112, Char.ofNat 111, Char.ofNat 115, Char.ofNat 105, Char.ofNat 116, Char.ofNat 111, Char.ofNat 114, Char.ofNat 47, Char.ofNat 99, Char.ofNat 111, Char.ofNat 109, Char.ofNat 112, Char.ofNat 111, Char.ofNat 115, Char.ofNat 105, Char.ofNat 116, Char.ofNat 111, Char.ofNat 114, Char.ofNat 108, Char.ofNat 97, Char.ofNat 119, Char.ofNat 50, Char.ofNat 48, Char.ofNat 46, Char.ofNat 86, Char.ofNat 97, Char.ofNat 108, Char.ofNat 105, Char.ofNat 100, Char.ofNat 97, Char.ofNat 116, Char.ofNat 101, Char.ofNat 76, Char.ofNat 97, Char.ofNat 114, Char.ofNat 103, Char.ofNat 101, Char.ofNat 67, Char.ofNat 97, Char.ofNat 110, Char.ofNat 118, Char.ofNat 97, Char.ofNat 115, Char.ofNat 101, Char.ofNat 115] := by kernel_rfl
set_option maxRecDepth 100000 in
theorem headSigns : Tryd.prog.initOrder.toList = [Char.ofNat 104, Char.ofNat 97, Char.ofNat 114, Char.ofNat 110, Char.ofNat 101, Char.ofNat 115, Char.ofNat 115, Char.ofNat 32, Char.ofNat 55, Char.ofNat 55, Char.ofNat 101, Char.ofNat 52, Char.ofNat 101, Char.ofNat 54, Char.ofNat 102, Char.ofNat 48, Char.ofNat 100, Char.ofNat 54, Char.ofNat 102, Char.ofNat 102, Char.ofNat 53, Char.ofNat 51, Char.ofNat 100, Char.ofNat 48, Char.ofNat 99, Char.ofNat 57, Char.ofNat 52, Char.ofNat 54, Char.ofNat 101, Char.ofNat 51, Char.ofNat 102, Char.ofNat 54, Char.ofNat 100, Char.ofNat 97, Char.ofNat 52, Char.ofNat 51, Char.ofNat 50, Char.ofNat 52, Char.ofNat 50, Char.ofNat 53, Char.ofNat 57, Char.ofNat 48, Char.ofNat 55, Char.ofNat 101, Char.ofNat 100, Char.ofNat 51, Char.ofNat 52, Char.ofNat 54, Char.ofNat 97, Char.ofNat 55, Char.ofNat 50, Char.ofNat 101, Char.ofNat 54, Char.ofNat 50, Char.ofNat 51, Char.ofNat 49, Char.ofNat 102, Char.ofNat 55, Char.ofNat 101, Char.ofNat 98, Char.ofNat 102, Char.ofNat 57, Char.ofNat 49, Char.ofNat 54, Char.ofNat 51, Char.ofNat 52, Char.ofNat 97, Char.ofNat 54, Char.ofNat 51, Char.ofNat 52, Char.ofNat 100, Char.ofNat 49, Char.ofNat 32, Char.ofNat 99, Char.ofNat 117, Char.ofNat 116, Char.ofNat 32, Char.ofNat 97, Char.ofNat 116, Char.ofNat 32, Char.ofNat 99, Char.ofNat 111, Char.ofNat 109, Char.ofNat 112, Char.ofNat 111, Char.ofNat 115, Char.ofNat 105, Char.ofNat 116, Char.ofNat 111, Char.ofNat 114, Char.ofNat 47, Char.ofNat 99, Char.ofNat 111, Char.ofNat 109, Char.ofNat 112, Char.ofNat 111, Char.ofNat 115, Char.ofNat 105, Char.ofNat 116, Char.ofNat 111, Char.ofNat 114, Char.ofNat 108, Char.ofNat 97, Char.ofNat 119, Char.ofNat 50, Char.ofNat 48, Char.ofNat 46, Char.ofNat 86, Char.ofNat 97, Char.ofNat 108, Char.ofNat 105, Char.ofNat 100, Char.ofNat 97, Char.ofNat 116, Char.ofNat 101, Char.ofNat 65, Char.ofNat 99, Char.ofNat 99, Char.ofNat 101, Char.ofNat 112, Char.ofNat 116, Char.ofNat 115, Char.ofNat 83, Char.ofNat 99, Char.ofNat 101, Char.ofNat 110, Char.ofNat 101, Char.ofNat 115, Char.ofNat 32, Char.ofNat 99, Char.ofNat 111, Char.ofNat 109, Char.ofNat 112, Char.ofNat 111, Char.ofNat 115, Char.ofNat 105, Char.ofNat 116, Char.ofNat 111, Char.ofNat 114, Char.ofNat 47, Char.ofNat 99, Char.ofNat 111, Char.ofNat 109, Char.ofNat 112, Char.ofNat 111, Char.ofNat 115, Char.ofNat 105, Char.ofNat 116, Char.ofNat 111, Char.ofNat 114, Char.ofNat 108, Char.ofNat 97, Char.ofNat 119, Char.ofNat 50, Char.ofNat 48, Char.ofNat 46, Char.ofNat 86, Char.ofNat 97, Char.ofNat 108, Char.ofNat 105, Char.ofNat 100, Char.ofNat 97, Char.ofNat 116, Char.ofNat 101, Char.ofNat 65, Char.ofNat 103, Char.ofNat 114, Char.ofNat 101, Char.ofNat 101, Char.ofNat 115, Char.ofNat 32, Char.ofNat 99, Char.ofNat 111, Char.ofNat 109, Char.ofNat 112, Char.ofNat 111, Char.ofNat 115, Char.ofNat 105, Char.ofNat 116, Char.ofNat 111, Char.ofNat 114, Char.ofNat 47, Char.ofNat 99, Char.ofNat 111, Char.ofNat 109, Char.ofNat 112, Char.ofNat 111, Char.ofNat 115, Char.ofNat 105, Char.ofNat 116, Char.ofNat 111, Char.ofNat 114, Char.ofNat 108, Char.ofNat 97, Char.ofNat 119, Char.ofNat 50, Char.ofNat 48, Char.ofNat 46, Char.ofNat 86, Char.ofNat 97, Char.ofNat 108, Char.ofNat 105, Char.ofNat 100, Char.ofNat 97, Char.ofNat 116, Char.ofNat 101, Char.ofNat 79, Char.ofNat 112, Char.ofNat 65, Char.ofNat 103, Char.ofNat 114, Char.ofNat 101, Char.ofNat 101, Char.ofNat 115, Char.ofNat 32, Char.ofNat 99, Char.ofNat 111, Char.ofNat 109, Char.ofNat 112, Char.ofNat 111, Char.ofNat 115, Char.ofNat 105, Char.ofNat 116, Char.ofNat 111, Char.ofNat 114, Char.ofNat 47, Char.ofNat 99, Char.ofNat 111, Char.ofNat 109, Char.ofNat 112, Char.ofNat 111, Char.ofNat 115, Char.ofNat 105, Char.ofNat 116, Char.ofNat 111, Char.ofNat 114, Char.ofNat 108, Char.ofNat 97, Char.ofNat 119, Char.ofNat 50, Char.ofNat 48, Char.ofNat 46, Char.ofNat 86, Char.ofNat 97, Char.ofNat 108, Char.ofNat 105, Char.ofNat 100, Char.ofNat 97, Char.ofNat 116, Char.ofNat 101, Char.ofNat 67, Char.ofNat 111, Char.ofNat 110, Char.ofNat 116, Char.ofNat 101, Char.ofNat 120, Char.ofNat 116, Char.ofNat 115, Char.ofNat 32, Char.ofNat 99, Char.ofNat 111, Char.ofNat 109, Char.ofNat 112, Char.ofNat 111, Char.ofNat 115, Char.ofNat 105, Char.ofNat 116, Char.ofNat 111, Char.ofNat 114, Char.ofNat 47, Char.ofNat 99, Char.ofNat 111, Char.ofNat 109, Char.ofNat 112, Char.ofNat 111, Char.ofNat 115, Char.ofNat 105, Char.ofNat 116, Char.ofNat 111, Char.ofNat 114, Char.ofNat 108, Char.ofNat 97, Char.ofNat 119, Char.ofNat 50, Char.ofNat 48, Char.ofNat 46, Char.ofNat 86, Char.ofNat 97, Char.ofNat 108, Char.ofNat 105, Char.ofNat 100, Char.ofNat 97, Char.ofNat 116, Char.ofNat 101, Char.ofNat 78, Char.ofNat 101, Char.ofNat 115, Char.ofNat 116, Char.ofNat 105, Char.ofNat 110, Char.ofNat 103, Char.ofNat 32, Char.ofNat 99, Char.ofNat 111, Char.ofNat 109, Char.ofNat 112, Char.ofNat 111, Char.ofNat 115, Char.ofNat 105, Char.ofNat 116, Char.ofNat 111, Char.ofNat 114, Char.ofNat 47, Char.ofNat 99, Char.ofNat 111, Char.ofNat 109, Char.ofNat 112, Char.ofNat 111, Char.ofNat 115, Char.ofNat 105, Char.ofNat 116, Char.ofNat 111, Char.ofNat 114, Char.ofNat 108, Char.ofNat 97, Char.ofNat 119, Char.ofNat 50, Char.ofNat 48, Char.ofNat 46, Char.ofNat 86, Char.ofNat 97, Char.ofNat 108, Char.ofNat 105, Char.ofNat 100, Char.ofNat 97, Char.ofNat 116, Char.ofNat 101, Char.ofNat 83, Char.ofNat 101, Char.ofNat 101, Char.ofNat 115, Char.ofNat 85, Char.ofNat 110, Char.ofNat 117, Char.ofNat 115, Char.ofNat 101, Char.ofNat 100, Char.ofNat 73, Char.ofNat 109, Char.ofNat 97, Char.ofNat 103, Char.ofNat 101, Char.ofNat 115, Char.ofNat 32, Char.ofNat 99, Char.ofNat 111, Char.ofNat 109, Char.ofNat 112, Char.ofNat 111, Char.ofNat 115, Char.ofNat 105, Char.ofNat 116, Char.ofNat 111, Char.ofNat 114, Char.ofNat 47, Char.ofNat 99, Char.ofNat 111, Char.ofNat 109, Char.ofNat 112, Char.ofNat 111, Char.ofNat 115, Char.ofNat 105, Char.ofNat 116, Char.ofNat 111, Char.ofNat 114, Char.ofNat 108, Char.ofNat 97, Char.ofNat 119, Char.ofNat 50, Char.ofNat 48, Char.ofNat 46, Char.ofNat 86, Char.ofNat 97, Char.ofNat 108, Char.ofNat 105, Char.ofNat 100, Char.ofNat 97, Char.ofNat 116, Char.ofNat 101, Char.ofNat 76, Char.ofNat 97, Char.ofNat 114, Char.ofNat 103, Char.ofNat 101, Char.ofNat 67, Char.ofNat 97, Char.ofNat 110, Char.ofNat 118, Char.ofNat 97, Char.ofNat 115, Char.ofNat 101, Char.ofNat 115] := by rw [headWord, String.toList_ofList]
set_option maxRecDepth 100000 in
theorem enters : Tryd.prog.mayEnter = true := by
  unfold Program.mayEnter Program.doorFits
  rw [headSigns]
  kernel_rfl
set_option maxRecDepth 100000 in
theorem liftsNot : Tryd.prog.liftsFinal = false := by
  unfold Program.liftsFinal Program.headLifts
  rw [headSigns]
  kernel_rfl
set_option maxRecDepth 100000 in
theorem made : Tryd.prog.make = some .cut := by
  unfold Program.make
  rw [headSigns]
  kernel_rfl
theorem own : ownKnob Tryd.prog.godebug = none := by kernel_rfl
theorem laidOut : laidOutB Tryd.prog = true := by kernel_rfl
theorem mapsRow : mapsRowed Tryd.prog = true := by kernel_rfl
theorem noStops : (Tryd.prog.stops == []) = true := by kernel_rfl
theorem noKnobs : (Tryd.prog.stopKnobs == []) = true := by kernel_rfl
theorem plain : Tryd.prog.plainKeys = true := by kernel_rfl
theorem heard : Tryd.prog.stopsHeard = true := by kernel_rfl
end Go.Proofs.YthlmmlcdoiahkaaDoor.closed

/-
  What package variables that are laid by the program's text hold, cell by cell; and from a law's walk to a row that lists them.
-/
namespace Go.Proofs.YthlmmlcdoiahkaaDoor
open Go.RowKit Go.ChangeShapes Go.WideShapes
set_option linter.unusedVariables false
set_option linter.unusedSimpArgs false

def cellAt {H : Type} (P : Program) : Nat → TypeId → DataW H → Nat → Option DV
  | 0, _, _, _ => none
  | fuel + 1, t, d, i =>
    match P.underlying t, d with
    | some (.int k), .lit (.int k' n) => if i = 0 ∧ k' = k then some (.int k n) else none
    | some .bool, .lit (.bool b) => if i = 0 then some (.bool b) else none
    | some .string, .lit (.string s) => if i = 0 ∧ s.length ≤ maxLen then some (.str ⟨s.toArray⟩) else none
    | some (.struct fs), .agg ds => (fs.toList.zip ds).findSome? fun x => if x.1.offset ≤ i ∧ i < x.1.offset + P.cellsOf x.1.type then cellAt P fuel x.1.type x.2 (i - x.1.offset) else none
    | some (.array _ e), .agg ds => if P.cellsOf e = 0 then none else match ds[i / P.cellsOf e]? with
      | some d => cellAt P fuel e d (i % P.cellsOf e)
      | none => none
    | _, _ => none

section
variable {H : Type} {enc : TypeId × Value → H} {P : Program} {w : World}
theorem cell_of_trod {sp : Nat → Bool} {va : Bool} {V : Nat → Prop} : ∀ (fuel : Nat) (t : TypeId) (cs : List Value) (d : DataW H) (ps : List MemPlace) (q i : Nat) (dv : DV),
    DataW.trod enc P w 0 sp va fuel t cs = some (d, ps) → cellAt P q t d i = some dv → ∃ u, cs[i]? = some u ∧ RepD w V dv u := by
  intro fuel
  induction fuel with
  | zero => intro t cs d ps q i dv h; simp [DataW.trod] at h
  | succ fuel ih =>
    intro t cs d ps q i dv h hq
    cases q with
    | zero => simp [cellAt] at hq
    | succ q =>
    unfold DataW.trod at h
    unfold cellAt at hq
    split at h
    · rename_i b hu
      simp only [Option.some.injEq, Prod.mk.injEq] at h
      obtain ⟨rfl, _⟩ := h
      simp only [hu] at hq
      split at hq
      · rename_i e; subst e; cases hq; exact ⟨_, rfl, by simp only [RepD]⟩
      · cases hq
    · rename_i k k' n hu
      split at h
      · rename_i hk
        obtain ⟨rfl, hwf⟩ := hk
        simp only [Option.some.injEq, Prod.mk.injEq] at h
        obtain ⟨rfl, _⟩ := h
        simp only [hu] at hq
        split at hq
        · rename_i e; obtain ⟨rfl, _⟩ := e; cases hq; exact ⟨_, rfl, by simp only [RepD]; exact ⟨trivial, hwf⟩⟩
        · cases hq
      · cases h
    · rename_i hu
      simp only [hu] at hq
      cases hq
    · rename_i s hu
      split at h
      · simp only [Option.some.injEq, Prod.mk.injEq] at h
        obtain ⟨rfl, _⟩ := h
        simp only [hu] at hq
        split at hq
        · rename_i e; obtain ⟨rfl, hl⟩ := e; cases hq
          exact ⟨_, rfl, by simp only [RepD]; exact ⟨by simp, by simpa using hl⟩⟩
        · cases hq
      · cases h
    · rename_i hu; simp only [hu] at hq; cases hq
    · rename_i hu; simp only [hu] at hq; cases hq
    · rename_i hu; simp only [hu] at hq; cases hq
    · rename_i hu; simp only [hu] at hq; cases hq
    · rename_i fs hu
      split at h
      · obtain ⟨xs, hxs, h⟩ := Option.map_eq_some_iff.1 h
        simp only [Prod.mk.injEq] at h
        obtain ⟨rfl, _⟩ := h
        simp only [hu] at hq
        obtain ⟨x, hx, hx2⟩ := List.exists_of_findSome?_eq_some hq
        split at hx2
        · rename_i hr
          obtain ⟨j, hj, e⟩ := List.getElem_of_mem hx
          rw [List.getElem_zip] at e
          simp only [List.length_zip, List.length_map] at hj
          have h1 := mapM_some_get hxs j _ (List.getElem?_eq_getElem (by omega))
          rw [List.getElem?_eq_getElem (show j < xs.length by omega)] at h1
          subst e
          simp only [List.getElem_map] at hx2 hr
          obtain ⟨u, hu1, hu2⟩ := ih _ _ _ _ q _ dv h1 hx2
          refine ⟨u, ?_, hu2⟩
          rw [List.getElem?_take, if_pos (by omega), List.getElem?_drop] at hu1
          rwa [show _ + (i - _) = i from Nat.add_sub_of_le hr.1] at hu1
        · cases hx2
      · cases h
    · rename_i n e hu
      split at h
      · obtain ⟨xs, hxs, h⟩ := Option.map_eq_some_iff.1 h
        simp only [Prod.mk.injEq] at h
        obtain ⟨rfl, _⟩ := h
        simp only [hu] at hq
        split at hq
        · cases hq
        · rename_i hne
          split at hq
          · rename_i d hd
            rw [List.getElem?_map] at hd
            obtain ⟨x, hx, rfl⟩ := Option.map_eq_some_iff.1 hd
            have hl := mapM_some_length hxs
            simp only [List.length_range] at hl
            have hlt : i / P.cellsOf e < xs.length := (List.getElem?_eq_some_iff.1 hx).1
            have h1 := mapM_some_get hxs (i / P.cellsOf e) (i / P.cellsOf e) (List.getElem?_range (by omega))
            rw [hx] at h1
            obtain ⟨u, hu1, hu2⟩ := ih _ _ _ _ q _ dv h1 hq
            refine ⟨u, ?_, hu2⟩
            rw [List.getElem?_take, if_pos (Nat.mod_lt _ (Nat.pos_of_ne_zero hne)), List.getElem?_drop, Nat.mul_comm] at hu1
            rwa [Nat.div_add_mod] at hu1
          · cases hq
      · cases h
    all_goals first | (cases h; done) | (clear h ih; simp_all; done) | (clear h ih; split at hq <;> simp_all; done)
end

/-- the table says what the laid variables hold -/
def tabOK (P : Program) (laid : List (String × DataW Unit)) (p : Nat × List DV) : Prop :=
  ∃ x t, x ∈ laid ∧ P.globalNamed x.1 = some p.1 ∧ (P.globals[p.1]?).map (·.type) = some t ∧ (List.range p.2.length).map (cellAt P 6 t x.2) = p.2.map some
theorem laidVars_mem {P : Program} {w : World} : ∀ {l : List (String × DataW Unit)} {ps : List MemPlace}, DataW.LaidVars P w l ps → ∀ x ∈ l, ∃ g t cs fuel p, P.globalNamed x.1 = some g ∧ (P.globals[g]?).map (·.type) = some t ∧ w.var? P x.1 = some cs ∧ DataW.trod (fun _ => ()) P w 0 (fun _ => true) false fuel t cs.toList = some (x.2, p)
  | [], _, _, x, hx => by cases hx
  | (n, d) :: r, ps, h, x, hx => by
    obtain ⟨g, t, cs, fuel, p, q, h1, h2, h3, h4, h5, _⟩ := h
    rcases List.mem_cons.1 hx with rfl | hx
    · exact ⟨g, t, cs, fuel, p, h1, h2, h3, h4⟩
    · exact laidVars_mem h5 x hx
theorem globOK_of {P : Program} {laid : List (String × DataW Unit)} {w : World} (hm : laidMetH P laid w) (hp : (laid.all fun x => x.2.handleName?.isNone) = true) (ht : ∀ p ∈ globTab, tabOK P laid p) : GlobOK w (fun _ => True) := by
  rw [MakeChecks.laidMetH_plain _ _ _ hp] at hm
  obtain ⟨ps, hl, _⟩ := hm
  intro p hp _
  obtain ⟨x, t, hx, h1, h2, h3⟩ := ht p hp
  obtain ⟨g, t', cs, fuel, q, g1, g2, g3, g4⟩ := laidVars_mem hl x hx
  rw [g1] at h1; injection h1 with h1; subst h1
  rw [g2] at h2; injection h2 with h2; subst h2
  refine ⟨trivial, RepCells.of_at fun i d hi => ?_⟩
  have hlt : i < p.2.length := (List.getElem?_eq_some_iff.1 hi).1
  have h4 : ((List.range p.2.length).map (cellAt P 6 t' x.2))[i]? = (p.2.map some)[i]? := by rw [h3]
  rw [List.getElem?_map, List.getElem?_range hlt, List.getElem?_map, hi] at h4
  simp only [Option.map_some, Option.some.injEq] at h4
  obtain ⟨u, hu1, hu2⟩ := cell_of_trod (V := fun _ => True) fuel t' cs.toList x.2 q 6 i d g4 h4
  refine ⟨u, ?_, hu2⟩
  rw [Nat.zero_add, World.var?_cell g1 g3 i, ← Array.getElem?_toList]
  exact hu1

/-- FROM A LAW's WALK TO ITS ROW, with package variables laid by the text. -/
theorem law_lift_laid {H : Type} {enc : TypeId × Value → H} {C : Checked} {os : Os} {f : FuncId} {fn : Func} {s : ChangeSpec} {tb : TypeId} {laid : List (String × DataW Unit)}
    (own : ownKnob C.prog.godebug = none) (started : os.Started) (noInit : C.prog.inits.idxOf? f = none) (hfn : C.prog.funcs[f]? = some fn)
    (witness : ∃ (w : World) (tape : Tape) (i : Input), w.os = os ∧ (w.forCall tape i).Shaped C.prog ∧ i.vars = [] ∧ Input.okWide C.prog (w.forCall tape i) .any w.heap.size f i ∧
      ((s.pre enc C.prog fn [] false (w.forCall tape i).memory i.args ∧ laidMetH C.prog laid (w.forCall tape i).memory) ∧ sizedMet enc C.prog fn (OpenSpec.ofChange s) false (w.forCall tape i).memory i.args) ∧ ({} : Assume).holds C.prog (lone (Frame.enter C.prog f i.args .normal) [] (w.forCall tape i)))
    (hspec : ∀ ds : List (DataW H), ds.length = fn.params.toList.length → s.fn H ds = { results := [.lit (.bool true)], args := ds }) (hvars : s.vars = [])
    (hres : fn.resultTypes = #[tb]) (hb : C.prog.underlying tb = some .bool) (laidO : laidOutB C.prog = true)
    (hread : ∀ t ∈ fn.params.toList, C.prog.readableRec t = true ∧ t < C.prog.types.size)
    (hp : (laid.all fun x => x.2.handleName?.isNone) = true) (ht : ∀ p ∈ globTab, tabOK C.prog laid p)
    (walk : ∀ (W : World) (args : Array Value), GlobOK W (fun _ => True) → Args C.prog W fn.params.toList args.toList → Calls C.prog f args W fun e W' => e = .returned (.bool true) ∧ Below W.heap.size W W') :
    ReturnsInHanded {} C os f .any (fun w args => (s.pre enc C.prog fn [] false w args ∧ laidMetH C.prog laid w) ∧ sizedMet enc C.prog fn (OpenSpec.ofChange s) false w args) (s.post enc C.prog fn false true false false) := by
  refine returnsInHanded_of_change_and (X := fun w _ => laidMetH C.prog laid w) (fun _ _ _ hh h => laidMetH.of_heap hh h) own started noInit hfn witness ?_
  intro W base args ds gs before hval hW _ hsz hlaid _
  have hW' := hW
  obtain ⟨p, q, hA, hV, rfl, _, _⟩ := hW
  rw [hvars] at hV
  obtain ⟨rfl, rfl⟩ := trodVars_none hV
  have hvt : s.plain.varTypes C.prog = [] := by simp [ChangeSpec.plain, DataSpec.varTypes, hvars]
  rw [hvt, List.append_nil, List.append_nil] at hsz
  obtain ⟨ha, hlen⟩ := args_of_trodAll hA (fun n hn => by simpa using List.all_eq_true.1 hsz n hn) (fun j t v ht hv => cells_of_okWide (hval j t v (by simpa using ht) (by simpa using hv)))
  refine (walk W args (globOK_of hlaid hp ht) ha).mono fun e W' ⟨he, bel⟩ => ?_
  subst he
  have hs := hspec ds hlen
  refine ⟨_, rfl, ds, [], p ++ [], [], p, [], hW', ?_, ?_, ?_, bel.frame _, fun h => by cases h⟩
  · rw [List.append_nil, hs, hres]
    exact trodAll_mk1 (shut_bool hb _)
  · rw [List.append_nil, hs]
    exact trodAll_below laidO bel hread hA
  · rw [List.append_nil, hs, hvars]
    rfl
end Go.Proofs.YthlmmlcdoiahkaaDoor

/-
  The table of package variables is what the rows list; the door's own run meets it.
-/
namespace Go.Proofs.YthlmmlcdoiahkaaDoor
open Go.RowKit
set_option linter.unusedVariables false
set_option linter.unusedSimpArgs false

abbrev laidL : List (String × DataW Unit) := [("compositor/operator.rules", Rows.laid_compositor_operator_rules), ("compositor/blend.names", Rows.laid_compositor_blend_names)]
set_option maxRecDepth 100000 in
theorem tab_ok : ∀ p ∈ globTab, tabOK Tryd.prog laidL p := by
  intro p hp
  simp only [globTab, List.mem_cons, List.not_mem_nil, or_false] at hp
  rcases hp with rfl | rfl
  · exact ⟨("compositor/blend.names", Rows.laid_compositor_blend_names), 108, (List.mem_cons_of_mem _ List.mem_cons_self), by kernel_rfl, by kernel_rfl, by kernel_rfl⟩
  · exact ⟨("compositor/operator.rules", Rows.laid_compositor_operator_rules), 114, List.mem_cons_self, by kernel_rfl, by kernel_rfl, by kernel_rfl⟩
theorem laid_plain : (laidL.all fun x => x.2.handleName?.isNone) = true := by kernel_rfl
set_option maxRecDepth 100000 in
theorem door_met (os : Os) (args : Array Value) : laidMetH Tryd.prog laidL ((World.doorLaid Tryd.prog 400 os).forCall (fun _ _ => 0) ⟨#[], args, []⟩).memory :=
  laidMetH_of_parts3 (fuel := 8) (laidMet_of_run' 8 (by kernel_rfl) (by kernel_rfl)) (by kernel_rfl) (by kernel_rfl)
end Go.Proofs.YthlmmlcdoiahkaaDoor

