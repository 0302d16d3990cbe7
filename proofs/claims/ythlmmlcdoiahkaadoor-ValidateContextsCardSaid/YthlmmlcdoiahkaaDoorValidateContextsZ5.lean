/-
  Part 5 of what ValidateContexts rests on.
-/
import Derived.Test.YthlmmlcdoiahkaaDoorValidateContextsZ4
import Derived.Test.YthlmmlcdoiahkaaDoorValidateContextsZ3
import Derived.Test.YthlmmlcdoiahkaaDoorValidateContextsZ2
import Derived.Test.YthlmmlcdoiahkaaDoorRows
import Derived.JoinedOf
import Derived.KernelRfl
import Derived.Test.YthlmmlcdoiahkaaDoorValidateContextsZ1
import Derived.MakeChecks
import Derived.LaidHandle
import Derived.LaidMore
import Derived.Stop.Joined
/-
  Check of a whole script, of package validate and of the reference.
-/
namespace Go.Proofs.YthlmmlcdoiahkaaDoor
open Go.RowKit
set_option linter.unusedVariables false
set_option linter.unusedSimpArgs false
attribute [local irreducible] Ans AnsO AnsG AnsN AnsI

set_option maxRecDepth 4000
/-- a script in plain words -/
structure Scr where
  bits : Int
  c : Rc
  tw : Int
  th : Int
  ord : List Int
  ims : List Im
  ops : List Oq
def imsE (most : Int) : List Im → Int → Int × Int
  | [], _ => (0, 0)
  | m :: r, i => if m.valid most = 0 then imsE most r (i + 1) else (m.valid most, i)
def Scr.frame (s : Scr) : Int := frameE s.bits s.c s.tw s.th s.ord s.ims.length s.ops.length
def Scr.run (s : Scr) : Int × Int := opsE s.bits s.c s.tw s.th s.ord s.ims.length s.ops
def checkE (s : Scr) : Int × Int :=
  if s.frame = 0 then (if (imsE (mostS s.bits) s.ims 0).1 = 0 then s.run else imsE (mostS s.bits) s.ims 0) else (s.frame, 0)
def gamVf : Gam where
 pure := fun f xs =>
  if f = 15 then (match xs with | [.agg [.int _ bits, .int _ cx0, .int _ cy0, .int _ cx1, .int _ cy1, .int _ tw, .int _ th, .sl on oxs, .sl mn mxs, .sl pn pxs]] => some (RV.d (DV.int .i64 (frameE bits ⟨cx0, cy0, cx1, cy1⟩ tw th (ints oxs) mn pn))) | _ => none) else
  if f = 19 then (match xs with | [.agg [.int _ bits, .int _ cx0, .int _ cy0, .int _ cx1, .int _ cy1, .int _ tw, .int _ th, .sl on oxs, .sl mn mxs, .sl pn pxs]] => some (RV.d (DV.int .i64 (frameE bits ⟨cx0, cy0, cx1, cy1⟩ tw th (ints oxs) mn pn))) | _ => none) else
  if f = 29 then (match xs with | [.d (.int _ b)] => some (RV.tup [RV.d (DV.int .u16 (mostS b)), RV.d (DV.bool (bitsOk b))]) | _ => none) else
  if f = 36 then (match xs with | [.d (.int _ b)] => some (RV.tup [RV.d (DV.int .u16 (mostS b)), RV.d (DV.bool (bitsOk b))]) | _ => none) else
  if f = 30 then (match xs with | [.agg [.int _ w, .int _ h, .bool so, .int _ c0, .int _ c1, .int _ c2, .int _ ca, .int _ cf, .int _ w0, .int _ h0, .int _ s0, .sl n0 xs0, .int _ w1, .int _ h1, .int _ s1, .sl n1 xs1, .int _ w2, .int _ h2, .int _ s2, .sl n2 xs2, .int _ w3, .int _ h3, .int _ s3, .sl n3 xs3, .int _ w4, .int _ h4, .int _ s4, .sl n4 xs4], .d (.int _ most)] => some (RV.d (DV.int .i64 (Im.valid ⟨w, h, so, ⟨c0, c1, c2, ca, cf⟩, ⟨w0, h0, s0, n0, xs0⟩, ⟨w1, h1, s1, n1, xs1⟩, ⟨w2, h2, s2, n2, xs2⟩, ⟨w3, h3, s3, n3, xs3⟩, ⟨w4, h4, s4, n4, xs4⟩⟩ most))) | _ => none) else
  if f = 37 then (match xs with | [.agg [.int _ w, .int _ h, .bool so, .int _ c0, .int _ c1, .int _ c2, .int _ ca, .int _ cf, .int _ w0, .int _ h0, .int _ s0, .sl n0 xs0, .int _ w1, .int _ h1, .int _ s1, .sl n1 xs1, .int _ w2, .int _ h2, .int _ s2, .sl n2 xs2, .int _ w3, .int _ h3, .int _ s3, .sl n3 xs3, .int _ w4, .int _ h4, .int _ s4, .sl n4 xs4], .d (.int _ most)] => some (RV.d (DV.int .i64 (Im.valid ⟨w, h, so, ⟨c0, c1, c2, ca, cf⟩, ⟨w0, h0, s0, n0, xs0⟩, ⟨w1, h1, s1, n1, xs1⟩, ⟨w2, h2, s2, n2, xs2⟩, ⟨w3, h3, s3, n3, xs3⟩, ⟨w4, h4, s4, n4, xs4⟩⟩ most))) | _ => none) else
  if f = 13 then (match xs with | [.agg [.int _ bits, .int _ cx0, .int _ cy0, .int _ cx1, .int _ cy1, .int _ tw, .int _ th, .sl on oxs, .sl mn mxs, .sl pn pxs]] => some (RV.tup [RV.d (DV.int .i64 ((opsE bits ⟨cx0, cy0, cx1, cy1⟩ tw th (ints oxs) mn (toOps pxs)).1)), RV.d (DV.int .i64 ((opsE bits ⟨cx0, cy0, cx1, cy1⟩ tw th (ints oxs) mn (toOps pxs)).2))]) | _ => none) else
  if f = 18 then (match xs with | [.agg [.int _ bits, .int _ cx0, .int _ cy0, .int _ cx1, .int _ cy1, .int _ tw, .int _ th, .sl on oxs, .sl mn mxs, .sl pn pxs]] => some (RV.tup [RV.d (DV.int .i64 ((opsE bits ⟨cx0, cy0, cx1, cy1⟩ tw th (ints oxs) mn (toOps pxs)).1)), RV.d (DV.int .i64 ((opsE bits ⟨cx0, cy0, cx1, cy1⟩ tw th (ints oxs) mn (toOps pxs)).2))]) | _ => none) else
  none
 modes := fun f =>
  none
 proc := fun f xs bs =>
  none
 iter := fun f cs =>
  none

def validate_Check_ann (bits : Int) (cx0 : Int) (cy0 : Int) (cx1 : Int) (cy1 : Int) (tw : Int) (th : Int) (on : Nat) (oxs : List DV) (mn : Nat) (mxs : List DV) (pn : Nat) (pxs : List DV) : Ann := (Ann.seq Ann.leaf (Ann.seq Ann.leaf (Ann.seq Ann.leaf (Ann.seq (Ann.seq Ann.leaf (Ann.loop ⟨Nat, fun k => k ≤ mn ∧ imsE (mostS bits) ((toIms mxs).drop k) (k : Int) = imsE (mostS bits) (toIms mxs) 0, fun k => ⟨[(1, AV.one (Cl.ptr 1 0)), (5, AV.one (Cl.d (DV.int .u16 (mostS bits)))), (22, AV.one (Cl.d (DV.sl mn mxs))), (23, AV.one (Cl.d (DV.int .i64 ((mn : Nat) : Int)))), (24, AV.one (Cl.d (DV.int .i64 ((k : Nat) : Int))))], [(1, Bx.cells [Cl.d (DV.int .i64 bits), Cl.d (DV.int .i64 cx0), Cl.d (DV.int .i64 cy0), Cl.d (DV.int .i64 cx1), Cl.d (DV.int .i64 cy1), Cl.d (DV.int .i64 tw), Cl.d (DV.int .i64 th), Cl.d (DV.sl on oxs), Cl.d (DV.sl mn mxs), Cl.d (DV.sl pn pxs)])]⟩, fun k => mn - k⟩ fun k => Ann.leaf)) Ann.leaf))))
theorem validate_Check_vc (bits : Int) (cx0 : Int) (cy0 : Int) (cx1 : Int) (cy1 : Int) (tw : Int) (th : Int) (on : Nat) (oxs : List DV) (mn : Nat) (mxs : List DV) (pn : Nat) (pxs : List DV) : vcg Tryd.prog gamVf 41 (bodyOf Tryd.f12) (validate_Check_ann bits cx0 cy0 cx1 cy1 tw th on oxs mn mxs pn pxs) kn0 (start [RV.agg [DV.int .i64 bits, DV.int .i64 cx0, DV.int .i64 cy0, DV.int .i64 cx1, DV.int .i64 cy1, DV.int .i64 tw, DV.int .i64 th, DV.sl on oxs, DV.sl mn mxs, DV.sl pn pxs]]) (post Tryd.prog Tryd.f12.results.toList (· = RV.tup [RV.d (DV.int .i64 ((checkE ⟨bits, ⟨cx0, cy0, cx1, cy1⟩, tw, th, ints oxs, toIms mxs, toOps pxs⟩).1)), RV.d (DV.int .i64 ((checkE ⟨bits, ⟨cx0, cy0, cx1, cy1⟩, tw, th, ints oxs, toIms mxs, toOps pxs⟩).2))])) =
  (let zz0 := [DV.int .i64 bits, DV.int .i64 cx0, DV.int .i64 cy0, DV.int .i64 cx1, DV.int .i64 cy1, DV.int .i64 tw, DV.int .i64 th, DV.sl on oxs, DV.sl mn mxs, DV.sl pn pxs]; let zz1 := [RV.agg zz0]; let zz2 := (DV.int .i64 (frameE bits ⟨cx0, cy0, cx1, cy1⟩ tw th (ints oxs) mn pn)); let zz3 := [RV.d (DV.int .i64 ((checkE ⟨bits, ⟨cx0, cy0, cx1, cy1⟩, tw, th, ints oxs, toIms mxs, toOps pxs⟩).1)), RV.d (DV.int .i64 ((checkE ⟨bits, ⟨cx0, cy0, cx1, cy1⟩, tw, th, ints oxs, toIms mxs, toOps pxs⟩).2))]; let zz4 := fun (k : Nat) => (k ≤ mn ∧ imsE (mostS bits) ((toIms mxs).drop k) (k : Int) = imsE (mostS bits) (toIms mxs) 0); let zz5 := (DV.int .u16 (mostS bits) = DV.int .u16 (mostS bits)); let zz6 := (DV.sl mn mxs = DV.sl mn mxs); let zz7 := (DV.int .i64 ((mn : Nat) : Int) = DV.int .i64 ((mn : Nat) : Int)); let zz8 := ((zz0 = zz0) ∧ True); let zz9 := [RV.d (DV.int .i64 ((opsE bits ⟨cx0, cy0, cx1, cy1⟩ tw th (ints oxs) mn (toOps pxs)).1)), RV.d (DV.int .i64 ((opsE bits ⟨cx0, cy0, cx1, cy1⟩ tw th (ints oxs) mn (toOps pxs)).2))]; True ∧ True ∧ True ∧ True ∧ (Ans Tryd.prog 15 zz1 (RV.d zz2)) ∧ True ∧ True ∧ True ∧ ((((frameE bits ⟨cx0, cy0, cx1, cy1⟩ tw th (ints oxs) mn pn) != (0 : Int)) = true → True ∧ True ∧ True ∧ RV.tup [RV.d zz2, RV.d (DV.int .i64 0)] = RV.tup zz3) ∧ (((frameE bits ⟨cx0, cy0, cx1, cy1⟩ tw th (ints oxs) mn pn) != (0 : Int)) = false → True ∧ True ∧ (Ans Tryd.prog 29 [RV.d (DV.int .i64 bits)] (RV.tup [RV.d (DV.int .u16 (mostS bits)), RV.d (DV.bool (bitsOk bits))])) ∧ True ∧ True ∧ True ∧ True ∧ True ∧ True ∧ True ∧ True ∧ True ∧ ((∃ k : Nat, (zz4 k) ∧ (((0 = 0) ∧ zz5 ∧ zz6 ∧ zz7 ∧ (DV.int .i64 0 = DV.int .i64 ((k : Nat) : Int)) ∧ True) ∧ zz8)) ∧ ∀ k : Nat, (zz4 k) → True ∧ (((decide (((k : Nat) : Int) < ((mn : Nat) : Int))) = true → True ∧ (0 ≤ ((k : Nat) : Int) ∧ ((k : Nat) : Int) < ((mn : Nat) : Int) ∧ ((k : Nat) : Int).toNat * 28 < mxs.length) ∧ ((mxs[((k : Nat) : Int).toNat * 28]? = some (DV.int .i64 (nAt mxs (((k : Nat) : Int).toNat * 28)))) ∧ (mxs[((k : Nat) : Int).toNat * 28 + 1]? = some (DV.int .i64 (nAt mxs (((k : Nat) : Int).toNat * 28 + 1)))) ∧ (mxs[((k : Nat) : Int).toNat * 28 + 1 + 1]? = some (DV.bool (bAt mxs (((k : Nat) : Int).toNat * 28 + 1 + 1)))) ∧ (mxs[((k : Nat) : Int).toNat * 28 + 1 + 1 + 1]? = some (DV.int .u16 (nAt mxs (((k : Nat) : Int).toNat * 28 + 1 + 1 + 1)))) ∧ (mxs[((k : Nat) : Int).toNat * 28 + 1 + 1 + 1 + 1]? = some (DV.int .u16 (nAt mxs (((k : Nat) : Int).toNat * 28 + 1 + 1 + 1 + 1)))) ∧ (mxs[((k : Nat) : Int).toNat * 28 + 1 + 1 + 1 + 1 + 1]? = some (DV.int .u16 (nAt mxs (((k : Nat) : Int).toNat * 28 + 1 + 1 + 1 + 1 + 1)))) ∧ (mxs[((k : Nat) : Int).toNat * 28 + 1 + 1 + 1 + 1 + 1 + 1]? = some (DV.int .u16 (nAt mxs (((k : Nat) : Int).toNat * 28 + 1 + 1 + 1 + 1 + 1 + 1)))) ∧ (mxs[((k : Nat) : Int).toNat * 28 + 1 + 1 + 1 + 1 + 1 + 1 + 1]? = some (DV.int .u16 (nAt mxs (((k : Nat) : Int).toNat * 28 + 1 + 1 + 1 + 1 + 1 + 1 + 1)))) ∧ (mxs[((k : Nat) : Int).toNat * 28 + 1 + 1 + 1 + 1 + 1 + 1 + 1 + 1]? = some (DV.int .i64 (nAt mxs (((k : Nat) : Int).toNat * 28 + 1 + 1 + 1 + 1 + 1 + 1 + 1 + 1)))) ∧ (mxs[((k : Nat) : Int).toNat * 28 + 1 + 1 + 1 + 1 + 1 + 1 + 1 + 1 + 1]? = some (DV.int .i64 (nAt mxs (((k : Nat) : Int).toNat * 28 + 1 + 1 + 1 + 1 + 1 + 1 + 1 + 1 + 1)))) ∧ (mxs[((k : Nat) : Int).toNat * 28 + 1 + 1 + 1 + 1 + 1 + 1 + 1 + 1 + 1 + 1]? = some (DV.int .i64 (nAt mxs (((k : Nat) : Int).toNat * 28 + 1 + 1 + 1 + 1 + 1 + 1 + 1 + 1 + 1 + 1)))) ∧ (mxs[((k : Nat) : Int).toNat * 28 + 1 + 1 + 1 + 1 + 1 + 1 + 1 + 1 + 1 + 1 + 1]? = some (DV.sl (lAt mxs (((k : Nat) : Int).toNat * 28 + 1 + 1 + 1 + 1 + 1 + 1 + 1 + 1 + 1 + 1 + 1)) (cAt mxs (((k : Nat) : Int).toNat * 28 + 1 + 1 + 1 + 1 + 1 + 1 + 1 + 1 + 1 + 1 + 1)))) ∧ (mxs[((k : Nat) : Int).toNat * 28 + 1 + 1 + 1 + 1 + 1 + 1 + 1 + 1 + 1 + 1 + 1 + 1]? = some (DV.int .i64 (nAt mxs (((k : Nat) : Int).toNat * 28 + 1 + 1 + 1 + 1 + 1 + 1 + 1 + 1 + 1 + 1 + 1 + 1)))) ∧ (mxs[((k : Nat) : Int).toNat * 28 + 1 + 1 + 1 + 1 + 1 + 1 + 1 + 1 + 1 + 1 + 1 + 1 + 1]? = some (DV.int .i64 (nAt mxs (((k : Nat) : Int).toNat * 28 + 1 + 1 + 1 + 1 + 1 + 1 + 1 + 1 + 1 + 1 + 1 + 1 + 1)))) ∧ (mxs[((k : Nat) : Int).toNat * 28 + 1 + 1 + 1 + 1 + 1 + 1 + 1 + 1 + 1 + 1 + 1 + 1 + 1 + 1]? = some (DV.int .i64 (nAt mxs (((k : Nat) : Int).toNat * 28 + 1 + 1 + 1 + 1 + 1 + 1 + 1 + 1 + 1 + 1 + 1 + 1 + 1 + 1)))) ∧ (mxs[((k : Nat) : Int).toNat * 28 + 1 + 1 + 1 + 1 + 1 + 1 + 1 + 1 + 1 + 1 + 1 + 1 + 1 + 1 + 1]? = some (DV.sl (lAt mxs (((k : Nat) : Int).toNat * 28 + 1 + 1 + 1 + 1 + 1 + 1 + 1 + 1 + 1 + 1 + 1 + 1 + 1 + 1 + 1)) (cAt mxs (((k : Nat) : Int).toNat * 28 + 1 + 1 + 1 + 1 + 1 + 1 + 1 + 1 + 1 + 1 + 1 + 1 + 1 + 1 + 1)))) ∧ (mxs[((k : Nat) : Int).toNat * 28 + 1 + 1 + 1 + 1 + 1 + 1 + 1 + 1 + 1 + 1 + 1 + 1 + 1 + 1 + 1 + 1]? = some (DV.int .i64 (nAt mxs (((k : Nat) : Int).toNat * 28 + 1 + 1 + 1 + 1 + 1 + 1 + 1 + 1 + 1 + 1 + 1 + 1 + 1 + 1 + 1 + 1)))) ∧ (mxs[((k : Nat) : Int).toNat * 28 + 1 + 1 + 1 + 1 + 1 + 1 + 1 + 1 + 1 + 1 + 1 + 1 + 1 + 1 + 1 + 1 + 1]? = some (DV.int .i64 (nAt mxs (((k : Nat) : Int).toNat * 28 + 1 + 1 + 1 + 1 + 1 + 1 + 1 + 1 + 1 + 1 + 1 + 1 + 1 + 1 + 1 + 1 + 1)))) ∧ (mxs[((k : Nat) : Int).toNat * 28 + 1 + 1 + 1 + 1 + 1 + 1 + 1 + 1 + 1 + 1 + 1 + 1 + 1 + 1 + 1 + 1 + 1 + 1]? = some (DV.int .i64 (nAt mxs (((k : Nat) : Int).toNat * 28 + 1 + 1 + 1 + 1 + 1 + 1 + 1 + 1 + 1 + 1 + 1 + 1 + 1 + 1 + 1 + 1 + 1 + 1)))) ∧ (mxs[((k : Nat) : Int).toNat * 28 + 1 + 1 + 1 + 1 + 1 + 1 + 1 + 1 + 1 + 1 + 1 + 1 + 1 + 1 + 1 + 1 + 1 + 1 + 1]? = some (DV.sl (lAt mxs (((k : Nat) : Int).toNat * 28 + 1 + 1 + 1 + 1 + 1 + 1 + 1 + 1 + 1 + 1 + 1 + 1 + 1 + 1 + 1 + 1 + 1 + 1 + 1)) (cAt mxs (((k : Nat) : Int).toNat * 28 + 1 + 1 + 1 + 1 + 1 + 1 + 1 + 1 + 1 + 1 + 1 + 1 + 1 + 1 + 1 + 1 + 1 + 1 + 1)))) ∧ (mxs[((k : Nat) : Int).toNat * 28 + 1 + 1 + 1 + 1 + 1 + 1 + 1 + 1 + 1 + 1 + 1 + 1 + 1 + 1 + 1 + 1 + 1 + 1 + 1 + 1]? = some (DV.int .i64 (nAt mxs (((k : Nat) : Int).toNat * 28 + 1 + 1 + 1 + 1 + 1 + 1 + 1 + 1 + 1 + 1 + 1 + 1 + 1 + 1 + 1 + 1 + 1 + 1 + 1 + 1)))) ∧ (mxs[((k : Nat) : Int).toNat * 28 + 1 + 1 + 1 + 1 + 1 + 1 + 1 + 1 + 1 + 1 + 1 + 1 + 1 + 1 + 1 + 1 + 1 + 1 + 1 + 1 + 1]? = some (DV.int .i64 (nAt mxs (((k : Nat) : Int).toNat * 28 + 1 + 1 + 1 + 1 + 1 + 1 + 1 + 1 + 1 + 1 + 1 + 1 + 1 + 1 + 1 + 1 + 1 + 1 + 1 + 1 + 1)))) ∧ (mxs[((k : Nat) : Int).toNat * 28 + 1 + 1 + 1 + 1 + 1 + 1 + 1 + 1 + 1 + 1 + 1 + 1 + 1 + 1 + 1 + 1 + 1 + 1 + 1 + 1 + 1 + 1]? = some (DV.int .i64 (nAt mxs (((k : Nat) : Int).toNat * 28 + 1 + 1 + 1 + 1 + 1 + 1 + 1 + 1 + 1 + 1 + 1 + 1 + 1 + 1 + 1 + 1 + 1 + 1 + 1 + 1 + 1 + 1)))) ∧ (mxs[((k : Nat) : Int).toNat * 28 + 1 + 1 + 1 + 1 + 1 + 1 + 1 + 1 + 1 + 1 + 1 + 1 + 1 + 1 + 1 + 1 + 1 + 1 + 1 + 1 + 1 + 1 + 1]? = some (DV.sl (lAt mxs (((k : Nat) : Int).toNat * 28 + 1 + 1 + 1 + 1 + 1 + 1 + 1 + 1 + 1 + 1 + 1 + 1 + 1 + 1 + 1 + 1 + 1 + 1 + 1 + 1 + 1 + 1 + 1)) (cAt mxs (((k : Nat) : Int).toNat * 28 + 1 + 1 + 1 + 1 + 1 + 1 + 1 + 1 + 1 + 1 + 1 + 1 + 1 + 1 + 1 + 1 + 1 + 1 + 1 + 1 + 1 + 1 + 1)))) ∧ (mxs[((k : Nat) : Int).toNat * 28 + 1 + 1 + 1 + 1 + 1 + 1 + 1 + 1 + 1 + 1 + 1 + 1 + 1 + 1 + 1 + 1 + 1 + 1 + 1 + 1 + 1 + 1 + 1 + 1]? = some (DV.int .i64 (nAt mxs (((k : Nat) : Int).toNat * 28 + 1 + 1 + 1 + 1 + 1 + 1 + 1 + 1 + 1 + 1 + 1 + 1 + 1 + 1 + 1 + 1 + 1 + 1 + 1 + 1 + 1 + 1 + 1 + 1)))) ∧ (mxs[((k : Nat) : Int).toNat * 28 + 1 + 1 + 1 + 1 + 1 + 1 + 1 + 1 + 1 + 1 + 1 + 1 + 1 + 1 + 1 + 1 + 1 + 1 + 1 + 1 + 1 + 1 + 1 + 1 + 1]? = some (DV.int .i64 (nAt mxs (((k : Nat) : Int).toNat * 28 + 1 + 1 + 1 + 1 + 1 + 1 + 1 + 1 + 1 + 1 + 1 + 1 + 1 + 1 + 1 + 1 + 1 + 1 + 1 + 1 + 1 + 1 + 1 + 1 + 1)))) ∧ (mxs[((k : Nat) : Int).toNat * 28 + 1 + 1 + 1 + 1 + 1 + 1 + 1 + 1 + 1 + 1 + 1 + 1 + 1 + 1 + 1 + 1 + 1 + 1 + 1 + 1 + 1 + 1 + 1 + 1 + 1 + 1]? = some (DV.int .i64 (nAt mxs (((k : Nat) : Int).toNat * 28 + 1 + 1 + 1 + 1 + 1 + 1 + 1 + 1 + 1 + 1 + 1 + 1 + 1 + 1 + 1 + 1 + 1 + 1 + 1 + 1 + 1 + 1 + 1 + 1 + 1 + 1)))) ∧ (mxs[((k : Nat) : Int).toNat * 28 + 1 + 1 + 1 + 1 + 1 + 1 + 1 + 1 + 1 + 1 + 1 + 1 + 1 + 1 + 1 + 1 + 1 + 1 + 1 + 1 + 1 + 1 + 1 + 1 + 1 + 1 + 1]? = some (DV.sl (lAt mxs (((k : Nat) : Int).toNat * 28 + 1 + 1 + 1 + 1 + 1 + 1 + 1 + 1 + 1 + 1 + 1 + 1 + 1 + 1 + 1 + 1 + 1 + 1 + 1 + 1 + 1 + 1 + 1 + 1 + 1 + 1 + 1)) (cAt mxs (((k : Nat) : Int).toNat * 28 + 1 + 1 + 1 + 1 + 1 + 1 + 1 + 1 + 1 + 1 + 1 + 1 + 1 + 1 + 1 + 1 + 1 + 1 + 1 + 1 + 1 + 1 + 1 + 1 + 1 + 1 + 1)))) ∧ True) ∧ True ∧ True ∧ True ∧ True ∧ True ∧ (Ans Tryd.prog 30 [RV.agg [DV.int .i64 (nAt mxs (((k : Nat) : Int).toNat * 28)), DV.int .i64 (nAt mxs (((k : Nat) : Int).toNat * 28 + 1)), DV.bool (bAt mxs (((k : Nat) : Int).toNat * 28 + 1 + 1)), DV.int .u16 (nAt mxs (((k : Nat) : Int).toNat * 28 + 1 + 1 + 1)), DV.int .u16 (nAt mxs (((k : Nat) : Int).toNat * 28 + 1 + 1 + 1 + 1)), DV.int .u16 (nAt mxs (((k : Nat) : Int).toNat * 28 + 1 + 1 + 1 + 1 + 1)), DV.int .u16 (nAt mxs (((k : Nat) : Int).toNat * 28 + 1 + 1 + 1 + 1 + 1 + 1)), DV.int .u16 (nAt mxs (((k : Nat) : Int).toNat * 28 + 1 + 1 + 1 + 1 + 1 + 1 + 1)), DV.int .i64 (nAt mxs (((k : Nat) : Int).toNat * 28 + 1 + 1 + 1 + 1 + 1 + 1 + 1 + 1)), DV.int .i64 (nAt mxs (((k : Nat) : Int).toNat * 28 + 1 + 1 + 1 + 1 + 1 + 1 + 1 + 1 + 1)), DV.int .i64 (nAt mxs (((k : Nat) : Int).toNat * 28 + 1 + 1 + 1 + 1 + 1 + 1 + 1 + 1 + 1 + 1)), DV.sl (lAt mxs (((k : Nat) : Int).toNat * 28 + 1 + 1 + 1 + 1 + 1 + 1 + 1 + 1 + 1 + 1 + 1)) (cAt mxs (((k : Nat) : Int).toNat * 28 + 1 + 1 + 1 + 1 + 1 + 1 + 1 + 1 + 1 + 1 + 1)), DV.int .i64 (nAt mxs (((k : Nat) : Int).toNat * 28 + 1 + 1 + 1 + 1 + 1 + 1 + 1 + 1 + 1 + 1 + 1 + 1)), DV.int .i64 (nAt mxs (((k : Nat) : Int).toNat * 28 + 1 + 1 + 1 + 1 + 1 + 1 + 1 + 1 + 1 + 1 + 1 + 1 + 1)), DV.int .i64 (nAt mxs (((k : Nat) : Int).toNat * 28 + 1 + 1 + 1 + 1 + 1 + 1 + 1 + 1 + 1 + 1 + 1 + 1 + 1 + 1)), DV.sl (lAt mxs (((k : Nat) : Int).toNat * 28 + 1 + 1 + 1 + 1 + 1 + 1 + 1 + 1 + 1 + 1 + 1 + 1 + 1 + 1 + 1)) (cAt mxs (((k : Nat) : Int).toNat * 28 + 1 + 1 + 1 + 1 + 1 + 1 + 1 + 1 + 1 + 1 + 1 + 1 + 1 + 1 + 1)), DV.int .i64 (nAt mxs (((k : Nat) : Int).toNat * 28 + 1 + 1 + 1 + 1 + 1 + 1 + 1 + 1 + 1 + 1 + 1 + 1 + 1 + 1 + 1 + 1)), DV.int .i64 (nAt mxs (((k : Nat) : Int).toNat * 28 + 1 + 1 + 1 + 1 + 1 + 1 + 1 + 1 + 1 + 1 + 1 + 1 + 1 + 1 + 1 + 1 + 1)), DV.int .i64 (nAt mxs (((k : Nat) : Int).toNat * 28 + 1 + 1 + 1 + 1 + 1 + 1 + 1 + 1 + 1 + 1 + 1 + 1 + 1 + 1 + 1 + 1 + 1 + 1)), DV.sl (lAt mxs (((k : Nat) : Int).toNat * 28 + 1 + 1 + 1 + 1 + 1 + 1 + 1 + 1 + 1 + 1 + 1 + 1 + 1 + 1 + 1 + 1 + 1 + 1 + 1)) (cAt mxs (((k : Nat) : Int).toNat * 28 + 1 + 1 + 1 + 1 + 1 + 1 + 1 + 1 + 1 + 1 + 1 + 1 + 1 + 1 + 1 + 1 + 1 + 1 + 1)), DV.int .i64 (nAt mxs (((k : Nat) : Int).toNat * 28 + 1 + 1 + 1 + 1 + 1 + 1 + 1 + 1 + 1 + 1 + 1 + 1 + 1 + 1 + 1 + 1 + 1 + 1 + 1 + 1)), DV.int .i64 (nAt mxs (((k : Nat) : Int).toNat * 28 + 1 + 1 + 1 + 1 + 1 + 1 + 1 + 1 + 1 + 1 + 1 + 1 + 1 + 1 + 1 + 1 + 1 + 1 + 1 + 1 + 1)), DV.int .i64 (nAt mxs (((k : Nat) : Int).toNat * 28 + 1 + 1 + 1 + 1 + 1 + 1 + 1 + 1 + 1 + 1 + 1 + 1 + 1 + 1 + 1 + 1 + 1 + 1 + 1 + 1 + 1 + 1)), DV.sl (lAt mxs (((k : Nat) : Int).toNat * 28 + 1 + 1 + 1 + 1 + 1 + 1 + 1 + 1 + 1 + 1 + 1 + 1 + 1 + 1 + 1 + 1 + 1 + 1 + 1 + 1 + 1 + 1 + 1)) (cAt mxs (((k : Nat) : Int).toNat * 28 + 1 + 1 + 1 + 1 + 1 + 1 + 1 + 1 + 1 + 1 + 1 + 1 + 1 + 1 + 1 + 1 + 1 + 1 + 1 + 1 + 1 + 1 + 1)), DV.int .i64 (nAt mxs (((k : Nat) : Int).toNat * 28 + 1 + 1 + 1 + 1 + 1 + 1 + 1 + 1 + 1 + 1 + 1 + 1 + 1 + 1 + 1 + 1 + 1 + 1 + 1 + 1 + 1 + 1 + 1 + 1)), DV.int .i64 (nAt mxs (((k : Nat) : Int).toNat * 28 + 1 + 1 + 1 + 1 + 1 + 1 + 1 + 1 + 1 + 1 + 1 + 1 + 1 + 1 + 1 + 1 + 1 + 1 + 1 + 1 + 1 + 1 + 1 + 1 + 1)), DV.int .i64 (nAt mxs (((k : Nat) : Int).toNat * 28 + 1 + 1 + 1 + 1 + 1 + 1 + 1 + 1 + 1 + 1 + 1 + 1 + 1 + 1 + 1 + 1 + 1 + 1 + 1 + 1 + 1 + 1 + 1 + 1 + 1 + 1)), DV.sl (lAt mxs (((k : Nat) : Int).toNat * 28 + 1 + 1 + 1 + 1 + 1 + 1 + 1 + 1 + 1 + 1 + 1 + 1 + 1 + 1 + 1 + 1 + 1 + 1 + 1 + 1 + 1 + 1 + 1 + 1 + 1 + 1 + 1)) (cAt mxs (((k : Nat) : Int).toNat * 28 + 1 + 1 + 1 + 1 + 1 + 1 + 1 + 1 + 1 + 1 + 1 + 1 + 1 + 1 + 1 + 1 + 1 + 1 + 1 + 1 + 1 + 1 + 1 + 1 + 1 + 1 + 1))], RV.d (DV.int .u16 (mostS bits))] (RV.d (DV.int .i64 (Im.valid ⟨(nAt mxs (((k : Nat) : Int).toNat * 28)), (nAt mxs (((k : Nat) : Int).toNat * 28 + 1)), (bAt mxs (((k : Nat) : Int).toNat * 28 + 1 + 1)), ⟨(nAt mxs (((k : Nat) : Int).toNat * 28 + 1 + 1 + 1)), (nAt mxs (((k : Nat) : Int).toNat * 28 + 1 + 1 + 1 + 1)), (nAt mxs (((k : Nat) : Int).toNat * 28 + 1 + 1 + 1 + 1 + 1)), (nAt mxs (((k : Nat) : Int).toNat * 28 + 1 + 1 + 1 + 1 + 1 + 1)), (nAt mxs (((k : Nat) : Int).toNat * 28 + 1 + 1 + 1 + 1 + 1 + 1 + 1))⟩, ⟨(nAt mxs (((k : Nat) : Int).toNat * 28 + 1 + 1 + 1 + 1 + 1 + 1 + 1 + 1)), (nAt mxs (((k : Nat) : Int).toNat * 28 + 1 + 1 + 1 + 1 + 1 + 1 + 1 + 1 + 1)), (nAt mxs (((k : Nat) : Int).toNat * 28 + 1 + 1 + 1 + 1 + 1 + 1 + 1 + 1 + 1 + 1)), (lAt mxs (((k : Nat) : Int).toNat * 28 + 1 + 1 + 1 + 1 + 1 + 1 + 1 + 1 + 1 + 1 + 1)), (cAt mxs (((k : Nat) : Int).toNat * 28 + 1 + 1 + 1 + 1 + 1 + 1 + 1 + 1 + 1 + 1 + 1))⟩, ⟨(nAt mxs (((k : Nat) : Int).toNat * 28 + 1 + 1 + 1 + 1 + 1 + 1 + 1 + 1 + 1 + 1 + 1 + 1)), (nAt mxs (((k : Nat) : Int).toNat * 28 + 1 + 1 + 1 + 1 + 1 + 1 + 1 + 1 + 1 + 1 + 1 + 1 + 1)), (nAt mxs (((k : Nat) : Int).toNat * 28 + 1 + 1 + 1 + 1 + 1 + 1 + 1 + 1 + 1 + 1 + 1 + 1 + 1 + 1)), (lAt mxs (((k : Nat) : Int).toNat * 28 + 1 + 1 + 1 + 1 + 1 + 1 + 1 + 1 + 1 + 1 + 1 + 1 + 1 + 1 + 1)), (cAt mxs (((k : Nat) : Int).toNat * 28 + 1 + 1 + 1 + 1 + 1 + 1 + 1 + 1 + 1 + 1 + 1 + 1 + 1 + 1 + 1))⟩, ⟨(nAt mxs (((k : Nat) : Int).toNat * 28 + 1 + 1 + 1 + 1 + 1 + 1 + 1 + 1 + 1 + 1 + 1 + 1 + 1 + 1 + 1 + 1)), (nAt mxs (((k : Nat) : Int).toNat * 28 + 1 + 1 + 1 + 1 + 1 + 1 + 1 + 1 + 1 + 1 + 1 + 1 + 1 + 1 + 1 + 1 + 1)), (nAt mxs (((k : Nat) : Int).toNat * 28 + 1 + 1 + 1 + 1 + 1 + 1 + 1 + 1 + 1 + 1 + 1 + 1 + 1 + 1 + 1 + 1 + 1 + 1)), (lAt mxs (((k : Nat) : Int).toNat * 28 + 1 + 1 + 1 + 1 + 1 + 1 + 1 + 1 + 1 + 1 + 1 + 1 + 1 + 1 + 1 + 1 + 1 + 1 + 1)), (cAt mxs (((k : Nat) : Int).toNat * 28 + 1 + 1 + 1 + 1 + 1 + 1 + 1 + 1 + 1 + 1 + 1 + 1 + 1 + 1 + 1 + 1 + 1 + 1 + 1))⟩, ⟨(nAt mxs (((k : Nat) : Int).toNat * 28 + 1 + 1 + 1 + 1 + 1 + 1 + 1 + 1 + 1 + 1 + 1 + 1 + 1 + 1 + 1 + 1 + 1 + 1 + 1 + 1)), (nAt mxs (((k : Nat) : Int).toNat * 28 + 1 + 1 + 1 + 1 + 1 + 1 + 1 + 1 + 1 + 1 + 1 + 1 + 1 + 1 + 1 + 1 + 1 + 1 + 1 + 1 + 1)), (nAt mxs (((k : Nat) : Int).toNat * 28 + 1 + 1 + 1 + 1 + 1 + 1 + 1 + 1 + 1 + 1 + 1 + 1 + 1 + 1 + 1 + 1 + 1 + 1 + 1 + 1 + 1 + 1)), (lAt mxs (((k : Nat) : Int).toNat * 28 + 1 + 1 + 1 + 1 + 1 + 1 + 1 + 1 + 1 + 1 + 1 + 1 + 1 + 1 + 1 + 1 + 1 + 1 + 1 + 1 + 1 + 1 + 1)), (cAt mxs (((k : Nat) : Int).toNat * 28 + 1 + 1 + 1 + 1 + 1 + 1 + 1 + 1 + 1 + 1 + 1 + 1 + 1 + 1 + 1 + 1 + 1 + 1 + 1 + 1 + 1 + 1 + 1))⟩, ⟨(nAt mxs (((k : Nat) : Int).toNat * 28 + 1 + 1 + 1 + 1 + 1 + 1 + 1 + 1 + 1 + 1 + 1 + 1 + 1 + 1 + 1 + 1 + 1 + 1 + 1 + 1 + 1 + 1 + 1 + 1)), (nAt mxs (((k : Nat) : Int).toNat * 28 + 1 + 1 + 1 + 1 + 1 + 1 + 1 + 1 + 1 + 1 + 1 + 1 + 1 + 1 + 1 + 1 + 1 + 1 + 1 + 1 + 1 + 1 + 1 + 1 + 1)), (nAt mxs (((k : Nat) : Int).toNat * 28 + 1 + 1 + 1 + 1 + 1 + 1 + 1 + 1 + 1 + 1 + 1 + 1 + 1 + 1 + 1 + 1 + 1 + 1 + 1 + 1 + 1 + 1 + 1 + 1 + 1 + 1)), (lAt mxs (((k : Nat) : Int).toNat * 28 + 1 + 1 + 1 + 1 + 1 + 1 + 1 + 1 + 1 + 1 + 1 + 1 + 1 + 1 + 1 + 1 + 1 + 1 + 1 + 1 + 1 + 1 + 1 + 1 + 1 + 1 + 1)), (cAt mxs (((k : Nat) : Int).toNat * 28 + 1 + 1 + 1 + 1 + 1 + 1 + 1 + 1 + 1 + 1 + 1 + 1 + 1 + 1 + 1 + 1 + 1 + 1 + 1 + 1 + 1 + 1 + 1 + 1 + 1 + 1 + 1))⟩⟩ (mostS bits))))) ∧ True ∧ True ∧ True ∧ ((((Im.valid ⟨(nAt mxs (((k : Nat) : Int).toNat * 28)), (nAt mxs (((k : Nat) : Int).toNat * 28 + 1)), (bAt mxs (((k : Nat) : Int).toNat * 28 + 1 + 1)), ⟨(nAt mxs (((k : Nat) : Int).toNat * 28 + 1 + 1 + 1)), (nAt mxs (((k : Nat) : Int).toNat * 28 + 1 + 1 + 1 + 1)), (nAt mxs (((k : Nat) : Int).toNat * 28 + 1 + 1 + 1 + 1 + 1)), (nAt mxs (((k : Nat) : Int).toNat * 28 + 1 + 1 + 1 + 1 + 1 + 1)), (nAt mxs (((k : Nat) : Int).toNat * 28 + 1 + 1 + 1 + 1 + 1 + 1 + 1))⟩, ⟨(nAt mxs (((k : Nat) : Int).toNat * 28 + 1 + 1 + 1 + 1 + 1 + 1 + 1 + 1)), (nAt mxs (((k : Nat) : Int).toNat * 28 + 1 + 1 + 1 + 1 + 1 + 1 + 1 + 1 + 1)), (nAt mxs (((k : Nat) : Int).toNat * 28 + 1 + 1 + 1 + 1 + 1 + 1 + 1 + 1 + 1 + 1)), (lAt mxs (((k : Nat) : Int).toNat * 28 + 1 + 1 + 1 + 1 + 1 + 1 + 1 + 1 + 1 + 1 + 1)), (cAt mxs (((k : Nat) : Int).toNat * 28 + 1 + 1 + 1 + 1 + 1 + 1 + 1 + 1 + 1 + 1 + 1))⟩, ⟨(nAt mxs (((k : Nat) : Int).toNat * 28 + 1 + 1 + 1 + 1 + 1 + 1 + 1 + 1 + 1 + 1 + 1 + 1)), (nAt mxs (((k : Nat) : Int).toNat * 28 + 1 + 1 + 1 + 1 + 1 + 1 + 1 + 1 + 1 + 1 + 1 + 1 + 1)), (nAt mxs (((k : Nat) : Int).toNat * 28 + 1 + 1 + 1 + 1 + 1 + 1 + 1 + 1 + 1 + 1 + 1 + 1 + 1 + 1)), (lAt mxs (((k : Nat) : Int).toNat * 28 + 1 + 1 + 1 + 1 + 1 + 1 + 1 + 1 + 1 + 1 + 1 + 1 + 1 + 1 + 1)), (cAt mxs (((k : Nat) : Int).toNat * 28 + 1 + 1 + 1 + 1 + 1 + 1 + 1 + 1 + 1 + 1 + 1 + 1 + 1 + 1 + 1))⟩, ⟨(nAt mxs (((k : Nat) : Int).toNat * 28 + 1 + 1 + 1 + 1 + 1 + 1 + 1 + 1 + 1 + 1 + 1 + 1 + 1 + 1 + 1 + 1)), (nAt mxs (((k : Nat) : Int).toNat * 28 + 1 + 1 + 1 + 1 + 1 + 1 + 1 + 1 + 1 + 1 + 1 + 1 + 1 + 1 + 1 + 1 + 1)), (nAt mxs (((k : Nat) : Int).toNat * 28 + 1 + 1 + 1 + 1 + 1 + 1 + 1 + 1 + 1 + 1 + 1 + 1 + 1 + 1 + 1 + 1 + 1 + 1)), (lAt mxs (((k : Nat) : Int).toNat * 28 + 1 + 1 + 1 + 1 + 1 + 1 + 1 + 1 + 1 + 1 + 1 + 1 + 1 + 1 + 1 + 1 + 1 + 1 + 1)), (cAt mxs (((k : Nat) : Int).toNat * 28 + 1 + 1 + 1 + 1 + 1 + 1 + 1 + 1 + 1 + 1 + 1 + 1 + 1 + 1 + 1 + 1 + 1 + 1 + 1))⟩, ⟨(nAt mxs (((k : Nat) : Int).toNat * 28 + 1 + 1 + 1 + 1 + 1 + 1 + 1 + 1 + 1 + 1 + 1 + 1 + 1 + 1 + 1 + 1 + 1 + 1 + 1 + 1)), (nAt mxs (((k : Nat) : Int).toNat * 28 + 1 + 1 + 1 + 1 + 1 + 1 + 1 + 1 + 1 + 1 + 1 + 1 + 1 + 1 + 1 + 1 + 1 + 1 + 1 + 1 + 1)), (nAt mxs (((k : Nat) : Int).toNat * 28 + 1 + 1 + 1 + 1 + 1 + 1 + 1 + 1 + 1 + 1 + 1 + 1 + 1 + 1 + 1 + 1 + 1 + 1 + 1 + 1 + 1 + 1)), (lAt mxs (((k : Nat) : Int).toNat * 28 + 1 + 1 + 1 + 1 + 1 + 1 + 1 + 1 + 1 + 1 + 1 + 1 + 1 + 1 + 1 + 1 + 1 + 1 + 1 + 1 + 1 + 1 + 1)), (cAt mxs (((k : Nat) : Int).toNat * 28 + 1 + 1 + 1 + 1 + 1 + 1 + 1 + 1 + 1 + 1 + 1 + 1 + 1 + 1 + 1 + 1 + 1 + 1 + 1 + 1 + 1 + 1 + 1))⟩, ⟨(nAt mxs (((k : Nat) : Int).toNat * 28 + 1 + 1 + 1 + 1 + 1 + 1 + 1 + 1 + 1 + 1 + 1 + 1 + 1 + 1 + 1 + 1 + 1 + 1 + 1 + 1 + 1 + 1 + 1 + 1)), (nAt mxs (((k : Nat) : Int).toNat * 28 + 1 + 1 + 1 + 1 + 1 + 1 + 1 + 1 + 1 + 1 + 1 + 1 + 1 + 1 + 1 + 1 + 1 + 1 + 1 + 1 + 1 + 1 + 1 + 1 + 1)), (nAt mxs (((k : Nat) : Int).toNat * 28 + 1 + 1 + 1 + 1 + 1 + 1 + 1 + 1 + 1 + 1 + 1 + 1 + 1 + 1 + 1 + 1 + 1 + 1 + 1 + 1 + 1 + 1 + 1 + 1 + 1 + 1)), (lAt mxs (((k : Nat) : Int).toNat * 28 + 1 + 1 + 1 + 1 + 1 + 1 + 1 + 1 + 1 + 1 + 1 + 1 + 1 + 1 + 1 + 1 + 1 + 1 + 1 + 1 + 1 + 1 + 1 + 1 + 1 + 1 + 1)), (cAt mxs (((k : Nat) : Int).toNat * 28 + 1 + 1 + 1 + 1 + 1 + 1 + 1 + 1 + 1 + 1 + 1 + 1 + 1 + 1 + 1 + 1 + 1 + 1 + 1 + 1 + 1 + 1 + 1 + 1 + 1 + 1 + 1))⟩⟩ (mostS bits)) != (0 : Int)) = true → True ∧ True ∧ True ∧ True ∧ RV.tup [RV.d (DV.int .i64 (Im.valid ⟨(nAt mxs (((k : Nat) : Int).toNat * 28)), (nAt mxs (((k : Nat) : Int).toNat * 28 + 1)), (bAt mxs (((k : Nat) : Int).toNat * 28 + 1 + 1)), ⟨(nAt mxs (((k : Nat) : Int).toNat * 28 + 1 + 1 + 1)), (nAt mxs (((k : Nat) : Int).toNat * 28 + 1 + 1 + 1 + 1)), (nAt mxs (((k : Nat) : Int).toNat * 28 + 1 + 1 + 1 + 1 + 1)), (nAt mxs (((k : Nat) : Int).toNat * 28 + 1 + 1 + 1 + 1 + 1 + 1)), (nAt mxs (((k : Nat) : Int).toNat * 28 + 1 + 1 + 1 + 1 + 1 + 1 + 1))⟩, ⟨(nAt mxs (((k : Nat) : Int).toNat * 28 + 1 + 1 + 1 + 1 + 1 + 1 + 1 + 1)), (nAt mxs (((k : Nat) : Int).toNat * 28 + 1 + 1 + 1 + 1 + 1 + 1 + 1 + 1 + 1)), (nAt mxs (((k : Nat) : Int).toNat * 28 + 1 + 1 + 1 + 1 + 1 + 1 + 1 + 1 + 1 + 1)), (lAt mxs (((k : Nat) : Int).toNat * 28 + 1 + 1 + 1 + 1 + 1 + 1 + 1 + 1 + 1 + 1 + 1)), (cAt mxs (((k : Nat) : Int).toNat * 28 + 1 + 1 + 1 + 1 + 1 + 1 + 1 + 1 + 1 + 1 + 1))⟩, ⟨(nAt mxs (((k : Nat) : Int).toNat * 28 + 1 + 1 + 1 + 1 + 1 + 1 + 1 + 1 + 1 + 1 + 1 + 1)), (nAt mxs (((k : Nat) : Int).toNat * 28 + 1 + 1 + 1 + 1 + 1 + 1 + 1 + 1 + 1 + 1 + 1 + 1 + 1)), (nAt mxs (((k : Nat) : Int).toNat * 28 + 1 + 1 + 1 + 1 + 1 + 1 + 1 + 1 + 1 + 1 + 1 + 1 + 1 + 1)), (lAt mxs (((k : Nat) : Int).toNat * 28 + 1 + 1 + 1 + 1 + 1 + 1 + 1 + 1 + 1 + 1 + 1 + 1 + 1 + 1 + 1)), (cAt mxs (((k : Nat) : Int).toNat * 28 + 1 + 1 + 1 + 1 + 1 + 1 + 1 + 1 + 1 + 1 + 1 + 1 + 1 + 1 + 1))⟩, ⟨(nAt mxs (((k : Nat) : Int).toNat * 28 + 1 + 1 + 1 + 1 + 1 + 1 + 1 + 1 + 1 + 1 + 1 + 1 + 1 + 1 + 1 + 1)), (nAt mxs (((k : Nat) : Int).toNat * 28 + 1 + 1 + 1 + 1 + 1 + 1 + 1 + 1 + 1 + 1 + 1 + 1 + 1 + 1 + 1 + 1 + 1)), (nAt mxs (((k : Nat) : Int).toNat * 28 + 1 + 1 + 1 + 1 + 1 + 1 + 1 + 1 + 1 + 1 + 1 + 1 + 1 + 1 + 1 + 1 + 1 + 1)), (lAt mxs (((k : Nat) : Int).toNat * 28 + 1 + 1 + 1 + 1 + 1 + 1 + 1 + 1 + 1 + 1 + 1 + 1 + 1 + 1 + 1 + 1 + 1 + 1 + 1)), (cAt mxs (((k : Nat) : Int).toNat * 28 + 1 + 1 + 1 + 1 + 1 + 1 + 1 + 1 + 1 + 1 + 1 + 1 + 1 + 1 + 1 + 1 + 1 + 1 + 1))⟩, ⟨(nAt mxs (((k : Nat) : Int).toNat * 28 + 1 + 1 + 1 + 1 + 1 + 1 + 1 + 1 + 1 + 1 + 1 + 1 + 1 + 1 + 1 + 1 + 1 + 1 + 1 + 1)), (nAt mxs (((k : Nat) : Int).toNat * 28 + 1 + 1 + 1 + 1 + 1 + 1 + 1 + 1 + 1 + 1 + 1 + 1 + 1 + 1 + 1 + 1 + 1 + 1 + 1 + 1 + 1)), (nAt mxs (((k : Nat) : Int).toNat * 28 + 1 + 1 + 1 + 1 + 1 + 1 + 1 + 1 + 1 + 1 + 1 + 1 + 1 + 1 + 1 + 1 + 1 + 1 + 1 + 1 + 1 + 1)), (lAt mxs (((k : Nat) : Int).toNat * 28 + 1 + 1 + 1 + 1 + 1 + 1 + 1 + 1 + 1 + 1 + 1 + 1 + 1 + 1 + 1 + 1 + 1 + 1 + 1 + 1 + 1 + 1 + 1)), (cAt mxs (((k : Nat) : Int).toNat * 28 + 1 + 1 + 1 + 1 + 1 + 1 + 1 + 1 + 1 + 1 + 1 + 1 + 1 + 1 + 1 + 1 + 1 + 1 + 1 + 1 + 1 + 1 + 1))⟩, ⟨(nAt mxs (((k : Nat) : Int).toNat * 28 + 1 + 1 + 1 + 1 + 1 + 1 + 1 + 1 + 1 + 1 + 1 + 1 + 1 + 1 + 1 + 1 + 1 + 1 + 1 + 1 + 1 + 1 + 1 + 1)), (nAt mxs (((k : Nat) : Int).toNat * 28 + 1 + 1 + 1 + 1 + 1 + 1 + 1 + 1 + 1 + 1 + 1 + 1 + 1 + 1 + 1 + 1 + 1 + 1 + 1 + 1 + 1 + 1 + 1 + 1 + 1)), (nAt mxs (((k : Nat) : Int).toNat * 28 + 1 + 1 + 1 + 1 + 1 + 1 + 1 + 1 + 1 + 1 + 1 + 1 + 1 + 1 + 1 + 1 + 1 + 1 + 1 + 1 + 1 + 1 + 1 + 1 + 1 + 1)), (lAt mxs (((k : Nat) : Int).toNat * 28 + 1 + 1 + 1 + 1 + 1 + 1 + 1 + 1 + 1 + 1 + 1 + 1 + 1 + 1 + 1 + 1 + 1 + 1 + 1 + 1 + 1 + 1 + 1 + 1 + 1 + 1 + 1)), (cAt mxs (((k : Nat) : Int).toNat * 28 + 1 + 1 + 1 + 1 + 1 + 1 + 1 + 1 + 1 + 1 + 1 + 1 + 1 + 1 + 1 + 1 + 1 + 1 + 1 + 1 + 1 + 1 + 1 + 1 + 1 + 1 + 1))⟩⟩ (mostS bits))), RV.d (DV.int .i64 ((k : Nat) : Int))] = RV.tup zz3) ∧ (((Im.valid ⟨(nAt mxs (((k : Nat) : Int).toNat * 28)), (nAt mxs (((k : Nat) : Int).toNat * 28 + 1)), (bAt mxs (((k : Nat) : Int).toNat * 28 + 1 + 1)), ⟨(nAt mxs (((k : Nat) : Int).toNat * 28 + 1 + 1 + 1)), (nAt mxs (((k : Nat) : Int).toNat * 28 + 1 + 1 + 1 + 1)), (nAt mxs (((k : Nat) : Int).toNat * 28 + 1 + 1 + 1 + 1 + 1)), (nAt mxs (((k : Nat) : Int).toNat * 28 + 1 + 1 + 1 + 1 + 1 + 1)), (nAt mxs (((k : Nat) : Int).toNat * 28 + 1 + 1 + 1 + 1 + 1 + 1 + 1))⟩, ⟨(nAt mxs (((k : Nat) : Int).toNat * 28 + 1 + 1 + 1 + 1 + 1 + 1 + 1 + 1)), (nAt mxs (((k : Nat) : Int).toNat * 28 + 1 + 1 + 1 + 1 + 1 + 1 + 1 + 1 + 1)), (nAt mxs (((k : Nat) : Int).toNat * 28 + 1 + 1 + 1 + 1 + 1 + 1 + 1 + 1 + 1 + 1)), (lAt mxs (((k : Nat) : Int).toNat * 28 + 1 + 1 + 1 + 1 + 1 + 1 + 1 + 1 + 1 + 1 + 1)), (cAt mxs (((k : Nat) : Int).toNat * 28 + 1 + 1 + 1 + 1 + 1 + 1 + 1 + 1 + 1 + 1 + 1))⟩, ⟨(nAt mxs (((k : Nat) : Int).toNat * 28 + 1 + 1 + 1 + 1 + 1 + 1 + 1 + 1 + 1 + 1 + 1 + 1)), (nAt mxs (((k : Nat) : Int).toNat * 28 + 1 + 1 + 1 + 1 + 1 + 1 + 1 + 1 + 1 + 1 + 1 + 1 + 1)), (nAt mxs (((k : Nat) : Int).toNat * 28 + 1 + 1 + 1 + 1 + 1 + 1 + 1 + 1 + 1 + 1 + 1 + 1 + 1 + 1)), (lAt mxs (((k : Nat) : Int).toNat * 28 + 1 + 1 + 1 + 1 + 1 + 1 + 1 + 1 + 1 + 1 + 1 + 1 + 1 + 1 + 1)), (cAt mxs (((k : Nat) : Int).toNat * 28 + 1 + 1 + 1 + 1 + 1 + 1 + 1 + 1 + 1 + 1 + 1 + 1 + 1 + 1 + 1))⟩, ⟨(nAt mxs (((k : Nat) : Int).toNat * 28 + 1 + 1 + 1 + 1 + 1 + 1 + 1 + 1 + 1 + 1 + 1 + 1 + 1 + 1 + 1 + 1)), (nAt mxs (((k : Nat) : Int).toNat * 28 + 1 + 1 + 1 + 1 + 1 + 1 + 1 + 1 + 1 + 1 + 1 + 1 + 1 + 1 + 1 + 1 + 1)), (nAt mxs (((k : Nat) : Int).toNat * 28 + 1 + 1 + 1 + 1 + 1 + 1 + 1 + 1 + 1 + 1 + 1 + 1 + 1 + 1 + 1 + 1 + 1 + 1)), (lAt mxs (((k : Nat) : Int).toNat * 28 + 1 + 1 + 1 + 1 + 1 + 1 + 1 + 1 + 1 + 1 + 1 + 1 + 1 + 1 + 1 + 1 + 1 + 1 + 1)), (cAt mxs (((k : Nat) : Int).toNat * 28 + 1 + 1 + 1 + 1 + 1 + 1 + 1 + 1 + 1 + 1 + 1 + 1 + 1 + 1 + 1 + 1 + 1 + 1 + 1))⟩, ⟨(nAt mxs (((k : Nat) : Int).toNat * 28 + 1 + 1 + 1 + 1 + 1 + 1 + 1 + 1 + 1 + 1 + 1 + 1 + 1 + 1 + 1 + 1 + 1 + 1 + 1 + 1)), (nAt mxs (((k : Nat) : Int).toNat * 28 + 1 + 1 + 1 + 1 + 1 + 1 + 1 + 1 + 1 + 1 + 1 + 1 + 1 + 1 + 1 + 1 + 1 + 1 + 1 + 1 + 1)), (nAt mxs (((k : Nat) : Int).toNat * 28 + 1 + 1 + 1 + 1 + 1 + 1 + 1 + 1 + 1 + 1 + 1 + 1 + 1 + 1 + 1 + 1 + 1 + 1 + 1 + 1 + 1 + 1)), (lAt mxs (((k : Nat) : Int).toNat * 28 + 1 + 1 + 1 + 1 + 1 + 1 + 1 + 1 + 1 + 1 + 1 + 1 + 1 + 1 + 1 + 1 + 1 + 1 + 1 + 1 + 1 + 1 + 1)), (cAt mxs (((k : Nat) : Int).toNat * 28 + 1 + 1 + 1 + 1 + 1 + 1 + 1 + 1 + 1 + 1 + 1 + 1 + 1 + 1 + 1 + 1 + 1 + 1 + 1 + 1 + 1 + 1 + 1))⟩, ⟨(nAt mxs (((k : Nat) : Int).toNat * 28 + 1 + 1 + 1 + 1 + 1 + 1 + 1 + 1 + 1 + 1 + 1 + 1 + 1 + 1 + 1 + 1 + 1 + 1 + 1 + 1 + 1 + 1 + 1 + 1)), (nAt mxs (((k : Nat) : Int).toNat * 28 + 1 + 1 + 1 + 1 + 1 + 1 + 1 + 1 + 1 + 1 + 1 + 1 + 1 + 1 + 1 + 1 + 1 + 1 + 1 + 1 + 1 + 1 + 1 + 1 + 1)), (nAt mxs (((k : Nat) : Int).toNat * 28 + 1 + 1 + 1 + 1 + 1 + 1 + 1 + 1 + 1 + 1 + 1 + 1 + 1 + 1 + 1 + 1 + 1 + 1 + 1 + 1 + 1 + 1 + 1 + 1 + 1 + 1)), (lAt mxs (((k : Nat) : Int).toNat * 28 + 1 + 1 + 1 + 1 + 1 + 1 + 1 + 1 + 1 + 1 + 1 + 1 + 1 + 1 + 1 + 1 + 1 + 1 + 1 + 1 + 1 + 1 + 1 + 1 + 1 + 1 + 1)), (cAt mxs (((k : Nat) : Int).toNat * 28 + 1 + 1 + 1 + 1 + 1 + 1 + 1 + 1 + 1 + 1 + 1 + 1 + 1 + 1 + 1 + 1 + 1 + 1 + 1 + 1 + 1 + 1 + 1 + 1 + 1 + 1 + 1))⟩⟩ (mostS bits)) != (0 : Int)) = false → True ∧ True ∧ ∃ k' : Nat, (k' ≤ mn ∧ imsE (mostS bits) ((toIms mxs).drop k') (k' : Int) = imsE (mostS bits) (toIms mxs) 0) ∧ (mn - k' < mn - k) ∧ (((0 = 0) ∧ zz5 ∧ zz6 ∧ zz7 ∧ (DV.int .i64 (IntKind.wrap .i64 (((k : Nat) : Int) + (1 : Int))) = DV.int .i64 ((k' : Nat) : Int)) ∧ True) ∧ zz8)))) ∧ ((decide (((k : Nat) : Int) < ((mn : Nat) : Int))) = false → True ∧ (Ans Tryd.prog 13 zz1 (RV.tup zz9)) ∧ True ∧ True ∧ True ∧ True ∧ RV.tup zz9 = RV.tup zz3)))))) := by kernel_rfl
theorem validate_Check_ans (bits : Int) (cx0 : Int) (cy0 : Int) (cx1 : Int) (cy1 : Int) (tw : Int) (th : Int) (on : Nat) (oxs : List DV) (mn : Nat) (mxs : List DV) (pn : Nat) (pxs : List DV) (hP : pxs = ops (toOps pxs) ∧ pn = (toOps pxs).length) (hO : oxs = is (ints oxs) ∧ on = oxs.length) (hM : IsIms mn mxs) : Ans Tryd.prog 12 [RV.agg [DV.int .i64 bits, DV.int .i64 cx0, DV.int .i64 cy0, DV.int .i64 cx1, DV.int .i64 cy1, DV.int .i64 tw, DV.int .i64 th, DV.sl on oxs, DV.sl mn mxs, DV.sl pn pxs]] (RV.tup [RV.d (DV.int .i64 ((checkE ⟨bits, ⟨cx0, cy0, cx1, cy1⟩, tw, th, ints oxs, toIms mxs, toOps pxs⟩).1)), RV.d (DV.int .i64 ((checkE ⟨bits, ⟨cx0, cy0, cx1, cy1⟩, tw, th, ints oxs, toIms mxs, toOps pxs⟩).2))]) :=
  ans_of_vcg (Γ := gamVf) (validate_Check_ann bits cx0 cy0 cx1 cy1 tw th on oxs mn mxs pn pxs) mixed_ Tryd.func12 rfl (Nat.le_of_ble_eq_true rfl) fun hwf => by
    refine Eq.mpr (validate_Check_vc bits cx0 cy0 cx1 cy1 tw th on oxs mn mxs pn pxs) ?_
    simp only [true_and, and_true, RV.d.injEq, RV.agg.injEq, RV.tup.injEq, DV.bool.injEq, DV.int.injEq, DV.sl.injEq, List.cons.injEq, forall_const, Bool.not_false, Bool.not_true, Bool.not_eq_true', Bool.not_eq_false', decide_eq_true_eq, decide_eq_false_iff_not, Int.toNat_natCast, sample_Max_ans, R01_Max_ans]
    obtain ⟨ml, hMu, rfl, rfl⟩ := hM.of
    have hfr := validate_Frame_ans bits cx0 cy0 cx1 cy1 tw th on oxs ml.length (ims ml) pn pxs hO
    have hop := validate_Ops_ans bits cx0 cy0 cx1 cy1 tw th on oxs ml.length (ims ml) pn pxs hP hO
    obtain ⟨hP, rfl⟩ := hP
    simp only [toIms_ims]
    generalize toOps pxs = ps at *
    subst hP
    simp only [RV.wfs, RV.wf, DV.wf, DV.wfs, maxLen] at hwf
    have hml : ml.length ≤ 9223372036854775807 := by omega
    have hC : checkE ⟨bits, ⟨cx0, cy0, cx1, cy1⟩, tw, th, ints oxs, ml, ps⟩ = if frameE bits ⟨cx0, cy0, cx1, cy1⟩ tw th (ints oxs) ml.length ps.length = 0 then (if (imsE (mostS bits) ml 0).1 = 0 then opsE bits ⟨cx0, cy0, cx1, cy1⟩ tw th (ints oxs) ml.length ps else imsE (mostS bits) ml 0) else (frameE bits ⟨cx0, cy0, cx1, cy1⟩ tw th (ints oxs) ml.length ps.length, 0) := rfl
    rw [hC]
    clear hC hwf
    generalize frameE bits ⟨cx0, cy0, cx1, cy1⟩ tw th (ints oxs) ml.length ps.length = FE at *
    generalize opsE bits ⟨cx0, cy0, cx1, cy1⟩ tw th (ints oxs) ml.length ps = OE at *
    generalize mostS bits = most at *
    refine ⟨hfr, fun hne => ?_, fun he => ⟨⟨0, ⟨Nat.zero_le _, by simp⟩, rfl⟩, fun k hk => ⟨fun hlt => ?_, fun hge => ?_⟩⟩⟩
    · have : FE ≠ 0 := by simpa using hne
      simp [this]
    · obtain ⟨k1, k2⟩ := hk
      have hk : k < ml.length := by omega
      have q1 := ims_rd hk
      have q2 := ims_at hk
      have hd : ml.drop k = ml[k] :: ml.drop (k + 1) := List.drop_eq_getElem_cons hk
      have hF : FE = 0 := by simpa using he
      have vI := image_Valid_im ml[k] most (hMu _ (List.getElem_mem hk))
      rw [hd] at k2
      simp only [imsE] at k2
      have w1 : IntKind.wrap .i64 (((k : Nat) : Int) + 1) = ((k + 1 : Nat) : Int) := by rw [IntKind.wrap_i64]; omega
      simp only [q2, hF, if_true]
      refine ⟨⟨by omega, by omega, by rw [ims_length]; omega⟩, q1, vI, fun hne => ?_, fun h0 => ?_⟩
      · have h0 : ml[k].valid most ≠ 0 := by simpa using hne
        rw [if_neg h0] at k2
        rw [← k2, if_neg h0]
        exact ⟨rfl, rfl⟩
      · have h0 : ml[k].valid most = 0 := by simpa using h0
        rw [if_pos h0] at k2
        exact ⟨k + 1, ⟨by omega, by rw [← k2]; rfl⟩, by omega, w1⟩
    · obtain ⟨k1, k2⟩ := hk
      have hk : k = ml.length := by omega
      subst hk
      rw [List.drop_length] at k2
      simp only [imsE] at k2
      have hF : FE = 0 := by simpa using he
      simp only [hF, if_true, ← k2]
      exact ⟨hop, trivial, trivial⟩

end Go.Proofs.YthlmmlcdoiahkaaDoor

/-
  The law's sanity check; scripts as one thing.
-/
namespace Go.Proofs.YthlmmlcdoiahkaaDoor
open Go.RowKit
set_option linter.unusedVariables false
set_option linter.unusedSimpArgs false
attribute [local irreducible] Ans AnsO AnsG AnsN AnsI

set_option maxRecDepth 4000
def scrR (s : Scr) : RV := RV.agg [DV.int .i64 s.bits, DV.int .i64 s.c.a, DV.int .i64 s.c.b, DV.int .i64 s.c.c, DV.int .i64 s.c.d, DV.int .i64 s.tw, DV.int .i64 s.th, DV.sl s.ord.length (is s.ord), DV.sl s.ims.length (ims s.ims), DV.sl s.ops.length (ops s.ops)]
def eR (p : Int × Int) : RV := RV.tup [RV.d (DV.int .i64 p.1), RV.d (DV.int .i64 p.2)]
theorem scr_eta (s : Scr) : (⟨s.bits, ⟨s.c.a, s.c.b, s.c.c, s.c.d⟩, s.tw, s.th, ints (is s.ord), toIms (ims s.ims), toOps (ops s.ops)⟩ : Scr) = s := by
  rw [ints_is, toIms_ims, toOps_ops]
theorem isI_is {n : Nat} {l : List Int} (h : n = l.length) : is l = is (ints (is l)) ∧ n = (is l).length := ⟨by rw [ints_is], by rw [is_length]; exact h⟩
theorem scr_opsE (s : Scr) : opsE s.bits ⟨s.c.a, s.c.b, s.c.c, s.c.d⟩ s.tw s.th (ints (is s.ord)) s.ims.length (toOps (ops s.ops)) = s.run := by
  rw [ints_is, toOps_ops]; rfl
theorem validate_Check_scr (s : Scr) (h : ∀ m ∈ s.ims, m.isU) : Ans Tryd.prog 12 [scrR s] (eR (checkE s)) := by
  have := validate_Check_ans s.bits s.c.a s.c.b s.c.c s.c.d s.tw s.th s.ord.length (is s.ord) s.ims.length (ims s.ims) s.ops.length (ops s.ops) (isOps_ops rfl) (isI_is rfl) (isIms_ims rfl h)
  rw [scr_eta] at this
  exact this
theorem validate_Ops_scr (s : Scr) : Ans Tryd.prog 13 [scrR s] (eR s.run) := by
  have := validate_Ops_ans s.bits s.c.a s.c.b s.c.c s.c.d s.tw s.th s.ord.length (is s.ord) s.ims.length (ims s.ims) s.ops.length (ops s.ops) (isOps_ops rfl) (isI_is rfl)
  rw [scr_opsE] at this
  exact this
def gamVg : Gam where
 pure := fun f xs =>
  if f = 12 then (match xs with | [.agg [.int _ bits, .int _ cx0, .int _ cy0, .int _ cx1, .int _ cy1, .int _ tw, .int _ th, .sl on oxs, .sl mn mxs, .sl pn pxs]] => some (RV.tup [RV.d (DV.int .i64 ((checkE ⟨bits, ⟨cx0, cy0, cx1, cy1⟩, tw, th, ints oxs, toIms mxs, toOps pxs⟩).1)), RV.d (DV.int .i64 ((checkE ⟨bits, ⟨cx0, cy0, cx1, cy1⟩, tw, th, ints oxs, toIms mxs, toOps pxs⟩).2))]) | _ => none) else
  if f = 13 then (match xs with | [.agg [.int _ bits, .int _ cx0, .int _ cy0, .int _ cx1, .int _ cy1, .int _ tw, .int _ th, .sl on oxs, .sl mn mxs, .sl pn pxs]] => some (RV.tup [RV.d (DV.int .i64 ((opsE bits ⟨cx0, cy0, cx1, cy1⟩ tw th (ints oxs) mn (toOps pxs)).1)), RV.d (DV.int .i64 ((opsE bits ⟨cx0, cy0, cx1, cy1⟩ tw th (ints oxs) mn (toOps pxs)).2))]) | _ => none) else
  if f = 15 then (match xs with | [.agg [.int _ bits, .int _ cx0, .int _ cy0, .int _ cx1, .int _ cy1, .int _ tw, .int _ th, .sl on oxs, .sl mn mxs, .sl pn pxs]] => some (RV.d (DV.int .i64 (frameE bits ⟨cx0, cy0, cx1, cy1⟩ tw th (ints oxs) mn pn))) | _ => none) else
  none
 modes := fun f =>
  none
 proc := fun f xs bs =>
  none
 iter := fun f cs =>
  none

def L20_awake_ann : Ann := Ann.leaf
theorem L20_awake_vc : vcg Tryd.prog gamVg 49 (bodyOf Tryd.f14) (L20_awake_ann ) kn0 (start []) (post Tryd.prog Tryd.f14.results.toList (· = RV.d (DV.bool true))) =
  (True ∧ True ∧ True ∧ True ∧ True ∧ True ∧ (Ans Tryd.prog 12 [RV.agg [DV.int .i64 8, DV.int .i64 0, DV.int .i64 0, DV.int .i64 1, DV.int .i64 1, DV.int .i64 1, DV.int .i64 1, DV.sl 0 ([]), DV.sl 0 ([]), DV.sl 0 ([])]] (RV.tup [RV.d (DV.int .i64 ((checkE ⟨(8 : Int), ⟨(0 : Int), (0 : Int), (1 : Int), (1 : Int)⟩, (1 : Int), (1 : Int), ints ([]), toIms ([]), toOps ([])⟩).1)), RV.d (DV.int .i64 ((checkE ⟨(8 : Int), ⟨(0 : Int), (0 : Int), (1 : Int), (1 : Int)⟩, (1 : Int), (1 : Int), ints ([]), toIms ([]), toOps ([])⟩).2))])) ∧ True ∧ True ∧ True ∧ True ∧ True ∧ True ∧ True ∧ True ∧ True ∧ True ∧ (Ans Tryd.prog 12 [RV.agg [DV.int .i64 8, DV.int .i64 0, DV.int .i64 0, DV.int .i64 1, DV.int .i64 1, DV.int .i64 1, DV.int .i64 1, DV.sl 0 ([]), DV.sl 0 ([]), DV.sl 1 ([DV.int .i64 3, DV.int .i64 0, DV.int .i64 0, DV.int .i64 0, DV.int .i64 0, DV.int .i64 0, DV.int .i64 0, DV.int .u16 0, DV.int .i64 0, DV.int .i64 0, DV.bool false, DV.bool false])]] (RV.tup [RV.d (DV.int .i64 ((checkE ⟨(8 : Int), ⟨(0 : Int), (0 : Int), (1 : Int), (1 : Int)⟩, (1 : Int), (1 : Int), ints ([]), toIms ([]), toOps ([DV.int .i64 3, DV.int .i64 0, DV.int .i64 0, DV.int .i64 0, DV.int .i64 0, DV.int .i64 0, DV.int .i64 0, DV.int .u16 0, DV.int .i64 0, DV.int .i64 0, DV.bool false, DV.bool false])⟩).1)), RV.d (DV.int .i64 ((checkE ⟨(8 : Int), ⟨(0 : Int), (0 : Int), (1 : Int), (1 : Int)⟩, (1 : Int), (1 : Int), ints ([]), toIms ([]), toOps ([DV.int .i64 3, DV.int .i64 0, DV.int .i64 0, DV.int .i64 0, DV.int .i64 0, DV.int .i64 0, DV.int .i64 0, DV.int .u16 0, DV.int .i64 0, DV.int .i64 0, DV.bool false, DV.bool false])⟩).2))])) ∧ True ∧ True ∧ True ∧ True ∧ True ∧ True ∧ True ∧ True ∧ True ∧ True ∧ (Ans Tryd.prog 13 [RV.agg [DV.int .i64 8, DV.int .i64 0, DV.int .i64 0, DV.int .i64 1, DV.int .i64 1, DV.int .i64 1, DV.int .i64 1, DV.sl 0 ([]), DV.sl 0 ([]), DV.sl 1 ([DV.int .i64 2, DV.int .i64 0, DV.int .i64 0, DV.int .i64 0, DV.int .i64 0, DV.int .i64 0, DV.int .i64 0, DV.int .u16 0, DV.int .i64 4, DV.int .i64 1, DV.bool false, DV.bool false])]] (RV.tup [RV.d (DV.int .i64 ((opsE (8 : Int) ⟨(0 : Int), (0 : Int), (1 : Int), (1 : Int)⟩ (1 : Int) (1 : Int) (ints ([])) 0 (toOps ([DV.int .i64 2, DV.int .i64 0, DV.int .i64 0, DV.int .i64 0, DV.int .i64 0, DV.int .i64 0, DV.int .i64 0, DV.int .u16 0, DV.int .i64 4, DV.int .i64 1, DV.bool false, DV.bool false]))).1)), RV.d (DV.int .i64 ((opsE (8 : Int) ⟨(0 : Int), (0 : Int), (1 : Int), (1 : Int)⟩ (1 : Int) (1 : Int) (ints ([])) 0 (toOps ([DV.int .i64 2, DV.int .i64 0, DV.int .i64 0, DV.int .i64 0, DV.int .i64 0, DV.int .i64 0, DV.int .i64 0, DV.int .u16 0, DV.int .i64 4, DV.int .i64 1, DV.bool false, DV.bool false]))).2))])) ∧ True ∧ True ∧ True ∧ True ∧ True ∧ True ∧ True ∧ True ∧ (((((checkE ⟨(8 : Int), ⟨(0 : Int), (0 : Int), (1 : Int), (1 : Int)⟩, (1 : Int), (1 : Int), ints ([]), toIms ([]), toOps ([])⟩).1) == (0 : Int)) = true → True ∧ True ∧ True ∧ True ∧ (((((checkE ⟨(8 : Int), ⟨(0 : Int), (0 : Int), (1 : Int), (1 : Int)⟩, (1 : Int), (1 : Int), ints ([]), toIms ([]), toOps ([DV.int .i64 3, DV.int .i64 0, DV.int .i64 0, DV.int .i64 0, DV.int .i64 0, DV.int .i64 0, DV.int .i64 0, DV.int .u16 0, DV.int .i64 0, DV.int .i64 0, DV.bool false, DV.bool false])⟩).1) == (18 : Int)) = true → True ∧ True ∧ True ∧ True ∧ (((((checkE ⟨(8 : Int), ⟨(0 : Int), (0 : Int), (1 : Int), (1 : Int)⟩, (1 : Int), (1 : Int), ints ([]), toIms ([]), toOps ([DV.int .i64 3, DV.int .i64 0, DV.int .i64 0, DV.int .i64 0, DV.int .i64 0, DV.int .i64 0, DV.int .i64 0, DV.int .u16 0, DV.int .i64 0, DV.int .i64 0, DV.bool false, DV.bool false])⟩).2) == (0 : Int)) = true → True ∧ True ∧ True ∧ True ∧ (((((opsE (8 : Int) ⟨(0 : Int), (0 : Int), (1 : Int), (1 : Int)⟩ (1 : Int) (1 : Int) (ints ([])) 0 (toOps ([DV.int .i64 2, DV.int .i64 0, DV.int .i64 0, DV.int .i64 0, DV.int .i64 0, DV.int .i64 0, DV.int .i64 0, DV.int .u16 0, DV.int .i64 4, DV.int .i64 1, DV.bool false, DV.bool false]))).1) == (18 : Int)) = true → True ∧ True ∧ True ∧ True ∧ RV.d (DV.bool (((opsE (8 : Int) ⟨(0 : Int), (0 : Int), (1 : Int), (1 : Int)⟩ (1 : Int) (1 : Int) (ints ([])) 0 (toOps ([DV.int .i64 2, DV.int .i64 0, DV.int .i64 0, DV.int .i64 0, DV.int .i64 0, DV.int .i64 0, DV.int .i64 0, DV.int .u16 0, DV.int .i64 4, DV.int .i64 1, DV.bool false, DV.bool false]))).2) == (1 : Int))) = RV.d (DV.bool true)) ∧ ((((opsE (8 : Int) ⟨(0 : Int), (0 : Int), (1 : Int), (1 : Int)⟩ (1 : Int) (1 : Int) (ints ([])) 0 (toOps ([DV.int .i64 2, DV.int .i64 0, DV.int .i64 0, DV.int .i64 0, DV.int .i64 0, DV.int .i64 0, DV.int .i64 0, DV.int .u16 0, DV.int .i64 4, DV.int .i64 1, DV.bool false, DV.bool false]))).1) == (18 : Int)) = (!true) → True ∧ True ∧ RV.d (DV.bool false) = RV.d (DV.bool true)))) ∧ ((((checkE ⟨(8 : Int), ⟨(0 : Int), (0 : Int), (1 : Int), (1 : Int)⟩, (1 : Int), (1 : Int), ints ([]), toIms ([]), toOps ([DV.int .i64 3, DV.int .i64 0, DV.int .i64 0, DV.int .i64 0, DV.int .i64 0, DV.int .i64 0, DV.int .i64 0, DV.int .u16 0, DV.int .i64 0, DV.int .i64 0, DV.bool false, DV.bool false])⟩).2) == (0 : Int)) = (!true) → True ∧ True ∧ True ∧ True ∧ RV.d (DV.bool false) = RV.d (DV.bool true)))) ∧ ((((checkE ⟨(8 : Int), ⟨(0 : Int), (0 : Int), (1 : Int), (1 : Int)⟩, (1 : Int), (1 : Int), ints ([]), toIms ([]), toOps ([DV.int .i64 3, DV.int .i64 0, DV.int .i64 0, DV.int .i64 0, DV.int .i64 0, DV.int .i64 0, DV.int .i64 0, DV.int .u16 0, DV.int .i64 0, DV.int .i64 0, DV.bool false, DV.bool false])⟩).1) == (18 : Int)) = (!true) → True ∧ True ∧ True ∧ True ∧ True ∧ True ∧ RV.d (DV.bool false) = RV.d (DV.bool true)))) ∧ ((((checkE ⟨(8 : Int), ⟨(0 : Int), (0 : Int), (1 : Int), (1 : Int)⟩, (1 : Int), (1 : Int), ints ([]), toIms ([]), toOps ([])⟩).1) == (0 : Int)) = (!true) → True ∧ True ∧ True ∧ True ∧ True ∧ True ∧ True ∧ True ∧ RV.d (DV.bool false) = RV.d (DV.bool true)))) := by kernel_rfl
theorem L20_awake_ans : Ans Tryd.prog 14 [] (RV.d (DV.bool true)) :=
  ans_of_vcg (Γ := gamVg) (L20_awake_ann ) mixed_ Tryd.func14 rfl (Nat.le_of_ble_eq_true rfl) fun hwf => by
    refine Eq.mpr (L20_awake_vc ) ?_
    simp only [true_and, and_true, RV.d.injEq, RV.agg.injEq, RV.tup.injEq, DV.bool.injEq, DV.int.injEq, DV.sl.injEq, List.cons.injEq, forall_const, Bool.not_false, Bool.not_true, Bool.not_eq_true', Bool.not_eq_false', decide_eq_true_eq, decide_eq_false_iff_not, Int.toNat_natCast]
    have e1 : checkE ⟨8, ⟨0, 0, 1, 1⟩, 1, 1, ints [], toIms [], toOps []⟩ = (0, 0) := by decide +kernel
    have e2 : checkE ⟨8, ⟨0, 0, 1, 1⟩, 1, 1, ints [], toIms [], toOps [DV.int .i64 3, DV.int .i64 0, DV.int .i64 0, DV.int .i64 0, DV.int .i64 0, DV.int .i64 0, DV.int .i64 0, DV.int .u16 0, DV.int .i64 0, DV.int .i64 0, DV.bool false, DV.bool false]⟩ = (18, 0) := by decide +kernel
    have e3 : opsE 8 ⟨0, 0, 1, 1⟩ 1 1 (ints []) 0 (toOps [DV.int .i64 2, DV.int .i64 0, DV.int .i64 0, DV.int .i64 0, DV.int .i64 0, DV.int .i64 0, DV.int .i64 0, DV.int .u16 0, DV.int .i64 4, DV.int .i64 1, DV.bool false, DV.bool false]) = (18, 1) := by decide +kernel
    have a1 := validate_Check_scr ⟨8, ⟨0, 0, 1, 1⟩, 1, 1, [], [], []⟩ (by simp)
    have a2 := validate_Check_scr ⟨8, ⟨0, 0, 1, 1⟩, 1, 1, [], [], [popO]⟩ (by simp)
    have a3 := validate_Ops_scr ⟨8, ⟨0, 0, 1, 1⟩, 1, 1, [], [], [⟨2, 0, 0, 0, 0, 0, 0, 0, 4, 1, false, false⟩]⟩
    have b1 : checkE ⟨8, ⟨0, 0, 1, 1⟩, 1, 1, [], [], []⟩ = (0, 0) := e1
    have b2 : checkE ⟨8, ⟨0, 0, 1, 1⟩, 1, 1, [], [], [popO]⟩ = (18, 0) := by decide +kernel
    have b3 : Scr.run ⟨8, ⟨0, 0, 1, 1⟩, 1, 1, [], [], [⟨2, 0, 0, 0, 0, 0, 0, 0, 4, 1, false, false⟩]⟩ = (18, 1) := by decide +kernel
    rw [b1] at a1
    rw [b2] at a2
    rw [b3] at a3
    simp only [e1, e2, e3]
    exact ⟨a1, a2, a3, by decide⟩

end Go.Proofs.YthlmmlcdoiahkaaDoor

/-
  Frames in plain words: when there is an error.
-/
namespace Go.Proofs.YthlmmlcdoiahkaaDoor
open Go.RowKit
set_option linter.unusedVariables false
set_option linter.unusedSimpArgs false

theorem nearB_iff (v : Int) : nearB v = true ↔ -1048576 ≤ v ∧ v ≤ 1048576 := by simp [nearB]
end Go.Proofs.YthlmmlcdoiahkaaDoor

/-
  Made images are valid, in plain words.
-/
namespace Go.Proofs.YthlmmlcdoiahkaaDoor
open Go.RowKit
set_option linter.unusedVariables false
set_option linter.unusedSimpArgs false

end Go.Proofs.YthlmmlcdoiahkaaDoor

/-
  What the generator makes is a valid script: in plain words.
-/
namespace Go.Proofs.YthlmmlcdoiahkaaDoor
open Go.RowKit
set_option linter.unusedVariables false
set_option linter.unusedSimpArgs false

/-! ### lists of operations -/
/-! ### an operation of the generator -/
theorem Scn.ops_len (s : Scn) : s.ops.length ≤ 18 := by
  have := s.run_len (min s.rn 9)
  unfold Scn.ops
  simp; omega
/-! ### its images -/
end Go.Proofs.YthlmmlcdoiahkaaDoor

/-
  Rows of images and operations: writing an element, or a field of one.
-/
namespace Go.Proofs.YthlmmlcdoiahkaaDoor
open Go.RowKit
set_option linter.unusedVariables false
set_option linter.unusedSimpArgs false

section
variable {α : Type} {f : α → List DV} {m : Nat}
end
/-! ### images with longer rows -/
end Go.Proofs.YthlmmlcdoiahkaaDoor

/-
  A procedure that is handed data alone is a function of its data, if its caller gives up what it makes.
-/
namespace Go.Proofs.YthlmmlcdoiahkaaDoor
open Go.RowKit
set_option linter.unusedVariables false
set_option linter.unusedSimpArgs false

def Cl.thaw (bx : Nat → Bx) : Cl → Option DV
  | .d v => some v
  | .nil => some (.sl 0 [])
  | .ref b n => match inside (bx b) with
    | some xs => some (.sl n xs)
    | none => none
  | _ => none
def thaws (bx : Nat → Bx) : List Cl → Option (List DV)
  | [] => some []
  | c :: cs => match c.thaw bx, thaws bx cs with
    | some d, some ds => some (d :: ds)
    | _, _ => none
mutual
def AV.thaw (bx : Nat → Bx) : AV → Option RV
  | .one c => match c.thaw bx with
    | some d => some (.d d)
    | none => none
  | .agg cs => match thaws bx cs with
    | some ds => some (.agg ds)
    | none => none
  | .tup vs => match AV.thawL bx vs with
    | some rs => some (.tup rs)
    | none => none
def AV.thawL (bx : Nat → Bx) : List AV → Option (List RV)
  | [] => some []
  | x :: xs => match x.thaw bx, AV.thawL bx xs with
    | some r, some rs => some (r :: rs)
    | _, _ => none
end
section
variable {w : World} {V V' : Nat → Prop} {ι : Names} {bx : Nat → Bx}
theorem thaw_cl (hk : ∀ g, V g → V' g) (hb : ∀ b, RepBx w V ι bx b (bx b)) (ho : ∀ b g c, (bx b).live = true → ι b = some (g, c) → V' g) {c : Cl} {d : DV} {v : Value} (h : c.thaw bx = some d) (hr : RepCl w V ι bx c v) : RepD w V' d v := by
  have hkk : Keeps w V w V' := fun g off u hV hu => ⟨hk g hV, hu⟩
  cases c with
  | d x =>
    simp only [Cl.thaw, Option.some.injEq] at h
    subst h
    exact RepD.keep hkk hr
  | nil =>
    simp only [Cl.thaw, Option.some.injEq] at h
    subst h
    simp only [RepCl] at hr
    simp only [RepD]
    exact ⟨none, 0, hr, Nat.le_refl _, Nat.zero_le _, fun hne => absurd rfl hne⟩
  | ref b n =>
    simp only [Cl.thaw] at h
    split at h
    · rename_i xs hin
      simp only [Option.some.injEq] at h
      subst h
      simp only [RepCl] at hr
      have hbb := hb b
      cases hB : bx b with
      | row e size ys =>
        rw [hB] at hin hbb
        simp only [inside, Option.some.injEq] at hin
        subst hin
        obtain ⟨_, ⟨h1, h2, h3⟩ | ⟨g, cap, h1, h2, h3⟩⟩ := hr
        · rcases hbb with ⟨h4, h5⟩ | ⟨g, cap, cur, h4, _⟩
          · subst h5 h2
            simp only [RepD]
            exact ⟨none, 0, h3, Nat.le_refl _, Nat.zero_le _, fun hne => absurd rfl hne⟩
          · rw [h1] at h4; cases h4
        · rcases hbb with ⟨h4, h5⟩ | ⟨g', cap', cur, h4, h5, h6, h7, h8⟩
          · rw [h1] at h4; cases h4
          · rw [h1] at h4
            injection h4 with h4
            injection h4 with h4 h4'
            subst h4 h4'
            simp only [RepD]
            exact ⟨_, cap, h2, h3, h6, fun hne => ⟨g, 0, rfl, ho b g cap (by rw [hB]; rfl) h1, RepCells.of_row h5 (h8.keep hkk)⟩⟩
      | ice ys =>
        rw [hB] at hin hbb
        simp only [inside, Option.some.injEq] at hin
        subst hin
        obtain ⟨_, ⟨h1, h2, h3⟩ | ⟨g, cap, h1, h2, h3⟩⟩ := hr
        · rcases hbb with ⟨h4, h5⟩ | ⟨g, cap, h4, _⟩
          · subst h5 h2
            simp only [RepD]
            exact ⟨none, 0, h3, Nat.le_refl _, Nat.zero_le _, fun hne => absurd rfl hne⟩
          · rw [h1] at h4; cases h4
        · rcases hbb with ⟨h4, h5⟩ | ⟨g', cap', h4, h5, h6⟩
          · rw [h1] at h4; cases h4
          · rw [h1] at h4
            injection h4 with h4
            injection h4 with h4 h4'
            subst h4 h4'
            simp only [RepD]
            refine ⟨_, cap, h2, h3, h6, fun hne => ⟨g, 0, rfl, ?_⟩⟩
            have h9 := Lies.keep hkk h5
            exact h9 hne
      | fresh => rw [hB] at hin; cases hin
      | gone => rw [hB] at hin; cases hin
      | cells cs => rw [hB] at hin; cases hin
    · cases h
  | lit u => cases h
  | ptr b off => cases h
  | vp cs off => cases h
  | clo f cs => cases h
  | dead => cases h
theorem thaw_cls (hk : ∀ g, V g → V' g) (hb : ∀ b, RepBx w V ι bx b (bx b)) (ho : ∀ b g c, (bx b).live = true → ι b = some (g, c) → V' g) : ∀ {cs : List Cl} {ds : List DV} {vs : List Value}, thaws bx cs = some ds → RepCls w V ι bx cs vs → RepDs w V' ds vs
  | [], ds, vs, h, hr => by
    simp only [thaws, Option.some.injEq] at h
    subst h
    cases vs with
    | nil => trivial
    | cons _ _ => exact hr.elim
  | c :: cs, ds, vs, h, hr => by
    simp only [thaws] at h
    split at h
    · rename_i d ds' h1 h2
      simp only [Option.some.injEq] at h
      subst h
      cases vs with
      | nil => exact hr.elim
      | cons v vs => exact ⟨thaw_cl hk hb ho h1 hr.1, thaw_cls hk hb ho h2 hr.2⟩
    · cases h
mutual
theorem thaw_av (hk : ∀ g, V g → V' g) (hb : ∀ b, RepBx w V ι bx b (bx b)) (ho : ∀ b g c, (bx b).live = true → ι b = some (g, c) → V' g) : ∀ {x : AV} {r : RV} {v : Value}, x.thaw bx = some r → RepAV w V ι bx x v → RepR w V' r v
  | .one c, r, v, h, hr => by
    simp only [AV.thaw] at h
    split at h
    · rename_i d h1
      simp only [Option.some.injEq] at h
      subst h
      simp only [RepAV] at hr
      simp only [RepR]
      exact thaw_cl hk hb ho h1 hr
    · cases h
  | .agg cs, r, v, h, hr => by
    simp only [AV.thaw] at h
    split at h
    · rename_i d h1
      simp only [Option.some.injEq] at h
      subst h
      simp only [RepAV] at hr
      obtain ⟨cur, e, hr⟩ := hr
      simp only [RepR]
      exact ⟨cur, e, thaw_cls hk hb ho h1 hr⟩
    · cases h
  | .tup vs, r, v, h, hr => by
    simp only [AV.thaw] at h
    split at h
    · rename_i d h1
      simp only [Option.some.injEq] at h
      subst h
      simp only [RepAV] at hr
      obtain ⟨cur, e, hr⟩ := hr
      simp only [RepR]
      exact ⟨cur, e, thaw_avs hk hb ho h1 hr⟩
    · cases h
theorem thaw_avs (hk : ∀ g, V g → V' g) (hb : ∀ b, RepBx w V ι bx b (bx b)) (ho : ∀ b g c, (bx b).live = true → ι b = some (g, c) → V' g) : ∀ {xs : List AV} {rs : List RV} {vs : List Value}, AV.thawL bx xs = some rs → RepAVs w V ι bx xs vs → RepRs w V' rs vs
  | [], rs, vs, h, hr => by
    simp only [AV.thawL, Option.some.injEq] at h
    subst h
    cases vs with
    | nil => simp only [RepRs]
    | cons _ _ => simp only [RepAVs] at hr
  | x :: xs, rs, vs, h, hr => by
    simp only [AV.thawL] at h
    split at h
    · rename_i d ds' h1 h2
      simp only [Option.some.injEq] at h
      subst h
      cases vs with
      | nil => simp only [RepAVs] at hr
      | cons v vs =>
        simp only [RepAVs] at hr
        simp only [RepRs]
        exact ⟨thaw_av hk hb ho h1 hr.1, thaw_avs hk hb ho h2 hr.2⟩
    · cases h
end
end
theorem AnsG.ans {P : Program} {f : FuncId} {args : List AV} {rs : List RV} {r : Ret} {res : RV} (h : AnsG P f 0 args [] r) (ha : args = RV.avs rs) (hr : r.res.thaw (boxes r.outs) = some res) : Ans P f rs res := by
  subst ha
  intro w S vs hg hrep
  have hno : ∀ b, (boxes ([] : List Bx) b) = .fresh := fun b => by simp [boxes]
  have hnone : ∀ g, ¬ OwnB (boxes ([] : List Bx)) (fun _ => none) g := fun g ⟨b, c, hl, e⟩ => by rw [hno] at hl; cases hl
  have hh : Handed_ w S (fun _ => none) (RV.avs rs) [] vs.toList := by
    refine ⟨fun b g c hl e => ?_, fun b b' g c c' hl hl' hne e => ?_, fun b => ?_, rep_avs hrep⟩
    · rw [hno] at hl; cases hl
    · rw [hno] at hl; cases hl
    · rw [hno]; trivial
  refine (h w S _ vs hg hh).mono fun ed w' hp => ?_
  obtain ⟨v, ι', rfl, ha⟩ := hp
  refine ⟨v, rfl, thaw_av (fun g hV => ?_) ha.bx (fun b g c hl e => ?_) hr ha.rep, ha.bel.below hnone⟩
  · rcases hV.1 with ⟨_, h⟩ | h | h
    · exact .inl h
    · exact .inr h
    · exact absurd h (hnone g)
  · rcases (ha.own b g c hl e).1 with h | h
    · exact .inr h
    · exact absurd h (hnone g)
end Go.Proofs.YthlmmlcdoiahkaaDoor

/-
  What a law is handed, in plain words: scenes, lists of operations.
-/
namespace Go.Proofs.YthlmmlcdoiahkaaDoor
open Go.RowKit
set_option linter.unusedVariables false
set_option linter.unusedSimpArgs false

def Leaves (P : Program) (ls : List TypeId) (n : Nat) (xs : List DV) : Prop :=
  xs.length = n * ls.length ∧ ∀ (j : Nat) d, xs[j]? = some d → ∃ t', ls[j % ls.length]? = some t' ∧ ∃ q, LeafD P q t' d
theorem Leaves.at_ {P : Program} {ls : List TypeId} {n : Nat} {xs : List DV} (h : Leaves P ls n xs) {k r : Nat} {t : TypeId} (hk : k < n) (hr : ls[r]? = some t) : ∃ d q, xs[k * ls.length + r]? = some d ∧ LeafD P q t d := by
  obtain ⟨hn, hx⟩ := h
  have hr' : r < ls.length := (List.getElem?_eq_some_iff.1 hr).1
  have hle : (k + 1) * ls.length ≤ n * ls.length := Nat.mul_le_mul_right _ (by omega)
  rw [Nat.add_mul] at hle
  have hj : k * ls.length + r < xs.length := by omega
  obtain ⟨t', a, q, b⟩ := hx _ _ (List.getElem?_eq_getElem hj)
  rw [Nat.mul_comm k, Nat.mul_add_mod, Nat.mod_eq_of_lt hr', hr] at a
  injection a with a
  subst a
  exact ⟨_, q, List.getElem?_eq_getElem hj, b⟩
theorem Leaves.int {P : Program} {ls : List TypeId} {n : Nat} {xs : List DV} (h : Leaves P ls n xs) {k r : Nat} {t : TypeId} {kk : IntKind} (hk : k < n) (hr : ls[r]? = some t) (hu : P.underlying t = some (.int kk)) : xs[k * ls.length + r]? = some (.int kk (nAt xs (k * ls.length + r))) := by
  obtain ⟨d, q, e, b⟩ := h.at_ hk hr
  obtain ⟨v, rfl⟩ := b.int hu
  simp only [nAt, e]
theorem Leaves.bool {P : Program} {ls : List TypeId} {n : Nat} {xs : List DV} (h : Leaves P ls n xs) {k r : Nat} {t : TypeId} (hk : k < n) (hr : ls[r]? = some t) (hu : P.underlying t = some .bool) : xs[k * ls.length + r]? = some (.bool (bAt xs (k * ls.length + r))) := by
  obtain ⟨d, q, e, b⟩ := h.at_ hk hr
  obtain ⟨v, rfl⟩ := b.bool hu
  simp only [bAt, e]
theorem Leaves.sl {P : Program} {ls : List TypeId} {n : Nat} {xs : List DV} (h : Leaves P ls n xs) {k r : Nat} {t e : TypeId} {ms : List TypeId} (hk : k < n) (hr : ls[r]? = some t) (hu : P.underlying t = some (.slice e)) (hl : lv P e = some ms) :
    xs[k * ls.length + r]? = some (.sl (lAt xs (k * ls.length + r)) (cAt xs (k * ls.length + r))) ∧ Leaves P ms (lAt xs (k * ls.length + r)) (cAt xs (k * ls.length + r)) := by
  obtain ⟨d, q, e1, b⟩ := h.at_ hk hr
  obtain ⟨m, ys, rfl, _, h1, h2⟩ := b.slice hu hl
  simp only [lAt, cAt, e1]
  exact ⟨trivial, h1, h2⟩
theorem Leaves.ints {P : Program} {t : TypeId} {n : Nat} {xs : List DV} (h : Leaves P [t] n xs) (hu : P.underlying t = some (.int .i64)) : xs = is (ints xs) ∧ n = xs.length :=
  isI_of (by have := h.1; simpa using this) fun j d hj => by obtain ⟨t', a, q, b⟩ := h.2 j d hj; exact intLeaf1 hu a b
theorem Leaves.five {P : Program} {t : TypeId} {n : Nat} {xs : List DV} (h : Leaves P [t, t, t, t, t] n xs) (hu : P.underlying t = some (.int .i64)) : Is5 n xs :=
  is5_of h.1 fun j d hj => by obtain ⟨t', a, q, b⟩ := h.2 j d hj; exact intLeaf5 hu a b
theorem Leaves.pics {P : Program} {t ts e : TypeId} {n : Nat} {xs : List DV} (h : Leaves P [t, t, t, t, ts] n xs) (hu : P.underlying t = some (.int .i64)) (hs : P.underlying ts = some (.slice e)) (hl : lv P e = some [t, t, t, t, t]) : IsPics n xs :=
  ⟨h.1, fun k hk => ⟨h.int (r := 0) hk rfl hu, h.int (r := 1) hk rfl hu, h.int (r := 2) hk rfl hu, h.int (r := 3) hk rfl hu, (h.sl (r := 4) hk rfl hs hl).1, (h.sl (r := 4) hk rfl hs hl).2.five hu⟩⟩
theorem Leaves.raws {P : Program} {t : TypeId} {n : Nat} {xs : List DV} (h : Leaves P [t, t, t, t, t, t, t, t, t, t, t] n xs) (hu : P.underlying t = some (.int .i64)) : IsRws n xs := by
  refine ⟨h.1, fun i hi => ?_⟩
  have hr : [t, t, t, t, t, t, t, t, t, t, t][i % 11]? = some t := by
    have h2 : i % 11 < 11 := Nat.mod_lt _ (by omega)
    generalize i % 11 = r at *
    match r, h2 with
    | 0, _ | 1, _ | 2, _ | 3, _ | 4, _ | 5, _ | 6, _ | 7, _ | 8, _ | 9, _ | 10, _ => rfl
  have := h.int (k := i / 11) (r := i % 11) (by omega) hr hu
  have e : i / 11 * [t, t, t, t, t, t, t, t, t, t, t].length + i % 11 = i := by show i / 11 * 11 + i % 11 = i; omega
  rw [e] at this
  exact this
theorem blocks_eq {xs ys : List DV} {n m : Nat} (hx : xs.length = n * m) (hy : ys.length = n * m) (h : ∀ k, k < n → ∀ j, j < m → xs[k * m + j]? = ys[k * m + j]?) : xs = ys := by
  refine List.ext_getElem? fun i => ?_
  by_cases hi : i < n * m
  · have hm : 0 < m := by
      rcases Nat.eq_zero_or_pos m with h0 | h0
      · subst h0; simp at hi
      · exact h0
    have := h (i / m) (Nat.div_lt_of_lt_mul (by rw [Nat.mul_comm]; exact hi)) (i % m) (Nat.mod_lt _ hm)
    have e : i / m * m + i % m = i := by rw [Nat.mul_comm]; exact Nat.div_add_mod i m
    rw [e] at this
    exact this
  · rw [List.getElem?_eq_none (by omega), List.getElem?_eq_none (by omega)]
theorem Leaves.ops {P : Program} {t u b : TypeId} {n : Nat} {xs : List DV} (h : Leaves P [t, t, t, t, t, t, t, u, t, t, b, b] n xs) (ht : P.underlying t = some (.int .i64)) (hu : P.underlying u = some (.int .u16)) (hb : P.underlying b = some .bool) : IsOps n xs := by
  have hl : xs.length = n * 12 := h.1
  have hn : (toOps xs).length = n := by unfold toOps; rw [List.length_map, List.length_range, hl]; omega
  refine ⟨blocks_eq hl (by rw [ops_length, hn]) fun k hk j hj => ?_, hn.symm⟩
  have e : (toOps xs)[k]'(by omega) = oqAt xs (k * 12) := by simp [toOps]
  rw [ops_get (by omega) j hj, e]
  have key := fun r (hr : r < 12) => h.at_ (k := k) (r := r) (t := [t, t, t, t, t, t, t, u, t, t, b, b][r]) hk (List.getElem?_eq_getElem hr)
  match j, hj with
  | 0, _ => exact h.int (r := 0) hk rfl ht
  | 1, _ => exact h.int (r := 1) hk rfl ht
  | 2, _ => exact h.int (r := 2) hk rfl ht
  | 3, _ => exact h.int (r := 3) hk rfl ht
  | 4, _ => exact h.int (r := 4) hk rfl ht
  | 5, _ => exact h.int (r := 5) hk rfl ht
  | 6, _ => exact h.int (r := 6) hk rfl ht
  | 7, _ => exact h.int (r := 7) hk rfl hu
  | 8, _ => exact h.int (r := 8) hk rfl ht
  | 9, _ => exact h.int (r := 9) hk rfl ht
  | 10, _ => exact h.bool (r := 10) hk rfl hb
  | 11, _ => exact h.bool (r := 11) hk rfl hb
def IsBs (n : Nat) (xs : List DV) : Prop := xs.length = n ∧ ∀ i, i < n → xs[i]? = some (.bool (bAt xs i))
theorem Leaves.bools {P : Program} {b : TypeId} {n : Nat} {xs : List DV} (h : Leaves P [b] n xs) (hb : P.underlying b = some .bool) : IsBs n xs :=
  ⟨by have := h.1; simpa using this, fun i hi => by
    have := h.bool (k := i) (r := 0) hi rfl hb
    simpa using this⟩
end Go.Proofs.YthlmmlcdoiahkaaDoor

/-
  ValidateContexts answers true, whatever it is handed.
-/
namespace Go.Proofs.YthlmmlcdoiahkaaDoor
open Go.RowKit
set_option linter.unusedVariables false
set_option linter.unusedSimpArgs false
attribute [local irreducible] Ans AnsO AnsG AnsN AnsI

set_option maxRecDepth 4000
theorem G_Script_dat (s : Scn) (hs : s.ok) : Ans Tryd.prog 10 [RV.agg [DV.int .i64 s.b, DV.int .i64 s.x, DV.int .i64 s.y, DV.int .i64 s.w, DV.int .i64 s.h, DV.int .i64 s.tw, DV.int .i64 s.th, DV.sl s.on s.oxs, DV.sl s.pn s.pxs, DV.sl s.rn s.rxs]] (RV.agg [DV.int .i64 s.bits, DV.int .i64 s.c.a, DV.int .i64 s.c.b, DV.int .i64 s.c.c, DV.int .i64 s.c.d, DV.int .i64 s.gtw, DV.int .i64 s.gth, DV.sl s.ord.length (is s.ord), DV.sl s.ims.length (ims s.ims), DV.sl s.ops.length (ops s.ops)]) := AnsG.ans (G_Script_ans s hs) rfl rfl
def openO (xs : List DV) (j : Nat) : Oq := ⟨2, 0, 0, 0, 0, 0, 0, 0, 0, 0, bAt xs (2 * j), bAt xs (2 * j + 1)⟩
def openL (xs : List DV) (k : Nat) : List Oq := (List.range k).map (openO xs)
theorem openL_len (xs : List DV) (k : Nat) : (openL xs k).length = k := by simp [openL]
theorem openL_succ (xs : List DV) (k : Nat) : openL xs (k + 1) = openL xs k ++ [openO xs k] := by simp [openL, List.range_succ]
def ctxO (push : Bool) (oper : Int) : Oq := ⟨if push then 2 else 1, 0, 0, 0, 0, 0, 0, 0, 1 + modS oper 12, 1, false, false⟩
theorem mostS_pos (bits : Int) : 0 ≤ mostS bits := by
  unfold mostS
  split
  · decide
  · split <;> decide
theorem errO_ctx {bits : Int} {mn : Nat} {st : List Oq} {push : Bool} {oper : Int} (hm : 1 ≤ mn) (hl : st.length < 64) : errO bits mn (ctxO push oper) st = if ctxB st = true ∨ 1 + modS oper 12 = 4 then 0 else 16 := by
  have h3 := mostS_pos bits
  have h4 := @modS_in oper 12 (by omega) (by omega)
  unfold errO
  rw [if_neg (by cases push <;> simp [ctxO]), if_neg (by cases push <;> simp [ctxO, Oq.fields]), if_neg (by cases push <;> simp [ctxO]), if_neg (by cases push <;> simp [ctxO]; omega), if_neg (by simp [ctxO, nearB_iff]), if_neg (by simp [ctxO]; omega), if_neg (by simp [ctxO]; omega), if_neg (by simp [ctxO])]
  have e : (ctxO push oper).oper = 1 + modS oper 12 := rfl
  rw [e, if_neg (show ¬ ((ctxO push oper).kind = 2 ∧ 64 ≤ st.length) by omega)]
  cases hc : ctxB st <;> by_cases h : 1 + modS oper 12 = 4 <;> simp [h]
def gamValidateContexts : Gam where
 pure := fun f xs =>
  if f = 10 then (match xs with | [.agg [.int _ sb, .int _ sx, .int _ sy, .int _ sw, .int _ sh, .int _ stw, .int _ sth, .sl son soxs, .sl spn spxs, .sl srn srxs]] => some (RV.agg [DV.int .i64 (((⟨sb, sx, sy, sw, sh, stw, sth, son, soxs, spn, spxs, srn, srxs⟩ : Scn)).bits), DV.int .i64 (((⟨sb, sx, sy, sw, sh, stw, sth, son, soxs, spn, spxs, srn, srxs⟩ : Scn)).c.a), DV.int .i64 (((⟨sb, sx, sy, sw, sh, stw, sth, son, soxs, spn, spxs, srn, srxs⟩ : Scn)).c.b), DV.int .i64 (((⟨sb, sx, sy, sw, sh, stw, sth, son, soxs, spn, spxs, srn, srxs⟩ : Scn)).c.c), DV.int .i64 (((⟨sb, sx, sy, sw, sh, stw, sth, son, soxs, spn, spxs, srn, srxs⟩ : Scn)).c.d), DV.int .i64 (((⟨sb, sx, sy, sw, sh, stw, sth, son, soxs, spn, spxs, srn, srxs⟩ : Scn)).gtw), DV.int .i64 (((⟨sb, sx, sy, sw, sh, stw, sth, son, soxs, spn, spxs, srn, srxs⟩ : Scn)).gth), DV.sl (((⟨sb, sx, sy, sw, sh, stw, sth, son, soxs, spn, spxs, srn, srxs⟩ : Scn)).ord.length) (is ((⟨sb, sx, sy, sw, sh, stw, sth, son, soxs, spn, spxs, srn, srxs⟩ : Scn)).ord), DV.sl (((⟨sb, sx, sy, sw, sh, stw, sth, son, soxs, spn, spxs, srn, srxs⟩ : Scn)).ims.length) (ims ((⟨sb, sx, sy, sw, sh, stw, sth, son, soxs, spn, spxs, srn, srxs⟩ : Scn)).ims), DV.sl (((⟨sb, sx, sy, sw, sh, stw, sth, son, soxs, spn, spxs, srn, srxs⟩ : Scn)).ops.length) (ops ((⟨sb, sx, sy, sw, sh, stw, sth, son, soxs, spn, spxs, srn, srxs⟩ : Scn)).ops)]) | _ => none) else
  if f = 20 then (match xs with | [.d (.int _ n), .d (.int _ k)] => some (RV.d (DV.int .i64 (modS n k))) | _ => none) else
  if f = 21 then (match xs with | [.agg [.int _ bits, .int _ cx0, .int _ cy0, .int _ cx1, .int _ cy1, .int _ tw, .int _ th, .sl on oxs, .sl mn mxs, .sl pn pxs], .d (.int _ at_), .d (.sl n xs)] => some (RV.d (DV.int .i64 (opErr bits mn (toOps pxs) at_ (toOps xs)))) | _ => none) else
  if f = 14 then (match xs with | [] => some (RV.d (DV.bool true)) | _ => none) else
  if f = 14 then (match xs with | [] => some (RV.d (DV.bool true)) | _ => none) else
  none
 modes := fun f =>
  none
 proc := fun f xs bs =>
  none
 iter := fun f cs =>
  none

def L20_ValidateContexts_ann (s : Scn) (oper : Int) (fn_ : Nat) (fxs : List DV) (push : Bool) : Ann := let zz0 := (2, AV.one (Cl.d (DV.sl fn_ fxs))); let zz1 := (DV.sl ((s).ord.length) (is (s).ord)); let zz2 := (DV.sl ((s).ims.length) (ims (s).ims)); let zz3 := (10, Bx.cells [Cl.d (DV.int .i64 ((ctxO push oper).kind)), Cl.d (DV.int .i64 ((ctxO push oper).image)), Cl.d (DV.int .i64 ((ctxO push oper).x)), Cl.d (DV.int .i64 ((ctxO push oper).y)), Cl.d (DV.int .i64 ((ctxO push oper).mask)), Cl.d (DV.int .i64 ((ctxO push oper).mx)), Cl.d (DV.int .i64 ((ctxO push oper).my)), Cl.d (DV.int .u16 ((ctxO push oper).opac)), Cl.d (DV.int .i64 ((ctxO push oper).oper)), Cl.d (DV.int .i64 ((ctxO push oper).mode)), Cl.d (DV.bool ((ctxO push oper).iso)), Cl.d (DV.bool ((ctxO push oper).kno))]); let zz4 := fun (K : Nat) => (11, AV.one (Cl.ref 7003 K)); let zz5 := (9, Bx.cells [Cl.d (DV.int .i64 ((s).bits)), Cl.d (DV.int .i64 ((s).c.a)), Cl.d (DV.int .i64 ((s).c.b)), Cl.d (DV.int .i64 ((s).c.c)), Cl.d (DV.int .i64 ((s).c.d)), Cl.d (DV.int .i64 ((s).gtw)), Cl.d (DV.int .i64 ((s).gth)), Cl.d zz1, Cl.d zz2, Cl.ref 28 (((s).ops.length) + 1)]); let zz6 := (28, Bx.row 54 12 ((ops (s).ops) ++ ([DV.int .i64 ((ctxO push oper).kind), DV.int .i64 ((ctxO push oper).image), DV.int .i64 ((ctxO push oper).x), DV.int .i64 ((ctxO push oper).y), DV.int .i64 ((ctxO push oper).mask), DV.int .i64 ((ctxO push oper).mx), DV.int .i64 ((ctxO push oper).my), DV.int .u16 ((ctxO push oper).opac), DV.int .i64 ((ctxO push oper).oper), DV.int .i64 ((ctxO push oper).mode), DV.bool ((ctxO push oper).iso), DV.bool ((ctxO push oper).kno)]))); let zz7 := fun (K : Nat) => [zz5, zz3, (7003, Bx.row 54 12 (ops (openL fxs K))), zz6]; (Ann.seq Ann.leaf (Ann.seq Ann.leaf (Ann.seq Ann.leaf (Ann.cut ⟨Unit, fun u1 : Unit => True, fun u1 : Unit => ⟨[zz0, (9, AV.one (Cl.ptr 9 0)), (10, AV.one (Cl.ptr 10 0))], [(9, Bx.cells [Cl.d (DV.int .i64 ((s).bits)), Cl.d (DV.int .i64 ((s).c.a)), Cl.d (DV.int .i64 ((s).c.b)), Cl.d (DV.int .i64 ((s).c.c)), Cl.d (DV.int .i64 ((s).c.d)), Cl.d (DV.int .i64 ((s).gtw)), Cl.d (DV.int .i64 ((s).gth)), Cl.d zz1, Cl.d zz2, Cl.d (DV.sl ((s).ops.length) (ops (s).ops))]), zz3]⟩, fun u1 : Unit => 0⟩ Ann.leaf fun u1 => (Ann.seq Ann.leaf (Ann.seq Ann.leaf (Ann.cut ⟨Nat, fun K => K ≤ 10, fun K => ⟨[(9, AV.one (Cl.ptr 9 0)), (10, AV.one (Cl.ptr 10 0)), (zz4 K)], (zz7 K)⟩, fun K => 0⟩ (Ann.seq Ann.leaf (Ann.loop ⟨Nat, fun k => k ≤ 10, fun k => ⟨[zz0, (9, AV.one (Cl.ptr 9 0)), (10, AV.one (Cl.ptr 10 0)), (11, AV.one (Cl.ref 7003 k)), (12, AV.one (Cl.d (DV.int .i64 ((2 * k : Nat) : Int))))], [zz5, zz3, (7003, Bx.row 54 12 (ops (openL fxs k))), zz6]⟩, fun k => 10 - k⟩ fun k => Ann.leaf)) fun K => (Ann.cut ⟨Bool, fun fr : Bool => fr = ctxB (openL fxs K), fun fr : Bool => ⟨[(9, AV.one (Cl.ptr 9 0)), (10, AV.one (Cl.ptr 10 0)), (zz4 K), (13, AV.one (Cl.d (DV.bool fr)))], (zz7 K)⟩, fun fr : Bool => 0⟩ Ann.leaf fun fr => Ann.leaf))))))))
theorem L20_ValidateContexts_vc (s : Scn) (oper : Int) (fn_ : Nat) (fxs : List DV) (push : Bool) : vcg Tryd.prog gamValidateContexts 99 (bodyOf Tryd.f6) (L20_ValidateContexts_ann s oper fn_ fxs push) kn0 (start [RV.agg [DV.int .i64 s.b, DV.int .i64 s.x, DV.int .i64 s.y, DV.int .i64 s.w, DV.int .i64 s.h, DV.int .i64 s.tw, DV.int .i64 s.th, DV.sl s.on s.oxs, DV.sl s.pn s.pxs, DV.sl s.rn s.rxs], RV.d (DV.int .i64 oper), RV.d (DV.sl fn_ fxs), RV.d (DV.bool push)]) (post Tryd.prog Tryd.f6.results.toList (· = RV.d (DV.bool true))) =
  (let zz0 := [DV.int .i64 ((s).bits), DV.int .i64 ((s).c.a), DV.int .i64 ((s).c.b), DV.int .i64 ((s).c.c), DV.int .i64 ((s).c.d), DV.int .i64 ((s).gtw), DV.int .i64 ((s).gth), DV.sl ((s).ord.length) (is (s).ord), DV.sl ((s).ims.length) (ims (s).ims), DV.sl ((s).ops.length) (ops (s).ops)]; let zz1 := (DV.sl fn_ fxs = DV.sl fn_ fxs); let zz2 := (zz1 ∧ (0 = 0) ∧ (0 = 0) ∧ True); let zz3 := (zz0 = zz0); let zz4 := (IntKind.wrap .i64 ((1 : Int) + (modS oper (12 : Int)))); let zz5 := ((DV.int .i64 ((s).bits) = DV.int .i64 ((s).bits)) ∧ (DV.int .i64 ((s).c.a) = DV.int .i64 ((s).c.a)) ∧ (DV.int .i64 ((s).c.b) = DV.int .i64 ((s).c.b)) ∧ (DV.int .i64 ((s).c.c) = DV.int .i64 ((s).c.c)) ∧ (DV.int .i64 ((s).c.d) = DV.int .i64 ((s).c.d)) ∧ (DV.int .i64 ((s).gtw) = DV.int .i64 ((s).gtw)) ∧ (DV.int .i64 ((s).gth) = DV.int .i64 ((s).gth)) ∧ (DV.sl ((s).ord.length) (is (s).ord) = DV.sl ((s).ord.length) (is (s).ord)) ∧ (DV.sl ((s).ims.length) (ims (s).ims) = DV.sl ((s).ims.length) (ims (s).ims)) ∧ (((s).ops.length) + 1 = ((s).ops.length) + 1) ∧ True); let zz6 := ((Oq.cells (ctxO push oper)) = (Oq.cells (ctxO push oper))); let zz7 := ((ops (s).ops) ++ ((Oq.cells (ctxO push oper))) = (ops (s).ops) ++ ((Oq.cells (ctxO push oper)))); let zz8 := fun (k : Nat) => fun (K : Nat) => (((0 = 0) ∧ (0 = 0) ∧ (k = K) ∧ True) ∧ (zz5 ∧ zz6 ∧ (ops (openL fxs k) = ops (openL fxs K)) ∧ zz7 ∧ True)); let zz9 := fun (K : Nat) => (0 ≤ IntKind.wrap .i64 (((K : Nat) : Int) - (1 : Int)) ∧ IntKind.wrap .i64 (((K : Nat) : Int) - (1 : Int)) < ((K : Nat) : Int)); let zz10 := fun (K : Nat) => (zz5 ∧ zz6 ∧ (ops (openL fxs K) = ops (openL fxs K)) ∧ zz7 ∧ True); let zz11 := (Ans Tryd.prog 14 [] (RV.d (DV.bool true))); let zz12 := (true = (!true) → True ∧ True ∧ RV.d (DV.bool false) = RV.d (DV.bool true)); let zz13 := fun (K : Nat) => ((true = true → True ∧ True ∧ True ∧ True ∧ RV.d (DV.bool ((opErr ((s).bits) ((s).ims.length) (toOps ((ops (s).ops) ++ ((Oq.cells (ctxO push oper))))) (IntKind.wrap .i64 (((((s).ops.length) + 1 : Nat) : Int) - (1 : Int))) (toOps (ops (openL fxs K)))) == (0 : Int))) = RV.d (DV.bool true)) ∧ zz12); True ∧ True ∧ True ∧ (Ans Tryd.prog 10 [RV.agg [DV.int .i64 s.b, DV.int .i64 s.x, DV.int .i64 s.y, DV.int .i64 s.w, DV.int .i64 s.h, DV.int .i64 s.tw, DV.int .i64 s.th, DV.sl s.on s.oxs, DV.sl s.pn s.pxs, DV.sl s.rn s.rxs]] (RV.agg zz0)) ∧ True ∧ True ∧ True ∧ (Ans Tryd.prog 20 [RV.d (DV.int .i64 oper), RV.d (DV.int .i64 12)] (RV.d (DV.int .i64 (modS oper (12 : Int))))) ∧ True ∧ True ∧ True ∧ True ∧ (True ∧ ((push = true → True ∧ True ∧ ∃ u1 : Unit, True ∧ (zz2 ∧ (zz3 ∧ ([DV.int .i64 2, DV.int .i64 0, DV.int .i64 0, DV.int .i64 0, DV.int .i64 0, DV.int .i64 0, DV.int .i64 0, DV.int .u16 0, DV.int .i64 zz4, DV.int .i64 1, DV.bool false, DV.bool false] = (Oq.cells (ctxO push oper))) ∧ True))) ∧ (push = false → ∃ u1 : Unit, True ∧ (zz2 ∧ (zz3 ∧ ([DV.int .i64 1, DV.int .i64 0, DV.int .i64 0, DV.int .i64 0, DV.int .i64 0, DV.int .i64 0, DV.int .i64 0, DV.int .u16 0, DV.int .i64 zz4, DV.int .i64 1, DV.bool false, DV.bool false] = (Oq.cells (ctxO push oper))) ∧ True))))) ∧ ∀ u1 : Unit, (True) → True ∧ True ∧ (appVc 12 88 0 ((s).ops.length) ([]) (ops (s).ops)) ∧ True ∧ True ∧ (appVc 12 88 ((s).ops.length) 1 (ops (s).ops) ((Oq.cells (ctxO push oper)))) ∧ True ∧ True ∧ (true = true) ∧ True ∧ (True ∧ ((∃ k : Nat, (k ≤ 10) ∧ ((zz1 ∧ (0 = 0) ∧ (0 = 0) ∧ (0 = k) ∧ (DV.int .i64 0 = DV.int .i64 ((2 * k : Nat) : Int)) ∧ True) ∧ (zz5 ∧ zz6 ∧ ([] = ops (openL fxs k)) ∧ zz7 ∧ True))) ∧ ∀ k : Nat, (k ≤ 10) → True ∧ True ∧ True ∧ True ∧ True ∧ True ∧ (((decide ((IntKind.wrap .i64 (((2 * k : Nat) : Int) + (1 : Int))) < ((fn_ : Nat) : Int))) = true → True ∧ True ∧ True ∧ (((decide (((2 * k : Nat) : Int) < (20 : Int))) = true → True ∧ True ∧ True ∧ (0 ≤ ((2 * k : Nat) : Int) ∧ ((2 * k : Nat) : Int) < ((fn_ : Nat) : Int) ∧ ((2 * k : Nat) : Int).toNat * 1 < fxs.length) ∧ ((fxs[((2 * k : Nat) : Int).toNat * 1]? = some (DV.bool (bAt fxs (((2 * k : Nat) : Int).toNat * 1)))) ∧ True) ∧ True ∧ True ∧ True ∧ (0 ≤ IntKind.wrap .i64 (((2 * k : Nat) : Int) + (1 : Int)) ∧ IntKind.wrap .i64 (((2 * k : Nat) : Int) + (1 : Int)) < ((fn_ : Nat) : Int) ∧ (IntKind.wrap .i64 (((2 * k : Nat) : Int) + (1 : Int))).toNat * 1 < fxs.length) ∧ ((fxs[(IntKind.wrap .i64 (((2 * k : Nat) : Int) + (1 : Int))).toNat * 1]? = some (DV.bool (bAt fxs ((IntKind.wrap .i64 (((2 * k : Nat) : Int) + (1 : Int))).toNat * 1)))) ∧ True) ∧ True ∧ True ∧ (appVc 12 88 k 1 (ops (openL fxs k)) ([DV.int .i64 2, DV.int .i64 0, DV.int .i64 0, DV.int .i64 0, DV.int .i64 0, DV.int .i64 0, DV.int .i64 0, DV.int .u16 0, DV.int .i64 0, DV.int .i64 0, DV.bool (bAt fxs (((2 * k : Nat) : Int).toNat * 1)), DV.bool (bAt fxs ((IntKind.wrap .i64 (((2 * k : Nat) : Int) + (1 : Int))).toNat * 1))])) ∧ True ∧ (true = true) ∧ True ∧ True ∧ True ∧ ∃ k' : Nat, (k' ≤ 10) ∧ (10 - k' < 10 - k) ∧ ((zz1 ∧ (0 = 0) ∧ (0 = 0) ∧ (k + 1 = k') ∧ (DV.int .i64 (IntKind.wrap .i64 (((2 * k : Nat) : Int) + (2 : Int))) = DV.int .i64 ((2 * k' : Nat) : Int)) ∧ True) ∧ (zz5 ∧ zz6 ∧ ((ops (openL fxs k)) ++ ([DV.int .i64 2, DV.int .i64 0, DV.int .i64 0, DV.int .i64 0, DV.int .i64 0, DV.int .i64 0, DV.int .i64 0, DV.int .u16 0, DV.int .i64 0, DV.int .i64 0, DV.bool (bAt fxs (((2 * k : Nat) : Int).toNat * 1)), DV.bool (bAt fxs ((IntKind.wrap .i64 (((2 * k : Nat) : Int) + (1 : Int))).toNat * 1))]) = ops (openL fxs k')) ∧ zz7 ∧ True))) ∧ ((decide (((2 * k : Nat) : Int) < (20 : Int))) = false → ∃ K : Nat, (K ≤ 10) ∧ (zz8 k K)))) ∧ ((decide ((IntKind.wrap .i64 (((2 * k : Nat) : Int) + (1 : Int))) < ((fn_ : Nat) : Int))) = (!true) → True ∧ ∃ K : Nat, (K ≤ 10) ∧ (zz8 k K))))) ∧ ∀ K : Nat, (K ≤ 10) → (True ∧ (K ≤ maxLen) ∧ True ∧ True ∧ (((((K : Nat) : Int) == (0 : Int)) = false → True ∧ True ∧ (K ≤ maxLen) ∧ True ∧ (zz9 K) ∧ True ∧ (((ops (openL fxs K))[(IntKind.wrap .i64 (((K : Nat) : Int) - (1 : Int))).toNat * 12 + 10]? = some (DV.bool (bAt (ops (openL fxs K)) ((IntKind.wrap .i64 (((K : Nat) : Int) - (1 : Int))).toNat * 12 + 10)))) ∧ True) ∧ True ∧ (((bAt (ops (openL fxs K)) ((IntKind.wrap .i64 (((K : Nat) : Int) - (1 : Int))).toNat * 12 + 10)) = true → True ∧ True ∧ (K ≤ maxLen) ∧ True ∧ (zz9 K) ∧ True ∧ (((ops (openL fxs K))[(IntKind.wrap .i64 (((K : Nat) : Int) - (1 : Int))).toNat * 12 + 11]? = some (DV.bool (bAt (ops (openL fxs K)) ((IntKind.wrap .i64 (((K : Nat) : Int) - (1 : Int))).toNat * 12 + 11)))) ∧ True) ∧ True ∧ True ∧ True ∧ True ∧ ∃ fr : Bool, (fr = ctxB (openL fxs K)) ∧ (((0 = 0) ∧ (0 = 0) ∧ (K = K) ∧ (DV.bool (!(bAt (ops (openL fxs K)) ((IntKind.wrap .i64 (((K : Nat) : Int) - (1 : Int))).toNat * 12 + 11))) = DV.bool fr) ∧ True) ∧ (zz10 K))) ∧ ((bAt (ops (openL fxs K)) ((IntKind.wrap .i64 (((K : Nat) : Int) - (1 : Int))).toNat * 12 + 10)) = (!true) → True ∧ True ∧ True ∧ ∃ fr : Bool, (fr = ctxB (openL fxs K)) ∧ (((0 = 0) ∧ (0 = 0) ∧ (K = K) ∧ (DV.bool false = DV.bool fr) ∧ True) ∧ (zz10 K))))) ∧ ((((K : Nat) : Int) == (0 : Int)) = (!false) → True ∧ True ∧ ∃ fr : Bool, (fr = ctxB (openL fxs K)) ∧ (((0 = 0) ∧ (0 = 0) ∧ (K = K) ∧ (DV.bool true = DV.bool fr) ∧ True) ∧ (zz10 K))))) ∧ ∀ fr : Bool, (fr = ctxB (openL fxs K)) → True ∧ True ∧ True ∧ (((s).ops.length) + 1 ≤ maxLen) ∧ True ∧ True ∧ (Ans Tryd.prog 21 [RV.agg [DV.int .i64 ((s).bits), DV.int .i64 ((s).c.a), DV.int .i64 ((s).c.b), DV.int .i64 ((s).c.c), DV.int .i64 ((s).c.d), DV.int .i64 ((s).gtw), DV.int .i64 ((s).gth), DV.sl ((s).ord.length) (is (s).ord), DV.sl ((s).ims.length) (ims (s).ims), DV.sl (((s).ops.length) + 1) ((ops (s).ops) ++ ((Oq.cells (ctxO push oper))))], RV.d (DV.int .i64 (IntKind.wrap .i64 (((((s).ops.length) + 1 : Nat) : Int) - (1 : Int)))), RV.d (DV.sl K (ops (openL fxs K)))] (RV.d (DV.int .i64 (opErr ((s).bits) ((s).ims.length) (toOps ((ops (s).ops) ++ ((Oq.cells (ctxO push oper))))) (IntKind.wrap .i64 (((((s).ops.length) + 1 : Nat) : Int) - (1 : Int))) (toOps (ops (openL fxs K))))))) ∧ True ∧ True ∧ True ∧ ((fr = false → True ∧ True ∧ True ∧ True ∧ (((((ctxO push oper).oper) == (4 : Int)) = true → zz11 ∧ True ∧ (zz13 K)) ∧ ((((ctxO push oper).oper) == (4 : Int)) = false → zz11 ∧ True ∧ ((true = true → True ∧ True ∧ True ∧ True ∧ RV.d (DV.bool ((opErr ((s).bits) ((s).ims.length) (toOps ((ops (s).ops) ++ ((Oq.cells (ctxO push oper))))) (IntKind.wrap .i64 (((((s).ops.length) + 1 : Nat) : Int) - (1 : Int))) (toOps (ops (openL fxs K)))) == (16 : Int))) = RV.d (DV.bool true)) ∧ zz12)))) ∧ (fr = (!false) → True ∧ zz11 ∧ True ∧ (zz13 K)))) := by kernel_rfl
theorem L20_ValidateContexts_ans (s : Scn) (oper : Int) (fn_ : Nat) (fxs : List DV) (push : Bool) (hs : s.ok) (hb : IsBs fn_ fxs) : Ans Tryd.prog 6 [RV.agg [DV.int .i64 s.b, DV.int .i64 s.x, DV.int .i64 s.y, DV.int .i64 s.w, DV.int .i64 s.h, DV.int .i64 s.tw, DV.int .i64 s.th, DV.sl s.on s.oxs, DV.sl s.pn s.pxs, DV.sl s.rn s.rxs], RV.d (DV.int .i64 oper), RV.d (DV.sl fn_ fxs), RV.d (DV.bool push)] (RV.d (DV.bool true)) :=
  ans_of_vcg (Γ := gamValidateContexts) (L20_ValidateContexts_ann s oper fn_ fxs push) mixed_ Tryd.func6 rfl (Nat.le_of_ble_eq_true rfl) fun hwf => by
    refine Eq.mpr (L20_ValidateContexts_vc s oper fn_ fxs push) ?_
    simp only [true_and, and_true, RV.d.injEq, RV.agg.injEq, RV.tup.injEq, DV.bool.injEq, DV.int.injEq, DV.sl.injEq, List.cons.injEq, forall_const, Bool.not_false, Bool.not_true, Bool.not_eq_true', Bool.not_eq_false', decide_eq_true_eq, decide_eq_false_iff_not, Int.toNat_natCast, L20_awake_ans, G_Mod_ans]
    have li := s.ims_len
    have lo := s.ops_len
    have hM : ∀ n : Nat, n ≤ 1000 → n ≤ maxLen := fun n h => by unfold maxLen; omega
    have m12 := @modS_in oper 12 (by omega) (by omega)
    have w12 : IntKind.wrap .i64 (1 + modS oper 12) = 1 + modS oper 12 := IntWalk.i64_in _ ⟨by omega, by omega⟩
    obtain ⟨b1, b2⟩ := hb
    simp only [w12]
    refine ⟨G_Script_dat s hs, ⟨fun h => ⟨(), by rw [h]; rfl⟩, fun h => ⟨(), by rw [h]; rfl⟩⟩, ⟨rfl, by rw [ops_length], hM _ (by omega), by omega⟩, ⟨by rw [ops_length], rfl, hM _ (by omega), by omega⟩, ⟨⟨0, Nat.zero_le _, ⟨rfl, rfl⟩, rfl⟩, fun k hk => ⟨fun h1 => ⟨fun h2 => ?_, fun h2 => ⟨k, hk, rfl, rfl⟩⟩, fun h1 => ⟨k, hk, rfl, rfl⟩⟩⟩, fun K hK => ⟨⟨hM _ (by omega), fun h => ?_, fun h => ?_⟩, fun fr hfr => ?_⟩⟩
    · have w1 : IntKind.wrap .i64 (((2 * k : Nat) : Int) + 1) = ((2 * k + 1 : Nat) : Int) := by rw [IntWalk.i64_in _ ⟨by omega, by omega⟩]; omega
      have w2 : IntKind.wrap .i64 (((2 * k : Nat) : Int) + 2) = ((2 * (k + 1) : Nat) : Int) := by rw [IntWalk.i64_in _ ⟨by omega, by omega⟩]; omega
      simp only [w1, w2, Int.toNat_natCast, Nat.mul_one] at h1 ⊢
      refine ⟨⟨by omega, by omega, by omega⟩, b2 _ (by omega), ⟨by omega, by omega, by omega⟩, b2 _ (by omega), ⟨by rw [ops_length, openL_len], rfl, hM _ (by omega), by omega⟩, k + 1, by omega, by omega, ⟨rfl, rfl⟩, ?_⟩
      rw [openL_succ, ops_append, ops_one]; rfl
    · have a3 : 0 < (openL fxs K).length := by
        have : ¬ K = 0 := by simpa using h
        rw [openL_len]; omega
      have lK := openL_len fxs K
      have wl : IntKind.wrap .i64 ((K : Int) - 1) = ((K - 1 : Nat) : Int) := by rw [IntWalk.i64_in _ ⟨by omega, by omega⟩]; omega
      have eC := ctxB_last a3
      generalize openL fxs K = L at *
      subst lK
      have hl : L.length - 1 < L.length := by omega
      have g10 : (ops L)[(L.length - 1) * 12 + 10]? = some (.bool L[L.length - 1].iso) := ops_get hl 10 (by omega)
      have g11 : (ops L)[(L.length - 1) * 12 + 11]? = some (.bool L[L.length - 1].kno) := ops_get hl 11 (by omega)
      have b10 : bAt (ops L) ((L.length - 1) * 12 + 10) = L[L.length - 1].iso := by simp only [bAt, g10]
      have b11 : bAt (ops L) ((L.length - 1) * 12 + 11) = L[L.length - 1].kno := by simp only [bAt, g11]
      rw [wl, Int.toNat_natCast, b10, b11, eC]
      refine ⟨hM _ (by omega), ⟨by omega, by omega⟩, g10, fun h => ⟨hM _ (by omega), ⟨by omega, by omega⟩, g11, _, rfl, ?_⟩, fun h => ⟨_, rfl, ?_⟩⟩ <;> simp [h]
    · have a3 : K = 0 := by simpa using h
      subst a3
      exact ⟨_, rfl, rfl⟩
    · have wl : IntKind.wrap .i64 (((s.ops.length + 1 : Nat) : Int) - 1) = ((s.ops.length : Nat) : Int) := by rw [IntWalk.i64_in _ ⟨by omega, by omega⟩]; omega
      have eA : ops s.ops ++ (ctxO push oper).cells = ops (s.ops ++ [ctxO push oper]) := by rw [ops_append, ops_one]
      have eE : opErr s.bits s.ims.length (s.ops ++ [ctxO push oper]) ((s.ops.length : Nat) : Int) (openL fxs K) = if ctxB (openL fxs K) = true ∨ 1 + modS oper 12 = 4 then 0 else 16 := by
        unfold opErr
        rw [if_pos (by omega), Int.toNat_natCast, List.getElem?_append_right (Nat.le_refl _), Nat.sub_self]
        exact errO_ctx (by omega) (by rw [openL_len]; omega)
      have a1 := validate_Op_ans s.bits s.c.a s.c.b s.c.c s.c.d s.gtw s.gth s.ord.length (is s.ord) s.ims.length (ims s.ims) (s.ops.length + 1) (ops (s.ops ++ [ctxO push oper])) ((s.ops.length : Nat) : Int) K (ops (openL fxs K)) (isOps_ops (by simp)) (isOps_ops (openL_len _ _).symm)
      have eo : (ctxO push oper).oper = 1 + modS oper 12 := rfl
      rw [wl, eA]
      simp only [toOps_ops, eE, eo] at a1 ⊢
      subst hfr
      refine ⟨hM _ (by omega), a1, fun h => ⟨fun h4 => ⟨?_, by simp⟩, fun h4 => ⟨?_, by simp⟩⟩, fun h => ⟨?_, by simp⟩⟩
      · rw [if_pos (.inr (by simpa using h4))]; rfl
      · rw [if_neg (by rw [h]; simpa using h4)]; rfl
      · rw [if_pos (.inl h)]; rfl

end Go.Proofs.YthlmmlcdoiahkaaDoor

/-
  The program's own closed facts, once: each a declaration of its own.
-/
namespace Go.Proofs.YthlmmlcdoiahkaaDoor.closed
open Go
set_option linter.unusedVariables false
set_option linter.unusedSimpArgs false

set_option maxRecDepth 100000 in
theorem headWord : Tryd.prog.initOrder = String.ofList [Char.ofNat 104, Char.ofNat 97, Char.ofNat 114, Char.ofNat 110, Char.ofNat 101, Char.ofNat 115, Char.ofNat 115, Char.ofNat 32, Char.ofNat 55, Char.ofNat 55, Char.ofNat 101, Char.ofNat 52, Char.ofNat 101, Char.ofNat 54, Char.ofNat 102, Char.ofNat 48, Char.ofNat 100, Char.ofNat 54, Char.ofNat 102, Char.ofNat 102, Char.ofNat 53, Char.ofNat 51, Char.ofNat 100, Char.ofNat 48, Char.ofNat 99, Char.ofNat 57, Char.ofNat 52, Char.ofNat 54, Char.ofNat 101, Char.ofNat 51, Char.ofNat 102, Char.ofNat 54, Char.ofNat 100, Char.ofNat 97, Char.ofNat 52, Char.ofNat 51, Char.ofNat 50, Char.ofNat 52, Char.ofNat 50, Char.ofNat 53, Char.ofNat 57, Char.ofNat 48, Char.ofNat 55, Char.ofNat 101, Char.ofNat 100, Char.ofNat 51, Char.ofNat 52, Char.ofNat 54, Char.ofNat 97, Char.ofNat 55, Char.ofNat 50, Char.ofNat 101, Char.ofNat 54, Char.ofNat 50, Char.ofNat 51, Char.ofNat 49, Char.ofNat 102, Char.ofNat 55, Char.ofNat 101, Char.ofNat 98, Char.ofNat 102, Char.ofNat 57, Char.ofNat 49, Char.ofNat 54, Char.ofNat 51, Char.ofNat 52, Char.ofNat 97, Char.ofNat 54, Char.ofNat 51, Char.ofNat 52, Char.ofNat 100, Char.ofNat 49, Char.ofNat 32, Char.ofNat 99, Char.ofNat 117, Char.ofNat 116, Char.ofNat 32, Char.ofNat 97, Char.ofNat 116, Char.ofNat 32, Char.ofNat 99, Char.ofNat 111, Char.ofNat 109, Char.ofNat 112, Char.ofNat 111, Char.ofNat 115, Char.ofNat 105, Char.ofNat 116, Char.ofNat 111, Char.ofNat 114, Char.ofNat 47, Char.ofNat 99, Char.ofNat 111, Char.ofNat 109, Char.ofNat 112, Char.ofNat 111, Char.ofNat 115, Char.ofNat 105, Char.ofNat 116, Char.ofNat 111, Char.ofNat 114, Char.ofNat 108, Char.ofNat 97, Char.ofNat 119, Char.ofNat 50, Char.ofNat 48, Char.ofNat 46, Char.ofNat 86, Char.ofNat 97, Char.ofNat 108, Char.ofNat 105, Char.ofNat 100, Char.ofNat 97, Char.ofNat 116, Char.ofNat 101, Char.ofNat 65, Char.ofNat 99, Char.ofNat 99, Char.ofNat 101, Char.ofNat 112, Char.ofNat 116, Char.ofNat 115, Char.ofNat 83, Char.ofNat 99, Char.ofNat 101, Char.ofNat 110, Char.ofNat 101, Char.ofNat 115, Char.ofNat 32, Char.ofNat 99, Char.ofNat 111, Char.ofNat 109, Char.ofNat 112, Char.ofNat 111, Char.ofNat 115, Char.ofNat 105, Char.ofNat 116, Char.ofNat 111, Char.ofNat 114, Char.ofNat 47, Char.ofNat 99, Char.ofNat 111, Char.ofNat 109, Char.ofNat 112, Char.ofNat 111, Char.ofNat 115, Char.ofNat 105, Char.ofNat 116, Char.ofNat 111, Char.ofNat 114, Char.ofNat 108, Char.ofNat 97, Char.ofNat 119, Char.ofNat 50, Char.ofNat 48, Char.ofNat 46, Char.ofNat 86, Char.ofNat 97, Char.ofNat 108, Char.ofNat 105, Char.ofNat 100, Char.ofNat 97, Char.ofNat 116, Char.ofNat 101, Char.ofNat 65, Char.ofNat 103, Char.ofNat 114, Char.ofNat 101, Char.ofNat 101, Char.ofNat 115, Char.ofNat 32, Char.ofNat 99, Char.ofNat 111, Char.ofNat 109, Char.ofNat 112, Char.ofNat 111, Char.ofNat 115, Char.ofNat 105, Char.ofNat 116, Char.ofNat 111, Char.ofNat 114, Char.ofNat 47, Char.ofNat 99, Char.ofNat 111, Char.ofNat 109, Char.ofNat 112, Char.ofNat 111, Char.ofNat 115, Char.ofNat 105, Char.ofNat 116, Char.ofNat 111, Char.ofNat 114, Char.ofNat 108, Char.ofNat 97, Char.ofNat 119, Char.ofNat 50, Char.ofNat 48, Char.ofNat 46, Char.ofNat 86, Char.ofNat 97, Char.ofNat 108, Char.ofNat 105, Char.ofNat 100, Char.ofNat 97, Char.ofNat 116, Char.ofNat 101, Char.ofNat 79, Char.ofNat 112, Char.ofNat 65, Char.ofNat 103, Char.ofNat 114, Char.ofNat 101, Char.ofNat 101, Char.ofNat 115, Char.ofNat 32, Char.ofNat 99, Char.ofNat 111, Char.ofNat 109, Char.ofNat 112, Char.ofNat 111, Char.ofNat 115, Char.ofNat 105, Char.ofNat 116, Char.ofNat 111, Char.ofNat 114, Char.ofNat 47, Char.ofNat 99, Char.ofNat 111, Char.ofNat 109, Char.ofNat 112, Char.ofNat 111, Char.ofNat 115, Char.ofNat 105, Char.ofNat 116, Char.ofNat 111, Char.ofNat 114, Char.ofNat 108, Char.ofNat 97, Char.ofNat 119, Char.ofNat 50, Char.ofNat 48, Char.ofNat 46, Char.ofNat 86, Char.ofNat 97, Char.ofNat 108, Char.ofNat 105, Char.ofNat 100, Char.ofNat 97, Char.ofNat 116, Char.ofNat 101, Char.ofNat 67, Char.ofNat 111, Char.ofNat 110, Char.ofNat 116, Char.ofNat 101, Char.ofNat 120, Char.ofNat 116, Char.ofNat 115, Char.ofNat 32, Char.ofNat 99, Char.ofNat 111, Char.ofNat 109, Char.ofNat 112, Char.ofNat 111, Char.ofNat 115, Char.ofNat 105, Char.ofNat 116, Char.ofNat 111, Char.ofNat 114, Char.ofNat 47, Char.ofNat 99, Char.ofNat 111, Char.ofNat 109, Char.ofNat 112, Char.ofNat 111, Char.ofNat 115, Char.ofNat 105, Char.ofNat 116, Char.ofNat 111, Char.ofNat 114, Char.ofNat 108, Char.ofNat 97, Char.ofNat 119, Char.ofNat 50, Char.ofNat 48, Char.ofNat 46, Char.ofNat 86, Char.ofNat 97, Char.ofNat 108, Char.ofNat 105, Char.ofNat 100, Char.ofNat 97, Char.ofNat 116, Char.ofNat 101, Char.ofNat 78, Char.ofNat 101, Char.ofNat 115, Char.ofNat 116, Char.ofNat 105, Char.ofNat 110, Char.ofNat 103, Char.ofNat 32, Char.ofNat 99, Char.ofNat 111, Char.ofNat 109, Char.ofNat 112, Char.ofNat 111, Char.ofNat 115, Char.ofNat 105, Char.ofNat 116, Char.ofNat 111, Char.ofNat 114, Char.ofNat 47, Char.ofNat 99, Char.ofNat 111, Char.ofNat 109, Char.ofNat 112, Char.ofNat 111, Char.ofNat 115, Char.ofNat 105, Char.ofNat 116, Char.ofNat 111, Char.ofNat 114, Char.ofNat 108, Char.ofNat 97, Char.ofNat 119, Char.ofNat 50, Char.ofNat 48, Char.ofNat 46, Char.ofNat 86, Char.ofNat 97, Char.ofNat 108, Char.ofNat 105, Char.ofNat 100, Char.ofNat 97, Char.ofNat 116, Char.ofNat 101, Char.ofNat 83, Char.ofNat 101, Char.ofNat 101, Char.ofNat 115, Char.ofNat 85, Char.ofNat 110, Char.ofNat 117, Char.ofNat 115, Char.ofNat 101, Char.ofNat 100, Char.ofNat 73, Char.ofNat 109, Char.ofNat 97, Char.ofNat 103, Char.ofNat 101, Char.ofNat 115, Char.ofNat 32, Char.ofNat 99, Char.ofNat 111, Char.ofNat 109, Char.ofNat 112, Char.ofNat 111, Char.ofNat 115, Char.ofNat 105, Char.ofNat 116, Char.ofNat 111, Char.ofNat 114, Char.ofNat 47, Char.ofNat 99, Char.ofNat 111, Char.ofNat 109, Char.ofNat 112, Char.ofNat 111, Char.ofNat 115, Char.ofNat 105, Char.ofNat 116, Char.ofNat 111, Char.ofNat 114, Char.ofNat 108, Char.ofNat 97, Char.ofNat 119, Char.ofNat 50, Char.ofNat 48, Char.ofNat 46, Char.ofNat 86, Char.ofNat 97, Char.ofNat 108, Char.ofNat 105, Char.ofNat 100, Char.ofNat 97, Char.ofNat 116, Char.ofNat 101, Char.ofNat 76, Char.ofNat 97, Char.ofNat 114, Char.ofNat 103, Char.ofNat 101, Char.ofNat 67, Char.ofNat 97, Char.ofNat 110, Char.ofNat 118, Char.ofNat 97, Char.ofNat 115, Char.ofNat 101, Char.ofNat 115] := by kernel_rfl
set_option maxRecDepth 100000 in
theorem headSigns : Tryd.prog.initOrder.toList = [Char.ofNat 104, Char.ofNat 97, Char.ofNat 114, Char.ofNat 110, Char.ofNat 101, Char.ofNat 115, Char.ofNat 115, Char.ofNat 32, Char.ofNat 55, Char.ofNat 55, Char.ofNat 101, Char.ofNat 52, Char.ofNat 101, Char.ofNat 54, Char.ofNat 102, Char.ofNat 48, Char.ofNat 100, Char.ofNat 54, Char.ofNat 102, Char.ofNat 102, Char.ofNat 53, Char.ofNat 51, Char.ofNat 100, Char.ofNat 48, Char.ofNat 99, Char.ofNat 57, Char.ofNat 52, Char.ofNat 54, Char.ofNat 101, Char.ofNat 51, Char.ofNat 102, Char.ofNat 54, Char.ofNat 100, Char.ofNat 97, Char.ofNat 52, Char.ofNat 51, Char.ofNat 50, Char.ofNat 52, Char.ofNat 50, Char.ofNat 53, Char.ofNat 57, Char.ofNat 48, Char.ofNat 55, Char.ofNat 101, Char.ofNat 100, Char.ofNat 51, Char.ofNat 52, Char.ofNat 54, Char.ofNat 97, Char.ofNat 55, Char.ofNat 50, Char.ofNat 101, Char.ofNat 54, Char.ofNat 50, Char.ofNat 51, Char.ofNat 49, Char.ofNat 102, Char.ofNat 55, Char.ofNat 101, Char.ofNat 98, Char.ofNat 102, Char.ofNat 57, Char.ofNat 49, Char.ofNat 54, Char.ofNat 51, Char.ofNat 52, Char.ofNat 97, Char.ofNat 54, Char.ofNat 51, Char.ofNat 52, Char.ofNat 100, Char.ofNat 49, Char.ofNat 32, Char.ofNat 99, Char.ofNat 117, Char.ofNat 116, Char.ofNat 32, Char.ofNat 97, Char.ofNat 116, Char.ofNat 32, Char.ofNat 99, Char.ofNat 111, Char.ofNat 109, Char.ofNat 112, Char.ofNat 111, Char.ofNat 115, Char.ofNat 105, Char.ofNat 116, Char.ofNat 111, Char.ofNat 114, Char.ofNat 47, Char.ofNat 99, Char.ofNat 111, Char.ofNat 109, Char.ofNat 112, Char.ofNat 111, Char.ofNat 115, Char.ofNat 105, Char.ofNat 116, Char.ofNat 111, Char.ofNat 114, Char.ofNat 108, Char.ofNat 97, Char.ofNat 119, Char.ofNat 50, Char.ofNat 48, Char.ofNat 46, Char.ofNat 86, Char.ofNat 97, Char.ofNat 108, Char.ofNat 105, Char.ofNat 100, Char.ofNat 97, Char.ofNat 116, Char.ofNat 101, Char.ofNat 65, Char.ofNat 99, Char.ofNat 99, Char.ofNat 101, Char.ofNat 112, Char.ofNat 116, Char.ofNat 115, Char.ofNat 83, Char.ofNat 99, Char.ofNat 101, Char.ofNat 110, Char.ofNat 101, Char.ofNat 115, Char.ofNat 32, Char.ofNat 99, Char.ofNat 111, Char.ofNat 109, Char.ofNat 112, Char.ofNat 111, Char.ofNat 115, Char.ofNat 105, Char.ofNat 116, Char.ofNat 111, Char.ofNat 114, Char.ofNat 47, Char.ofNat 99, Char.ofNat 111, Char.ofNat 109, Char.ofNat 112, Char.ofNat 111, Char.ofNat 115, Char.ofNat 105, Char.ofNat 116, Char.ofNat 111, Char.ofNat 114, Char.ofNat 108, Char.ofNat 97, Char.ofNat 119, Char.ofNat 50, Char.ofNat 48, Char.ofNat 46, Char.ofNat 86, Char.ofNat 97, Char.ofNat 108, Char.ofNat 105, Char.ofNat 100, Char.ofNat 97, Char.ofNat 116, Char.ofNat 101, Char.ofNat 65, Char.ofNat 103, Char.ofNat 114, Char.ofNat 101, Char.ofNat 101, Char.ofNat 115, Char.ofNat 32, Char.ofNat 99, Char.ofNat 111, Char.ofNat 109, Char.ofNat 112, Char.ofNat 111, Char.ofNat 115, Char.ofNat 105, Char.ofNat 116, Char.ofNat 111, Char.ofNat 114, Char.ofNat 47, Char.ofNat 99, Char.ofNat 111, Char.ofNat 109, Char.ofNat 112, Char.ofNat 111, Char.ofNat 115, Char.ofNat 105, Char.ofNat 116, Char.ofNat 111, Char.ofNat 114, Char.ofNat 108, Char.ofNat 97, Char.ofNat 119, Char.ofNat 50, Char.ofNat 48, Char.ofNat 46, Char.ofNat 86, Char.ofNat 97, Char.ofNat 108, Char.ofNat 105, Char.ofNat 100, Char.ofNat 97, Char.ofNat 116, Char.ofNat 101, Char.ofNat 79, Char.ofNat 112, Char.ofNat 65, Char.ofNat 103, Char.ofNat 114, Char.ofNat 101, Char.ofNat 101, Char.ofNat 115, Char.ofNat 32, Char.ofNat 99, Char.ofNat 111, Char.ofNat 109, Char.ofNat 112, Char.ofNat 111, Char.ofNat 115, Char.ofNat 105, Char.ofNat 116, Char.ofNat 111, Char.ofNat 114, Char.ofNat 47, Char.ofNat 99, Char.ofNat 111, Char.ofNat 109, Char.ofNat 112, Char.ofNat 111, Char.ofNat 115, Char.ofNat 105, Char.ofNat 116, Char.ofNat 111, Char.ofNat 114, Char.ofNat 108, Char.ofNat 97, Char.ofNat 119, Char.ofNat 50, Char.ofNat 48, Char.ofNat 46, Char.ofNat 86, Char.ofNat 97, Char.ofNat 108, Char.ofNat 105, Char.ofNat 100, Char.ofNat 97, Char.ofNat 116, Char.ofNat 101, Char.ofNat 67, Char.ofNat 111, Char.ofNat 110, Char.ofNat 116, Char.ofNat 101, Char.ofNat 120, Char.ofNat 116, Char.ofNat 115, Char.ofNat 32, Char.ofNat 99, Char.ofNat 111, Char.ofNat 109, Char.ofNat 112, Char.ofNat 111, Char.ofNat 115, Char.ofNat 105, Char.ofNat 116, Char.ofNat 111, Char.ofNat 114, Char.ofNat 47, Char.ofNat 99, Char.ofNat 111, Char.ofNat 109, Char.ofNat 112, Char.ofNat 111, Char.ofNat 115, Char.ofNat 105, Char.ofNat 116, Char.ofNat 111, Char.ofNat 114, Char.ofNat 108, Char.ofNat 97, Char.ofNat 119, Char.ofNat 50, Char.ofNat 48, Char.ofNat 46, Char.ofNat 86, Char.ofNat 97, Char.ofNat 108, Char.ofNat 105, Char.ofNat 100, Char.ofNat 97, Char.ofNat 116, Char.ofNat 101, Char.ofNat 78, Char.ofNat 101, Char.ofNat 115, Char.ofNat 116, Char.ofNat 105, Char.ofNat 110, Char.ofNat 103, Char.ofNat 32, Char.ofNat 99, Char.ofNat 111, Char.ofNat 109, Char.ofNat 112, Char.ofNat 111, Char.ofNat 115, Char.ofNat 105, Char.ofNat 116, Char.ofNat 111, Char.ofNat 114, Char.ofNat 47, Char.ofNat 99, Char.ofNat 111, Char.ofNat 109, Char.ofNat 112, Char.ofNat 111, Char.ofNat 115, Char.ofNat 105, Char.ofNat 116, Char.ofNat 111, Char.ofNat 114, Char.ofNat 108, Char.ofNat 97, Char.ofNat 119, Char.ofNat 50, Char.ofNat 48, Char.ofNat 46, Char.ofNat 86, Char.ofNat 97, Char.ofNat 108, Char.ofNat 105, Char.ofNat 100, Char.ofNat 97, Char.ofNat 116, Char.ofNat 101, Char.ofNat 83, Char.ofNat 101, Char.ofNat 101, Char.ofNat 115, Char.ofNat 85, Char.ofNat 110, Char.ofNat 117, Char.ofNat 115, Char.ofNat 101, Char.ofNat 100, Char.ofNat 73, Char.ofNat 109, Char.ofNat 97, Char.ofNat 103, Char.ofNat 101, Char.ofNat 115, Char.ofNat 32, Char.ofNat 99, Char.ofNat 111, Char.ofNat 109, Char.ofNat 112, Char.ofNat 111, Char.ofNat 115, Char.ofNat 105, Char.ofNat 116, Char.ofNat 111, Char.ofNat 114, Char.ofNat 47, Char.ofNat 99, Char.ofNat 111, Char.ofNat 109, Char.ofNat 112, Char.ofNat 111, Char.ofNat 115, Char.ofNat 105, Char.ofNat 116, Char.ofNat 111, Char.ofNat 114, Char.ofNat 108, Char.ofNat 97, Char.ofNat 119, Char.ofNat 50, Char.ofNat 48, Char.ofNat 46, Char.ofNat 86, Char.ofNat 97, Char.ofNat 108, Char.ofNat 105, Char.ofNat 100, Char.ofNat 97, Char.ofNat 116, Char.ofNat 101, Char.ofNat 76, Char.ofNat 97, Char.ofNat 114, Char.ofNat 103, Char.ofNat 101, Char.ofNat 67, Char.ofNat 97, Char.ofNat 110, Char.ofNat 118, Char.ofNat 97, Char.ofNat 115, Char.ofNat 101, Char.ofNat 115] := by rw [headWord, String.toList_ofList]
set_option maxRecDepth 100000 in
theorem enters : Tryd.prog.mayEnter = true := by
  unfold Program.mayEnter Program.doorFits
  rw [headSigns]
  kernel_rfl
set_option maxRecDepth 100000 in
theorem liftsNot : Tryd.prog.liftsFinal = false := by
  unfold Program.liftsFinal Program.headLifts
  rw [headSigns]
  kernel_rfl
set_option maxRecDepth 100000 in
theorem made : Tryd.prog.make = some .cut := by
  unfold Program.make
  rw [headSigns]
  kernel_rfl
theorem own : ownKnob Tryd.prog.godebug = none := by kernel_rfl
theorem laidOut : laidOutB Tryd.prog = true := by kernel_rfl
theorem mapsRow : mapsRowed Tryd.prog = true := by kernel_rfl
theorem noStops : (Tryd.prog.stops == []) = true := by kernel_rfl
theorem noKnobs : (Tryd.prog.stopKnobs == []) = true := by kernel_rfl
theorem plain : Tryd.prog.plainKeys = true := by kernel_rfl
theorem heard : Tryd.prog.stopsHeard = true := by kernel_rfl
end Go.Proofs.YthlmmlcdoiahkaaDoor.closed

/-
  What package variables that are laid by the program's text hold, cell by cell; and from a law's walk to a row that lists them.
-/
namespace Go.Proofs.YthlmmlcdoiahkaaDoor
open Go.RowKit Go.ChangeShapes Go.WideShapes
set_option linter.unusedVariables false
set_option linter.unusedSimpArgs false

def cellAt {H : Type} (P : Program) : Nat → TypeId → DataW H → Nat → Option DV
  | 0, _, _, _ => none
  | fuel + 1, t, d, i =>
    match P.underlying t, d with
    | some (.int k), .lit (.int k' n) => if i = 0 ∧ k' = k then some (.int k n) else none
    | some .bool, .lit (.bool b) => if i = 0 then some (.bool b) else none
    | some .string, .lit (.string s) => if i = 0 ∧ s.length ≤ maxLen then some (.str ⟨s.toArray⟩) else none
    | some (.struct fs), .agg ds => (fs.toList.zip ds).findSome? fun x => if x.1.offset ≤ i ∧ i < x.1.offset + P.cellsOf x.1.type then cellAt P fuel x.1.type x.2 (i - x.1.offset) else none
    | some (.array _ e), .agg ds => if P.cellsOf e = 0 then none else match ds[i / P.cellsOf e]? with
      | some d => cellAt P fuel e d (i % P.cellsOf e)
      | none => none
    | _, _ => none

section
variable {H : Type} {enc : TypeId × Value → H} {P : Program} {w : World}
theorem cell_of_trod {sp : Nat → Bool} {va : Bool} {V : Nat → Prop} : ∀ (fuel : Nat) (t : TypeId) (cs : List Value) (d : DataW H) (ps : List MemPlace) (q i : Nat) (dv : DV),
    DataW.trod enc P w 0 sp va fuel t cs = some (d, ps) → cellAt P q t d i = some dv → ∃ u, cs[i]? = some u ∧ RepD w V dv u := by
  intro fuel
  induction fuel with
  | zero => intro t cs d ps q i dv h; simp [DataW.trod] at h
  | succ fuel ih =>
    intro t cs d ps q i dv h hq
    cases q with
    | zero => simp [cellAt] at hq
    | succ q =>
    unfold DataW.trod at h
    unfold cellAt at hq
    split at h
    · rename_i b hu
      simp only [Option.some.injEq, Prod.mk.injEq] at h
      obtain ⟨rfl, _⟩ := h
      simp only [hu] at hq
      split at hq
      · rename_i e; subst e; cases hq; exact ⟨_, rfl, by simp only [RepD]⟩
      · cases hq
    · rename_i k k' n hu
      split at h
      · rename_i hk
        obtain ⟨rfl, hwf⟩ := hk
        simp only [Option.some.injEq, Prod.mk.injEq] at h
        obtain ⟨rfl, _⟩ := h
        simp only [hu] at hq
        split at hq
        · rename_i e; obtain ⟨rfl, _⟩ := e; cases hq; exact ⟨_, rfl, by simp only [RepD]; exact ⟨trivial, hwf⟩⟩
        · cases hq
      · cases h
    · rename_i hu
      simp only [hu] at hq
      cases hq
    · rename_i s hu
      split at h
      · simp only [Option.some.injEq, Prod.mk.injEq] at h
        obtain ⟨rfl, _⟩ := h
        simp only [hu] at hq
        split at hq
        · rename_i e; obtain ⟨rfl, hl⟩ := e; cases hq
          exact ⟨_, rfl, by simp only [RepD]; exact ⟨by simp, by simpa using hl⟩⟩
        · cases hq
      · cases h
    · rename_i hu; simp only [hu] at hq; cases hq
    · rename_i hu; simp only [hu] at hq; cases hq
    · rename_i hu; simp only [hu] at hq; cases hq
    · rename_i hu; simp only [hu] at hq; cases hq
    · rename_i fs hu
      split at h
      · obtain ⟨xs, hxs, h⟩ := Option.map_eq_some_iff.1 h
        simp only [Prod.mk.injEq] at h
        obtain ⟨rfl, _⟩ := h
        simp only [hu] at hq
        obtain ⟨x, hx, hx2⟩ := List.exists_of_findSome?_eq_some hq
        split at hx2
        · rename_i hr
          obtain ⟨j, hj, e⟩ := List.getElem_of_mem hx
          rw [List.getElem_zip] at e
          simp only [List.length_zip, List.length_map] at hj
          have h1 := mapM_some_get hxs j _ (List.getElem?_eq_getElem (by omega))
          rw [List.getElem?_eq_getElem (show j < xs.length by omega)] at h1
          subst e
          simp only [List.getElem_map] at hx2 hr
          obtain ⟨u, hu1, hu2⟩ := ih _ _ _ _ q _ dv h1 hx2
          refine ⟨u, ?_, hu2⟩
          rw [List.getElem?_take, if_pos (by omega), List.getElem?_drop] at hu1
          rwa [show _ + (i - _) = i from Nat.add_sub_of_le hr.1] at hu1
        · cases hx2
      · cases h
    · rename_i n e hu
      split at h
      · obtain ⟨xs, hxs, h⟩ := Option.map_eq_some_iff.1 h
        simp only [Prod.mk.injEq] at h
        obtain ⟨rfl, _⟩ := h
        simp only [hu] at hq
        split at hq
        · cases hq
        · rename_i hne
          split at hq
          · rename_i d hd
            rw [List.getElem?_map] at hd
            obtain ⟨x, hx, rfl⟩ := Option.map_eq_some_iff.1 hd
            have hl := mapM_some_length hxs
            simp only [List.length_range] at hl
            have hlt : i / P.cellsOf e < xs.length := (List.getElem?_eq_some_iff.1 hx).1
            have h1 := mapM_some_get hxs (i / P.cellsOf e) (i / P.cellsOf e) (List.getElem?_range (by omega))
            rw [hx] at h1
            obtain ⟨u, hu1, hu2⟩ := ih _ _ _ _ q _ dv h1 hq
            refine ⟨u, ?_, hu2⟩
            rw [List.getElem?_take, if_pos (Nat.mod_lt _ (Nat.pos_of_ne_zero hne)), List.getElem?_drop, Nat.mul_comm] at hu1
            rwa [Nat.div_add_mod] at hu1
          · cases hq
      · cases h
    all_goals first | (cases h; done) | (clear h ih; simp_all; done) | (clear h ih; split at hq <;> simp_all; done)
end

/-- the table says what the laid variables hold -/
def tabOK (P : Program) (laid : List (String × DataW Unit)) (p : Nat × List DV) : Prop :=
  ∃ x t, x ∈ laid ∧ P.globalNamed x.1 = some p.1 ∧ (P.globals[p.1]?).map (·.type) = some t ∧ (List.range p.2.length).map (cellAt P 6 t x.2) = p.2.map some
theorem laidVars_mem {P : Program} {w : World} : ∀ {l : List (String × DataW Unit)} {ps : List MemPlace}, DataW.LaidVars P w l ps → ∀ x ∈ l, ∃ g t cs fuel p, P.globalNamed x.1 = some g ∧ (P.globals[g]?).map (·.type) = some t ∧ w.var? P x.1 = some cs ∧ DataW.trod (fun _ => ()) P w 0 (fun _ => true) false fuel t cs.toList = some (x.2, p)
  | [], _, _, x, hx => by cases hx
  | (n, d) :: r, ps, h, x, hx => by
    obtain ⟨g, t, cs, fuel, p, q, h1, h2, h3, h4, h5, _⟩ := h
    rcases List.mem_cons.1 hx with rfl | hx
    · exact ⟨g, t, cs, fuel, p, h1, h2, h3, h4⟩
    · exact laidVars_mem h5 x hx
theorem globOK_of {P : Program} {laid : List (String × DataW Unit)} {w : World} (hm : laidMetH P laid w) (hp : (laid.all fun x => x.2.handleName?.isNone) = true) (ht : ∀ p ∈ globTab, tabOK P laid p) : GlobOK w (fun _ => True) := by
  rw [MakeChecks.laidMetH_plain _ _ _ hp] at hm
  obtain ⟨ps, hl, _⟩ := hm
  intro p hp _
  obtain ⟨x, t, hx, h1, h2, h3⟩ := ht p hp
  obtain ⟨g, t', cs, fuel, q, g1, g2, g3, g4⟩ := laidVars_mem hl x hx
  rw [g1] at h1; injection h1 with h1; subst h1
  rw [g2] at h2; injection h2 with h2; subst h2
  refine ⟨trivial, RepCells.of_at fun i d hi => ?_⟩
  have hlt : i < p.2.length := (List.getElem?_eq_some_iff.1 hi).1
  have h4 : ((List.range p.2.length).map (cellAt P 6 t' x.2))[i]? = (p.2.map some)[i]? := by rw [h3]
  rw [List.getElem?_map, List.getElem?_range hlt, List.getElem?_map, hi] at h4
  simp only [Option.map_some, Option.some.injEq] at h4
  obtain ⟨u, hu1, hu2⟩ := cell_of_trod (V := fun _ => True) fuel t' cs.toList x.2 q 6 i d g4 h4
  refine ⟨u, ?_, hu2⟩
  rw [Nat.zero_add, World.var?_cell g1 g3 i, ← Array.getElem?_toList]
  exact hu1

/-- FROM A LAW's WALK TO ITS ROW, with package variables laid by the text. -/
theorem law_lift_laid {H : Type} {enc : TypeId × Value → H} {C : Checked} {os : Os} {f : FuncId} {fn : Func} {s : ChangeSpec} {tb : TypeId} {laid : List (String × DataW Unit)}
    (own : ownKnob C.prog.godebug = none) (started : os.Started) (noInit : C.prog.inits.idxOf? f = none) (hfn : C.prog.funcs[f]? = some fn)
    (witness : ∃ (w : World) (tape : Tape) (i : Input), w.os = os ∧ (w.forCall tape i).Shaped C.prog ∧ i.vars = [] ∧ Input.okWide C.prog (w.forCall tape i) .any w.heap.size f i ∧
      ((s.pre enc C.prog fn [] false (w.forCall tape i).memory i.args ∧ laidMetH C.prog laid (w.forCall tape i).memory) ∧ sizedMet enc C.prog fn (OpenSpec.ofChange s) false (w.forCall tape i).memory i.args) ∧ ({} : Assume).holds C.prog (lone (Frame.enter C.prog f i.args .normal) [] (w.forCall tape i)))
    (hspec : ∀ ds : List (DataW H), ds.length = fn.params.toList.length → s.fn H ds = { results := [.lit (.bool true)], args := ds }) (hvars : s.vars = [])
    (hres : fn.resultTypes = #[tb]) (hb : C.prog.underlying tb = some .bool) (laidO : laidOutB C.prog = true)
    (hread : ∀ t ∈ fn.params.toList, C.prog.readableRec t = true ∧ t < C.prog.types.size)
    (hp : (laid.all fun x => x.2.handleName?.isNone) = true) (ht : ∀ p ∈ globTab, tabOK C.prog laid p)
    (walk : ∀ (W : World) (args : Array Value), GlobOK W (fun _ => True) → Args C.prog W fn.params.toList args.toList → Calls C.prog f args W fun e W' => e = .returned (.bool true) ∧ Below W.heap.size W W') :
    ReturnsInHanded {} C os f .any (fun w args => (s.pre enc C.prog fn [] false w args ∧ laidMetH C.prog laid w) ∧ sizedMet enc C.prog fn (OpenSpec.ofChange s) false w args) (s.post enc C.prog fn false true false false) := by
  refine returnsInHanded_of_change_and (X := fun w _ => laidMetH C.prog laid w) (fun _ _ _ hh h => laidMetH.of_heap hh h) own started noInit hfn witness ?_
  intro W base args ds gs before hval hW _ hsz hlaid _
  have hW' := hW
  obtain ⟨p, q, hA, hV, rfl, _, _⟩ := hW
  rw [hvars] at hV
  obtain ⟨rfl, rfl⟩ := trodVars_none hV
  have hvt : s.plain.varTypes C.prog = [] := by simp [ChangeSpec.plain, DataSpec.varTypes, hvars]
  rw [hvt, List.append_nil, List.append_nil] at hsz
  obtain ⟨ha, hlen⟩ := args_of_trodAll hA (fun n hn => by simpa using List.all_eq_true.1 hsz n hn) (fun j t v ht hv => cells_of_okWide (hval j t v (by simpa using ht) (by simpa using hv)))
  refine (walk W args (globOK_of hlaid hp ht) ha).mono fun e W' ⟨he, bel⟩ => ?_
  subst he
  have hs := hspec ds hlen
  refine ⟨_, rfl, ds, [], p ++ [], [], p, [], hW', ?_, ?_, ?_, bel.frame _, fun h => by cases h⟩
  · rw [List.append_nil, hs, hres]
    exact trodAll_mk1 (shut_bool hb _)
  · rw [List.append_nil, hs]
    exact trodAll_below laidO bel hread hA
  · rw [List.append_nil, hs, hvars]
    rfl
end Go.Proofs.YthlmmlcdoiahkaaDoor

/-
  The table of package variables is what the rows list; the door's own run meets it.
-/
namespace Go.Proofs.YthlmmlcdoiahkaaDoor
open Go.RowKit
set_option linter.unusedVariables false
set_option linter.unusedSimpArgs false

abbrev laidL : List (String × DataW Unit) := [("compositor/operator.rules", Rows.laid_compositor_operator_rules), ("compositor/blend.names", Rows.laid_compositor_blend_names)]
set_option maxRecDepth 100000 in
theorem tab_ok : ∀ p ∈ globTab, tabOK Tryd.prog laidL p := by
  intro p hp
  simp only [globTab, List.mem_cons, List.not_mem_nil, or_false] at hp
  rcases hp with rfl | rfl
  · exact ⟨("compositor/blend.names", Rows.laid_compositor_blend_names), 108, (List.mem_cons_of_mem _ List.mem_cons_self), by kernel_rfl, by kernel_rfl, by kernel_rfl⟩
  · exact ⟨("compositor/operator.rules", Rows.laid_compositor_operator_rules), 114, List.mem_cons_self, by kernel_rfl, by kernel_rfl, by kernel_rfl⟩
theorem laid_plain : (laidL.all fun x => x.2.handleName?.isNone) = true := by kernel_rfl
set_option maxRecDepth 100000 in
theorem door_met (os : Os) (args : Array Value) : laidMetH Tryd.prog laidL ((World.doorLaid Tryd.prog 400 os).forCall (fun _ _ => 0) ⟨#[], args, []⟩).memory :=
  laidMetH_of_parts3 (fuel := 8) (laidMet_of_run' 8 (by kernel_rfl) (by kernel_rfl)) (by kernel_rfl) (by kernel_rfl)
end Go.Proofs.YthlmmlcdoiahkaaDoor

