/-
  The operations upon abstract values are right: values.
-/
import Derived.Test.YtoljdijpmnadpaaAbC
import Derived.OpenShut
namespace Go.Proofs.Ytoljdijpmnadpaa
open Go.RowKit
set_option linter.unusedVariables false
set_option linter.unusedSimpArgs false

section
variable {w : World} {V : Nat → Prop} {ι : Names} {bx : Nat → Bx}

theorem rep_ofV_cl (v : Value) : RepCl w V ι bx (Cl.ofV v) v := by
  unfold Cl.ofV
  split
  · split
    · exact ⟨rfl, ‹_›⟩
    · trivial
  · exact rfl
  · split
    · exact ⟨rfl, ‹_›⟩
    · trivial
  · split
    · rename_i h
      obtain ⟨rfl, rfl⟩ := h
      exact rfl
    · trivial
  · exact ⟨rfl, rfl⟩
  · exact ⟨rfl, rfl⟩
  · exact ⟨rfl, rfl⟩
  · trivial
theorem rep_ofV_cls : ∀ (vs : List Value), RepCls w V ι bx (vs.map Cl.ofV) vs
  | [] => trivial
  | v :: vs => ⟨rep_ofV_cl v, rep_ofV_cls vs⟩
theorem rep_ofV (v : Value) : RepAV w V ι bx (AV.ofV v) v := by
  unfold AV.ofV
  split
  · simp only [RepAV]
    exact ⟨_, rfl, rep_ofV_cls _⟩
  · simp only [RepAV]
    exact ⟨_, rfl, by simp only [RepAVs]⟩
  · simp only [RepAV]
    exact rep_ofV_cl _
theorem rep_bool {x : AV} {u : Value} {b : Bool} (h : RepAV w V ι bx x u) (hb : x.bool? = some b) : u = .bool b := by
  unfold AV.bool? at hb
  split at hb
  · injection hb with hb; subst hb; simp only [RepAV, RepCl, RepD] at h; exact h
  · injection hb with hb; subst hb; simp only [RepAV, RepCl] at h; exact h.1
  · cases hb
theorem rep_dv_cl {c : Cl} {u : Value} {d : DV} (h : RepCl w V ι bx c u) (hd : c.dv = some d) : RepD w V d u := by
  unfold Cl.dv at hd
  split at hd
  · injection hd with hd; subst hd; exact h
  · injection hd with hd; subst hd; simp only [RepD]; exact h.1
  · injection hd with hd; subst hd
    simp only [RepD]
    exact ⟨none, 0, h, Nat.le_refl _, Nat.zero_le _, fun e => absurd rfl e⟩
  · cases hd
theorem rep_dv {x : AV} {u : Value} {d : DV} (h : RepAV w V ι bx x u) (hd : x.dv = some d) : RepD w V d u := by
  unfold AV.dv at hd
  split at hd
  · simp only [RepAV] at h; exact rep_dv_cl h hd
  · cases hd
theorem rep_int {x : AV} {u : Value} {k : IntKind} {n : Int} (h : RepAV w V ι bx x u) (hd : x.dv = some (.int k n)) : u = .int k n ∧ inK k n := by
  have := rep_dv h hd
  simpa only [RepD] using this
theorem rep_cls_len : ∀ {cs : List Cl} {vs : List Value}, RepCls w V ι bx cs vs → cs.length = vs.length
  | [], [], _ => rfl
  | _ :: _, _ :: _, h => by simp [rep_cls_len h.2]
  | [], _ :: _, h => h.elim
  | _ :: _, [], h => h.elim
theorem rep_ds_len : ∀ {cs : List DV} {vs : List Value}, RepDs w V cs vs → cs.length = vs.length
  | [], [], _ => rfl
  | _ :: _, _ :: _, h => by simp [rep_ds_len h.2]
  | [], _ :: _, h => h.elim
  | _ :: _, [], h => h.elim
theorem rep_cls_at : ∀ {cs : List Cl} {vs : List Value}, RepCls w V ι bx cs vs → ∀ (i : Nat) c, cs[i]? = some c → ∃ v, vs[i]? = some v ∧ RepCl w V ι bx c v
  | c :: cs, v :: vs, h, 0, c', hc => by simp at hc; subst hc; exact ⟨v, rfl, h.1⟩
  | c :: cs, v :: vs, h, i + 1, c', hc => by simpa using rep_cls_at h.2 i c' (by simpa using hc)
  | [], _, _, i, c, hc => by simp at hc
  | _ :: _, [], h, _, _, _ => h.elim
theorem rep_cls_of : ∀ {cs : List Cl} {vs : List Value}, cs.length = vs.length → (∀ (i : Nat) c v, cs[i]? = some c → vs[i]? = some v → RepCl w V ι bx c v) → RepCls w V ι bx cs vs
  | [], [], _, _ => trivial
  | c :: cs, v :: vs, hl, h => ⟨h 0 c v rfl rfl, rep_cls_of (by simpa using hl) fun i c' v' hc hv => h (i + 1) c' v' (by simpa using hc) (by simpa using hv)⟩
  | [], _ :: _, hl, _ => by simp at hl
  | _ :: _, [], hl, _ => by simp at hl
theorem rep_cls_iff {cs : List Cl} {vs : List Value} : RepCls w V ι bx cs vs ↔ cs.length = vs.length ∧ ∀ (i : Nat) c v, cs[i]? = some c → vs[i]? = some v → RepCl w V ι bx c v :=
  ⟨fun h => ⟨rep_cls_len h, fun i c v hc hv => by
    obtain ⟨v', h1, h2⟩ := rep_cls_at h i c hc
    rw [h1] at hv; injection hv with hv; subst hv; exact h2⟩, fun h => rep_cls_of h.1 h.2⟩
theorem rep_ds_at : ∀ {cs : List DV} {vs : List Value}, RepDs w V cs vs → ∀ (i : Nat) c, cs[i]? = some c → ∃ v, vs[i]? = some v ∧ RepD w V c v
  | c :: cs, v :: vs, h, 0, c', hc => by simp at hc; subst hc; exact ⟨v, rfl, h.1⟩
  | c :: cs, v :: vs, h, i + 1, c', hc => by simpa using rep_ds_at h.2 i c' (by simpa using hc)
  | [], _, _, i, c, hc => by simp at hc
  | _ :: _, [], h, _, _, _ => h.elim
theorem rep_ds_of : ∀ {cs : List DV} {vs : List Value}, cs.length = vs.length → (∀ (i : Nat) c v, cs[i]? = some c → vs[i]? = some v → RepD w V c v) → RepDs w V cs vs
  | [], [], _, _ => trivial
  | c :: cs, v :: vs, hl, h => ⟨h 0 c v rfl rfl, rep_ds_of (by simpa using hl) fun i c' v' hc hv => h (i + 1) c' v' (by simpa using hc) (by simpa using hv)⟩
  | [], _ :: _, hl, _ => by simp at hl
  | _ :: _, [], hl, _ => by simp at hl
theorem rep_ds_iff {cs : List DV} {vs : List Value} : RepDs w V cs vs ↔ cs.length = vs.length ∧ ∀ (i : Nat) c v, cs[i]? = some c → vs[i]? = some v → RepD w V c v :=
  ⟨fun h => ⟨rep_ds_len h, fun i c v hc hv => by
    obtain ⟨v', h1, h2⟩ := rep_ds_at h i c hc
    rw [h1] at hv; injection hv with hv; subst hv; exact h2⟩, fun h => rep_ds_of h.1 h.2⟩
theorem rep_dvs : ∀ {cs : List Cl} {vs : List Value} {ds : List DV}, RepCls w V ι bx cs vs → dvs cs = some ds → RepDs w V ds vs
  | [], [], ds, _, hd => by simp [dvs] at hd; subst hd; trivial
  | c :: cs, v :: vs, ds, h, hd => by
    simp only [dvs] at hd
    cases h1 : c.dv with
    | none => rw [h1] at hd; cases hd
    | some d =>
      cases h2 : dvs cs with
      | none => rw [h1, h2] at hd; cases hd
      | some ds' =>
        rw [h1, h2] at hd
        injection hd with hd; subst hd
        exact ⟨rep_dv_cl h.1 h1, rep_dvs h.2 h2⟩
  | [], _ :: _, _, h, _ => h.elim
  | _ :: _, [], _, h, _ => h.elim
theorem rep_of_ds : ∀ {ds : List DV} {vs : List Value}, RepDs w V ds vs → RepCls w V ι bx (ds.map .d) vs
  | [], [], _ => trivial
  | _ :: _, _ :: _, h => ⟨h.1, rep_of_ds h.2⟩
  | [], _ :: _, h => h.elim
  | _ :: _, [], h => h.elim
theorem cl_one {c : Cl} {v : Value} (h : RepCl w V ι bx c v) (hc : c.ok = true) : v.oneCell' = true := by
  cases c with
  | d x => exact RepD.one h
  | lit u => rw [h.1]; exact h.2
  | nil => rw [show v = _ from h]; rfl
  | ptr b off => obtain ⟨_, g, c, _, rfl⟩ := h; rfl
  | vp xs off => obtain ⟨g, o, rfl, _⟩ := h; rfl
  | ref b len =>
    obtain ⟨_, h⟩ := h
    rcases h with ⟨_, _, rfl⟩ | ⟨g, cap, _, rfl, _⟩ <;> rfl
  | clo f cs => obtain ⟨lb, rfl, _⟩ := h; rfl
  | dead => simp [Cl.ok] at hc
theorem rep_cls {x : AV} {u : Value} {cs : List Cl} (h : RepAV w V ι bx x u) (hc : x.cls = some cs) : RepCls w V ι bx cs u.cells.toList := by
  unfold AV.cls at hc
  split at hc
  · split at hc
    · rename_i c hok
      injection hc with hc; subst hc
      simp only [RepAV] at h
      rw [oneCell_cells (cl_one h hok)]
      exact ⟨h, trivial⟩
    · cases hc
  · injection hc with hc; subst hc
    simp only [RepAV] at h
    obtain ⟨cur, rfl, h⟩ := h
    exact h
  · cases hc
/-- a value is an aggregate exactly where its type is one -/
theorem rep_aggOr {agg : Bool} {cs : List Cl} {v : AV} {us : List Value} (h : RepCls w V ι bx cs us) (he : aggOr agg cs = some v) :
    RepAV w V ι bx v (if agg then .agg us.toArray else us.headD undef) ∧ (agg = false → us.length = 1) := by
  unfold aggOr at he
  cases agg with
  | true =>
    simp only [if_true] at he ⊢
    injection he with he; subst he
    simp only [RepAV]
    exact ⟨⟨_, rfl, by simpa using h⟩, fun e => by cases e⟩
  | false =>
    simp only [Bool.false_eq_true, if_false] at he ⊢
    cases cs with
    | nil => cases he
    | cons c cs =>
      cases cs with
      | nil =>
        injection he with he; subst he
        cases us with
        | nil => exact h.elim
        | cons u us =>
          cases us with
          | nil => simp only [RepAV, List.headD]; exact ⟨h.1, fun _ => rfl⟩
          | cons _ _ => exact h.2.elim
      | cons _ _ => cases he
end

section
variable {w0 : World} {S : Scope} {n : Dom} {s : AS} {ι : Names} {a : Act} {w : World}
theorem RepS.eval (h : RepS w0 S n s ι a w) (x : Operand) : RepAV w (Seen S w0.heap.size s.bx ι) ι s.bx (s.eval x) (a.eval x) := by
  cases x with
  | tmp t => exact h.tm t
  | const v => exact rep_ofV v
  | global g => simp only [AS.eval, RepAV, RepCl]
  | func f => simp only [AS.eval, RepAV, RepCl, RepD]; rfl
end

/-- what is to be shown of an operation -/
def Sound (P : Program) (o : Oper) (s : AS) (vc : Prop) (v : AV) (wrs : List Nat) (bs : List Bx) : Prop :=
  ∀ (w0 : World) (S : Scope) (n : Dom) (ι : Names) (a : Act) (w : World) (K : Act → World → Prop) (Q : Exit → Act → World → Prop), RepS w0 S n s ι a w → vc →
    (∀ ι' u w', RepS w0 S n (s.setBs wrs bs) ι' a w' → RepAV w' (Seen S w0.heap.size (s.setBs wrs bs).bx ι') ι' (s.setBs wrs bs).bx v u → K (a.put o.dst u) w') → o.wp P a w K Q

theorem Sound.val {P : Program} {o : Oper} {s : AS} {vc : Prop} {v : AV}
    (h : ∀ (w0 : World) (S : Scope) (n : Dom) (ι : Names) (a : Act) (w : World), RepS w0 S n s ι a w → vc → ∃ u, (execOp a.eval o).run P w = .ok (.value u) w ∧ RepAV w (Seen S w0.heap.size s.bx ι) ι s.bx v u) :
    Sound P o s vc v [] [] := by
  intro w0 S n ι a w K Q hr hvc hK
  obtain ⟨u, h1, h2⟩ := h w0 S n ι a w hr hvc
  unfold Oper.wp
  rw [h1]
  exact hK ι u w hr h2

/-- an effect is right: whatever it answers is sound -/
def Right (P : Program) (o : Oper) (s : AS) (e : Option Eff) : Prop :=
  ∀ e', e = some e' → ∀ vc v bs, e'.f (e'.rds.map s.bx) = some (vc, v, bs) → Sound P o s vc v e'.wrs bs
theorem Right.none {P : Program} {o : Oper} {s : AS} : Right P o s none := fun _ h => by cases h
theorem Right.val {P : Program} {o : Oper} {s : AS} {vc : Prop} {v : AV}
    (h : ∀ (w0 : World) (S : Scope) (n : Dom) (ι : Names) (a : Act) (w : World), RepS w0 S n s ι a w → vc → ∃ u, (execOp a.eval o).run P w = .ok (.value u) w ∧ RepAV w (Seen S w0.heap.size s.bx ι) ι s.bx v u) :
    Right P o s (some (.val vc v)) := by
  intro e' he vc' v' bs hf
  injection he with he; subst he
  simp only [Eff.val] at hf ⊢
  injection hf with hf
  simp only [Prod.mk.injEq] at hf
  obtain ⟨rfl, rfl, rfl⟩ := hf
  exact Sound.val h

section
variable {P : Program} {o : Oper} {s : AS}
theorem right_move {x : Operand} (ho : o.op = .move x ∨ o.op = .assign x) : Right P o s (some (.val True (s.eval x))) :=
  .val fun w0 S n ι a w h _ => ⟨a.eval x, by rcases ho with ho | ho <;> simp [execOp, ho], h.eval x⟩
theorem right_pick {c x y : Operand} (ho : o.op = .pick c x y) : Right P o s (opPick s.eval c x y) := by
  unfold opPick
  split
  · rename_i b hb
    refine .val fun w0 S n ι a w h _ => ⟨if b then a.eval x else a.eval y, ?_, ?_⟩
    · have := rep_bool (h.eval c) hb
      simp [execOp, ho, this, asBool]
    · cases b
      · exact h.eval y
      · exact h.eval x
  · exact .none
theorem right_un {op : UnOp} {t : TypeId} {x : Operand} (ho : o.op = .unOp op t x) : Right P o s (opUn s.eval op x) := by
  unfold opUn
  split
  · rename_i b hb
    refine .val fun w0 S n ι a w h _ => ⟨.bool !b, ?_, ?_⟩
    · have := h.eval x
      rw [hb] at this
      simp only [RepAV, RepCl] at this
      simp [execOp, ho, this.1, Op.unary]
    · exact ⟨rfl, rfl⟩
  · rename_i b hb
    refine .val fun w0 S n ι a w h _ => ⟨.bool !b, ?_, ?_⟩
    · have := h.eval x
      rw [hb] at this
      simp only [RepAV, RepCl, RepD] at this
      simp [execOp, ho, this, Op.unary]
    · simp only [RepAV, RepCl, RepD]
  · rename_i k m hb
    refine .val fun w0 S n ι a w h _ => ⟨.int k (k.wrap (0 - m)), ?_, ?_⟩
    · have := h.eval x
      rw [hb] at this
      simp only [RepAV, RepCl, RepD] at this
      simp only [execOp, ho, this.1, Op.unary, Op.intArith, Sem.run_bind, Sem.run_pure, Result.andThen_ok]
    · simp only [RepAV, RepCl, RepD, true_and]
      exact wf_wrap _ _
  · rename_i k m hb
    refine .val fun w0 S n ι a w h _ => ⟨.int k (k.wrap (BitVec.ofInt k.bits (if k.signed then -1 else k.max) ^^^ BitVec.ofInt k.bits m).toNat), ?_, ?_⟩
    · have := h.eval x
      rw [hb] at this
      simp only [RepAV, RepCl, RepD] at this
      simp only [execOp, ho, this.1, Op.unary, Op.intBits, Sem.run_bind, Sem.run_pure, Result.andThen_ok]
    · simp only [RepAV, RepCl, RepD, true_and]
      exact wf_wrap _ _
  · exact .none
theorem right_conv {src dst : TypeId} {x : Operand} (ho : o.op = .convert src dst x) : Right P o s (opConv P s.eval src dst x) := by
  unfold opConv
  split
  · rename_i d1 k k' m h1 h2 hb
    refine .val fun w0 S n ι a w h _ => ⟨.int k (k.wrap m), ?_, ?_⟩
    · have := h.eval x
      rw [hb] at this
      simp only [RepAV, RepCl, RepD] at this
      simp [execOp, ho, this.1, convert, run_underlying h1, run_underlying h2, Conv.intToInt]
    · simp only [RepAV, RepCl, RepD, true_and]
      exact wf_wrap _ _
  · rename_i d1 m h1 h2 hb
    refine .val fun w0 S n ι a w h _ => ⟨.string m, ?_, ?_⟩
    · have := h.eval x
      rw [hb] at this
      simp only [RepAV, RepCl, RepD] at this
      simp [execOp, ho, this.1, convert, run_underlying h1, run_underlying h2]
    · have := h.eval x
      rw [hb] at this
      simp only [RepAV, RepCl, RepD, true_and] at this ⊢
      exact this.2
  · exact .none
theorem right_extract {x : Operand} {i : Nat} (ho : o.op = .extract x i) : Right P o s (opExtract s.eval x i) := by
  unfold opExtract
  split
  · rename_i vs hb
    cases hi : vs[i]? with
    | none => exact .none
    | some v =>
      refine .val fun w0 S n ι a w h _ => ?_
      have := h.eval x
      rw [hb] at this
      simp only [RepAV] at this
      obtain ⟨cur, e, hr⟩ := this
      have key : ∀ (vs : List AV) (us : List Value) (i : Nat) (v : AV), RepAVs w (Seen S w0.heap.size s.bx ι) ι s.bx vs us → vs[i]? = some v → ∃ u, us[i]? = some u ∧ RepAV w (Seen S w0.heap.size s.bx ι) ι s.bx v u := by
        intro vs
        induction vs with
        | nil => intro us i v _ hv; simp at hv
        | cons x xs ih =>
          intro us i v hr hv
          cases us with
          | nil => simp only [RepAVs] at hr
          | cons u us =>
            simp only [RepAVs] at hr
            cases i with
            | zero => simp at hv; subst hv; exact ⟨u, rfl, hr.1⟩
            | succ i => simpa using ih us i v hr.2 (by simpa using hv)
      obtain ⟨u, hu, hru⟩ := key _ _ _ _ hr hi
      refine ⟨u, ?_, hru⟩
      have hu' : cur[i]? = some u := by simpa using hu
      simp [execOp, ho, e, Instr.extract, hu']
  · exact .none
theorem right_nilCheck {x : Operand} (ho : o.op = .nilCheck x) : Right P o s (opNilCheck s.eval x) := by
  unfold opNilCheck
  split
  · rename_i b off hb
    refine .val fun w0 S n ι a w h _ => ?_
    have := h.eval x
    rw [hb] at this
    have h2 := this
    simp only [RepAV, RepCl] at this
    obtain ⟨_, g, c, _, e⟩ := this
    exact ⟨a.eval x, by simp [execOp, ho, e], h2⟩
  · rename_i cs off hb
    refine .val fun w0 S n ι a w h _ => ?_
    have := h.eval x
    rw [hb] at this
    have h2 := this
    simp only [RepAV, RepCl] at this
    obtain ⟨g, c, e, _⟩ := this
    exact ⟨a.eval x, by simp [execOp, ho, e], h2⟩
  · exact .none
end
end Go.Proofs.Ytoljdijpmnadpaa
