/-
  A function's whole text as one plain statement (loops by what holds at their heads); and that it suffices.
-/
import Derived.Test.YtoljdijpmnadpaaAbT
namespace Go.Proofs.Ytoljdijpmnadpaa
open Go.RowKit
set_option linter.unusedVariables false
set_option linter.unusedSimpArgs false

structure Snap where
  tm : List (Nat × AV)
  bx : List (Nat × Bx)
def lookT : List (Nat × AV) → Nat → AV
  | [], _ => .one .dead
  | (t', v) :: r, t => if t = t' then v else lookT r t
def lookX : List (Nat × Bx) → Nat → Bx
  | [], _ => .fresh
  | (t', v) :: r, t => if t = t' then v else lookX r t
def Snap.as (sn : Snap) : AS := ⟨lookT sn.tm, lookX sn.bx⟩

/-! ### a state fits a looser one -/
abbrev Ren := List (Nat × Option Nat)
def renOf : Ren → Nat → Option (Option Nat)
  | [], _ => none
  | (b', x) :: r, b => if b = b' then some x else renOf r b
def fitCap : Cap → Cap → Option (Prop × Ren)
  | .d v, .d v' => some (v' = v, [])
  | .ptr b off, .ptr b' off' => some (off' = off, [(b, some b')])
  | _, _ => none
def fitCaps : List Cap → List Cap → Option (Prop × Ren)
  | [], [] => some (True, [])
  | c :: cs, c' :: cs' => match fitCap c c', fitCaps cs cs' with
    | some (p, r), some (q, r') => some (p ∧ q, r ++ r')
    | _, _ => none
  | _, _ => none
def fitCl : Cl → Cl → Option (Prop × Ren)
  | .dead, _ => some (True, [])
  | .d v, .d v' => some (v' = v, [])
  | .d v, .lit (.bool b) => some (DV.bool b = v, [])
  | .d v, .nil => some (DV.sl 0 [] = v, [])
  | .lit u, .lit u' => some (u' = u, [])
  | .nil, .nil => some (True, [])
  | .ptr b off, .ptr b' off' => some (off' = off, [(b, some b')])
  | .vp cs off, .vp cs' off' => some (cs' = cs ∧ off' = off, [])
  | .ref b n, .ref b' n' => some (n' = n, [(b, some b')])
  | .ref b n, .nil => some (0 = n, [(b, none)])
  | .clo f cs, .clo f' cs' => if f' = f then fitCaps cs cs' else none
  | _, _ => none
def fitCls0 : List Cl → List Cl → Option (Prop × Ren)
  | [], [] => some (True, [])
  | c :: cs, c' :: cs' => match fitCl c c', fitCls0 cs cs' with
    | some (p, r), some (q, r') => some (p ∧ q, r ++ r')
    | _, _ => none
  | _, _ => none
def dataOf : List Cl → Option (List DV)
  | [] => some []
  | .d v :: cs => match dataOf cs with
    | some vs => some (v :: vs)
    | none => none
  | _ :: _ => none
/-- cells that are data alone fit as one list -/
def fitCls (cs cs' : List Cl) : Option (Prop × Ren) := match dataOf cs, dvs cs' with
  | some xs, some ys => some (ys = xs, [])
  | _, _ => fitCls0 cs cs'
mutual
def fitAV : AV → AV → Option (Prop × Ren)
  | .one c, .one c' => fitCl c c'
  | .one .dead, _ => some (True, [])
  | .agg cs, .agg cs' => fitCls cs cs'
  | .tup vs, .tup vs' => fitAVs vs vs'
  | _, _ => none
def fitAVs : List AV → List AV → Option (Prop × Ren)
  | [], [] => some (True, [])
  | x :: xs, y :: ys => match fitAV x y, fitAVs xs ys with
    | some (p, r), some (q, r') => some (p ∧ q, r ++ r')
    | _, _ => none
  | _, _ => none
end
def fitTm (s : AS) : List (Nat × AV) → Option (Prop × Ren)
  | [] => some (True, [])
  | (t, v) :: l => match fitAV v (s.tm t), fitTm s l with
    | some (p, r), some (q, r') => some (p ∧ q, r ++ r')
    | _, _ => none
def fitBx : Bx → Bx → Option (Prop × Ren)
  | .cells cs, .cells cs' => fitCls cs cs'
  | .row e size xs, .row e' size' xs' => if e' = e ∧ size' = size then some (xs' = xs, []) else none
  | .ice xs, .ice xs' => some (xs' = xs, [])
  | .gone, .gone => some (True, [])
  | _, _ => none
/-- the boxes, in their order: each one's name must be known when it is reached -/
def fitBxs (s : AS) : List (Nat × Bx) → Ren → Option (Prop × Ren)
  | [], r => some (True, r)
  | (b, B) :: l, r => match renOf r b with
    | some (some b') => match fitBx B (s.bx b') with
      | some (p, r') => match fitBxs s l (r ++ r') with
        | some (q, r'') => some (p ∧ q, r'')
        | none => none
      | none => none
    | some none => match B with
      | .row _ _ xs => match fitBxs s l r with
        | some (q, r'') => some ([] = xs ∧ q, r'')
        | none => none
      | _ => none
    | none => none
def renOK (bx : List (Nat × Bx)) (r : Ren) : Bool :=
  (r.all fun p => (renOf r p.1 == some p.2) && bx.any fun q => q.1 == p.1) &&
  (r.all fun p => r.all fun q => p.1 == q.1 || p.2 == none || p.2 != q.2) && decide ((bx.map (·.1)).Nodup)
def pins (l : List Nat) : Ren := l.map fun j => (j, some j)
def fits0 (n : Dom) (s : AS) (sn : Snap) : Prop :=
  match fitTm s sn.tm with
  | some (p, r) => match fitBxs s sn.bx (r ++ pins n.pin) with
    | some (q, r') => match renOK sn.bx r' with
      | true => p ∧ q
      | false => False
    | none => False
  | none => False

/-- a row of the call's own that is from now on read alone: data -/
def AS.melt1 (s : AS) (t : Nat) : AS := match s.tm t with
  | .one (.ref b n) => match inside (s.bx b) with
    | some xs => ⟨fun t' => if t' = t then .one (.d (.sl n xs)) else s.tm t', fun b' => if b' = b then (s.bx b).freeze else s.bx b'⟩
    | none => s
  | _ => s
def meltFor : List (Nat × AV) → AS → AS
  | [], s => s
  | (t, .one (.d _)) :: l, s => meltFor l (s.melt1 t)
  | _ :: l, s => meltFor l s
def fits (n : Dom) (s : AS) (sn : Snap) : Prop := fits0 n (meltFor sn.tm s) sn

structure Inv where
  α : Type
  ok : α → Prop
  st : α → Snap
  μ : α → Nat
inductive Ann : Type 1 where
  | leaf
  | seq (a b : Ann)
  | loop (I : Inv) (a : I.α → Ann)
  | cut (I : Inv) (a : Ann) (b : I.α → Ann)
  /-- a loop whose rounds are known: what holds at the head in this round; the next round -/
  | link (I : Inv) (a : I.α → Ann) (next : Ann)
  /-- behind the first part, slot t is one of some numbers -/
  | split (a : Ann) (t : Nat) (bs : Ann)
  | opt (v : Int) (b : Ann) (next : Ann)
  /-- a condition whose answer is known -/
  | sure (b : Bool) (a : Ann)
  /-- behind the first part, some rows are frozen, and some slots with rows are from then on data -/
  | ice (bs ts : List Nat) (a b : Ann)
  /-- behind an operation of a region, slot t is one of some numbers -/
  | splitAt (i t : Nat) (vs : List Int)
  /-- a range over a function: what holds at its heads (μ: how many items are done), the slots that stay -/
  | range (I : Inv) (T : List Nat) (a b : I.α → Ann)
def Ann.l : Ann → Ann
  | .seq a _ => a
  | _ => .leaf
def Ann.r : Ann → Ann
  | .seq _ b => b
  | _ => .leaf
inductive AExit where
  | normal
  | exit (id : Nat)
  | ret
def kn0 : Kn := fun _ => none

def linkIn (n : Dom) : Ann → AS → Prop
  | .link I _ _, s => ∃ z, I.ok z ∧ fits n s (I.st z)
  | _, _ => False
def linkVC (n : Dom) (f : Ann → Kn → AS → (AExit → Kn → AS → Prop) → Prop) (Q : AExit → Kn → AS → Prop) : Ann → Prop
  | .link I a next => (∀ z, I.ok z → f (a z) kn0 (I.st z).as fun e kn' s' => match e with
      | .normal => linkIn n next s'
      | e => Q e kn' s') ∧ linkVC n f Q next
  | _ => True
def optOr (e : Int) : Ann → Prop
  | .opt v _ next => e = v ∨ optOr e next
  | _ => False
def optAnd (f : Ann → Kn → AS → (AExit → Kn → AS → Prop) → Prop) (k : IntKind) (e : Int) (kn : Kn) (s : AS) (t : Nat) (Q : AExit → Kn → AS → Prop) : Ann → Prop
  | .opt v b next => (e = v → f b (knPut kn (some t) none) (s.put (some t) (.one (.d (.int k v)))) Q) ∧ optAnd f k e kn s t Q next
  | _ => True
def optVC (f : Ann → Kn → AS → (AExit → Kn → AS → Prop) → Prop) (kn : Kn) (s : AS) (t : Nat) (bs : Ann) (Q : AExit → Kn → AS → Prop) : Prop :=
  match s.tm t with
  | .one (.d (.int k e)) => optOr e bs ∧ optAnd f k e kn s t Q bs
  | _ => False
/-! ### ranges over functions -/
def capCell (bx : Nat → Bx) : Cap → Option (Bool × List DV)
  | .d v => if v.plain.isSome then some (false, [v]) else none
  | .ptr b off => if off = 0 then match bx b with
    | .cells cs => match dvs cs with
      | some ds => if ds.all (fun d => d.plain.isSome) then some (true, ds) else none
      | none => none
    | _ => none else none
def capCells (bx : Nat → Bx) : List Cap → Option (List (Bool × List DV))
  | [] => some []
  | c :: cs => match capCell bx c, capCells bx cs with
    | some x, some xs => some (x :: xs)
    | _, _ => none
def AS.only (T : List Nat) (s : AS) : AS := ⟨fun t => if T.contains t then s.tm t else .one .dead, s.bx⟩
def AS.putAll : AS → List Nat → List DV → AS
  | s, p :: ps, d :: ds => (s.put (some p) (.one (.d d))).putAll ps ds
  | s, _, _ => s
def Dom.pinned (n : Dom) (names : List Nat) : Dom := ⟨n.n, n.keep, n.pin ++ names, n.round⟩
def Dom.inner (n : Dom) (T names : List Nat) : Dom := ⟨n.n, fun t => n.keep t || T.contains t, n.pin ++ names, true⟩
def plainOK : DV → Prop
  | .int k n => k.min ≤ n ∧ n ≤ k.max
  | .bool _ => True
  | .str s => s.size ≤ maxLen
  | _ => False
def plainsOK : List DV → Prop
  | [] => True
  | d :: ds => plainOK d ∧ plainsOK ds
def psOK (ps T : List Nat) (n : Dom) : Bool := (ps.all fun p => decide (p < n.n) && !T.contains p && !n.keep p) && decide ps.Nodup
abbrev VCF := Dom → Ann → Kn → AS → (AExit → Kn → AS → Prop) → Prop
def rangeVC (P : Program) (Γ : Gam) (n : Dom) (fA fB : VCF) (g : Operand) (ps : List Nat) (I : Inv) (T : List Nat) (a b : I.α → Ann) (s : AS) (Q : AExit → Kn → AS → Prop) : Prop :=
  match s.eval g with
  | .one (.clo f cs) => match capCells s.bx cs, enters P f && !n.round && psOK ps T n with
    | some caps, true => match Γ.iter f caps with
      | some (N, item) =>
        AnsI P f caps N item ∧ (∀ k, k < N → (item k).length = ps.length ∧ plainsOK (item k)) ∧
        (∃ z, I.ok z ∧ I.μ z = 0 ∧ fits (n.pinned (cs.flatMap Cap.names)) s (I.st z)) ∧
        (∀ z, I.ok z → capCells (lookX (I.st z).bx) cs = some caps ∧
          (I.μ z < N → fA (n.inner T (cs.flatMap Cap.names)) (a z) kn0 (((I.st z).as.only T).putAll ps (item (I.μ z))) fun e kn' s' => match e with
            | .normal => fB (n.inner T (cs.flatMap Cap.names)) (b z) kn' s' fun e kn' s' => match e with
              | .normal => ∃ y, I.ok y ∧ I.μ y = I.μ z + 1 ∧ fits (n.inner T (cs.flatMap Cap.names)) s' (I.st y)
              | e => Q e kn0 (s'.only T)
            | _ => False) ∧
          (I.μ z = N → Q .normal kn0 ((I.st z).as.only T)))
      | none => False
    | _, _ => False
  | _ => False

def melts : AS → List Nat → AS
  | s, [] => s
  | s, t :: ts => melts (s.melt1 t) ts
def orIs (e : Int) : List Int → Prop
  | [] => False
  | v :: vs => e = v ∨ orIs e vs
def andIs (e : Int) (k : IntKind) (t : Nat) (s : AS) (K : AS → Prop) : List Int → Prop
  | [] => True
  | v :: vs => (e = v → K (s.put (some t) (.one (.d (.int k v))))) ∧ andIs e k t s K vs
def splitVC (vs : List Int) (t : Nat) (s : AS) (K : AS → Prop) : Prop :=
  match s.tm t with
  | .one (.d (.int k e)) => orIs e vs ∧ andIs e k t s K vs
  | _ => False
def vcReg (P : Program) (Γ : Gam) (n : Dom) (ops : Array Oper) (ann : Ann) (kn : Kn) (s : AS) (K : Kn → AS → List (List Nat × List Nat) → Prop) : Prop :=
  match ann with
  | .splitAt i t vs => vcRun P Γ n ops ((List.range ops.size).take (i + 1)) kn s [] fun kn' s' acc => splitVC vs t s' fun s2 => vcRun P Γ n ops ((List.range ops.size).drop (i + 1)) kn' s2 acc K
  | _ => vcRun P Γ n ops (List.range ops.size) kn s [] K

def vcg (P : Program) (Γ : Gam) : Dom → Code → Ann → Kn → AS → (AExit → Kn → AS → Prop) → Prop
  | _, .skip, _, kn, s, Q => Q .normal kn s
  | _, .label _, _, kn, s, Q => Q .normal kn s
  | _, .exit id, _, kn, s, Q => Q (.exit id) kn s
  | _, .ret, _, kn, s, Q => Q .ret kn s
  | n, .region _ ops draw, ann, kn, s, Q => vcReg P Γ n ops ann kn s fun kn' s' acc => match draw with
    | true => regOK ops (fun i => acc.reverse.getD i ([], [])) = true ∧ Q .normal kn' s'
    | false => Q .normal kn' s'
  | n, .seq x y, ann, kn, s, Q => match ann with
    | .cut I a b => vcg P Γ n x a kn s (fun e kn' s' => match e with
        | .normal => ∃ z, I.ok z ∧ fits n s' (I.st z)
        | e => Q e kn' s') ∧ ∀ z, I.ok z → vcg P Γ n y (b z) kn0 (I.st z).as Q
    | .ice bs ts a b => vcg P Γ n x a kn s fun e kn' s' => match e with
        | .normal => vcg P Γ n y b kn' (melts (ices s' bs) ts) Q
        | e => Q e kn' s'
    | .split a t bs => vcg P Γ n x a kn s fun e kn' s' => match e with
        | .normal => optVC (vcg P Γ n y) kn' s' t bs Q
        | e => Q e kn' s'
    | ann => vcg P Γ n x ann.l kn s fun e kn' s' => match e with
        | .normal => vcg P Γ n y ann.r kn' s' Q
        | e => Q e kn' s'
  | n, .cond c x y, ann, kn, s, Q => match ann with
    | .sure b a => match (s.eval c).bool? with
      | some b' => b' = b ∧ match b with
        | true => vcg P Γ n x a kn s Q
        | false => vcg P Γ n y a kn s Q
      | none => False
    | ann => match kx kn c with
      | some true => vcg P Γ n x ann.l kn s Q
      | some false => vcg P Γ n y ann.r kn s Q
      | none => match (s.eval c).bool? with
        | some b => (b = true → vcg P Γ n x ann.l kn s Q) ∧ (b = false → vcg P Γ n y ann.r kn s Q)
        | none => False
  | n, .block id c, ann, kn, s, Q => vcg P Γ n c ann kn s fun e kn' s' => match e with
    | .exit id' => match decide (id' = id) with
      | true => Q .normal kn' s'
      | false => Q (.exit id') kn' s'
    | e => Q e kn' s'
  | n, .loop c, ann, kn, s, Q => match ann with
    | .loop I a => (∃ z, I.ok z ∧ fits n s (I.st z)) ∧ ∀ z, I.ok z → vcg P Γ n c (a z) kn0 (I.st z).as fun e kn' s' => match e with
        | .normal => ∃ y, I.ok y ∧ I.μ y < I.μ z ∧ fits n s' (I.st y)
        | e => Q e kn' s'
    | .link I a next => linkIn n (.link I a next) s ∧ linkVC n (vcg P Γ n c) Q (.link I a next)
    | _ => False
  | n, .rangeFunc g ps x y, ann, kn, s, Q => match ann with
    | .range I T a b => rangeVC P Γ n (fun n' => vcg P Γ n' x) (fun n' => vcg P Γ n' y) g ps.toList I T a b s Q
    | _ => False
  | _, _, _, _, _, _ => False

/-! ### fitting is right -/
section
variable {w : World} {V : Nat → Prop} {ι : Names} {bx : Nat → Bx}
/-- the names of the looser state -/
def nm (ι : Names) (r : Ren) : Names := fun b => match renOf r b with
  | some (some b') => ι b'
  | _ => none
theorem fitCap_rep {ι' : Names} {bx' : Nat → Bx} {c c' : Cap} {v : Value} {p : Prop} {r r' : Ren} (hf : fitCap c c' = some (p, r)) (hp : p) (hr : ∀ q ∈ r, renOf r' q.1 = some q.2 ∧ (bx' q.1).known = true) (hι : ∀ b, ι' b = nm ι r' b)
    (h : RepCap ι bx w V c' v) : RepCap ι' bx' w V c v := by
  unfold fitCap at hf
  split at hf <;> first
    | (injection hf with hf; injection hf with hf1 hf2; subst hf1 hf2)
    | cases hf
  · subst hp; exact h
  · obtain ⟨h1, g, c, h2, h3⟩ := h
    subst hp
    obtain ⟨e1, e2⟩ := hr _ (List.mem_singleton.2 rfl)
    simp only at e1 e2
    exact ⟨e2, g, c, by rw [hι]; simp only [nm, e1]; exact h2, h3⟩
theorem fitCaps_rep {ι' : Names} {bx' : Nat → Bx} {r' : Ren} (hι : ∀ b, ι' b = nm ι r' b) : ∀ {cs cs' : List Cap} {vs : List Value} {p : Prop} {r : Ren}, fitCaps cs cs' = some (p, r) → p → (∀ q ∈ r, renOf r' q.1 = some q.2 ∧ (bx' q.1).known = true) →
    RepCaps ι bx w V cs' vs → RepCaps ι' bx' w V cs vs
  | [], [], [], _, _, _, _, _, _ => trivial
  | [], [], _ :: _, _, _, _, _, _, h => h.elim
  | c :: cs, c' :: cs', [], _, _, _, _, _, h => h.elim
  | c :: cs, c' :: cs', v :: vs, p, r, hf, hp, hr, h => by
    simp only [fitCaps] at hf
    cases h1 : fitCap c c' with
    | none => rw [h1] at hf; cases hf
    | some x =>
      cases h2 : fitCaps cs cs' with
      | none => rw [h1, h2] at hf; cases hf
      | some y =>
        rw [h1, h2] at hf
        simp only [Option.some.injEq, Prod.mk.injEq] at hf
        obtain ⟨rfl, rfl⟩ := hf
        exact ⟨fitCap_rep h1 hp.1 (fun q hq => hr q (by simp [hq])) hι h.1, fitCaps_rep hι h2 hp.2 (fun q hq => hr q (by simp [hq])) h.2⟩
  | [], _ :: _, _, _, _, hf, _, _, _ => by cases hf
  | _ :: _, [], _, _, _, hf, _, _, _ => by cases hf
theorem fitCl_rep {ι' : Names} {bx' : Nat → Bx} {c c' : Cl} {v : Value} {p : Prop} {r r' : Ren} (hf : fitCl c c' = some (p, r)) (hp : p) (hr : ∀ q ∈ r, renOf r' q.1 = some q.2 ∧ (bx' q.1).known = true) (hι : ∀ b, ι' b = nm ι r' b)
    (h : RepCl w V ι bx c' v) : RepCl w V ι' bx' c v := by
  unfold fitCl at hf
  split at hf <;> first
    | (injection hf with hf; injection hf with hf1 hf2; subst hf1 hf2)
    | cases hf
    | skip
  · trivial
  · subst hp; exact h
  · subst hp; exact rep_dv_cl (d := .bool _) h rfl
  · subst hp; exact rep_dv_cl (d := .sl 0 []) h rfl
  · subst hp; exact h
  · exact h
  · obtain ⟨h1, g, c, h2, h3⟩ := h
    subst hp
    obtain ⟨e1, e2⟩ := hr _ (List.mem_singleton.2 rfl)
    simp only at e1 e2
    exact ⟨e2, g, c, by rw [hι]; simp only [nm, e1]; exact h2, h3⟩
  · obtain ⟨rfl, rfl⟩ := hp; exact h
  · obtain ⟨h1, h2⟩ := h
    subst hp
    obtain ⟨e1, e2⟩ := hr _ (List.mem_singleton.2 rfl)
    simp only at e1 e2
    exact ⟨e2, by rw [hι]; simp only [nm, e1]; exact h2⟩
  · subst hp
    obtain ⟨e1, e2⟩ := hr _ (List.mem_singleton.2 rfl)
    simp only at e1 e2
    exact ⟨e2, .inl ⟨by rw [hι]; simp only [nm, e1], rfl, h⟩⟩
  · split at hf
    · rename_i e
      subst e
      obtain ⟨lb, h1, h2⟩ := h
      exact ⟨lb, h1, fitCaps_rep hι hf hp hr h2⟩
    · cases hf
theorem fitCls0_rep {ι' : Names} {bx' : Nat → Bx} {r' : Ren} (hι : ∀ b, ι' b = nm ι r' b) : ∀ {cs cs' : List Cl} {vs : List Value} {p : Prop} {r : Ren}, fitCls0 cs cs' = some (p, r) → p → (∀ q ∈ r, renOf r' q.1 = some q.2 ∧ (bx' q.1).known = true) →
    RepCls w V ι bx cs' vs → RepCls w V ι' bx' cs vs
  | [], [], [], _, _, _, _, _, _ => trivial
  | [], [], _ :: _, _, _, _, _, _, h => h.elim
  | c :: cs, c' :: cs', [], _, _, _, _, _, h => h.elim
  | c :: cs, c' :: cs', v :: vs, p, r, hf, hp, hr, h => by
    simp only [fitCls0] at hf
    cases h1 : fitCl c c' with
    | none => rw [h1] at hf; cases hf
    | some x =>
      cases h2 : fitCls0 cs cs' with
      | none => rw [h1, h2] at hf; cases hf
      | some y =>
        rw [h1, h2] at hf
        simp only [Option.some.injEq, Prod.mk.injEq] at hf
        obtain ⟨rfl, rfl⟩ := hf
        exact ⟨fitCl_rep h1 hp.1 (fun q hq => hr q (by simp [hq])) hι h.1, fitCls0_rep hι h2 hp.2 (fun q hq => hr q (by simp [hq])) h.2⟩
  | [], _ :: _, _, _, _, hf, _, _, _ => by cases hf
  | _ :: _, [], _, _, _, hf, _, _, _ => by cases hf
theorem rep_dataOf {w : World} {V : Nat → Prop} {ι : Names} {bx : Nat → Bx} : ∀ {cs : List Cl} {vs : List Value} {ds : List DV}, dataOf cs = some ds → RepDs w V ds vs → RepCls w V ι bx cs vs
  | [], [], _, _, _ => trivial
  | [], _ :: _, ds, hd, h => by simp only [dataOf, Option.some.injEq] at hd; subst hd; exact h.elim
  | c :: cs, vs, ds, hd, h => by
    cases c <;> simp only [dataOf, reduceCtorEq] at hd
    rename_i v
    cases h2 : dataOf cs with
    | none => rw [h2] at hd; cases hd
    | some ds' =>
      rw [h2] at hd
      simp only [Option.some.injEq] at hd
      subst hd
      cases vs with
      | nil => exact h.elim
      | cons u vs => exact ⟨h.1, rep_dataOf h2 h.2⟩
theorem fitCls_rep {ι' : Names} {bx' : Nat → Bx} {r' : Ren} (hι : ∀ b, ι' b = nm ι r' b) {cs cs' : List Cl} {vs : List Value} {p : Prop} {r : Ren} (hf : fitCls cs cs' = some (p, r)) (hp : p) (hr : ∀ q ∈ r, renOf r' q.1 = some q.2 ∧ (bx' q.1).known = true)
    (h : RepCls w V ι bx cs' vs) : RepCls w V ι' bx' cs vs := by
  unfold fitCls at hf
  split at hf
  · rename_i xs ys h1 h2
    simp only [Option.some.injEq, Prod.mk.injEq] at hf
    obtain ⟨rfl, rfl⟩ := hf
    subst hp
    exact rep_dataOf h1 (rep_dvs h h2)
  · exact fitCls0_rep hι hf hp hr h
mutual
theorem fitAV_rep {ι' : Names} {bx' : Nat → Bx} {r' : Ren} (hι : ∀ b, ι' b = nm ι r' b) : ∀ {x y : AV} {v : Value} {p : Prop} {r : Ren}, fitAV x y = some (p, r) → p → (∀ q ∈ r, renOf r' q.1 = some q.2 ∧ (bx' q.1).known = true) →
    RepAV w V ι bx y v → RepAV w V ι' bx' x v
  | .one c, .one c', v, p, r, hf, hp, hr, h => by
    simp only [fitAV] at hf
    simp only [RepAV] at h ⊢
    exact fitCl_rep hf hp hr hι h
  | .one c, .agg cs', v, p, r, hf, hp, hr, h => by
    cases c <;> simp only [fitAV, reduceCtorEq] at hf
    simp only [RepAV, RepCl]
  | .one c, .tup vs', v, p, r, hf, hp, hr, h => by
    cases c <;> simp only [fitAV, reduceCtorEq] at hf
    simp only [RepAV, RepCl]
  | .agg cs, .agg cs', v, p, r, hf, hp, hr, h => by
    simp only [fitAV] at hf
    simp only [RepAV] at h ⊢
    obtain ⟨cur, e, h⟩ := h
    exact ⟨cur, e, fitCls_rep hι hf hp hr h⟩
  | .tup vs, .tup vs', v, p, r, hf, hp, hr, h => by
    simp only [fitAV] at hf
    simp only [RepAV] at h ⊢
    obtain ⟨cur, e, h⟩ := h
    exact ⟨cur, e, fitAVs_rep hι hf hp hr h⟩
  | .agg _, .one _, _, _, _, hf, _, _, _ => by simp [fitAV] at hf
  | .agg _, .tup _, _, _, _, hf, _, _, _ => by simp [fitAV] at hf
  | .tup _, .one _, _, _, _, hf, _, _, _ => by simp [fitAV] at hf
  | .tup _, .agg _, _, _, _, hf, _, _, _ => by simp [fitAV] at hf
theorem fitAVs_rep {ι' : Names} {bx' : Nat → Bx} {r' : Ren} (hι : ∀ b, ι' b = nm ι r' b) : ∀ {xs ys : List AV} {vs : List Value} {p : Prop} {r : Ren}, fitAVs xs ys = some (p, r) → p → (∀ q ∈ r, renOf r' q.1 = some q.2 ∧ (bx' q.1).known = true) →
    RepAVs w V ι bx ys vs → RepAVs w V ι' bx' xs vs
  | [], [], vs, _, _, _, _, _, h => by
    cases vs with
    | nil => simp only [RepAVs]
    | cons _ _ => simp only [RepAVs] at h
  | x :: xs, y :: ys, [], _, _, _, _, _, h => by simp only [RepAVs] at h
  | x :: xs, y :: ys, v :: vs, p, r, hf, hp, hr, h => by
    simp only [fitAVs] at hf
    cases h1 : fitAV x y with
    | none => rw [h1] at hf; cases hf
    | some a =>
      cases h2 : fitAVs xs ys with
      | none => rw [h1, h2] at hf; cases hf
      | some b =>
        rw [h1, h2] at hf
        simp only [Option.some.injEq, Prod.mk.injEq] at hf
        obtain ⟨rfl, rfl⟩ := hf
        simp only [RepAVs] at h ⊢
        exact ⟨fitAV_rep hι h1 hp.1 (fun q hq => hr q (by simp [hq])) h.1, fitAVs_rep hι h2 hp.2 (fun q hq => hr q (by simp [hq])) h.2⟩
  | [], _ :: _, _, _, _, hf, _, _, _ => by simp [fitAVs] at hf
  | _ :: _, [], _, _, _, hf, _, _, _ => by simp [fitAVs] at hf
end
end
theorem fitTm_at {s : AS} : ∀ {l : List (Nat × AV)} {p : Prop} {r : Ren}, fitTm s l = some (p, r) → p → ∀ t, lookT l t = .one .dead ∨ ∃ q r1, fitAV (lookT l t) (s.tm t) = some (q, r1) ∧ q ∧ ∀ x ∈ r1, x ∈ r
  | [], _, _, _, _, t => .inl rfl
  | (t', v) :: l, p, r, hf, hp, t => by
    simp only [fitTm] at hf
    cases h1 : fitAV v (s.tm t') with
    | none => rw [h1] at hf; cases hf
    | some a =>
      cases h2 : fitTm s l with
      | none => rw [h1, h2] at hf; cases hf
      | some b =>
        rw [h1, h2] at hf
        simp only [Option.some.injEq, Prod.mk.injEq] at hf
        obtain ⟨rfl, rfl⟩ := hf
        simp only [lookT]
        by_cases e : t = t'
        · subst e
          rw [if_pos rfl]
          exact .inr ⟨a.1, a.2, h1, hp.1, fun x hx => by simp [hx]⟩
        · rw [if_neg e]
          rcases fitTm_at h2 hp.2 t with h3 | ⟨q, r1, h3, h4, h5⟩
          · exact .inl h3
          · exact .inr ⟨q, r1, h3, h4, fun x hx => by simp [h5 x hx]⟩
theorem fitBxs_grow {s : AS} : ∀ {l : List (Nat × Bx)} {r r' : Ren} {p : Prop}, fitBxs s l r = some (p, r') → ∀ x ∈ r, x ∈ r'
  | [], r, r', p, h, x, hx => by simp only [fitBxs, Option.some.injEq, Prod.mk.injEq] at h; rw [← h.2]; exact hx
  | (b, B) :: l, r, r', p, h, x, hx => by
    simp only [fitBxs] at h
    split at h
    · split at h
      · split at h
        · rename_i h3
          simp only [Option.some.injEq, Prod.mk.injEq] at h
          rw [← h.2]
          exact fitBxs_grow h3 x (by simp [hx])
        · cases h
      · cases h
    · split at h
      · split at h
        · rename_i h3
          simp only [Option.some.injEq, Prod.mk.injEq] at h
          rw [← h.2]
          exact fitBxs_grow h3 x hx
        · cases h
      · cases h
    · cases h
theorem renOf_mem : ∀ {r : Ren} {b : Nat} {x : Option Nat}, renOf r b = some x → (b, x) ∈ r
  | [], _, _, h => by cases h
  | (b', y) :: r, b, x, h => by
    simp only [renOf] at h
    split at h
    · rename_i e; injection h with h; subst e h; simp
    · simp [renOf_mem h]
theorem fitBxs_at {s : AS} : ∀ {l : List (Nat × Bx)} {r r' : Ren} {p : Prop}, fitBxs s l r = some (p, r') → p → (l.map (·.1)).Nodup → ∀ b B, (b, B) ∈ l →
    (∃ b' q r1, (b, some b') ∈ r' ∧ fitBx B (s.bx b') = some (q, r1) ∧ q ∧ ∀ x ∈ r1, x ∈ r') ∨ ((b, none) ∈ r' ∧ ∃ e size, B = .row e size [])
  | (b0, B0) :: l, r, r', p, h, hp, hn, b, B, hm => by
    simp only [List.map_cons, List.nodup_cons] at hn
    simp only [fitBxs] at h
    split at h
    · rename_i b' hren
      split at h
      · rename_i q r1 h2
        split at h
        · rename_i q2 r2 h3
          simp only [Option.some.injEq, Prod.mk.injEq] at h
          obtain ⟨rfl, rfl⟩ := h
          rcases List.mem_cons.1 hm with e | hm
          · injection e with e1 e2
            subst e1 e2
            exact .inl ⟨b', q, r1, fitBxs_grow h3 _ (by simp [renOf_mem hren]), h2, hp.1, fun x hx => fitBxs_grow h3 x (by simp [hx])⟩
          · exact fitBxs_at h3 hp.2 hn.2 b B hm
        · cases h
      · cases h
    · rename_i hren
      split at h
      · rename_i e size xs
        split at h
        · rename_i q2 r2 h3
          simp only [Option.some.injEq, Prod.mk.injEq] at h
          obtain ⟨rfl, rfl⟩ := h
          rcases List.mem_cons.1 hm with e' | hm
          · injection e' with e1 e2
            subst e1 e2
            exact .inr ⟨fitBxs_grow h3 _ (renOf_mem hren), e, size, by rw [← hp.1]⟩
          · exact fitBxs_at h3 hp.2 hn.2 b B hm
        · cases h
      · cases h
    · cases h
theorem lookX_mem : ∀ {l : List (Nat × Bx)} {b : Nat}, (lookX l b).known = true → (b, lookX l b) ∈ l
  | [], _, h => by simp [lookX, Bx.known] at h
  | (b', B) :: l, b, h => by
    simp only [lookX] at h ⊢
    by_cases e : b = b'
    · subst e; simp
    · rw [if_neg e] at h ⊢; simp [lookX_mem h]
theorem lookX_of_mem : ∀ {l : List (Nat × Bx)} {b : Nat} {B : Bx}, (l.map (·.1)).Nodup → (b, B) ∈ l → lookX l b = B
  | (b', B') :: l, b, B, hn, h => by
    simp only [List.map_cons, List.nodup_cons] at hn
    rcases List.mem_cons.1 h with e | h
    · injection e with e1 e2; subst e1 e2; simp [lookX]
    · have : b ≠ b' := fun e => hn.1 (by rw [← e]; exact List.mem_map.2 ⟨_, h, rfl⟩)
      simp only [lookX, if_neg this]
      exact lookX_of_mem hn.2 h
theorem RepS.fit0 {w0 : World} {S : Scope} {n : Dom} {s : AS} {ι : Names} {a : Act} {w : World} (h : RepS w0 S n s ι a w) {sn : Snap} (hf : fits0 n s sn) : ∃ ι', RepS w0 S n sn.as ι' a w := by
  unfold fits0 at hf
  split at hf
  · rename_i p r h1
    split at hf
    · rename_i q r' h2
      split at hf
      · rename_i hok
        obtain ⟨hp, hq⟩ := hf
        simp only [renOK, Bool.and_eq_true, List.all_eq_true, decide_eq_true_eq] at hok
        obtain ⟨⟨o1, o2⟩, o3⟩ := hok
        have hren : ∀ x ∈ r', renOf r' x.1 = some x.2 := fun x hx => by
          have := (o1 x hx).1
          exact eq_of_beq this
        have hinj : ∀ b1 b2 b', (b1, some b') ∈ r' → (b2, some b') ∈ r' → b1 = b2 := fun b1 b2 b' m1 m2 => by
          have := o2 _ m1 _ m2
          simpa using this
        -- boxes of the looser state
        have hat : ∀ b, (lookX sn.bx b).known = true → (∃ b' q r1, (b, some b') ∈ r' ∧ fitBx (lookX sn.bx b) (s.bx b') = some (q, r1) ∧ q ∧ ∀ x ∈ r1, x ∈ r') ∨ ((b, none) ∈ r' ∧ ∃ e size, lookX sn.bx b = .row e size []) :=
          fun b hk => fitBxs_at h2 hq o3 b _ (lookX_mem hk)
        have hbxk : ∀ x ∈ r', (sn.as.bx x.1).known = true := fun x hx => by
          have := (o1 x hx).2
          rw [List.any_eq_true] at this
          obtain ⟨y, hy, e⟩ := this
          have e : y.1 = x.1 := eq_of_beq e
          have hy' : (x.1, y.2) ∈ sn.bx := by rw [← e]; exact hy
          have hl := lookX_of_mem o3 hy'
          show (lookX sn.bx x.1).known = true
          rw [hl]
          have hno : ∀ B, (x.1, B) ∈ sn.bx → B.known = true := fun B hB => by
            rcases fitBxs_at h2 hq o3 x.1 B hB with ⟨b', q, r1, _, hfb, _⟩ | ⟨_, e', size, rfl⟩
            · cases B <;> simp_all [fitBx, Bx.known]
            · rfl
          exact hno _ hy'
        have hknown : ∀ x ∈ r', renOf r' x.1 = some x.2 ∧ (sn.as.bx x.1).known = true := fun x hx => ⟨hren x hx, hbxk x hx⟩
        have hlive : ∀ b, (sn.as.bx b).live = true → (∃ b', (b, some b') ∈ r' ∧ (s.bx b').live = true ∧ nm ι r' b = ι b') ∨ nm ι r' b = none := fun b hl => by
          have hk : (lookX sn.bx b).known = true := by
            have hl' : (lookX sn.bx b).live = true := hl
            cases hB : lookX sn.bx b <;> rw [hB] at hl' <;> first | rfl | cases hl'
          rcases hat b hk with ⟨b', q, r1, m, hfb, _⟩ | ⟨m, _⟩
          · left
            refine ⟨b', m, ?_, by simp only [nm, hren _ m]⟩
            have hl' : (lookX sn.bx b).live = true := hl
            cases hB : lookX sn.bx b <;> cases hB' : s.bx b' <;> rw [hB, hB'] at hfb <;> simp only [fitBx, reduceCtorEq] at hfb <;> first | rfl | (rw [hB] at hl'; cases hl')
          · right; simp only [nm, hren _ m]
        have hkeep : Keeps w (Seen S w0.heap.size s.bx ι) w (Seen S w0.heap.size sn.as.bx (nm ι r')) := fun g off u hV hu => ⟨⟨hV.1, fun b c hl e => by
          rcases hlive b hl with ⟨b', _, hl', e'⟩ | e'
          · exact hV.2 b' c hl' (by rw [← e']; exact e)
          · rw [e'] at e; cases e⟩, hu⟩
        have hVmono : ∀ {x : AV} {v : Value}, RepAV w (Seen S w0.heap.size s.bx ι) ι s.bx x v → RepAV w (Seen S w0.heap.size sn.as.bx (nm ι r')) ι s.bx x v := fun hx => hx.keep (fun b hb => ⟨hb, rfl⟩) hkeep
        refine ⟨nm ι r', h.bel, h.marks, h.oth, h.size, h.fix, fun b hb => ?_, fun t => ?_, fun b => ?_, fun b g c hl e => ?_, fun b1 b2 g c c' hl hl' hne e => ?_⟩
        · have hm : (b, some b) ∈ r' := fitBxs_grow h2 _ (by simp only [pins, List.mem_append, List.mem_map]; exact .inr ⟨b, hb, rfl⟩)
          exact ⟨by simp only [nm, hren _ hm]; exact (h.pin b hb).1, hbxk _ hm⟩
        · rcases fitTm_at h1 hp t with hd | ⟨q, r1, g1, g2, g3⟩
          · show RepAV _ _ _ _ (lookT sn.tm t) _
            rw [hd]; simp only [RepAV, RepCl]
          · exact fitAV_rep (fun _ => rfl) g1 g2 (fun x hx => hknown x (fitBxs_grow h2 x (by simp [g3 x hx]))) (hVmono (h.tm t))
        · show RepBx _ _ _ _ b (lookX sn.bx b)
          cases hk : (lookX sn.bx b).known with
          | false => cases hB : lookX sn.bx b <;> rw [hB] at hk <;> first | trivial | cases hk
          | true =>
            rcases hat b hk with ⟨b', q, r1, m, hfb, hq1, hr1⟩ | ⟨m, e, size, hB⟩
            · have hnm : nm ι r' b = ι b' := by simp only [nm, hren _ m]
              have hrb := h.bx b'
              cases hB : lookX sn.bx b <;> cases hB' : s.bx b' <;> rw [hB, hB'] at hfb <;> simp only [fitBx, reduceCtorEq] at hfb <;> rw [hB'] at hrb
              · trivial
              · obtain ⟨g, c, cur, T, g1, g2, g3⟩ := hrb
                refine ⟨g, c, cur, T, by rw [hnm]; exact g1, g2, ?_⟩
                exact fitCls_rep (fun _ => rfl) hfb hq1 (fun x hx => hknown x (hr1 x hx)) (g3.keep (fun b hb => ⟨hb, rfl⟩) hkeep)
              · split at hfb
                · rename_i hes
                  simp only [Option.some.injEq, Prod.mk.injEq] at hfb
                  obtain ⟨rfl, rfl⟩ := hfb
                  subst hq1
                  obtain ⟨rfl, rfl⟩ := hes
                  rcases hrb with ⟨g1, g2⟩ | ⟨g, cap, cur, g1, g2, g3, g4, g5⟩
                  · exact .inl ⟨by rw [hnm]; exact g1, g2⟩
                  · exact .inr ⟨g, cap, cur, by rw [hnm]; exact g1, g2, g3, g4, g5.keep hkeep⟩
                · cases hfb
              · simp only [Option.some.injEq, Prod.mk.injEq] at hfb
                obtain ⟨rfl, rfl⟩ := hfb
                subst hq1
                rcases hrb with ⟨g1, g2⟩ | ⟨g, cap, g1, g2, g3⟩
                · exact .inl ⟨by rw [hnm]; exact g1, g2⟩
                · exact .inr ⟨g, cap, by rw [hnm]; exact g1, g2.keep hkeep, g3⟩
            · rw [hB]
              exact .inl ⟨by simp only [nm, hren _ m], rfl⟩
        · rcases hlive b hl with ⟨b', _, hl', e'⟩ | e'
          · exact h.own b' g c hl' (by rw [← e']; exact e)
          · rw [e'] at e; cases e
        · rcases hlive b1 hl with ⟨b1', m1, hl1, e1⟩ | e1
          · rcases hlive b2 hl' with ⟨b2', m2, hl2, e2⟩ | e2
            · rw [e1] at e
              rw [e2]
              refine h.dist b1' b2' g c c' hl1 hl2 (fun e' => hne ?_) e
              subst e'
              exact hinj _ _ _ m1 m2
            · rw [e2]; simp
          · rw [e1] at e; cases e
      · exact hf.elim
    · exact hf.elim
  · exact hf.elim
theorem RepS.melt1 {w0 : World} {S : Scope} {n : Dom} {s : AS} {ι : Names} {a : Act} {w : World} (h : RepS w0 S n s ι a w) (t : Nat) : RepS w0 S n (s.melt1 t) ι a w := by
  unfold AS.melt1
  split
  · rename_i b m ht
    split
    · rename_i xs hin
      have h2 := h.freeze b
      refine ⟨h2.bel, h2.marks, h2.oth, h2.size, h2.fix, h2.pin, fun t' => ?_, h2.bx, h2.own, h2.dist⟩
      by_cases e : t' = t
      · subst e
        have hv := h2.tm t'
        have hb := h2.bx b
        have e1 : (s.setB b (s.bx b).freeze).bx b = .ice xs := by
          simp only [AS.setB, if_true]
          revert hin
          cases s.bx b <;> intro hin <;> simp only [inside, Option.some.injEq, reduceCtorEq] at hin <;> subst hin <;> rfl
        have e2 : (s.setB b (s.bx b).freeze).tm t' = .one (.ref b m) := ht
        rw [e2] at hv
        rw [e1] at hb
        show RepAV _ _ _ _ (if t' = t' then .one (.d (.sl m xs)) else s.tm t') _
        rw [if_pos rfl]
        simp only [RepAV, RepCl] at hv ⊢
        simp only [RepD]
        obtain ⟨_, hv⟩ := hv
        rcases hb with ⟨g1, g2⟩ | ⟨g, cap, g1, g2, g3⟩
        · subst g2
          rcases hv with ⟨_, q1, q2⟩ | ⟨g', cap', q1, _⟩
          · exact ⟨none, 0, by rw [q1]; exact q2, by omega, Nat.zero_le _, fun hne => absurd rfl hne⟩
          · rw [g1] at q1; cases q1
        · rcases hv with ⟨q1, _⟩ | ⟨g', cap', q1, q2, q3⟩
          · rw [g1] at q1; cases q1
          · rw [g1] at q1
            simp only [Option.some.injEq, Prod.mk.injEq] at q1
            obtain ⟨rfl, rfl⟩ := q1
            exact ⟨_, cap, q2, q3, g3, fun hne => ⟨g, 0, rfl, g2 hne⟩⟩
      · have := h2.tm t'
        show RepAV _ _ _ _ (if t' = t then .one (.d (.sl m xs)) else s.tm t') _
        rw [if_neg e]
        exact this
    · exact h
  · exact h
theorem RepS.meltFor {w0 : World} {S : Scope} {n : Dom} {ι : Names} {a : Act} {w : World} : ∀ (l : List (Nat × AV)) {s : AS}, RepS w0 S n s ι a w → RepS w0 S n (meltFor l s) ι a w
  | [], _, h => h
  | (t, v) :: l, s, h => by
    unfold Go.Proofs.Ytoljdijpmnadpaa.meltFor
    split
    · rename_i e; cases e
    · rename_i t' d l' e
      injection e with e1 e2
      injection e1 with e3 e4
      subst e2 e3
      exact RepS.meltFor _ (h.melt1 _)
    · rename_i p l' _ e
      injection e with e1 e2
      subst e2
      exact RepS.meltFor _ h
theorem RepS.fit {w0 : World} {S : Scope} {n : Dom} {s : AS} {ι : Names} {a : Act} {w : World} (h : RepS w0 S n s ι a w) {sn : Snap} (hf : fits n s sn) : ∃ ι', RepS w0 S n sn.as ι' a w :=
  (h.meltFor sn.tm).fit0 hf
end Go.Proofs.Ytoljdijpmnadpaa
