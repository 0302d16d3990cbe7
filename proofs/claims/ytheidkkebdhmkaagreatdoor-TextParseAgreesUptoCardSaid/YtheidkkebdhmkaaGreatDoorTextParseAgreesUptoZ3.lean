/-
  Part 3 of what TextParseAgreesUpto rests on.
-/
import Derived.WalkKit
import Derived.ProofKit
import Derived.SizedLaws
import Derived.OpenShut
import Derived.Test.YtheidkkebdhmkaaGreatDoorTextParseAgreesUptoZ2
import Derived.RangeFuncCalls
import Derived.TacticsIn
import Derived.RegionIn
namespace Go.Proofs.YtheidkkebdhmkaaGreatDoor
open Go.RowKit
set_option linter.unusedVariables false
set_option linter.unusedSimpArgs false
set_option maxRecDepth 20000
section
open Go.ChangeShapes
open Go.WideShapes
def Rd (P:Program) (w:World):Nat→TypeId→List Value→Prop
 | 0,_,_=>False
 | fuel+1,t,cs=>
  match P.underlying t with
  | some .bool=>∃ b,cs=[.bool b]
  | some (.int k)=>∃ n,cs=[.int k n]∧(Lit.int k n).wf=true
  | some .string=>∃ s,cs=[.string s]∧s.size≤reachBytes
  | some (.slice e)=>cs=[.slice none 0 0]∨∃ a len cap,cs=[.slice (some a) len cap]∧len≤cap∧cap≤maxLen∧cap*P.bytesOf e≤reachBytes ∧
    ∀ i,i < cap→∃ cs',w.cells? 0 (a.add (i*P.cellsOf e)) (P.cellsOf e)=some cs'∧Rd P w fuel e cs'
  | some (.struct fs)=>cs.length=P.cellsOf t∧∀ f∈fs.toList,Rd P w fuel f.type ((cs.drop f.offset).take (P.cellsOf f.type))
  | some (.array n e)=>cs.length=P.cellsOf t∧∀ i,i < n→Rd P w fuel e ((cs.drop (i*P.cellsOf e)).take (P.cellsOf e))
  | _=>True
section
variable {H:Type} {enc:TypeId × Value→H} {P:Program} {w:World}
theorem zX5 {e:TypeId} {n:Nat}:∀ {l:List (DataW H)} {d:DataW H},d∈l→n∈d.weights P e→n∈DataW.weightsAll P e l
 | x::r,d,hd,hn=>by
  simp only [DataW.weightsAll,List.mem_append]
  rcases List.mem_cons.1 hd with rfl | h
  ·exact .inl hn
  ·exact .inr (zX5 h hn)
theorem zJ3 {n:Nat}:∀ {ts:List TypeId} {ds:List (DataW H)} {i:Nat} {t:TypeId} {d:DataW H},ts[i]?=some t→ds[i]?=some d→n∈d.weights P t→n∈DataW.weightsEach P ts ds
 | t::ts,d::ds,0,_,_,ht,hd,hn=>by
  simp at ht hd; subst ht hd
  simp only [DataW.weightsEach,List.mem_append]
  exact .inl hn
 | t::ts,d::ds,i+1,_,_,ht,hd,hn=>by
  simp only [DataW.weightsEach,List.mem_append]
  exact .inr (zJ3 (by simpa using ht) (by simpa using hd) hn)
 | [],_,_,_,_,ht,_,_=>by simp at ht
 | _::_,[],_,_,_,_,hd,_=>by simp at hd
theorem jZG:∀ (fuel:Nat) (t:TypeId) (cs:List Value) (d:DataW H) (ps:List MemPlace),
  DataW.trod enc P w 0 (fun _=>true) true fuel t cs=some (d,ps)→(∀ n∈d.weights P t,n≤reachBytes)→Rd P w fuel t cs:=by
 intro fuel
 induction fuel with
 | zero=>intro t cs d ps h; simp [DataW.trod] at h
 | succ fuel ih=>
  intro t cs d ps h hw
  unfold DataW.trod at h
  unfold Rd
  split at h
  ·rename_i b hu; simp only [hu]; exact ⟨_,rfl⟩
  ·rename_i k k' n hu
   simp only [hu]
   split at h
   ·rename_i hk; obtain ⟨rfl,hwf⟩:=hk; exact ⟨_,rfl,hwf⟩
   ·cases h
  ·rename_i hu; simp only [hu]
  ·rename_i s hu
   simp only [hu]
   split at h
   ·simp only [Option.some.injEq,Prod.mk.injEq] at h
    obtain ⟨rfl,_⟩:=h
    exact ⟨_,rfl,by have:=hw s.data.toList.length (List.mem_singleton.2 rfl); rw [Array.length_toList] at this; exact this⟩
   ·cases h
  ·rename_i hu; simp only [hu]
  ·rename_i hu; simp only [hu]
  ·rename_i hu; simp only [hu]; exact .inl trivial
  ·rename_i e a len cap hu
   simp only [hu]
   split at h
   ·rename_i hc
    obtain ⟨_,hl,hm⟩:=hc
    simp only [if_true] at h
    obtain ⟨elems,he,h⟩:=Option.bind_eq_some_iff.1 h
    obtain ⟨rest,hr,h⟩:=Option.map_eq_some_iff.1 h
    simp only [Prod.mk.injEq] at h
    obtain ⟨rfl,_⟩:=h
    have le:=mapM_some_length he
    have lr:=mapM_some_length hr
    simp only [List.length_range] at le lr
    have hwt:DataW.weights P t (.slice (elems.map (·.1)) (rest.map (·.1)))=((elems.map (·.1)).length+(rest.map (·.1)).length)*P.bytesOf e::(DataW.weightsAll P e (elems.map (·.1))++DataW.weightsAll P e (rest.map (·.1))):=by
     simp only [DataW.weights,hu]
    rw [hwt] at hw
    refine .inr ⟨a,len,cap,rfl,hl,hm,?_,?_⟩
    ·have:=hw _ (.head _)
     simp only [List.length_map,le,lr] at this
     rwa [show len+(cap - len)=cap from by omega] at this
    ·have key:∀ (i:Nat) (x:DataW H × List MemPlace),((w.cells? 0 (a.add (i*P.cellsOf e)) (P.cellsOf e)).bind (DataW.trod enc P w 0 (fun _=>true) true fuel e))=some x→(∀ n∈x.1.weights P e,n≤reachBytes) →
       ∃ cs',w.cells? 0 (a.add (i*P.cellsOf e)) (P.cellsOf e)=some cs'∧Rd P w fuel e cs':=by
      intro i x hx hxw
      obtain ⟨cs',h1,h2⟩:=Option.bind_eq_some_iff.1 hx
      exact ⟨cs',h1,ih e cs' x.1 x.2 h2 hxw⟩
     intro i hi
     rcases Nat.lt_or_ge i len with hlt | hge
     ·have hx:elems[i]?=some (elems[i]'(by omega)):=List.getElem?_eq_getElem (by omega)
      have h1:=mapM_some_get he i i (by simp [hlt])
      rw [hx] at h1
      refine key i _ h1 fun n hn=>hw n (.tail _ (List.mem_append.2 (.inl (zX5 (List.mem_map.2 ⟨_,List.getElem_mem (by omega),rfl⟩) hn))))
     ·have hx:rest[i - len]?=some (rest[i - len]'(by omega)):=List.getElem?_eq_getElem (by omega)
      have h1:=mapM_some_get hr (i - len) (i - len) (List.getElem?_range (by omega))
      rw [hx,show len+(i - len)=i from by omega] at h1
      refine key i _ h1 fun n hn=>hw n (.tail _ (List.mem_append.2 (.inr (zX5 (List.mem_map.2 ⟨_,List.getElem_mem (by omega),rfl⟩) hn))))
   ·cases h
  ·rename_i fs hu
   simp only [hu]
   split at h
   ·rename_i hlen
    obtain ⟨xs,hxs,h⟩:=Option.map_eq_some_iff.1 h
    simp only [Prod.mk.injEq] at h
    obtain ⟨rfl,_⟩:=h
    refine ⟨hlen,fun f hf=>?_⟩
    obtain ⟨i,hi,rfl⟩:=List.getElem_of_mem hf
    have hl:=mapM_some_length hxs
    have hx:xs[i]?=some (xs[i]'(by omega)):=List.getElem?_eq_getElem (by omega)
    have h1:=mapM_some_get hxs i _ (List.getElem?_eq_getElem hi)
    rw [hx] at h1
    refine ih _ _ _ _ h1 fun n hn=>hw n ?_
    simp only [DataW.weights,hu]
    exact zJ3 (i:=i) (by rw [List.getElem?_map,List.getElem?_eq_getElem hi]; rfl) (by rw [List.getElem?_map,hx]; rfl) hn
   ·cases h
  ·rename_i n e hu
   simp only [hu]
   split at h
   ·rename_i hlen
    obtain ⟨xs,hxs,h⟩:=Option.map_eq_some_iff.1 h
    simp only [Prod.mk.injEq] at h
    obtain ⟨rfl,_⟩:=h
    refine ⟨hlen,fun i hi=>?_⟩
    have hl:=mapM_some_length hxs
    simp only [List.length_range] at hl
    have hx:xs[i]?=some (xs[i]'(by omega)):=List.getElem?_eq_getElem (by omega)
    have h1:=mapM_some_get hxs i i (by simp [hi])
    rw [hx] at h1
    refine ih _ _ _ _ h1 fun n hn=>hw n ?_
    simp only [DataW.weights,hu]
    exact zX5 (List.mem_map.2 ⟨_,List.getElem_mem (by omega),rfl⟩) hn
   ·cases h
  all_goals first | (cases h; done) | (rename_i hu; simp only [hu])
end
def Arg (P:Program) (w:World) (t:TypeId) (v:Value):Prop:=
 (∃ fuel,Rd P w fuel t v.cells.toList) ∧
  match P.underlying t with
  | some (.struct _) | some (.array _ _)=>∃ cs,v=.agg cs
  | _=>v.cells=#[v]
def Args (P:Program) (w:World):List TypeId→List Value→Prop
 | [],[]=>True
 | t::ts,v::vs=>Arg P w t v∧Args P w ts vs
 | _,_=>False
theorem zWZ {P:Program} {w:World} {r:Reach} {base:Nat} {t:TypeId} {v:Value} (h:Value.okWide P w r base t v) :
  match P.underlying t with
  | some (.struct _) | some (.array _ _)=>∃ cs,v=.agg cs
  | _=>v.cells=#[v]:=by
 unfold Value.okWide at h
 split
 ·rename_i hu
  simp only [hu] at h
  obtain ⟨cs,rfl,_⟩:=h
  exact ⟨_,rfl⟩
 ·rename_i hu
  simp only [hu] at h
  obtain ⟨cs,rfl,_⟩:=h
  exact ⟨_,rfl⟩
 ·rename_i h1 h2
  have h':Cell.okWide P w r base t v:=by
   split at h
   ·rename_i hu; exact absurd hu (by intro e; exact h1 _ e)
   ·rename_i hu; exact absurd hu (by intro e; exact h2 _ _ e)
   ·exact h
  cases v with
  | agg cs=>
   exfalso
   unfold Cell.okWide at h'
   split at h' <;> first | (rename_i hv; cases hv; done) | skip
   unfold Cell.ok at h'
   split at h' <;> first | (rename_i hv; cases hv; done) | exact h'
  | _=>rfl
section
variable {H:Type} {enc:TypeId × Value→H}
theorem zJz {P:Program} {w:World}:∀ {ts:List TypeId} {vs:List Value} {ds:List (DataW H)} {ps:List MemPlace},DataW.TrodAll enc P w 0 (fun _=>true) true ts vs ds ps →
  (∀ n∈DataW.weightsEach P ts ds,n≤reachBytes) →
  (∀ (j:Nat) t v,ts[j]?=some t→vs[j]?=some v→match P.underlying t with | some (.struct _) | some (.array _ _)=>∃ cs,v=.agg cs | _=>v.cells=#[v])→Args P w ts vs∧ds.length=ts.length
 | [],[],[],_,_,_,_=>⟨trivial,rfl⟩
 | t::ts,v::vs,d::ds,_,h,hw,hv=>by
  obtain ⟨p,q,⟨fuel,hf⟩,hr,_⟩:=h
  have hrest:=zJz hr (fun n hn=>hw n (by simp only [DataW.weightsEach,List.mem_append]; exact .inr hn)) (fun j t v ht hv'=>hv (j+1) t v (by simpa using ht) (by simpa using hv'))
  exact ⟨⟨⟨⟨fuel,jZG fuel t _ d p hf (fun n hn=>hw n (by simp only [DataW.weightsEach,List.mem_append]; exact .inl hn))⟩,hv 0 t v rfl rfl⟩,hrest.1⟩,by simp [hrest.2]⟩
 | [],[],_::_,_,h,_,_=>h.elim
 | [],_::_,_,_,h,_,_=>h.elim
 | _::_,[],_,_,h,_,_=>h.elim
 | _::_,_::_,[],_,h,_,_=>h.elim
theorem zKE {P:Program} (laid:laidOutB P=true) {W W':World} (hb:Below W.heap.size W W'):∀ {ts:List TypeId} {vs:List Value} {ds:List (DataW H)} {ps:List MemPlace},
  (∀ t∈ts,P.readableRec t=true∧t < P.types.size)→DataW.TrodAll enc P W 0 (fun _=>true) true ts vs ds ps→DataW.TrodAll enc P W' 0 (fun b=>decide (b < W.heap.size)) true ts vs ds ps
 | [],[],[],_,_,h=>h
 | t::ts,v::vs,d::ds,_,hr,h=>by
  obtain ⟨p,q,hd,hrest,rfl⟩:=h
  have hlt:∀ x∈p,x.block < W.heap.size:=by obtain ⟨m,hm⟩:=hd; exact DataW.trod_lt m _ _ _ hm
  exact ⟨p,q,Below.trod laid (hr t (.head _)).1 (hr t (.head _)).2 hd hb hlt,zKE laid hb (fun t' ht'=>hr t' (.tail _ ht')) hrest,rfl⟩
 | [],[],_::_,_,_,h=>h.elim
 | [],_::_,_,_,_,h=>h.elim
 | _::_,[],_,_,_,h=>h.elim
 | _::_,_::_,[],_,_,h=>h.elim
end
section
variable {P:Program} {w:World} {fuel:Nat} {t:TypeId} {cs:List Value}
theorem Rd.int {k:IntKind} (hu:P.underlying t=some (.int k)) (h:Rd P w fuel t cs):∃ n,cs=[.int k n]∧(Lit.int k n).wf=true:=by
 cases fuel with
 | zero=>exact h.elim
 | succ fuel=>unfold Rd at h; simp only [hu] at h; exact h
theorem Rd.bool (hu:P.underlying t=some .bool) (h:Rd P w fuel t cs):∃ b,cs=[.bool b]:=by
 cases fuel with
 | zero=>exact h.elim
 | succ fuel=>unfold Rd at h; simp only [hu] at h; exact h
theorem Rd.str (hu:P.underlying t=some .string) (h:Rd P w fuel t cs):∃ s,cs=[.string s]∧s.size≤reachBytes:=by
 cases fuel with
 | zero=>exact h.elim
 | succ fuel=>unfold Rd at h; simp only [hu] at h; exact h
theorem Rd.slice {e:TypeId} (hu:P.underlying t=some (.slice e)) (h:Rd P w fuel t cs) :
  cs=[.slice none 0 0]∨∃ a len cap,cs=[.slice (some a) len cap]∧len≤cap∧cap≤maxLen∧cap*P.bytesOf e≤reachBytes ∧
    ∀ i,i < cap→∃ cs',w.cells? 0 (a.add (i*P.cellsOf e)) (P.cellsOf e)=some cs'∧∃ fuel,Rd P w fuel e cs':=by
 cases fuel with
 | zero=>exact h.elim
 | succ fuel=>
  unfold Rd at h; simp only [hu] at h
  rcases h with h | ⟨a,len,cap,h1,h2,h3,h4,h5⟩
  ·exact .inl h
  ·exact .inr ⟨a,len,cap,h1,h2,h3,h4,fun i hi=>let ⟨cs',a1,a2⟩:=h5 i hi; ⟨cs',a1,fuel,a2⟩⟩
theorem Rd.struct {fs:Array Field} (hu:P.underlying t=some (.struct fs)) (h:Rd P w fuel t cs) :
  cs.length=P.cellsOf t∧∀ f∈fs.toList,∃ fuel,Rd P w fuel f.type ((cs.drop f.offset).take (P.cellsOf f.type)):=by
 cases fuel with
 | zero=>exact h.elim
 | succ fuel=>
  unfold Rd at h; simp only [hu] at h
  exact ⟨h.1,fun f hf=>⟨fuel,h.2 f hf⟩⟩
theorem Rd.array {e:TypeId} {n:Nat} (hu:P.underlying t=some (.array n e)) (h:Rd P w fuel t cs) :
  cs.length=P.cellsOf t∧∀ i,i < n→∃ fuel,Rd P w fuel e ((cs.drop (i*P.cellsOf e)).take (P.cellsOf e)):=by
 cases fuel with
 | zero=>exact h.elim
 | succ fuel=>
  unfold Rd at h; simp only [hu] at h
  exact ⟨h.1,fun i hi=>⟨fuel,h.2 i hi⟩⟩
end
def zKU (P:Program) (f:TypeId→Option (List TypeId)):List Field→Nat→Option (List TypeId)
 | [],_=>some []
 | fd::r,off=>(f fd.type).bind fun l=>if fd.offset=off∧P.cellsOf fd.type=l.length then (zKU P f r (off+l.length)).map (l++·) else none
def zVB (P:Program):Nat→TypeId→Option (List TypeId)
 | 0,_=>none
 | k+1,t=>
  match P.underlying t with
  | some (.struct fs)=>zKU P (zVB P k) fs.toList 0
  | some (.array n e)=>(zVB P k e).bind fun l=>if P.cellsOf e=l.length then some (List.replicate n l).flatten else none
  | some .bool | some (.int _) | some .string | some (.slice _)=>some [t]
  | _=>none
section
variable {P:Program} {w:World}
theorem zWD {f:TypeId→Option (List TypeId)} {cs:List Value}
  (hf:∀ (t:TypeId) (ts:List TypeId) (fuel:Nat) (cs:List Value),f t=some ts→Rd P w fuel t cs→∀ (i:Nat) (t':TypeId),ts[i]?=some t'→∃ c g,cs[i]?=some c∧Rd P w g t' [c]) :
  ∀ (fs:List Field) (off:Nat) (ts:List TypeId),zKU P f fs off=some ts→(∀ fd∈fs,∃ fuel,Rd P w fuel fd.type ((cs.drop fd.offset).take (P.cellsOf fd.type))) →
  ∀ (i:Nat) (t':TypeId),ts[i]?=some t'→∃ c g,cs[off+i]?=some c∧Rd P w g t' [c]
 | [],_,ts,h,_,i,t',hi=>by simp [zKU] at h; subst h; simp at hi
 | fd::r,off,ts,h,hr,i,t',hi=>by
  unfold zKU at h
  obtain ⟨l,hl,h⟩:=Option.bind_eq_some_iff.1 h
  split at h
  ·rename_i hc
   obtain ⟨ho,hn⟩:=hc
   obtain ⟨ts',hts,h⟩:=Option.map_eq_some_iff.1 h
   subst h
   rcases Nat.lt_or_ge i l.length with hlt | hge
   ·rw [List.getElem?_append_left hlt] at hi
    obtain ⟨fuel,hrd⟩:=hr fd (.head _)
    obtain ⟨c,g,h1,h2⟩:=hf fd.type l fuel _ hl hrd i t' hi
    refine ⟨c,g,?_,h2⟩
    rw [List.getElem?_take,if_pos (by omega),List.getElem?_drop,ho] at h1
    exact h1
   ·rw [List.getElem?_append_right hge] at hi
    obtain ⟨c,g,h1,h2⟩:=zWD hf r (off+l.length) ts' hts (fun fd' h'=>hr fd' (.tail _ h')) (i - l.length) t' hi
    exact ⟨c,g,by rw [← h1]; congr 1; omega,h2⟩
  ·cases h
theorem zUP {l:List TypeId} (hl:0 < l.length):∀ (n i:Nat) (t:TypeId),(List.replicate n l).flatten[i]?=some t→i / l.length < n∧l[i % l.length]?=some t
 | 0,i,t,h=>by simp at h
 | n+1,i,t,h=>by
  rw [List.replicate_succ,List.flatten_cons] at h
  rcases Nat.lt_or_ge i l.length with hlt | hge
  ·rw [List.getElem?_append_left hlt] at h
   rw [Nat.div_eq_of_lt hlt,Nat.mod_eq_of_lt hlt]
   exact ⟨by omega,h⟩
  ·rw [List.getElem?_append_right hge] at h
   obtain ⟨h1,h2⟩:=zUP hl n (i - l.length) t h
   have e:i=(i - l.length)+l.length:=by omega
   rw [e,Nat.add_div_right _ hl,Nat.add_mod_right]
   exact ⟨by omega,h2⟩
theorem zJm:∀ (k:Nat) (t:TypeId) (ts:List TypeId) (fuel:Nat) (cs:List Value),zVB P k t=some ts→Rd P w fuel t cs →
  ∀ (i:Nat) (t':TypeId),ts[i]?=some t'→∃ c g,cs[i]?=some c∧Rd P w g t' [c]
 | 0,_,_,_,_,h,_,_,_,_=>by simp [zVB] at h
 | k+1,t,ts,fuel,cs,h,hr,i,t',hi=>by
  unfold zVB at h
  split at h
  ·rename_i fs hu
   obtain ⟨_,hfs⟩:=hr.struct hu
   have:=zWD (fun t ts fuel cs h hr=>zJm k t ts fuel cs h hr) fs.toList 0 ts h hfs i t' hi
   simpa using this
  ·rename_i n e hu
   obtain ⟨l,hl,h⟩:=Option.bind_eq_some_iff.1 h
   split at h
   ·rename_i hc
    simp only [Option.some.injEq] at h
    subst h
    obtain ⟨_,hel⟩:=hr.array hu
    rcases Nat.eq_zero_or_pos l.length with h0 | hpos
    ·have:l=[]:=List.eq_nil_of_length_eq_zero h0
     subst this; simp at hi
    ·obtain ⟨h1,h2⟩:=zUP hpos n i t' hi
     obtain ⟨fuel',hrd⟩:=hel (i / l.length) h1
     obtain ⟨c,g,h3,h4⟩:=zJm k e l fuel' _ hl hrd (i % l.length) t' h2
     refine ⟨c,g,?_,h4⟩
     rw [List.getElem?_take,if_pos (by rw [hc]; exact Nat.mod_lt _ hpos),List.getElem?_drop,hc,Nat.mul_comm,Nat.div_add_mod] at h3
     exact h3
   ·cases h
  all_goals first | (cases h; done) | skip
  all_goals
   rename_i hu
   simp only [Option.some.injEq] at h
   subst h
   match i,hi with
   | 0,hi=>
    simp only [List.getElem?_cons_zero,Option.some.injEq] at hi
    subst hi
    first
    |(obtain ⟨b,rfl⟩:=hr.bool hu; exact ⟨_,fuel,rfl,hr⟩)
    |(obtain ⟨b,rfl,_⟩:=hr.int hu; exact ⟨_,fuel,rfl,hr⟩)
    |(obtain ⟨b,rfl,_⟩:=hr.str hu; exact ⟨_,fuel,rfl,hr⟩)
    |(rcases hr.slice hu with h | ⟨a,len,cap,h,_⟩
      ·subst h; exact ⟨_,fuel,rfl,hr⟩
      ·subst h; exact ⟨_,fuel,rfl,hr⟩)
   | i+1,hi=>simp at hi
theorem Rd.leaf {k:Nat} {t:TypeId} {ts:List TypeId} {fuel:Nat} {cs:List Value} (h:Rd P w fuel t cs) (hl:zVB P k t=some ts) (i:Nat) {t':TypeId} (ht:ts[i]?=some t') {c:Value} (hc:cs[i]?=some c) :
  ∃ g,Rd P w g t' [c]:=by
 obtain ⟨c',g,h1,h2⟩:=zJm k t ts fuel cs hl h i t' ht
 rw [hc] at h1
 cases h1
 exact ⟨g,h2⟩
theorem Args.cons {t:TypeId} {ts:List TypeId} {vs:List Value} (h:Args P w (t::ts) vs):∃ v vs',vs=v::vs'∧Arg P w t v∧Args P w ts vs':=by
 cases vs with
 | nil=>exact h.elim
 | cons v vs=>exact ⟨v,vs,rfl,h.1,h.2⟩
theorem Args.nil {vs:List Value} (h:Args P w [] vs):vs=[]:=by
 cases vs with
 | nil=>rfl
 | cons v vs=>exact h.elim
theorem Arg.one {t:TypeId} {v:Value} (h:Arg P w t v) (hu:∀ fs,P.underlying t≠some (.struct fs)) (ha:∀ n e,P.underlying t≠some (.array n e)):∃ g,Rd P w g t [v]:=by
 obtain ⟨⟨g,hr⟩,hv⟩:=h
 split at hv
 ·rename_i fs he; exact absurd he (hu fs)
 ·rename_i n e he; exact absurd he (ha n e)
 ·rw [hv] at hr; exact ⟨g,hr⟩
theorem Arg.int {t:TypeId} {v:Value} {k:IntKind} (h:Arg P w t v) (hu:P.underlying t=some (.int k)):∃ n,v=.int k n∧(Lit.int k n).wf=true:=by
 obtain ⟨g,hr⟩:=h.one (by rw [hu]; simp) (by rw [hu]; simp)
 obtain ⟨n,hn,hw⟩:=hr.int hu
 simp only [List.cons.injEq,and_true] at hn
 exact ⟨n,hn,hw⟩
theorem Arg.many {t:TypeId} {v:Value} {n:Nat} (h:Arg P w t v) (hu:(∃ fs,P.underlying t=some (.struct fs))∨∃ n e,P.underlying t=some (.array n e)) (hn:P.cellsOf t=n) :
  ∃ cs:List Value,v=.agg cs.toArray∧cs.length=n∧∃ g,Rd P w g t cs:=by
 obtain ⟨⟨g,hr⟩,hv⟩:=h
 rcases hu with ⟨fs,hu⟩ | ⟨m,e,hu⟩
 ·simp only [hu] at hv
  obtain ⟨⟨l⟩,rfl⟩:=hv
  exact ⟨l,rfl,by rw [← hn]; exact (hr.struct hu).1,g,hr⟩
 ·simp only [hu] at hv
  obtain ⟨⟨l⟩,rfl⟩:=hv
  exact ⟨l,rfl,by rw [← hn]; exact (hr.array hu).1,g,hr⟩
end
def lv (P:Program) (e:TypeId):Option (List TypeId):=
 match zVB P 8 e with
 | some ls=>if ls.length=P.cellsOf e∧0 < ls.length then some ls else none
 | none=>none
def zXg (P:Program):Nat→TypeId→DV→Prop
 | 0,_,_=>False
 | k+1,t,d=>
  match P.underlying t with
  | some .bool=>∃ b,d=.bool b
  | some (.int q)=>∃ n,d=.int q n
  | some .string=>∃ s,d=.str s
  | some (.slice e)=>∃ n xs,d=.sl n xs∧n*P.bytesOf e≤reachBytes∧match lv P e with
   | some ls=>xs.length=n*ls.length∧∀ (j:Nat) d',xs[j]?=some d'→∃ t',ls[j % ls.length]?=some t'∧zXg P k t' d'
   | none=>xs=[]
  | _=>False
def jZZ (P:Program):Nat→TypeId→Bool
 | 0,_=>false
 | k+1,t=>
  match P.underlying t with
  | some .bool | some (.int _) | some .string=>true
  | some (.slice e)=>match lv P e with
   | some ls=>ls.all (jZZ P k)
   | none=>true
  | _=>false
theorem zWr {α:Type} {Q:Nat→α→Prop}:∀ n:Nat,(∀ j,j < n→∃ d,Q j d)→∃ xs:List α,xs.length=n∧∀ (j:Nat) d,xs[j]?=some d→Q j d
 | 0,_=>⟨[],rfl,fun j d h=>by simp at h⟩
 | n+1,h=>by
  obtain ⟨xs,h1,h2⟩:=zWr n fun j hj=>h j (by omega)
  obtain ⟨d,hd⟩:=h n (by omega)
  refine ⟨xs++[d],by simp [h1],fun j d' hj=>?_⟩
  by_cases hlt:j < n
  ·rw [List.getElem?_append_left (by omega)] at hj; exact h2 j d' hj
  ·rw [List.getElem?_append_right (by omega)] at hj
   have:j - xs.length=0:=by
    have:=(List.getElem?_eq_some_iff.1 hj).1
    simp at this; omega
   rw [this] at hj
   simp at hj
   subst hj
   have:j=n:=by omega
   subst this; exact hd
section
variable {P:Program} {w:World}
theorem zHj {P:Program} {e:TypeId} {ls:List TypeId} (h:lv P e=some ls):zVB P 8 e=some ls∧ls.length=P.cellsOf e∧0 < ls.length:=by
 unfold lv at h
 split at h
 ·rename_i l hl
  split at h
  ·rename_i hc; injection h with h; subst h; exact ⟨hl,hc.1,hc.2⟩
  ·cases h
 ·cases h
theorem addr_add' (a:Addr) (i j:Nat) (h:a.spot=none):(a.add i).add j=⟨a.block,a.off+(i+j),none⟩:=by
 obtain ⟨b,o,sp⟩:=a
 simp only at h
 subst h
 rw [zZE,zZE,Nat.add_assoc]
theorem zU7:∀ (k:Nat) (t:TypeId),jZZ P k t=true→∀ (fuel:Nat) (v:Value),Rd P w fuel t [v]→∃ d,RepD w (fun _=>True) d v∧zXg P k t d
 | 0,_,h,_,_,_=>by cases h
 | k+1,t,ho,fuel,v,h=>by
  unfold jZZ at ho
  unfold zXg
  split at ho
  ·rename_i hu
   obtain ⟨b,hb⟩:=h.bool hu
   simp only [List.cons.injEq,and_true] at hb
   subst hb
   exact ⟨.bool b,by simp only [RepD],b,rfl⟩
  ·rename_i q hu
   obtain ⟨n,hn,hw⟩:=h.int hu
   simp only [List.cons.injEq,and_true] at hn
   subst hn
   exact ⟨.int q n,by simp only [RepD]; exact ⟨trivial,hw⟩,n,rfl⟩
  ·rename_i hu
   obtain ⟨s,hs,hw⟩:=h.str hu
   simp only [List.cons.injEq,and_true] at hs
   subst hs
   refine ⟨.str s,by simp only [RepD,true_and]; unfold reachBytes at hw; unfold maxLen; omega,s,rfl⟩
  ·rename_i e hu
   rcases h.slice hu with h | ⟨a,len,cap,h1,h2,h3,h4,h5⟩
   ·simp only [List.cons.injEq,and_true] at h
    subst h
    refine ⟨.sl 0 [],by simp only [RepD]; exact ⟨none,0,rfl,Nat.le_refl _,Nat.zero_le _,fun e=>absurd rfl e⟩,0,[],rfl,by simp,?_⟩
    split
    ·exact ⟨by simp,fun j d h=>by simp at h⟩
    ·rfl
   ·simp only [List.cons.injEq,and_true] at h1
    subst h1
    have hby:len*P.bytesOf e≤reachBytes:=Nat.le_trans (Nat.mul_le_mul_right _ h2) h4
    cases hl:lv P e with
    | none=>exact ⟨.sl len [],by simp only [RepD]; exact ⟨some a,cap,rfl,h2,h3,fun e=>absurd rfl e⟩,len,[],rfl,hby,rfl⟩
    | some ls=>
     rw [hl] at ho
     simp only [List.all_eq_true] at ho
     obtain ⟨g1,g2,g3⟩:=zHj hl
     have hcell:∀ j,j < len*ls.length→∃ d,a.spot=none∧(∃ u,w.cell? ⟨a.block,a.off+j,none⟩=some u∧RepD w (fun _=>True) d u)∧∃ t',ls[j % ls.length]?=some t'∧zXg P k t' d:=by
      intro j hj
      have hi:j / ls.length < len:=by rw [Nat.div_lt_iff_lt_mul g3]; exact hj
      obtain ⟨cs',c1,fuel',c2⟩:=h5 (j / ls.length) (by omega)
      have hm:j % ls.length < ls.length:=Nat.mod_lt _ g3
      obtain ⟨c,g,e1,e2⟩:=zJm 8 e ls fuel' cs' g1 c2 (j % ls.length) (ls[j % ls.length]) (by simp [hm])
      obtain ⟨d,f1,f2⟩:=zU7 k ls[j % ls.length] (ho _ (List.getElem_mem hm)) g c e2
      obtain ⟨_,c3,c4⟩:=World.cells?_some c1
      have hc:=c4 (j % ls.length) (by omega)
      rw [e1] at hc
      have hpos:0 < cap:=Nat.lt_of_lt_of_le (Nat.lt_of_le_of_lt (Nat.zero_le _) hi) h2
      have hcp:0 < P.cellsOf e:=by omega
      have hs:a.spot=none:=by
       cases hsp:a.spot with
       | none=>rfl
       | some x=>
        exfalso
        obtain ⟨cs0,d0,_⟩:=h5 0 hpos
        obtain ⟨_,hlen,d1⟩:=World.cells?_some d0
        have c0:=d1 0 hcp
        rw [Nat.zero_mul,show a.add 0=a from by simp [Addr.add],show a.add 0=a from by simp [Addr.add]] at c0
        have:w.cell? a=none:=by
         unfold World.cell?
         split
         ·simp [hsp]
         ·rfl
        rw [this] at c0
        have:=List.getElem?_eq_none_iff.1 c0.symm
        omega
      refine ⟨d,hs,⟨c,?_,f1⟩,_,by simp [hm],f2⟩
      rw [addr_add' _ _ _ hs,← g2,Nat.mul_comm,Nat.div_add_mod] at hc
      exact hc
     obtain ⟨xs,x1,x2⟩:=zWr (len*ls.length) hcell
     refine ⟨.sl len xs,?_,len,xs,rfl,hby,x1,fun j d' hj=>(x2 j d' hj).2.2⟩
     simp only [RepD]
     refine ⟨some a,cap,rfl,h2,h3,fun hne=>⟨a.block,a.off,?_,trivial,.of_at fun i d hi=>(x2 i d hi).2.1⟩⟩
     cases xs with
     | nil=>exact absurd rfl hne
     | cons d ds=>
      have hs:=(x2 0 d rfl).1
      obtain ⟨b,o,sp⟩:=a
      simp only at hs
      subst hs
      rfl
  ·cases ho
def zX4 (P:Program) (t:TypeId) (r:RV):Prop:=
 match P.underlying t with
 | some (.struct _) | some (.array _ _)=>∃ ds ls,r=.agg ds∧lv P t=some ls∧ds.length=ls.length∧∀ (i:Nat) d,ds[i]?=some d→∃ t',ls[i]?=some t'∧zXg P 6 t' d
 | _=>∃ d,r=.d d∧zXg P 6 t d
def zYZ (P:Program):List TypeId→List RV→Prop
 | [],[]=>True
 | t::ts,r::rs=>zX4 P t r∧zYZ P ts rs
 | _,_=>False
def okT (P:Program) (t:TypeId):Bool:=
 match P.underlying t with
 | some (.struct _) | some (.array _ _)=>match lv P t with
  | some ls=>ls.all (jZZ P 6)
  | none=>false
 | _=>jZZ P 6 t
theorem jXF {t:TypeId} {v:Value} (ho:okT P t=true) (h:Arg P w t v):∃ r,RepR w (fun _=>True) r v∧zX4 P t r:=by
 have many:((∃ fs,P.underlying t=some (.struct fs))∨∃ n e,P.underlying t=some (.array n e))→(match lv P t with | some ls=>ls.all (jZZ P 6) | none=>false)=true→∃ ds ls,RepR w (fun _=>True) (.agg ds) v∧lv P t=some ls∧ds.length=ls.length∧∀ (i:Nat) d,ds[i]?=some d→∃ t',ls[i]?=some t'∧zXg P 6 t' d:=by
  intro hu hl
  obtain ⟨cs,rfl,hlen,g,hr⟩:=h.many hu (n:=P.cellsOf t) rfl
  cases hlv:lv P t with
  | none=>rw [hlv] at hl; cases hl
  | some ls=>
   rw [hlv] at hl
   simp only [List.all_eq_true] at hl
   obtain ⟨g1,g2,g3⟩:=zHj hlv
   have hcell:∀ i,i < ls.length→∃ d,(∃ c,cs[i]?=some c∧RepD w (fun _=>True) d c)∧∃ t',ls[i]?=some t'∧zXg P 6 t' d:=by
    intro i hi
    obtain ⟨c,g',e1,e2⟩:=zJm 8 t ls g cs g1 hr i ls[i] (by simp [hi])
    obtain ⟨d,f1,f2⟩:=zU7 6 ls[i] (hl _ (List.getElem_mem hi)) g' c e2
    exact ⟨d,⟨c,e1,f1⟩,_,by simp [hi],f2⟩
   obtain ⟨ds,x1,x2⟩:=zWr ls.length hcell
   refine ⟨ds,ls,?_,rfl,x1,fun i d hi=>(x2 i d hi).2⟩
   simp only [RepR]
   refine ⟨_,rfl,?_⟩
   rw [zUt]
   refine ⟨by simp; omega,fun i d v hd hv=>?_⟩
   obtain ⟨⟨c,e1,e2⟩,_⟩:=x2 i d hd
   have:cs[i]?=some v:=by simpa using hv
   rw [e1] at this
   injection this with this
   subst this
   exact e2
 unfold okT at ho
 unfold zX4
 split at ho
 ·rename_i fs hu
  obtain ⟨ds,ls,h1,h2⟩:=many (.inl ⟨_,hu⟩) ho
  exact ⟨.agg ds,h1,ds,ls,rfl,h2⟩
 ·rename_i n e hu
  obtain ⟨ds,ls,h1,h2⟩:=many (.inr ⟨_,_,hu⟩) ho
  exact ⟨.agg ds,h1,ds,ls,rfl,h2⟩
 ·rename_i h1 h2
  obtain ⟨g,hr⟩:=h.one (fun fs e=>h1 fs e) (fun n e e'=>h2 n e e')
  obtain ⟨d,f1,f2⟩:=zU7 6 t ho g v hr
  exact ⟨.d d,by simp only [RepR]; exact f1,⟨d,rfl,f2⟩⟩
theorem zVj:∀ {ts:List TypeId} {vs:List Value},ts.all (okT P)=true→Args P w ts vs→∃ rs,RepRs w (fun _=>True) rs vs∧zYZ P ts rs
 | [],[],_,_=>⟨[],by simp only [RepRs],trivial⟩
 | t::ts,v::vs,ho,h=>by
  simp only [List.all_cons,Bool.and_eq_true] at ho
  obtain ⟨r,h1,h2⟩:=jXF ho.1 h.1
  obtain ⟨rs,h3,h4⟩:=zVj ho.2 h.2
  exact ⟨r::rs,by simp only [RepRs]; exact ⟨h1,h3⟩,h2,h4⟩
 | [],_::_,_,h=>h.elim
 | _::_,[],_,h=>h.elim
theorem jVx {f:FuncId} {ts:List TypeId} (hok:ts.all (okT P)=true) (h:∀ rs,zYZ P ts rs→RV.wfs rs→Ans P f rs (.d (.bool true))) (W:World) (args:Array Value) (hg:zXF W fun _=>True) (ha:Args P W ts args.toList) :
  Calls P f args W fun e W'=>e=.returned (.bool true)∧Below W.heap.size W W':=by
 obtain ⟨rs,h1,h2⟩:=zVj hok ha
 refine (h rs h2 (RepRs.wf h1) W _ args hg h1).mono fun e w' ⟨v,he,hv,hb⟩=>?_
 simp only [RepR,RepD] at hv
 subst hv
 exact ⟨he,hb⟩
end
theorem zYZ.cons {P:Program} {t:TypeId} {ts:List TypeId} {rs:List RV} (h:zYZ P (t::ts) rs):∃ r rs',rs=r::rs'∧zX4 P t r∧zYZ P ts rs':=by
 cases rs with
 | nil=>exact h.elim
 | cons r rs=>exact ⟨r,rs,rfl,h.1,h.2⟩
theorem zYZ.nil {P:Program} {rs:List RV} (h:zYZ P [] rs):rs=[]:=by
 cases rs with
 | nil=>rfl
 | cons r rs=>exact h.elim
theorem zX4.one {P:Program} {t:TypeId} {r:RV} {k:IntKind} (h:zX4 P t r) (hu:P.underlying t=some (.int k)):∃ n,r=.d (.int k n):=by
 unfold zX4 at h
 simp only [hu] at h
 obtain ⟨d,rfl,h⟩:=h
 unfold zXg at h
 simp only [hu] at h
 obtain ⟨n,rfl⟩:=h
 exact ⟨n,rfl⟩
theorem zX4.many {P:Program} {t:TypeId} {r:RV} {ls:List TypeId} (h:zX4 P t r) (hu:(match P.underlying t with | some (.struct _) | some (.array _ _)=>true | _=>false)=true) (hl:lv P t=some ls) :
  ∃ ds,r=.agg ds∧ds.length=ls.length∧∀ (i:Nat) d,ds[i]?=some d→∃ t',ls[i]?=some t'∧zXg P 6 t' d:=by
 unfold zX4 at h
 split at hu
 ·rename_i fs he
  simp only [he] at h
  obtain ⟨ds,ls',h1,h2,h3⟩:=h
  rw [hl] at h2; injection h2 with h2; subst h2
  exact ⟨ds,h1,h3⟩
 ·rename_i n e he
  simp only [he] at h
  obtain ⟨ds,ls',h1,h2,h3⟩:=h
  rw [hl] at h2; injection h2 with h2; subst h2
  exact ⟨ds,h1,h3⟩
 ·cases hu
def zUb (P:Program) (q:Nat) (ls:List TypeId) (ds:List DV):Prop:=ds.length=ls.length∧∀ (i:Nat) d,ds[i]?=some d→∃ t',ls[i]?=some t'∧zXg P q t' d
theorem zUb.cons {P:Program} {q:Nat} {t:TypeId} {ts:List TypeId} {ds:List DV} (h:zUb P q (t::ts) ds):∃ d ds',ds=d::ds'∧zXg P q t d∧zUb P q ts ds':=by
 obtain ⟨h1,h2⟩:=h
 cases ds with
 | nil=>simp at h1
 | cons d ds=>
  refine ⟨d,ds,rfl,?_,by simpa using h1,fun i d' hd=>?_⟩
  ·obtain ⟨t',e,h⟩:=h2 0 d rfl
   simp at e; subst e; exact h
  ·obtain ⟨t',e,h⟩:=h2 (i+1) d' (by simpa using hd)
   exact ⟨t',by simpa using e,h⟩
theorem zUb.nil {P:Program} {q:Nat} {ds:List DV} (h:zUb P q [] ds):ds=[]:=by
 have:=h.1
 simpa using this
theorem zXg.int {P:Program} {q:Nat} {t:TypeId} {d:DV} {k:IntKind} (h:zXg P q t d) (hu:P.underlying t=some (.int k)):∃ n,d=.int k n:=by
 cases q with
 | zero=>exact h.elim
 | succ q=>unfold zXg at h; simp only [hu] at h; exact h
theorem zXg.bool {P:Program} {q:Nat} {t:TypeId} {d:DV} (h:zXg P q t d) (hu:P.underlying t=some .bool):∃ n,d=.bool n:=by
 cases q with
 | zero=>exact h.elim
 | succ q=>unfold zXg at h; simp only [hu] at h; exact h
theorem zXg.slice {P:Program} {q:Nat} {t e:TypeId} {d:DV} {ls:List TypeId} (h:zXg P q t d) (hu:P.underlying t=some (.slice e)) (hl:lv P e=some ls) :
  ∃ n xs,d=.sl n xs∧n*P.bytesOf e≤reachBytes∧xs.length=n*ls.length∧∀ (j:Nat) d',xs[j]?=some d'→∃ t',ls[j % ls.length]?=some t'∧∃ q,zXg P q t' d':=by
 cases q with
 | zero=>exact h.elim
 | succ q=>
  unfold zXg at h; simp only [hu,hl] at h
  obtain ⟨n,xs,h1,h2,h3,h4⟩:=h
  exact ⟨n,xs,h1,h2,h3,fun j d' hj=>let ⟨t',a,b⟩:=h4 j d' hj; ⟨t',a,q,b⟩⟩
theorem zXg.str {P:Program} {q:Nat} {t:TypeId} {d:DV} (h:zXg P q t d) (hu:P.underlying t=some .string):∃ n,d=.str n:=by
 cases q with
 | zero=>exact h.elim
 | succ q=>unfold zXg at h; simp only [hu] at h; exact h
theorem zX4.oneS {P:Program} {t:TypeId} {r:RV} (h:zX4 P t r) (hu:P.underlying t=some .string):∃ n,r=.d (.str n):=by
 unfold zX4 at h
 simp only [hu] at h
 obtain ⟨d,rfl,h⟩:=h
 obtain ⟨n,rfl⟩:=zXg.str h hu
 exact ⟨n,rfl⟩
theorem zX4.slice {P:Program} {t e:TypeId} {r:RV} {ls:List TypeId} (h:zX4 P t r) (hu:P.underlying t=some (.slice e)) (hl:lv P e=some ls) :
  ∃ n xs,r=.d (.sl n xs)∧n*P.bytesOf e≤reachBytes∧xs.length=n*ls.length∧∀ (j:Nat) d',xs[j]?=some d'→∃ t',ls[j % ls.length]?=some t'∧∃ q,zXg P q t' d':=by
 unfold zX4 at h
 simp only [hu] at h
 obtain ⟨d,rfl,h⟩:=h
 obtain ⟨n,xs,rfl,h2⟩:=zXg.slice h hu hl
 exact ⟨n,xs,rfl,h2⟩
theorem jJc {P:Program} {t t':TypeId} {q j:Nat} {d:DV} {k:IntKind} (hu:P.underlying t=some (.int k)) (a:[t][j % [t].length]?=some t') (b:zXg P q t' d):∃ n,d=.int k n:=by
 have:t'=t:=by
  have h:=List.mem_of_getElem? a
  simpa using h
 subst this
 exact b.int hu
end
theorem zWF (l:List Int) {n:Nat} (h:n=l.length):IsU n (us l):=by
 subst h
 exact jJT (zJd l) fun j d hj=>by
  simp only [us,List.getElem?_map] at hj
  obtain ⟨v,_,rfl⟩:=Option.map_eq_some_iff.1 hj
  exact ⟨v,rfl⟩
theorem zYv:IsU 0 []:=jJT rfl fun j d hj=>by simp at hj
theorem jZw:Im.zero.isU:=⟨zYv,zYv,zYv,zYv,zYv⟩
theorem zKi (w h:Int) (c:Px):(zQf w h c).isU:=⟨zYv,zYv,zYv,zYv,zYv⟩
theorem jQ7 (w h:Int) (l:List Px):(imOf w h l).isU:=by
 cases hk:ofOk w h l.length with
 | true=>
  rw [zKq hk]
  refine ⟨zWF _ ?_,zWF _ ?_,zWF _ ?_,zWF _ ?_,zWF _ ?_⟩ <;> exact (List.length_map _).symm
 | false=>rw [zWK hk]; exact jZw
theorem jVj {n:Nat} {xs:List DV} (hn:xs.length=n*5) (hx:∀ (j:Nat) d,xs[j]?=some d→∃ v,d=.int .i64 v):Is5 n xs:=
 ⟨hn,fun i hi=>by
  have hl:i < xs.length:=by omega
  obtain ⟨v,e⟩:=hx i _ (List.getElem?_eq_getElem hl)
  rw [List.getElem?_eq_getElem hl,e]
  simp [nAt,List.getElem?_eq_getElem hl,e]⟩
theorem jJb {P:Program} {t t':TypeId} {q j:Nat} {d:DV} {k:IntKind} (hu:P.underlying t=some (.int k)) (a:[t,t,t,t,t][j % [t,t,t,t,t].length]?=some t') (b:zXg P q t' d):∃ n,d=.int k n:=by
 have:t'=t:=by
  have h:=List.mem_of_getElem? a
  simpa using h
 subst this
 exact b.int hu
theorem zZ3 {n k:Int} (h1:1≤k) (h2:k≤4611686018427387904):0≤modS n k∧modS n k < k:=by
 rw [jXS h1 h2]
 exact ⟨Int.emod_nonneg _ (by omega),Int.emod_lt_of_pos _ (by omega)⟩
def imR (m:Im):RV:=RV.agg [DV.int .i64 m.w,DV.int .i64 m.h,DV.bool m.so,DV.int .u16 m.c.a,DV.int .u16 m.c.b,DV.int .u16 m.c.c,DV.int .u16 m.c.al,DV.int .u16 m.c.f,DV.int .i64 m.p0.w,DV.int .i64 m.p0.h,DV.int .i64 m.p0.s,DV.sl m.p0.n m.p0.xs,DV.int .i64 m.p1.w,DV.int .i64 m.p1.h,DV.int .i64 m.p1.s,DV.sl m.p1.n m.p1.xs,DV.int .i64 m.p2.w,DV.int .i64 m.p2.h,DV.int .i64 m.p2.s,DV.sl m.p2.n m.p2.xs,DV.int .i64 m.p3.w,DV.int .i64 m.p3.h,DV.int .i64 m.p3.s,DV.sl m.p3.n m.p3.xs,DV.int .i64 m.p4.w,DV.int .i64 m.p4.h,DV.int .i64 m.p4.s,DV.sl m.p4.n m.p4.xs]
def imD (m:Im):AV:=AV.agg [Cl.d (DV.int .i64 m.w),Cl.d (DV.int .i64 m.h),Cl.d (DV.bool m.so),Cl.d (DV.int .u16 m.c.a),Cl.d (DV.int .u16 m.c.b),Cl.d (DV.int .u16 m.c.c),Cl.d (DV.int .u16 m.c.al),Cl.d (DV.int .u16 m.c.f),Cl.d (DV.int .i64 m.p0.w),Cl.d (DV.int .i64 m.p0.h),Cl.d (DV.int .i64 m.p0.s),Cl.d (DV.sl m.p0.n m.p0.xs),Cl.d (DV.int .i64 m.p1.w),Cl.d (DV.int .i64 m.p1.h),Cl.d (DV.int .i64 m.p1.s),Cl.d (DV.sl m.p1.n m.p1.xs),Cl.d (DV.int .i64 m.p2.w),Cl.d (DV.int .i64 m.p2.h),Cl.d (DV.int .i64 m.p2.s),Cl.d (DV.sl m.p2.n m.p2.xs),Cl.d (DV.int .i64 m.p3.w),Cl.d (DV.int .i64 m.p3.h),Cl.d (DV.int .i64 m.p3.s),Cl.d (DV.sl m.p3.n m.p3.xs),Cl.d (DV.int .i64 m.p4.w),Cl.d (DV.int .i64 m.p4.h),Cl.d (DV.int .i64 m.p4.s),Cl.d (DV.sl m.p4.n m.p4.xs)]
def imV (b:Nat) (m:Im):AV:=AV.agg [Cl.d (DV.int .i64 m.w),Cl.d (DV.int .i64 m.h),Cl.d (DV.bool m.so),Cl.d (DV.int .u16 m.c.a),Cl.d (DV.int .u16 m.c.b),Cl.d (DV.int .u16 m.c.c),Cl.d (DV.int .u16 m.c.al),Cl.d (DV.int .u16 m.c.f),Cl.d (DV.int .i64 m.p0.w),Cl.d (DV.int .i64 m.p0.h),Cl.d (DV.int .i64 m.p0.s),Cl.ref (b+0) m.p0.n,Cl.d (DV.int .i64 m.p1.w),Cl.d (DV.int .i64 m.p1.h),Cl.d (DV.int .i64 m.p1.s),Cl.ref (b+1) m.p1.n,Cl.d (DV.int .i64 m.p2.w),Cl.d (DV.int .i64 m.p2.h),Cl.d (DV.int .i64 m.p2.s),Cl.ref (b+2) m.p2.n,Cl.d (DV.int .i64 m.p3.w),Cl.d (DV.int .i64 m.p3.h),Cl.d (DV.int .i64 m.p3.s),Cl.ref (b+3) m.p3.n,Cl.d (DV.int .i64 m.p4.w),Cl.d (DV.int .i64 m.p4.h),Cl.d (DV.int .i64 m.p4.s),Cl.ref (b+4) m.p4.n]
def imB (e:Nat) (m:Im):List Bx:=[Bx.row e 1 m.p0.xs,Bx.row e 1 m.p1.xs,Bx.row e 1 m.p2.xs,Bx.row e 1 m.p3.xs,Bx.row e 1 m.p4.xs]
def zJZ (p k a b often:Int):Int:=if modS (IntKind.wrap .i64 (Int.tdiv often 5)) 3=0 then IntKind.wrap .i64 (b - a) else IntKind.wrap .i64 (1+modS p k)
def zK3 (pw ph so mood:Int) (L:Nat) (xs:List DV) (x0 y0 x1 y1 most:Int):Im:=
 let w:=zJZ pw 5 x0 x1 pw
 let h:=zJZ ph 4 y0 y1 pw
 let l:=zKr mood L xs most (IntKind.wrap .i64 (w*h)).toNat
 if modS so 2=0 then zQf w h (gPx mood L xs most 0) else imOf w h l
theorem zHv (pw ph so mood:Int) (L:Nat) (xs:List DV) (x0 y0 x1 y1 most W H:Int) (hW:zJZ pw 5 x0 x1 pw=W) (hH:zJZ ph 4 y0 y1 pw=H):zK3 pw ph so mood L xs x0 y0 x1 y1 most=if modS so 2=0 then zQf W H (gPx mood L xs most 0) else imOf W H (zKr mood L xs most (IntKind.wrap .i64 (W*H)).toNat):=by
 unfold zK3
 simp only [hW,hH]
theorem jZ5 {W H:Int} (hW:1≤W∧W≤100) (hH:1≤H∧H≤100):1≤IntKind.wrap .i64 (W*H)∧IntKind.wrap .i64 (W*H)≤10000:=by
 have a:=Int.mul_le_mul hW.2 hH.2 (by omega) (by omega)
 have b:=Int.mul_le_mul hW.1 hH.1 (by omega) (by omega)
 rw [IntWalk.i64_in _ ⟨by omega,by omega⟩]
 omega
def strS (p:Pl) (more k:Int):Int:=IntKind.wrap .i64 (p.w+modS (IntKind.wrap .i64 (more+k)) 4)
def strV (p:Pl) (s:Int) (i:Nat):Int:=
 if Int.tmod (i:Int) s < p.w then nAt p.xs (IntKind.wrap .i64 (IntKind.wrap .i64 (IntKind.wrap .i64 (Int.tdiv (i:Int) s)*p.s)+Int.tmod (i:Int) s)).toNat else IntKind.wrap .u16 (IntKind.wrap .i64 (40000+(i:Int)))
def jQE (p:Pl) (s:Int) (n:Nat):List DV:=us ((List.range n).map (strV p s))
def strN (p:Pl) (s:Int):Nat:=(IntKind.wrap .i64 (s*p.h)).toNat
def strP (p:Pl) (more k:Int):Pl:=⟨p.w,p.h,strS p more k,strN p (strS p more k),jQE p (strS p more k) (strN p (strS p more k))⟩
def zXi (m:Im) (more:Int):Im:=if m.so then m else ⟨m.w,m.h,m.so,m.c,strP m.p0 more 0,strP m.p1 more 1,strP m.p2 more 2,strP m.p3 more 3,strP m.p4 more 4⟩
theorem jXf {p:Pl} {more k:Int} (hw:1≤p.w∧p.w≤100):p.w≤strS p more k∧strS p more k≤103:=by
 have b:=@zZ3 (IntKind.wrap .i64 (more+k)) 4 (by omega) (by omega)
 unfold strS
 rw [IntWalk.i64_in _ ⟨by omega,by omega⟩]
 omega
theorem jXg {p:Pl} {s:Int} (hs:1≤s∧s≤103) (hh:1≤p.h∧p.h≤100):IntKind.wrap .i64 (s*p.h)=(strN p s:Int)∧strN p s≤10300∧((strN p s:Nat):Int)=s*p.h:=by
 have a:=Int.mul_le_mul hs.2 hh.2 (by omega) (by omega)
 have b:=Int.mul_nonneg (show 0≤s by omega) (show 0≤p.h by omega)
 unfold strN
 rw [IntWalk.i64_in _ ⟨by omega,by omega⟩]
 omega
theorem jZy (p:Pl) (s:Int) {n i:Nat} (h:i < n):nAt (jQE p s n) i=strV p s i:=by
 unfold jQE
 rw [jZ7 (by simpa using h)]
 simp
theorem zYz {p:Pl} {more k:Int} (hv:zQV p.w p.h p.s p.n=true) (hw:p.w≤100) (hh:p.h≤100):zQV (strP p more k).w (strP p more k).h (strP p more k).s (strP p more k).n=true:=by
 have hf:zQZ p.w p.h=true:=by unfold zQV at hv; simp at hv; exact hv.1.1.1
 obtain ⟨f1,f2,f3,f4,f5⟩:=zZ7 hf
 have S:=@jXf p more k ⟨f1,hw⟩
 have N:=@jXg p (strS p more k) ⟨by omega,by omega⟩ ⟨f2,hh⟩
 have L:=jQj hf S.1 (by omega)
 show zQV p.w p.h (strS p more k) (strN p (strS p more k))=true
 unfold zQV
 have e:(p.h - 1)*strS p more k=strS p more k*p.h - strS p more k:=by rw [Int.sub_mul,Int.mul_comm]; omega
 simp only [hf,Bool.true_and,Bool.and_eq_true,decide_eq_true_eq]
 exact ⟨⟨S.1,by omega⟩,by omega⟩
theorem zV7 {p:Pl} {more k:Int} (hv:zQV p.w p.h p.s p.n=true) (hw:p.w≤100) (hh:p.h≤100) {x y:Int} (hx:0≤x∧x < p.w) (hy:0≤y∧y < p.h):(strP p more k).at_ x y=p.at_ x y:=by
 have hf:zQZ p.w p.h=true:=by unfold zQV at hv; simp at hv; exact hv.1.1.1
 obtain ⟨f1,f2,f3,f4,f5⟩:=zZ7 hf
 obtain ⟨q1,q2,q3,q4,q5⟩:=place hv hx.1 hx.2 hy.1 hy.2
 obtain ⟨v1,v2,v3,v4,v5,v6,v7,v8,v9⟩:=zKf hv
 have S:=@jXf p more k ⟨f1,hw⟩
 have N:=@jXg p (strS p more k) ⟨by omega,by omega⟩ ⟨f2,hh⟩
 show nAt (jQE p (strS p more k) (strN p (strS p more k))) (y*strS p more k+x).toNat=nAt p.xs (y*p.s+x).toNat
 generalize strS p more k=s at *
 have a1:0≤y*s:=Int.mul_nonneg hy.1 (by omega)
 have a2:(y+1)*s≤p.h*s:=Int.mul_le_mul_of_nonneg_right (by omega) (by omega)
 have a3:(y+1)*s=y*s+s:=by rw [Int.add_mul,Int.one_mul]
 have a4:p.h*s=s*p.h:=Int.mul_comm _ _
 have hi:(y*s+x).toNat < strN p s:=by omega
 rw [jZy _ _ hi]
 have ei:((y*s+x).toNat:Int)=y*s+x:=by omega
 unfold strV
 rw [ei,Int.tmod_eq_emod_of_nonneg (by omega),Int.tdiv_eq_ediv_of_nonneg (by omega)]
 have m1:(y*s+x) % s=x:=by rw [Int.add_comm,Int.add_mul_emod_self_right]; exact Int.emod_eq_of_lt hx.1 (by omega)
 have m2:(y*s+x) / s=y:=by rw [Int.add_comm,Int.add_mul_ediv_right _ _ (by omega),Int.ediv_eq_zero_of_lt hx.1 (by omega)]; omega
 rw [m1,m2,if_pos hx.2]
 rw [IntWalk.i64_in y ⟨by omega,by omega⟩,q5.1,q5.2]
theorem jQr (m:Im) (more:Int):(zXi m more).so=m.so∧(zXi m more).w=m.w∧(zXi m more).h=m.h∧(zXi m more).c=m.c:=by
 unfold zXi
 split <;> simp
theorem zJx {m:Im} (hf:m.formed=true) (hm:m.w≤100∧m.h≤100) (more:Int):(zXi m more).formed=true:=by
 unfold zXi
 split
 ·exact hf
 ·rename_i hs
  have hs:m.so=false:=by simpa using hs
  obtain ⟨qf,qi⟩:=Im.formed_of hf
  obtain ⟨qc,z0,z1,z2,z3,z4⟩:=Im.inner_planes qi hs
  have p0:=zYz (more:=more) (k:=0) z0.1 (by omega) (by omega)
  have p1:=zYz (more:=more) (k:=1) z1.1 (by omega) (by omega)
  have p2:=zYz (more:=more) (k:=2) z2.1 (by omega) (by omega)
  have p3:=zYz (more:=more) (k:=3) z3.1 (by omega) (by omega)
  have p4:=zYz (more:=more) (k:=4) z4.1 (by omega) (by omega)
  have e:∀ (p:Pl) k,(strP p more k).w=p.w∧(strP p more k).h=p.h:=fun p k=>⟨rfl,rfl⟩
  simp only [(e _ _).1,(e _ _).2,z0.2,z1.2,z2.2,z3.2,z4.2] at p0 p1 p2 p3 p4
  simp [Im.formed,Im.inner,okPl,hs,qf,qc,p0,p1,p2,p3,p4,e,z0.2,z1.2,z2.2,z3.2,z4.2]
theorem jQs {m:Im} (hf:m.formed=true) (hm:m.w≤100∧m.h≤100) (more:Int) {x y:Int} (hx:0≤x∧x < m.w) (hy:0≤y∧y < m.h):(zXi m more).px x y=m.px x y:=by
 unfold zXi
 split
 ·rfl
 ·rename_i hs
  have hs:m.so=false:=by simpa using hs
  obtain ⟨qf,qi⟩:=Im.formed_of hf
  obtain ⟨qc,z0,z1,z2,z3,z4⟩:=Im.inner_planes qi hs
  unfold Im.px
  simp only [hs]
  rw [zV7 z0.1 (by omega) (by omega) (by omega) (by omega),zV7 z1.1 (by omega) (by omega) (by omega) (by omega),zV7 z2.1 (by omega) (by omega) (by omega) (by omega),zV7 z3.1 (by omega) (by omega) (by omega) (by omega),zV7 z4.1 (by omega) (by omega) (by omega) (by omega)]
theorem Im.pixels_ext {m r:Im} (hm:m.formed=true) (hr:r.formed=true) (hw:r.w=m.w) (hh:r.h=m.h) (h:∀ x y:Int,(0≤x∧x < m.w)→(0≤y∧y < m.h)→r.px x y=m.px x y):r.pixels=m.pixels:=by
 rw [Im.pixels_of hm,Im.pixels_of hr,hw,hh]
 unfold Im.list
 refine List.map_congr_left fun k hk=>?_
 have hk:=List.mem_range.1 hk
 obtain ⟨a,b⟩:=Im.nth_in (Im.formed_of hm).1 hk
 unfold Im.nth
 rw [hw]
 exact h _ _ a b
theorem zWP {m:Im} (hf:m.formed=true) (hm:m.w≤100∧m.h≤100) (more:Int):(zXi m more).pixels=m.pixels:=
 have g:=jQr m more
 Im.pixels_ext hf (zJx hf hm more) g.2.1 g.2.2.1 (fun x y hx hy=>jQs hf hm more hx hy)
theorem zZ9 {w h:Int} (c:Px) (hf:zQZ w h=true):(zQf w h c).formed=true:=by
 simp [Im.formed,Im.inner,okPl,zQf,hf,zY1,Pl.none]
theorem zKp {w h:Int} {l:List Px} (hk:ofOk w h l.length=true):(ofIm w h l).formed=true:=by
 unfold ofOk at hk
 simp at hk
 obtain ⟨hf,hl⟩:=hk
 obtain ⟨f1,f2,f3,f4,f5⟩:=zZ7 hf
 have L:=jQj hf (Int.le_refl w) f3
 have e:(h - 1)*w=w*h - w:=by rw [Int.sub_mul,Int.mul_comm]; omega
 have hv:zQV w h w l.length=true:=by
  unfold zQV
  simp only [hf,Bool.true_and,Bool.and_eq_true,decide_eq_true_eq]
  exact ⟨⟨Int.le_refl _,f3⟩,by omega⟩
 simp [Im.formed,Im.inner,okPl,ofIm,hf,hv]
theorem zVD (pw ph so mood:Int) (L:Nat) (xs:List DV) (x0 y0 x1 y1 most:Int) (hc:1≤x1 - x0∧x1 - x0≤100∧1≤y1 - y0∧y1 - y0≤100) :
  (zK3 pw ph so mood L xs x0 y0 x1 y1 most).formed=true∧1≤(zK3 pw ph so mood L xs x0 y0 x1 y1 most).w∧(zK3 pw ph so mood L xs x0 y0 x1 y1 most).w≤100∧1≤(zK3 pw ph so mood L xs x0 y0 x1 y1 most).h∧(zK3 pw ph so mood L xs x0 y0 x1 y1 most).h≤100:=by
 have b5:=@zZ3 pw 5 (by omega) (by omega)
 have b4:=@zZ3 ph 4 (by omega) (by omega)
 have hW:1≤zJZ pw 5 x0 x1 pw∧zJZ pw 5 x0 x1 pw≤100:=by
  unfold zJZ
  split <;> rw [IntWalk.i64_in _ ⟨by omega,by omega⟩] <;> omega
 have hH:1≤zJZ ph 4 y0 y1 pw∧zJZ ph 4 y0 y1 pw≤100:=by
  unfold zJZ
  split <;> rw [IntWalk.i64_in _ ⟨by omega,by omega⟩] <;> omega
 rw [zHv pw ph so mood L xs x0 y0 x1 y1 most _ _ rfl rfl]
 generalize zJZ pw 5 x0 x1 pw=W at *
 generalize zJZ ph 4 y0 y1 pw=H at *
 have wa:=jZ5 hW hH
 have hf:zQZ W H=true:=by
  have:=Int.mul_le_mul hW.2 hH.2 (by omega) (by omega)
  simp [zQZ]; omega
 have hwm:IntKind.wrap .i64 (W*H)=W*H:=IntWalk.i64_in _ (by
  have:=Int.mul_le_mul hW.2 hH.2 (by omega) (by omega)
  have:=Int.mul_nonneg (a:=W) (b:=H) (by omega) (by omega)
  omega)
 split
 ·exact ⟨zZ9 _ hf,hW.1,hW.2,hH.1,hH.2⟩
 ·have hk:ofOk W H (zKr mood L xs most (IntKind.wrap .i64 (W*H)).toNat).length=true:=by
   simp only [ofOk,hf,Bool.true_and,decide_eq_true_eq,jQt]
   omega
  rw [zKq hk]
  exact ⟨zKp hk,hW.1,hW.2,hH.1,hH.2⟩
theorem jKV {l:List Px} {g:Px→Int} {k:Nat} (h:k < l.length):nAt (chan l g) k=g l[k]:=by
 unfold chan
 rw [jZ7 (by simpa using h)]
 simp
theorem jKx {w h:Int} {l:List Px} {x y:Int} (hk:(y*w+x).toNat < l.length):(ofIm w h l).px x y=l[(y*w+x).toNat]:=by
 simp [Im.px,ofIm,Pl.at_,jKV hk]
theorem Im.list_at {m:Im} {n k:Nat} (h:k < n):(m.list n)[k]'(by rw [Im.list_len]; exact h)=m.nth k:=by simp [Im.list]
theorem Im.pixels_len {m:Im} (hf:m.formed=true):(m.pixels.length:Int)=m.w*m.h:=by
 rw [Im.pixels_of hf,Im.list_len]
 exact (Im.count_le (Im.formed_of hf).1).2
theorem Im.pixels_ok {m:Im} (hf:m.formed=true):ofOk m.w m.h m.pixels.length=true:=by
 simp [ofOk,(Im.formed_of hf).1,Im.pixels_len hf]
theorem jQo {w h:Int} {l:List Px} (hk:ofOk w h l.length=true):(imOf w h l).formed=true∧(imOf w h l).pixels=l:=by
 rw [zKq hk]
 have hf:=zKp hk
 refine ⟨hf,?_⟩
 rw [Im.pixels_of hf]
 obtain ⟨f1,f2,f3,f4,f5⟩:=zZ7 (Im.formed_of hf).1
 have hl:l.length=w.toNat*h.toNat:=by
  have:=(Im.count_le (Im.formed_of hf).1).2
  simp [ofOk] at hk
  change ((w.toNat*h.toNat:Nat):Int)=w*h at this
  omega
 refine List.ext_getElem (by rw [Im.list_len]; exact hl.symm) fun i h1 h2=>?_
 rw [Im.list_len] at h1
 rw [Im.list_at h1]
 have hw:0 < w.toNat:=by change 1≤w at f1; omega
 have e:i / w.toNat*w.toNat+i % w.toNat=i:=by rw [Nat.mul_comm]; exact Nat.div_add_mod i w.toNat
 have e2:(((i / w.toNat:Nat):Int)*w+((i % w.toNat:Nat):Int)).toNat=i:=by
  rw [idx (by change 1≤w at f1; omega)]; exact e
 show (ofIm w h l).px ((i % w.toNat:Nat):Int) ((i / w.toNat:Nat):Int)=l[i]
 rw [jKx (by rw [e2]; exact h2)]
 simp only [e2]
open Go.Proofs.Tryz (prog)
section
attribute [local irreducible] Ans AnsO AnsG AnsN AnsI
def gZ8 (xs:List RV):Option RV:=match xs with | [.d (.sl n xs),.d (.sl m ys)]=>some (RV.d (dQ (decide (ints xs=ints ys)))) | _=>none
def gamO:Gam where
 pure:=fun f xs=>
  if f=40 then gZ8 xs else
  none
 modes:=fun f=>
  none
 proc:=fun f xs bs=>
  none
 iter:=fun f cs=>
  none
theorem zVR (n:Nat) (xs:List DV) (m:Nat) (ys:List DV) (hx:xs=is (ints xs)∧n=xs.length) (hy:ys=is (ints ys)∧m=ys.length):Ans prog 40 [RV.d (dS n xs),RV.d (dS m ys)] (RV.d (dQ (decide (ints xs=ints ys)))):=
 zQm (Γ:=gamO) (Ann.seq Ann.leaf (Ann.seq Ann.leaf (Ann.seq (Ann.seq Ann.leaf (Ann.loop ⟨Nat,fun k=>k≤n∧(ints xs).take k=(ints ys).take k,fun k=>⟨[(0,AV.one (Cl.d (dS n xs))),(1,AV.one (Cl.d (dS m ys))),(5,aJ (k:Int)),(6,AV.one (Cl.d (dS n xs))),(7,aJ (n:Int)),(8,AV.one (Cl.d (dS m ys))),(9,aJ (m:Int)),(10,AV.one (Cl.d (dQ ((n:Int) != (m:Int)))))],[]⟩,fun k=>n - k⟩ fun k=>Ann.leaf)) Ann.leaf))) zQB Tryz.func40 rfl (Nat.le_of_ble_eq_true rfl) fun hwf=>by
  refine Eq.mpr (by kernel_rfl:_=(let b:=(dS m ys=dS m ys); let c:=(dS n xs=dS n xs); let d:=((n:Int) != (m:Int)); let e:=(dQ (decide (ints xs=ints ys))); let f:=fun (k:Nat)=>(k≤n∧(ints xs).take k=(ints ys).take k); let g:=(dJ (n:Int)=dJ (n:Int)); let h:=(dJ (m:Int)=dJ (m:Int)); let i:=(dQ d=dQ d); tU6 ((d=true→True∧RV.d (dQ false)=RV.d e)∧(d=false→True∧((∃ k:Nat,(f k)∧((c∧b∧(dJ 0=dJ (k:Int))∧c∧g∧b∧h∧i∧True)∧True))∧∀ k:Nat,let a:=((k:Int).toNat*1); (f k)→tU4 (((decide ((k:Int) < (n:Int)))=true→tU2 ((0≤(k:Int)∧(k:Int) < (n:Int)∧(k:Int).toNat*1 < xs.length)∧((xs[(k:Int).toNat*1]?=some (dJ (nAt xs a)))∧True)∧tU2 ((0≤(k:Int)∧(k:Int) < (m:Int)∧(k:Int).toNat*1 < ys.length)∧((ys[(k:Int).toNat*1]?=some (dJ (nAt ys a)))∧True)∧True∧(true=true)∧((((nAt xs a) != (nAt ys a))=true→True∧RV.d (dQ false)=RV.d e)∧(((nAt xs a) != (nAt ys a))=false→tU3 (∃ k':Nat,(k'≤n∧(ints xs).take k'=(ints ys).take k')∧(n - k' < n - k)∧((c∧b∧(dJ (wK ((k:Int)+1))=dJ (k':Int))∧c∧g∧b∧h∧i∧True)∧True)))))))∧((decide ((k:Int) < (n:Int)))=false→True∧RV.d (dQ true)=RV.d e))))))) ?_
  delta tU2 tU3 tU4 tU6 dJ dQ wK dS
  simp only [sS,zQT]
  obtain ⟨hx,rfl⟩:=hx
  obtain ⟨hy,rfl⟩:=hy
  generalize ints xs=l at *
  generalize ints ys=l' at *
  subst hx
  subst hy
  simp only [RV.wfs,RV.wf,DV.wf,maxLen,zXe] at hwf
  simp only [zXe]
  refine ⟨fun hne=>?_,fun he=>jJn (by simp at he; omega) (by omega) rfl⟩
  have:l≠l':=fun h=>by rw [h] at hne; simp at hne
  simp [this]
end
section
attribute [local irreducible] Ans AnsO AnsG AnsN AnsI
def cntS (r:Rc) (w h:Int):Int × Int × Bool:=
 if r.empty then (0,0,false)
 else if w < 1∨IntKind.wrap .i64 (r.c - r.a) < w∨h < 1∨IntKind.wrap .i64 (r.d - r.b) < h then (0,0,false)
 else (IntKind.wrap .i64 (Int.tdiv (IntKind.wrap .i64 (IntKind.wrap .i64 (IntKind.wrap .i64 (r.c - r.a)+w) - 1)) w),IntKind.wrap .i64 (Int.tdiv (IntKind.wrap .i64 (IntKind.wrap .i64 (IntKind.wrap .i64 (r.d - r.b)+h) - 1)) h),true)
end
def Im.ds (m:Im):List DV:=[.int .i64 m.w,.int .i64 m.h,.bool m.so,.int .u16 m.c.a,.int .u16 m.c.b,.int .u16 m.c.c,.int .u16 m.c.al,.int .u16 m.c.f,.int .i64 m.p0.w,.int .i64 m.p0.h,.int .i64 m.p0.s,.sl m.p0.n m.p0.xs,.int .i64 m.p1.w,.int .i64 m.p1.h,.int .i64 m.p1.s,.sl m.p1.n m.p1.xs,.int .i64 m.p2.w,.int .i64 m.p2.h,.int .i64 m.p2.s,.sl m.p2.n m.p2.xs,.int .i64 m.p3.w,.int .i64 m.p3.h,.int .i64 m.p3.s,.sl m.p3.n m.p3.xs,.int .i64 m.p4.w,.int .i64 m.p4.h,.int .i64 m.p4.s,.sl m.p4.n m.p4.xs]
theorem Im.ds_len (m:Im):m.ds.length=28:=rfl
def ims (l:List Im):List DV:=l.flatMap Im.ds
theorem zZO (l:List Im):(ims l).length=l.length*28:=by
 induction l with
 | nil=>rfl
 | cons o l ih=>simp only [ims,List.flatMap_cons,List.length_append,List.length_cons] at ih ⊢; rw [ih,Im.ds_len]; omega
theorem jJd (m:Im) (l:List Im):ims (m::l)=m.ds++ims l:=by simp [ims]
theorem jKL {l:List Im} {k:Nat} (h:k < l.length) (j:Nat) (hj:j < 28):(ims l)[k*28+j]?=l[k].ds[j]?:=by
 induction l generalizing k with
 | nil=>simp at h
 | cons o l ih=>
  rw [jJd]
  cases k with
  | zero=>simp only [List.getElem_cons_zero]; rw [List.getElem?_append_left (by rw [Im.ds_len]; omega)]; simp
  | succ k=>
   rw [List.getElem?_append_right (by rw [Im.ds_len]; omega)]
   have:=ih (k:=k) (by simpa using h)
   simp only [List.getElem_cons_succ]
   rw [← this]
   congr 1
   rw [Im.ds_len]; omega
theorem zWG {l:List Im} {k:Nat} (h:k < l.length):(ims l)[k*28]?=some (.int .i64 l[k].w)∧(ims l)[k*28+1]?=some (.int .i64 l[k].h)∧(ims l)[k*28+1+1]?=some (.bool l[k].so)∧(ims l)[k*28+1+1+1]?=some (.int .u16 l[k].c.a)∧(ims l)[k*28+1+1+1+1]?=some (.int .u16 l[k].c.b)∧(ims l)[k*28+1+1+1+1+1]?=some (.int .u16 l[k].c.c)∧(ims l)[k*28+1+1+1+1+1+1]?=some (.int .u16 l[k].c.al)∧(ims l)[k*28+1+1+1+1+1+1+1]?=some (.int .u16 l[k].c.f)∧(ims l)[k*28+1+1+1+1+1+1+1+1]?=some (.int .i64 l[k].p0.w)∧(ims l)[k*28+1+1+1+1+1+1+1+1+1]?=some (.int .i64 l[k].p0.h)∧(ims l)[k*28+1+1+1+1+1+1+1+1+1+1]?=some (.int .i64 l[k].p0.s)∧(ims l)[k*28+1+1+1+1+1+1+1+1+1+1+1]?=some (.sl l[k].p0.n l[k].p0.xs)∧(ims l)[k*28+1+1+1+1+1+1+1+1+1+1+1+1]?=some (.int .i64 l[k].p1.w)∧(ims l)[k*28+1+1+1+1+1+1+1+1+1+1+1+1+1]?=some (.int .i64 l[k].p1.h)∧(ims l)[k*28+1+1+1+1+1+1+1+1+1+1+1+1+1+1]?=some (.int .i64 l[k].p1.s)∧(ims l)[k*28+1+1+1+1+1+1+1+1+1+1+1+1+1+1+1]?=some (.sl l[k].p1.n l[k].p1.xs)∧(ims l)[k*28+1+1+1+1+1+1+1+1+1+1+1+1+1+1+1+1]?=some (.int .i64 l[k].p2.w)∧(ims l)[k*28+1+1+1+1+1+1+1+1+1+1+1+1+1+1+1+1+1]?=some (.int .i64 l[k].p2.h)∧(ims l)[k*28+1+1+1+1+1+1+1+1+1+1+1+1+1+1+1+1+1+1]?=some (.int .i64 l[k].p2.s)∧(ims l)[k*28+1+1+1+1+1+1+1+1+1+1+1+1+1+1+1+1+1+1+1]?=some (.sl l[k].p2.n l[k].p2.xs)∧(ims l)[k*28+1+1+1+1+1+1+1+1+1+1+1+1+1+1+1+1+1+1+1+1]?=some (.int .i64 l[k].p3.w)∧(ims l)[k*28+1+1+1+1+1+1+1+1+1+1+1+1+1+1+1+1+1+1+1+1+1]?=some (.int .i64 l[k].p3.h)∧(ims l)[k*28+1+1+1+1+1+1+1+1+1+1+1+1+1+1+1+1+1+1+1+1+1+1]?=some (.int .i64 l[k].p3.s)∧(ims l)[k*28+1+1+1+1+1+1+1+1+1+1+1+1+1+1+1+1+1+1+1+1+1+1+1]?=some (.sl l[k].p3.n l[k].p3.xs)∧(ims l)[k*28+1+1+1+1+1+1+1+1+1+1+1+1+1+1+1+1+1+1+1+1+1+1+1+1]?=some (.int .i64 l[k].p4.w)∧(ims l)[k*28+1+1+1+1+1+1+1+1+1+1+1+1+1+1+1+1+1+1+1+1+1+1+1+1+1]?=some (.int .i64 l[k].p4.h)∧(ims l)[k*28+1+1+1+1+1+1+1+1+1+1+1+1+1+1+1+1+1+1+1+1+1+1+1+1+1+1]?=some (.int .i64 l[k].p4.s)∧(ims l)[k*28+1+1+1+1+1+1+1+1+1+1+1+1+1+1+1+1+1+1+1+1+1+1+1+1+1+1+1]?=some (.sl l[k].p4.n l[k].p4.xs):=by
 have g:=fun j hj=>jKL h j hj
 exact ⟨g 0 (by omega),g 1 (by omega),g 2 (by omega),g 3 (by omega),g 4 (by omega),g 5 (by omega),g 6 (by omega),g 7 (by omega),g 8 (by omega),g 9 (by omega),g 10 (by omega),g 11 (by omega),g 12 (by omega),g 13 (by omega),g 14 (by omega),g 15 (by omega),g 16 (by omega),g 17 (by omega),g 18 (by omega),g 19 (by omega),g 20 (by omega),g 21 (by omega),g 22 (by omega),g 23 (by omega),g 24 (by omega),g 25 (by omega),g 26 (by omega),g 27 (by omega)⟩
theorem zWH {l:List Im} {k:Nat} (h:k < l.length):nAt (ims l) (k*28)=l[k].w∧nAt (ims l) (k*28+1)=l[k].h∧bAt (ims l) (k*28+1+1)=l[k].so∧nAt (ims l) (k*28+1+1+1)=l[k].c.a∧nAt (ims l) (k*28+1+1+1+1)=l[k].c.b∧nAt (ims l) (k*28+1+1+1+1+1)=l[k].c.c∧nAt (ims l) (k*28+1+1+1+1+1+1)=l[k].c.al∧nAt (ims l) (k*28+1+1+1+1+1+1+1)=l[k].c.f∧nAt (ims l) (k*28+1+1+1+1+1+1+1+1)=l[k].p0.w∧nAt (ims l) (k*28+1+1+1+1+1+1+1+1+1)=l[k].p0.h∧nAt (ims l) (k*28+1+1+1+1+1+1+1+1+1+1)=l[k].p0.s∧lAt (ims l) (k*28+1+1+1+1+1+1+1+1+1+1+1)=l[k].p0.n∧cAt (ims l) (k*28+1+1+1+1+1+1+1+1+1+1+1)=l[k].p0.xs∧nAt (ims l) (k*28+1+1+1+1+1+1+1+1+1+1+1+1)=l[k].p1.w∧nAt (ims l) (k*28+1+1+1+1+1+1+1+1+1+1+1+1+1)=l[k].p1.h∧nAt (ims l) (k*28+1+1+1+1+1+1+1+1+1+1+1+1+1+1)=l[k].p1.s∧lAt (ims l) (k*28+1+1+1+1+1+1+1+1+1+1+1+1+1+1+1)=l[k].p1.n∧cAt (ims l) (k*28+1+1+1+1+1+1+1+1+1+1+1+1+1+1+1)=l[k].p1.xs∧nAt (ims l) (k*28+1+1+1+1+1+1+1+1+1+1+1+1+1+1+1+1)=l[k].p2.w∧nAt (ims l) (k*28+1+1+1+1+1+1+1+1+1+1+1+1+1+1+1+1+1)=l[k].p2.h∧nAt (ims l) (k*28+1+1+1+1+1+1+1+1+1+1+1+1+1+1+1+1+1+1)=l[k].p2.s∧lAt (ims l) (k*28+1+1+1+1+1+1+1+1+1+1+1+1+1+1+1+1+1+1+1)=l[k].p2.n∧cAt (ims l) (k*28+1+1+1+1+1+1+1+1+1+1+1+1+1+1+1+1+1+1+1)=l[k].p2.xs∧nAt (ims l) (k*28+1+1+1+1+1+1+1+1+1+1+1+1+1+1+1+1+1+1+1+1)=l[k].p3.w∧nAt (ims l) (k*28+1+1+1+1+1+1+1+1+1+1+1+1+1+1+1+1+1+1+1+1+1)=l[k].p3.h∧nAt (ims l) (k*28+1+1+1+1+1+1+1+1+1+1+1+1+1+1+1+1+1+1+1+1+1+1)=l[k].p3.s∧lAt (ims l) (k*28+1+1+1+1+1+1+1+1+1+1+1+1+1+1+1+1+1+1+1+1+1+1+1)=l[k].p3.n∧cAt (ims l) (k*28+1+1+1+1+1+1+1+1+1+1+1+1+1+1+1+1+1+1+1+1+1+1+1)=l[k].p3.xs∧nAt (ims l) (k*28+1+1+1+1+1+1+1+1+1+1+1+1+1+1+1+1+1+1+1+1+1+1+1+1)=l[k].p4.w∧nAt (ims l) (k*28+1+1+1+1+1+1+1+1+1+1+1+1+1+1+1+1+1+1+1+1+1+1+1+1+1)=l[k].p4.h∧nAt (ims l) (k*28+1+1+1+1+1+1+1+1+1+1+1+1+1+1+1+1+1+1+1+1+1+1+1+1+1+1)=l[k].p4.s∧lAt (ims l) (k*28+1+1+1+1+1+1+1+1+1+1+1+1+1+1+1+1+1+1+1+1+1+1+1+1+1+1+1)=l[k].p4.n∧cAt (ims l) (k*28+1+1+1+1+1+1+1+1+1+1+1+1+1+1+1+1+1+1+1+1+1+1+1+1+1+1+1)=l[k].p4.xs:=by
 obtain ⟨e0,e1,e2,e3,e4,e5,e6,e7,e8,e9,e10,e11,e12,e13,e14,e15,e16,e17,e18,e19,e20,e21,e22,e23,e24,e25,e26,e27⟩:=zWG h
 simp only [nAt,bAt,lAt,cAt,e0,e1,e2,e3,e4,e5,e6,e7,e8,e9,e10,e11,e12,e13,e14,e15,e16,e17,e18,e19,e20,e21,e22,e23,e24,e25,e26,e27,and_self]
def imAt (xs:List DV) (i:Nat):Im:=⟨nAt xs i,nAt xs (i+1),bAt xs (i+2),⟨nAt xs (i+3),nAt xs (i+4),nAt xs (i+5),nAt xs (i+6),nAt xs (i+7)⟩,⟨nAt xs (i+8),nAt xs (i+9),nAt xs (i+10),lAt xs (i+11),cAt xs (i+11)⟩,⟨nAt xs (i+12),nAt xs (i+13),nAt xs (i+14),lAt xs (i+15),cAt xs (i+15)⟩,⟨nAt xs (i+16),nAt xs (i+17),nAt xs (i+18),lAt xs (i+19),cAt xs (i+19)⟩,⟨nAt xs (i+20),nAt xs (i+21),nAt xs (i+22),lAt xs (i+23),cAt xs (i+23)⟩,⟨nAt xs (i+24),nAt xs (i+25),nAt xs (i+26),lAt xs (i+27),cAt xs (i+27)⟩⟩
theorem jJf {l:List Im} {k:Nat} (h:k < l.length):imAt (ims l) (k*28)=l[k]:=by
 have e:=zWH h
 simp only [imAt,show k*28+2=k*28+1+1 from rfl,show k*28+3=k*28+1+1+1 from rfl,show k*28+4=k*28+1+1+1+1 from rfl,show k*28+5=k*28+1+1+1+1+1 from rfl,show k*28+6=k*28+1+1+1+1+1+1 from rfl,show k*28+7=k*28+1+1+1+1+1+1+1 from rfl,show k*28+8=k*28+1+1+1+1+1+1+1+1 from rfl,show k*28+9=k*28+1+1+1+1+1+1+1+1+1 from rfl,show k*28+10=k*28+1+1+1+1+1+1+1+1+1+1 from rfl,show k*28+11=k*28+1+1+1+1+1+1+1+1+1+1+1 from rfl,show k*28+12=k*28+1+1+1+1+1+1+1+1+1+1+1+1 from rfl,show k*28+13=k*28+1+1+1+1+1+1+1+1+1+1+1+1+1 from rfl,show k*28+14=k*28+1+1+1+1+1+1+1+1+1+1+1+1+1+1 from rfl,show k*28+15=k*28+1+1+1+1+1+1+1+1+1+1+1+1+1+1+1 from rfl,show k*28+16=k*28+1+1+1+1+1+1+1+1+1+1+1+1+1+1+1+1 from rfl,show k*28+17=k*28+1+1+1+1+1+1+1+1+1+1+1+1+1+1+1+1+1 from rfl,show k*28+18=k*28+1+1+1+1+1+1+1+1+1+1+1+1+1+1+1+1+1+1 from rfl,show k*28+19=k*28+1+1+1+1+1+1+1+1+1+1+1+1+1+1+1+1+1+1+1 from rfl,show k*28+20=k*28+1+1+1+1+1+1+1+1+1+1+1+1+1+1+1+1+1+1+1+1 from rfl,show k*28+21=k*28+1+1+1+1+1+1+1+1+1+1+1+1+1+1+1+1+1+1+1+1+1 from rfl,show k*28+22=k*28+1+1+1+1+1+1+1+1+1+1+1+1+1+1+1+1+1+1+1+1+1+1 from rfl,show k*28+23=k*28+1+1+1+1+1+1+1+1+1+1+1+1+1+1+1+1+1+1+1+1+1+1+1 from rfl,show k*28+24=k*28+1+1+1+1+1+1+1+1+1+1+1+1+1+1+1+1+1+1+1+1+1+1+1+1 from rfl,show k*28+25=k*28+1+1+1+1+1+1+1+1+1+1+1+1+1+1+1+1+1+1+1+1+1+1+1+1+1 from rfl,show k*28+26=k*28+1+1+1+1+1+1+1+1+1+1+1+1+1+1+1+1+1+1+1+1+1+1+1+1+1+1 from rfl,show k*28+27=k*28+1+1+1+1+1+1+1+1+1+1+1+1+1+1+1+1+1+1+1+1+1+1+1+1+1+1+1 from rfl,e]
def zQN (xs:List DV):List Im:=(List.range (xs.length / 28)).map fun k=>imAt xs (k*28)
theorem zQ8 (l:List Im):zQN (ims l)=l:=by
 have e:(ims l).length / 28=l.length:=by rw [zZO]; omega
 unfold zQN
 rw [e]
 refine List.ext_getElem (by simp) fun i h1 h2=>?_
 simp only [List.getElem_map,List.getElem_range]
 exact jJf h2
def jVw (n:Nat) (xs:List DV):Prop:=(xs=ims (zQN xs)∧n=(zQN xs).length)∧∀ m∈zQN xs,m.isU
theorem jVw.of {n:Nat} {xs:List DV} (h:jVw n xs):∃ l:List Im,(∀ m∈l,m.isU)∧xs=ims l∧n=l.length:=⟨zQN xs,h.2,h.1.1,h.1.2⟩
def jVH (n:Nat) (xs:List DV):Prop:=xs=ops (zQG xs)∧n=(zQG xs).length
def gOff (n c:Int):Int:=if modS n 3=0 then c else c+modS (IntKind.wrap .i64 (Int.tdiv n 3)) 9 - 4
structure Rw where
  k:Int
  im:Int
  x:Int
  y:Int
  ma:Int
  mx:Int
  my:Int
  op:Int
  ope:Int
  mo:Int
  fl:Int
def gOp (r:Rw) (push:Bool) (n:Int) (c:Rc) (free:Bool) (most:Int):Oq:=
 let m:=decide (modS r.ma 4=0)
 ⟨if push then 2 else 1,if push then 0 else modS r.im n,if push then 0 else gOff r.x c.a,if push then 0 else gOff r.y c.b,
  if m then 1+modS (IntKind.wrap .i64 (Int.tdiv r.ma 4)) n else 0,if m then gOff r.mx c.a else 0,if m then gOff r.my c.b else 0,
  if modS r.op 2=0 then zXk (IntKind.wrap .i64 (Int.tdiv r.op 2)) most else most,
  if free && decide (modS r.ope 2=0) then 1+modS (IntKind.wrap .i64 (Int.tdiv r.ope 2)) 12 else 4,
  if modS r.mo 2=0 then 1+modS (IntKind.wrap .i64 (Int.tdiv r.mo 2)) 12 else 1,
  push && decide (modS r.fl 2=0),push && decide (modS (IntKind.wrap .i64 (Int.tdiv r.fl 2)) 3=0)⟩
def rwAt (xs:List DV) (i:Nat):Rw:=⟨nAt xs i,nAt xs (i+1),nAt xs (i+2),nAt xs (i+3),nAt xs (i+4),nAt xs (i+5),nAt xs (i+6),nAt xs (i+7),nAt xs (i+8),nAt xs (i+9),nAt xs (i+10)⟩
structure Scn where
  b:Int
  x:Int
  y:Int
  w:Int
  h:Int
  tw:Int
  th:Int
  on:Nat
  oxs:List DV
  pn:Nat
  pxs:List DV
  rn:Nat
  rxs:List DV
def Scn.c (s:Scn):Rc:=⟨modS s.x 13 - 6,modS s.y 13 - 6,modS s.x 13 - 6+(1+modS s.w 5),modS s.y 13 - 6+(1+modS s.h 4)⟩
def Scn.gw (s:Scn):Int:=1+modS s.w 5
def Scn.gh (s:Scn):Int:=1+modS s.h 4
def Scn.gtw (s:Scn):Int:=1+modS s.tw s.gw
def Scn.gth (s:Scn):Int:=1+modS s.th s.gh
def Scn.most (s:Scn):Int:=gMax s.b
def Scn.bits (s:Scn):Int:=if s.most > 255 then 16 else 8
def Scn.tiles (s:Scn):Int:=IntKind.wrap .i64 ((cntS s.c s.gtw s.gth).1*(cntS s.c s.gtw s.gth).2.1)
def Scn.ord (s:Scn):List Int:=jXE (ints s.oxs) s.tiles
def Scn.pic (s:Scn) (k:Nat):Im:=zK3 (nAt s.pxs (k*5)) (nAt s.pxs (k*5+1)) (nAt s.pxs (k*5+2)) (nAt s.pxs (k*5+3)) (lAt s.pxs (k*5+4)) (cAt s.pxs (k*5+4)) s.c.a s.c.b s.c.c s.c.d s.most
def Scn.pics (s:Scn) (k:Nat):List Im:=(List.range k).map s.pic
def Scn.solo (s:Scn):Im:=zQf s.gw s.gh ⟨s.most,0,0,s.most,s.most⟩
def Scn.ims (s:Scn):List Im:=if min s.pn 4=0 then [s.solo] else s.pics (min s.pn 4)
def Scn.step (s:Scn) (r:Rw) (z:List Oq × List Oq):List Oq × List Oq:=
 if modS r.k 8=0∧0 < z.2.length then (z.1++[popO],z.2.dropLast)
 else
  let o:=gOp r (decide (modS r.k 8 < 3)) s.ims.length s.c (ctxB z.2) s.most
  (z.1++[o],if modS r.k 8 < 3 then z.2++[o] else z.2)
def Scn.run (s:Scn):Nat→List Oq × List Oq
 | 0=>([],[])
 | k+1=>s.step (rwAt s.rxs (k*11)) (s.run k)
def Scn.ops (s:Scn):List Oq:=(s.run (min s.rn 9)).1++List.replicate (s.run (min s.rn 9)).2.length popO
def jJ6 (n:Nat) (xs:List DV):Prop:=xs.length=n*5∧∀ k,k < n→xs[k*5]?=some (.int .i64 (nAt xs (k*5)))∧xs[k*5+1]?=some (.int .i64 (nAt xs (k*5+1)))∧xs[k*5+1+1]?=some (.int .i64 (nAt xs (k*5+1+1)))∧xs[k*5+1+1+1]?=some (.int .i64 (nAt xs (k*5+1+1+1)))∧xs[k*5+1+1+1+1]?=some (.sl (lAt xs (k*5+1+1+1+1)) (cAt xs (k*5+1+1+1+1)))∧Is5 (lAt xs (k*5+1+1+1+1)) (cAt xs (k*5+1+1+1+1))
def jVG (n:Nat) (xs:List DV):Prop:=xs.length=n*11∧∀ i,i < n*11→xs[i]?=some (.int .i64 (nAt xs i))
def Scn.ok (s:Scn):Prop:=(s.oxs=is (ints s.oxs)∧s.on=s.oxs.length)∧jJ6 s.pn s.pxs∧jVG s.rn s.rxs
theorem Scn.facts (s:Scn):(0≤modS s.x 13∧modS s.x 13 < 13)∧(0≤modS s.y 13∧modS s.y 13 < 13)∧(1≤s.gw∧s.gw≤5)∧(1≤s.gh∧s.gh≤4)∧(1≤s.gtw∧s.gtw≤s.gw)∧(1≤s.gth∧s.gth≤s.gh):=by
 have a:=@zZ3 s.x 13 (by omega) (by omega)
 have b:=@zZ3 s.y 13 (by omega) (by omega)
 have c:=@zZ3 s.w 5 (by omega) (by omega)
 have d:=@zZ3 s.h 4 (by omega) (by omega)
 have e:1≤s.gw∧s.gw≤5:=by unfold Scn.gw; omega
 have f:1≤s.gh∧s.gh≤4:=by unfold Scn.gh; omega
 have g:=@zZ3 s.tw s.gw (by omega) (by omega)
 have h:=@zZ3 s.th s.gh (by omega) (by omega)
 exact ⟨a,b,e,f,by unfold Scn.gtw; omega,by unfold Scn.gth; omega⟩
theorem Scn.pics_len (s:Scn) (k:Nat):(s.pics k).length=k:=by simp [Scn.pics]
theorem Scn.ims_len (s:Scn):1≤s.ims.length∧s.ims.length≤4:=by
 unfold Scn.ims
 split
 ·simp
 ·rw [Scn.pics_len]; omega
theorem Scn.run_len (s:Scn) (k:Nat):(s.run k).1.length=k∧(s.run k).2.length≤k:=by
 induction k with
 | zero=>simp [Scn.run]
 | succ k ih=>
  simp only [Scn.run,Scn.step]
  split
  ·simp; omega
  ·simp only []
   split <;> simp <;> omega
theorem Scn.most_in (s:Scn):s.most=255∨s.most=65535:=by
 unfold Scn.most gMax
 split <;> simp
theorem Scn.c_facts (s:Scn):s.c.c - s.c.a=s.gw∧s.c.d - s.c.b=s.gh ∧ -6≤s.c.a∧s.c.a≤6 ∧ -6≤s.c.b∧s.c.b≤6:=by
 have:=s.facts
 simp only [Scn.c,Scn.gw,Scn.gh] at this ⊢
 omega
theorem Scn.bits_of (s:Scn):(gMax s.b > 255→16=s.bits)∧(¬ gMax s.b > 255→8=s.bits):=by
 unfold Scn.bits Scn.most
 exact ⟨fun h=>by rw [if_pos h],fun h=>by rw [if_neg h]⟩
theorem cnt1 {n w:Int} (h:1≤w) (hw:w≤n) (hn:n≤5):1≤IntKind.wrap .i64 (Int.tdiv (IntKind.wrap .i64 (IntKind.wrap .i64 (IntKind.wrap .i64 n+w) - 1)) w)∧IntKind.wrap .i64 (Int.tdiv (IntKind.wrap .i64 (IntKind.wrap .i64 (IntKind.wrap .i64 n+w) - 1)) w)≤n:=by
 rw [IntWalk.i64_in n ⟨by omega,by omega⟩,IntWalk.i64_in (n+w) ⟨by omega,by omega⟩,IntWalk.i64_in (n+w - 1) ⟨by omega,by omega⟩,Int.tdiv_eq_ediv_of_nonneg (by omega)]
 have:1≤(n+w - 1) / w∧(n+w - 1) / w≤n:=by
  rcases (show w=1∨w=2∨w=3∨w=4∨w=5 by omega) with rfl | rfl | rfl | rfl | rfl <;> omega
 rw [IntWalk.i64_in _ ⟨by omega,by omega⟩]
 exact this
theorem Scn.cnt (s:Scn):(cntS s.c s.gtw s.gth).2.2=true∧(1≤(cntS s.c s.gtw s.gth).1∧(cntS s.c s.gtw s.gth).1≤5)∧1≤(cntS s.c s.gtw s.gth).2.1∧(cntS s.c s.gtw s.gth).2.1≤4:=by
 obtain ⟨f1,f2,f3,f4,f5,f6⟩:=s.facts
 have CF:=s.c_facts
 have he:Rc.empty s.c=false:=by
  rw [Rc.empty_iff]; omega
 unfold cntS
 rw [he,if_neg (by simp),CF.1,CF.2.1,if_neg (by rw [IntWalk.i64_in _ ⟨by omega,by omega⟩,IntWalk.i64_in _ ⟨by omega,by omega⟩]; omega)]
 have a:=cnt1 f5.1 f5.2 (by omega)
 have b:=cnt1 f6.1 f6.2 (by omega)
 exact ⟨rfl,⟨a.1,Int.le_trans a.2 (by omega)⟩,b.1,Int.le_trans b.2 (by omega)⟩
theorem Scn.tiles_in (s:Scn):0≤s.tiles∧s.tiles≤20:=by
 obtain ⟨_,a,b⟩:=s.cnt
 unfold Scn.tiles
 generalize (cntS s.c s.gtw s.gth).1=x at *
 generalize (cntS s.c s.gtw s.gth).2.1=y at *
 have h1:0≤x*y:=Int.mul_nonneg (by omega) (by omega)
 have h2:x*y≤5*4:=Int.mul_le_mul a.2 b.2 (by omega) (by omega)
 rw [IntWalk.i64_in _ ⟨by omega,by omega⟩]
 omega
theorem Scn.run_pop {s:Scn} {k:Nat} (h:modS (rwAt s.rxs (k*11)).k 8=0∧0 < (s.run k).2.length):s.run (k+1)=((s.run k).1++[popO],(s.run k).2.dropLast):=by
 simp only [Scn.run,Scn.step]
 rw [if_pos h]
theorem Scn.run_op {s:Scn} {k:Nat} (h:¬ (modS (rwAt s.rxs (k*11)).k 8=0∧0 < (s.run k).2.length)) {o:Oq} (ho:o=gOp (rwAt s.rxs (k*11)) (decide (modS (rwAt s.rxs (k*11)).k 8 < 3)) s.ims.length s.c (ctxB (s.run k).2) s.most) :
  (o.kind=2→s.run (k+1)=((s.run k).1++[o],(s.run k).2++[o]))∧(o.kind≠2→s.run (k+1)=((s.run k).1++[o],(s.run k).2)):=by
 have e:s.run (k+1)=((s.run k).1++[o],if modS (rwAt s.rxs (k*11)).k 8 < 3 then (s.run k).2++[o] else (s.run k).2):=by
  simp only [Scn.run,Scn.step]
  rw [if_neg h,← ho]
 have hk:o.kind=if modS (rwAt s.rxs (k*11)).k 8 < 3 then 2 else 1:=by
  rw [ho]
  simp [gOp]
 rw [e,hk]
 split <;> simp
def gZ9 (xs:List RV):Option RV:=match xs with | [.d (.int _ w),.d (.int _ h)]=>some (RV.d (dQ (zQZ w h))) | _=>none
def gZ10 (xs:List RV):Option RV:=match xs with | [.agg [.int _ w,.int _ h,.int _ s,.sl n xs]]=>some (RV.d (dQ (zQV w h s n))) | _=>none
def gZ11 (xs:List RV):Option RV:=match xs with | [.agg [.int _ w,.int _ h,.bool so,.int _ c0,.int _ c1,.int _ c2,.int _ ca,.int _ cf,.int _ w0,.int _ h0,.int _ s0,.sl n0 xs0,.int _ w1,.int _ h1,.int _ s1,.sl n1 xs1,.int _ w2,.int _ h2,.int _ s2,.sl n2 xs2,.int _ w3,.int _ h3,.int _ s3,.sl n3 xs3,.int _ w4,.int _ h4,.int _ s4,.sl n4 xs4]]=>some (RV.d (dQ (Im.formed ⟨w,h,so,⟨c0,c1,c2,ca,cf⟩,⟨w0,h0,s0,n0,xs0⟩,⟨w1,h1,s1,n1,xs1⟩,⟨w2,h2,s2,n2,xs2⟩,⟨w3,h3,s3,n3,xs3⟩,⟨w4,h4,s4,n4,xs4⟩⟩))) | _=>none
def gZ12 (xs:List RV):Option RV:=match xs with | [.agg [.int _ w,.int _ h,.bool so,.int _ c0,.int _ c1,.int _ c2,.int _ ca,.int _ cf,.int _ w0,.int _ h0,.int _ s0,.sl n0 xs0,.int _ w1,.int _ h1,.int _ s1,.sl n1 xs1,.int _ w2,.int _ h2,.int _ s2,.sl n2 xs2,.int _ w3,.int _ h3,.int _ s3,.sl n3 xs3,.int _ w4,.int _ h4,.int _ s4,.sl n4 xs4],.d (.int _ x),.d (.int _ y)]=>let a:=(Im.px ⟨w,h,so,⟨c0,c1,c2,ca,cf⟩,⟨w0,h0,s0,n0,xs0⟩,⟨w1,h1,s1,n1,xs1⟩,⟨w2,h2,s2,n2,xs2⟩,⟨w3,h3,s3,n3,xs3⟩,⟨w4,h4,s4,n4,xs4⟩⟩ x y); some (RV.agg [DV.int .u16 a.a,DV.int .u16 a.b,DV.int .u16 a.c,DV.int .u16 a.al,DV.int .u16 a.f]) | _=>none
def gZ13 (xs:List RV):Option RV:=match xs with | [.d (.int _ w),.d (.int _ h),.agg [.int _ c0,.int _ c1,.int _ c2,.int _ ca,.int _ cf]]=>let a:=(zQf w h ⟨c0,c1,c2,ca,cf⟩); some (RV.agg [DV.int .i64 a.w,DV.int .i64 a.h,DV.bool a.so,DV.int .u16 a.c.a,DV.int .u16 a.c.b,DV.int .u16 a.c.c,DV.int .u16 a.c.al,DV.int .u16 a.c.f,DV.int .i64 a.p0.w,DV.int .i64 a.p0.h,DV.int .i64 a.p0.s,DV.sl a.p0.n a.p0.xs,DV.int .i64 a.p1.w,DV.int .i64 a.p1.h,DV.int .i64 a.p1.s,DV.sl a.p1.n a.p1.xs,DV.int .i64 a.p2.w,DV.int .i64 a.p2.h,DV.int .i64 a.p2.s,DV.sl a.p2.n a.p2.xs,DV.int .i64 a.p3.w,DV.int .i64 a.p3.h,DV.int .i64 a.p3.s,DV.sl a.p3.n a.p3.xs,DV.int .i64 a.p4.w,DV.int .i64 a.p4.h,DV.int .i64 a.p4.s,DV.sl a.p4.n a.p4.xs]) | _=>none
def gZ14 (xs:List RV):Option RV:=match xs with | [.agg [.int _ w,.int _ h,.bool so,.int _ c0,.int _ c1,.int _ c2,.int _ ca,.int _ cf,.int _ w0,.int _ h0,.int _ s0,.sl n0 xs0,.int _ w1,.int _ h1,.int _ s1,.sl n1 xs1,.int _ w2,.int _ h2,.int _ s2,.sl n2 xs2,.int _ w3,.int _ h3,.int _ s3,.sl n3 xs3,.int _ w4,.int _ h4,.int _ s4,.sl n4 xs4],.d (.int _ most)]=>some (rJ (Im.valid ⟨w,h,so,⟨c0,c1,c2,ca,cf⟩,⟨w0,h0,s0,n0,xs0⟩,⟨w1,h1,s1,n1,xs1⟩,⟨w2,h2,s2,n2,xs2⟩,⟨w3,h3,s3,n3,xs3⟩,⟨w4,h4,s4,n4,xs4⟩⟩ most)) | _=>none
def gZ15 (xs:List RV):Option RV:=match xs with | []=>some (RV.tup [RV.tup [rJ 37,rJ 5]]) | [.agg [.int _ w,.int _ h,.bool so,.int _ c0,.int _ c1,.int _ c2,.int _ ca,.int _ cf,.int _ w0,.int _ h0,.int _ s0,.sl n0 xs0,.int _ w1,.int _ h1,.int _ s1,.sl n1 xs1,.int _ w2,.int _ h2,.int _ s2,.sl n2 xs2,.int _ w3,.int _ h3,.int _ s3,.sl n3 xs3,.int _ w4,.int _ h4,.int _ s4,.sl n4 xs4]]=>some (RV.d (dS (Im.pixels ⟨w,h,so,⟨c0,c1,c2,ca,cf⟩,⟨w0,h0,s0,n0,xs0⟩,⟨w1,h1,s1,n1,xs1⟩,⟨w2,h2,s2,n2,xs2⟩,⟨w3,h3,s3,n3,xs3⟩,⟨w4,h4,s4,n4,xs4⟩⟩).length (pxs (Im.pixels ⟨w,h,so,⟨c0,c1,c2,ca,cf⟩,⟨w0,h0,s0,n0,xs0⟩,⟨w1,h1,s1,n1,xs1⟩,⟨w2,h2,s2,n2,xs2⟩,⟨w3,h3,s3,n3,xs3⟩,⟨w4,h4,s4,n4,xs4⟩⟩)))) | _=>none
def gZ16 (xs:List RV):Option RV:=match xs with | [.agg [.int _ w,.int _ h,.bool so,.int _ c0,.int _ c1,.int _ c2,.int _ ca,.int _ cf,.int _ w0,.int _ h0,.int _ s0,.sl n0 xs0,.int _ w1,.int _ h1,.int _ s1,.sl n1 xs1,.int _ w2,.int _ h2,.int _ s2,.sl n2 xs2,.int _ w3,.int _ h3,.int _ s3,.sl n3 xs3,.int _ w4,.int _ h4,.int _ s4,.sl n4 xs4],.agg [.int _ w',.int _ h',.bool so',.int _ c0',.int _ c1',.int _ c2',.int _ ca',.int _ cf',.int _ w0',.int _ h0',.int _ s0',.sl n0' xs0',.int _ w1',.int _ h1',.int _ s1',.sl n1' xs1',.int _ w2',.int _ h2',.int _ s2',.sl n2' xs2',.int _ w3',.int _ h3',.int _ s3',.sl n3' xs3',.int _ w4',.int _ h4',.int _ s4',.sl n4' xs4']]=>some (RV.d (dQ (Im.equal ⟨w,h,so,⟨c0,c1,c2,ca,cf⟩,⟨w0,h0,s0,n0,xs0⟩,⟨w1,h1,s1,n1,xs1⟩,⟨w2,h2,s2,n2,xs2⟩,⟨w3,h3,s3,n3,xs3⟩,⟨w4,h4,s4,n4,xs4⟩⟩ ⟨w',h',so',⟨c0',c1',c2',ca',cf'⟩,⟨w0',h0',s0',n0',xs0'⟩,⟨w1',h1',s1',n1',xs1'⟩,⟨w2',h2',s2',n2',xs2'⟩,⟨w3',h3',s3',n3',xs3'⟩,⟨w4',h4',s4',n4',xs4'⟩⟩))) | _=>none
def gZ17 (xs:List AV) (bs:List Bx):Option Ret:=match xs,bs with | [AV.one (Cl.d (DV.int _ w)),AV.one (Cl.d (DV.int _ h)),AV.one (Cl.d (DV.sl n xs))],[]=>some ⟨AV.tup [AV.agg [cJ (imOf w h (zQc xs)).w,cJ (imOf w h (zQc xs)).h,Cl.d (dQ (imOf w h (zQc xs)).so),cK (imOf w h (zQc xs)).c.a,cK (imOf w h (zQc xs)).c.b,cK (imOf w h (zQc xs)).c.c,cK (imOf w h (zQc xs)).c.al,cK (imOf w h (zQc xs)).c.f,cJ (imOf w h (zQc xs)).p0.w,cJ (imOf w h (zQc xs)).p0.h,cJ (imOf w h (zQc xs)).p0.s,Cl.ref 0 (imOf w h (zQc xs)).p0.n,cJ (imOf w h (zQc xs)).p1.w,cJ (imOf w h (zQc xs)).p1.h,cJ (imOf w h (zQc xs)).p1.s,Cl.ref 1 (imOf w h (zQc xs)).p1.n,cJ (imOf w h (zQc xs)).p2.w,cJ (imOf w h (zQc xs)).p2.h,cJ (imOf w h (zQc xs)).p2.s,Cl.ref 2 (imOf w h (zQc xs)).p2.n,cJ (imOf w h (zQc xs)).p3.w,cJ (imOf w h (zQc xs)).p3.h,cJ (imOf w h (zQc xs)).p3.s,Cl.ref 3 (imOf w h (zQc xs)).p3.n,cJ (imOf w h (zQc xs)).p4.w,cJ (imOf w h (zQc xs)).p4.h,cJ (imOf w h (zQc xs)).p4.s,Cl.ref 4 (imOf w h (zQc xs)).p4.n],AV.one (Cl.d (dQ (ofOk w h n)))],[Bx.row 34 1 (imOf w h (zQc xs)).p0.xs,Bx.row 34 1 (imOf w h (zQc xs)).p1.xs,Bx.row 34 1 (imOf w h (zQc xs)).p2.xs,Bx.row 34 1 (imOf w h (zQc xs)).p3.xs,Bx.row 34 1 (imOf w h (zQc xs)).p4.xs],true⟩ | _,_=>none
def gamI:Gam where
 pure:=fun f xs=>
  if f=125 then gZ9 xs else
  if f=92 then gZ9 xs else
  if f=146 then gZ9 xs else
  if f=126 then (match xs with | [.agg [.int _ w,.int _ h,.int _ s,.sl n xs]]=>some (RV.d (dQ (zY1 ⟨w,h,s,n,xs⟩))) | _=>none) else
  if f=147 then (match xs with | [.d (.int _ w),.d (.int _ h),.d (.int _ s)]=>some (rJ (lenW w h s)) | _=>none) else
  if f=127 then gZ10 xs else
  if f=129 then gZ10 xs else
  if f=122 then (match xs with | [.agg [.int _ c0,.int _ c1,.int _ c2,.int _ ca,.int _ cf],.d (.int _ most)]=>some (RV.d (dQ (Px.ok ⟨c0,c1,c2,ca,cf⟩ most))) | _=>none) else
  if f=99 then gZ11 xs else
  if f=102 then (match xs with | [.agg [.int _ w,.int _ h,.bool so,.int _ c0,.int _ c1,.int _ c2,.int _ ca,.int _ cf,.int _ w0,.int _ h0,.int _ s0,.sl n0 xs0,.int _ w1,.int _ h1,.int _ s1,.sl n1 xs1,.int _ w2,.int _ h2,.int _ s2,.sl n2 xs2,.int _ w3,.int _ h3,.int _ s3,.sl n3 xs3,.int _ w4,.int _ h4,.int _ s4,.sl n4 xs4]]=>some (RV.d (dQ (Im.inner ⟨w,h,so,⟨c0,c1,c2,ca,cf⟩,⟨w0,h0,s0,n0,xs0⟩,⟨w1,h1,s1,n1,xs1⟩,⟨w2,h2,s2,n2,xs2⟩,⟨w3,h3,s3,n3,xs3⟩,⟨w4,h4,s4,n4,xs4⟩⟩))) | _=>none) else
  if f=66 then gZ11 xs else
  if f=101 then gZ12 xs else
  if f=67 then gZ12 xs else
  if f=121 then (match xs with | [.agg [.int _ w,.int _ h,.bool so,.int _ c0,.int _ c1,.int _ c2,.int _ ca,.int _ cf,.int _ w0,.int _ h0,.int _ s0,.sl n0 xs0,.int _ w1,.int _ h1,.int _ s1,.sl n1 xs1,.int _ w2,.int _ h2,.int _ s2,.sl n2 xs2,.int _ w3,.int _ h3,.int _ s3,.sl n3 xs3,.int _ w4,.int _ h4,.int _ s4,.sl n4 xs4]]=>some (rJ (Im.shape ⟨w,h,so,⟨c0,c1,c2,ca,cf⟩,⟨w0,h0,s0,n0,xs0⟩,⟨w1,h1,s1,n1,xs1⟩,⟨w2,h2,s2,n2,xs2⟩,⟨w3,h3,s3,n3,xs3⟩,⟨w4,h4,s4,n4,xs4⟩⟩)) | _=>none) else
  if f=114 then gZ13 xs else
  if f=22 then gZ13 xs else
  if f=94 then gZ14 xs else
  if f=61 then gZ15 xs else
  if f=33 then gZ15 xs else
  if f=42 then gZ16 xs else
  if f=80 then (match xs with | [.d (.sl n xs),.d (.sl m ys)]=>some (RV.d (dQ (decide (zQc xs=zQc ys)))) | _=>none) else
  none
 modes:=fun f=>
  if f=100 then some ([true,true],0,2) else
  if f=108 then some ([true,true,true],0,5) else
  if f=48 then some ([true,true,true],0,5) else
  none
 proc:=fun f xs bs=>
  if f=100 then (match xs,bs with | [AV.one (Cl.d (DV.int _ w)),AV.one (Cl.d (DV.int _ h))],[]=>some ⟨AV.one (Cl.clo 128 [Cap.ptr 0 0,Cap.ptr 1 0]),[bC [cJ h],bC [cJ w]],false⟩ | _,_=>none) else
  if f=108 then gZ17 xs bs else
  if f=48 then gZ17 xs bs else
  none
 iter:=fun f cs=>
  if f=128 then (match cs with | [(true,[DV.int _ h]),(true,[DV.int _ w])]=>some ((w.toNat*h.toNat),fun _k=>[dJ ((_k % w.toNat:Nat):Int),dJ ((_k / w.toNat:Nat):Int)]) | _=>none) else
  none
section
attribute [local irreducible] Ans AnsO AnsG AnsN AnsI
def jKB (b:Int):Int:=if b=8 then 255 else if b=16 then 65535 else 0
def jJ0 (b:Int):Bool:=decide (b=8∨b=16)
def errO (bits:Int) (mn:Nat) (o:Oq) (l:List Oq):Int:=
 if ¬ (o.kind=1∨o.kind=2∨o.kind=3) then 9
 else if o.fields=false then 10
 else if o.kind=3 then (if l=[] then 18 else 0)
 else if (o.kind=1∧(o.image < 0∨o.image≥(mn:Int)))∨o.mask < 0∨o.mask > (mn:Int) then 11
 else if ¬ (zUg o.x=true∧zUg o.y=true∧zUg o.mx=true∧zUg o.my=true) then 12
 else if o.opac > jKB bits then 13
 else if ¬ (1≤o.oper∧o.oper < 13) then 14
 else if ¬ (1≤o.mode∧o.mode < 13) then 15
 else if o.oper≠4∧ctxB l=false then 16
 else if o.kind=2∧64≤l.length then 17
 else 0
def jX8 (bits:Int) (c:Rc) (tw th:Int) (l:List Int) (mn pn:Nat):Int:=
 if jJ0 bits=false then 1
 else if c.empty=true∨c.area > 16777216∨zUg c.a=false∨zUg c.b=false then 2
 else if (cntS c tw th).2.2=false then 3
 else if jKt l (IntKind.wrap .i64 ((cntS c tw th).1*(cntS c tw th).2.1))=false then 4
 else if (mn:Int) > 64∨(pn:Int) > 4096 then 5
 else 0
def zHS (o:Oq) (st:List Oq):List Oq:=if o.kind=2 then st++[o] else if o.kind=3 then st.dropLast else st
def runO (bits:Int) (mn:Nat):List Oq→Int→List Oq→Int × Int
 | [],i,st=>if st=[] then (0,0) else (18,i)
 | o::r,i,st=>if errO bits mn o st=0 then runO bits mn r (i+1) (zHS o st) else (errO bits mn o st,i)
def opsE (bits:Int) (c:Rc) (tw th:Int) (l:List Int) (mn:Nat) (ps:List Oq):Int × Int:=
 if jX8 bits c tw th l mn ps.length=0 then runO bits mn ps 0 [] else (jX8 bits c tw th l mn ps.length,0)
theorem zQC (w h:Int):Ans prog 125 [rJ (w),rJ (h)] (RV.d (dQ (zQZ w h))):=
 zQm (Γ:=gamI) Ann.leaf zQB Tryz.func125 rfl (Nat.le_of_ble_eq_true rfl) fun hwf=>by
  refine Eq.mpr (by kernel_rfl:_=(let a:=(RV.d (dQ false)=RV.d (dQ (zQZ w h))); tU4 (((decide (w≥1))=true→tU4 (((decide (h≥1))=true→tU2 ((h≠0)∧tU3 (RV.d (dQ (decide (w≤(wK (Int.tdiv (16777216:Int) h)))))=RV.d (dQ (zQZ w h)))))∧((decide (h≥1))=(!true)→tU2 a)))∧((decide (w≥1))=(!true)→tU4 a)))) ?_
  delta tU2 tU3 tU4 dQ wK
  simp only [sS,zQT]
  have:=@zV9 w h
  grind [zQZ]
theorem zZf (w h:Int):Ans prog 146 [rJ (w),rJ (h)] (RV.d (dQ (zQZ w h))):=
 zQm (Γ:=gamI) Ann.leaf zQB Tryz.func146 rfl (Nat.le_of_ble_eq_true rfl) fun hwf=>by
  refine Eq.mpr (by kernel_rfl:_=(let a:=(RV.d (dQ false)=RV.d (dQ (zQZ w h))); tU4 (((decide (w≥1))=true→tU4 (((decide (h≥1))=true→tU2 ((h≠0)∧tU3 (RV.d (dQ (decide (w≤(wK (Int.tdiv (16777216:Int) h)))))=RV.d (dQ (zQZ w h)))))∧((decide (h≥1))=(!true)→tU2 a)))∧((decide (w≥1))=(!true)→tU4 a)))) ?_
  delta tU2 tU3 tU4 dQ wK
  simp only [sS,zQT,zQC]
  have:=@zV9 w h
  grind [zQZ]
theorem zQK (w h:Int):Ans prog 92 [rJ (w),rJ (h)] (RV.d (dQ (zQZ w h))):=
 zQm (Γ:=gamI) Ann.leaf zQB Tryz.func92 rfl (Nat.le_of_ble_eq_true rfl) fun hwf=>by
  refine Eq.mpr (by kernel_rfl:_=(let a:=(RV.d (dQ false)=RV.d (dQ (zQZ w h))); tU4 (((decide (w≥1))=true→tU4 (((decide (h≥1))=true→tU4 (((decide (w≤16777216))=true→tU2 ((w≠0)∧tU3 (RV.d (dQ (decide (h≤(wK (Int.tdiv (16777216:Int) w)))))=RV.d (dQ (zQZ w h)))))∧((decide (w≤16777216))=(!true)→tU2 a)))∧((decide (h≥1))=(!true)→tU4 a)))∧((decide (w≥1))=(!true)→tU6 a)))) ?_
  delta tU2 tU3 tU4 tU6 dQ wK
  simp only [sS,zQT,zQC,zZf]
  have h1:1≤w→1≤h→(h≤IntKind.wrap .i64 (Int.tdiv 16777216 w)↔w*h≤16777216):=fun a b=>by rw [zV9 b a,Int.mul_comm]
  have h2:=@zZ7 w h
  grind [zQZ]
theorem zZj (w h s:Int):Ans prog 147 [rJ (w),rJ (h),rJ (s)] (rJ ((lenW w h s))):=
 zQm (Γ:=gamI) Ann.leaf zQB Tryz.func147 rfl (Nat.le_of_ble_eq_true rfl) fun hwf=>by
  refine Eq.mpr (by kernel_rfl:_=(tU8 (rJ (wK ((wK ((wK (h - 1))*s))+w))=rJ (lenW w h s)))) ?_
  delta tU8 wK rJ
  simp only [sS,zQT,zQC,zZf,zQK]
  simp [lenW]
theorem zZL (w h s:Int) (n:Nat) (xs:List DV):Ans prog 127 [RV.agg [dJ w,dJ h,dJ s,dS n xs]] (RV.d (dQ (zQV w h s n))):=
 zQm (Γ:=gamI) Ann.leaf zQB Tryz.func127 rfl (Nat.le_of_ble_eq_true rfl) fun hwf=>by
  refine Eq.mpr (by kernel_rfl:_=(let a:=((true=true)∧RV.d (dQ false)=RV.d (dQ (zQV w h s n))); tU6 ((Ans prog 146 [rJ w,rJ h] (RV.d (dQ (zQZ w h))))∧True∧(((zQZ w h)=true→tU7 (((decide (s≥w))=true→tU5 (((decide (s≤16777216))=true→True∧tU8 ((Ans prog 147 [rJ w,rJ h,rJ s] (rJ (lenW w h s)))∧tU3 ((true=true)∧RV.d (dQ (decide ((n:Int)≥(lenW w h s))))=RV.d (dQ (zQV w h s n)))))∧((decide (s≤16777216))=(!true)→tU2 a)))∧((decide (s≥w))=(!true)→tU4 a)))∧((zQZ w h)=(!true)→tU6 a))))) ?_
  delta tU2 tU3 tU4 tU5 tU6 tU7 tU8 dQ rJ
  simp only [sS,zQT,zQC,zZf,zQK,zZj]
  grind [zQV]
theorem zZF (w h s:Int) (n:Nat) (xs:List DV):Ans prog 129 [RV.agg [dJ w,dJ h,dJ s,dS n xs]] (RV.d (dQ (zQV w h s n))):=
 zQm (Γ:=gamI) Ann.leaf zQB Tryz.func129 rfl (Nat.le_of_ble_eq_true rfl) fun hwf=>by
  refine Eq.mpr (by kernel_rfl:_=(let a:=(RV.d (dQ false)=RV.d (dQ (zQV w h s n))); tU6 ((Ans prog 92 [rJ w,rJ h] (RV.d (dQ (zQZ w h))))∧True∧(((zQZ w h)=true→tU7 (((decide (s≥w))=true→tU5 (((decide (s≤16777216))=true→tU7 (tU8 (RV.d (dQ (decide ((n:Int)≥(wK ((wK ((wK (h - 1))*s))+w)))))=RV.d (dQ (zQV w h s n)))))∧((decide (s≤16777216))=(!true)→tU2 a)))∧((decide (s≥w))=(!true)→tU4 a)))∧((zQZ w h)=(!true)→tU6 a))))) ?_
  delta tU2 tU4 tU5 tU6 tU7 tU8 dQ wK rJ
  simp only [sS,zQT,zQC,zZf,zQK,zZj,zZL]
  grind [zQV,lenW]
theorem zXR (w h s:Int) (n:Nat) (xs:List DV):Ans prog 126 [RV.agg [dJ w,dJ h,dJ s,dS n xs]] (RV.d (dQ (zY1 ⟨w,h,s,n,xs⟩))):=
 zQm (Γ:=gamI) Ann.leaf zQB Tryz.func126 rfl (Nat.le_of_ble_eq_true rfl) fun hwf=>by
  refine Eq.mpr (by kernel_rfl:_=(let b:=(dQ (zY1 ⟨w,h,s,n,xs⟩)); let a:=(RV.d (dQ false)=RV.d b); tU6 (((w==0)=true→tU5 (((h==0)=true→tU5 (((s==0)=true→tU6 (RV.d (dQ ((n:Int)==0))=RV.d b))∧((s==0)=(!true)→tU2 a)))∧((h==0)=(!true)→tU4 a)))∧((w==0)=(!true)→tU6 a)))) ?_
  delta tU2 tU4 tU5 tU6 dQ
  simp only [sS,zQT,zQC,zZf,zQK,zZj,zZL,zZF]
  simp [zY1]; grind
theorem zQO (c0 c1 c2 ca cf most:Int):Ans prog 122 [RV.agg [dK c0,dK c1,dK c2,dK ca,dK cf],RV.d (dK most)] (RV.d (dQ (Px.ok ⟨c0,c1,c2,ca,cf⟩ most))):=
 zQm (Γ:=gamI) (let a:=(2,AV.one (Cl.ptr 2 0)); let e:=(Ann.seq Ann.leaf (Ann.seq (Ann.sure true Ann.leaf) Ann.leaf)); let b:=(1,AV.one (cK most)); let c:=(8,AV.agg [cK c0,cK c1,cK c2]); let d:=[(2,bC [cK c0,cK c1,cK c2,cK ca,cK cf])]; (Ann.seq Ann.leaf (Ann.seq (Ann.seq Ann.leaf (Ann.link ⟨Unit,fun _u=>True,fun _u=>⟨[b,a,c,(9,aJ 0)],d⟩,fun _u=>0⟩ (fun _u=>e) (Ann.link ⟨Unit,fun _u=>(c0≤ca)∧True,fun _u=>⟨[b,a,c,(9,aJ 1)],d⟩,fun _u=>0⟩ (fun _u=>e) (Ann.link ⟨Unit,fun _u=>(c0≤ca)∧(c1≤ca)∧True,fun _u=>⟨[b,a,c,(9,aJ 2)],d⟩,fun _u=>0⟩ (fun _u=>e) (Ann.link ⟨Unit,fun _u=>(c0≤ca)∧(c1≤ca)∧(c2≤ca)∧True,fun _u=>⟨[b,a,c,(9,aJ 3)],d⟩,fun _u=>0⟩ (fun _u=>(Ann.seq Ann.leaf (Ann.seq (Ann.sure false Ann.leaf) Ann.leaf))) Ann.leaf))))) Ann.leaf))) zQB Tryz.func122 rfl (Nat.le_of_ble_eq_true rfl) fun hwf=>by
  refine Eq.mpr (by kernel_rfl:_=(let b:=(dK most=dK most); let e:=[dK c0,dK c1,dK c2]; let c:=(e=e); let f:=[dK c0,dK c1,dK c2,dK ca,dK cf]; let d:=((f=f)∧True); let a:=(dQ (Px.ok ⟨c0,c1,c2,ca,cf⟩ most)); let g:=((c0≤ca)∧(c1≤ca)∧True); let h:=((c0≤ca)∧(c1≤ca)∧(c2≤ca)∧True); tU5 ((∃ _u:Unit,True∧((b∧(0=0)∧c∧(dJ 0=dJ 0)∧True)∧d))∧((∀ _u:Unit,True→True∧(decide ((0:Int) < 3)=true∧(0≤(0:Int)∧(0:Int) < ((3:Nat):Int)∧(some (dK c0)=some (dK c0))∧True)∧tU5 (((decide (c0 > ca))=true→True∧RV.d (dQ false)=RV.d a)∧((decide (c0 > ca))=false→tU2 (∃ _u:Unit,((c0≤ca)∧True)∧((b∧(0=0)∧c∧(dJ (wK ((0:Int)+1))=dJ 1)∧True)∧d))))))∧(∀ _u:Unit,((c0≤ca)∧True)→True∧(decide ((1:Int) < 3)=true∧(0≤(1:Int)∧(1:Int) < ((3:Nat):Int)∧(some (dK c1)=some (dK c1))∧True)∧tU5 (((decide (c1 > ca))=true→True∧RV.d (dQ false)=RV.d a)∧((decide (c1 > ca))=false→tU2 (∃ _u:Unit,g∧((b∧(0=0)∧c∧(dJ (wK ((1:Int)+1))=dJ 2)∧True)∧d))))))∧(∀ _u:Unit,g→True∧(decide ((2:Int) < 3)=true∧(0≤(2:Int)∧(2:Int) < ((3:Nat):Int)∧(some (dK c2)=some (dK c2))∧True)∧tU5 (((decide (c2 > ca))=true→True∧RV.d (dQ false)=RV.d a)∧((decide (c2 > ca))=false→tU2 (∃ _u:Unit,h∧((b∧(0=0)∧c∧(dJ (wK ((2:Int)+1))=dJ 3)∧True)∧d))))))∧(∀ _u:Unit,h→True∧(decide ((3:Int) < 3)=false∧tU6 (((decide (ca≤cf))=true→tU6 (RV.d (dQ (decide (cf≤most)))=RV.d a))∧((decide (ca≤cf))=(!true)→tU2 (RV.d (dQ false)=RV.d a)))))∧True)))) ?_
  delta tU2 tU5 tU6 dJ dK dQ wK
  simp only [sS,zQT,zQC,zZf,zQK,zZj,zZL,zZF,zXR]
  simp [Px.ok,w1_]; grind
theorem zQH (w h:Int) (so:Bool) (c0 c1 c2 ca cf w0 h0 s0:Int) (n0:Nat) (xs0:List DV) (w1 h1 s1:Int) (n1:Nat) (xs1:List DV) (w2 h2 s2:Int) (n2:Nat) (xs2:List DV) (w3 h3 s3:Int) (n3:Nat) (xs3:List DV) (w4 h4 s4:Int) (n4:Nat) (xs4:List DV):Ans prog 99 [RV.agg [dJ w,dJ h,dQ so,dK c0,dK c1,dK c2,dK ca,dK cf,dJ w0,dJ h0,dJ s0,dS n0 xs0,dJ w1,dJ h1,dJ s1,dS n1 xs1,dJ w2,dJ h2,dJ s2,dS n2 xs2,dJ w3,dJ h3,dJ s3,dS n3 xs3,dJ w4,dJ h4,dJ s4,dS n4 xs4]] (RV.d (dQ (Im.formed ⟨w,h,so,⟨c0,c1,c2,ca,cf⟩,⟨w0,h0,s0,n0,xs0⟩,⟨w1,h1,s1,n1,xs1⟩,⟨w2,h2,s2,n2,xs2⟩,⟨w3,h3,s3,n3,xs3⟩,⟨w4,h4,s4,n4,xs4⟩⟩))):=
 zQm (Γ:=gamI) (let a:=(zQZ w h=true); let b:=(1,AV.one (Cl.ptr 1 0)); let f:=(Ann.seq Ann.leaf (Ann.seq (Ann.sure true Ann.leaf) Ann.leaf)); let c:=(so=true∨Px.mk c0 c1 c2 ca cf=Px.zero); let d:=(23,AV.agg [cJ w0,cJ h0,cJ s0,Cl.d (dS n0 xs0),cJ w1,cJ h1,cJ s1,Cl.d (dS n1 xs1),cJ w2,cJ h2,cJ s2,Cl.d (dS n2 xs2),cJ w3,cJ h3,cJ s3,Cl.d (dS n3 xs3),cJ w4,cJ h4,cJ s4,Cl.d (dS n4 xs4)]); let e:=[(1,bC [cJ w,cJ h,Cl.d (dQ so),cK c0,cK c1,cK c2,cK ca,cK cf,cJ w0,cJ h0,cJ s0,Cl.d (dS n0 xs0),cJ w1,cJ h1,cJ s1,Cl.d (dS n1 xs1),cJ w2,cJ h2,cJ s2,Cl.d (dS n2 xs2),cJ w3,cJ h3,cJ s3,Cl.d (dS n3 xs3),cJ w4,cJ h4,cJ s4,Cl.d (dS n4 xs4)])]; (Ann.seq Ann.leaf (Ann.seq Ann.leaf (Ann.seq (Ann.seq Ann.leaf (Ann.link ⟨Unit,fun _u=>a∧c∧True,fun _u=>⟨[b,d,(24,aJ 0)],e⟩,fun _u=>0⟩ (fun _u=>f) (Ann.link ⟨Unit,fun _u=>a∧c∧okPl so w h ⟨w0,h0,s0,n0,xs0⟩=true∧True,fun _u=>⟨[b,d,(24,aJ 1)],e⟩,fun _u=>0⟩ (fun _u=>f) (Ann.link ⟨Unit,fun _u=>a∧c∧okPl so w h ⟨w0,h0,s0,n0,xs0⟩=true∧okPl so w h ⟨w1,h1,s1,n1,xs1⟩=true∧True,fun _u=>⟨[b,d,(24,aJ 2)],e⟩,fun _u=>0⟩ (fun _u=>f) (Ann.link ⟨Unit,fun _u=>a∧c∧okPl so w h ⟨w0,h0,s0,n0,xs0⟩=true∧okPl so w h ⟨w1,h1,s1,n1,xs1⟩=true∧okPl so w h ⟨w2,h2,s2,n2,xs2⟩=true∧True,fun _u=>⟨[b,d,(24,aJ 3)],e⟩,fun _u=>0⟩ (fun _u=>f) (Ann.link ⟨Unit,fun _u=>a∧c∧okPl so w h ⟨w0,h0,s0,n0,xs0⟩=true∧okPl so w h ⟨w1,h1,s1,n1,xs1⟩=true∧okPl so w h ⟨w2,h2,s2,n2,xs2⟩=true∧okPl so w h ⟨w3,h3,s3,n3,xs3⟩=true∧True,fun _u=>⟨[b,d,(24,aJ 4)],e⟩,fun _u=>0⟩ (fun _u=>f) (Ann.link ⟨Unit,fun _u=>a∧c∧okPl so w h ⟨w0,h0,s0,n0,xs0⟩=true∧okPl so w h ⟨w1,h1,s1,n1,xs1⟩=true∧okPl so w h ⟨w2,h2,s2,n2,xs2⟩=true∧okPl so w h ⟨w3,h3,s3,n3,xs3⟩=true∧okPl so w h ⟨w4,h4,s4,n4,xs4⟩=true∧True,fun _u=>⟨[b,d,(24,aJ 5)],e⟩,fun _u=>0⟩ (fun _u=>(Ann.seq Ann.leaf (Ann.seq (Ann.sure false Ann.leaf) Ann.leaf))) Ann.leaf))))))) Ann.leaf)))) zQB Tryz.func99 rfl (Nat.le_of_ble_eq_true rfl) fun hwf=>by
  refine Eq.mpr (by kernel_rfl:_=(let Y:=(some (dS n4 xs4)=some (dS n4 xs4)); let Z:=(some (dS n3 xs3)=some (dS n3 xs3)); let z0:=(some (dS n2 xs2)=some (dS n2 xs2)); let z1:=(some (dS n1 xs1)=some (dS n1 xs1)); let z2:=(some (dS n0 xs0)=some (dS n0 xs0)); let o:=(zQZ w h=true); let z3:=(!(((c0==0) && ((c1==0) && ((c2==0) && true))) && ((ca==0) && ((cf==0) && true)))); let b:=((5:Nat):Int); let s:=(!(zQV w4 h4 s4 n4)); let t:=(!(zQV w3 h3 s3 n3)); let u:=(!(zQV w2 h2 s2 n2)); let v:=(!(zQV w1 h1 s1 n1)); let x:=(!(zQV w0 h0 s0 n0)); let y:=(zY1 ⟨w0,h0,s0,n0,xs0⟩); let z:=(zY1 ⟨w1,h1,s1,n1,xs1⟩); let A:=(zY1 ⟨w2,h2,s2,n2,xs2⟩); let B:=(zY1 ⟨w3,h3,s3,n3,xs3⟩); let C:=(zY1 ⟨w4,h4,s4,n4,xs4⟩); let x3:=(RV.d (dQ (zQV w0 h0 s0 n0))); let x4:=(RV.d (dQ (zQV w1 h1 s1 n1))); let x5:=(RV.d (dQ (zQV w2 h2 s2 n2))); let x6:=(RV.d (dQ (zQV w3 h3 s3 n3))); let x7:=(RV.d (dQ (zQV w4 h4 s4 n4))); let i:=(dQ (Im.formed ⟨w,h,so,⟨c0,c1,c2,ca,cf⟩,⟨w0,h0,s0,n0,xs0⟩,⟨w1,h1,s1,n1,xs1⟩,⟨w2,h2,s2,n2,xs2⟩,⟨w3,h3,s3,n3,xs3⟩,⟨w4,h4,s4,n4,xs4⟩⟩)); let z4:=(decide ((5:Int) < 5)=false∧True∧RV.d (dQ true)=RV.d i); let D:=((h4 != h)=true→True∧RV.d (dQ false)=RV.d i); let E:=((h3 != h)=true→True∧RV.d (dQ false)=RV.d i); let F:=((h2 != h)=true→True∧RV.d (dQ false)=RV.d i); let G:=((h1 != h)=true→True∧RV.d (dQ false)=RV.d i); let H:=((h0 != h)=true→True∧RV.d (dQ false)=RV.d i); let a:=(RV.d (dQ false)=RV.d i); let z5:=((!C)=(!false)→tU2 a); let z6:=((!B)=(!false)→tU2 a); let z7:=((!A)=(!false)→tU2 a); let z8:=((!z)=(!false)→tU2 a); let z9:=((!y)=(!false)→tU2 a); let I:=(s=(!false)→tU6 a); let J:=(t=(!false)→tU6 a); let K:=(u=(!false)→tU6 a); let L:=(v=(!false)→tU6 a); let M:=(x=(!false)→tU6 a); let N:=((w4 != w)=(!false)→tU4 a); let O:=((w3 != w)=(!false)→tU4 a); let P:=((w2 != w)=(!false)→tU4 a); let Q:=((w1 != w)=(!false)→tU4 a); let R:=((w0 != w)=(!false)→tU4 a); let p:=(so=true∨Px.mk c0 c1 c2 ca cf=Px.zero); let S:=(o∧p∧True); let y0:=[dJ w0,dJ h0,dJ s0,dS n0 xs0,dJ w1,dJ h1,dJ s1,dS n1 xs1,dJ w2,dJ h2,dJ s2,dS n2 xs2,dJ w3,dJ h3,dJ s3,dS n3 xs3,dJ w4,dJ h4,dJ s4,dS n4 xs4]; let q:=(y0=y0); let y1:=[dJ w,dJ h,dQ so,dK c0,dK c1,dK c2,dK ca,dK cf,dJ w0,dJ h0,dJ s0,dS n0 xs0,dJ w1,dJ h1,dJ s1,dS n1 xs1,dJ w2,dJ h2,dJ s2,dS n2 xs2,dJ w3,dJ h3,dJ s3,dS n3 xs3,dJ w4,dJ h4,dJ s4,dS n4 xs4]; let r:=((y1=y1)∧True); let y2:=(((0=0)∧q∧(dJ 0=dJ 0)∧True)∧r); let y3:=[RV.agg [dJ w0,dJ h0,dJ s0,dS n0 xs0]]; let y4:=(Ans prog 126 y3 (RV.d (dQ y))); let T:=(Ans prog 127 y3 x3); let c:=(o∧p∧okPl so w h ⟨w0,h0,s0,n0,xs0⟩=true∧True); let j:=(((0=0)∧q∧(dJ (wK ((0:Int)+1))=dJ 1)∧True)∧r); let y5:=[RV.agg [dJ w1,dJ h1,dJ s1,dS n1 xs1]]; let y6:=(Ans prog 126 y5 (RV.d (dQ z))); let U:=(Ans prog 127 y5 x4); let d:=(o∧p∧okPl so w h ⟨w0,h0,s0,n0,xs0⟩=true∧okPl so w h ⟨w1,h1,s1,n1,xs1⟩=true∧True); let k:=(((0=0)∧q∧(dJ (wK ((1:Int)+1))=dJ 2)∧True)∧r); let y7:=[RV.agg [dJ w2,dJ h2,dJ s2,dS n2 xs2]]; let y8:=(Ans prog 126 y7 (RV.d (dQ A))); let V:=(Ans prog 127 y7 x5); let e:=(o∧p∧okPl so w h ⟨w0,h0,s0,n0,xs0⟩=true∧okPl so w h ⟨w1,h1,s1,n1,xs1⟩=true∧okPl so w h ⟨w2,h2,s2,n2,xs2⟩=true∧True); let l:=(((0=0)∧q∧(dJ (wK ((2:Int)+1))=dJ 3)∧True)∧r); let y9:=[RV.agg [dJ w3,dJ h3,dJ s3,dS n3 xs3]]; let x0:=(Ans prog 126 y9 (RV.d (dQ B))); let W:=(Ans prog 127 y9 x6); let f:=(o∧p∧okPl so w h ⟨w0,h0,s0,n0,xs0⟩=true∧okPl so w h ⟨w1,h1,s1,n1,xs1⟩=true∧okPl so w h ⟨w2,h2,s2,n2,xs2⟩=true∧okPl so w h ⟨w3,h3,s3,n3,xs3⟩=true∧True); let m:=(((0=0)∧q∧(dJ (wK ((3:Int)+1))=dJ 4)∧True)∧r); let x1:=[RV.agg [dJ w4,dJ h4,dJ s4,dS n4 xs4]]; let x2:=(Ans prog 126 x1 (RV.d (dQ C))); let X:=(Ans prog 127 x1 x7); let g:=(o∧p∧okPl so w h ⟨w0,h0,s0,n0,xs0⟩=true∧okPl so w h ⟨w1,h1,s1,n1,xs1⟩=true∧okPl so w h ⟨w2,h2,s2,n2,xs2⟩=true∧okPl so w h ⟨w3,h3,s3,n3,xs3⟩=true∧okPl so w h ⟨w4,h4,s4,n4,xs4⟩=true∧True); let n:=(((0=0)∧q∧(dJ (wK ((4:Int)+1))=dJ 5)∧True)∧r); tU6 ((Ans prog 125 [rJ w,rJ h] (RV.d (dQ (zQZ w h))))∧tU2 (((!(zQZ w h))=false→tU4 (((!so)=true→tU6 ((z3=true→True∧RV.d (dQ false)=RV.d i)∧(z3=false→tU3 ((∃ _u:Unit,S∧y2)∧((∀ _u:Unit,S→True∧(decide ((0:Int) < 5)=true∧(0≤(0:Int)∧(0:Int) < b∧(some (dJ w0)=some (dJ w0))∧(some (dJ h0)=some (dJ h0))∧(some (dJ s0)=some (dJ s0))∧z2∧True)∧tU5 ((so=true→True∧y4∧tU3 (((!y)=false→tU4 (((!so)=true→True∧T∧tU2 ((x=false→tU7 (((w0 != w)=false→tU8 (H∧((h0 != h)=false→tU2 (∃ _u:Unit,c∧j))))∧R))∧M))∧((!so)=(!true)→tU4 (∃ _u:Unit,c∧j))))∧z9))∧(so=(!true)→tU6 (((!so)=true→True∧T∧tU2 ((x=false→tU7 (((w0 != w)=false→tU8 (H∧((h0 != h)=false→tU2 (∃ _u:Unit,c∧j))))∧R))∧M))∧((!so)=(!true)→tU4 (∃ _u:Unit,c∧j)))))))∧(∀ _u:Unit,c→True∧(decide ((1:Int) < 5)=true∧(0≤(1:Int)∧(1:Int) < b∧(some (dJ w1)=some (dJ w1))∧(some (dJ h1)=some (dJ h1))∧(some (dJ s1)=some (dJ s1))∧z1∧True)∧tU5 ((so=true→True∧y6∧tU3 (((!z)=false→tU4 (((!so)=true→True∧U∧tU2 ((v=false→tU7 (((w1 != w)=false→tU8 (G∧((h1 != h)=false→tU2 (∃ _u:Unit,d∧k))))∧Q))∧L))∧((!so)=(!true)→tU4 (∃ _u:Unit,d∧k))))∧z8))∧(so=(!true)→tU6 (((!so)=true→True∧U∧tU2 ((v=false→tU7 (((w1 != w)=false→tU8 (G∧((h1 != h)=false→tU2 (∃ _u:Unit,d∧k))))∧Q))∧L))∧((!so)=(!true)→tU4 (∃ _u:Unit,d∧k)))))))∧(∀ _u:Unit,d→True∧(decide ((2:Int) < 5)=true∧(0≤(2:Int)∧(2:Int) < b∧(some (dJ w2)=some (dJ w2))∧(some (dJ h2)=some (dJ h2))∧(some (dJ s2)=some (dJ s2))∧z0∧True)∧tU5 ((so=true→True∧y8∧tU3 (((!A)=false→tU4 (((!so)=true→True∧V∧tU2 ((u=false→tU7 (((w2 != w)=false→tU8 (F∧((h2 != h)=false→tU2 (∃ _u:Unit,e∧l))))∧P))∧K))∧((!so)=(!true)→tU4 (∃ _u:Unit,e∧l))))∧z7))∧(so=(!true)→tU6 (((!so)=true→True∧V∧tU2 ((u=false→tU7 (((w2 != w)=false→tU8 (F∧((h2 != h)=false→tU2 (∃ _u:Unit,e∧l))))∧P))∧K))∧((!so)=(!true)→tU4 (∃ _u:Unit,e∧l)))))))∧(∀ _u:Unit,e→True∧(decide ((3:Int) < 5)=true∧(0≤(3:Int)∧(3:Int) < b∧(some (dJ w3)=some (dJ w3))∧(some (dJ h3)=some (dJ h3))∧(some (dJ s3)=some (dJ s3))∧Z∧True)∧tU5 ((so=true→True∧x0∧tU3 (((!B)=false→tU4 (((!so)=true→True∧W∧tU2 ((t=false→tU7 (((w3 != w)=false→tU8 (E∧((h3 != h)=false→tU2 (∃ _u:Unit,f∧m))))∧O))∧J))∧((!so)=(!true)→tU4 (∃ _u:Unit,f∧m))))∧z6))∧(so=(!true)→tU6 (((!so)=true→True∧W∧tU2 ((t=false→tU7 (((w3 != w)=false→tU8 (E∧((h3 != h)=false→tU2 (∃ _u:Unit,f∧m))))∧O))∧J))∧((!so)=(!true)→tU4 (∃ _u:Unit,f∧m)))))))∧(∀ _u:Unit,f→True∧(decide ((4:Int) < 5)=true∧(0≤(4:Int)∧(4:Int) < b∧(some (dJ w4)=some (dJ w4))∧(some (dJ h4)=some (dJ h4))∧(some (dJ s4)=some (dJ s4))∧Y∧True)∧tU5 ((so=true→True∧x2∧tU3 (((!C)=false→tU4 (((!so)=true→True∧X∧tU2 ((s=false→tU7 (((w4 != w)=false→tU8 (D∧((h4 != h)=false→tU2 (∃ _u:Unit,g∧n))))∧N))∧I))∧((!so)=(!true)→tU4 (∃ _u:Unit,g∧n))))∧z5))∧(so=(!true)→tU6 (((!so)=true→True∧X∧tU2 ((s=false→tU7 (((w4 != w)=false→tU8 (D∧((h4 != h)=false→tU2 (∃ _u:Unit,g∧n))))∧N))∧I))∧((!so)=(!true)→tU4 (∃ _u:Unit,g∧n)))))))∧(∀ _u:Unit,g→True∧z4)∧True)))))∧((!so)=(!true)→tU5 ((∃ _u:Unit,S∧y2)∧((∀ _u:Unit,S→True∧(decide ((0:Int) < 5)=true∧(0≤(0:Int)∧(0:Int) < b∧(some (dJ w0)=some (dJ w0))∧(some (dJ h0)=some (dJ h0))∧(some (dJ s0)=some (dJ s0))∧z2∧True)∧tU5 ((so=true→True∧y4∧tU3 (((!y)=false→tU4 (((!so)=true→True∧T∧tU2 ((x=false→tU7 (((w0 != w)=false→tU8 (H∧((h0 != h)=false→tU2 (∃ _u:Unit,c∧j))))∧R))∧M))∧((!so)=(!true)→tU4 (∃ _u:Unit,c∧j))))∧z9))∧(so=(!true)→tU6 (((!so)=true→True∧T∧tU2 ((x=false→tU7 (((w0 != w)=false→tU8 (H∧((h0 != h)=false→tU2 (∃ _u:Unit,c∧j))))∧R))∧M))∧((!so)=(!true)→tU4 (∃ _u:Unit,c∧j)))))))∧(∀ _u:Unit,c→True∧(decide ((1:Int) < 5)=true∧(0≤(1:Int)∧(1:Int) < b∧(some (dJ w1)=some (dJ w1))∧(some (dJ h1)=some (dJ h1))∧(some (dJ s1)=some (dJ s1))∧z1∧True)∧tU5 ((so=true→True∧y6∧tU3 (((!z)=false→tU4 (((!so)=true→True∧U∧tU2 ((v=false→tU7 (((w1 != w)=false→tU8 (G∧((h1 != h)=false→tU2 (∃ _u:Unit,d∧k))))∧Q))∧L))∧((!so)=(!true)→tU4 (∃ _u:Unit,d∧k))))∧z8))∧(so=(!true)→tU6 (((!so)=true→True∧U∧tU2 ((v=false→tU7 (((w1 != w)=false→tU8 (G∧((h1 != h)=false→tU2 (∃ _u:Unit,d∧k))))∧Q))∧L))∧((!so)=(!true)→tU4 (∃ _u:Unit,d∧k)))))))∧(∀ _u:Unit,d→True∧(decide ((2:Int) < 5)=true∧(0≤(2:Int)∧(2:Int) < b∧(some (dJ w2)=some (dJ w2))∧(some (dJ h2)=some (dJ h2))∧(some (dJ s2)=some (dJ s2))∧z0∧True)∧tU5 ((so=true→True∧y8∧tU3 (((!A)=false→tU4 (((!so)=true→True∧V∧tU2 ((u=false→tU7 (((w2 != w)=false→tU8 (F∧((h2 != h)=false→tU2 (∃ _u:Unit,e∧l))))∧P))∧K))∧((!so)=(!true)→tU4 (∃ _u:Unit,e∧l))))∧z7))∧(so=(!true)→tU6 (((!so)=true→True∧V∧tU2 ((u=false→tU7 (((w2 != w)=false→tU8 (F∧((h2 != h)=false→tU2 (∃ _u:Unit,e∧l))))∧P))∧K))∧((!so)=(!true)→tU4 (∃ _u:Unit,e∧l)))))))∧(∀ _u:Unit,e→True∧(decide ((3:Int) < 5)=true∧(0≤(3:Int)∧(3:Int) < b∧(some (dJ w3)=some (dJ w3))∧(some (dJ h3)=some (dJ h3))∧(some (dJ s3)=some (dJ s3))∧Z∧True)∧tU5 ((so=true→True∧x0∧tU3 (((!B)=false→tU4 (((!so)=true→True∧W∧tU2 ((t=false→tU7 (((w3 != w)=false→tU8 (E∧((h3 != h)=false→tU2 (∃ _u:Unit,f∧m))))∧O))∧J))∧((!so)=(!true)→tU4 (∃ _u:Unit,f∧m))))∧z6))∧(so=(!true)→tU6 (((!so)=true→True∧W∧tU2 ((t=false→tU7 (((w3 != w)=false→tU8 (E∧((h3 != h)=false→tU2 (∃ _u:Unit,f∧m))))∧O))∧J))∧((!so)=(!true)→tU4 (∃ _u:Unit,f∧m)))))))∧(∀ _u:Unit,f→True∧(decide ((4:Int) < 5)=true∧(0≤(4:Int)∧(4:Int) < b∧(some (dJ w4)=some (dJ w4))∧(some (dJ h4)=some (dJ h4))∧(some (dJ s4)=some (dJ s4))∧Y∧True)∧tU5 ((so=true→True∧x2∧tU3 (((!C)=false→tU4 (((!so)=true→True∧X∧tU2 ((s=false→tU7 (((w4 != w)=false→tU8 (D∧((h4 != h)=false→tU2 (∃ _u:Unit,g∧n))))∧N))∧I))∧((!so)=(!true)→tU4 (∃ _u:Unit,g∧n))))∧z5))∧(so=(!true)→tU6 (((!so)=true→True∧X∧tU2 ((s=false→tU7 (((w4 != w)=false→tU8 (D∧((h4 != h)=false→tU2 (∃ _u:Unit,g∧n))))∧N))∧I))∧((!so)=(!true)→tU4 (∃ _u:Unit,g∧n)))))))∧(∀ _u:Unit,g→True∧z4)∧True)))))∧((!(zQZ w h))=(!false)→tU2 a))))) ?_
  delta tU2 tU3 tU4 tU5 tU6 tU7 tU8 dJ dK dQ wK dS rJ
  simp only [sS,zQT,zQC,zZf,zQK,zZj,zZL,zZF,zXR,zQO]
  cases so <;> simp [w1_,Im.formed,Im.inner,okPl,Px.zero] <;> (repeat' (first | apply And.intro | intro)) <;> (first | assumption | (simp_all; done) | grind)
theorem zQP (w h:Int) (so:Bool) (c0 c1 c2 ca cf w0 h0 s0:Int) (n0:Nat) (xs0:List DV) (w1 h1 s1:Int) (n1:Nat) (xs1:List DV) (w2 h2 s2:Int) (n2:Nat) (xs2:List DV) (w3 h3 s3:Int) (n3:Nat) (xs3:List DV) (w4 h4 s4:Int) (n4:Nat) (xs4:List DV):Ans prog 102 [RV.agg [dJ w,dJ h,dQ so,dK c0,dK c1,dK c2,dK ca,dK cf,dJ w0,dJ h0,dJ s0,dS n0 xs0,dJ w1,dJ h1,dJ s1,dS n1 xs1,dJ w2,dJ h2,dJ s2,dS n2 xs2,dJ w3,dJ h3,dJ s3,dS n3 xs3,dJ w4,dJ h4,dJ s4,dS n4 xs4]] (RV.d (dQ (Im.inner ⟨w,h,so,⟨c0,c1,c2,ca,cf⟩,⟨w0,h0,s0,n0,xs0⟩,⟨w1,h1,s1,n1,xs1⟩,⟨w2,h2,s2,n2,xs2⟩,⟨w3,h3,s3,n3,xs3⟩,⟨w4,h4,s4,n4,xs4⟩⟩))):=
 zQm (Γ:=gamI) (let a:=(1,AV.one (Cl.ptr 1 0)); let c:=(Ann.seq (Ann.seq Ann.leaf (Ann.sure true Ann.leaf)) Ann.leaf); let b:=[(1,bC [cJ w,cJ h,Cl.d (dQ so),cK c0,cK c1,cK c2,cK ca,cK cf,cJ w0,cJ h0,cJ s0,Cl.d (dS n0 xs0),cJ w1,cJ h1,cJ s1,Cl.d (dS n1 xs1),cJ w2,cJ h2,cJ s2,Cl.d (dS n2 xs2),cJ w3,cJ h3,cJ s3,Cl.d (dS n3 xs3),cJ w4,cJ h4,cJ s4,Cl.d (dS n4 xs4)])]; (Ann.seq Ann.leaf (Ann.seq (Ann.seq Ann.leaf (Ann.link ⟨Unit,fun _u=>True,fun _u=>⟨[a,(3,aJ 0)],b⟩,fun _u=>0⟩ (fun _u=>c) (Ann.link ⟨Unit,fun _u=>okPl so w h ⟨w0,h0,s0,n0,xs0⟩=true∧True,fun _u=>⟨[a,(3,aJ 1)],b⟩,fun _u=>0⟩ (fun _u=>c) (Ann.link ⟨Unit,fun _u=>okPl so w h ⟨w0,h0,s0,n0,xs0⟩=true∧okPl so w h ⟨w1,h1,s1,n1,xs1⟩=true∧True,fun _u=>⟨[a,(3,aJ 2)],b⟩,fun _u=>0⟩ (fun _u=>c) (Ann.link ⟨Unit,fun _u=>okPl so w h ⟨w0,h0,s0,n0,xs0⟩=true∧okPl so w h ⟨w1,h1,s1,n1,xs1⟩=true∧okPl so w h ⟨w2,h2,s2,n2,xs2⟩=true∧True,fun _u=>⟨[a,(3,aJ 3)],b⟩,fun _u=>0⟩ (fun _u=>c) (Ann.link ⟨Unit,fun _u=>okPl so w h ⟨w0,h0,s0,n0,xs0⟩=true∧okPl so w h ⟨w1,h1,s1,n1,xs1⟩=true∧okPl so w h ⟨w2,h2,s2,n2,xs2⟩=true∧okPl so w h ⟨w3,h3,s3,n3,xs3⟩=true∧True,fun _u=>⟨[a,(3,aJ 4)],b⟩,fun _u=>0⟩ (fun _u=>c) (Ann.link ⟨Unit,fun _u=>okPl so w h ⟨w0,h0,s0,n0,xs0⟩=true∧okPl so w h ⟨w1,h1,s1,n1,xs1⟩=true∧okPl so w h ⟨w2,h2,s2,n2,xs2⟩=true∧okPl so w h ⟨w3,h3,s3,n3,xs3⟩=true∧okPl so w h ⟨w4,h4,s4,n4,xs4⟩=true∧True,fun _u=>⟨[a,(3,aJ 5)],b⟩,fun _u=>0⟩ (fun _u=>(Ann.seq (Ann.seq Ann.leaf (Ann.sure false Ann.leaf)) Ann.leaf)) Ann.leaf))))))) Ann.leaf))) zQB Tryz.func102 rfl (Nat.le_of_ble_eq_true rfl) fun hwf=>by
  refine Eq.mpr (by kernel_rfl:_=(let d:=((5:Nat):Int); let p:=(!(zQV w4 h4 s4 n4)); let q:=(!(zQV w3 h3 s3 n3)); let r:=(!(zQV w2 h2 s2 n2)); let s:=(!(zQV w1 h1 s1 n1)); let t:=(!(zQV w0 h0 s0 n0)); let u:=(Ans prog 129 [RV.agg [dJ w4,dJ h4,dJ s4,dS n4 xs4]] (RV.d (dQ (zQV w4 h4 s4 n4)))); let v:=(Ans prog 129 [RV.agg [dJ w3,dJ h3,dJ s3,dS n3 xs3]] (RV.d (dQ (zQV w3 h3 s3 n3)))); let x:=(Ans prog 129 [RV.agg [dJ w2,dJ h2,dJ s2,dS n2 xs2]] (RV.d (dQ (zQV w2 h2 s2 n2)))); let y:=(Ans prog 129 [RV.agg [dJ w1,dJ h1,dJ s1,dS n1 xs1]] (RV.d (dQ (zQV w1 h1 s1 n1)))); let z:=(Ans prog 129 [RV.agg [dJ w0,dJ h0,dJ s0,dS n0 xs0]] (RV.d (dQ (zQV w0 h0 s0 n0)))); let A:=[dJ w,dJ h,dQ so,dK c0,dK c1,dK c2,dK ca,dK cf,dJ w0,dJ h0,dJ s0,dS n0 xs0,dJ w1,dJ h1,dJ s1,dS n1 xs1,dJ w2,dJ h2,dJ s2,dS n2 xs2,dJ w3,dJ h3,dJ s3,dS n3 xs3,dJ w4,dJ h4,dJ s4,dS n4 xs4]; let c:=((A=A)∧True); let b:=(dQ (Im.inner ⟨w,h,so,⟨c0,c1,c2,ca,cf⟩,⟨w0,h0,s0,n0,xs0⟩,⟨w1,h1,s1,n1,xs1⟩,⟨w2,h2,s2,n2,xs2⟩,⟨w3,h3,s3,n3,xs3⟩,⟨w4,h4,s4,n4,xs4⟩⟩)); let B:=((h4 != h)=true→True∧RV.d (dQ false)=RV.d b); let C:=((h3 != h)=true→True∧RV.d (dQ false)=RV.d b); let D:=((h2 != h)=true→True∧RV.d (dQ false)=RV.d b); let E:=((h1 != h)=true→True∧RV.d (dQ false)=RV.d b); let F:=((h0 != h)=true→True∧RV.d (dQ false)=RV.d b); let a:=(RV.d (dQ false)=RV.d b); let G:=(p=(!false)→tU5 a); let H:=(q=(!false)→tU5 a); let I:=(r=(!false)→tU5 a); let J:=(s=(!false)→tU5 a); let K:=(t=(!false)→tU5 a); let L:=((w4 != w)=(!false)→tU3 a); let M:=((w3 != w)=(!false)→tU3 a); let N:=((w2 != w)=(!false)→tU3 a); let O:=((w1 != w)=(!false)→tU3 a); let P:=((w0 != w)=(!false)→tU3 a); let e:=(okPl so w h ⟨w0,h0,s0,n0,xs0⟩=true∧True); let k:=(((0=0)∧(dJ (wK ((0:Int)+1))=dJ 1)∧True)∧c); let f:=(okPl so w h ⟨w0,h0,s0,n0,xs0⟩=true∧okPl so w h ⟨w1,h1,s1,n1,xs1⟩=true∧True); let l:=(((0=0)∧(dJ (wK ((1:Int)+1))=dJ 2)∧True)∧c); let g:=(okPl so w h ⟨w0,h0,s0,n0,xs0⟩=true∧okPl so w h ⟨w1,h1,s1,n1,xs1⟩=true∧okPl so w h ⟨w2,h2,s2,n2,xs2⟩=true∧True); let m:=(((0=0)∧(dJ (wK ((2:Int)+1))=dJ 3)∧True)∧c); let i:=(okPl so w h ⟨w0,h0,s0,n0,xs0⟩=true∧okPl so w h ⟨w1,h1,s1,n1,xs1⟩=true∧okPl so w h ⟨w2,h2,s2,n2,xs2⟩=true∧okPl so w h ⟨w3,h3,s3,n3,xs3⟩=true∧True); let n:=(((0=0)∧(dJ (wK ((3:Int)+1))=dJ 4)∧True)∧c); let j:=(okPl so w h ⟨w0,h0,s0,n0,xs0⟩=true∧okPl so w h ⟨w1,h1,s1,n1,xs1⟩=true∧okPl so w h ⟨w2,h2,s2,n2,xs2⟩=true∧okPl so w h ⟨w3,h3,s3,n3,xs3⟩=true∧okPl so w h ⟨w4,h4,s4,n4,xs4⟩=true∧True); let o:=(((0=0)∧(dJ (wK ((4:Int)+1))=dJ 5)∧True)∧c); tU3 ((∃ _u:Unit,True∧(((0=0)∧(dJ 0=dJ 0)∧True)∧c))∧((∀ _u:Unit,True→tU2 (decide ((0:Int) < 5)=true∧tU2 ((0≤(0:Int)∧(0:Int) < d)∧tU6 ((so=true→tU4 (((w0 != 0)=false→tU5 (((h0 != 0)=false→tU5 (((s0 != 0)=false→tU6 (((decide ((n0:Int) > 0))=true→True∧RV.d (dQ false)=RV.d b)∧((decide ((n0:Int) > 0))=false→tU4 (((!so)=true→True∧z∧tU2 ((t=false→tU7 (((w0 != w)=false→tU7 (F∧((h0 != h)=false→tU3 (∃ _u:Unit,e∧k))))∧P))∧K))∧((!so)=(!true)→tU4 (∃ _u:Unit,e∧k))))))∧((s0 != 0)=(!false)→tU3 a)))∧((h0 != 0)=(!false)→tU5 a)))∧((w0 != 0)=(!false)→tU7 a)))∧(so=(!true)→tU5 (((!so)=true→True∧z∧tU2 ((t=false→tU7 (((w0 != w)=false→tU7 (F∧((h0 != h)=false→tU3 (∃ _u:Unit,e∧k))))∧P))∧K))∧((!so)=(!true)→tU4 (∃ _u:Unit,e∧k))))))))∧(∀ _u:Unit,e→tU2 (decide ((1:Int) < 5)=true∧tU2 ((0≤(1:Int)∧(1:Int) < d)∧tU6 ((so=true→tU4 (((w1 != 0)=false→tU5 (((h1 != 0)=false→tU5 (((s1 != 0)=false→tU6 (((decide ((n1:Int) > 0))=true→True∧RV.d (dQ false)=RV.d b)∧((decide ((n1:Int) > 0))=false→tU4 (((!so)=true→True∧y∧tU2 ((s=false→tU7 (((w1 != w)=false→tU7 (E∧((h1 != h)=false→tU3 (∃ _u:Unit,f∧l))))∧O))∧J))∧((!so)=(!true)→tU4 (∃ _u:Unit,f∧l))))))∧((s1 != 0)=(!false)→tU3 a)))∧((h1 != 0)=(!false)→tU5 a)))∧((w1 != 0)=(!false)→tU7 a)))∧(so=(!true)→tU5 (((!so)=true→True∧y∧tU2 ((s=false→tU7 (((w1 != w)=false→tU7 (E∧((h1 != h)=false→tU3 (∃ _u:Unit,f∧l))))∧O))∧J))∧((!so)=(!true)→tU4 (∃ _u:Unit,f∧l))))))))∧(∀ _u:Unit,f→tU2 (decide ((2:Int) < 5)=true∧tU2 ((0≤(2:Int)∧(2:Int) < d)∧tU6 ((so=true→tU4 (((w2 != 0)=false→tU5 (((h2 != 0)=false→tU5 (((s2 != 0)=false→tU6 (((decide ((n2:Int) > 0))=true→True∧RV.d (dQ false)=RV.d b)∧((decide ((n2:Int) > 0))=false→tU4 (((!so)=true→True∧x∧tU2 ((r=false→tU7 (((w2 != w)=false→tU7 (D∧((h2 != h)=false→tU3 (∃ _u:Unit,g∧m))))∧N))∧I))∧((!so)=(!true)→tU4 (∃ _u:Unit,g∧m))))))∧((s2 != 0)=(!false)→tU3 a)))∧((h2 != 0)=(!false)→tU5 a)))∧((w2 != 0)=(!false)→tU7 a)))∧(so=(!true)→tU5 (((!so)=true→True∧x∧tU2 ((r=false→tU7 (((w2 != w)=false→tU7 (D∧((h2 != h)=false→tU3 (∃ _u:Unit,g∧m))))∧N))∧I))∧((!so)=(!true)→tU4 (∃ _u:Unit,g∧m))))))))∧(∀ _u:Unit,g→tU2 (decide ((3:Int) < 5)=true∧tU2 ((0≤(3:Int)∧(3:Int) < d)∧tU6 ((so=true→tU4 (((w3 != 0)=false→tU5 (((h3 != 0)=false→tU5 (((s3 != 0)=false→tU6 (((decide ((n3:Int) > 0))=true→True∧RV.d (dQ false)=RV.d b)∧((decide ((n3:Int) > 0))=false→tU4 (((!so)=true→True∧v∧tU2 ((q=false→tU7 (((w3 != w)=false→tU7 (C∧((h3 != h)=false→tU3 (∃ _u:Unit,i∧n))))∧M))∧H))∧((!so)=(!true)→tU4 (∃ _u:Unit,i∧n))))))∧((s3 != 0)=(!false)→tU3 a)))∧((h3 != 0)=(!false)→tU5 a)))∧((w3 != 0)=(!false)→tU7 a)))∧(so=(!true)→tU5 (((!so)=true→True∧v∧tU2 ((q=false→tU7 (((w3 != w)=false→tU7 (C∧((h3 != h)=false→tU3 (∃ _u:Unit,i∧n))))∧M))∧H))∧((!so)=(!true)→tU4 (∃ _u:Unit,i∧n))))))))∧(∀ _u:Unit,i→tU2 (decide ((4:Int) < 5)=true∧tU2 ((0≤(4:Int)∧(4:Int) < d)∧tU6 ((so=true→tU4 (((w4 != 0)=false→tU5 (((h4 != 0)=false→tU5 (((s4 != 0)=false→tU6 (((decide ((n4:Int) > 0))=true→True∧RV.d (dQ false)=RV.d b)∧((decide ((n4:Int) > 0))=false→tU4 (((!so)=true→True∧u∧tU2 ((p=false→tU7 (((w4 != w)=false→tU7 (B∧((h4 != h)=false→tU3 (∃ _u:Unit,j∧o))))∧L))∧G))∧((!so)=(!true)→tU4 (∃ _u:Unit,j∧o))))))∧((s4 != 0)=(!false)→tU3 a)))∧((h4 != 0)=(!false)→tU5 a)))∧((w4 != 0)=(!false)→tU7 a)))∧(so=(!true)→tU5 (((!so)=true→True∧u∧tU2 ((p=false→tU7 (((w4 != w)=false→tU7 (B∧((h4 != h)=false→tU3 (∃ _u:Unit,j∧o))))∧L))∧G))∧((!so)=(!true)→tU4 (∃ _u:Unit,j∧o))))))))∧(∀ _u:Unit,j→tU2 (decide ((5:Int) < 5)=false∧tU3 ((so=false→tU6 (RV.d (dQ (((c0==0) && ((c1==0) && ((c2==0) && true))) && ((ca==0) && ((cf==0) && true))))=RV.d b))∧(so=(!false)→tU2 (RV.d (dQ true)=RV.d b)))))∧True)))) ?_
  delta tU2 tU3 tU4 tU5 tU6 tU7 dJ dK dQ wK dS
  simp only [sS,zQT,zQC,zZf,zQK,zZj,zZL,zZF,zXR,zQO,zQH]
  cases so <;> simp [w1_,Im.inner,okPl,zY1,Px.zero] <;> (repeat' (first | apply And.intro | intro)) <;> (first | assumption | (simp_all; done) | grind)
theorem zQQ (w h:Int) (so:Bool) (c0 c1 c2 ca cf w0 h0 s0:Int) (n0:Nat) (xs0:List DV) (w1 h1 s1:Int) (n1:Nat) (xs1:List DV) (w2 h2 s2:Int) (n2:Nat) (xs2:List DV) (w3 h3 s3:Int) (n3:Nat) (xs3:List DV) (w4 h4 s4:Int) (n4:Nat) (xs4:List DV):Ans prog 66 [RV.agg [dJ w,dJ h,dQ so,dK c0,dK c1,dK c2,dK ca,dK cf,dJ w0,dJ h0,dJ s0,dS n0 xs0,dJ w1,dJ h1,dJ s1,dS n1 xs1,dJ w2,dJ h2,dJ s2,dS n2 xs2,dJ w3,dJ h3,dJ s3,dS n3 xs3,dJ w4,dJ h4,dJ s4,dS n4 xs4]] (RV.d (dQ (Im.formed ⟨w,h,so,⟨c0,c1,c2,ca,cf⟩,⟨w0,h0,s0,n0,xs0⟩,⟨w1,h1,s1,n1,xs1⟩,⟨w2,h2,s2,n2,xs2⟩,⟨w3,h3,s3,n3,xs3⟩,⟨w4,h4,s4,n4,xs4⟩⟩))):=
 zQm (Γ:=gamI) Ann.leaf zQB Tryz.func66 rfl (Nat.le_of_ble_eq_true rfl) fun hwf=>by
  refine Eq.mpr (by kernel_rfl:_=(let a:=(dQ (Im.inner ⟨w,h,so,⟨c0,c1,c2,ca,cf⟩,⟨w0,h0,s0,n0,xs0⟩,⟨w1,h1,s1,n1,xs1⟩,⟨w2,h2,s2,n2,xs2⟩,⟨w3,h3,s3,n3,xs3⟩,⟨w4,h4,s4,n4,xs4⟩⟩)); let b:=(dQ (Im.formed ⟨w,h,so,⟨c0,c1,c2,ca,cf⟩,⟨w0,h0,s0,n0,xs0⟩,⟨w1,h1,s1,n1,xs1⟩,⟨w2,h2,s2,n2,xs2⟩,⟨w3,h3,s3,n3,xs3⟩,⟨w4,h4,s4,n4,xs4⟩⟩)); tU6 ((Ans prog 92 [rJ w,rJ h] (RV.d (dQ (zQZ w h))))∧True∧(((zQZ w h)=true→True∧(Ans prog 102 [RV.agg [dJ w,dJ h,dQ so,dK c0,dK c1,dK c2,dK ca,dK cf,dJ w0,dJ h0,dJ s0,dS n0 xs0,dJ w1,dJ h1,dJ s1,dS n1 xs1,dJ w2,dJ h2,dJ s2,dS n2 xs2,dJ w3,dJ h3,dJ s3,dS n3 xs3,dJ w4,dJ h4,dJ s4,dS n4 xs4]] (RV.d a))∧tU2 (RV.d a=RV.d b))∧((zQZ w h)=(!true)→tU2 (RV.d (dQ false)=RV.d b)))))) ?_
  delta tU2 tU6 dJ dK dQ dS rJ
  simp only [sS,zQT,zQC,zZf,zQK,zZj,zZL,zZF,zXR,zQO,zQH,zQP]
  simp [Im.formed]; grind
theorem zJu (w h:Int) (so:Bool) (c0 c1 c2 ca cf w0 h0 s0:Int) (n0:Nat) (xs0:List DV) (w1 h1 s1:Int) (n1:Nat) (xs1:List DV) (w2 h2 s2:Int) (n2:Nat) (xs2:List DV) (w3 h3 s3:Int) (n3:Nat) (xs3:List DV) (w4 h4 s4:Int) (n4:Nat) (xs4:List DV) (x y:Int) (hu:Im.isU ⟨w,h,so,⟨c0,c1,c2,ca,cf⟩,⟨w0,h0,s0,n0,xs0⟩,⟨w1,h1,s1,n1,xs1⟩,⟨w2,h2,s2,n2,xs2⟩,⟨w3,h3,s3,n3,xs3⟩,⟨w4,h4,s4,n4,xs4⟩⟩) (hf:Im.inner ⟨w,h,so,⟨c0,c1,c2,ca,cf⟩,⟨w0,h0,s0,n0,xs0⟩,⟨w1,h1,s1,n1,xs1⟩,⟨w2,h2,s2,n2,xs2⟩,⟨w3,h3,s3,n3,xs3⟩,⟨w4,h4,s4,n4,xs4⟩⟩=true) (hx:0≤x∧x < w) (hy:0≤y∧y < h):Ans prog 101 [RV.agg [dJ w,dJ h,dQ so,dK c0,dK c1,dK c2,dK ca,dK cf,dJ w0,dJ h0,dJ s0,dS n0 xs0,dJ w1,dJ h1,dJ s1,dS n1 xs1,dJ w2,dJ h2,dJ s2,dS n2 xs2,dJ w3,dJ h3,dJ s3,dS n3 xs3,dJ w4,dJ h4,dJ s4,dS n4 xs4],rJ (x),rJ (y)] (RV.agg [dK ((Im.px ⟨w,h,so,⟨c0,c1,c2,ca,cf⟩,⟨w0,h0,s0,n0,xs0⟩,⟨w1,h1,s1,n1,xs1⟩,⟨w2,h2,s2,n2,xs2⟩,⟨w3,h3,s3,n3,xs3⟩,⟨w4,h4,s4,n4,xs4⟩⟩ x y).a),dK ((Im.px ⟨w,h,so,⟨c0,c1,c2,ca,cf⟩,⟨w0,h0,s0,n0,xs0⟩,⟨w1,h1,s1,n1,xs1⟩,⟨w2,h2,s2,n2,xs2⟩,⟨w3,h3,s3,n3,xs3⟩,⟨w4,h4,s4,n4,xs4⟩⟩ x y).b),dK ((Im.px ⟨w,h,so,⟨c0,c1,c2,ca,cf⟩,⟨w0,h0,s0,n0,xs0⟩,⟨w1,h1,s1,n1,xs1⟩,⟨w2,h2,s2,n2,xs2⟩,⟨w3,h3,s3,n3,xs3⟩,⟨w4,h4,s4,n4,xs4⟩⟩ x y).c),dK ((Im.px ⟨w,h,so,⟨c0,c1,c2,ca,cf⟩,⟨w0,h0,s0,n0,xs0⟩,⟨w1,h1,s1,n1,xs1⟩,⟨w2,h2,s2,n2,xs2⟩,⟨w3,h3,s3,n3,xs3⟩,⟨w4,h4,s4,n4,xs4⟩⟩ x y).al),dK ((Im.px ⟨w,h,so,⟨c0,c1,c2,ca,cf⟩,⟨w0,h0,s0,n0,xs0⟩,⟨w1,h1,s1,n1,xs1⟩,⟨w2,h2,s2,n2,xs2⟩,⟨w3,h3,s3,n3,xs3⟩,⟨w4,h4,s4,n4,xs4⟩⟩ x y).f)]):=
 zQm (Γ:=gamI) (let a:=(7,AV.one (Cl.ptr 7 0)); let b:=(6,AV.one (Cl.ptr 6 0)); let g:=(Ann.seq Ann.leaf (Ann.seq (Ann.sure true Ann.leaf) Ann.leaf)); let c:=(1,aJ x); let d:=(2,aJ y); let e:=(15,AV.agg [cJ w0,cJ h0,cJ s0,Cl.d (dS n0 xs0),cJ w1,cJ h1,cJ s1,Cl.d (dS n1 xs1),cJ w2,cJ h2,cJ s2,Cl.d (dS n2 xs2),cJ w3,cJ h3,cJ s3,Cl.d (dS n3 xs3),cJ w4,cJ h4,cJ s4,Cl.d (dS n4 xs4)]); let k:=[cK 0,cK 0,cK 0,cK 0,cK 0]; let f:=(6,Bx.cells k); let h:=(dK (nAt xs0 ((wK ((wK (y*s0))+x)).toNat*1))); let i:=(dK (nAt xs1 ((wK ((wK (y*s1))+x)).toNat*1))); let j:=(dK (nAt xs2 ((wK ((wK (y*s2))+x)).toNat*1))); let l:=(dK (nAt xs3 ((wK ((wK (y*s3))+x)).toNat*1))); (Ann.seq Ann.leaf (Ann.seq Ann.leaf (Ann.seq Ann.leaf (Ann.seq (Ann.seq Ann.leaf (Ann.link ⟨Unit,fun _u=>True,fun _u=>⟨[c,d,b,a,e,(16,aJ 0)],[f,(7,Bx.cells k)]⟩,fun _u=>0⟩ (fun _u=>g) (Ann.link ⟨Unit,fun _u=>True,fun _u=>⟨[c,d,b,a,e,(16,aJ 1)],[f,(7,bC [Cl.d h,cK 0,cK 0,cK 0,cK 0])]⟩,fun _u=>0⟩ (fun _u=>g) (Ann.link ⟨Unit,fun _u=>True,fun _u=>⟨[c,d,b,a,e,(16,aJ 2)],[f,(7,bC [Cl.d h,Cl.d i,cK 0,cK 0,cK 0])]⟩,fun _u=>0⟩ (fun _u=>g) (Ann.link ⟨Unit,fun _u=>True,fun _u=>⟨[c,d,b,a,e,(16,aJ 3)],[f,(7,bC [Cl.d h,Cl.d i,Cl.d j,cK 0,cK 0])]⟩,fun _u=>0⟩ (fun _u=>g) (Ann.link ⟨Unit,fun _u=>True,fun _u=>⟨[c,d,b,a,e,(16,aJ 4)],[f,(7,bC [Cl.d h,Cl.d i,Cl.d j,Cl.d l,cK 0])]⟩,fun _u=>0⟩ (fun _u=>g) (Ann.link ⟨Unit,fun _u=>True,fun _u=>⟨[c,d,b,a,e,(16,aJ 5)],[f,(7,bC [Cl.d h,Cl.d i,Cl.d j,Cl.d l,cK (nAt xs4 ((wK ((wK (y*s4))+x)).toNat*1))])]⟩,fun _u=>0⟩ (fun _u=>(Ann.seq Ann.leaf (Ann.seq (Ann.sure false Ann.leaf) Ann.leaf))) Ann.leaf))))))) Ann.leaf))))) zQB Tryz.func101 rfl (Nat.le_of_ble_eq_true rfl) fun hwf=>by
  refine Eq.mpr (by kernel_rfl:_=(let a:=((5:Nat):Int); let g:=(Im.px ⟨w,h,so,⟨c0,c1,c2,ca,cf⟩,⟨w0,h0,s0,n0,xs0⟩,⟨w1,h1,s1,n1,xs1⟩,⟨w2,h2,s2,n2,xs2⟩,⟨w3,h3,s3,n3,xs3⟩,⟨w4,h4,s4,n4,xs4⟩⟩ x y); let z:=[dK g.a,dK g.b,dK g.c,dK g.al,dK g.f]; let c:=(dJ x=dJ x); let d:=(dJ y=dJ y); let A:=[dJ w0,dJ h0,dJ s0,dS n0 xs0,dJ w1,dJ h1,dJ s1,dS n1 xs1,dJ w2,dJ h2,dJ s2,dS n2 xs2,dJ w3,dJ h3,dJ s3,dS n3 xs3,dJ w4,dJ h4,dJ s4,dS n4 xs4]; let e:=(A=A); let B:=[dK 0,dK 0,dK 0,dK 0,dK 0]; let b:=(B=B); let l:=((wK (y*s0))+x); let m:=(wK l); let f:=(nAt xs0 (m.toNat*1)); let C:=(0≤(0:Int)∧(0:Int) < a); let D:=[dK f,dK 0,dK 0,dK 0,dK 0]; let n:=((wK (y*s1))+x); let o:=(wK n); let i:=(nAt xs1 (o.toNat*1)); let E:=(0≤(1:Int)∧(1:Int) < a); let F:=[dK f,dK i,dK 0,dK 0,dK 0]; let p:=((wK (y*s2))+x); let q:=(wK p); let j:=(nAt xs2 (q.toNat*1)); let G:=(0≤(2:Int)∧(2:Int) < a); let H:=[dK f,dK i,dK j,dK 0,dK 0]; let r:=((wK (y*s3))+x); let s:=(wK r); let t:=(nAt xs3 (s.toNat*1)); let I:=(0≤(3:Int)∧(3:Int) < a); let J:=[dK f,dK i,dK j,dK t,dK 0]; let u:=((wK (y*s4))+x); let k:=(wK u); let K:=(0≤(4:Int)∧(4:Int) < a); let v:=[dK f,dK i,dK j,dK t,dK (nAt xs4 (k.toNat*1))]; tU4 ((so=true→tU3 (RV.agg [dK c0,dK c1,dK c2,dK ca,dK cf]=RV.agg z))∧(so=false→tU4 ((∃ _u:Unit,True∧((c∧d∧(0=0)∧(0=0)∧e∧(dJ 0=dJ 0)∧True)∧(b∧b∧True)))∧((∀ _u:Unit,True→True∧(decide ((0:Int) < 5)=true∧True∧(0≤(0:Int)∧(0:Int) < a∧(some (dJ w0)=some (dJ w0))∧(some (dJ h0)=some (dJ h0))∧(some (dJ s0)=some (dJ s0))∧(some (dS n0 xs0)=some (dS n0 xs0))∧True)∧tU4 (tU8 ((0≤wK l∧wK l < (n0:Int)∧m.toNat*1 < xs0.length)∧((xs0[m.toNat*1]?=some (dK f))∧True)∧C∧tU3 (∃ _u:Unit,True∧((c∧d∧(0=0)∧(0=0)∧e∧(dJ (wK ((0:Int)+1))=dJ 1)∧True)∧(b∧(D=D)∧True)))))))∧(∀ _u:Unit,True→True∧(decide ((1:Int) < 5)=true∧True∧(0≤(1:Int)∧(1:Int) < a∧(some (dJ w1)=some (dJ w1))∧(some (dJ h1)=some (dJ h1))∧(some (dJ s1)=some (dJ s1))∧(some (dS n1 xs1)=some (dS n1 xs1))∧True)∧tU4 (tU8 ((0≤wK n∧wK n < (n1:Int)∧o.toNat*1 < xs1.length)∧((xs1[o.toNat*1]?=some (dK i))∧True)∧E∧tU3 (∃ _u:Unit,True∧((c∧d∧(0=0)∧(0=0)∧e∧(dJ (wK ((1:Int)+1))=dJ 2)∧True)∧(b∧(F=F)∧True)))))))∧(∀ _u:Unit,True→True∧(decide ((2:Int) < 5)=true∧True∧(0≤(2:Int)∧(2:Int) < a∧(some (dJ w2)=some (dJ w2))∧(some (dJ h2)=some (dJ h2))∧(some (dJ s2)=some (dJ s2))∧(some (dS n2 xs2)=some (dS n2 xs2))∧True)∧tU4 (tU8 ((0≤wK p∧wK p < (n2:Int)∧q.toNat*1 < xs2.length)∧((xs2[q.toNat*1]?=some (dK j))∧True)∧G∧tU3 (∃ _u:Unit,True∧((c∧d∧(0=0)∧(0=0)∧e∧(dJ (wK ((2:Int)+1))=dJ 3)∧True)∧(b∧(H=H)∧True)))))))∧(∀ _u:Unit,True→True∧(decide ((3:Int) < 5)=true∧True∧(0≤(3:Int)∧(3:Int) < a∧(some (dJ w3)=some (dJ w3))∧(some (dJ h3)=some (dJ h3))∧(some (dJ s3)=some (dJ s3))∧(some (dS n3 xs3)=some (dS n3 xs3))∧True)∧tU4 (tU8 ((0≤wK r∧wK r < (n3:Int)∧s.toNat*1 < xs3.length)∧((xs3[s.toNat*1]?=some (dK t))∧True)∧I∧tU3 (∃ _u:Unit,True∧((c∧d∧(0=0)∧(0=0)∧e∧(dJ (wK ((3:Int)+1))=dJ 4)∧True)∧(b∧(J=J)∧True)))))))∧(∀ _u:Unit,True→True∧(decide ((4:Int) < 5)=true∧True∧(0≤(4:Int)∧(4:Int) < a∧(some (dJ w4)=some (dJ w4))∧(some (dJ h4)=some (dJ h4))∧(some (dJ s4)=some (dJ s4))∧(some (dS n4 xs4)=some (dS n4 xs4))∧True)∧tU4 (tU8 ((0≤wK u∧wK u < (n4:Int)∧k.toNat*1 < xs4.length)∧((xs4[k.toNat*1]?=some (dK (nAt xs4 (k.toNat*1))))∧True)∧K∧tU3 (∃ _u:Unit,True∧((c∧d∧(0=0)∧(0=0)∧e∧(dJ (wK ((4:Int)+1))=dJ 5)∧True)∧(b∧(v=v)∧True)))))))∧(∀ _u:Unit,True→True∧(decide ((5:Int) < 5)=false∧C∧True∧E∧True∧G∧tU2 (I∧True∧K∧tU3 (RV.agg v=RV.agg z))))∧True)))))) ?_
  delta tU2 tU3 tU4 tU8 dJ dK wK dS
  simp only [sS,zQT,zQC,zQK,zQH,zQP,zQQ]
  cases so with
  | true=>simp [Im.px]
  | false=>
   obtain ⟨u0,u1,u2,u3,u4⟩:=hu
   obtain ⟨hc,⟨v0,e0,e0'⟩,⟨v1,e1,e1'⟩,⟨v2,e2,e2'⟩,⟨v3,e3,e3'⟩,⟨v4,e4,e4'⟩⟩:=Im.inner_planes hf rfl
   simp only at v0 e0 e0' v1 e1 e1' v2 e2 e2' v3 e3 e3' v4 e4 e4'
   obtain ⟨a0,b0,d0⟩:=zXP u0 v0 (x:=x) (y:=y) ⟨hx.1,by omega⟩ ⟨hy.1,by omega⟩
   obtain ⟨a1,b1,d1⟩:=zXP u1 v1 (x:=x) (y:=y) ⟨hx.1,by omega⟩ ⟨hy.1,by omega⟩
   obtain ⟨a2,b2,d2⟩:=zXP u2 v2 (x:=x) (y:=y) ⟨hx.1,by omega⟩ ⟨hy.1,by omega⟩
   obtain ⟨a3,b3,d3⟩:=zXP u3 v3 (x:=x) (y:=y) ⟨hx.1,by omega⟩ ⟨hy.1,by omega⟩
   obtain ⟨a4,b4,d4⟩:=zXP u4 v4 (x:=x) (y:=y) ⟨hx.1,by omega⟩ ⟨hy.1,by omega⟩
   simp only at a0 b0 d0 a1 b1 d1 a2 b2 d2 a3 b3 d3 a4 b4 d4
   simp only [Nat.mul_one] at b0 b1 b2 b3 b4 d0 d1 d2 d3 d4
   have f0:=(List.getElem?_eq_some_iff.1 d0).2
   have f1:=(List.getElem?_eq_some_iff.1 d1).2
   have f2:=(List.getElem?_eq_some_iff.1 d2).2
   have f3:=(List.getElem?_eq_some_iff.1 d3).2
   have f4:=(List.getElem?_eq_some_iff.1 d4).2
   simp [w1_,f0,f1,f2,f3,f4,a0,a1,a2,a3,a4,b0,b1,b2,b3,b4,d0,d1,d2,d3,d4,Im.px,Pl.at_]
theorem zGJ (w h:Int) (so:Bool) (c0 c1 c2 ca cf w0 h0 s0:Int) (n0:Nat) (xs0:List DV) (w1 h1 s1:Int) (n1:Nat) (xs1:List DV) (w2 h2 s2:Int) (n2:Nat) (xs2:List DV) (w3 h3 s3:Int) (n3:Nat) (xs3:List DV) (w4 h4 s4:Int) (n4:Nat) (xs4:List DV) (x y:Int) (hu:Im.isU ⟨w,h,so,⟨c0,c1,c2,ca,cf⟩,⟨w0,h0,s0,n0,xs0⟩,⟨w1,h1,s1,n1,xs1⟩,⟨w2,h2,s2,n2,xs2⟩,⟨w3,h3,s3,n3,xs3⟩,⟨w4,h4,s4,n4,xs4⟩⟩) (hf:Im.inner ⟨w,h,so,⟨c0,c1,c2,ca,cf⟩,⟨w0,h0,s0,n0,xs0⟩,⟨w1,h1,s1,n1,xs1⟩,⟨w2,h2,s2,n2,xs2⟩,⟨w3,h3,s3,n3,xs3⟩,⟨w4,h4,s4,n4,xs4⟩⟩=true) (hx:0≤x∧x < w) (hy:0≤y∧y < h):Ans prog 67 [RV.agg [dJ w,dJ h,dQ so,dK c0,dK c1,dK c2,dK ca,dK cf,dJ w0,dJ h0,dJ s0,dS n0 xs0,dJ w1,dJ h1,dJ s1,dS n1 xs1,dJ w2,dJ h2,dJ s2,dS n2 xs2,dJ w3,dJ h3,dJ s3,dS n3 xs3,dJ w4,dJ h4,dJ s4,dS n4 xs4],rJ (x),rJ (y)] (RV.agg [dK ((Im.px ⟨w,h,so,⟨c0,c1,c2,ca,cf⟩,⟨w0,h0,s0,n0,xs0⟩,⟨w1,h1,s1,n1,xs1⟩,⟨w2,h2,s2,n2,xs2⟩,⟨w3,h3,s3,n3,xs3⟩,⟨w4,h4,s4,n4,xs4⟩⟩ x y).a),dK ((Im.px ⟨w,h,so,⟨c0,c1,c2,ca,cf⟩,⟨w0,h0,s0,n0,xs0⟩,⟨w1,h1,s1,n1,xs1⟩,⟨w2,h2,s2,n2,xs2⟩,⟨w3,h3,s3,n3,xs3⟩,⟨w4,h4,s4,n4,xs4⟩⟩ x y).b),dK ((Im.px ⟨w,h,so,⟨c0,c1,c2,ca,cf⟩,⟨w0,h0,s0,n0,xs0⟩,⟨w1,h1,s1,n1,xs1⟩,⟨w2,h2,s2,n2,xs2⟩,⟨w3,h3,s3,n3,xs3⟩,⟨w4,h4,s4,n4,xs4⟩⟩ x y).c),dK ((Im.px ⟨w,h,so,⟨c0,c1,c2,ca,cf⟩,⟨w0,h0,s0,n0,xs0⟩,⟨w1,h1,s1,n1,xs1⟩,⟨w2,h2,s2,n2,xs2⟩,⟨w3,h3,s3,n3,xs3⟩,⟨w4,h4,s4,n4,xs4⟩⟩ x y).al),dK ((Im.px ⟨w,h,so,⟨c0,c1,c2,ca,cf⟩,⟨w0,h0,s0,n0,xs0⟩,⟨w1,h1,s1,n1,xs1⟩,⟨w2,h2,s2,n2,xs2⟩,⟨w3,h3,s3,n3,xs3⟩,⟨w4,h4,s4,n4,xs4⟩⟩ x y).f)]):=
 zQm (Γ:=gamI) (let a:=(7,AV.one (Cl.ptr 7 0)); let b:=(6,AV.one (Cl.ptr 6 0)); let c:=(3,AV.one (Cl.ptr 3 0)); let i:=(Ann.seq (Ann.seq Ann.leaf (Ann.sure true Ann.leaf)) Ann.leaf); let d:=(1,aJ x); let e:=(2,aJ y); let f:=(3,bC [cJ w,cJ h,Cl.d (dQ so),cK c0,cK c1,cK c2,cK ca,cK cf,cJ w0,cJ h0,cJ s0,Cl.d (dS n0 xs0),cJ w1,cJ h1,cJ s1,Cl.d (dS n1 xs1),cJ w2,cJ h2,cJ s2,Cl.d (dS n2 xs2),cJ w3,cJ h3,cJ s3,Cl.d (dS n3 xs3),cJ w4,cJ h4,cJ s4,Cl.d (dS n4 xs4)]); let g:=(6,bC [cK 0,cK 0,cK 0,cK 0,cK 0]); let j:=(dJ (wK ((wK (y*s0))+x))); let k:=(dJ (wK ((wK (y*s1))+x))); let l:=(dJ (wK ((wK (y*s2))+x))); let m:=(dJ (wK ((wK (y*s3))+x))); (Ann.seq Ann.leaf (Ann.seq Ann.leaf (Ann.seq Ann.leaf (Ann.seq (Ann.seq Ann.leaf (Ann.link ⟨Unit,fun _u=>True,fun _u=>⟨[d,e,c,b,a,(8,aJ 0)],[f,g,(7,bC [cJ 0,cJ 0,cJ 0,cJ 0,cJ 0])]⟩,fun _u=>0⟩ (fun _u=>i) (Ann.link ⟨Unit,fun _u=>True,fun _u=>⟨[d,e,c,b,a,(8,aJ 1)],[f,g,(7,bC [Cl.d j,cJ 0,cJ 0,cJ 0,cJ 0])]⟩,fun _u=>0⟩ (fun _u=>i) (Ann.link ⟨Unit,fun _u=>True,fun _u=>⟨[d,e,c,b,a,(8,aJ 2)],[f,g,(7,bC [Cl.d j,Cl.d k,cJ 0,cJ 0,cJ 0])]⟩,fun _u=>0⟩ (fun _u=>i) (Ann.link ⟨Unit,fun _u=>True,fun _u=>⟨[d,e,c,b,a,(8,aJ 3)],[f,g,(7,bC [Cl.d j,Cl.d k,Cl.d l,cJ 0,cJ 0])]⟩,fun _u=>0⟩ (fun _u=>i) (Ann.link ⟨Unit,fun _u=>True,fun _u=>⟨[d,e,c,b,a,(8,aJ 4)],[f,g,(7,bC [Cl.d j,Cl.d k,Cl.d l,Cl.d m,cJ 0])]⟩,fun _u=>0⟩ (fun _u=>i) (Ann.link ⟨Unit,fun _u=>True,fun _u=>⟨[d,e,c,b,a,(8,aJ 5)],[f,g,(7,bC [Cl.d j,Cl.d k,Cl.d l,Cl.d m,cJ (wK ((wK (y*s4))+x))])]⟩,fun _u=>0⟩ (fun _u=>(Ann.seq (Ann.seq Ann.leaf (Ann.sure false Ann.leaf)) Ann.leaf)) Ann.leaf))))))) Ann.leaf))))) zQB Tryz.func67 rfl (Nat.le_of_ble_eq_true rfl) fun hwf=>by
  refine Eq.mpr (by kernel_rfl:_=(let j:=((5:Nat):Int); let k:=(Im.px ⟨w,h,so,⟨c0,c1,c2,ca,cf⟩,⟨w0,h0,s0,n0,xs0⟩,⟨w1,h1,s1,n1,xs1⟩,⟨w2,h2,s2,n2,xs2⟩,⟨w3,h3,s3,n3,xs3⟩,⟨w4,h4,s4,n4,xs4⟩⟩ x y); let z:=[dK k.a,dK k.b,dK k.c,dK k.al,dK k.f]; let d:=(dJ x=dJ x); let e:=(dJ y=dJ y); let A:=[dJ w,dJ h,dQ so,dK c0,dK c1,dK c2,dK ca,dK cf,dJ w0,dJ h0,dJ s0,dS n0 xs0,dJ w1,dJ h1,dJ s1,dS n1 xs1,dJ w2,dJ h2,dJ s2,dS n2 xs2,dJ w3,dJ h3,dJ s3,dS n3 xs3,dJ w4,dJ h4,dJ s4,dS n4 xs4]; let f:=(A=A); let B:=[dK 0,dK 0,dK 0,dK 0,dK 0]; let g:=(B=B); let C:=[dJ 0,dJ 0,dJ 0,dJ 0,dJ 0]; let m:=(0≤(0:Int)∧(0:Int) < j); let r:=((wK (y*s0))+x); let a:=(wK r); let D:=[dJ a,dJ 0,dJ 0,dJ 0,dJ 0]; let n:=(0≤(1:Int)∧(1:Int) < j); let s:=((wK (y*s1))+x); let b:=(wK s); let E:=[dJ a,dJ b,dJ 0,dJ 0,dJ 0]; let o:=(0≤(2:Int)∧(2:Int) < j); let t:=((wK (y*s2))+x); let c:=(wK t); let F:=[dJ a,dJ b,dJ c,dJ 0,dJ 0]; let p:=(0≤(3:Int)∧(3:Int) < j); let u:=((wK (y*s3))+x); let i:=(wK u); let G:=[dJ a,dJ b,dJ c,dJ i,dJ 0]; let q:=(0≤(4:Int)∧(4:Int) < j); let v:=((wK (y*s4))+x); let l:=(wK v); let H:=[dJ a,dJ b,dJ c,dJ i,dJ l]; tU4 ((so=true→tU3 (RV.agg [dK c0,dK c1,dK c2,dK ca,dK cf]=RV.agg z))∧(so=false→tU4 ((∃ _u:Unit,True∧((d∧e∧(0=0)∧(0=0)∧(0=0)∧(dJ 0=dJ 0)∧True)∧(f∧g∧(C=C)∧True)))∧((∀ _u:Unit,True→tU2 (decide ((0:Int) < 5)=true∧tU4 (m∧tU5 (m∧tU4 (∃ _u:Unit,True∧((d∧e∧(0=0)∧(0=0)∧(0=0)∧(dJ (wK ((0:Int)+1))=dJ 1)∧True)∧(f∧g∧(D=D)∧True)))))))∧(∀ _u:Unit,True→tU2 (decide ((1:Int) < 5)=true∧tU4 (n∧tU5 (n∧tU4 (∃ _u:Unit,True∧((d∧e∧(0=0)∧(0=0)∧(0=0)∧(dJ (wK ((1:Int)+1))=dJ 2)∧True)∧(f∧g∧(E=E)∧True)))))))∧(∀ _u:Unit,True→tU2 (decide ((2:Int) < 5)=true∧tU4 (o∧tU5 (o∧tU4 (∃ _u:Unit,True∧((d∧e∧(0=0)∧(0=0)∧(0=0)∧(dJ (wK ((2:Int)+1))=dJ 3)∧True)∧(f∧g∧(F=F)∧True)))))))∧(∀ _u:Unit,True→tU2 (decide ((3:Int) < 5)=true∧tU4 (p∧tU5 (p∧tU4 (∃ _u:Unit,True∧((d∧e∧(0=0)∧(0=0)∧(0=0)∧(dJ (wK ((3:Int)+1))=dJ 4)∧True)∧(f∧g∧(G=G)∧True)))))))∧(∀ _u:Unit,True→tU2 (decide ((4:Int) < 5)=true∧tU4 (q∧tU5 (q∧tU4 (∃ _u:Unit,True∧((d∧e∧(0=0)∧(0=0)∧(0=0)∧(dJ (wK ((4:Int)+1))=dJ 5)∧True)∧(f∧g∧(H=H)∧True)))))))∧(∀ _u:Unit,True→tU2 (decide ((5:Int) < 5)=false∧True∧m∧tU2 (m∧True∧(0≤wK r∧wK r < (n0:Int)∧a.toNat*1 < xs0.length)∧((xs0[a.toNat*1]?=some (dK (nAt xs0 (a.toNat*1))))∧True)∧True∧n∧tU2 (n∧True∧(0≤wK s∧wK s < (n1:Int)∧b.toNat*1 < xs1.length)∧((xs1[b.toNat*1]?=some (dK (nAt xs1 (b.toNat*1))))∧True)∧True∧o∧tU2 (o∧True∧(0≤wK t∧wK t < (n2:Int)∧c.toNat*1 < xs2.length)∧((xs2[c.toNat*1]?=some (dK (nAt xs2 (c.toNat*1))))∧True)∧tU2 (p∧tU2 (p∧True∧(0≤wK u∧wK u < (n3:Int)∧i.toNat*1 < xs3.length)∧((xs3[i.toNat*1]?=some (dK (nAt xs3 (i.toNat*1))))∧True)∧True∧q∧tU2 (q∧True∧(0≤wK v∧wK v < (n4:Int)∧l.toNat*1 < xs4.length)∧((xs4[l.toNat*1]?=some (dK (nAt xs4 (l.toNat*1))))∧True)∧tU2 ((true=true)∧RV.agg [dK (nAt xs0 (a.toNat*1)),dK (nAt xs1 (b.toNat*1)),dK (nAt xs2 (c.toNat*1)),dK (nAt xs3 (i.toNat*1)),dK (nAt xs4 (l.toNat*1))]=RV.agg z)))))))))∧True)))))) ?_
  delta tU2 tU3 tU4 tU5 dJ dK dQ wK dS
  simp only [sS,zQT,zQC,zQK,zQH,zQP,zQQ]
  cases so with
  | true=>simp [Im.px]
  | false=>
   obtain ⟨u0,u1,u2,u3,u4⟩:=hu
   obtain ⟨hc,⟨v0,e0,e0'⟩,⟨v1,e1,e1'⟩,⟨v2,e2,e2'⟩,⟨v3,e3,e3'⟩,⟨v4,e4,e4'⟩⟩:=Im.inner_planes hf rfl
   simp only at v0 e0 e0' v1 e1 e1' v2 e2 e2' v3 e3 e3' v4 e4 e4'
   obtain ⟨a0,b0,d0⟩:=zXP u0 v0 (x:=x) (y:=y) ⟨hx.1,by omega⟩ ⟨hy.1,by omega⟩
   obtain ⟨a1,b1,d1⟩:=zXP u1 v1 (x:=x) (y:=y) ⟨hx.1,by omega⟩ ⟨hy.1,by omega⟩
   obtain ⟨a2,b2,d2⟩:=zXP u2 v2 (x:=x) (y:=y) ⟨hx.1,by omega⟩ ⟨hy.1,by omega⟩
   obtain ⟨a3,b3,d3⟩:=zXP u3 v3 (x:=x) (y:=y) ⟨hx.1,by omega⟩ ⟨hy.1,by omega⟩
   obtain ⟨a4,b4,d4⟩:=zXP u4 v4 (x:=x) (y:=y) ⟨hx.1,by omega⟩ ⟨hy.1,by omega⟩
   simp only at a0 b0 d0 a1 b1 d1 a2 b2 d2 a3 b3 d3 a4 b4 d4
   simp only [Nat.mul_one] at b0 b1 b2 b3 b4 d0 d1 d2 d3 d4
   have f0:=(List.getElem?_eq_some_iff.1 d0).2
   have f1:=(List.getElem?_eq_some_iff.1 d1).2
   have f2:=(List.getElem?_eq_some_iff.1 d2).2
   have f3:=(List.getElem?_eq_some_iff.1 d3).2
   have f4:=(List.getElem?_eq_some_iff.1 d4).2
   simp [w1_,f0,f1,f2,f3,f4,a0,a1,a2,a3,a4,b0,b1,b2,b3,b4,d0,d1,d2,d3,d4,Im.px,Pl.at_]
theorem zQ4 (w h:Int) (so:Bool) (c0 c1 c2 ca cf w0 h0 s0:Int) (n0:Nat) (xs0:List DV) (w1 h1 s1:Int) (n1:Nat) (xs1:List DV) (w2 h2 s2:Int) (n2:Nat) (xs2:List DV) (w3 h3 s3:Int) (n3:Nat) (xs3:List DV) (w4 h4 s4:Int) (n4:Nat) (xs4:List DV):Ans prog 121 [RV.agg [dJ w,dJ h,dQ so,dK c0,dK c1,dK c2,dK ca,dK cf,dJ w0,dJ h0,dJ s0,dS n0 xs0,dJ w1,dJ h1,dJ s1,dS n1 xs1,dJ w2,dJ h2,dJ s2,dS n2 xs2,dJ w3,dJ h3,dJ s3,dS n3 xs3,dJ w4,dJ h4,dJ s4,dS n4 xs4]] (rJ ((Im.shape ⟨w,h,so,⟨c0,c1,c2,ca,cf⟩,⟨w0,h0,s0,n0,xs0⟩,⟨w1,h1,s1,n1,xs1⟩,⟨w2,h2,s2,n2,xs2⟩,⟨w3,h3,s3,n3,xs3⟩,⟨w4,h4,s4,n4,xs4⟩⟩))):=
 zQm (Γ:=gamI) Ann.leaf zQB Tryz.func121 rfl (Nat.le_of_ble_eq_true rfl) fun hwf=>by
  refine Eq.mpr (by kernel_rfl:_=(let a:=(dJ (Im.shape ⟨w,h,so,⟨c0,c1,c2,ca,cf⟩,⟨w0,h0,s0,n0,xs0⟩,⟨w1,h1,s1,n1,xs1⟩,⟨w2,h2,s2,n2,xs2⟩,⟨w3,h3,s3,n3,xs3⟩,⟨w4,h4,s4,n4,xs4⟩⟩)); let b:=(Im.formed ⟨w,h,so,⟨c0,c1,c2,ca,cf⟩,⟨w0,h0,s0,n0,xs0⟩,⟨w1,h1,s1,n1,xs1⟩,⟨w2,h2,s2,n2,xs2⟩,⟨w3,h3,s3,n3,xs3⟩,⟨w4,h4,s4,n4,xs4⟩⟩); tU6 ((Ans prog 125 [rJ w,rJ h] (RV.d (dQ (zQZ w h))))∧tU2 (((!(zQZ w h))=true→True∧rJ 6=RV.d a)∧((!(zQZ w h))=false→True∧(Ans prog 99 [RV.agg [dJ w,dJ h,dQ so,dK c0,dK c1,dK c2,dK ca,dK cf,dJ w0,dJ h0,dJ s0,dS n0 xs0,dJ w1,dJ h1,dJ s1,dS n1 xs1,dJ w2,dJ h2,dJ s2,dS n2 xs2,dJ w3,dJ h3,dJ s3,dS n3 xs3,dJ w4,dJ h4,dJ s4,dS n4 xs4]] (RV.d (dQ b)))∧tU2 (((!b)=true→True∧rJ 7=RV.d a)∧((!b)=false→True∧rJ 0=RV.d a))))))) ?_
  delta tU2 tU6 dJ dK dQ dS rJ
  simp only [sS,zQT,zQC,zQK,zQH,zQP,zQQ]
  simp [Im.shape,Im.formed]; (repeat' (first | apply And.intro | intro)) <;> (first | assumption | (simp_all; done) | grind)
theorem zJv (w h c0 c1 c2 ca cf:Int):Ans prog 114 [rJ (w),rJ (h),RV.agg [dK c0,dK c1,dK c2,dK ca,dK cf]] (RV.agg [dJ ((zQf w h ⟨c0,c1,c2,ca,cf⟩).w),dJ ((zQf w h ⟨c0,c1,c2,ca,cf⟩).h),dQ ((zQf w h ⟨c0,c1,c2,ca,cf⟩).so),dK (((zQf w h ⟨c0,c1,c2,ca,cf⟩).c).a),dK (((zQf w h ⟨c0,c1,c2,ca,cf⟩).c).b),dK (((zQf w h ⟨c0,c1,c2,ca,cf⟩).c).c),dK (((zQf w h ⟨c0,c1,c2,ca,cf⟩).c).al),dK (((zQf w h ⟨c0,c1,c2,ca,cf⟩).c).f),dJ (((zQf w h ⟨c0,c1,c2,ca,cf⟩).p0).w),dJ (((zQf w h ⟨c0,c1,c2,ca,cf⟩).p0).h),dJ (((zQf w h ⟨c0,c1,c2,ca,cf⟩).p0).s),dS (((zQf w h ⟨c0,c1,c2,ca,cf⟩).p0).n) (((zQf w h ⟨c0,c1,c2,ca,cf⟩).p0).xs),dJ (((zQf w h ⟨c0,c1,c2,ca,cf⟩).p1).w),dJ (((zQf w h ⟨c0,c1,c2,ca,cf⟩).p1).h),dJ (((zQf w h ⟨c0,c1,c2,ca,cf⟩).p1).s),dS (((zQf w h ⟨c0,c1,c2,ca,cf⟩).p1).n) (((zQf w h ⟨c0,c1,c2,ca,cf⟩).p1).xs),dJ (((zQf w h ⟨c0,c1,c2,ca,cf⟩).p2).w),dJ (((zQf w h ⟨c0,c1,c2,ca,cf⟩).p2).h),dJ (((zQf w h ⟨c0,c1,c2,ca,cf⟩).p2).s),dS (((zQf w h ⟨c0,c1,c2,ca,cf⟩).p2).n) (((zQf w h ⟨c0,c1,c2,ca,cf⟩).p2).xs),dJ (((zQf w h ⟨c0,c1,c2,ca,cf⟩).p3).w),dJ (((zQf w h ⟨c0,c1,c2,ca,cf⟩).p3).h),dJ (((zQf w h ⟨c0,c1,c2,ca,cf⟩).p3).s),dS (((zQf w h ⟨c0,c1,c2,ca,cf⟩).p3).n) (((zQf w h ⟨c0,c1,c2,ca,cf⟩).p3).xs),dJ (((zQf w h ⟨c0,c1,c2,ca,cf⟩).p4).w),dJ (((zQf w h ⟨c0,c1,c2,ca,cf⟩).p4).h),dJ (((zQf w h ⟨c0,c1,c2,ca,cf⟩).p4).s),dS (((zQf w h ⟨c0,c1,c2,ca,cf⟩).p4).n) (((zQf w h ⟨c0,c1,c2,ca,cf⟩).p4).xs)]):=
 zQm (Γ:=gamI) Ann.leaf zQB Tryz.func114 rfl (Nat.le_of_ble_eq_true rfl) fun hwf=>by
  refine Eq.mpr (by kernel_rfl:_=(let a:=(zQf w h ⟨c0,c1,c2,ca,cf⟩).p0; let b:=(zQf w h ⟨c0,c1,c2,ca,cf⟩).p1; let d:=(zQf w h ⟨c0,c1,c2,ca,cf⟩).p2; let e:=(zQf w h ⟨c0,c1,c2,ca,cf⟩).p3; let f:=(zQf w h ⟨c0,c1,c2,ca,cf⟩).p4; let g:=(zQf w h ⟨c0,c1,c2,ca,cf⟩).c; tU7 (RV.agg [dJ w,dJ h,dQ true,dK c0,dK c1,dK c2,dK ca,dK cf,dJ 0,dJ 0,dJ 0,dS 0 ([]),dJ 0,dJ 0,dJ 0,dS 0 ([]),dJ 0,dJ 0,dJ 0,dS 0 ([]),dJ 0,dJ 0,dJ 0,dS 0 ([]),dJ 0,dJ 0,dJ 0,dS 0 ([])]=RV.agg [dJ (zQf w h ⟨c0,c1,c2,ca,cf⟩).w,dJ (zQf w h ⟨c0,c1,c2,ca,cf⟩).h,dQ (zQf w h ⟨c0,c1,c2,ca,cf⟩).so,dK g.a,dK g.b,dK g.c,dK g.al,dK g.f,dJ a.w,dJ a.h,dJ a.s,dS a.n a.xs,dJ b.w,dJ b.h,dJ b.s,dS b.n b.xs,dJ d.w,dJ d.h,dJ d.s,dS d.n d.xs,dJ e.w,dJ e.h,dJ e.s,dS e.n e.xs,dJ f.w,dJ f.h,dJ f.s,dS f.n f.xs]))) ?_
  delta tU7 dJ dK dQ dS
  simp only [sS,zQT,zQC,zQK,zQH,zQP,zQQ,zQ4]
  simp [zQf,Pl.none,Px.zero]
theorem zGK (w h c0 c1 c2 ca cf:Int):Ans prog 22 [rJ (w),rJ (h),RV.agg [dK c0,dK c1,dK c2,dK ca,dK cf]] (RV.agg [dJ ((zQf w h ⟨c0,c1,c2,ca,cf⟩).w),dJ ((zQf w h ⟨c0,c1,c2,ca,cf⟩).h),dQ ((zQf w h ⟨c0,c1,c2,ca,cf⟩).so),dK (((zQf w h ⟨c0,c1,c2,ca,cf⟩).c).a),dK (((zQf w h ⟨c0,c1,c2,ca,cf⟩).c).b),dK (((zQf w h ⟨c0,c1,c2,ca,cf⟩).c).c),dK (((zQf w h ⟨c0,c1,c2,ca,cf⟩).c).al),dK (((zQf w h ⟨c0,c1,c2,ca,cf⟩).c).f),dJ (((zQf w h ⟨c0,c1,c2,ca,cf⟩).p0).w),dJ (((zQf w h ⟨c0,c1,c2,ca,cf⟩).p0).h),dJ (((zQf w h ⟨c0,c1,c2,ca,cf⟩).p0).s),dS (((zQf w h ⟨c0,c1,c2,ca,cf⟩).p0).n) (((zQf w h ⟨c0,c1,c2,ca,cf⟩).p0).xs),dJ (((zQf w h ⟨c0,c1,c2,ca,cf⟩).p1).w),dJ (((zQf w h ⟨c0,c1,c2,ca,cf⟩).p1).h),dJ (((zQf w h ⟨c0,c1,c2,ca,cf⟩).p1).s),dS (((zQf w h ⟨c0,c1,c2,ca,cf⟩).p1).n) (((zQf w h ⟨c0,c1,c2,ca,cf⟩).p1).xs),dJ (((zQf w h ⟨c0,c1,c2,ca,cf⟩).p2).w),dJ (((zQf w h ⟨c0,c1,c2,ca,cf⟩).p2).h),dJ (((zQf w h ⟨c0,c1,c2,ca,cf⟩).p2).s),dS (((zQf w h ⟨c0,c1,c2,ca,cf⟩).p2).n) (((zQf w h ⟨c0,c1,c2,ca,cf⟩).p2).xs),dJ (((zQf w h ⟨c0,c1,c2,ca,cf⟩).p3).w),dJ (((zQf w h ⟨c0,c1,c2,ca,cf⟩).p3).h),dJ (((zQf w h ⟨c0,c1,c2,ca,cf⟩).p3).s),dS (((zQf w h ⟨c0,c1,c2,ca,cf⟩).p3).n) (((zQf w h ⟨c0,c1,c2,ca,cf⟩).p3).xs),dJ (((zQf w h ⟨c0,c1,c2,ca,cf⟩).p4).w),dJ (((zQf w h ⟨c0,c1,c2,ca,cf⟩).p4).h),dJ (((zQf w h ⟨c0,c1,c2,ca,cf⟩).p4).s),dS (((zQf w h ⟨c0,c1,c2,ca,cf⟩).p4).n) (((zQf w h ⟨c0,c1,c2,ca,cf⟩).p4).xs)]):=
 zQm (Γ:=gamI) Ann.leaf zQB Tryz.func22 rfl (Nat.le_of_ble_eq_true rfl) fun hwf=>by
  refine Eq.mpr (by kernel_rfl:_=(let a:=(zQf w h ⟨c0,c1,c2,ca,cf⟩).p0; let b:=(zQf w h ⟨c0,c1,c2,ca,cf⟩).p1; let d:=(zQf w h ⟨c0,c1,c2,ca,cf⟩).p2; let e:=(zQf w h ⟨c0,c1,c2,ca,cf⟩).p3; let f:=(zQf w h ⟨c0,c1,c2,ca,cf⟩).p4; let g:=(zQf w h ⟨c0,c1,c2,ca,cf⟩).c; tU7 (RV.agg [dJ w,dJ h,dQ true,dK c0,dK c1,dK c2,dK ca,dK cf,dJ 0,dJ 0,dJ 0,dS 0 ([]),dJ 0,dJ 0,dJ 0,dS 0 ([]),dJ 0,dJ 0,dJ 0,dS 0 ([]),dJ 0,dJ 0,dJ 0,dS 0 ([]),dJ 0,dJ 0,dJ 0,dS 0 ([])]=RV.agg [dJ (zQf w h ⟨c0,c1,c2,ca,cf⟩).w,dJ (zQf w h ⟨c0,c1,c2,ca,cf⟩).h,dQ (zQf w h ⟨c0,c1,c2,ca,cf⟩).so,dK g.a,dK g.b,dK g.c,dK g.al,dK g.f,dJ a.w,dJ a.h,dJ a.s,dS a.n a.xs,dJ b.w,dJ b.h,dJ b.s,dS b.n b.xs,dJ d.w,dJ d.h,dJ d.s,dS d.n d.xs,dJ e.w,dJ e.h,dJ e.s,dS e.n e.xs,dJ f.w,dJ f.h,dJ f.s,dS f.n f.xs]))) ?_
  delta tU7 dJ dK dQ dS
  simp only [sS,zQT,zQC,zQK,zQH,zQP,zQQ,zQ4,zJv]
  simp [zQf,Pl.none,Px.zero]
end
section
attribute [local go_sem] Oper.semAt_some
theorem jQB {w:World} {a b:Bool × List DV} {l:Array Value} (h:zHO w [a,b] l.toList):∃ x y,l=#[x,y]∧jZv w a x∧jZv w b y:=by
 obtain ⟨l⟩:=l
 match l,h with
 | [x,y],h=>exact ⟨x,y,rfl,h.1,h.2.1⟩
theorem zGA {w:World} {n:Int} {v:Value} (h:jZv w (true,[.int .i64 n]) v):∃ g,v=.pointer (some ⟨g,0,none⟩)∧w.cell? ⟨g,0,none⟩=some (.int .i64 n):=by
 obtain ⟨g,e,h⟩:=h
 obtain ⟨u,hu,hc⟩:=h 0 _ rfl
 simp [DV.plain] at hu
 subst hu
 exact ⟨g,e,hc⟩
theorem RoundIn.any {n:Nat} {P:Program} {l:Nat} {f:FuncId} {tmps:Array Value} {assign body:Code} {w:World} {R:Ending→World→Prop} (h:RoundIn Fence.wide n P l f tmps assign body w R) (m:Nat):RoundIn Fence.wide m P l f tmps assign body w R:=
 ⟨h.1,fun c cs _=>h.2 c cs (room_wide _)⟩
set_option maxRecDepth 100000 in
set_option maxHeartbeats 2000000 in
theorem zWp (h w:Int) (hh:h≤16777216) (hw:w≤16777216):AnsI prog 128 [(true,[DV.int .i64 h]),(true,[DV.int .i64 w])] (w.toNat*h.toNat) (fun k=>[DV.int .i64 ((k % w.toNat:Nat):Int),DV.int .i64 ((k / w.toNat:Nat):Int)]):=by
 intro lb l m J Jx hcap hd hdx hround W hJ
 obtain ⟨a,b,rfl,ha,hb⟩:=jQB (hcap 0 W hJ)
 obtain ⟨gh,rfl,hch⟩:=zGA ha
 obtain ⟨gw,rfl,hcw⟩:=zGA hb
 have hc:∀ k W,J k W→W.cell? ⟨gh,0,none⟩=some (.int .i64 h)∧W.cell? ⟨gw,0,none⟩=some (.int .i64 w):=fun k W hk=>by
  obtain ⟨a,b,e,ha,hb⟩:=jQB (hcap k W hk)
  obtain ⟨g1,rfl,h1⟩:=zGA ha
  obtain ⟨g2,rfl,h2⟩:=zGA hb
  simp at e
  obtain ⟨rfl,rfl⟩:=e
  exact ⟨h1,h2⟩
 refine callsIn_of_wp Tryz.func128 rfl trivial ?_ rfl
 simp only [Tryz.ntmps128,List.size_toArray,List.length_cons,List.length_nil,Nat.reduceAdd,Nat.reduceSub,Array.replicate_succ,Array.replicate_zero,List.push_toArray,List.append_toArray,List.nil_append,List.cons_append]
 gi_wp2
 gi_loopg [7] (h.toNat) (fun g t7 wr=>∃ y:Nat,y≤h.toNat∧g=h.toNat - y∧t7=.int .i64 (y:Int)∧J (y*w.toNat) wr)
 case atStart=>exact ⟨0,by omega,by omega,rfl,by simpa using hJ⟩
 obtain ⟨y,hy,rfl,rfl,hJy⟩:=hrel
 have hc1:=(hc _ _ hJy).1
 have hc2:=(hc _ _ hJy).2
 by_cases hlt:(y:Int) < h
 ·gi_wp2
  gi_loopg [11] (w.toNat) (fun g t11 wr=>∃ x:Nat,x≤w.toNat∧g=w.toNat - x∧t11=.int .i64 (x:Int)∧J (y*w.toNat+x) wr)
  case atStart=>exact ⟨0,by omega,by omega,rfl,hJy⟩
  obtain ⟨x,hx,rfl,rfl,hJx⟩:=hrel
  by_cases hlx:(x:Int) < w
  ·have hW:0 < w.toNat:=by omega
   have hk:y*w.toNat+x < w.toNat*h.toNat:=by
    have h1:(y+1)*w.toNat≤h.toNat*w.toNat:=Nat.mul_le_mul_right _ (by omega)
    rw [Nat.mul_comm w.toNat,Nat.add_mul] at *
    omega
   have e1:(y*w.toNat+x) % w.toNat=x:=by rw [Nat.add_comm,Nat.add_mul_mod_self_right,Nat.mod_eq_of_lt (by omega)]
   have e2:(y*w.toNat+x) / w.toNat=y:=by rw [Nat.add_comm,Nat.add_mul_div_right _ _ hW,Nat.div_eq_of_lt (by omega),Nat.zero_add]
   have hY:=hround _ _ hk hJx
   simp only [e1,e2,zWW,List.map_cons,List.map_nil,DV.plain,Option.getD_some] at hY
   obtain ⟨f1,t1,a1,b1,hy1,hR1⟩:=hY
   gi_wp2
   refine ⟨fun h=>by (cases h),(RoundIn.any hR1 _).mono ?_⟩
   rintro e W1 (⟨rfl,hJ1⟩ | ⟨rfl,hx1⟩)
   ·have w1:IntKind.wrap .i64 ((x:Int)+1)=((x+1:Nat):Int):=by rw [IntWalk.i64_in _ ⟨by omega,by omega⟩]; omega
    gi_wp2
    gi_roundg (w.toNat - (x+1))
    ·exact ⟨x+1,by omega,rfl,by simp,hJ1⟩
    ·omega
   ·gi_wp2
    refine bodyPost_ret (results_none rfl _ _ _) rfl ?_
    exact ⟨⟨_,rfl⟩,.inr hx1⟩
  ·gi_wp2
   gi_roundg (h.toNat - (y+1))
   ·have hx':x=w.toNat:=by omega
    exact ⟨y+1,by omega,rfl,by simp,by rw [Nat.add_mul,Nat.one_mul]; rw [hx'] at hJx; exact hJx⟩
   ·omega
 ·have hy':y=h.toNat:=by omega
  gi_wp2
  go_end0
  exact ⟨⟨_,rfl⟩,.inl (by rw [Nat.mul_comm,← hy']; exact hJy)⟩
end
section
attribute [local irreducible] Ans AnsO AnsG AnsN AnsI
theorem zX0 (w h:Int):AnsG prog 100 0 [aJ ((w)),aJ ((h))] [] ⟨AV.one (Cl.clo 128 [Cap.ptr 0 0,Cap.ptr 1 0]),[bC [cJ (h)],bC [cJ (w)]],false⟩:=
 zQx (Γ:=gamI) Ann.leaf zQB Tryz.func100 rfl (Nat.le_of_ble_eq_true rfl) rfl fun hwf hbx=>by
  refine Eq.mpr (by kernel_rfl:_=(tU5 (((((0=0)∧(0=0)∧True)∧True)∧(([dJ h]=[dJ h])∧([dJ w]=[dJ w])∧True))∧zQl ⟨AV.one (Cl.clo 128 [Cap.ptr 0 0,Cap.ptr 1 0]),[bC [cJ h],bC [cJ w]],false⟩))) ?_
  delta tU5 dJ cJ bC
  simp only [sS,zQT,zQC,zQK,zQO,zQH,zQP,zQQ,zQ4]
  simp [zQl]
theorem zWI (w h:Int) (so:Bool) (c0 c1 c2 ca cf w0 h0 s0:Int) (n0:Nat) (xs0:List DV) (w1 h1 s1:Int) (n1:Nat) (xs1:List DV) (w2 h2 s2:Int) (n2:Nat) (xs2:List DV) (w3 h3 s3:Int) (n3:Nat) (xs3:List DV) (w4 h4 s4:Int) (n4:Nat) (xs4:List DV) (most:Int) (hu:Im.isU ⟨w,h,so,⟨c0,c1,c2,ca,cf⟩,⟨w0,h0,s0,n0,xs0⟩,⟨w1,h1,s1,n1,xs1⟩,⟨w2,h2,s2,n2,xs2⟩,⟨w3,h3,s3,n3,xs3⟩,⟨w4,h4,s4,n4,xs4⟩⟩):Ans prog 94 [RV.agg [dJ w,dJ h,dQ so,dK c0,dK c1,dK c2,dK ca,dK cf,dJ w0,dJ h0,dJ s0,dS n0 xs0,dJ w1,dJ h1,dJ s1,dS n1 xs1,dJ w2,dJ h2,dJ s2,dS n2 xs2,dJ w3,dJ h3,dJ s3,dS n3 xs3,dJ w4,dJ h4,dJ s4,dS n4 xs4],RV.d (dK most)] (rJ ((Im.valid ⟨w,h,so,⟨c0,c1,c2,ca,cf⟩,⟨w0,h0,s0,n0,xs0⟩,⟨w1,h1,s1,n1,xs1⟩,⟨w2,h2,s2,n2,xs2⟩,⟨w3,h3,s3,n3,xs3⟩,⟨w4,h4,s4,n4,xs4⟩⟩ most))):=
 zQm (Γ:=gamI) (Ann.seq Ann.leaf (Ann.seq Ann.leaf (Ann.seq Ann.leaf (Ann.seq (Ann.seq Ann.leaf (Ann.range ⟨Nat,fun k=>k≤(w.toNat*h.toNat)∧Im.okTo ⟨w,h,so,⟨c0,c1,c2,ca,cf⟩,⟨w0,h0,s0,n0,xs0⟩,⟨w1,h1,s1,n1,xs1⟩,⟨w2,h2,s2,n2,xs2⟩,⟨w3,h3,s3,n3,xs3⟩,⟨w4,h4,s4,n4,xs4⟩⟩ most k=true,fun k=>⟨[(2,AV.one (Cl.ptr 2 0)),(3,AV.one (Cl.ptr 3 0)),(4,AV.one (Cl.ptr 4 0)),(24,AV.one (Cl.clo 128 [Cap.ptr 1024 0,Cap.ptr 2024 0]))],[(2,bC [cJ w,cJ h,Cl.d (dQ so),cK c0,cK c1,cK c2,cK ca,cK cf,cJ w0,cJ h0,cJ s0,Cl.d (dS n0 xs0),cJ w1,cJ h1,cJ s1,Cl.d (dS n1 xs1),cJ w2,cJ h2,cJ s2,Cl.d (dS n2 xs2),cJ w3,cJ h3,cJ s3,Cl.d (dS n3 xs3),cJ w4,cJ h4,cJ s4,Cl.d (dS n4 xs4)]),(3,bC [cK most]),(4,bC [cJ 0]),(1024,bC [cJ h]),(2024,bC [cJ w])]⟩,fun k=>k⟩ [2,3,4,24] (fun k=>Ann.leaf) (fun k=>Ann.leaf))) Ann.leaf)))) zQB Tryz.func94 rfl (Nat.le_of_ble_eq_true rfl) fun hwf=>by
  refine Eq.mpr (by kernel_rfl:_=(let i:=[(true,[dJ h]),(true,[dJ w])]; let d:=(w.toNat*h.toNat); let g:=[dJ w,dJ h,dQ so,dK c0,dK c1,dK c2,dK ca,dK cf,dJ w0,dJ h0,dJ s0,dS n0 xs0,dJ w1,dJ h1,dJ s1,dS n1 xs1,dJ w2,dJ h2,dJ s2,dS n2 xs2,dJ w3,dJ h3,dJ s3,dS n3 xs3,dJ w4,dJ h4,dJ s4,dS n4 xs4]; let n:=(Im.shape ⟨w,h,so,⟨c0,c1,c2,ca,cf⟩,⟨w0,h0,s0,n0,xs0⟩,⟨w1,h1,s1,n1,xs1⟩,⟨w2,h2,s2,n2,xs2⟩,⟨w3,h3,s3,n3,xs3⟩,⟨w4,h4,s4,n4,xs4⟩⟩); let o:=(dJ n); let p:=(n != 0); let e:=(dJ (Im.valid ⟨w,h,so,⟨c0,c1,c2,ca,cf⟩,⟨w0,h0,s0,n0,xs0⟩,⟨w1,h1,s1,n1,xs1⟩,⟨w2,h2,s2,n2,xs2⟩,⟨w3,h3,s3,n3,xs3⟩,⟨w4,h4,s4,n4,xs4⟩⟩ most)); let j:=(Px.ok ⟨c0,c1,c2,ca,cf⟩ most); let l:=fun (_k:Nat)=>[dJ ((_k % w.toNat:Nat):Int),dJ ((_k / w.toNat:Nat):Int)]; let q:=fun (k:Nat)=>(k≤d∧Im.okTo ⟨w,h,so,⟨c0,c1,c2,ca,cf⟩,⟨w0,h0,s0,n0,xs0⟩,⟨w1,h1,s1,n1,xs1⟩,⟨w2,h2,s2,n2,xs2⟩,⟨w3,h3,s3,n3,xs3⟩,⟨w4,h4,s4,n4,xs4⟩⟩ most k=true); let r:=(((0=0)∧(0=0)∧(0=0)∧((0=0)∧(0=0)∧True)∧True)∧((g=g)∧([dK most]=[dK most])∧([dJ 0]=[dJ 0])∧([dJ h]=[dJ h])∧([dJ w]=[dJ w])∧True)); let s:=fun (k:Nat)=>[dK (Im.px ⟨w,h,so,⟨c0,c1,c2,ca,cf⟩,⟨w0,h0,s0,n0,xs0⟩,⟨w1,h1,s1,n1,xs1⟩,⟨w2,h2,s2,n2,xs2⟩,⟨w3,h3,s3,n3,xs3⟩,⟨w4,h4,s4,n4,xs4⟩⟩ ((k % w.toNat:Nat):Int) ((k / w.toNat:Nat):Int)).a,dK (Im.px ⟨w,h,so,⟨c0,c1,c2,ca,cf⟩,⟨w0,h0,s0,n0,xs0⟩,⟨w1,h1,s1,n1,xs1⟩,⟨w2,h2,s2,n2,xs2⟩,⟨w3,h3,s3,n3,xs3⟩,⟨w4,h4,s4,n4,xs4⟩⟩ ((k % w.toNat:Nat):Int) ((k / w.toNat:Nat):Int)).b,dK (Im.px ⟨w,h,so,⟨c0,c1,c2,ca,cf⟩,⟨w0,h0,s0,n0,xs0⟩,⟨w1,h1,s1,n1,xs1⟩,⟨w2,h2,s2,n2,xs2⟩,⟨w3,h3,s3,n3,xs3⟩,⟨w4,h4,s4,n4,xs4⟩⟩ ((k % w.toNat:Nat):Int) ((k / w.toNat:Nat):Int)).c,dK (Im.px ⟨w,h,so,⟨c0,c1,c2,ca,cf⟩,⟨w0,h0,s0,n0,xs0⟩,⟨w1,h1,s1,n1,xs1⟩,⟨w2,h2,s2,n2,xs2⟩,⟨w3,h3,s3,n3,xs3⟩,⟨w4,h4,s4,n4,xs4⟩⟩ ((k % w.toNat:Nat):Int) ((k / w.toNat:Nat):Int)).al,dK (Im.px ⟨w,h,so,⟨c0,c1,c2,ca,cf⟩,⟨w0,h0,s0,n0,xs0⟩,⟨w1,h1,s1,n1,xs1⟩,⟨w2,h2,s2,n2,xs2⟩,⟨w3,h3,s3,n3,xs3⟩,⟨w4,h4,s4,n4,xs4⟩⟩ ((k % w.toNat:Nat):Int) ((k / w.toNat:Nat):Int)).f]; tU4 ((Ans prog 121 [RV.agg g] (RV.d o))∧tU3 ((p=true→tU2 (RV.d o=RV.d e))∧(p=false→tU2 ((so=true→tU3 ((Ans prog 122 [RV.agg [dK c0,dK c1,dK c2,dK ca,dK cf],RV.d (dK most)] (RV.d (dQ j)))∧True∧(((!j)=true→True∧rJ 8=RV.d e)∧((!j)=false→True∧rJ 0=RV.d e))))∧(so=false→tU4 ((AnsG prog 100 0 [aJ w,aJ h] [] ⟨AV.one (Cl.clo 128 [Cap.ptr 0 0,Cap.ptr 1 0]),[bC [cJ h],bC [cJ w]],false⟩)∧(AnsI prog 128 i d (fun _k=>(l _k)))∧(∀ _k,_k < d→(l _k).length=2∧zJI (l _k))∧(∃ k:Nat,(q k)∧(k=0)∧r)∧(∀ k:Nat,let m:=(Px.ok (Im.px ⟨w,h,so,⟨c0,c1,c2,ca,cf⟩,⟨w0,h0,s0,n0,xs0⟩,⟨w1,h1,s1,n1,xs1⟩,⟨w2,h2,s2,n2,xs2⟩,⟨w3,h3,s3,n3,xs3⟩,⟨w4,h4,s4,n4,xs4⟩⟩ ((k % w.toNat:Nat):Int) ((k / w.toNat:Nat):Int)) most); (q k)→((some i:Option (List (Bool × List DV)))=some i)∧(k < d→tU5 ((Ans prog 101 [RV.agg g,rJ ((k % w.toNat:Nat):Int),rJ ((k / w.toNat:Nat):Int)] (RV.agg (s k)))∧True∧(Ans prog 122 [RV.agg (s k),RV.d (dK most)] (RV.d (dQ m)))∧True∧(true=true)∧(((!m)=true→True∧rJ 8=RV.d e)∧((!m)=false→∃ k':Nat,(k'≤d∧Im.okTo ⟨w,h,so,⟨c0,c1,c2,ca,cf⟩,⟨w0,h0,s0,n0,xs0⟩,⟨w1,h1,s1,n1,xs1⟩,⟨w2,h2,s2,n2,xs2⟩,⟨w3,h3,s3,n3,xs3⟩,⟨w4,h4,s4,n4,xs4⟩⟩ most k'=true)∧(k'=k+1)∧r))))∧(k=d→True∧rJ 0=RV.d e)))))))))) ?_
  delta tU2 tU3 tU4 tU5 dJ dK dQ cJ dS rJ aJ bC
  simp only [sS,zQT,zQC,zQK,zQO,zQH,zQP,zQQ,zQ4,zX0]
  obtain ⟨m,hm⟩:∃ m:Im,m=⟨w,h,so,⟨c0,c1,c2,ca,cf⟩,⟨w0,h0,s0,n0,xs0⟩,⟨w1,h1,s1,n1,xs1⟩,⟨w2,h2,s2,n2,xs2⟩,⟨w3,h3,s3,n3,xs3⟩,⟨w4,h4,s4,n4,xs4⟩⟩:=⟨_,rfl⟩
  have pix:=fun (x y:Int) (hf:Im.inner ⟨w,h,so,⟨c0,c1,c2,ca,cf⟩,⟨w0,h0,s0,n0,xs0⟩,⟨w1,h1,s1,n1,xs1⟩,⟨w2,h2,s2,n2,xs2⟩,⟨w3,h3,s3,n3,xs3⟩,⟨w4,h4,s4,n4,xs4⟩⟩=true) hx hy=>zJu w h so c0 c1 c2 ca cf w0 h0 s0 n0 xs0 w1 h1 s1 n1 xs1 w2 h2 s2 n2 xs2 w3 h3 s3 n3 xs3 w4 h4 s4 n4 xs4 x y hu hf hx hy
  have ew:w=m.w:=by rw [hm]
  have eh:h=m.h:=by rw [hm]
  have es:so=m.so:=by rw [hm]
  have ec:(⟨c0,c1,c2,ca,cf⟩:Px)=m.c:=by rw [hm]
  rw [← hm] at pix hu
  simp only [← hm]
  refine ⟨fun q1=>(Im.valid_shape _ (by simpa using q1)).symm,fun q1=>?_⟩
  have q1:m.shape=0:=by simpa using q1
  obtain ⟨qf,qi⟩:=Im.shape_zero q1
  obtain ⟨f1,f2,f3,f4,f5⟩:=zZ7 qf
  refine ⟨fun hs=>?_,fun hs=>?_⟩
  ·rw [Im.valid_solid q1 (es ▸ hs),ec]
   cases m.c.ok most <;> simp
  ·rw [Im.valid_planes q1 (es ▸ hs),ew,eh]
   refine ⟨zWp m.h m.w f4 f3,jQ6 qf,⟨0,⟨Nat.zero_le _,rfl⟩,rfl⟩,fun k hk=>⟨fun hlt=>?_,fun he=>?_⟩⟩
   ·have hin:=Im.nth_in qf hlt
    have hs1:=Im.okTo_succ m most k
    have hle:=fun hn=>Im.okTo_le (m:=m) (most:=most) (k:=k+1) (n:=m.w.toNat*m.h.toNat) (by omega) hn
    rw [ew,eh] at pix
    refine ⟨pix _ _ qi hin.1 hin.2,zQO _ _ _ _ _ _,fun hb=>?_,fun hb=>⟨k+1,⟨by omega,?_⟩,rfl⟩⟩
    ·have hb:(m.nth k).ok most=false:=hb
     have:¬ m.okTo most (m.w.toNat*m.h.toNat)=true:=fun hn=>by
      have:=hle hn
      rw [hs1,hb] at this
      simp at this
     rw [if_neg this]
    ·have hb:(m.nth k).ok most=true:=hb
     rw [hs1,hk.2,hb]; rfl
   ·rw [← he,if_pos hk.2]
theorem zVQ (w h:Int) (so:Bool) (c0 c1 c2 ca cf w0 h0 s0:Int) (n0:Nat) (xs0:List DV) (w1 h1 s1:Int) (n1:Nat) (xs1:List DV) (w2 h2 s2:Int) (n2:Nat) (xs2:List DV) (w3 h3 s3:Int) (n3:Nat) (xs3:List DV) (w4 h4 s4:Int) (n4:Nat) (xs4:List DV) (hu:Im.isU ⟨w,h,so,⟨c0,c1,c2,ca,cf⟩,⟨w0,h0,s0,n0,xs0⟩,⟨w1,h1,s1,n1,xs1⟩,⟨w2,h2,s2,n2,xs2⟩,⟨w3,h3,s3,n3,xs3⟩,⟨w4,h4,s4,n4,xs4⟩⟩):AnsO prog 61 [RV.agg [dJ w,dJ h,dQ so,dK c0,dK c1,dK c2,dK ca,dK cf,dJ w0,dJ h0,dJ s0,dS n0 xs0,dJ w1,dJ h1,dJ s1,dS n1 xs1,dJ w2,dJ h2,dJ s2,dS n2 xs2,dJ w3,dJ h3,dJ s3,dS n3 xs3,dJ w4,dJ h4,dJ s4,dS n4 xs4]] 37 5 ((Im.pixels ⟨w,h,so,⟨c0,c1,c2,ca,cf⟩,⟨w0,h0,s0,n0,xs0⟩,⟨w1,h1,s1,n1,xs1⟩,⟨w2,h2,s2,n2,xs2⟩,⟨w3,h3,s3,n3,xs3⟩,⟨w4,h4,s4,n4,xs4⟩⟩).length) (pxs (Im.pixels ⟨w,h,so,⟨c0,c1,c2,ca,cf⟩,⟨w0,h0,s0,n0,xs0⟩,⟨w1,h1,s1,n1,xs1⟩,⟨w2,h2,s2,n2,xs2⟩,⟨w3,h3,s3,n3,xs3⟩,⟨w4,h4,s4,n4,xs4⟩⟩)):=
 zKa (t:=2) (Γ:=gamI) (Ann.seq Ann.leaf (Ann.seq Ann.leaf (Ann.seq Ann.leaf (Ann.seq (Ann.seq Ann.leaf (Ann.range ⟨Nat,fun k=>k≤(w.toNat*h.toNat),fun k=>⟨[(1,AV.one (Cl.ptr 1 0)),(3,AV.one (Cl.ptr 3 0)),(19,AV.one (Cl.clo 128 [Cap.ptr 1019 0,Cap.ptr 2019 0]))],[(1,bC [cJ w,cJ h,Cl.d (dQ so),cK c0,cK c1,cK c2,cK ca,cK cf,cJ w0,cJ h0,cJ s0,Cl.d (dS n0 xs0),cJ w1,cJ h1,cJ s1,Cl.d (dS n1 xs1),cJ w2,cJ h2,cJ s2,Cl.d (dS n2 xs2),cJ w3,cJ h3,cJ s3,Cl.d (dS n3 xs3),cJ w4,cJ h4,cJ s4,Cl.d (dS n4 xs4)]),(3,bC [Cl.ref 5000 k]),(1019,bC [cJ h]),(2019,bC [cJ w]),(5000,Bx.row 37 5 (pxs (Im.list ⟨w,h,so,⟨c0,c1,c2,ca,cf⟩,⟨w0,h0,s0,n0,xs0⟩,⟨w1,h1,s1,n1,xs1⟩,⟨w2,h2,s2,n2,xs2⟩,⟨w3,h3,s3,n3,xs3⟩,⟨w4,h4,s4,n4,xs4⟩⟩ k)))]⟩,fun k=>k⟩ [1,3,19] (fun k=>Ann.leaf) (fun k=>Ann.leaf))) Ann.leaf)))) zQB Tryz.func61 rfl (Nat.le_of_ble_eq_true rfl) rfl fun hwf=>by
  refine Eq.mpr (by kernel_rfl:_=(let i:=[(true,[dJ h]),(true,[dJ w])]; let d:=(w.toNat*h.toNat); let g:=[dJ w,dJ h,dQ so,dK c0,dK c1,dK c2,dK ca,dK cf,dJ w0,dJ h0,dJ s0,dS n0 xs0,dJ w1,dJ h1,dJ s1,dS n1 xs1,dJ w2,dJ h2,dJ s2,dS n2 xs2,dJ w3,dJ h3,dJ s3,dS n3 xs3,dJ w4,dJ h4,dJ s4,dS n4 xs4]; let j:=(Im.formed ⟨w,h,so,⟨c0,c1,c2,ca,cf⟩,⟨w0,h0,s0,n0,xs0⟩,⟨w1,h1,s1,n1,xs1⟩,⟨w2,h2,s2,n2,xs2⟩,⟨w3,h3,s3,n3,xs3⟩,⟨w4,h4,s4,n4,xs4⟩⟩); let e:=(Im.pixels ⟨w,h,so,⟨c0,c1,c2,ca,cf⟩,⟨w0,h0,s0,n0,xs0⟩,⟨w1,h1,s1,n1,xs1⟩,⟨w2,h2,s2,n2,xs2⟩,⟨w3,h3,s3,n3,xs3⟩,⟨w4,h4,s4,n4,xs4⟩⟩); let l:=fun (_k:Nat)=>[dJ ((_k % w.toNat:Nat):Int),dJ ((_k / w.toNat:Nat):Int)]; let o:=((0=0)∧(0=0)∧((0=0)∧(0=0)∧True)∧True); let p:=(g=g); let q:=([dJ h]=[dJ h]); let r:=([dJ w]=[dJ w]); let m:=fun (k:Nat)=>(Im.list ⟨w,h,so,⟨c0,c1,c2,ca,cf⟩,⟨w0,h0,s0,n0,xs0⟩,⟨w1,h1,s1,n1,xs1⟩,⟨w2,h2,s2,n2,xs2⟩,⟨w3,h3,s3,n3,xs3⟩,⟨w4,h4,s4,n4,xs4⟩⟩ k); let n:=fun (k:Nat)=>[dK (Im.px ⟨w,h,so,⟨c0,c1,c2,ca,cf⟩,⟨w0,h0,s0,n0,xs0⟩,⟨w1,h1,s1,n1,xs1⟩,⟨w2,h2,s2,n2,xs2⟩,⟨w3,h3,s3,n3,xs3⟩,⟨w4,h4,s4,n4,xs4⟩⟩ ((k % w.toNat:Nat):Int) ((k / w.toNat:Nat):Int)).a,dK (Im.px ⟨w,h,so,⟨c0,c1,c2,ca,cf⟩,⟨w0,h0,s0,n0,xs0⟩,⟨w1,h1,s1,n1,xs1⟩,⟨w2,h2,s2,n2,xs2⟩,⟨w3,h3,s3,n3,xs3⟩,⟨w4,h4,s4,n4,xs4⟩⟩ ((k % w.toNat:Nat):Int) ((k / w.toNat:Nat):Int)).b,dK (Im.px ⟨w,h,so,⟨c0,c1,c2,ca,cf⟩,⟨w0,h0,s0,n0,xs0⟩,⟨w1,h1,s1,n1,xs1⟩,⟨w2,h2,s2,n2,xs2⟩,⟨w3,h3,s3,n3,xs3⟩,⟨w4,h4,s4,n4,xs4⟩⟩ ((k % w.toNat:Nat):Int) ((k / w.toNat:Nat):Int)).c,dK (Im.px ⟨w,h,so,⟨c0,c1,c2,ca,cf⟩,⟨w0,h0,s0,n0,xs0⟩,⟨w1,h1,s1,n1,xs1⟩,⟨w2,h2,s2,n2,xs2⟩,⟨w3,h3,s3,n3,xs3⟩,⟨w4,h4,s4,n4,xs4⟩⟩ ((k % w.toNat:Nat):Int) ((k / w.toNat:Nat):Int)).al,dK (Im.px ⟨w,h,so,⟨c0,c1,c2,ca,cf⟩,⟨w0,h0,s0,n0,xs0⟩,⟨w1,h1,s1,n1,xs1⟩,⟨w2,h2,s2,n2,xs2⟩,⟨w3,h3,s3,n3,xs3⟩,⟨w4,h4,s4,n4,xs4⟩⟩ ((k % w.toNat:Nat):Int) ((k / w.toNat:Nat):Int)).f]; let s:=fun (k:Nat)=>(pxs (m k)); tU3 ((Ans prog 99 [RV.agg g] (RV.d (dQ j)))∧True∧(((!j)=true→True∧e.length=0∧pxs e=[])∧((!j)=false→tU5 ((0≤(0:Int)∧(0:Int)≤wK (w*h)∧wK (w*h)≤(maxLen:Int)∧((10:Nat):Int)*(wK (w*h))≤281474976710656)∧tU6 ((AnsG prog 100 0 [aJ w,aJ h] [] ⟨AV.one (Cl.clo 128 [Cap.ptr 0 0,Cap.ptr 1 0]),[bC [cJ h],bC [cJ w]],false⟩)∧(AnsI prog 128 i d (fun _k=>(l _k)))∧(∀ _k,_k < d→(l _k).length=2∧zJI (l _k))∧(∃ k:Nat,(k≤d)∧(k=0)∧(o∧(p∧(((0:Int).toNat=k)∧True)∧q∧r∧(repl (0:Int).toNat [dK 0,dK 0,dK 0,dK 0,dK 0]=pxs (m k))∧True)))∧(∀ k:Nat,(k≤d)→((some i:Option (List (Bool × List DV)))=some i)∧(k < d→tU6 ((Ans prog 101 [RV.agg g,rJ ((k % w.toNat:Nat):Int),rJ ((k / w.toNat:Nat):Int)] (RV.agg (n k)))∧True∧(zZW 5 10 k 1 (s k) (n k))∧True∧(true=true)∧∃ k':Nat,(k'≤d)∧(k'=k+1)∧(o∧(p∧((k+1=k')∧True)∧q∧r∧((s k)++(n k)=pxs (Im.list ⟨w,h,so,⟨c0,c1,c2,ca,cf⟩,⟨w0,h0,s0,n0,xs0⟩,⟨w1,h1,s1,n1,xs1⟩,⟨w2,h2,s2,n2,xs2⟩,⟨w3,h3,s3,n3,xs3⟩,⟨w4,h4,s4,n4,xs4⟩⟩ k'))∧True))))∧(k=d→tU2 ((37=37∧5=5)∧(pxs e).length=e.length*5∧k=e.length∧pxs (m k)=pxs e)))))))))) ?_
  delta tU2 tU3 tU5 tU6 dJ dK dQ cJ wK dS rJ aJ bC
  simp only [sS,zQT,zQC,zQK,zQO,zQH,zQP,zQQ,zQ4,zX0]
  obtain ⟨m,hm⟩:∃ m:Im,m=⟨w,h,so,⟨c0,c1,c2,ca,cf⟩,⟨w0,h0,s0,n0,xs0⟩,⟨w1,h1,s1,n1,xs1⟩,⟨w2,h2,s2,n2,xs2⟩,⟨w3,h3,s3,n3,xs3⟩,⟨w4,h4,s4,n4,xs4⟩⟩:=⟨_,rfl⟩
  have pix:=fun (x y:Int) (hf:Im.inner ⟨w,h,so,⟨c0,c1,c2,ca,cf⟩,⟨w0,h0,s0,n0,xs0⟩,⟨w1,h1,s1,n1,xs1⟩,⟨w2,h2,s2,n2,xs2⟩,⟨w3,h3,s3,n3,xs3⟩,⟨w4,h4,s4,n4,xs4⟩⟩=true) hx hy=>zJu w h so c0 c1 c2 ca cf w0 h0 s0 n0 xs0 w1 h1 s1 n1 xs1 w2 h2 s2 n2 xs2 w3 h3 s3 n3 xs3 w4 h4 s4 n4 xs4 x y hu hf hx hy
  have ew:w=m.w:=by rw [hm]
  have eh:h=m.h:=by rw [hm]
  have es:so=m.so:=by rw [hm]
  have ec:(⟨c0,c1,c2,ca,cf⟩:Px)=m.c:=by rw [hm]
  rw [← hm] at pix hu
  simp only [← hm]
  have p0:m.formed=false→m.pixels=[]:=fun h=>by simp [Im.pixels,h]
  have fx:m.formed=true→zQZ m.w m.h=true∧m.inner=true:=Im.formed_of
  rw [ew,eh] at pix
  rw [ew,eh]
  refine ⟨fun q1=>by rw [p0 q1]; exact ⟨rfl,rfl⟩,fun q1=>?_⟩
  obtain ⟨qf,qi⟩:=fx q1
  obtain ⟨f1,f2,f3,f4,f5⟩:=zZ7 qf
  obtain ⟨n1,n2⟩:=Im.count_le qf
  have wm:IntKind.wrap .i64 (m.w*m.h)=m.w*m.h:=IntWalk.i64_in _ ⟨by omega,by omega⟩
  rw [wm]
  refine ⟨⟨by omega,by omega,by unfold maxLen; omega,by omega⟩,zWp m.h m.w f4 f3,jQ6 qf,⟨0,Nat.zero_le _,rfl,rfl,rfl⟩,fun k hk=>⟨fun hlt=>?_,fun he=>?_⟩⟩
  ·have hin:=Im.nth_in qf hlt
   refine ⟨pix _ _ qi hin.1 hin.2,⟨by rw [zZU,Im.list_len],rfl,by unfold maxLen; omega,by omega⟩,k+1,by omega,rfl,rfl,?_⟩
   exact Im.pxs_succ m k
  ·rw [Im.pixels_of q1,he,Im.list_len,zZU,Im.list_len]
   exact ⟨rfl,rfl,rfl⟩
theorem zKc (w h:Int) (so:Bool) (c0 c1 c2 ca cf w0 h0 s0:Int) (n0:Nat) (xs0:List DV) (w1 h1 s1:Int) (n1:Nat) (xs1:List DV) (w2 h2 s2:Int) (n2:Nat) (xs2:List DV) (w3 h3 s3:Int) (n3:Nat) (xs3:List DV) (w4 h4 s4:Int) (n4:Nat) (xs4:List DV) (hu:Im.isU ⟨w,h,so,⟨c0,c1,c2,ca,cf⟩,⟨w0,h0,s0,n0,xs0⟩,⟨w1,h1,s1,n1,xs1⟩,⟨w2,h2,s2,n2,xs2⟩,⟨w3,h3,s3,n3,xs3⟩,⟨w4,h4,s4,n4,xs4⟩⟩):AnsO prog 33 [RV.agg [dJ w,dJ h,dQ so,dK c0,dK c1,dK c2,dK ca,dK cf,dJ w0,dJ h0,dJ s0,dS n0 xs0,dJ w1,dJ h1,dJ s1,dS n1 xs1,dJ w2,dJ h2,dJ s2,dS n2 xs2,dJ w3,dJ h3,dJ s3,dS n3 xs3,dJ w4,dJ h4,dJ s4,dS n4 xs4]] 37 5 ((Im.pixels ⟨w,h,so,⟨c0,c1,c2,ca,cf⟩,⟨w0,h0,s0,n0,xs0⟩,⟨w1,h1,s1,n1,xs1⟩,⟨w2,h2,s2,n2,xs2⟩,⟨w3,h3,s3,n3,xs3⟩,⟨w4,h4,s4,n4,xs4⟩⟩).length) (pxs (Im.pixels ⟨w,h,so,⟨c0,c1,c2,ca,cf⟩,⟨w0,h0,s0,n0,xs0⟩,⟨w1,h1,s1,n1,xs1⟩,⟨w2,h2,s2,n2,xs2⟩,⟨w3,h3,s3,n3,xs3⟩,⟨w4,h4,s4,n4,xs4⟩⟩)):=
 zKa (t:=2) (Γ:=gamI) (let a:=fun (yy:Nat)=>(4,aJ (yy:Int)); let b:=(1,bC [cJ w,cJ h,Cl.d (dQ so),cK c0,cK c1,cK c2,cK ca,cK cf,cJ w0,cJ h0,cJ s0,Cl.d (dS n0 xs0),cJ w1,cJ h1,cJ s1,Cl.d (dS n1 xs1),cJ w2,cJ h2,cJ s2,Cl.d (dS n2 xs2),cJ w3,cJ h3,cJ s3,Cl.d (dS n3 xs3),cJ w4,cJ h4,cJ s4,Cl.d (dS n4 xs4)]); (Ann.seq Ann.leaf (Ann.seq Ann.leaf (Ann.seq Ann.leaf (Ann.seq (Ann.seq Ann.leaf (Ann.loop ⟨Nat,fun yy=>yy≤h.toNat,fun yy=>⟨[(1,AV.one (Cl.ptr 1 0)),(3,AV.one (Cl.ref 5000 (yy*w.toNat))),(a yy)],[b,(5000,Bx.row 37 5 (pxs (Im.list ⟨w,h,so,⟨c0,c1,c2,ca,cf⟩,⟨w0,h0,s0,n0,xs0⟩,⟨w1,h1,s1,n1,xs1⟩,⟨w2,h2,s2,n2,xs2⟩,⟨w3,h3,s3,n3,xs3⟩,⟨w4,h4,s4,n4,xs4⟩⟩ (yy*w.toNat))))]⟩,fun yy=>h.toNat - yy⟩ fun yy=>(Ann.seq Ann.leaf (Ann.seq (Ann.seq Ann.leaf (Ann.loop ⟨Nat,fun xx=>xx≤w.toNat,fun xx=>⟨[(1,AV.one (Cl.ptr 1 0)),(3,AV.one (Cl.ref 6000 (yy*w.toNat+xx))),(a yy),(5,aJ (xx:Int))],[b,(6000,Bx.row 37 5 (pxs (Im.list ⟨w,h,so,⟨c0,c1,c2,ca,cf⟩,⟨w0,h0,s0,n0,xs0⟩,⟨w1,h1,s1,n1,xs1⟩,⟨w2,h2,s2,n2,xs2⟩,⟨w3,h3,s3,n3,xs3⟩,⟨w4,h4,s4,n4,xs4⟩⟩ (yy*w.toNat+xx))))]⟩,fun xx=>w.toNat - xx⟩ fun xx=>Ann.leaf)) Ann.leaf)))) Ann.leaf))))) zQB Tryz.func33 rfl (Nat.le_of_ble_eq_true rfl) rfl fun hwf=>by
  refine Eq.mpr (by kernel_rfl:_=(let e:=[dJ w,dJ h,dQ so,dK c0,dK c1,dK c2,dK ca,dK cf,dJ w0,dJ h0,dJ s0,dS n0 xs0,dJ w1,dJ h1,dJ s1,dS n1 xs1,dJ w2,dJ h2,dJ s2,dS n2 xs2,dJ w3,dJ h3,dJ s3,dS n3 xs3,dJ w4,dJ h4,dJ s4,dS n4 xs4]; let i:=(Im.formed ⟨w,h,so,⟨c0,c1,c2,ca,cf⟩,⟨w0,h0,s0,n0,xs0⟩,⟨w1,h1,s1,n1,xs1⟩,⟨w2,h2,s2,n2,xs2⟩,⟨w3,h3,s3,n3,xs3⟩,⟨w4,h4,s4,n4,xs4⟩⟩); let d:=(Im.pixels ⟨w,h,so,⟨c0,c1,c2,ca,cf⟩,⟨w0,h0,s0,n0,xs0⟩,⟨w1,h1,s1,n1,xs1⟩,⟨w2,h2,s2,n2,xs2⟩,⟨w3,h3,s3,n3,xs3⟩,⟨w4,h4,s4,n4,xs4⟩⟩); let g:=(e=e); let j:=fun (yy:Nat)=>(Im.list ⟨w,h,so,⟨c0,c1,c2,ca,cf⟩,⟨w0,h0,s0,n0,xs0⟩,⟨w1,h1,s1,n1,xs1⟩,⟨w2,h2,s2,n2,xs2⟩,⟨w3,h3,s3,n3,xs3⟩,⟨w4,h4,s4,n4,xs4⟩⟩ (yy*w.toNat)); let m:=fun (yy:Nat)=>(dJ (yy:Int)=dJ (yy:Int)); let k:=fun (yy:Nat)=>fun (xx:Nat)=>(Im.list ⟨w,h,so,⟨c0,c1,c2,ca,cf⟩,⟨w0,h0,s0,n0,xs0⟩,⟨w1,h1,s1,n1,xs1⟩,⟨w2,h2,s2,n2,xs2⟩,⟨w3,h3,s3,n3,xs3⟩,⟨w4,h4,s4,n4,xs4⟩⟩ (yy*w.toNat+xx)); let l:=fun (yy:Nat)=>fun (xx:Nat)=>[dK (Im.px ⟨w,h,so,⟨c0,c1,c2,ca,cf⟩,⟨w0,h0,s0,n0,xs0⟩,⟨w1,h1,s1,n1,xs1⟩,⟨w2,h2,s2,n2,xs2⟩,⟨w3,h3,s3,n3,xs3⟩,⟨w4,h4,s4,n4,xs4⟩⟩ (xx:Int) (yy:Int)).a,dK (Im.px ⟨w,h,so,⟨c0,c1,c2,ca,cf⟩,⟨w0,h0,s0,n0,xs0⟩,⟨w1,h1,s1,n1,xs1⟩,⟨w2,h2,s2,n2,xs2⟩,⟨w3,h3,s3,n3,xs3⟩,⟨w4,h4,s4,n4,xs4⟩⟩ (xx:Int) (yy:Int)).b,dK (Im.px ⟨w,h,so,⟨c0,c1,c2,ca,cf⟩,⟨w0,h0,s0,n0,xs0⟩,⟨w1,h1,s1,n1,xs1⟩,⟨w2,h2,s2,n2,xs2⟩,⟨w3,h3,s3,n3,xs3⟩,⟨w4,h4,s4,n4,xs4⟩⟩ (xx:Int) (yy:Int)).c,dK (Im.px ⟨w,h,so,⟨c0,c1,c2,ca,cf⟩,⟨w0,h0,s0,n0,xs0⟩,⟨w1,h1,s1,n1,xs1⟩,⟨w2,h2,s2,n2,xs2⟩,⟨w3,h3,s3,n3,xs3⟩,⟨w4,h4,s4,n4,xs4⟩⟩ (xx:Int) (yy:Int)).al,dK (Im.px ⟨w,h,so,⟨c0,c1,c2,ca,cf⟩,⟨w0,h0,s0,n0,xs0⟩,⟨w1,h1,s1,n1,xs1⟩,⟨w2,h2,s2,n2,xs2⟩,⟨w3,h3,s3,n3,xs3⟩,⟨w4,h4,s4,n4,xs4⟩⟩ (xx:Int) (yy:Int)).f]; let n:=fun (yy:Nat)=>fun (xx:Nat)=>(pxs (k yy xx)); tU3 ((Ans prog 66 [RV.agg e] (RV.d (dQ i)))∧True∧(((!i)=true→True∧d.length=0∧pxs d=[])∧((!i)=false→tU2 ((∃ yy:Nat,(yy≤h.toNat)∧(((0=0)∧(0=yy*w.toNat)∧(dJ 0=dJ (yy:Int))∧True)∧(g∧([]=pxs (j yy))∧True)))∧∀ yy:Nat,(yy≤h.toNat)→tU4 (((decide ((yy:Int) < h))=true→True∧((∃ xx:Nat,(xx≤w.toNat)∧(((0=0)∧(yy*w.toNat=(yy*w.toNat+xx))∧(m yy)∧(dJ 0=dJ (xx:Int))∧True)∧(g∧(pxs (j yy)=pxs (k yy xx))∧True)))∧∀ xx:Nat,(xx≤w.toNat)→tU4 (((decide ((xx:Int) < w))=true→tU4 ((Ans prog 67 [RV.agg e,rJ (xx:Int),rJ (yy:Int)] (RV.agg (l yy xx)))∧True∧(zZW 5 10 (yy*w.toNat+xx) 1 (n yy xx) (l yy xx))∧tU4 (∃ xx':Nat,(xx'≤w.toNat)∧(w.toNat - xx' < w.toNat - xx)∧(((0=0)∧((yy*w.toNat+xx)+1=(yy*w.toNat+xx'))∧(m yy)∧(dJ (wK ((xx:Int)+1))=dJ (xx':Int))∧True)∧(g∧((n yy xx)++(l yy xx)=pxs (Im.list ⟨w,h,so,⟨c0,c1,c2,ca,cf⟩,⟨w0,h0,s0,n0,xs0⟩,⟨w1,h1,s1,n1,xs1⟩,⟨w2,h2,s2,n2,xs2⟩,⟨w3,h3,s3,n3,xs3⟩,⟨w4,h4,s4,n4,xs4⟩⟩ (yy*w.toNat+xx')))∧True)))))∧((decide ((xx:Int) < w))=false→tU3 (∃ yy':Nat,(yy'≤h.toNat)∧(h.toNat - yy' < h.toNat - yy)∧(((0=0)∧((yy*w.toNat+xx)=yy'*w.toNat)∧(dJ (wK ((yy:Int)+1))=dJ (yy':Int))∧True)∧(g∧(pxs (k yy xx)=pxs (Im.list ⟨w,h,so,⟨c0,c1,c2,ca,cf⟩,⟨w0,h0,s0,n0,xs0⟩,⟨w1,h1,s1,n1,xs1⟩,⟨w2,h2,s2,n2,xs2⟩,⟨w3,h3,s3,n3,xs3⟩,⟨w4,h4,s4,n4,xs4⟩⟩ (yy'*w.toNat)))∧True)))))))∧((decide ((yy:Int) < h))=false→tU2 ((37=37∧5=5)∧(pxs d).length=d.length*5∧yy*w.toNat=d.length∧pxs (j yy)=pxs d))))))))) ?_
  delta tU2 tU3 tU4 dJ dK dQ wK dS rJ
  simp only [sS,zQT,zQC,zQK,zQO,zQH,zQP,zQQ,zQ4,zX0]
  obtain ⟨m,hm⟩:∃ m:Im,m=⟨w,h,so,⟨c0,c1,c2,ca,cf⟩,⟨w0,h0,s0,n0,xs0⟩,⟨w1,h1,s1,n1,xs1⟩,⟨w2,h2,s2,n2,xs2⟩,⟨w3,h3,s3,n3,xs3⟩,⟨w4,h4,s4,n4,xs4⟩⟩:=⟨_,rfl⟩
  have pix:=fun (x y:Int) (hf:Im.inner ⟨w,h,so,⟨c0,c1,c2,ca,cf⟩,⟨w0,h0,s0,n0,xs0⟩,⟨w1,h1,s1,n1,xs1⟩,⟨w2,h2,s2,n2,xs2⟩,⟨w3,h3,s3,n3,xs3⟩,⟨w4,h4,s4,n4,xs4⟩⟩=true) hx hy=>zGJ w h so c0 c1 c2 ca cf w0 h0 s0 n0 xs0 w1 h1 s1 n1 xs1 w2 h2 s2 n2 xs2 w3 h3 s3 n3 xs3 w4 h4 s4 n4 xs4 x y hu hf hx hy
  have ew:w=m.w:=by rw [hm]
  have eh:h=m.h:=by rw [hm]
  have es:so=m.so:=by rw [hm]
  have ec:(⟨c0,c1,c2,ca,cf⟩:Px)=m.c:=by rw [hm]
  rw [← hm] at pix hu
  simp only [← hm]
  have p0:m.formed=false→m.pixels=[]:=fun h=>by simp [Im.pixels,h]
  have fx:m.formed=true→zQZ m.w m.h=true∧m.inner=true:=Im.formed_of
  rw [ew,eh] at pix
  rw [ew,eh]
  refine ⟨fun q1=>by rw [p0 q1]; exact ⟨rfl,rfl⟩,fun q1=>?_⟩
  obtain ⟨qf,qi⟩:=fx q1
  obtain ⟨f1,f2,f3,f4,f5⟩:=zZ7 qf
  obtain ⟨n1,n2⟩:=Im.count_le qf
  refine ⟨⟨0,Nat.zero_le _,⟨by omega,rfl⟩,by rw [Nat.zero_mul]; rfl⟩,fun yy hy=>⟨fun hyl=>⟨⟨0,Nat.zero_le _,⟨by omega,rfl⟩,rfl⟩,fun xx hx=>⟨fun hxl=>?_,fun hxg=>?_⟩⟩,fun hyg=>?_⟩⟩
  ·have ha:=jKI (w:=m.w.toNat) (h:=m.h.toNat) (x:=xx) (y:=yy) (by omega) (by omega)
   refine ⟨pix _ _ qi ⟨by omega,by omega⟩ ⟨by omega,by omega⟩,⟨by rw [zZU,Im.list_len],rfl,by unfold maxLen; omega,by omega⟩,xx+1,by omega,by omega,⟨by omega,zJc (by omega)⟩,?_⟩
   have:=Im.pxs_succ m (yy*m.w.toNat+xx)
   rw [Im.nth_at (by omega)] at this
   exact this
  ·have hxe:xx=m.w.toNat:=by omega
   have e:yy*m.w.toNat+xx=(yy+1)*m.w.toNat:=by rw [Nat.add_mul,Nat.one_mul,hxe]
   exact ⟨yy+1,by omega,by omega,⟨e,zJc (by omega)⟩,by rw [e]⟩
  ·have hye:yy=m.h.toNat:=by omega
   rw [Im.pixels_of q1,hye,Nat.mul_comm m.h.toNat,Im.list_len,zZU,Im.list_len]
   exact ⟨rfl,rfl,rfl⟩
theorem zK6 (n:Nat) (xs:List DV) (m:Nat) (ys:List DV) (hx:zGN n xs) (hy:zGN m ys):Ans prog 80 [RV.d (dS n xs),RV.d (dS m ys)] (RV.d (dQ (decide (zQc xs=zQc ys)))):=
 zQm (Γ:=gamI) (Ann.seq Ann.leaf (Ann.seq Ann.leaf (Ann.seq (Ann.seq Ann.leaf (Ann.loop ⟨Nat,fun k=>k≤n∧(zQc xs).take k=(zQc ys).take k,fun k=>⟨[(0,AV.one (Cl.d (dS n xs))),(1,AV.one (Cl.d (dS m ys))),(5,aJ (k:Int))],[]⟩,fun k=>n - k⟩ fun k=>Ann.leaf)) Ann.leaf))) zQB Tryz.func80 rfl (Nat.le_of_ble_eq_true rfl) fun hwf=>by
  refine Eq.mpr (by kernel_rfl:_=(let f:=(dQ (decide (zQc xs=zQc ys))); let g:=fun (k:Nat)=>(k≤n∧(zQc xs).take k=(zQc ys).take k); tU6 ((((n:Int) != (m:Int))=true→True∧RV.d (dQ false)=RV.d f)∧(((n:Int) != (m:Int))=false→True∧((∃ k:Nat,(g k)∧(((dS n xs=dS n xs)∧(dS m ys=dS m ys)∧(dJ 0=dJ (k:Int))∧True)∧True))∧∀ k:Nat,let a:=((k:Int).toNat*5+1); let b:=((k:Int).toNat*5); let c:=((k:Int).toNat*5+1+1+1+1); let d:=((k:Int).toNat*5+1+1+1); let e:=((k:Int).toNat*5+1+1); let h:=(!((((nAt xs b)==(nAt ys b)) && (((nAt xs a)==(nAt ys a)) && (((nAt xs e)==(nAt ys e)) && true))) && (((nAt xs d)==(nAt ys d)) && (((nAt xs c)==(nAt ys c)) && true)))); (g k)→tU4 (((decide ((k:Int) < (n:Int)))=true→tU2 ((0≤(k:Int)∧(k:Int) < (n:Int)∧(k:Int).toNat*5 < xs.length)∧((xs[(k:Int).toNat*5]?=some (dK (nAt xs b)))∧(xs[(k:Int).toNat*5+1]?=some (dK (nAt xs a)))∧(xs[(k:Int).toNat*5+1+1]?=some (dK (nAt xs e)))∧(xs[(k:Int).toNat*5+1+1+1]?=some (dK (nAt xs d)))∧(xs[(k:Int).toNat*5+1+1+1+1]?=some (dK (nAt xs c)))∧True)∧tU2 ((0≤(k:Int)∧(k:Int) < (m:Int)∧(k:Int).toNat*5 < ys.length)∧((ys[(k:Int).toNat*5]?=some (dK (nAt ys b)))∧(ys[(k:Int).toNat*5+1]?=some (dK (nAt ys a)))∧(ys[(k:Int).toNat*5+1+1]?=some (dK (nAt ys e)))∧(ys[(k:Int).toNat*5+1+1+1]?=some (dK (nAt ys d)))∧(ys[(k:Int).toNat*5+1+1+1+1]?=some (dK (nAt ys c)))∧True)∧True∧(true=true)∧((h=true→True∧RV.d (dQ false)=RV.d f)∧(h=false→tU3 (∃ k':Nat,(k'≤n∧(zQc xs).take k'=(zQc ys).take k')∧(n - k' < n - k)∧(((dS n xs=dS n xs)∧(dS m ys=dS m ys)∧(dJ (wK ((k:Int)+1))=dJ (k':Int))∧True)∧True)))))))∧((decide ((k:Int) < (n:Int)))=false→True∧RV.d (dQ true)=RV.d f))))))) ?_
  delta tU2 tU3 tU4 tU6 dJ dK dQ wK dS
  simp only [sS,zQT,zQC,zQK,zQO,zQH,zQP,zQQ,zQ4]
  obtain ⟨l,rfl,rfl⟩:=hx.of
  obtain ⟨l',rfl,rfl⟩:=hy.of
  simp only [zQR,RV.wfs,RV.wf,DV.wfs,DV.wf,maxLen] at hwf ⊢
  obtain ⟨⟨big,wl⟩,⟨big',wl'⟩,_⟩:=hwf
  simp only [Nat.add_assoc,Nat.reduceAdd]
  refine ⟨fun q1=>?_,fun q1=>⟨⟨0,⟨by omega,rfl⟩,rfl⟩,fun k hk=>⟨fun hlt=>?_,fun hge=>?_⟩⟩⟩
  ·have:l≠l':=fun e=>by simp [e] at q1
   simp [this]
  ·have el:l.length=l'.length:=by simp at q1; omega
   have hl:k < l.length:=by omega
   have hl':k < l'.length:=by omega
   obtain ⟨a0,a1,a2,a3,a4⟩:=zZm hl
   obtain ⟨b0,b1,b2,b3,b4⟩:=zZm hl'
   obtain ⟨c0,c1,c2,c3,c4⟩:=zUA hl
   obtain ⟨d0,d1,d2,d3,d4⟩:=zUA hl'
   have e0:=zZU l
   have e1:=zZU l'
   simp only [a0,a1,a2,a3,a4,b0,b1,b2,b3,b4,c0,c1,c2,c3,c4,d0,d1,d2,d3,d4]
   refine ⟨⟨by omega,by omega,by omega⟩,⟨trivial,trivial,trivial,trivial,trivial⟩,⟨by omega,by omega,by omega⟩,⟨trivial,trivial,trivial,trivial,trivial⟩,fun q2=>?_,fun q2=>⟨k+1,⟨by omega,?_⟩,by omega,zJc (by omega)⟩⟩
   ·have:l≠l':=fun e=>by subst e; simp at q2
    simp [this]
   ·rw [List.take_add_one,List.take_add_one,hk.2,List.getElem?_eq_getElem hl,List.getElem?_eq_getElem hl']
    have:l[k]=l'[k]:=by
     cases hp:l[k]; cases hq:l'[k]
     simp [hp,hq] at q2
     simp [q2]
    rw [this]
  ·have el:l.length=l'.length:=by simp at q1; omega
   have hl:k=l.length:=by omega
   have:=hk.2
   rw [hl,List.take_length,el,List.take_length] at this
   simp [this]
theorem zHr (w h:Int) (n:Nat) (xs:List DV) (hx:zGN n xs):AnsG prog 108 0 [aJ ((w)),aJ ((h)),AV.one (Cl.d (dS n xs))] [] ⟨AV.tup [AV.agg [cJ (((imOf w h (zQc xs)).w)),cJ (((imOf w h (zQc xs)).h)),Cl.d (dQ ((imOf w h (zQc xs)).so)),cK (((imOf w h (zQc xs)).c.a)),cK (((imOf w h (zQc xs)).c.b)),cK (((imOf w h (zQc xs)).c.c)),cK (((imOf w h (zQc xs)).c.al)),cK (((imOf w h (zQc xs)).c.f)),cJ (((imOf w h (zQc xs)).p0.w)),cJ (((imOf w h (zQc xs)).p0.h)),cJ (((imOf w h (zQc xs)).p0.s)),Cl.ref 0 ((imOf w h (zQc xs)).p0.n),cJ (((imOf w h (zQc xs)).p1.w)),cJ (((imOf w h (zQc xs)).p1.h)),cJ (((imOf w h (zQc xs)).p1.s)),Cl.ref 1 ((imOf w h (zQc xs)).p1.n),cJ (((imOf w h (zQc xs)).p2.w)),cJ (((imOf w h (zQc xs)).p2.h)),cJ (((imOf w h (zQc xs)).p2.s)),Cl.ref 2 ((imOf w h (zQc xs)).p2.n),cJ (((imOf w h (zQc xs)).p3.w)),cJ (((imOf w h (zQc xs)).p3.h)),cJ (((imOf w h (zQc xs)).p3.s)),Cl.ref 3 ((imOf w h (zQc xs)).p3.n),cJ (((imOf w h (zQc xs)).p4.w)),cJ (((imOf w h (zQc xs)).p4.h)),cJ (((imOf w h (zQc xs)).p4.s)),Cl.ref 4 ((imOf w h (zQc xs)).p4.n)],AV.one (Cl.d (dQ (ofOk w h n)))],[Bx.row 34 1 ((imOf w h (zQc xs)).p0.xs),Bx.row 34 1 ((imOf w h (zQc xs)).p1.xs),Bx.row 34 1 ((imOf w h (zQc xs)).p2.xs),Bx.row 34 1 ((imOf w h (zQc xs)).p3.xs),Bx.row 34 1 ((imOf w h (zQc xs)).p4.xs)],true⟩:=
 zQx (Γ:=gamI) (let j:=(Ann.sure true Ann.leaf); let a:=(8,AV.one (Cl.ptr 8 0)); let b:=(6,AV.one (Cl.ptr 6 0)); let c:=(0,aJ w); let d:=(1,aJ h); let e:=(2,AV.one (Cl.d (dS n xs))); let r:=(cJ 0); let s:=(29,AV.one r); let f:=(6,bC [cJ 0,cJ 0,Cl.d (dQ false),cK 0,cK 0,cK 0,cK 0,cK 0,cJ 0,cJ 0,cJ 0,Cl.nil,cJ 0,cJ 0,cJ 0,Cl.nil,cJ 0,cJ 0,cJ 0,Cl.nil,cJ 0,cJ 0,cJ 0,Cl.nil,cJ 0,cJ 0,cJ 0,Cl.nil]); let t:=(8,bC [cJ w,cJ h,Cl.d (dQ false),cK 0,cK 0,cK 0,cK 0,cK 0,cJ 0,cJ 0,cJ 0,Cl.nil,cJ 0,cJ 0,cJ 0,Cl.nil,cJ 0,cJ 0,cJ 0,Cl.nil,cJ 0,cJ 0,cJ 0,Cl.nil,cJ 0,cJ 0,cJ 0,Cl.nil]); let l:=(35,AV.one (Cl.d (dS n xs))); let m:=(36,aJ (n:Int)); let o:=fun (k:Nat)=>(37,aJ (k:Int)); let u:=(cJ 1); let v:=(29,AV.one u); let x:=(8,bC [cJ w,cJ h,Cl.d (dQ false),cK 0,cK 0,cK 0,cK 0,cK 0,cJ w,cJ h,cJ w,Cl.ref 7000 (n:Int).toNat,cJ 0,cJ 0,cJ 0,Cl.nil,cJ 0,cJ 0,cJ 0,Cl.nil,cJ 0,cJ 0,cJ 0,Cl.nil,cJ 0,cJ 0,cJ 0,Cl.nil]); let g:=(7000,Bx.row 34 1 (zQt (zQc xs) Px.a n)); let y:=(cJ 2); let z:=(29,AV.one y); let A:=(8,bC [cJ w,cJ h,Cl.d (dQ false),cK 0,cK 0,cK 0,cK 0,cK 0,cJ w,cJ h,cJ w,Cl.ref 7000 (n:Int).toNat,cJ w,cJ h,cJ w,Cl.ref 7001 (n:Int).toNat,cJ 0,cJ 0,cJ 0,Cl.nil,cJ 0,cJ 0,cJ 0,Cl.nil,cJ 0,cJ 0,cJ 0,Cl.nil]); let i:=(7001,Bx.row 34 1 (zQt (zQc xs) Px.b n)); let B:=(cJ 3); let C:=(29,AV.one B); let D:=(8,bC [cJ w,cJ h,Cl.d (dQ false),cK 0,cK 0,cK 0,cK 0,cK 0,cJ w,cJ h,cJ w,Cl.ref 7000 (n:Int).toNat,cJ w,cJ h,cJ w,Cl.ref 7001 (n:Int).toNat,cJ w,cJ h,cJ w,Cl.ref 7002 (n:Int).toNat,cJ 0,cJ 0,cJ 0,Cl.nil,cJ 0,cJ 0,cJ 0,Cl.nil]); let p:=(7002,Bx.row 34 1 (zQt (zQc xs) Px.c n)); let E:=(cJ 4); let F:=(29,AV.one E); let G:=(8,bC [cJ w,cJ h,Cl.d (dQ false),cK 0,cK 0,cK 0,cK 0,cK 0,cJ w,cJ h,cJ w,Cl.ref 7000 (n:Int).toNat,cJ w,cJ h,cJ w,Cl.ref 7001 (n:Int).toNat,cJ w,cJ h,cJ w,Cl.ref 7002 (n:Int).toNat,cJ w,cJ h,cJ w,Cl.ref 7003 (n:Int).toNat,cJ 0,cJ 0,cJ 0,Cl.nil]); let q:=(7003,Bx.row 34 1 (zQt (zQc xs) Px.al n)); (Ann.seq Ann.leaf (Ann.seq Ann.leaf (Ann.seq Ann.leaf (Ann.seq (Ann.seq Ann.leaf (Ann.link ⟨Unit,fun _u=>True,fun _u=>⟨[c,d,e,b,a,s],[f,t]⟩,fun _u=>0⟩ (fun _u=>(Ann.seq Ann.leaf (Ann.seq j (Ann.seq (Ann.seq Ann.leaf (Ann.seq Ann.leaf (Ann.seq (Ann.seq Ann.leaf (Ann.loop ⟨Nat,fun k=>k≤n,fun k=>⟨[c,d,e,b,a,(9,AV.one r),(10,AV.one (Cl.ref 7000 (n:Int).toNat)),s,l,m,(o k)],[f,t,(7000,Bx.row 34 1 (zQt (zQc xs) Px.a k))]⟩,fun k=>n - k⟩ fun k=>Ann.leaf)) Ann.leaf))) Ann.leaf)))) (Ann.link ⟨Unit,fun _u=>True,fun _u=>⟨[c,d,e,b,a,v],[f,x,g]⟩,fun _u=>0⟩ (fun _u=>(Ann.seq Ann.leaf (Ann.seq j (Ann.seq (Ann.seq Ann.leaf (Ann.seq Ann.leaf (Ann.seq (Ann.seq Ann.leaf (Ann.loop ⟨Nat,fun k=>k≤n,fun k=>⟨[c,d,e,b,a,(9,AV.one u),(10,AV.one (Cl.ref 7001 (n:Int).toNat)),v,l,m,(o k)],[f,x,(7001,Bx.row 34 1 (zQt (zQc xs) Px.b k)),g]⟩,fun k=>n - k⟩ fun k=>Ann.leaf)) Ann.leaf))) Ann.leaf)))) (Ann.link ⟨Unit,fun _u=>True,fun _u=>⟨[c,d,e,b,a,z],[f,A,g,i]⟩,fun _u=>0⟩ (fun _u=>(Ann.seq Ann.leaf (Ann.seq j (Ann.seq (Ann.seq Ann.leaf (Ann.seq Ann.leaf (Ann.seq (Ann.seq Ann.leaf (Ann.loop ⟨Nat,fun k=>k≤n,fun k=>⟨[c,d,e,b,a,(9,AV.one y),(10,AV.one (Cl.ref 7002 (n:Int).toNat)),z,l,m,(o k)],[f,A,(7002,Bx.row 34 1 (zQt (zQc xs) Px.c k)),g,i]⟩,fun k=>n - k⟩ fun k=>Ann.leaf)) Ann.leaf))) Ann.leaf)))) (Ann.link ⟨Unit,fun _u=>True,fun _u=>⟨[c,d,e,b,a,C],[f,D,g,i,p]⟩,fun _u=>0⟩ (fun _u=>(Ann.seq Ann.leaf (Ann.seq j (Ann.seq (Ann.seq Ann.leaf (Ann.seq Ann.leaf (Ann.seq (Ann.seq Ann.leaf (Ann.loop ⟨Nat,fun k=>k≤n,fun k=>⟨[c,d,e,b,a,(9,AV.one B),(10,AV.one (Cl.ref 7003 (n:Int).toNat)),C,l,m,(o k)],[f,D,(7003,Bx.row 34 1 (zQt (zQc xs) Px.al k)),g,i,p]⟩,fun k=>n - k⟩ fun k=>Ann.leaf)) Ann.leaf))) Ann.leaf)))) (Ann.link ⟨Unit,fun _u=>True,fun _u=>⟨[c,d,e,b,a,F],[f,G,g,i,p,q]⟩,fun _u=>0⟩ (fun _u=>(Ann.seq Ann.leaf (Ann.seq j (Ann.seq (Ann.seq Ann.leaf (Ann.seq Ann.leaf (Ann.seq (Ann.seq Ann.leaf (Ann.loop ⟨Nat,fun k=>k≤n,fun k=>⟨[c,d,e,b,a,(9,AV.one E),(10,AV.one (Cl.ref 7004 (n:Int).toNat)),F,l,m,(o k)],[f,G,(7004,Bx.row 34 1 (zQt (zQc xs) Px.f k)),g,i,p,q]⟩,fun k=>n - k⟩ fun k=>Ann.leaf)) Ann.leaf))) Ann.leaf)))) (Ann.link ⟨Unit,fun _u=>True,fun _u=>⟨[c,d,e,b,a,(29,aJ 5)],[f,(8,bC [cJ w,cJ h,Cl.d (dQ false),cK 0,cK 0,cK 0,cK 0,cK 0,cJ w,cJ h,cJ w,Cl.ref 7000 (n:Int).toNat,cJ w,cJ h,cJ w,Cl.ref 7001 (n:Int).toNat,cJ w,cJ h,cJ w,Cl.ref 7002 (n:Int).toNat,cJ w,cJ h,cJ w,Cl.ref 7003 (n:Int).toNat,cJ w,cJ h,cJ w,Cl.ref 7004 (n:Int).toNat]),g,i,p,q,(7004,Bx.row 34 1 (zQt (zQc xs) Px.f n))]⟩,fun _u=>0⟩ (fun _u=>(Ann.seq Ann.leaf (Ann.seq (Ann.sure false Ann.leaf) Ann.leaf))) Ann.leaf))))))) Ann.leaf))))) zQB Tryz.func108 rfl (Nat.le_of_ble_eq_true rfl) rfl fun hwf hbx=>by
  refine Eq.mpr (by kernel_rfl:_=(let l:=((5:Nat):Int); let f:=(dS n xs=dS n xs); let b:=(imOf w h (zQc xs)); let F:=(imB 34 b); let G:=[(imV 0 b),AV.one (Cl.d (dQ (ofOk w h n)))]; let S:=(dQ false=dQ b.so); let T:=(dK 0=dK b.c.a); let U:=(dK 0=dK b.c.b); let V:=(dK 0=dK b.c.c); let W:=(dK 0=dK b.c.al); let X:=(dK 0=dK b.c.f); let Y:=(((((dJ 0=dJ b.w)∧(dJ 0=dJ b.h)∧S∧T∧U∧V∧W∧X∧(dJ 0=dJ b.p0.w)∧(dJ 0=dJ b.p0.h)∧(dJ 0=dJ b.p0.s)∧(0=b.p0.n)∧(dJ 0=dJ b.p1.w)∧(dJ 0=dJ b.p1.h)∧(dJ 0=dJ b.p1.s)∧(0=b.p1.n)∧(dJ 0=dJ b.p2.w)∧(dJ 0=dJ b.p2.h)∧(dJ 0=dJ b.p2.s)∧(0=b.p2.n)∧(dJ 0=dJ b.p3.w)∧(dJ 0=dJ b.p3.h)∧(dJ 0=dJ b.p3.s)∧(0=b.p3.n)∧(dJ 0=dJ b.p4.w)∧(dJ 0=dJ b.p4.h)∧(dJ 0=dJ b.p4.s)∧(0=b.p4.n)∧True)∧(dQ false=dQ (ofOk w h n))∧True)∧True)∧(([]=b.p0.xs)∧([]=b.p1.xs)∧([]=b.p2.xs)∧([]=b.p3.xs)∧([]=b.p4.xs)∧True)); let c:=(dJ w=dJ w); let d:=(dJ h=dJ h); let a:=(dJ 0=dJ 0); let p:=(dQ false=dQ false); let e:=(dK 0=dK 0); let i:=(a∧a∧p∧e∧e∧e∧e∧e∧a∧a∧a∧True∧a∧a∧a∧True∧a∧a∧a∧True∧a∧a∧a∧True∧a∧a∧a∧True∧True); let H:=(c∧d∧p∧e∧e∧e∧e∧e∧a∧a∧a∧True∧a∧a∧a∧True∧a∧a∧a∧True∧a∧a∧a∧True∧a∧a∧a∧True∧True); let r:=(0≤(n:Int)∧(n:Int)≤(n:Int)∧(n:Int)≤(maxLen:Int)∧((2:Nat):Int)*(n:Int)≤281474976710656); let g:=((n:Int).toNat=(n:Int).toNat); let m:=(dJ (n:Int)=dJ (n:Int)); let s:=fun (k:Nat)=>(dJ 0=dJ (k:Int)); let t:=fun (k:Nat)=>(0≤(k:Int)∧(k:Int) < (n:Int)∧(k:Int).toNat*5 < xs.length); let u:=fun (k:Nat)=>((xs[(k:Int).toNat*5]?=some (dK (nAt xs ((k:Int).toNat*5))))∧(xs[(k:Int).toNat*5+1]?=some (dK (nAt xs ((k:Int).toNat*5+1))))∧(xs[(k:Int).toNat*5+1+1]?=some (dK (nAt xs ((k:Int).toNat*5+1+1))))∧(xs[(k:Int).toNat*5+1+1+1]?=some (dK (nAt xs ((k:Int).toNat*5+1+1+1))))∧(xs[(k:Int).toNat*5+1+1+1+1]?=some (dK (nAt xs ((k:Int).toNat*5+1+1+1+1))))∧True); let v:=(0≤(0:Int)∧(0:Int) < ((3:Nat):Int)); let x:=(0≤(1:Int)∧(1:Int) < ((3:Nat):Int)); let y:=(0≤(2:Int)∧(2:Int) < ((3:Nat):Int)); let z:=fun (k:Nat)=>(0≤(k:Int)∧(k:Int) < (((n:Int).toNat:Nat):Int)); let A:=fun (k:Nat)=>fun (k':Nat)=>(dJ (wK ((k:Int)+1))=dJ (k':Int)); let I:=(c∧d∧p∧e∧e∧e∧e∧e∧c∧d∧c∧g∧a∧a∧a∧True∧a∧a∧a∧True∧a∧a∧a∧True∧a∧a∧a∧True∧True); let B:=(dJ 1=dJ 1); let j:=(zQt (zQc xs) Px.a n=zQt (zQc xs) Px.a n); let J:=(c∧d∧p∧e∧e∧e∧e∧e∧c∧d∧c∧g∧c∧d∧c∧g∧a∧a∧a∧True∧a∧a∧a∧True∧a∧a∧a∧True∧True); let C:=(dJ 2=dJ 2); let o:=(zQt (zQc xs) Px.b n=zQt (zQc xs) Px.b n); let K:=(c∧d∧p∧e∧e∧e∧e∧e∧c∧d∧c∧g∧c∧d∧c∧g∧c∧d∧c∧g∧a∧a∧a∧True∧a∧a∧a∧True∧True); let D:=(dJ 3=dJ 3); let q:=(zQt (zQc xs) Px.c n=zQt (zQc xs) Px.c n); let L:=(c∧d∧p∧e∧e∧e∧e∧e∧c∧d∧c∧g∧c∧d∧c∧g∧c∧d∧c∧g∧c∧d∧c∧g∧a∧a∧a∧True∧True); let E:=(dJ 4=dJ 4); let M:=(zQt (zQc xs) Px.al n=zQt (zQc xs) Px.al n); tU4 ((Ans prog 125 [rJ w,rJ h] (RV.d (dQ (zQZ w h))))∧tU2 (((!(zQZ w h))=false→tU7 ((((n:Int) != (wK (w*h)))=true→tU3 (Y∧zQl ⟨AV.tup G,F,true⟩))∧(((n:Int) != (wK (w*h)))=false→tU6 ((∃ _u:Unit,True∧((c∧d∧f∧(0=0)∧(0=0)∧a∧True)∧(i∧H∧True)))∧((∀ _u:Unit,True→True∧(decide ((0:Int) < 5)=true∧tU4 (r∧tU4 ((∃ k:Nat,(k≤n)∧((c∧d∧f∧(0=0)∧(0=0)∧a∧g∧a∧f∧m∧(s k)∧True)∧(i∧H∧(List.replicate (n:Int).toNat (dK 0)=zQt (zQc xs) Px.a k)∧True)))∧∀ k:Nat,let N:=(dK (nAt xs ((k:Int).toNat*5))); (k≤n)→True∧(((decide ((k:Int) < (n:Int)))=true→True∧(t k)∧(u k)∧tU6 (v∧tU2 (x∧tU2 (y∧tU7 ((0≤(0:Int)∧(0:Int) < l∧(some N=some N)∧True)∧(z k)∧((k:Int).toNat*1+1≤(zQt (zQc xs) Px.a k).length)∧tU2 (∃ k':Nat,(k'≤n)∧(n - k' < n - k)∧((c∧d∧f∧(0=0)∧(0=0)∧a∧g∧a∧f∧m∧(A k k')∧True)∧(i∧H∧(List.set (zQt (zQc xs) Px.a k) ((k:Int).toNat*1) N=zQt (zQc xs) Px.a k')∧True))))))))∧((decide ((k:Int) < (n:Int)))=false→tU7 ((0≤(0:Int)∧(0:Int) < l)∧tU3 (∃ _u:Unit,True∧((c∧d∧f∧(0=0)∧(0=0)∧(dJ (wK ((0:Int)+1))=dJ 1)∧True)∧(i∧I∧(zQt (zQc xs) Px.a k=zQt (zQc xs) Px.a n)∧True))))))))))∧(∀ _u:Unit,True→True∧(decide ((1:Int) < 5)=true∧tU4 (r∧tU4 ((∃ k:Nat,(k≤n)∧((c∧d∧f∧(0=0)∧(0=0)∧B∧g∧B∧f∧m∧(s k)∧True)∧(i∧I∧(List.replicate (n:Int).toNat (dK 0)=zQt (zQc xs) Px.b k)∧j∧True)))∧∀ k:Nat,let O:=(dK (nAt xs ((k:Int).toNat*5+1))); (k≤n)→True∧(((decide ((k:Int) < (n:Int)))=true→True∧(t k)∧(u k)∧tU6 (v∧tU2 (x∧tU2 (y∧tU7 ((0≤(1:Int)∧(1:Int) < l∧(some O=some O)∧True)∧(z k)∧((k:Int).toNat*1+1≤(zQt (zQc xs) Px.b k).length)∧tU2 (∃ k':Nat,(k'≤n)∧(n - k' < n - k)∧((c∧d∧f∧(0=0)∧(0=0)∧B∧g∧B∧f∧m∧(A k k')∧True)∧(i∧I∧(List.set (zQt (zQc xs) Px.b k) ((k:Int).toNat*1) O=zQt (zQc xs) Px.b k')∧j∧True))))))))∧((decide ((k:Int) < (n:Int)))=false→tU7 ((0≤(1:Int)∧(1:Int) < l)∧tU3 (∃ _u:Unit,True∧((c∧d∧f∧(0=0)∧(0=0)∧(dJ (wK ((1:Int)+1))=dJ 2)∧True)∧(i∧J∧j∧(zQt (zQc xs) Px.b k=zQt (zQc xs) Px.b n)∧True))))))))))∧(∀ _u:Unit,True→True∧(decide ((2:Int) < 5)=true∧tU4 (r∧tU4 ((∃ k:Nat,(k≤n)∧((c∧d∧f∧(0=0)∧(0=0)∧C∧g∧C∧f∧m∧(s k)∧True)∧(i∧J∧(List.replicate (n:Int).toNat (dK 0)=zQt (zQc xs) Px.c k)∧j∧o∧True)))∧∀ k:Nat,let P:=(dK (nAt xs ((k:Int).toNat*5+1+1))); (k≤n)→True∧(((decide ((k:Int) < (n:Int)))=true→True∧(t k)∧(u k)∧tU6 (v∧tU2 (x∧tU2 (y∧tU7 ((0≤(2:Int)∧(2:Int) < l∧(some P=some P)∧True)∧(z k)∧((k:Int).toNat*1+1≤(zQt (zQc xs) Px.c k).length)∧tU2 (∃ k':Nat,(k'≤n)∧(n - k' < n - k)∧((c∧d∧f∧(0=0)∧(0=0)∧C∧g∧C∧f∧m∧(A k k')∧True)∧(i∧J∧(List.set (zQt (zQc xs) Px.c k) ((k:Int).toNat*1) P=zQt (zQc xs) Px.c k')∧j∧o∧True))))))))∧((decide ((k:Int) < (n:Int)))=false→tU7 ((0≤(2:Int)∧(2:Int) < l)∧tU3 (∃ _u:Unit,True∧((c∧d∧f∧(0=0)∧(0=0)∧(dJ (wK ((2:Int)+1))=dJ 3)∧True)∧(i∧K∧j∧o∧(zQt (zQc xs) Px.c k=zQt (zQc xs) Px.c n)∧True))))))))))∧(∀ _u:Unit,True→True∧(decide ((3:Int) < 5)=true∧tU4 (r∧tU4 ((∃ k:Nat,(k≤n)∧((c∧d∧f∧(0=0)∧(0=0)∧D∧g∧D∧f∧m∧(s k)∧True)∧(i∧K∧(List.replicate (n:Int).toNat (dK 0)=zQt (zQc xs) Px.al k)∧j∧o∧q∧True)))∧∀ k:Nat,let Q:=(dK (nAt xs ((k:Int).toNat*5+1+1+1))); (k≤n)→True∧(((decide ((k:Int) < (n:Int)))=true→True∧(t k)∧(u k)∧tU6 (v∧tU2 (x∧tU2 (y∧tU7 ((0≤(3:Int)∧(3:Int) < l∧(some Q=some Q)∧True)∧(z k)∧((k:Int).toNat*1+1≤(zQt (zQc xs) Px.al k).length)∧tU2 (∃ k':Nat,(k'≤n)∧(n - k' < n - k)∧((c∧d∧f∧(0=0)∧(0=0)∧D∧g∧D∧f∧m∧(A k k')∧True)∧(i∧K∧(List.set (zQt (zQc xs) Px.al k) ((k:Int).toNat*1) Q=zQt (zQc xs) Px.al k')∧j∧o∧q∧True))))))))∧((decide ((k:Int) < (n:Int)))=false→tU7 ((0≤(3:Int)∧(3:Int) < l)∧tU3 (∃ _u:Unit,True∧((c∧d∧f∧(0=0)∧(0=0)∧(dJ (wK ((3:Int)+1))=dJ 4)∧True)∧(i∧L∧j∧o∧q∧(zQt (zQc xs) Px.al k=zQt (zQc xs) Px.al n)∧True))))))))))∧(∀ _u:Unit,True→True∧(decide ((4:Int) < 5)=true∧tU4 (r∧tU4 ((∃ k:Nat,(k≤n)∧((c∧d∧f∧(0=0)∧(0=0)∧E∧g∧E∧f∧m∧(s k)∧True)∧(i∧L∧(List.replicate (n:Int).toNat (dK 0)=zQt (zQc xs) Px.f k)∧j∧o∧q∧M∧True)))∧∀ k:Nat,let R:=(dK (nAt xs ((k:Int).toNat*5+1+1+1+1))); (k≤n)→True∧(((decide ((k:Int) < (n:Int)))=true→True∧(t k)∧(u k)∧tU6 (v∧tU2 (x∧tU2 (y∧tU7 ((0≤(4:Int)∧(4:Int) < l∧(some R=some R)∧True)∧(z k)∧((k:Int).toNat*1+1≤(zQt (zQc xs) Px.f k).length)∧tU2 (∃ k':Nat,(k'≤n)∧(n - k' < n - k)∧((c∧d∧f∧(0=0)∧(0=0)∧E∧g∧E∧f∧m∧(A k k')∧True)∧(i∧L∧(List.set (zQt (zQc xs) Px.f k) ((k:Int).toNat*1) R=zQt (zQc xs) Px.f k')∧j∧o∧q∧M∧True))))))))∧((decide ((k:Int) < (n:Int)))=false→tU7 ((0≤(4:Int)∧(4:Int) < l)∧tU3 (∃ _u:Unit,True∧((c∧d∧f∧(0=0)∧(0=0)∧(dJ (wK ((4:Int)+1))=dJ 5)∧True)∧(i∧(c∧d∧p∧e∧e∧e∧e∧e∧c∧d∧c∧g∧c∧d∧c∧g∧c∧d∧c∧g∧c∧d∧c∧g∧c∧d∧c∧g∧True)∧j∧o∧q∧M∧(zQt (zQc xs) Px.f k=zQt (zQc xs) Px.f n)∧True))))))))))∧(∀ _u:Unit,True→True∧(decide ((5:Int) < 5)=false∧tU3 ((((((dJ w=dJ b.w)∧(dJ h=dJ b.h)∧S∧T∧U∧V∧W∧X∧(dJ w=dJ b.p0.w)∧(dJ h=dJ b.p0.h)∧(dJ w=dJ b.p0.s)∧((n:Int).toNat=b.p0.n)∧(dJ w=dJ b.p1.w)∧(dJ h=dJ b.p1.h)∧(dJ w=dJ b.p1.s)∧((n:Int).toNat=b.p1.n)∧(dJ w=dJ b.p2.w)∧(dJ h=dJ b.p2.h)∧(dJ w=dJ b.p2.s)∧((n:Int).toNat=b.p2.n)∧(dJ w=dJ b.p3.w)∧(dJ h=dJ b.p3.h)∧(dJ w=dJ b.p3.s)∧((n:Int).toNat=b.p3.n)∧(dJ w=dJ b.p4.w)∧(dJ h=dJ b.p4.h)∧(dJ w=dJ b.p4.s)∧((n:Int).toNat=b.p4.n)∧True)∧(dQ true=dQ (ofOk w h n))∧True)∧True)∧((zQt (zQc xs) Px.a n=b.p0.xs)∧(zQt (zQc xs) Px.b n=b.p1.xs)∧(zQt (zQc xs) Px.c n=b.p2.xs)∧(zQt (zQc xs) Px.al n=b.p3.xs)∧(zQt (zQc xs) Px.f n=b.p4.xs)∧True))∧zQl ⟨AV.tup G,F,true⟩)))∧True)))))∧((!(zQZ w h))=(!false)→tU4 (Y∧zQl ⟨AV.tup G,F,true⟩)))))) ?_
  delta tU2 tU3 tU4 tU6 tU7 dJ dK dQ wK dS rJ
  simp only [sS,zQT,zQC,zQK,zQO,zQH,zQP,zQQ,zQ4]
  obtain ⟨l,rfl,rfl⟩:=hx.of
  simp only [zQR,imV,imB,zQl,AV.flatV,AV.flatVL,Cl.flatV,zUQ,Bx.flatVL,Bx.flatV,zUM,true_and,and_true]
  simp only [DV.flat,true_and,and_true]
  have no:∀ {P:Prop},(imOf w h l=Im.zero→ofOk w h l.length=false→P)→(ofOk w h l.length=false)→P:=fun f h=>f (zWK h) h
  have le:=@zZ7 w h
  refine ⟨fun q1=>⟨fun q2=>?_,fun q2=>?_⟩,fun q1=>?_⟩
  ·obtain ⟨f1,f2,f3,f4,f5⟩:=le q1
   have wm:IntKind.wrap .i64 (w*h)=w*h:=IntWalk.i64_in _ ⟨by have:=Int.mul_nonneg (a:=w) (b:=h) (by omega) (by omega); omega,by omega⟩
   refine no (fun e1 e2=>?_) (by rw [wm] at q2; simp [ofOk,q1]; simpa using q2)
   rw [e1,e2]; simp [Im.zero,Px.zero,Pl.none]
  ·obtain ⟨f1,f2,f3,f4,f5⟩:=le q1
   have wm:IntKind.wrap .i64 (w*h)=w*h:=IntWalk.i64_in _ ⟨by have:=Int.mul_nonneg (a:=w) (b:=h) (by omega) (by omega); omega,by omega⟩
   have hl:(l.length:Int)=w*h:=by rw [wm] at q2; simpa using q2
   have hk:ofOk w h l.length=true:=by simp [ofOk,q1,hl]
   have hb:l.length≤16777216:=by omega
   rw [hk,zKq hk]
   simp only [ofIm,Px.zero,maxLen]
   (repeat' (first | apply And.intro | intro)) <;> (first | assumption | rfl | omega | (exact ⟨0,by omega,rfl,(zXm _ _).symm⟩) | exact jQK (by omega) | exact zYN (j:=1) (by omega) (by omega) | exact zYN (j:=2) (by omega) (by omega) | exact zYN (j:=3) (by omega) (by omega) | exact zYN (j:=4) (by omega) (by omega) | (rw [zZU]; omega) | (rw [zJR (by assumption)]; omega) | exact zJ9 (by assumption) (by assumption) (fun h=>(zZm h).1) | exact zJ9 (by assumption) (by assumption) (fun h=>(zZm h).2.1) | exact zJ9 (by assumption) (by assumption) (fun h=>(zZm h).2.2.1) | exact zJ9 (by assumption) (by assumption) (fun h=>(zZm h).2.2.2.1) | exact zJ9 (by assumption) (by assumption) (fun h=>(zZm h).2.2.2.2) | exact ⟨(),by decide,jY6 (by assumption) (by assumption)⟩ | exact ⟨(),trivial⟩ | exact ⟨(),by decide⟩ | exact zJS _ _ | (rw [jY6 (by assumption) (by assumption)]; exact zJS _ _) | exact jXM (by assumption) (by assumption) (fun h=>(zZm h).1) (fun h=>(zZm h).2.1) (fun h=>(zZm h).2.2.1) (fun h=>(zZm h).2.2.2.1) (fun h=>(zZm h).2.2.2.2) | (rw [zJR (by omega)]; omega) | decide)
  ·refine no (fun e1 e2=>?_) (by simp [ofOk,q1])
   rw [e1,e2]; simp [Im.zero,Px.zero,Pl.none]
theorem zW9 (w h:Int) (n:Nat) (xs:List DV) (hx:zGN n xs):AnsG prog 48 0 [aJ ((w)),aJ ((h)),AV.one (Cl.d (dS n xs))] [] ⟨AV.tup [AV.agg [cJ (((imOf w h (zQc xs)).w)),cJ (((imOf w h (zQc xs)).h)),Cl.d (dQ ((imOf w h (zQc xs)).so)),cK (((imOf w h (zQc xs)).c.a)),cK (((imOf w h (zQc xs)).c.b)),cK (((imOf w h (zQc xs)).c.c)),cK (((imOf w h (zQc xs)).c.al)),cK (((imOf w h (zQc xs)).c.f)),cJ (((imOf w h (zQc xs)).p0.w)),cJ (((imOf w h (zQc xs)).p0.h)),cJ (((imOf w h (zQc xs)).p0.s)),Cl.ref 0 ((imOf w h (zQc xs)).p0.n),cJ (((imOf w h (zQc xs)).p1.w)),cJ (((imOf w h (zQc xs)).p1.h)),cJ (((imOf w h (zQc xs)).p1.s)),Cl.ref 1 ((imOf w h (zQc xs)).p1.n),cJ (((imOf w h (zQc xs)).p2.w)),cJ (((imOf w h (zQc xs)).p2.h)),cJ (((imOf w h (zQc xs)).p2.s)),Cl.ref 2 ((imOf w h (zQc xs)).p2.n),cJ (((imOf w h (zQc xs)).p3.w)),cJ (((imOf w h (zQc xs)).p3.h)),cJ (((imOf w h (zQc xs)).p3.s)),Cl.ref 3 ((imOf w h (zQc xs)).p3.n),cJ (((imOf w h (zQc xs)).p4.w)),cJ (((imOf w h (zQc xs)).p4.h)),cJ (((imOf w h (zQc xs)).p4.s)),Cl.ref 4 ((imOf w h (zQc xs)).p4.n)],AV.one (Cl.d (dQ (ofOk w h n)))],[Bx.row 34 1 ((imOf w h (zQc xs)).p0.xs),Bx.row 34 1 ((imOf w h (zQc xs)).p1.xs),Bx.row 34 1 ((imOf w h (zQc xs)).p2.xs),Bx.row 34 1 ((imOf w h (zQc xs)).p3.xs),Bx.row 34 1 ((imOf w h (zQc xs)).p4.xs)],true⟩:=
 zQx (Γ:=gamI) (let v:=(Ann.seq (Ann.seq Ann.leaf (Ann.sure false Ann.leaf)) Ann.leaf); let b:=(8,AV.one (Cl.ptr 8 0)); let c:=(6,AV.one (Cl.ptr 6 0)); let f:=(Ann.seq (Ann.seq Ann.leaf (Ann.sure true Ann.leaf)) Ann.leaf); let g:=(0,aJ w); let j:=(1,aJ h); let d:=(2,AV.one (Cl.d (dS n xs))); let x:=(cJ 0); let e:=(6,bC [cJ 0,cJ 0,Cl.d (dQ false),cK 0,cK 0,cK 0,cK 0,cK 0,cJ 0,cJ 0,cJ 0,Cl.nil,cJ 0,cJ 0,cJ 0,Cl.nil,cJ 0,cJ 0,cJ 0,Cl.nil,cJ 0,cJ 0,cJ 0,Cl.nil,cJ 0,cJ 0,cJ 0,Cl.nil]); let y:=(cJ 1); let a:=(wK (w*h)).toNat; let k:=(List.replicate (wK (w*h)).toNat (dK 0)); let l:=(200039,Bx.row 34 1 k); let z:=(cJ 2); let p:=(300039,Bx.row 34 1 k); let A:=(cJ 3); let s:=(400039,Bx.row 34 1 k); let B:=(500039,Bx.row 34 1 k); let m:=(8,bC [cJ w,cJ h,Cl.d (dQ false),cK 0,cK 0,cK 0,cK 0,cK 0,cJ w,cJ h,cJ w,Cl.ref 200039 a,cJ w,cJ h,cJ w,Cl.ref 300039 a,cJ w,cJ h,cJ w,Cl.ref 400039 a,cJ w,cJ h,cJ w,Cl.ref 500039 a,cJ w,cJ h,cJ w,Cl.ref 600039 a]); let o:=fun (i:Nat)=>(10,aJ (i:Int)); let C:=fun (i:Nat)=>(300039,Bx.row 34 1 (zQt (zQc xs) Px.b i)); let t:=fun (i:Nat)=>(400039,Bx.row 34 1 (zQt (zQc xs) Px.c i)); let q:=fun (i:Nat)=>(500039,Bx.row 34 1 (zQt (zQc xs) Px.al i)); let r:=fun (i:Nat)=>(600039,Bx.row 34 1 (zQt (zQc xs) Px.f i)); let D:=fun (i:Nat)=>[e,m,(200039,Bx.row 34 1 (zQt (zQc xs) Px.a i)),(C i),(t i),(q i),(r i)]; let u:=fun (i:Nat)=>(200039,Bx.row 34 1 (List.set (zQt (zQc xs) Px.a i) ((i:Int).toNat*1) (dK (nAt xs ((i:Int).toNat*5+0+0))))); let E:=fun (i:Nat)=>(300039,Bx.row 34 1 (List.set (zQt (zQc xs) Px.b i) ((i:Int).toNat*1) (dK (nAt xs ((i:Int).toNat*5+0+1))))); (Ann.seq Ann.leaf (Ann.seq Ann.leaf (Ann.seq Ann.leaf (Ann.seq (Ann.seq Ann.leaf (Ann.link ⟨Unit,fun _u=>True,fun _u=>⟨[g,j,d,c,b,(9,AV.one x)],[e,(8,bC [cJ w,cJ h,Cl.d (dQ false),cK 0,cK 0,cK 0,cK 0,cK 0,cJ 0,cJ 0,cJ 0,Cl.nil,cJ 0,cJ 0,cJ 0,Cl.nil,cJ 0,cJ 0,cJ 0,Cl.nil,cJ 0,cJ 0,cJ 0,Cl.nil,cJ 0,cJ 0,cJ 0,Cl.nil])]⟩,fun _u=>0⟩ (fun _u=>f) (Ann.link ⟨Unit,fun _u=>True,fun _u=>⟨[g,j,d,c,b,(9,AV.one y)],[e,(8,bC [cJ w,cJ h,Cl.d (dQ false),cK 0,cK 0,cK 0,cK 0,cK 0,cJ w,cJ h,cJ w,Cl.ref 200039 a,cJ 0,cJ 0,cJ 0,Cl.nil,cJ 0,cJ 0,cJ 0,Cl.nil,cJ 0,cJ 0,cJ 0,Cl.nil,cJ 0,cJ 0,cJ 0,Cl.nil]),l]⟩,fun _u=>0⟩ (fun _u=>f) (Ann.link ⟨Unit,fun _u=>True,fun _u=>⟨[g,j,d,c,b,(9,AV.one z)],[e,(8,bC [cJ w,cJ h,Cl.d (dQ false),cK 0,cK 0,cK 0,cK 0,cK 0,cJ w,cJ h,cJ w,Cl.ref 200039 a,cJ w,cJ h,cJ w,Cl.ref 300039 a,cJ 0,cJ 0,cJ 0,Cl.nil,cJ 0,cJ 0,cJ 0,Cl.nil,cJ 0,cJ 0,cJ 0,Cl.nil]),l,p]⟩,fun _u=>0⟩ (fun _u=>f) (Ann.link ⟨Unit,fun _u=>True,fun _u=>⟨[g,j,d,c,b,(9,AV.one A)],[e,(8,bC [cJ w,cJ h,Cl.d (dQ false),cK 0,cK 0,cK 0,cK 0,cK 0,cJ w,cJ h,cJ w,Cl.ref 200039 a,cJ w,cJ h,cJ w,Cl.ref 300039 a,cJ w,cJ h,cJ w,Cl.ref 400039 a,cJ 0,cJ 0,cJ 0,Cl.nil,cJ 0,cJ 0,cJ 0,Cl.nil]),l,p,s]⟩,fun _u=>0⟩ (fun _u=>f) (Ann.link ⟨Unit,fun _u=>True,fun _u=>⟨[g,j,d,c,b,(9,aJ 4)],[e,(8,bC [cJ w,cJ h,Cl.d (dQ false),cK 0,cK 0,cK 0,cK 0,cK 0,cJ w,cJ h,cJ w,Cl.ref 200039 a,cJ w,cJ h,cJ w,Cl.ref 300039 a,cJ w,cJ h,cJ w,Cl.ref 400039 a,cJ w,cJ h,cJ w,Cl.ref 500039 a,cJ 0,cJ 0,cJ 0,Cl.nil]),l,p,s,B]⟩,fun _u=>0⟩ (fun _u=>f) (Ann.link ⟨Unit,fun _u=>True,fun _u=>⟨[g,j,d,c,b,(9,aJ 5)],[e,m,l,p,s,B,(600039,Bx.row 34 1 k)]⟩,fun _u=>0⟩ (fun _u=>v) Ann.leaf))))))) (Ann.seq (Ann.seq Ann.leaf (Ann.loop ⟨Nat,fun i=>i≤n,fun i=>⟨[d,c,b,(o i)],(D i)⟩,fun i=>n - i⟩ fun i=>(Ann.seq Ann.leaf (Ann.seq (Ann.seq (Ann.seq Ann.leaf (Ann.link ⟨Unit,fun _u=>True,fun _u=>⟨[d,c,b,(o i),(11,AV.one x)],(D i)⟩,fun _u=>0⟩ (fun _u=>f) (Ann.link ⟨Unit,fun _u=>True,fun _u=>⟨[d,c,b,(o i),(11,AV.one y)],[e,m,(u i),(C i),(t i),(q i),(r i)]⟩,fun _u=>0⟩ (fun _u=>f) (Ann.link ⟨Unit,fun _u=>True,fun _u=>⟨[d,c,b,(o i),(11,AV.one z)],[e,m,(u i),(E i),(t i),(q i),(r i)]⟩,fun _u=>0⟩ (fun _u=>f) (Ann.link ⟨Unit,fun _u=>True,fun _u=>⟨[d,c,b,(o i),(11,AV.one A)],[e,m,(u i),(E i),(400039,Bx.row 34 1 (List.set (zQt (zQc xs) Px.c i) ((i:Int).toNat*1) (dK (nAt xs ((i:Int).toNat*5+0+2))))),(q i),(r i)]⟩,fun _u=>0⟩ (fun _u=>v) Ann.leaf))))) Ann.leaf) Ann.leaf)))) Ann.leaf)))))) zQB Tryz.func48 rfl (Nat.le_of_ble_eq_true rfl) rfl fun hwf hbx=>by
  refine Eq.mpr (by kernel_rfl:_=(let q:=((5:Nat):Int); let k:=(dS n xs=dS n xs); let b:=(imOf w h (zQc xs)); let A:=(imB 34 b); let f:=(wK (w*h)); let B:=[(imV 0 b),AV.one (Cl.d (dQ (ofOk w h n)))]; let E:=(dQ false=dQ b.so); let F:=(dK 0=dK b.c.a); let G:=(dK 0=dK b.c.b); let H:=(dK 0=dK b.c.c); let I:=(dK 0=dK b.c.al); let J:=(dK 0=dK b.c.f); let K:=(((((dJ 0=dJ b.w)∧(dJ 0=dJ b.h)∧E∧F∧G∧H∧I∧J∧(dJ 0=dJ b.p0.w)∧(dJ 0=dJ b.p0.h)∧(dJ 0=dJ b.p0.s)∧(0=b.p0.n)∧(dJ 0=dJ b.p1.w)∧(dJ 0=dJ b.p1.h)∧(dJ 0=dJ b.p1.s)∧(0=b.p1.n)∧(dJ 0=dJ b.p2.w)∧(dJ 0=dJ b.p2.h)∧(dJ 0=dJ b.p2.s)∧(0=b.p2.n)∧(dJ 0=dJ b.p3.w)∧(dJ 0=dJ b.p3.h)∧(dJ 0=dJ b.p3.s)∧(0=b.p3.n)∧(dJ 0=dJ b.p4.w)∧(dJ 0=dJ b.p4.h)∧(dJ 0=dJ b.p4.s)∧(0=b.p4.n)∧True)∧(dQ false=dQ (ofOk w h n))∧True)∧True)∧(([]=b.p0.xs)∧([]=b.p1.xs)∧([]=b.p2.xs)∧([]=b.p3.xs)∧([]=b.p4.xs)∧True)); let c:=(dJ w=dJ w); let e:=(dJ h=dJ h); let a:=(dJ 0=dJ 0); let m:=(dQ false=dQ false); let d:=(dK 0=dK 0); let l:=(a∧a∧m∧d∧d∧d∧d∧d∧a∧a∧a∧True∧a∧a∧a∧True∧a∧a∧a∧True∧a∧a∧a∧True∧a∧a∧a∧True∧True); let r:=(0≤wK (w*h)∧wK (w*h)≤wK (w*h)∧wK (w*h)≤(maxLen:Int)∧((2:Nat):Int)*f≤281474976710656); let L:=(0≤(0:Int)∧(0:Int) < q); let M:=(dJ (wK ((0:Int)+1))=dJ 1); let g:=(f.toNat=f.toNat); let j:=(List.replicate f.toNat (dK 0)=List.replicate f.toNat (dK 0)); let N:=(0≤(1:Int)∧(1:Int) < q); let O:=(dJ (wK ((1:Int)+1))=dJ 2); let P:=(0≤(2:Int)∧(2:Int) < q); let Q:=(dJ (wK ((2:Int)+1))=dJ 3); let R:=(0≤(3:Int)∧(3:Int) < q); let S:=(0≤(4:Int)∧(4:Int) < q); let o:=(c∧e∧m∧d∧d∧d∧d∧d∧c∧e∧c∧g∧c∧e∧c∧g∧c∧e∧c∧g∧c∧e∧c∧g∧c∧e∧c∧g∧True); let u:=fun (i:Nat)=>(dJ (i:Int)=dJ (i:Int)); let T:=fun (i:Nat)=>(zQt (zQc xs) Px.b i=zQt (zQc xs) Px.b i); let C:=fun (i:Nat)=>(zQt (zQc xs) Px.c i=zQt (zQc xs) Px.c i); let v:=fun (i:Nat)=>(zQt (zQc xs) Px.al i=zQt (zQc xs) Px.al i); let x:=fun (i:Nat)=>(zQt (zQc xs) Px.f i=zQt (zQc xs) Px.f i); let s:=fun (i:Nat)=>(0≤(i:Int)∧(i:Int) < (n:Int)∧(i:Int).toNat*5 < xs.length); let t:=fun (i:Nat)=>(0≤(i:Int)∧(i:Int) < (f.toNat:Int)); let D:=fun (i:Nat)=>(List.set (zQt (zQc xs) Px.a i) ((i:Int).toNat*1) (dK (nAt xs ((i:Int).toNat*5+0+0)))=List.set (zQt (zQc xs) Px.a i) ((i:Int).toNat*1) (dK (nAt xs ((i:Int).toNat*5+0+0)))); let U:=fun (i:Nat)=>(List.set (zQt (zQc xs) Px.b i) ((i:Int).toNat*1) (dK (nAt xs ((i:Int).toNat*5+0+1)))=List.set (zQt (zQc xs) Px.b i) ((i:Int).toNat*1) (dK (nAt xs ((i:Int).toNat*5+0+1)))); tU4 ((Ans prog 92 [rJ w,rJ h] (RV.d (dQ (zQZ w h))))∧tU2 (((!(zQZ w h))=false→tU7 ((((n:Int) != f)=true→tU3 (K∧zQl ⟨AV.tup B,A,true⟩))∧(((n:Int) != f)=false→tU6 ((∃ _u:Unit,True∧((c∧e∧k∧(0=0)∧(0=0)∧a∧True)∧(l∧(c∧e∧m∧d∧d∧d∧d∧d∧a∧a∧a∧True∧a∧a∧a∧True∧a∧a∧a∧True∧a∧a∧a∧True∧a∧a∧a∧True∧True)∧True)))∧((∀ _u:Unit,True→tU2 (decide ((0:Int) < 5)=true∧tU7 (r∧tU2 (L∧tU4 (∃ _u:Unit,True∧((c∧e∧k∧(0=0)∧(0=0)∧M∧True)∧(l∧(c∧e∧m∧d∧d∧d∧d∧d∧c∧e∧c∧g∧a∧a∧a∧True∧a∧a∧a∧True∧a∧a∧a∧True∧a∧a∧a∧True∧True)∧j∧True)))))))∧(∀ _u:Unit,True→tU2 (decide ((1:Int) < 5)=true∧tU7 (r∧tU2 (N∧tU4 (∃ _u:Unit,True∧((c∧e∧k∧(0=0)∧(0=0)∧O∧True)∧(l∧(c∧e∧m∧d∧d∧d∧d∧d∧c∧e∧c∧g∧c∧e∧c∧g∧a∧a∧a∧True∧a∧a∧a∧True∧a∧a∧a∧True∧True)∧j∧j∧True)))))))∧(∀ _u:Unit,True→tU2 (decide ((2:Int) < 5)=true∧tU7 (r∧tU2 (P∧tU4 (∃ _u:Unit,True∧((c∧e∧k∧(0=0)∧(0=0)∧Q∧True)∧(l∧(c∧e∧m∧d∧d∧d∧d∧d∧c∧e∧c∧g∧c∧e∧c∧g∧c∧e∧c∧g∧a∧a∧a∧True∧a∧a∧a∧True∧True)∧j∧j∧j∧True)))))))∧(∀ _u:Unit,True→tU2 (decide ((3:Int) < 5)=true∧tU7 (r∧tU2 (R∧tU4 (∃ _u:Unit,True∧((c∧e∧k∧(0=0)∧(0=0)∧(dJ (wK ((3:Int)+1))=dJ 4)∧True)∧(l∧(c∧e∧m∧d∧d∧d∧d∧d∧c∧e∧c∧g∧c∧e∧c∧g∧c∧e∧c∧g∧c∧e∧c∧g∧a∧a∧a∧True∧True)∧j∧j∧j∧j∧True)))))))∧(∀ _u:Unit,True→tU2 (decide ((4:Int) < 5)=true∧tU7 (r∧tU2 (S∧tU4 (∃ _u:Unit,True∧((c∧e∧k∧(0=0)∧(0=0)∧(dJ (wK ((4:Int)+1))=dJ 5)∧True)∧(l∧o∧j∧j∧j∧j∧j∧True)))))))∧(∀ _u:Unit,True→tU2 (decide ((5:Int) < 5)=false∧True∧((∃ i:Nat,(i≤n)∧((k∧(0=0)∧(0=0)∧(dJ 0=dJ (i:Int))∧True)∧(l∧o∧(List.replicate f.toNat (dK 0)=zQt (zQc xs) Px.a i)∧(List.replicate f.toNat (dK 0)=zQt (zQc xs) Px.b i)∧(List.replicate f.toNat (dK 0)=zQt (zQc xs) Px.c i)∧(List.replicate f.toNat (dK 0)=zQt (zQc xs) Px.al i)∧(List.replicate f.toNat (dK 0)=zQt (zQc xs) Px.f i)∧True)))∧∀ i:Nat,let V:=(dK (nAt xs ((i:Int).toNat*5+4))); let W:=(dK (nAt xs ((i:Int).toNat*5+3))); let X:=(dK (nAt xs ((i:Int).toNat*5+0+1))); let Y:=(dK (nAt xs ((i:Int).toNat*5+0+0))); let y:=(zQt (zQc xs) Px.c i); let p:=((i:Int).toNat*1); let z:=(dK (nAt xs ((i:Int).toNat*5+0+2))); (i≤n)→tU4 (((decide ((i:Int) < (n:Int)))=true→True∧(∃ _u:Unit,True∧((k∧(0=0)∧(0=0)∧(u i)∧a∧True)∧(l∧o∧(zQt (zQc xs) Px.a i=zQt (zQc xs) Px.a i)∧(T i)∧(C i)∧(v i)∧(x i)∧True)))∧((∀ _u:Unit,True→tU2 (decide ((0:Int) < 3)=true∧tU2 (L∧tU6 ((s i)∧True∧(0≤(0:Int)∧(0:Int) < ((3:Nat):Int))∧((xs[(i:Int).toNat*5+0+0]?=some Y)∧True)∧(t i)∧((i:Int).toNat*1+1≤(zQt (zQc xs) Px.a i).length)∧(true=true)∧tU3 (∃ _u:Unit,True∧((k∧(0=0)∧(0=0)∧(u i)∧M∧True)∧(l∧o∧(D i)∧(T i)∧(C i)∧(v i)∧(x i)∧True)))))))∧(∀ _u:Unit,True→tU2 (decide ((1:Int) < 3)=true∧tU2 (N∧tU6 ((s i)∧True∧(0≤(1:Int)∧(1:Int) < ((3:Nat):Int))∧((xs[(i:Int).toNat*5+0+1]?=some X)∧True)∧(t i)∧((i:Int).toNat*1+1≤(zQt (zQc xs) Px.b i).length)∧(true=true)∧tU3 (∃ _u:Unit,True∧((k∧(0=0)∧(0=0)∧(u i)∧O∧True)∧(l∧o∧(D i)∧(U i)∧(C i)∧(v i)∧(x i)∧True)))))))∧(∀ _u:Unit,True→tU2 (decide ((2:Int) < 3)=true∧tU2 (P∧tU6 ((s i)∧True∧(0≤(2:Int)∧(2:Int) < ((3:Nat):Int))∧((xs[(i:Int).toNat*5+0+2]?=some z)∧True)∧(t i)∧((i:Int).toNat*1+1≤y.length)∧(true=true)∧tU3 (∃ _u:Unit,True∧((k∧(0=0)∧(0=0)∧(u i)∧Q∧True)∧(l∧o∧(D i)∧(U i)∧(List.set y p z=List.set y p z)∧(v i)∧(x i)∧True)))))))∧(∀ _u:Unit,True→tU2 (decide ((3:Int) < 3)=false∧True∧R∧tU4 (S∧tU5 ((s i)∧True∧((xs[(i:Int).toNat*5+3]?=some W)∧True)∧tU2 ((s i)∧True∧((xs[(i:Int).toNat*5+4]?=some V)∧True)∧(t i)∧((i:Int).toNat*1+1≤(zQt (zQc xs) Px.al i).length)∧(t i)∧((i:Int).toNat*1+1≤(zQt (zQc xs) Px.f i).length)∧(true=true)∧tU3 (∃ i':Nat,(i'≤n)∧(n - i' < n - i)∧((k∧(0=0)∧(0=0)∧(dJ (wK ((i:Int)+1))=dJ (i':Int))∧True)∧(l∧o∧(List.set (zQt (zQc xs) Px.a i) p Y=zQt (zQc xs) Px.a i')∧(List.set (zQt (zQc xs) Px.b i) p X=zQt (zQc xs) Px.b i')∧(List.set y p z=zQt (zQc xs) Px.c i')∧(List.set (zQt (zQc xs) Px.al i) p W=zQt (zQc xs) Px.al i')∧(List.set (zQt (zQc xs) Px.f i) p V=zQt (zQc xs) Px.f i')∧True))))))))∧True))∧((decide ((i:Int) < (n:Int)))=false→tU3 ((((((dJ w=dJ b.w)∧(dJ h=dJ b.h)∧E∧F∧G∧H∧I∧J∧(dJ w=dJ b.p0.w)∧(dJ h=dJ b.p0.h)∧(dJ w=dJ b.p0.s)∧(f.toNat=b.p0.n)∧(dJ w=dJ b.p1.w)∧(dJ h=dJ b.p1.h)∧(dJ w=dJ b.p1.s)∧(f.toNat=b.p1.n)∧(dJ w=dJ b.p2.w)∧(dJ h=dJ b.p2.h)∧(dJ w=dJ b.p2.s)∧(f.toNat=b.p2.n)∧(dJ w=dJ b.p3.w)∧(dJ h=dJ b.p3.h)∧(dJ w=dJ b.p3.s)∧(f.toNat=b.p3.n)∧(dJ w=dJ b.p4.w)∧(dJ h=dJ b.p4.h)∧(dJ w=dJ b.p4.s)∧(f.toNat=b.p4.n)∧True)∧(dQ true=dQ (ofOk w h n))∧True)∧True)∧((zQt (zQc xs) Px.a i=b.p0.xs)∧(zQt (zQc xs) Px.b i=b.p1.xs)∧(zQt (zQc xs) Px.c i=b.p2.xs)∧(zQt (zQc xs) Px.al i=b.p3.xs)∧(zQt (zQc xs) Px.f i=b.p4.xs)∧True))∧zQl ⟨AV.tup B,A,true⟩))))))∧True)))))∧((!(zQZ w h))=(!false)→tU4 (K∧zQl ⟨AV.tup B,A,true⟩)))))) ?_
  delta tU2 tU3 tU4 tU5 tU6 tU7 dJ dK dQ wK dS rJ
  simp only [sS,zQT,zQC,zQK,zQO,zQH,zQP,zQQ,zQ4]
  obtain ⟨l,rfl,rfl⟩:=hx.of
  simp only [zQR,imV,imB,zQl,AV.flatV,AV.flatVL,Cl.flatV,zUQ,Bx.flatVL,Bx.flatV,zUM,true_and,and_true]
  simp only [DV.flat,true_and,and_true]
  have no:∀ {P:Prop},(imOf w h l=Im.zero→ofOk w h l.length=false→P)→(ofOk w h l.length=false)→P:=fun f h=>f (zWK h) h
  have le:=@zZ7 w h
  refine ⟨fun q1=>⟨fun q2=>?_,fun q2=>?_⟩,fun q1=>?_⟩
  ·obtain ⟨f1,f2,f3,f4,f5⟩:=le q1
   have wm:IntKind.wrap .i64 (w*h)=w*h:=IntWalk.i64_in _ ⟨by have:=Int.mul_nonneg (a:=w) (b:=h) (by omega) (by omega); omega,by omega⟩
   refine no (fun e1 e2=>?_) (by rw [wm] at q2; simp [ofOk,q1]; simpa using q2)
   rw [e1,e2]; simp [Im.zero,Px.zero,Pl.none]
  ·obtain ⟨f1,f2,f3,f4,f5⟩:=le q1
   have wm:IntKind.wrap .i64 (w*h)=w*h:=IntWalk.i64_in _ ⟨by have:=Int.mul_nonneg (a:=w) (b:=h) (by omega) (by omega); omega,by omega⟩
   have hl:(l.length:Int)=w*h:=by rw [wm] at q2; simpa using q2
   have hk:ofOk w h l.length=true:=by simp [ofOk,q1,hl]
   have hb:l.length≤16777216:=by omega
   rw [hk,zKq hk]
   simp only [ofIm,Px.zero,maxLen,wm]
   simp only [← hl,Int.toNat_natCast,Nat.add_zero]
   (repeat' (first | apply And.intro | intro)) <;> (first | (exact ⟨0,by omega,rfl,(zXm _ _).symm,(zXm _ _).symm,(zXm _ _).symm,(zXm _ _).symm,(zXm _ _).symm⟩) | (first | assumption | rfl | omega | (exact ⟨0,by omega,rfl,(zXm _ _).symm⟩) | exact jQK (by omega) | exact zYN (j:=1) (by omega) (by omega) | exact zYN (j:=2) (by omega) (by omega) | exact zYN (j:=3) (by omega) (by omega) | exact zYN (j:=4) (by omega) (by omega) | (rw [zZU]; omega) | (rw [zJR (by assumption)]; omega) | exact zJ9 (by assumption) (by assumption) (fun h=>(zZm h).1) | exact zJ9 (by assumption) (by assumption) (fun h=>(zZm h).2.1) | exact zJ9 (by assumption) (by assumption) (fun h=>(zZm h).2.2.1) | exact zJ9 (by assumption) (by assumption) (fun h=>(zZm h).2.2.2.1) | exact zJ9 (by assumption) (by assumption) (fun h=>(zZm h).2.2.2.2) | exact ⟨(),by decide,jY6 (by assumption) (by assumption)⟩ | exact ⟨(),trivial⟩ | exact ⟨(),by decide⟩ | exact zJS _ _ | (rw [jY6 (by assumption) (by assumption)]; exact zJS _ _) | exact jXM (by assumption) (by assumption) (fun h=>(zZm h).1) (fun h=>(zZm h).2.1) (fun h=>(zZm h).2.2.1) (fun h=>(zZm h).2.2.2.1) (fun h=>(zZm h).2.2.2.2) | (rw [zJR (by omega)]; omega) | decide))
  ·refine no (fun e1 e2=>?_) (by simp [ofOk,q1])
   rw [e1,e2]; simp [Im.zero,Px.zero,Pl.none]
theorem zKC (w h:Int) (so:Bool) (c0 c1 c2 ca cf w0 h0 s0:Int) (n0:Nat) (xs0:List DV) (w1 h1 s1:Int) (n1:Nat) (xs1:List DV) (w2 h2 s2:Int) (n2:Nat) (xs2:List DV) (w3 h3 s3:Int) (n3:Nat) (xs3:List DV) (w4 h4 s4:Int) (n4:Nat) (xs4:List DV) (w' h':Int) (so':Bool) (c0' c1' c2' ca' cf' w0' h0' s0':Int) (n0':Nat) (xs0':List DV) (w1' h1' s1':Int) (n1':Nat) (xs1':List DV) (w2' h2' s2':Int) (n2':Nat) (xs2':List DV) (w3' h3' s3':Int) (n3':Nat) (xs3':List DV) (w4' h4' s4':Int) (n4':Nat) (xs4':List DV) (hu:Im.isU ⟨w,h,so,⟨c0,c1,c2,ca,cf⟩,⟨w0,h0,s0,n0,xs0⟩,⟨w1,h1,s1,n1,xs1⟩,⟨w2,h2,s2,n2,xs2⟩,⟨w3,h3,s3,n3,xs3⟩,⟨w4,h4,s4,n4,xs4⟩⟩) (hv:Im.isU ⟨w',h',so',⟨c0',c1',c2',ca',cf'⟩,⟨w0',h0',s0',n0',xs0'⟩,⟨w1',h1',s1',n1',xs1'⟩,⟨w2',h2',s2',n2',xs2'⟩,⟨w3',h3',s3',n3',xs3'⟩,⟨w4',h4',s4',n4',xs4'⟩⟩):Ans prog 42 [RV.agg [dJ w,dJ h,dQ so,dK c0,dK c1,dK c2,dK ca,dK cf,dJ w0,dJ h0,dJ s0,dS n0 xs0,dJ w1,dJ h1,dJ s1,dS n1 xs1,dJ w2,dJ h2,dJ s2,dS n2 xs2,dJ w3,dJ h3,dJ s3,dS n3 xs3,dJ w4,dJ h4,dJ s4,dS n4 xs4],RV.agg [dJ w',dJ h',dQ so',dK c0',dK c1',dK c2',dK ca',dK cf',dJ w0',dJ h0',dJ s0',dS n0' xs0',dJ w1',dJ h1',dJ s1',dS n1' xs1',dJ w2',dJ h2',dJ s2',dS n2' xs2',dJ w3',dJ h3',dJ s3',dS n3' xs3',dJ w4',dJ h4',dJ s4',dS n4' xs4']] (RV.d (dQ (Im.equal ⟨w,h,so,⟨c0,c1,c2,ca,cf⟩,⟨w0,h0,s0,n0,xs0⟩,⟨w1,h1,s1,n1,xs1⟩,⟨w2,h2,s2,n2,xs2⟩,⟨w3,h3,s3,n3,xs3⟩,⟨w4,h4,s4,n4,xs4⟩⟩ ⟨w',h',so',⟨c0',c1',c2',ca',cf'⟩,⟨w0',h0',s0',n0',xs0'⟩,⟨w1',h1',s1',n1',xs1'⟩,⟨w2',h2',s2',n2',xs2'⟩,⟨w3',h3',s3',n3',xs3'⟩,⟨w4',h4',s4',n4',xs4'⟩⟩))):=
 zQm (Γ:=gamI) Ann.leaf zQB Tryz.func42 rfl (Nat.le_of_ble_eq_true rfl) fun hwf=>by
  refine Eq.mpr (by kernel_rfl:_=(let f:=[RV.agg [dJ w,dJ h,dQ so,dK c0,dK c1,dK c2,dK ca,dK cf,dJ w0,dJ h0,dJ s0,dS n0 xs0,dJ w1,dJ h1,dJ s1,dS n1 xs1,dJ w2,dJ h2,dJ s2,dS n2 xs2,dJ w3,dJ h3,dJ s3,dS n3 xs3,dJ w4,dJ h4,dJ s4,dS n4 xs4]]; let b:=(Im.formed ⟨w,h,so,⟨c0,c1,c2,ca,cf⟩,⟨w0,h0,s0,n0,xs0⟩,⟨w1,h1,s1,n1,xs1⟩,⟨w2,h2,s2,n2,xs2⟩,⟨w3,h3,s3,n3,xs3⟩,⟨w4,h4,s4,n4,xs4⟩⟩); let g:=[RV.agg [dJ w',dJ h',dQ so',dK c0',dK c1',dK c2',dK ca',dK cf',dJ w0',dJ h0',dJ s0',dS n0' xs0',dJ w1',dJ h1',dJ s1',dS n1' xs1',dJ w2',dJ h2',dJ s2',dS n2' xs2',dJ w3',dJ h3',dJ s3',dS n3' xs3',dJ w4',dJ h4',dJ s4',dS n4' xs4']]; let c:=(Im.formed ⟨w',h',so',⟨c0',c1',c2',ca',cf'⟩,⟨w0',h0',s0',n0',xs0'⟩,⟨w1',h1',s1',n1',xs1'⟩,⟨w2',h2',s2',n2',xs2'⟩,⟨w3',h3',s3',n3',xs3'⟩,⟨w4',h4',s4',n4',xs4'⟩⟩); let i:=(Im.pixels ⟨w,h,so,⟨c0,c1,c2,ca,cf⟩,⟨w0,h0,s0,n0,xs0⟩,⟨w1,h1,s1,n1,xs1⟩,⟨w2,h2,s2,n2,xs2⟩,⟨w3,h3,s3,n3,xs3⟩,⟨w4,h4,s4,n4,xs4⟩⟩); let j:=i.length; let d:=(pxs i); let k:=(Im.pixels ⟨w',h',so',⟨c0',c1',c2',ca',cf'⟩,⟨w0',h0',s0',n0',xs0'⟩,⟨w1',h1',s1',n1',xs1'⟩,⟨w2',h2',s2',n2',xs2'⟩,⟨w3',h3',s3',n3',xs3'⟩,⟨w4',h4',s4',n4',xs4'⟩⟩); let l:=k.length; let e:=(pxs k); let m:=(dQ (decide (zQc d=zQc e))); let n:=(dQ (Im.equal ⟨w,h,so,⟨c0,c1,c2,ca,cf⟩,⟨w0,h0,s0,n0,xs0⟩,⟨w1,h1,s1,n1,xs1⟩,⟨w2,h2,s2,n2,xs2⟩,⟨w3,h3,s3,n3,xs3⟩,⟨w4,h4,s4,n4,xs4⟩⟩ ⟨w',h',so',⟨c0',c1',c2',ca',cf'⟩,⟨w0',h0',s0',n0',xs0'⟩,⟨w1',h1',s1',n1',xs1'⟩,⟨w2',h2',s2',n2',xs2'⟩,⟨w3',h3',s3',n3',xs3'⟩,⟨w4',h4',s4',n4',xs4'⟩⟩)); let a:=((true=true)∧RV.d (dQ false)=RV.d n); tU4 ((Ans prog 66 f (RV.d (dQ b)))∧True∧((b=true→True∧(Ans prog 66 g (RV.d (dQ c)))∧tU2 ((c=true→tU7 (((w==w')=true→tU7 (((h==h')=true→True∧(AnsO prog 33 f 37 5 j d)∧True∧(AnsO prog 33 g 37 5 l e)∧(Ans prog 80 [RV.d (dS j d),RV.d (dS l e)] (RV.d m))∧tU2 ((true=true)∧RV.d m=RV.d n))∧((h==h')=(!true)→tU2 a)))∧((w==w')=(!true)→tU4 a)))∧(c=(!true)→tU6 a)))∧(b=(!true)→tU8 a))))) ?_
  delta tU2 tU4 tU6 tU7 tU8 dJ dK dQ dS
  simp only [sS,zQT,zQC,zQK,zQO,zQH,zQP,zQQ,zQ4]
  obtain ⟨m,hm⟩:∃ m:Im,m=⟨w,h,so,⟨c0,c1,c2,ca,cf⟩,⟨w0,h0,s0,n0,xs0⟩,⟨w1,h1,s1,n1,xs1⟩,⟨w2,h2,s2,n2,xs2⟩,⟨w3,h3,s3,n3,xs3⟩,⟨w4,h4,s4,n4,xs4⟩⟩:=⟨_,rfl⟩
  obtain ⟨r,hr⟩:∃ r:Im,r=⟨w',h',so',⟨c0',c1',c2',ca',cf'⟩,⟨w0',h0',s0',n0',xs0'⟩,⟨w1',h1',s1',n1',xs1'⟩,⟨w2',h2',s2',n2',xs2'⟩,⟨w3',h3',s3',n3',xs3'⟩,⟨w4',h4',s4',n4',xs4'⟩⟩:=⟨_,rfl⟩
  have pix:=zKc w h so c0 c1 c2 ca cf w0 h0 s0 n0 xs0 w1 h1 s1 n1 xs1 w2 h2 s2 n2 xs2 w3 h3 s3 n3 xs3 w4 h4 s4 n4 xs4 hu
  have pix':=zKc w' h' so' c0' c1' c2' ca' cf' w0' h0' s0' n0' xs0' w1' h1' s1' n1' xs1' w2' h2' s2' n2' xs2' w3' h3' s3' n3' xs3' w4' h4' s4' n4' xs4' hv
  have ew:w=m.w:=by rw [hm]
  have eh:h=m.h:=by rw [hm]
  have ew':w'=r.w:=by rw [hr]
  have eh':h'=r.h:=by rw [hr]
  rw [← hm] at pix
  rw [← hr] at pix'
  simp only [← hm,← hr]
  refine ⟨fun q1=>⟨fun q2=>⟨fun q3=>⟨fun q4=>⟨pix,pix',zK6 _ _ _ _ (zKW _) (zKW _),?_⟩,fun q4=>?_⟩,fun q3=>?_⟩,fun q2=>?_⟩,fun q1=>?_⟩
  ·have hw:m.w=r.w:=by rw [← ew,← ew']; simpa using q3
   have hh:m.h=r.h:=by rw [← eh,← eh']; simpa using q4
   simp only [zQR]
   simp [Im.equal,q1,q2,hw,hh]
  ·have hh:¬ m.h=r.h:=by rw [← eh,← eh']; simpa using q4
   simp [Im.equal,hh]
  ·have hw:¬ m.w=r.w:=by rw [← ew,← ew']; simpa using q3
   simp [Im.equal,hw]
  ·simp [Im.equal,q2]
  ·simp [Im.equal,q1]
def pxR (p:Px):RV:=RV.agg [DV.int .u16 p.a,DV.int .u16 p.b,DV.int .u16 p.c,DV.int .u16 p.al,DV.int .u16 p.f]
theorem zUh (m:Im) (most:Int) (hu:m.isU):Ans prog 94 [imR m,RV.d (DV.int .u16 most)] (RV.d (DV.int .i64 (m.valid most))):=zWI ((m).w) ((m).h) ((m).so) (((m).c).a) (((m).c).b) (((m).c).c) (((m).c).al) (((m).c).f) (((m).p0).w) (((m).p0).h) (((m).p0).s) (((m).p0).n) (((m).p0).xs) (((m).p1).w) (((m).p1).h) (((m).p1).s) (((m).p1).n) (((m).p1).xs) (((m).p2).w) (((m).p2).h) (((m).p2).s) (((m).p2).n) (((m).p2).xs) (((m).p3).w) (((m).p3).h) (((m).p3).s) (((m).p3).n) (((m).p3).xs) (((m).p4).w) (((m).p4).h) (((m).p4).s) (((m).p4).n) (((m).p4).xs) most hu
theorem zK7 (m r:Im) (hu:m.isU) (hv:r.isU):Ans prog 42 [imR m,imR r] (RV.d (DV.bool (m.equal r))):=zKC ((m).w) ((m).h) ((m).so) (((m).c).a) (((m).c).b) (((m).c).c) (((m).c).al) (((m).c).f) (((m).p0).w) (((m).p0).h) (((m).p0).s) (((m).p0).n) (((m).p0).xs) (((m).p1).w) (((m).p1).h) (((m).p1).s) (((m).p1).n) (((m).p1).xs) (((m).p2).w) (((m).p2).h) (((m).p2).s) (((m).p2).n) (((m).p2).xs) (((m).p3).w) (((m).p3).h) (((m).p3).s) (((m).p3).n) (((m).p3).xs) (((m).p4).w) (((m).p4).h) (((m).p4).s) (((m).p4).n) (((m).p4).xs) ((r).w) ((r).h) ((r).so) (((r).c).a) (((r).c).b) (((r).c).c) (((r).c).al) (((r).c).f) (((r).p0).w) (((r).p0).h) (((r).p0).s) (((r).p0).n) (((r).p0).xs) (((r).p1).w) (((r).p1).h) (((r).p1).s) (((r).p1).n) (((r).p1).xs) (((r).p2).w) (((r).p2).h) (((r).p2).s) (((r).p2).n) (((r).p2).xs) (((r).p3).w) (((r).p3).h) (((r).p3).s) (((r).p3).n) (((r).p3).xs) (((r).p4).w) (((r).p4).h) (((r).p4).s) (((r).p4).n) (((r).p4).xs)  hu hv
theorem zWJ (m:Im) (hu:m.isU):AnsO prog 61 [imR m] 37 5 m.pixels.length (pxs m.pixels):=zVQ ((m).w) ((m).h) ((m).so) (((m).c).a) (((m).c).b) (((m).c).c) (((m).c).al) (((m).c).f) (((m).p0).w) (((m).p0).h) (((m).p0).s) (((m).p0).n) (((m).p0).xs) (((m).p1).w) (((m).p1).h) (((m).p1).s) (((m).p1).n) (((m).p1).xs) (((m).p2).w) (((m).p2).h) (((m).p2).s) (((m).p2).n) (((m).p2).xs) (((m).p3).w) (((m).p3).h) (((m).p3).s) (((m).p3).n) (((m).p3).xs) (((m).p4).w) (((m).p4).h) (((m).p4).s) (((m).p4).n) (((m).p4).xs)  hu
theorem jQn (w h:Int) (n:Nat) (xs:List DV) (hx:zGN n xs):AnsG prog 108 0 [AV.one (Cl.d (DV.int .i64 w)),AV.one (Cl.d (DV.int .i64 h)),AV.one (Cl.d (DV.sl n xs))] [] ⟨AV.tup [imV 0 (imOf w h (zQc xs)),AV.one (Cl.d (DV.bool (ofOk w h n)))],imB 34 (imOf w h (zQc xs)),true⟩:=zHr w h n xs hx
theorem zUl (w h:Int) (n:Nat) (xs:List DV) (hx:zGN n xs):AnsG prog 48 0 [AV.one (Cl.d (DV.int .i64 w)),AV.one (Cl.d (DV.int .i64 h)),AV.one (Cl.d (DV.sl n xs))] [] ⟨AV.tup [imV 0 (imOf w h (zQc xs)),AV.one (Cl.d (DV.bool (ofOk w h n)))],imB 34 (imOf w h (zQc xs)),true⟩:=zW9 w h n xs hx
theorem zHM (w h:Int) (c:Px):Ans prog 22 [RV.d (DV.int .i64 w),RV.d (DV.int .i64 h),pxR c] (imR (zQf w h c)):=zGK w h c.a c.b c.c c.al c.f
structure Scr where
  bits:Int
  c:Rc
  tw:Int
  th:Int
  ord:List Int
  ims:List Im
  ops:List Oq
def Scr.frame (s:Scr):Int:=jX8 s.bits s.c s.tw s.th s.ord s.ims.length s.ops.length
def Scr.run (s:Scr):Int × Int:=opsE s.bits s.c s.tw s.th s.ord s.ims.length s.ops
def eR (p:Int × Int):RV:=RV.tup [RV.d (DV.int .i64 p.1),RV.d (DV.int .i64 p.2)]
theorem jJU {n:Nat} {l:List Int} (h:n=l.length):is l=is (ints (is l))∧n=(is l).length:=⟨by rw [zQM],by rw [zXe]; exact h⟩
def fitL (lo hi:Int) (l:List Int):Bool:=l.all fun v=>decide (lo≤v∧v≤hi)
def fitR (size:Int) (sg:Bool) (v:Int):Bool:=if sg then decide (-(2 ^ (8*size - 1).toNat)≤v∧v < 2 ^ (8*size - 1).toNat) else decide (0≤v∧v < 2 ^ (8*size).toNat)
theorem jZs {f:Int→Bool} {l:List Int} {k:Nat} (h:k < l.length):(l.take (k+1)).all f=((l.take k).all f && f l[k]):=by
 rw [List.take_succ_eq_append_getElem h,List.all_append]
 simp
theorem zW5 {f:Int→Bool} {l:List Int} {k:Nat} (h:k < l.length) (hf:f l[k]=false):l.all f=false:=by
 rw [List.all_eq_false]
 exact ⟨l[k],List.getElem_mem h,by rw [hf]; simp⟩
theorem jZk (v:Int):fitR 1 false v=decide (0≤v∧v≤255):=by
 have:(2:Int) ^ ((8*1:Int).toNat)=256:=by decide
 unfold fitR
 rw [this]
 simp only [Bool.false_eq_true,if_false,decide_eq_decide]
 omega
theorem zHy (v:Int):fitR 4 false v=decide (0≤v∧v≤4294967295):=by
 have:(2:Int) ^ ((8*4:Int).toNat)=4294967296:=by decide
 unfold fitR
 rw [this]
 simp only [Bool.false_eq_true,if_false,decide_eq_decide]
 omega
theorem jZj (v:Int):fitR 4 true v=decide (-2147483648≤v∧v≤2147483647):=by
 have:(2:Int) ^ ((8*4 - 1:Int).toNat)=2147483648:=by decide
 unfold fitR
 rw [this]
 simp only [if_true,decide_eq_decide]
 omega
def gZ18 (xs:List RV):Option RV:=match xs with | [.d (.int _ v),.d (.int _ size),.d (.bool sg)]=>some (RV.d (dQ (fitR size sg v))) | _=>none
def jZV:Gam where
 pure:=fun f xs=>
  if f=93 then (match xs with | [.d (.int _ low),.d (.int _ high),.d (.sl n xs)]=>some (RV.d (dQ (fitL low high (ints xs)))) | _=>none) else
  if f=87 then gZ18 xs else
  none
 modes:=fun f=>
  none
 proc:=fun f xs bs=>
  none
 iter:=fun f cs=>
  none
theorem zYe (low high:Int) (l:List Int):Ans prog 93 [rJ (low),rJ (high),RV.d (dS l.length (is l))] (RV.d (dQ (fitL low high (ints (is l))))):=
 zQm (Γ:=jZV) (Ann.seq Ann.leaf (Ann.seq (Ann.seq Ann.leaf (Ann.loop ⟨Nat,fun k=>k≤l.length∧fitL low high (l.take k)=true,fun k=>⟨[(0,aJ low),(1,aJ high),(9,AV.one (Cl.d (dS l.length (is l)))),(10,aJ (l.length:Int)),(11,aJ (k:Int))],[]⟩,fun k=>l.length - k⟩ fun k=>Ann.leaf)) Ann.leaf)) zQB Tryz.func93 rfl (Nat.le_of_ble_eq_true rfl) fun hwf=>by
  refine Eq.mpr (by kernel_rfl:_=(let a:=(l.length:Int); let d:=fun (k:Nat)=>(k≤l.length∧fitL low high (l.take k)=true); let e:=(dJ low=dJ low); let f:=(dJ high=dJ high); let g:=(dS l.length (is l)=dS l.length (is l)); let h:=(dJ a=dJ a); let c:=(dQ (fitL low high (ints (is l)))); tU4 ((∃ k:Nat,(d k)∧((e∧f∧g∧h∧(dJ 0=dJ (k:Int))∧True)∧True))∧∀ k:Nat,let b:=(nAt (is l) ((k:Int).toNat*1)); (d k)→True∧(((decide ((k:Int) < a))=true→(0≤(k:Int)∧(k:Int) < a∧(k:Int).toNat*1 < (is l).length)∧(((is l)[(k:Int).toNat*1]?=some (dJ b))∧True)∧tU5 (((decide (b < low))=false→tU4 (((decide (b > high))=true→True∧RV.d (dQ false)=RV.d c)∧((decide (b > high))=false→tU2 (∃ k':Nat,(k'≤l.length∧fitL low high (l.take k')=true)∧(l.length - k' < l.length - k)∧((e∧f∧g∧h∧(dJ (wK ((k:Int)+1))=dJ (k':Int))∧True)∧True)))))∧((decide (b < low))=(!false)→tU2 (RV.d (dQ false)=RV.d c))))∧((decide ((k:Int) < a))=false→True∧RV.d (dQ true)=RV.d c))))) ?_
  delta tU2 tU4 tU5 dJ dQ wK dS
  simp only [sS]
  simp only [zQM]
  simp only [RV.wfs,RV.wf,DV.wf,maxLen] at hwf
  refine ⟨⟨0,⟨Nat.zero_le _,rfl⟩,rfl⟩,fun k hk=>⟨fun hlt=>?_,fun hge=>?_⟩⟩
  ·obtain ⟨k1,k2⟩:=hk
   have hk:k < l.length:=by omega
   obtain ⟨q1,q2⟩:=jVh hk
   have w1:IntKind.wrap .i64 ((k:Int)+1)=((k+1:Nat):Int):=by rw [IntWalk.i64_in _ ⟨by omega,by omega⟩]; omega
   simp only [Nat.mul_one,q2,w1]
   refine ⟨⟨by omega,by omega,by rw [zXe]; omega⟩,q1,fun h1=>⟨fun h2=>?_,fun h2=>?_⟩,fun h1=>?_⟩
   ·exact (zW5 hk (by simp; omega)).symm
   ·exact ⟨k+1,⟨by omega,by unfold fitL at k2 ⊢; rw [jZs hk,k2]; simp; omega⟩,by omega,rfl⟩
   ·exact (zW5 hk (by simp; omega)).symm
  ·obtain ⟨k1,k2⟩:=hk
   have:k=l.length:=by omega
   subst this
   rw [List.take_length] at k2
   exact k2.symm
theorem zY5 (l:List Int):Ans prog 51 [RV.d (dS l.length (is l))] (RV.d (dQ (fitL 0 255 (ints (is l))))):=
 zQm (Γ:=jZV) Ann.leaf zQB Tryz.func51 rfl (Nat.le_of_ble_eq_true rfl) fun hwf=>by
  refine Eq.mpr (by kernel_rfl:_=(let a:=(dQ (fitL (0:Int) (255:Int) (ints (is l)))); tU2 ((Ans prog 93 [rJ 0,rJ 255,RV.d (dS l.length (is l))] (RV.d a))∧True∧RV.d a=RV.d (dQ (fitL 0 255 (ints (is l))))))) ?_
  delta tU2 dQ dS rJ
  simp only [sS]
  simp only [zQM]
  have:=zYe 0 255 l
  simp only [zQM] at this
  exact this
theorem zYd (l:List Int):Ans prog 53 [RV.d (dS l.length (is l))] (RV.d (dQ (fitL 0 4294967295 (ints (is l))))):=
 zQm (Γ:=jZV) Ann.leaf zQB Tryz.func53 rfl (Nat.le_of_ble_eq_true rfl) fun hwf=>by
  refine Eq.mpr (by kernel_rfl:_=(let a:=(dQ (fitL (0:Int) (4294967295:Int) (ints (is l)))); tU2 ((Ans prog 93 [rJ 0,rJ 4294967295,RV.d (dS l.length (is l))] (RV.d a))∧True∧RV.d a=RV.d (dQ (fitL 0 4294967295 (ints (is l))))))) ?_
  delta tU2 dQ dS rJ
  simp only [sS]
  simp only [zQM]
  have:=zYe 0 4294967295 l
  simp only [zQM] at this
  exact this
theorem zYB (l:List Int):Ans prog 52 [RV.d (dS l.length (is l))] (RV.d (dQ (fitL (-2147483648) 2147483647 (ints (is l))))):=
 zQm (Γ:=jZV) Ann.leaf zQB Tryz.func52 rfl (Nat.le_of_ble_eq_true rfl) fun hwf=>by
  refine Eq.mpr (by kernel_rfl:_=(let a:=(dQ (fitL (-2147483648:Int) (2147483647:Int) (ints (is l)))); tU2 ((Ans prog 93 [rJ (-2147483648:Int),rJ 2147483647,RV.d (dS l.length (is l))] (RV.d a))∧True∧RV.d a=RV.d (dQ (fitL (-2147483648) 2147483647 (ints (is l))))))) ?_
  delta tU2 dQ dS rJ
  simp only [sS]
  simp only [zQM]
  have:=zYe (-2147483648) 2147483647 l
  simp only [zQM] at this
  exact this
theorem zVI (v size:Int) (sg:Bool) (hs:(size=1∧sg=false)∨size=4):Ans prog 87 [rJ (v),rJ (size),RV.d (dQ sg)] (RV.d (dQ (fitR size sg v))):=
 zQm (Γ:=jZV) Ann.leaf zQB Tryz.func87 rfl (Nat.le_of_ble_eq_true rfl) fun hwf=>by
  refine Eq.mpr (by kernel_rfl:_=(let a:=(dQ (fitR size sg v)); let c:=(RV.d (dQ false)=RV.d a); let b:=(wK ((8:Int)*size)); let d:=(wK (b - 1)); let e:=(0≤IntKind.wrap .u64 d); let f:=(IntKind.wrap .u64 d); let g:=(decide (v≥(wK ((-1:Int)*2 ^ min f.toNat 64)))); tU2 ((sg=true→tU5 (e∧tU2 ((g=true→tU5 (e∧tU3 (RV.d (dQ (decide (v < (wK ((1:Int)*2 ^ min f.toNat 64)))))=RV.d a)))∧(g=(!true)→tU2 c))))∧(sg=false→tU3 (((decide (v≥0))=true→tU4 ((0≤IntKind.wrap .u64 b)∧tU3 (RV.d (dQ (decide (v < (wK ((1:Int)*2 ^ min (IntKind.wrap .u64 b).toNat 64)))))=RV.d a)))∧((decide (v≥0))=(!true)→tU2 c)))))) ?_
  delta tU2 tU3 tU4 tU5 dQ wK
  simp only [sS]
  have e1:IntKind.wrap .i64 (8*1)=8:=by decide
  have e2:IntKind.wrap .i64 (8*4)=32:=by decide
  have e3:IntKind.wrap .u64 8=8:=by decide
  have e4:IntKind.wrap .u64 32=32:=by decide
  have e5:IntKind.wrap .u64 (IntKind.wrap .i64 (32 - 1))=31:=by decide
  have e6:IntKind.wrap .i64 (1*2 ^ min (8:Int).toNat 64)=256:=by decide
  have e7:IntKind.wrap .i64 (1*2 ^ min (32:Int).toNat 64)=4294967296:=by decide
  have e8:IntKind.wrap .i64 (1*2 ^ min (31:Int).toNat 64)=2147483648:=by decide
  have e9:IntKind.wrap .i64 (-1*2 ^ min (31:Int).toNat 64) = -2147483648:=by decide
  rcases hs with ⟨rfl,rfl⟩ | rfl
  ·rw [jZk]
   simp only [e1,e3,e6]
   refine ⟨fun h=>(by cases h),fun _=>⟨fun h=>⟨by omega,?_⟩,fun h=>?_⟩⟩
   ·rw [decide_eq_decide]; omega
   ·symm; simp; omega
  ·simp only [e2,e4,e5,e7,e8,e9]
   cases sg
   ·rw [zHy]
    refine ⟨fun h=>(by cases h),fun _=>⟨fun h=>⟨by omega,?_⟩,fun h=>?_⟩⟩
    ·rw [decide_eq_decide]; omega
    ·symm; simp; omega
   ·rw [jZj]
    refine ⟨fun _=>⟨by omega,fun h=>⟨by omega,?_⟩,fun h=>?_⟩,fun h=>(by cases h)⟩
    ·rw [decide_eq_decide]; omega
    ·symm; simp; omega
theorem zYi (size:Int) (sg:Bool) (l:List Int) (hs:(size=1∧sg=false)∨size=4):Ans prog 88 [rJ (size),RV.d (dQ sg),RV.d (dS l.length (is l))] (RV.d (dQ ((ints (is l)).all (fitR size sg)))):=
 zQm (Γ:=jZV) (Ann.seq Ann.leaf (Ann.seq (Ann.seq Ann.leaf (Ann.loop ⟨Nat,fun k=>k≤l.length∧(l.take k).all (fitR size sg)=true,fun k=>⟨[(0,aJ size),(1,AV.one (Cl.d (dQ sg))),(2,AV.one (Cl.d (dS l.length (is l)))),(7,aJ (k:Int))],[]⟩,fun k=>l.length - k⟩ fun k=>Ann.leaf)) Ann.leaf)) zQB Tryz.func88 rfl (Nat.le_of_ble_eq_true rfl) fun hwf=>by
  refine Eq.mpr (by kernel_rfl:_=(let b:=fun (k:Nat)=>(k≤l.length∧(l.take k).all (fitR size sg)=true); let c:=(dJ size=dJ size); let d:=(dS l.length (is l)=dS l.length (is l)); let e:=(dQ ((ints (is l)).all (fitR size sg))); tU2 ((∃ k:Nat,(b k)∧((c∧(dQ sg=dQ sg)∧d∧(dJ 0=dJ (k:Int))∧True)∧True))∧∀ k:Nat,let f:=(decide ((k:Int) < (l.length:Int))); let a:=(nAt (is l) ((k:Int).toNat*1)); (b k)→tU4 ((f=true→tU2 ((0≤(k:Int)∧(k:Int) < (l.length:Int)∧(k:Int).toNat*1 < (is l).length)∧(((is l)[(k:Int).toNat*1]?=some (dJ a))∧True)∧tU2 ((Ans prog 87 [rJ a,rJ size,RV.d (dQ sg)] (RV.d (dQ (fitR size sg a))))∧True∧(((!(fitR size sg a))=true→True∧RV.d (dQ false)=RV.d e)∧((!(fitR size sg a))=false→tU3 (∃ k':Nat,(k'≤l.length∧(l.take k').all (fitR size sg)=true)∧(l.length - k' < l.length - k)∧((c∧(dQ sg=dQ sg)∧d∧(dJ (wK ((k:Int)+1))=dJ (k':Int))∧True)∧True)))))))∧(f=false→True∧RV.d (dQ true)=RV.d e))))) ?_
  delta tU2 tU3 tU4 dJ dQ wK dS rJ
  simp only [sS]
  simp only [zQM]
  simp only [RV.wfs,RV.wf,DV.wf,maxLen] at hwf
  refine ⟨⟨0,⟨Nat.zero_le _,rfl⟩,rfl⟩,fun k hk=>⟨fun hlt=>?_,fun hge=>?_⟩⟩
  ·obtain ⟨k1,k2⟩:=hk
   have hk:k < l.length:=by omega
   obtain ⟨q1,q2⟩:=jVh hk
   have w1:IntKind.wrap .i64 ((k:Int)+1)=((k+1:Nat):Int):=by rw [IntWalk.i64_in _ ⟨by omega,by omega⟩]; omega
   simp only [Nat.mul_one,q2,w1]
   refine ⟨⟨by omega,by omega,by rw [zXe]; omega⟩,q1,zVI _ _ _ hs,fun h1=>(zW5 hk h1).symm,fun h1=>⟨k+1,⟨by omega,by rw [jZs hk,k2,h1]; rfl⟩,by omega,rfl⟩⟩
  ·obtain ⟨k1,k2⟩:=hk
   have:k=l.length:=by omega
   subst this
   rw [List.take_length] at k2
   exact k2.symm
end
def imQ (xs:List DV) (i:Nat):Im:=⟨(nAt xs (i)),(nAt xs (i+1)),(bAt xs (i+1+1)),⟨(nAt xs (i+1+1+1)),(nAt xs (i+1+1+1+1)),(nAt xs (i+1+1+1+1+1)),(nAt xs (i+1+1+1+1+1+1)),(nAt xs (i+1+1+1+1+1+1+1))⟩,⟨(nAt xs (i+1+1+1+1+1+1+1+1)),(nAt xs (i+1+1+1+1+1+1+1+1+1)),(nAt xs (i+1+1+1+1+1+1+1+1+1+1)),(lAt xs (i+1+1+1+1+1+1+1+1+1+1+1)),(cAt xs (i+1+1+1+1+1+1+1+1+1+1+1))⟩,⟨(nAt xs (i+1+1+1+1+1+1+1+1+1+1+1+1)),(nAt xs (i+1+1+1+1+1+1+1+1+1+1+1+1+1)),(nAt xs (i+1+1+1+1+1+1+1+1+1+1+1+1+1+1)),(lAt xs (i+1+1+1+1+1+1+1+1+1+1+1+1+1+1+1)),(cAt xs (i+1+1+1+1+1+1+1+1+1+1+1+1+1+1+1))⟩,⟨(nAt xs (i+1+1+1+1+1+1+1+1+1+1+1+1+1+1+1+1)),(nAt xs (i+1+1+1+1+1+1+1+1+1+1+1+1+1+1+1+1+1)),(nAt xs (i+1+1+1+1+1+1+1+1+1+1+1+1+1+1+1+1+1+1)),(lAt xs (i+1+1+1+1+1+1+1+1+1+1+1+1+1+1+1+1+1+1+1)),(cAt xs (i+1+1+1+1+1+1+1+1+1+1+1+1+1+1+1+1+1+1+1))⟩,⟨(nAt xs (i+1+1+1+1+1+1+1+1+1+1+1+1+1+1+1+1+1+1+1+1)),(nAt xs (i+1+1+1+1+1+1+1+1+1+1+1+1+1+1+1+1+1+1+1+1+1)),(nAt xs (i+1+1+1+1+1+1+1+1+1+1+1+1+1+1+1+1+1+1+1+1+1+1)),(lAt xs (i+1+1+1+1+1+1+1+1+1+1+1+1+1+1+1+1+1+1+1+1+1+1+1)),(cAt xs (i+1+1+1+1+1+1+1+1+1+1+1+1+1+1+1+1+1+1+1+1+1+1+1))⟩,⟨(nAt xs (i+1+1+1+1+1+1+1+1+1+1+1+1+1+1+1+1+1+1+1+1+1+1+1+1)),(nAt xs (i+1+1+1+1+1+1+1+1+1+1+1+1+1+1+1+1+1+1+1+1+1+1+1+1+1)),(nAt xs (i+1+1+1+1+1+1+1+1+1+1+1+1+1+1+1+1+1+1+1+1+1+1+1+1+1+1)),(lAt xs (i+1+1+1+1+1+1+1+1+1+1+1+1+1+1+1+1+1+1+1+1+1+1+1+1+1+1+1)),(cAt xs (i+1+1+1+1+1+1+1+1+1+1+1+1+1+1+1+1+1+1+1+1+1+1+1+1+1+1+1))⟩⟩
def imQr (xs:List DV) (i:Nat):Prop:=(xs[i]?=some (DV.int .i64 (nAt xs (i))))∧(xs[i+1]?=some (DV.int .i64 (nAt xs (i+1))))∧(xs[i+1+1]?=some (DV.bool (bAt xs (i+1+1))))∧(xs[i+1+1+1]?=some (DV.int .u16 (nAt xs (i+1+1+1))))∧(xs[i+1+1+1+1]?=some (DV.int .u16 (nAt xs (i+1+1+1+1))))∧(xs[i+1+1+1+1+1]?=some (DV.int .u16 (nAt xs (i+1+1+1+1+1))))∧(xs[i+1+1+1+1+1+1]?=some (DV.int .u16 (nAt xs (i+1+1+1+1+1+1))))∧(xs[i+1+1+1+1+1+1+1]?=some (DV.int .u16 (nAt xs (i+1+1+1+1+1+1+1))))∧(xs[i+1+1+1+1+1+1+1+1]?=some (DV.int .i64 (nAt xs (i+1+1+1+1+1+1+1+1))))∧(xs[i+1+1+1+1+1+1+1+1+1]?=some (DV.int .i64 (nAt xs (i+1+1+1+1+1+1+1+1+1))))∧(xs[i+1+1+1+1+1+1+1+1+1+1]?=some (DV.int .i64 (nAt xs (i+1+1+1+1+1+1+1+1+1+1))))∧(xs[i+1+1+1+1+1+1+1+1+1+1+1]?=some (DV.sl (lAt xs (i+1+1+1+1+1+1+1+1+1+1+1)) (cAt xs (i+1+1+1+1+1+1+1+1+1+1+1))))∧(xs[i+1+1+1+1+1+1+1+1+1+1+1+1]?=some (DV.int .i64 (nAt xs (i+1+1+1+1+1+1+1+1+1+1+1+1))))∧(xs[i+1+1+1+1+1+1+1+1+1+1+1+1+1]?=some (DV.int .i64 (nAt xs (i+1+1+1+1+1+1+1+1+1+1+1+1+1))))∧(xs[i+1+1+1+1+1+1+1+1+1+1+1+1+1+1]?=some (DV.int .i64 (nAt xs (i+1+1+1+1+1+1+1+1+1+1+1+1+1+1))))∧(xs[i+1+1+1+1+1+1+1+1+1+1+1+1+1+1+1]?=some (DV.sl (lAt xs (i+1+1+1+1+1+1+1+1+1+1+1+1+1+1+1)) (cAt xs (i+1+1+1+1+1+1+1+1+1+1+1+1+1+1+1))))∧(xs[i+1+1+1+1+1+1+1+1+1+1+1+1+1+1+1+1]?=some (DV.int .i64 (nAt xs (i+1+1+1+1+1+1+1+1+1+1+1+1+1+1+1+1))))∧(xs[i+1+1+1+1+1+1+1+1+1+1+1+1+1+1+1+1+1]?=some (DV.int .i64 (nAt xs (i+1+1+1+1+1+1+1+1+1+1+1+1+1+1+1+1+1))))∧(xs[i+1+1+1+1+1+1+1+1+1+1+1+1+1+1+1+1+1+1]?=some (DV.int .i64 (nAt xs (i+1+1+1+1+1+1+1+1+1+1+1+1+1+1+1+1+1+1))))∧(xs[i+1+1+1+1+1+1+1+1+1+1+1+1+1+1+1+1+1+1+1]?=some (DV.sl (lAt xs (i+1+1+1+1+1+1+1+1+1+1+1+1+1+1+1+1+1+1+1)) (cAt xs (i+1+1+1+1+1+1+1+1+1+1+1+1+1+1+1+1+1+1+1))))∧(xs[i+1+1+1+1+1+1+1+1+1+1+1+1+1+1+1+1+1+1+1+1]?=some (DV.int .i64 (nAt xs (i+1+1+1+1+1+1+1+1+1+1+1+1+1+1+1+1+1+1+1+1))))∧(xs[i+1+1+1+1+1+1+1+1+1+1+1+1+1+1+1+1+1+1+1+1+1]?=some (DV.int .i64 (nAt xs (i+1+1+1+1+1+1+1+1+1+1+1+1+1+1+1+1+1+1+1+1+1))))∧(xs[i+1+1+1+1+1+1+1+1+1+1+1+1+1+1+1+1+1+1+1+1+1+1]?=some (DV.int .i64 (nAt xs (i+1+1+1+1+1+1+1+1+1+1+1+1+1+1+1+1+1+1+1+1+1+1))))∧(xs[i+1+1+1+1+1+1+1+1+1+1+1+1+1+1+1+1+1+1+1+1+1+1+1]?=some (DV.sl (lAt xs (i+1+1+1+1+1+1+1+1+1+1+1+1+1+1+1+1+1+1+1+1+1+1+1)) (cAt xs (i+1+1+1+1+1+1+1+1+1+1+1+1+1+1+1+1+1+1+1+1+1+1+1))))∧(xs[i+1+1+1+1+1+1+1+1+1+1+1+1+1+1+1+1+1+1+1+1+1+1+1+1]?=some (DV.int .i64 (nAt xs (i+1+1+1+1+1+1+1+1+1+1+1+1+1+1+1+1+1+1+1+1+1+1+1+1))))∧(xs[i+1+1+1+1+1+1+1+1+1+1+1+1+1+1+1+1+1+1+1+1+1+1+1+1+1]?=some (DV.int .i64 (nAt xs (i+1+1+1+1+1+1+1+1+1+1+1+1+1+1+1+1+1+1+1+1+1+1+1+1+1))))∧(xs[i+1+1+1+1+1+1+1+1+1+1+1+1+1+1+1+1+1+1+1+1+1+1+1+1+1+1]?=some (DV.int .i64 (nAt xs (i+1+1+1+1+1+1+1+1+1+1+1+1+1+1+1+1+1+1+1+1+1+1+1+1+1+1))))∧(xs[i+1+1+1+1+1+1+1+1+1+1+1+1+1+1+1+1+1+1+1+1+1+1+1+1+1+1+1]?=some (DV.sl (lAt xs (i+1+1+1+1+1+1+1+1+1+1+1+1+1+1+1+1+1+1+1+1+1+1+1+1+1+1+1)) (cAt xs (i+1+1+1+1+1+1+1+1+1+1+1+1+1+1+1+1+1+1+1+1+1+1+1+1+1+1+1))))∧True
def oqQ (xs:List DV) (i:Nat):Oq:=⟨(nAt xs (i)),(nAt xs (i+1)),(nAt xs (i+1+1)),(nAt xs (i+1+1+1)),(nAt xs (i+1+1+1+1)),(nAt xs (i+1+1+1+1+1)),(nAt xs (i+1+1+1+1+1+1)),(nAt xs (i+1+1+1+1+1+1+1)),(nAt xs (i+1+1+1+1+1+1+1+1)),(nAt xs (i+1+1+1+1+1+1+1+1+1)),(bAt xs (i+1+1+1+1+1+1+1+1+1+1)),(bAt xs (i+1+1+1+1+1+1+1+1+1+1+1))⟩
def oqQr (xs:List DV) (i:Nat):Prop:=(xs[i]?=some (DV.int .i64 (nAt xs (i))))∧(xs[i+1]?=some (DV.int .i64 (nAt xs (i+1))))∧(xs[i+1+1]?=some (DV.int .i64 (nAt xs (i+1+1))))∧(xs[i+1+1+1]?=some (DV.int .i64 (nAt xs (i+1+1+1))))∧(xs[i+1+1+1+1]?=some (DV.int .i64 (nAt xs (i+1+1+1+1))))∧(xs[i+1+1+1+1+1]?=some (DV.int .i64 (nAt xs (i+1+1+1+1+1))))∧(xs[i+1+1+1+1+1+1]?=some (DV.int .i64 (nAt xs (i+1+1+1+1+1+1))))∧(xs[i+1+1+1+1+1+1+1]?=some (DV.int .u16 (nAt xs (i+1+1+1+1+1+1+1))))∧(xs[i+1+1+1+1+1+1+1+1]?=some (DV.int .i64 (nAt xs (i+1+1+1+1+1+1+1+1))))∧(xs[i+1+1+1+1+1+1+1+1+1]?=some (DV.int .i64 (nAt xs (i+1+1+1+1+1+1+1+1+1))))∧(xs[i+1+1+1+1+1+1+1+1+1+1]?=some (DV.bool (bAt xs (i+1+1+1+1+1+1+1+1+1+1))))∧(xs[i+1+1+1+1+1+1+1+1+1+1+1]?=some (DV.bool (bAt xs (i+1+1+1+1+1+1+1+1+1+1+1))))∧True
def pxQ (xs:List DV) (i:Nat):Px:=⟨(nAt xs (i)),(nAt xs (i+1)),(nAt xs (i+1+1)),(nAt xs (i+1+1+1)),(nAt xs (i+1+1+1+1))⟩
def pxQr (xs:List DV) (i:Nat):Prop:=(xs[i]?=some (DV.int .u16 (nAt xs (i))))∧(xs[i+1]?=some (DV.int .u16 (nAt xs (i+1))))∧(xs[i+1+1]?=some (DV.int .u16 (nAt xs (i+1+1))))∧(xs[i+1+1+1]?=some (DV.int .u16 (nAt xs (i+1+1+1))))∧(xs[i+1+1+1+1]?=some (DV.int .u16 (nAt xs (i+1+1+1+1))))∧True
def imC (m:Im):List Cl:=[Cl.d (DV.int .i64 m.w),Cl.d (DV.int .i64 m.h),Cl.d (DV.bool m.so),Cl.d (DV.int .u16 m.c.a),Cl.d (DV.int .u16 m.c.b),Cl.d (DV.int .u16 m.c.c),Cl.d (DV.int .u16 m.c.al),Cl.d (DV.int .u16 m.c.f),Cl.d (DV.int .i64 m.p0.w),Cl.d (DV.int .i64 m.p0.h),Cl.d (DV.int .i64 m.p0.s),Cl.d (DV.sl m.p0.n m.p0.xs),Cl.d (DV.int .i64 m.p1.w),Cl.d (DV.int .i64 m.p1.h),Cl.d (DV.int .i64 m.p1.s),Cl.d (DV.sl m.p1.n m.p1.xs),Cl.d (DV.int .i64 m.p2.w),Cl.d (DV.int .i64 m.p2.h),Cl.d (DV.int .i64 m.p2.s),Cl.d (DV.sl m.p2.n m.p2.xs),Cl.d (DV.int .i64 m.p3.w),Cl.d (DV.int .i64 m.p3.h),Cl.d (DV.int .i64 m.p3.s),Cl.d (DV.sl m.p3.n m.p3.xs),Cl.d (DV.int .i64 m.p4.w),Cl.d (DV.int .i64 m.p4.h),Cl.d (DV.int .i64 m.p4.s),Cl.d (DV.sl m.p4.n m.p4.xs)]
def oqC (m:Oq):List Cl:=[Cl.d (DV.int .i64 m.kind),Cl.d (DV.int .i64 m.image),Cl.d (DV.int .i64 m.x),Cl.d (DV.int .i64 m.y),Cl.d (DV.int .i64 m.mask),Cl.d (DV.int .i64 m.mx),Cl.d (DV.int .i64 m.my),Cl.d (DV.int .u16 m.opac),Cl.d (DV.int .i64 m.oper),Cl.d (DV.int .i64 m.mode),Cl.d (DV.bool m.iso),Cl.d (DV.bool m.kno)]
def oqD (m:Oq):AV:=AV.agg [Cl.d (DV.int .i64 m.kind),Cl.d (DV.int .i64 m.image),Cl.d (DV.int .i64 m.x),Cl.d (DV.int .i64 m.y),Cl.d (DV.int .i64 m.mask),Cl.d (DV.int .i64 m.mx),Cl.d (DV.int .i64 m.my),Cl.d (DV.int .u16 m.opac),Cl.d (DV.int .i64 m.oper),Cl.d (DV.int .i64 m.mode),Cl.d (DV.bool m.iso),Cl.d (DV.bool m.kno)]
def pxC (m:Px):List Cl:=[Cl.d (DV.int .u16 m.a),Cl.d (DV.int .u16 m.b),Cl.d (DV.int .u16 m.c),Cl.d (DV.int .u16 m.al),Cl.d (DV.int .u16 m.f)]
def pxD (m:Px):AV:=AV.agg [Cl.d (DV.int .u16 m.a),Cl.d (DV.int .u16 m.b),Cl.d (DV.int .u16 m.c),Cl.d (DV.int .u16 m.al),Cl.d (DV.int .u16 m.f)]
def zXp (m:Im):Int:=if m.so then 19 else 9+10*(m.w*m.h)
def zQ1:List Im→Int
 | []=>0
 | m::l=>zXp m+zQ1 l
theorem zKj:∀ (l m:List Im),zQ1 (l++m)=zQ1 l+zQ1 m
 | [],m=>by simp [zQ1]
 | a::l,m=>by rw [List.cons_append,zQ1,zQ1,zKj l m]; omega
def opOk (o:Oq):Bool:=fitL 0 255 [o.kind,o.image,o.mask,o.oper,o.mode] && fitL (-2147483648) 2147483647 [o.x,o.y,o.mx,o.my]
def zX7 (s:Scr):Bool:=
 fitL 0 255 [s.bits] && fitL (-2147483648) 2147483647 [s.c.a,s.c.b,s.c.c,s.c.d] && fitL 0 4294967295 [s.tw,s.th] && fitL 0 4294967295 s.ord && decide (s.ims.length≤64) && decide (s.ops.length≤4096)
def zXr (s:Scr) (l:List Im):Int:=34+4*(s.ord.length:Int)+24*(s.ops.length:Int)+zQ1 l
def zZR (s:Scr):Bool:=zX7 s && s.ims.all Im.formed && s.ops.all opOk && decide (zXr s s.ims≤67108864)
section
attribute [local irreducible] Ans AnsO AnsG AnsN AnsI
theorem zGP (m:Im):(m.valid 0=0∨m.valid 0=8)↔m.formed=true:=by
 unfold Im.valid Im.formed
 cases zQZ m.w m.h <;> cases m.inner <;> simp
 repeat' split
 all_goals omega
theorem all_take' {α:Type} {f:α→Bool} {l:List α} {k:Nat} (h:k < l.length):(l.take (k+1)).all f=((l.take k).all f && f l[k]):=by
 rw [List.take_succ_eq_append_getElem h,List.all_append]
 simp
theorem all_false' {α:Type} {f:α→Bool} {l:List α} {k:Nat} (h:k < l.length) (hf:f l[k]=false):l.all f=false:=by
 rw [List.all_eq_false]
 exact ⟨l[k],List.getElem_mem h,by rw [hf]; simp⟩
theorem zWa {m:Im} (h:m.formed=true):19≤zXp m∧zXp m≤167772169∧1≤m.w*m.h∧m.w*m.h≤16777216:=by
 have h1:zQZ m.w m.h=true:=by unfold Im.formed at h; exact (Bool.and_eq_true_iff.1 h).1
 have h2:1≤m.w*m.h∧m.w*m.h≤16777216:=by
  simp only [zQZ,Bool.and_eq_true,decide_eq_true_eq] at h1
  have:0 < m.w*m.h:=Int.mul_pos (by omega) (by omega)
  omega
 unfold zXp
 split <;> omega
theorem zVt {l:List Im} {k:Nat} (h:k < l.length):zQ1 (l.take (k+1))=zQ1 (l.take k)+zXp l[k]:=by
 rw [List.take_succ_eq_append_getElem h,zKj]
 simp [zQ1]
theorem zXJ {l:List Im} (h:l.all Im.formed=true):0≤zQ1 l∧zQ1 l≤167772169*(l.length:Int):=by
 induction l with
 | nil=>simp [zQ1]
 | cons m l ih=>
  simp only [List.all_cons,Bool.and_eq_true] at h
  have:=ih h.2
  have:=zWa h.1
  simp only [zQ1,List.length_cons]
  omega
def jVp:Gam where
 pure:=fun f xs=>
  if f=94 then gZ14 xs else
  if f=51 then (match xs with | [.d (.sl n xs)]=>some (RV.d (dQ (fitL 0 255 (ints xs)))) | _=>none) else
  if f=52 then (match xs with | [.d (.sl n xs)]=>some (RV.d (dQ (fitL (-2147483648) 2147483647 (ints xs)))) | _=>none) else
  if f=53 then (match xs with | [.d (.sl n xs)]=>some (RV.d (dQ (fitL 0 4294967295 (ints xs)))) | _=>none) else
  if f=54 then gZ11 xs else
  none
 modes:=fun f=>
  none
 proc:=fun f xs bs=>
  none
 iter:=fun f cs=>
  none
theorem zJk (m:Im) (hu:m.isU):Ans prog 54 [RV.agg [dJ m.w,dJ m.h,dQ m.so,dK m.c.a,dK m.c.b,dK m.c.c,dK m.c.al,dK m.c.f,dJ m.p0.w,dJ m.p0.h,dJ m.p0.s,dS m.p0.n m.p0.xs,dJ m.p1.w,dJ m.p1.h,dJ m.p1.s,dS m.p1.n m.p1.xs,dJ m.p2.w,dJ m.p2.h,dJ m.p2.s,dS m.p2.n m.p2.xs,dJ m.p3.w,dJ m.p3.h,dJ m.p3.s,dS m.p3.n m.p3.xs,dJ m.p4.w,dJ m.p4.h,dJ m.p4.s,dS m.p4.n m.p4.xs]] (RV.d (dQ (Im.formed m))):=
 zQm (Γ:=jVp) Ann.leaf zQB Tryz.func54 rfl (Nat.le_of_ble_eq_true rfl) fun hwf=>by
  refine Eq.mpr (by kernel_rfl:_=(let a:=(Im.valid m (0:Int)); let b:=(a==0); tU3 ((Ans prog 94 [(imR m),RV.d (dK 0)] (rJ a))∧tU4 ((b=false→tU4 (RV.d (dQ (a==8))=RV.d (dQ (Im.formed m))))∧(b=(!false)→tU2 (RV.d (dQ true)=RV.d (dQ (Im.formed m)))))))) ?_
  delta tU2 tU3 tU4 dK dQ rJ
  simp only [sS]
  have:=zUh m 0 hu
  have hf:=zGP m
  refine ⟨this,fun q1=>?_,fun q1=>?_⟩
  ·have q1:¬ m.valid 0=0:=by simpa using q1
   by_cases q2:m.valid 0=8
   ·rw [hf.1 (.inr q2),q2]; rfl
   ·cases q3:m.formed with
    | true=>have:=hf.2 q3; omega
    | false=>simp [q2]
  ·have q1:m.valid 0=0:=by simpa using q1
   exact (hf.1 (.inl q1)).symm
theorem zX2 (s:Scr) (hM:∀ m∈s.ims,m.isU) (hos:s.ord.length≤17592186044416):Ans prog 24 [RV.agg [dJ s.bits,dJ s.c.a,dJ s.c.b,dJ s.c.c,dJ s.c.d,dJ s.tw,dJ s.th,dS s.ord.length (is s.ord),dS s.ims.length (ims s.ims),dS s.ops.length (ops s.ops)]] (RV.d (dQ (zZR s))):=
 zQm (Γ:=jVp) (let a:=(dS s.ims.length (ims s.ims)); let b:=(dS s.ops.length (ops s.ops)); (Ann.seq Ann.leaf (Ann.seq Ann.leaf (Ann.seq Ann.leaf (Ann.seq (Ann.seq Ann.leaf (Ann.loop ⟨Nat,fun k=>k≤s.ims.length∧(s.ims.take k).all Im.formed=true,fun k=>⟨[(1,AV.one (Cl.ptr 1 0)),(3,aJ (zXr s (s.ims.take k))),(69,AV.one (Cl.d a)),(70,aJ (s.ims.length:Int)),(71,aJ (k:Int))],[(1,bC [cJ s.bits,cJ s.c.a,cJ s.c.b,cJ s.c.c,cJ s.c.d,cJ s.tw,cJ s.th,Cl.d (dS s.ord.length (is s.ord)),Cl.d a,Cl.d b])]⟩,fun k=>s.ims.length - k⟩ fun k=>Ann.leaf)) (Ann.seq (Ann.seq Ann.leaf (Ann.loop ⟨Nat,fun j=>j≤s.ops.length∧(s.ops.take j).all opOk=true,fun j=>⟨[(3,aJ (zXr s s.ims)),(93,AV.one (Cl.d b)),(94,aJ (s.ops.length:Int)),(95,aJ (j:Int))],[]⟩,fun j=>s.ops.length - j⟩ fun j=>Ann.leaf)) Ann.leaf)))))) zQB Tryz.func24 rfl (Nat.le_of_ble_eq_true rfl) fun hwf=>by
  refine Eq.mpr (by kernel_rfl:_=(let h:=(ints ([dJ s.bits])); let t:=(!(fitL 0 4294967295 (ints (is s.ord)))); let e:=(zXr s s.ims); let d:=(dQ (zZR s)); let c:=(RV.d (dQ false)=RV.d d); let a:=(s.ops.length:Int); let b:=(s.ims.length:Int); let i:=([dJ s.tw,dJ s.th]); let u:=(!(fitL 0 4294967295 (ints i))); let l:=([dJ s.c.a,dJ s.c.b,dJ s.c.c,dJ s.c.d]); let v:=(!(fitL (-2147483648) 2147483647 (ints l))); let w:=fun (k:Nat)=>(k≤s.ims.length∧(s.ims.take k).all Im.formed=true); let m:=(dS s.ims.length (ims s.ims)=dS s.ims.length (ims s.ims)); let n:=(dJ b=dJ b); let x:=[dJ s.bits,dJ s.c.a,dJ s.c.b,dJ s.c.c,dJ s.c.d,dJ s.tw,dJ s.th,dS s.ord.length (is s.ord),dS s.ims.length (ims s.ims),dS s.ops.length (ops s.ops)]; let o:=((x=x)∧True); let y:=fun (k':Nat)=>(k'≤s.ims.length∧(s.ims.take k').all Im.formed=true); let z:=fun (k:Nat)=>fun (k':Nat)=>(s.ims.length - k' < s.ims.length - k); let A:=fun (k:Nat)=>fun (k':Nat)=>(dJ (wK ((k:Int)+1))=dJ (k':Int)); let B:=fun (j:Nat)=>(j≤s.ops.length∧(s.ops.take j).all opOk=true); let C:=(dS s.ops.length (ops s.ops)=dS s.ops.length (ops s.ops)); let D:=(dJ a=dJ a); tU5 ((Ans prog 51 [RV.d (dS 1 ([dJ s.bits]))] (RV.d (dQ (fitL 0 255 h))))∧tU2 (((!(fitL 0 255 h))=false→tU5 (tU8 ((Ans prog 52 [RV.d (dS 4 l)] (RV.d (dQ (fitL (-2147483648) 2147483647 (ints l)))))∧tU3 ((v=false→tU5 ((Ans prog 53 [RV.d (dS 2 i)] (RV.d (dQ (fitL 0 4294967295 (ints i)))))∧tU3 ((u=false→tU2 ((Ans prog 53 [RV.d (dS s.ord.length (is s.ord))] (RV.d (dQ (fitL 0 4294967295 (ints (is s.ord))))))∧tU3 ((t=false→tU6 (((decide (b > 64))=false→tU5 (((decide (a > 4096))=true→True∧RV.d (dQ false)=RV.d d)∧((decide (a > 4096))=false→tU7 (tU8 ((∃ k:Nat,(w k)∧(((0=0)∧(dJ (wK ((wK ((34:Int)+(wK ((4:Int)*(s.ord.length:Int)))))+(wK ((24:Int)*a))))=dJ (zXr s (s.ims.take k)))∧m∧n∧(dJ 0=dJ (k:Int))∧True)∧o))∧∀ k:Nat,let p:=((k:Int).toNat*28); let E:=(!(bAt (ims s.ims) ((k:Int).toNat*28+1+1))); let q:=(zXr s (s.ims.take k)); let f:=(imQ (ims s.ims) p); (w k)→True∧(((decide ((k:Int) < b))=true→(0≤(k:Int)∧(k:Int) < b∧(k:Int).toNat*28 < (ims s.ims).length)∧(imQr (ims s.ims) p)∧tU3 ((Ans prog 54 [imR f] (RV.d (dQ (Im.formed f))))∧True∧(((!(Im.formed f))=true→True∧RV.d (dQ false)=RV.d d)∧((!(Im.formed f))=false→tU4 ((E=true→tU6 (tU8 (∃ k':Nat,(y k')∧(z k k')∧(((0=0)∧(dJ (wK (q+(wK ((9:Int)+(wK ((10:Int)*(wK ((nAt (ims s.ims) p)*(nAt (ims s.ims) ((k:Int).toNat*28+1))))))))))=dJ (zXr s (s.ims.take k')))∧m∧n∧(A k k')∧True)∧o))))∧(E=false→tU8 (∃ k':Nat,(y k')∧(z k k')∧(((0=0)∧(dJ (wK (q+(wK ((9:Int)+(wK ((10:Int)*1))))))=dJ (zXr s (s.ims.take k')))∧m∧n∧(A k k')∧True)∧o))))))))∧((decide ((k:Int) < b))=false→tU4 ((∃ j:Nat,(B j)∧(((dJ q=dJ e)∧C∧D∧(dJ 0=dJ (j:Int))∧True)∧True))∧∀ j:Nat,let g:=([dJ (nAt (ops s.ops) ((j:Int).toNat*12)),dJ (nAt (ops s.ops) ((j:Int).toNat*12+1)),dJ (nAt (ops s.ops) ((j:Int).toNat*12+1+1+1+1)),dJ (nAt (ops s.ops) ((j:Int).toNat*12+1+1+1+1+1+1+1+1)),dJ (nAt (ops s.ops) ((j:Int).toNat*12+1+1+1+1+1+1+1+1+1))]); let r:=([dJ (nAt (ops s.ops) ((j:Int).toNat*12+1+1)),dJ (nAt (ops s.ops) ((j:Int).toNat*12+1+1+1)),dJ (nAt (ops s.ops) ((j:Int).toNat*12+1+1+1+1+1)),dJ (nAt (ops s.ops) ((j:Int).toNat*12+1+1+1+1+1+1))]); let F:=(!(fitL (-2147483648) 2147483647 (ints r))); (B j)→True∧(((decide ((j:Int) < a))=true→(0≤(j:Int)∧(j:Int) < a∧(j:Int).toNat*12 < (ops s.ops).length)∧(oqQr (ops s.ops) ((j:Int).toNat*12))∧tU5 (tU8 ((Ans prog 51 [RV.d (dS 5 g)] (RV.d (dQ (fitL 0 255 (ints g)))))∧tU2 (((!(fitL 0 255 (ints g)))=false→True∧tU8 ((Ans prog 52 [RV.d (dS 4 r)] (RV.d (dQ (fitL (-2147483648) 2147483647 (ints r)))))∧tU2 ((F=true→True∧RV.d (dQ false)=RV.d d)∧(F=false→tU2 (∃ j':Nat,(j'≤s.ops.length∧(s.ops.take j').all opOk=true)∧(s.ops.length - j' < s.ops.length - j)∧(((dJ e=dJ e)∧C∧D∧(dJ (wK ((j:Int)+1))=dJ (j':Int))∧True)∧True))))))∧((!(fitL 0 255 (ints g)))=(!false)→tU2 c)))))∧((decide ((j:Int) < a))=false→tU3 (RV.d (dQ (decide (e≤67108864)))=RV.d d)))))))))))∧((decide (b > 64))=(!false)→tU2 c)))∧(t=(!false)→tU4 c))))∧(u=(!false)→tU6 c))))∧(v=(!false)→tU8 c)))))∧((!(fitL 0 255 h))=(!false)→tU2 (tU8 c)))))) ?_
  delta tU2 tU3 tU4 tU5 tU6 tU7 tU8 dJ dQ wK dS
  simp only [sS,imQ,imQr,oqQr]
  have a1:=zY5 [s.bits]
  have a2:=zYB [s.c.a,s.c.b,s.c.c,s.c.d]
  have a3:=zYd [s.tw,s.th]
  have a4:=zYd s.ord
  clear hwf
  have fal:zX7 s=false→false=zZR s:=fun h=>by simp [zZR,h]
  simp only [zQM] at a4 ⊢
  refine ⟨a1,fun h1=>⟨a2,fun h2=>⟨a3,fun h3=>⟨a4,fun h4=>⟨fun h5=>⟨fun h6=>?_,fun h6=>?_⟩,fun h5=>?_⟩,fun h4=>?_⟩,fun h3=>?_⟩,fun h2=>?_⟩,fun h1=>?_⟩
  ·exact fal (by simp [zX7]; omega)
  ·have g1:fitL 0 255 [s.bits]=true:=h1
   have g2:fitL (-2147483648) 2147483647 [s.c.a,s.c.b,s.c.c,s.c.d]=true:=h2
   have g3:fitL 0 4294967295 [s.tw,s.th]=true:=h3
   have hd:zX7 s=true:=by simp only [zX7,g1,g2,g3,h4,Bool.and_true,Bool.true_and,Bool.and_eq_true,decide_eq_true_eq]; omega
   have w0:∀ n:Int,-1000000000000000≤n→n≤1000000000000000→IntKind.wrap .i64 n=n:=fun n a b=>IntWalk.i64_in _ ⟨by omega,by omega⟩
   have hs0:IntKind.wrap .i64 (IntKind.wrap .i64 (34+IntKind.wrap .i64 (4*(s.ord.length:Int)))+IntKind.wrap .i64 (24*(s.ops.length:Int)))=zXr s []:=by
    rw [w0 (4*(s.ord.length:Int)) (by omega) (by omega),w0 (34+4*(s.ord.length:Int)) (by omega) (by omega),w0 (24*(s.ops.length:Int)) (by omega) (by omega),w0 _ (by omega) (by omega)]
    simp [zXr,zQ1]
   refine ⟨⟨0,⟨Nat.zero_le _,by simp⟩,by rw [hs0]; rfl,rfl⟩,fun k hk=>⟨fun hlt=>?_,fun hge=>?_⟩⟩
   ·obtain ⟨k1,k2⟩:=hk
    have hk:k < s.ims.length:=by omega
    have q1:=zWG hk
    have q2:=zWH hk
    have w1:IntKind.wrap .i64 ((k:Int)+1)=((k+1:Nat):Int):=by rw [w0 _ (by omega) (by omega)]; omega
    have wf:=zJk s.ims[k] (hM _ (List.getElem_mem hk))
    simp only [q2,w1]
    refine ⟨⟨by omega,by omega,by rw [zZO]; omega⟩,q1,wf,fun h7=>?_,fun h7=>?_⟩
    ·have h7:s.ims[k].formed=false:=h7
     simp [zZR,all_false' hk h7]
    ·have h7:s.ims[k].formed=true:=h7
     have hz:=zWa h7
     have hzl:=zXJ k2
     have hl:(s.ims.take k).length≤64:=by rw [List.length_take]; omega
     have hz2:zXr s (s.ims.take (k+1))=zXr s (s.ims.take k)+zXp s.ims[k]:=by simp only [zXr,zVt hk]; omega
     have hz3:0≤zXr s (s.ims.take k)∧zXr s (s.ims.take k)≤100000000000000:=by simp only [zXr]; omega
     have hin:k+1≤s.ims.length∧(s.ims.take (k+1)).all Im.formed=true:=⟨by omega,by rw [all_take' hk,k2,h7]; rfl⟩
     refine ⟨fun h8=>⟨k+1,hin,by omega,?_,rfl⟩,fun h8=>⟨k+1,hin,by omega,?_,rfl⟩⟩
     ·have hsz:zXp s.ims[k]=9+10*(s.ims[k].w*s.ims[k].h):=by unfold zXp; rw [if_neg (by rw [h8]; simp)]
      rw [hz2,hsz]
      generalize s.ims[k].w*s.ims[k].h=a at *
      rw [w0 a (by omega) (by omega),w0 (10*a) (by omega) (by omega),w0 (9+10*a) (by omega) (by omega),w0 _ (by omega) (by omega)]
     ·have hsz:zXp s.ims[k]=19:=by unfold zXp; rw [if_pos h8]
      rw [hz2,hsz]
      rw [w0 (10*1) (by omega) (by omega),w0 (9+10*1) (by omega) (by omega),w0 _ (by omega) (by omega)]
      omega
   ·obtain ⟨k1,k2⟩:=hk
    have:k=s.ims.length:=by omega
    subst this
    rw [List.take_length] at k2
    refine ⟨⟨0,⟨Nat.zero_le _,by simp⟩,by rw [List.take_length],rfl⟩,fun j hj=>⟨fun hlt=>?_,fun hge=>?_⟩⟩
    ·obtain ⟨j1,j2⟩:=hj
     have hj:j < s.ops.length:=by omega
     have q1:=zVy hj
     have q2:=zVz hj
     have w1:IntKind.wrap .i64 ((j:Int)+1)=((j+1:Nat):Int):=by rw [w0 _ (by omega) (by omega)]; omega
     have b1:=zY5 [s.ops[j].kind,s.ops[j].image,s.ops[j].mask,s.ops[j].oper,s.ops[j].mode]
     have b2:=zYB [s.ops[j].x,s.ops[j].y,s.ops[j].mx,s.ops[j].my]
     simp only [q2,w1]
     have bad:opOk s.ops[j]=false→false=zZR s:=fun h=>by simp [zZR,all_false' hj h]
     refine ⟨⟨by omega,by omega,by rw [zZp]; omega⟩,q1,b1,fun h7=>⟨b2,fun h8=>bad ?_,fun h8=>⟨j+1,⟨by omega,?_⟩,by omega,rfl⟩⟩,fun h7=>bad ?_⟩
     ·have h8:fitL (-2147483648) 2147483647 [s.ops[j].x,s.ops[j].y,s.ops[j].mx,s.ops[j].my]=false:=h8
      simp [opOk,h8]
     ·have h7:fitL 0 255 [s.ops[j].kind,s.ops[j].image,s.ops[j].mask,s.ops[j].oper,s.ops[j].mode]=true:=h7
      have h8:fitL (-2147483648) 2147483647 [s.ops[j].x,s.ops[j].y,s.ops[j].mx,s.ops[j].my]=true:=h8
      rw [all_take' hj,j2]
      simp [opOk,h7,h8]
     ·have h7:fitL 0 255 [s.ops[j].kind,s.ops[j].image,s.ops[j].mask,s.ops[j].oper,s.ops[j].mode]=false:=h7
      simp [opOk,h7]
    ·obtain ⟨j1,j2⟩:=hj
     have:j=s.ops.length:=by omega
     subst this
     rw [List.take_length] at j2
     simp [zZR,hd,k2,j2]
  ·exact fal (by simp [zX7]; omega)
  ·exact fal (by simp [zX7,h4])
  ·have h3:fitL 0 4294967295 [s.tw,s.th]=false:=h3
   exact fal (by simp [zX7,h3])
  ·have h2:fitL (-2147483648) 2147483647 [s.c.a,s.c.b,s.c.c,s.c.d]=false:=h2
   exact fal (by simp [zX7,h2])
  ·have h1:fitL 0 255 [s.bits]=false:=h1
   exact fal (by simp [zX7,h1])
def zXs (s:Scr) (l:List Im):Int:=34+4*min (s.ord.length:Int) 67108864+24*(s.ops.length:Int)+zQ1 l
def lenR (s:Scr):Int:=if zXs s s.ims≤67108864 then zXs s s.ims else -1
theorem jZe {m:Im} (h:m.formed=true):1≤m.w∧m.w≤16777216:=by
 have h1:zQZ m.w m.h=true:=by unfold Im.formed at h; exact (Bool.and_eq_true_iff.1 h).1
 simp only [zQZ,Bool.and_eq_true,decide_eq_true_eq] at h1
 have:m.w*1≤m.w*m.h:=Int.mul_le_mul_of_nonneg_left (by omega) (by omega)
 omega
theorem zGT {l:List Im} {k:Nat} (h:l.all Im.formed=true):zQ1 (l.take k)≤zQ1 l:=by
 have h1:=zKj (l.take k) (l.drop k)
 rw [List.take_append_drop] at h1
 have h2:(l.drop k).all Im.formed=true:=by
  rw [List.all_eq_true] at h ⊢
  exact fun m hm=>h m (List.mem_of_mem_drop hm)
 have:=zXJ h2
 omega
def jVo:Gam where
 pure:=fun f xs=>
  if f=66 then gZ11 xs else
  if f=87 then gZ18 xs else
  if f=88 then (match xs with | [.d (.int _ size),.d (.bool sg),.d (.sl n xs)]=>some (RV.d (dQ ((ints xs).all (fitR size sg)))) | _=>none) else
  if f=89 then (match xs with | [.agg [.int _ bits,.int _ cx0,.int _ cy0,.int _ cx1,.int _ cy1,.int _ tw,.int _ th,.sl on oxs,.sl mn mxs,.sl pn pxs]]=>some (rJ (lenR (⟨bits,⟨cx0,cy0,cx1,cy1⟩,tw,th,ints oxs,zQN mxs,zQG pxs⟩:Scr))) | _=>none) else
  none
 modes:=fun f=>
  none
 proc:=fun f xs bs=>
  none
 iter:=fun f cs=>
  none
theorem zUk (s:Scr) (hF:s.ims.all Im.formed=true) (ho:s.ops.length≤4096) (hil0:s.ims.length≤9223372036854775807):Ans prog 89 [RV.agg [dJ s.bits,dJ s.c.a,dJ s.c.b,dJ s.c.c,dJ s.c.d,dJ s.tw,dJ s.th,dS s.ord.length (is s.ord),dS s.ims.length (ims s.ims),dS s.ops.length (ops s.ops)]] (rJ ((lenR s))):=
 zQm (Γ:=jVo) (Ann.seq Ann.leaf (Ann.seq Ann.leaf (Ann.seq (Ann.seq Ann.leaf (Ann.loop ⟨Nat,fun k=>k≤s.ims.length∧zQ1 (s.ims.take k)≤67108864,fun k=>⟨[(1,AV.one (Cl.ptr 1 0)),(3,aJ (zXs s (s.ims.take k))),(4,aJ (k:Int))],[(1,bC [cJ s.bits,cJ s.c.a,cJ s.c.b,cJ s.c.c,cJ s.c.d,cJ s.tw,cJ s.th,Cl.d (dS s.ord.length (is s.ord)),Cl.d (dS s.ims.length (ims s.ims)),Cl.d (dS s.ops.length (ops s.ops))])]⟩,fun k=>s.ims.length - k⟩ fun k=>Ann.leaf)) Ann.leaf))) zQB Tryz.func89 rfl (Nat.le_of_ble_eq_true rfl) fun hwf=>by
  refine Eq.mpr (by kernel_rfl:_=(let c:=(s.ims.length:Int); let d:=fun (k:Nat)=>(k≤s.ims.length∧zQ1 (s.ims.take k)≤67108864); let e:=[dJ s.bits,dJ s.c.a,dJ s.c.b,dJ s.c.c,dJ s.c.d,dJ s.tw,dJ s.th,dS s.ord.length (is s.ord),dS s.ims.length (ims s.ims),dS s.ops.length (ops s.ops)]; let a:=((e=e)∧True); let b:=fun (k:Nat)=>(wK ((zXs s (s.ims.take k))+19)); let f:=fun (k':Nat)=>(k'≤s.ims.length∧zQ1 (s.ims.take k')≤67108864); let g:=fun (k:Nat)=>fun (k':Nat)=>(s.ims.length - k' < s.ims.length - k); let h:=fun (k:Nat)=>fun (k':Nat)=>(dJ (wK ((k:Int)+1))=dJ (k':Int)); tU7 (tU8 ((∃ k:Nat,(d k)∧(((0=0)∧(dJ (wK ((wK ((34:Int)+(wK ((4:Int)*(min (s.ord.length:Int) (67108864:Int))))))+(wK ((24:Int)*(s.ops.length:Int)))))=dJ (zXs s (s.ims.take k)))∧(dJ 0=dJ (k:Int))∧True)∧a))∧∀ k:Nat,let i:=(decide ((b k) > 67108864)); let j:=(decide ((k:Int) < c)); let l:=(!(bAt (ims s.ims) ((k:Int).toNat*28+1+1))); let m:=(zXs s (s.ims.take k)); let n:=(decide (m > 67108864)); let o:=(wK ((b k)+(wK ((wK ((wK ((10:Int)*(nAt (ims s.ims) ((k:Int).toNat*28))))*(nAt (ims s.ims) ((k:Int).toNat*28+1)))) - 10)))); let p:=(decide (o > 67108864)); (d k)→tU5 ((j=true→tU3 ((0≤(k:Int)∧(k:Int) < c∧(k:Int).toNat*28 < (ims s.ims).length)∧(imQr (ims s.ims) ((k:Int).toNat*28))∧tU8 ((l=true→tU4 (tU8 ((p=true→True∧rJ (-1:Int)=rJ (lenR s))∧(p=false→tU3 (∃ k':Nat,(f k')∧(g k k')∧(((0=0)∧(dJ o=dJ (zXs s (s.ims.take k')))∧(h k k')∧True)∧a))))))∧(l=false→tU2 ((i=true→True∧rJ (-1:Int)=rJ (lenR s))∧(i=false→tU3 (∃ k':Nat,(f k')∧(g k k')∧(((0=0)∧(dJ (b k)=dJ (zXs s (s.ims.take k')))∧(h k k')∧True)∧a))))))))∧(j=false→tU2 ((n=true→True∧rJ (-1:Int)=rJ (lenR s))∧(n=false→tU2 (rJ m=rJ (lenR s)))))))))) ?_
  delta tU2 tU3 tU4 tU5 tU7 tU8 dJ wK dS rJ
  simp only [sS,imQr]
  clear hwf
  have w0:∀ n:Int,-1000000000000000≤n→n≤1000000000000000→IntKind.wrap .i64 n=n:=fun n a b=>IntWalk.i64_in _ ⟨by omega,by omega⟩
  have hmn:0≤min (s.ord.length:Int) 67108864∧min (s.ord.length:Int) 67108864≤67108864:=by omega
  have hzl:=zXJ hF
  have hdr:=fun k=>@zGT s.ims k hF
  have hs0:IntKind.wrap .i64 (IntKind.wrap .i64 (34+IntKind.wrap .i64 (4*min (s.ord.length:Int) 67108864))+IntKind.wrap .i64 (24*(s.ops.length:Int)))=zXs s []:=by
   unfold zXs
   generalize min (s.ord.length:Int) 67108864=M at *
   rw [w0 (4*M) (by omega) (by omega),w0 (34+4*M) (by omega) (by omega),w0 (24*(s.ops.length:Int)) (by omega) (by omega),w0 _ (by omega) (by omega)]
   simp [zQ1]
  have hbad:∀ k,67108864 < zXs s (s.ims.take k) → -1=lenR s:=fun k h=>by
   have:=hdr k
   unfold lenR
   rw [if_neg (by unfold zXs at h ⊢; omega)]
  refine ⟨⟨0,⟨Nat.zero_le _,by simp [zQ1]⟩,by rw [hs0]; rfl,rfl⟩,fun k hk=>⟨fun hlt=>?_,fun hge=>?_⟩⟩
  ·obtain ⟨hk1,hk2⟩:=hk
   have hk:k < s.ims.length:=by omega
   have q1:=zWG hk
   have q2:=zWH hk
   have hil:(k:Int) < 9223372036854775807:=by omega
   have w1:IntKind.wrap .i64 ((k:Int)+1)=((k+1:Nat):Int):=by rw [IntWalk.i64_in _ ⟨by omega,by omega⟩]; omega
   simp only [q2,w1]
   have hm:s.ims[k].formed=true:=by rw [List.all_eq_true] at hF; exact hF _ (List.getElem_mem hk)
   have hz:=zWa hm
   have hw:=jZe hm
   have hz2:zXs s (s.ims.take (k+1))=zXs s (s.ims.take k)+zXp s.ims[k]:=by simp only [zXs,zVt hk]; omega
   have hz3:0≤zXs s (s.ims.take k)∧zXs s (s.ims.take k)≤400000000000:=by
    have h1:(s.ims.take k).all Im.formed=true:=by
     rw [List.all_eq_true] at hF ⊢
     exact fun m hm=>hF m (List.mem_of_mem_take hm)
    have:=zXJ h1
    simp only [zXs]; omega
   have e1:IntKind.wrap .i64 (zXs s (s.ims.take k)+19)=zXs s (s.ims.take k)+19:=w0 _ (by omega) (by omega)
   have e2:IntKind.wrap .i64 (IntKind.wrap .i64 (zXs s (s.ims.take k)+19)+IntKind.wrap .i64 (IntKind.wrap .i64 (IntKind.wrap .i64 (10*s.ims[k].w)*s.ims[k].h) - 10))=zXs s (s.ims.take k)+9+10*(s.ims[k].w*s.ims[k].h):=by
    rw [e1,w0 (10*s.ims[k].w) (by omega) (by omega),Int.mul_assoc]
    generalize s.ims[k].w*s.ims[k].h=a at *
    rw [w0 (10*a) (by omega) (by omega),w0 (10*a - 10) (by omega) (by omega),w0 _ (by omega) (by omega)]
    omega
   refine ⟨⟨by omega,by omega,by rw [zZO]; omega⟩,q1,fun h8=>?_,fun h8=>?_⟩
   ·have hsz:zXp s.ims[k]=9+10*(s.ims[k].w*s.ims[k].h):=by unfold zXp; rw [if_neg (by rw [h8]; simp)]
    have e3:zXs s (s.ims.take k)+9+10*(s.ims[k].w*s.ims[k].h)=zXs s (s.ims.take (k+1)):=by rw [hz2,hsz]; omega
    rw [e2,e3]
    exact ⟨fun h9=>hbad _ (by omega),fun h9=>⟨k+1,⟨by omega,by unfold zXs at h9 hz3; omega⟩,by omega,rfl,rfl⟩⟩
   ·have hsz:zXp s.ims[k]=19:=by unfold zXp; rw [if_pos h8]
    have e3:zXs s (s.ims.take k)+19=zXs s (s.ims.take (k+1)):=by rw [hz2,hsz]
    rw [e1,e3]
    exact ⟨fun h9=>hbad _ (by omega),fun h9=>⟨k+1,⟨by omega,by unfold zXs at h9 hz3; omega⟩,by omega,rfl,rfl⟩⟩
  ·have:k=s.ims.length:=by omega
   subst this
   rw [List.take_length]
   refine ⟨fun h=>hbad s.ims.length (by rw [List.take_length]; exact h),fun h=>?_⟩
   unfold lenR
   rw [if_pos (by omega)]
theorem zGL (m:Im):Ans prog 66 [imR m] (RV.d (DV.bool m.formed)):=zQQ (m.w) (m.h) (m.so) (m.c.a) (m.c.b) (m.c.c) (m.c.al) (m.c.f) (m.p0.w) (m.p0.h) (m.p0.s) (m.p0.n) (m.p0.xs) (m.p1.w) (m.p1.h) (m.p1.s) (m.p1.n) (m.p1.xs) (m.p2.w) (m.p2.h) (m.p2.s) (m.p2.n) (m.p2.xs) (m.p3.w) (m.p3.h) (m.p3.s) (m.p3.n) (m.p3.xs) (m.p4.w) (m.p4.h) (m.p4.s) (m.p4.n) (m.p4.xs)
def sE (s:Scr):Scr:=⟨s.bits,s.c,s.tw,s.th,ints (is s.ord),zQN (ims s.ims),zQG (ops s.ops)⟩
theorem zVq (s:Scr):Ans prog 44 [RV.agg [dJ s.bits,dJ s.c.a,dJ s.c.b,dJ s.c.c,dJ s.c.d,dJ s.tw,dJ s.th,dS s.ord.length (is s.ord),dS s.ims.length (ims s.ims),dS s.ops.length (ops s.ops)]] (RV.d (dQ (zZR s))):=
 zQm (Γ:=jVo) (let a:=[(1,bC [cJ s.bits,cJ s.c.a,cJ s.c.b,cJ s.c.c,cJ s.c.d,cJ s.tw,cJ s.th,Cl.d (dS s.ord.length (is s.ord)),Cl.d (dS s.ims.length (ims s.ims)),Cl.d (dS s.ops.length (ops s.ops))])]; (Ann.seq Ann.leaf (Ann.seq Ann.leaf (Ann.seq Ann.leaf (Ann.seq (Ann.seq Ann.leaf (Ann.loop ⟨Nat,fun k=>k≤s.ims.length∧(s.ims.take k).all Im.formed=true,fun k=>⟨[(1,AV.one (Cl.ptr 1 0)),(4,aJ (k:Int))],a⟩,fun k=>s.ims.length - k⟩ fun k=>Ann.leaf)) (Ann.seq (Ann.seq Ann.leaf (Ann.loop ⟨Nat,fun j=>j≤s.ops.length∧(s.ops.take j).all opOk=true,fun j=>⟨[(1,AV.one (Cl.ptr 1 0)),(5,aJ (j:Int))],a⟩,fun j=>s.ops.length - j⟩ fun j=>Ann.leaf)) Ann.leaf)))))) zQB Tryz.func44 rfl (Nat.le_of_ble_eq_true rfl) fun hwf=>by
  refine Eq.mpr (by kernel_rfl:_=(let p:=(!(fitR (1:Int) false s.bits)); let q:=(fitR (1:Int) false); let r:=(decide ((s.ord.length:Int) > 67108864)); let b:=(dQ (zZR s)); let i:=([dJ s.tw,dJ s.th]); let c:=(s.ops.length:Int); let d:=(s.ims.length:Int); let e:=(fitR (4:Int) true); let f:=(fitR (4:Int) false); let t:=(!((ints i).all f)); let u:=(!((ints (is s.ord)).all f)); let l:=([dJ s.c.a,dJ s.c.b,dJ s.c.c,dJ s.c.d]); let v:=(!((ints l).all e)); let a:=(RV.d (dQ false)=RV.d b); let w:=fun (k:Nat)=>(k≤s.ims.length∧(s.ims.take k).all Im.formed=true); let m:=[dJ s.bits,dJ s.c.a,dJ s.c.b,dJ s.c.c,dJ s.c.d,dJ s.tw,dJ s.th,dS s.ord.length (is s.ord),dS s.ims.length (ims s.ims),dS s.ops.length (ops s.ops)]; let g:=((m=m)∧True); let x:=fun (j:Nat)=>(j≤s.ops.length∧(s.ops.take j).all opOk=true); tU8 ((Ans prog 87 [rJ s.bits,rJ 1,RV.d (dQ false)] (RV.d (dQ (fitR (1:Int) false s.bits))))∧tU2 ((p=false→True∧tU8 ((Ans prog 88 [rJ 4,RV.d (dQ true),RV.d (dS 4 l)] (RV.d (dQ ((ints l).all e))))∧tU3 ((v=false→tU5 ((Ans prog 88 [rJ 4,RV.d (dQ false),RV.d (dS 2 i)] (RV.d (dQ ((ints i).all f))))∧tU3 ((t=false→tU6 ((r=false→tU2 ((Ans prog 88 [rJ 4,RV.d (dQ false),RV.d (dS s.ord.length (is s.ord))] (RV.d (dQ ((ints (is s.ord)).all f))))∧tU3 ((u=false→tU6 (((decide (d > 64))=false→tU5 (((decide (c > 4096))=true→True∧RV.d (dQ false)=RV.d b)∧((decide (c > 4096))=false→True∧((∃ k:Nat,(w k)∧(((0=0)∧(dJ 0=dJ (k:Int))∧True)∧g))∧∀ k:Nat,let y:=(decide ((k:Int) < d)); let h:=(imQ (ims s.ims) ((k:Int).toNat*28)); (w k)→tU5 ((y=true→tU3 ((0≤(k:Int)∧(k:Int) < d∧(k:Int).toNat*28 < (ims s.ims).length)∧(imQr (ims s.ims) ((k:Int).toNat*28))∧(Ans prog 66 [imR h] (RV.d (dQ (Im.formed h))))∧True∧(((!(Im.formed h))=true→True∧RV.d (dQ false)=RV.d b)∧((!(Im.formed h))=false→tU3 (∃ k':Nat,(k'≤s.ims.length∧(s.ims.take k').all Im.formed=true)∧(s.ims.length - k' < s.ims.length - k)∧(((0=0)∧(dJ (wK ((k:Int)+1))=dJ (k':Int))∧True)∧g))))))∧(y=false→True∧((∃ j:Nat,(x j)∧(((0=0)∧(dJ 0=dJ (j:Int))∧True)∧g))∧∀ j:Nat,let z:=(decide ((j:Int) < c)); let n:=([dJ (nAt (ops s.ops) ((j:Int).toNat*12+1+1)),dJ (nAt (ops s.ops) ((j:Int).toNat*12+1+1+1)),dJ (nAt (ops s.ops) ((j:Int).toNat*12+1+1+1+1+1)),dJ (nAt (ops s.ops) ((j:Int).toNat*12+1+1+1+1+1+1))]); let A:=(!((ints n).all e)); let o:=([dJ (nAt (ops s.ops) ((j:Int).toNat*12)),dJ (nAt (ops s.ops) ((j:Int).toNat*12+1)),dJ (nAt (ops s.ops) ((j:Int).toNat*12+1+1+1+1)),dJ (nAt (ops s.ops) ((j:Int).toNat*12+1+1+1+1+1+1+1+1)),dJ (nAt (ops s.ops) ((j:Int).toNat*12+1+1+1+1+1+1+1+1+1))]); let B:=(!((ints o).all q)); (x j)→tU5 ((z=true→tU3 ((0≤(j:Int)∧(j:Int) < c∧(j:Int).toNat*12 < (ops s.ops).length)∧(oqQr (ops s.ops) ((j:Int).toNat*12))∧tU5 (tU8 ((Ans prog 88 [rJ 1,RV.d (dQ false),RV.d (dS 5 o)] (RV.d (dQ ((ints o).all q))))∧tU2 ((B=false→True∧tU8 ((Ans prog 88 [rJ 4,RV.d (dQ true),RV.d (dS 4 n)] (RV.d (dQ ((ints n).all e))))∧tU2 ((A=true→True∧RV.d (dQ false)=RV.d b)∧(A=false→tU3 (∃ j':Nat,(j'≤s.ops.length∧(s.ops.take j').all opOk=true)∧(s.ops.length - j' < s.ops.length - j)∧(((0=0)∧(dJ (wK ((j:Int)+1))=dJ (j':Int))∧True)∧g))))))∧(B=(!false)→tU2 a))))))∧(z=false→True∧(Ans prog 89 [RV.agg m] (rJ (lenR ((sE s):Scr))))∧tU2 (RV.d (dQ (decide ((lenR ((sE s):Scr))≥0)))=RV.d b))))))))))∧((decide (d > 64))=(!false)→tU2 a)))∧(u=(!false)→tU4 a))))∧(r=(!false)→tU6 a)))∧(t=(!false)→tU8 a))))∧(v=(!false)→tU2 (tU8 a)))))∧(p=(!false)→tU4 (tU8 a)))))) ?_
  delta sE tU2 tU3 tU4 tU5 tU6 tU8 dJ dQ wK dS rJ
  simp only [sS,imQ,imQr,oqQr]
  have a1:=zVI s.bits 1 false (.inl ⟨rfl,rfl⟩)
  have a2:=zYi 4 true [s.c.a,s.c.b,s.c.c,s.c.d] (.inr rfl)
  have a3:=zYi 4 false [s.tw,s.th] (.inr rfl)
  have a4:=zYi 4 false s.ord (.inr rfl)
  have es:∀ l:List Int,l.all (fitR 4 true)=fitL (-2147483648) 2147483647 l:=fun l=>by unfold fitL; congr; funext v; exact jZj v
  have eu:∀ l:List Int,l.all (fitR 4 false)=fitL 0 4294967295 l:=fun l=>by unfold fitL; congr; funext v; exact zHy v
  have e1:∀ l:List Int,l.all (fitR 1 false)=fitL 0 255 l:=fun l=>by unfold fitL; congr; funext v; exact jZk v
  have eb:fitR 1 false s.bits=fitL 0 255 [s.bits]:=by rw [← e1]; simp
  have hil:s.ims.length≤9223372036854775807∧s.ops.length≤9223372036854775807:=by
   simp only [RV.wfs,RV.wf,DV.wf,DV.wfs,maxLen] at hwf
   omega
  clear hwf
  have fal:zX7 s=false→false=zZR s:=fun h=>by simp [zZR,h]
  simp only [zQM,es,eu,eb] at a1 a2 a3 a4 ⊢
  refine ⟨a1,fun h1=>⟨a2,fun h2=>⟨a3,fun h3=>⟨fun h0=>⟨a4,fun h4=>⟨fun h5=>⟨fun h6=>?_,fun h6=>?_⟩,fun h5=>?_⟩,fun h4=>?_⟩,fun h0=>?_⟩,fun h3=>?_⟩,fun h2=>?_⟩,fun h1=>?_⟩
  ·exact fal (by simp [zX7]; omega)
  ·have g1:fitL 0 255 [s.bits]=true:=h1
   have g2:fitL (-2147483648) 2147483647 [s.c.a,s.c.b,s.c.c,s.c.d]=true:=h2
   have g3:fitL 0 4294967295 [s.tw,s.th]=true:=h3
   have hd:zX7 s=true:=by simp only [zX7,g1,g2,g3,h4,Bool.and_true,Bool.true_and,Bool.and_eq_true,decide_eq_true_eq]; omega
   refine ⟨⟨0,⟨Nat.zero_le _,by simp⟩,rfl⟩,fun k hk=>⟨fun hlt=>?_,fun hge=>?_⟩⟩
   ·obtain ⟨k1,k2⟩:=hk
    have hk:k < s.ims.length:=by omega
    have q1:=zWG hk
    have q2:=zWH hk
    have w1:IntKind.wrap .i64 ((k:Int)+1)=((k+1:Nat):Int):=by rw [IntWalk.i64_in _ ⟨by omega,by omega⟩]; omega
    have wf:=zGL s.ims[k]
    simp only [q2,w1]
    refine ⟨⟨by omega,by omega,by rw [zZO]; omega⟩,q1,wf,fun h7=>?_,fun h7=>?_⟩
    ·have h7:s.ims[k].formed=false:=h7
     simp [zZR,all_false' hk h7]
    ·have h7:s.ims[k].formed=true:=h7
     exact ⟨k+1,⟨by omega,by rw [all_take' hk,k2,h7]; rfl⟩,by omega,rfl⟩
   ·obtain ⟨k1,k2⟩:=hk
    have:k=s.ims.length:=by omega
    subst this
    rw [List.take_length] at k2
    refine ⟨⟨0,⟨Nat.zero_le _,by simp⟩,rfl⟩,fun j hj=>⟨fun hlt=>?_,fun hge=>?_⟩⟩
    ·obtain ⟨j1,j2⟩:=hj
     have hj:j < s.ops.length:=by omega
     have q1:=zVy hj
     have q2:=zVz hj
     have w1:IntKind.wrap .i64 ((j:Int)+1)=((j+1:Nat):Int):=by rw [IntWalk.i64_in _ ⟨by omega,by omega⟩]; omega
     have b1:=zYi 1 false [s.ops[j].kind,s.ops[j].image,s.ops[j].mask,s.ops[j].oper,s.ops[j].mode] (.inl ⟨rfl,rfl⟩)
     have b2:=zYi 4 true [s.ops[j].x,s.ops[j].y,s.ops[j].mx,s.ops[j].my] (.inr rfl)
     simp only [q2,w1,e1] at b1 b2 ⊢
     simp only [es] at b2 ⊢
     have bad:opOk s.ops[j]=false→false=zZR s:=fun h=>by simp [zZR,all_false' hj h]
     refine ⟨⟨by omega,by omega,by rw [zZp]; omega⟩,q1,b1,fun h7=>⟨b2,fun h8=>bad ?_,fun h8=>⟨j+1,⟨by omega,?_⟩,by omega,rfl⟩⟩,fun h7=>bad ?_⟩
     ·have h8:fitL (-2147483648) 2147483647 [s.ops[j].x,s.ops[j].y,s.ops[j].mx,s.ops[j].my]=false:=h8
      simp [opOk,h8]
     ·have h7:fitL 0 255 [s.ops[j].kind,s.ops[j].image,s.ops[j].mask,s.ops[j].oper,s.ops[j].mode]=true:=h7
      have h8:fitL (-2147483648) 2147483647 [s.ops[j].x,s.ops[j].y,s.ops[j].mx,s.ops[j].my]=true:=h8
      rw [all_take' hj,j2]
      simp [opOk,h7,h8]
     ·have h7:fitL 0 255 [s.ops[j].kind,s.ops[j].image,s.ops[j].mask,s.ops[j].oper,s.ops[j].mode]=false:=h7
      simp [opOk,h7]
    ·obtain ⟨j1,j2⟩:=hj
     have:j=s.ops.length:=by omega
     subst this
     rw [List.take_length] at j2
     have ln:=zUk s k2 (by omega) (by omega)
     simp only [zQ8,zQU]
     refine ⟨ln,?_⟩
     have hmo:min (s.ord.length:Int) 67108864=s.ord.length:=by omega
     have hzl:=zXJ k2
     have hsz:zXs s s.ims=zXr s s.ims:=by unfold zXs zXr; rw [hmo]
     have hpos:0≤zXr s s.ims:=by unfold zXr; omega
     have e1:zZR s=decide (zXr s s.ims≤67108864):=by simp only [zZR,hd,k2,j2,Bool.true_and]
     rw [e1]
     unfold lenR
     rw [hsz]
     by_cases hb:zXr s s.ims≤67108864
     ·rw [if_pos hb,decide_eq_true hb]
      exact decide_eq_true hpos
     ·rw [if_neg hb,decide_eq_false hb]
      rfl
  ·exact fal (by simp [zX7]; omega)
  ·exact fal (by simp [zX7,h4])
  ·have:zZR s=false:=by
    cases hc:s.ims.all Im.formed with
    | false=>simp [zZR,hc]
    | true=>
     have:=zXJ hc
     have hn:¬ zXr s s.ims≤67108864:=by unfold zXr; omega
     simp [zZR,hn]
   exact this.symm
  ·have h3:fitL 0 4294967295 [s.tw,s.th]=false:=h3
   exact fal (by simp [zX7,h3])
  ·have h2:fitL (-2147483648) 2147483647 [s.c.a,s.c.b,s.c.c,s.c.d]=false:=h2
   exact fal (by simp [zX7,h2])
  ·have h1:fitL 0 255 [s.bits]=false:=h1
   exact fal (by simp [zX7,h1])
end
def Cl.thaw (bx:Nat→Bx):Cl→Option DV
 | .d v=>some v
 | .nil=>some (.sl 0 [])
 | .ref b n=>match zZ5 (bx b) with
  | some xs=>some (.sl n xs)
  | none=>none
 | _=>none
def jXb (bx:Nat→Bx):List Cl→Option (List DV)
 | []=>some []
 | c::cs=>match c.thaw bx,jXb bx cs with
  | some d,some ds=>some (d::ds)
  | _,_=>none
mutual
def AV.thaw (bx:Nat→Bx):AV→Option RV
 | .one c=>match c.thaw bx with
  | some d=>some (.d d)
  | none=>none
 | .agg cs=>match jXb bx cs with
  | some ds=>some (.agg ds)
  | none=>none
 | .tup vs=>match AV.thawL bx vs with
  | some rs=>some (.tup rs)
  | none=>none
def AV.thawL (bx:Nat→Bx):List AV→Option (List RV)
 | []=>some []
 | x::xs=>match x.thaw bx,AV.thawL bx xs with
  | some r,some rs=>some (r::rs)
  | _,_=>none
end
section
variable {w:World} {V V':Nat→Prop} {ι:zQE} {bx:Nat→Bx}
theorem jXc (hk:∀ g,V g→V' g) (hb:∀ b,zXf w V ι bx b (bx b)) (ho:∀ b g c,(bx b).live=true→ι b=some (g,c)→V' g) {c:Cl} {d:DV} {v:Value} (h:c.thaw bx=some d) (hr:zQF w V ι bx c v):RepD w V' d v:=by
 have hkk:zZy w V w V':=fun g off u hV hu=>⟨hk g hV,hu⟩
 cases c with
 | d x=>
  simp only [Cl.thaw,Option.some.injEq] at h
  subst h
  exact RepD.keep hkk hr
 | nil=>
  simp only [Cl.thaw,Option.some.injEq] at h
  subst h
  simp only [zQF] at hr
  simp only [RepD]
  exact ⟨none,0,hr,Nat.le_refl _,Nat.zero_le _,fun hne=>absurd rfl hne⟩
 | ref b n=>
  simp only [Cl.thaw] at h
  split at h
  ·rename_i xs hin
   simp only [Option.some.injEq] at h
   subst h
   simp only [zQF] at hr
   have hbb:=hb b
   cases hB:bx b with
   | row e size ys=>
    rw [hB] at hin hbb
    simp only [zZ5,Option.some.injEq] at hin
    subst hin
    obtain ⟨_,⟨h1,h2,h3⟩ | ⟨g,cap,h1,h2,h3⟩⟩:=hr
    ·rcases hbb with ⟨h4,h5⟩ | ⟨g,cap,cur,h4,_⟩
     ·subst h5 h2
      simp only [RepD]
      exact ⟨none,0,h3,Nat.le_refl _,Nat.zero_le _,fun hne=>absurd rfl hne⟩
     ·rw [h1] at h4; cases h4
    ·rcases hbb with ⟨h4,h5⟩ | ⟨g',cap',cur,h4,h5,h6,h7,h8⟩
     ·rw [h1] at h4; cases h4
     ·rw [h1] at h4
      injection h4 with h4
      injection h4 with h4 h4'
      subst h4 h4'
      simp only [RepD]
      exact ⟨_,cap,h2,h3,h6,fun hne=>⟨g,0,rfl,ho b g cap (by rw [hB]; rfl) h1,RepCells.of_row h5 (h8.keep hkk)⟩⟩
   | ice ys=>
    rw [hB] at hin hbb
    simp only [zZ5,Option.some.injEq] at hin
    subst hin
    obtain ⟨_,⟨h1,h2,h3⟩ | ⟨g,cap,h1,h2,h3⟩⟩:=hr
    ·rcases hbb with ⟨h4,h5⟩ | ⟨g,cap,h4,_⟩
     ·subst h5 h2
      simp only [RepD]
      exact ⟨none,0,h3,Nat.le_refl _,Nat.zero_le _,fun hne=>absurd rfl hne⟩
     ·rw [h1] at h4; cases h4
    ·rcases hbb with ⟨h4,h5⟩ | ⟨g',cap',h4,h5,h6⟩
     ·rw [h1] at h4; cases h4
     ·rw [h1] at h4
      injection h4 with h4
      injection h4 with h4 h4'
      subst h4 h4'
      simp only [RepD]
      refine ⟨_,cap,h2,h3,h6,fun hne=>⟨g,0,rfl,?_⟩⟩
      have h9:=Lies.keep hkk h5
      exact h9 hne
   | fresh=>rw [hB] at hin; cases hin
   | gone=>rw [hB] at hin; cases hin
   | cells cs=>rw [hB] at hin; cases hin
  ·cases h
 | lit u=>cases h
 | ptr b off=>cases h
 | vp cs off=>cases h
 | clo f cs=>cases h
 | dead=>cases h
theorem jQC (hk:∀ g,V g→V' g) (hb:∀ b,zXf w V ι bx b (bx b)) (ho:∀ b g c,(bx b).live=true→ι b=some (g,c)→V' g):∀ {cs:List Cl} {ds:List DV} {vs:List Value},jXb bx cs=some ds→zQW w V ι bx cs vs→zZb w V' ds vs
 | [],ds,vs,h,hr=>by
  simp only [jXb,Option.some.injEq] at h
  subst h
  cases vs with
  | nil=>trivial
  | cons _ _=>exact hr.elim
 | c::cs,ds,vs,h,hr=>by
  simp only [jXb] at h
  split at h
  ·rename_i d ds' h1 h2
   simp only [Option.some.injEq] at h
   subst h
   cases vs with
   | nil=>exact hr.elim
   | cons v vs=>exact ⟨jXc hk hb ho h1 hr.1,jQC hk hb ho h2 hr.2⟩
  ·cases h
mutual
theorem jXd (hk:∀ g,V g→V' g) (hb:∀ b,zXf w V ι bx b (bx b)) (ho:∀ b g c,(bx b).live=true→ι b=some (g,c)→V' g):∀ {x:AV} {r:RV} {v:Value},x.thaw bx=some r→zQu w V ι bx x v→RepR w V' r v
 | .one c,r,v,h,hr=>by
  simp only [AV.thaw] at h
  split at h
  ·rename_i d h1
   simp only [Option.some.injEq] at h
   subst h
   simp only [zQu] at hr
   simp only [RepR]
   exact jXc hk hb ho h1 hr
  ·cases h
 | .agg cs,r,v,h,hr=>by
  simp only [AV.thaw] at h
  split at h
  ·rename_i d h1
   simp only [Option.some.injEq] at h
   subst h
   simp only [zQu] at hr
   obtain ⟨cur,e,hr⟩:=hr
   simp only [RepR]
   exact ⟨cur,e,jQC hk hb ho h1 hr⟩
  ·cases h
 | .tup vs,r,v,h,hr=>by
  simp only [AV.thaw] at h
  split at h
  ·rename_i d h1
   simp only [Option.some.injEq] at h
   subst h
   simp only [zQu] at hr
   obtain ⟨cur,e,hr⟩:=hr
   simp only [RepR]
   exact ⟨cur,e,thaw_avs hk hb ho h1 hr⟩
  ·cases h
theorem thaw_avs (hk:∀ g,V g→V' g) (hb:∀ b,zXf w V ι bx b (bx b)) (ho:∀ b g c,(bx b).live=true→ι b=some (g,c)→V' g):∀ {xs:List AV} {rs:List RV} {vs:List Value},AV.thawL bx xs=some rs→RepAVs w V ι bx xs vs→RepRs w V' rs vs
 | [],rs,vs,h,hr=>by
  simp only [AV.thawL,Option.some.injEq] at h
  subst h
  cases vs with
  | nil=>simp only [RepRs]
  | cons _ _=>simp only [RepAVs] at hr
 | x::xs,rs,vs,h,hr=>by
  simp only [AV.thawL] at h
  split at h
  ·rename_i d ds' h1 h2
   simp only [Option.some.injEq] at h
   subst h
   cases vs with
   | nil=>simp only [RepAVs] at hr
   | cons v vs=>
    simp only [RepAVs] at hr
    simp only [RepRs]
    exact ⟨jXd hk hb ho h1 hr.1,thaw_avs hk hb ho h2 hr.2⟩
  ·cases h
end
end
theorem AnsG.ans {P:Program} {f:FuncId} {args:List AV} {rs:List RV} {r:Ret} {res:RV} (h:AnsG P f 0 args [] r) (ha:args=RV.avs rs) (hr:r.res.thaw (zQJ r.outs)=some res):Ans P f rs res:=by
 subst ha
 intro w S vs hg hrep
 have hno:∀ b,(zQJ ([]:List Bx) b)=.fresh:=fun b=>by simp [zQJ]
 have hnone:∀ g,¬ OwnB (zQJ ([]:List Bx)) (fun _=>none) g:=fun g ⟨b,c,hl,e⟩=>by rw [hno] at hl; cases hl
 have hh:zJD w S (fun _=>none) (RV.avs rs) [] vs.toList:=by
  refine ⟨fun b g c hl e=>?_,fun b b' g c c' hl hl' hne e=>?_,fun b=>?_,rep_avs hrep⟩
  ·rw [hno] at hl; cases hl
  ·rw [hno] at hl; cases hl
  ·rw [hno]; trivial
 refine (h w S _ vs hg hh).mono fun ed w' hp=>?_
 obtain ⟨v,ι',rfl,ha⟩:=hp
 refine ⟨v,rfl,jXd (fun g hV=>?_) ha.bx (fun b g c hl e=>?_) hr ha.rep,ha.bel.below hnone⟩
 ·rcases hV.1 with ⟨_,h⟩ | h | h
  ·exact .inl h
  ·exact .inr h
  ·exact absurd h (hnone g)
 ·rcases (ha.own b g c hl e).1 with h | h
  ·exact .inr h
  ·exact absurd h (hnone g)
end Go.Proofs.YtheidkkebdhmkaaGreatDoor
