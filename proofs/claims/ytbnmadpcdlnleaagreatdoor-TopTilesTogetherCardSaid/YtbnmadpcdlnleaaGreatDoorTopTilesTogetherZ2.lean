/-
  Part 2 of what TopTilesTogether rests on.
-/
import Derived.Test.YtbnmadpcdlnleaaGreatDoorTopTilesTogetherZ1
import Derived.ProofKit
namespace Go.Proofs.YtbnmadpcdlnleaaGreatDoor
open Go.IntKind (wrap)
open Go.RowKit
set_option linter.unusedVariables false
set_option linter.unusedSimpArgs false
set_option maxRecDepth 20000
def Cap.av:Cap→AV
 | .d v=>.one (.d v)
 | .ptr b off=>.one (.ptr b off)
def zGE (dst:Option Nat) (bs:List Nat) (nnew:Nat):List Nat:=
 let base:=match dst with
  | some d=>d
  | none=>maxL bs
 (List.range nnew).map fun i=>base+1000*(i+1)
def zW5 (l1:List Nat) (B1:List Bx):List Nat:=(nubN (B1.flatMap Bx.names)).filter fun x=>!l1.contains x
def jGv (bs:List Nat) (Bs:List Bx) (b:Nat):Bx:=Bs.getD (zQV bs b) .gone
def jXX (q:Bool) (l:List Nat) (Bs:List Bx) (r:Option (Prop × AV × List (Nat × Bx))):Option (Prop × AV × List (Nat × Bx)):=
 match q with
 | false=>r
 | true=>match r with
  | some (vc,v,ws)=>match ws.all fun p=>l.contains p.1 with
   | true=>some (vc∧ws.map (·.2)=ws.map (fun p=>jGv l Bs p.1),v,[])
   | false=>none
  | none=>none
def zGu (P:Program) (Γ:Gam) (dst:Option Nat) (f:FuncId) (xs:List AV):Option Eff2:=
 match Γ.modes f,enters P f with
 | some (ms,pin,nn),true=>
  let nnew:=nn % 1000
  let l0:=zYT ms xs
  let l1:=nubN (zXv ms xs)
  some ⟨l0++l1,fun bs1=>let l2:=zW5 l1 (bs1.drop l0.length); l2++zGE dst (l1++l2) nnew,fun bs1 bs2=>
   let l2:=zW5 l1 (bs1.drop l0.length)
   jXX (Nat.ble 1000 nn) (l0++(l1++l2)) (bs1++bs2.take l2.length) (jYi P Γ f ms pin nnew xs l0 (l1++l2) (zGE dst (l1++l2) nnew) (bs1.take l0.length) (bs1.drop l0.length++bs2.take l2.length) (bs2.drop l2.length))⟩
 | _,_=>none
def jKk (Γ:Gam) (f:FuncId) (xs:List AV) (bs:List Bx):Bool:=
 match jWo Γ f with
 | some _=>false
 | none=>match jWx Γ f with
  | true=>true
  | false=>match AV.rvs (zXa (xs.flatMap AV.refs) bs) xs with
   | some rs=>match Γ f rs with
    | some r=>r.flat
    | none=>false
   | none=>false
def zVO:List Nat→List Bx→List Bx→List (Nat × Bx)
 | b::rs,B0::bs,B::ws=>match B0 with
  | .ice _=>zVO rs bs ws
  | _=>(b,B)::zVO rs bs ws
 | _,_,_=>[]
def Eff.upQ (q:List Bx→Bool) (e:Eff):Eff2:=⟨e.rds,fun _=>[],fun bs _=>(e.f bs).map fun r=>(r.1,r.2.1,match q bs with | true=>[] | false=>zVO e.wrs bs r.2.2)⟩
def zZ9:List Bx→List Bx→Prop
 | .ice xs::bs,B::ws=>B=.ice xs∧zZ9 bs ws
 | _::bs,_::ws=>zZ9 bs ws
 | [],[]=>True
 | _,_=>False
theorem zJw:∀ bs:List Bx,zZ9 bs (bs.map Bx.freeze)
 | []=>trivial
 | B::bs=>by
  have:=zJw bs
  cases B <;> simp only [List.map_cons,zZ9,Bx.freeze,true_and] <;> exact this
theorem zJn:∀ bs:List Bx,zZ9 bs bs
 | []=>trivial
 | B::bs=>by
  have:=zJn bs
  cases B <;> simp only [zZ9,true_and] <;> exact this
theorem zXU:∀ (bs ws:List Bx) (B:Bx),zZ9 bs ws→zZ9 (bs++[.fresh]) (ws++[B])
 | [],[],B,_=>by simp [zZ9]
 | .ice xs::bs,W::ws,B,h=>by
  simp only [List.cons_append,zZ9] at h ⊢
  exact ⟨h.1,zXU bs ws B h.2⟩
 | .fresh::bs,W::ws,B,h=>by simp only [List.cons_append,zZ9] at h ⊢; exact zXU bs ws B h
 | .gone::bs,W::ws,B,h=>by simp only [List.cons_append,zZ9] at h ⊢; exact zXU bs ws B h
 | .cells _::bs,W::ws,B,h=>by simp only [List.cons_append,zZ9] at h ⊢; exact zXU bs ws B h
 | .row _ _ _::bs,W::ws,B,h=>by simp only [List.cons_append,zZ9] at h ⊢; exact zXU bs ws B h
 | [],_::_,_,h=>h.elim
 | B0::bs,[],B,h=>by cases B0 <;> exact h.elim
theorem zGa (s0:AS):∀ (rs:List Nat) (ws:List Bx) (s:AS),(∀ b xs,s0.bx b=.ice xs→s.bx b=.ice xs)→zZ9 (rs.map s0.bx) ws→s.setBs ((zVO rs (rs.map s0.bx) ws).map (·.1)) ((zVO rs (rs.map s0.bx) ws).map (·.2))=s.setBs rs ws
 | [],_,s,_,_=>by simp [zVO,AS.setBs]
 | b::rs,[],s,_,h=>by
  simp only [List.map_cons] at h
  cases hB:s0.bx b <;> rw [hB] at h <;> exact h.elim
 | b::rs,W::ws,s,hs,h=>by
  simp only [List.map_cons,zVO,AS.setBs] at h ⊢
  cases hB:s0.bx b with
  | ice xs=>
   rw [hB] at h
   simp only [zZ9] at h
   obtain ⟨rfl,h⟩:=h
   have e:s.setB b (.ice xs)=s:=by
    refine AS.ext' rfl ?_
    funext b'
    simp only [AS.setB]
    split
    ·rename_i e; subst e; exact (hs b' xs hB).symm
    ·rfl
   rw [e]
   exact zGa s0 rs ws s hs h
  | _=>
   rw [hB] at h
   simp only [zZ9] at h
   simp only [List.map_cons,AS.setBs]
   refine zGa s0 rs ws _ (fun b' xs hb'=>?_) h
   simp only [AS.setB]
   rw [if_neg (fun e=>by subst e; rw [hB] at hb'; cases hb')]
   exact hs b' xs hb'
theorem jJ3 {P:Program} {Γ:Gam} {dst:Option Nat} {f:FuncId} {xs:List AV} {e0:Eff} (he:zWg P Γ dst f xs=some e0) {bs bs':List Bx} {vc:Prop} {v:AV} (hf:e0.f bs=some (vc,v,bs')):zZ9 bs bs'∧e0.wrs=e0.rds:=by
 unfold zWg at he
 cases h1:jWo Γ f with
 | some p=>
  rw [h1] at he
  simp only at he
  split at he
  ·simp only [jQX] at he
   split at he
   ·simp only [Option.some.injEq] at he
    subst he
    simp only at hf ⊢
    split at hf
    ·rename_i hl
     split at hf
     ·split at hf
      ·simp only [Option.some.injEq,Prod.mk.injEq] at hf
       obtain ⟨_,_,rfl⟩:=hf
       refine ⟨?_,trivial⟩
       have:bs=bs.dropLast++[.fresh]:=by
        have hne:bs≠[]:=fun e=>by rw [e] at hl; cases hl
        rw [List.getLast?_eq_some_getLast hne] at hl
        injection hl with hl
        rw [← hl,List.dropLast_concat_getLast]
       have k:=fun B=>zXU _ _ B (zJw bs.dropLast)
       rw [← this] at k
       exact k _
      ·cases hf
     ·cases hf
    ·cases hf
   ·cases he
  ·cases he
 | none=>
  rw [h1] at he
  simp only at he
  cases h2:jWx Γ f with
  | true=>
   rw [h2] at he
   simp only [zGC] at he
   split at he
   ·simp only [Option.some.injEq] at he
    subst he
    simp only at hf ⊢
    split at hf
    ·split at hf
     ·simp only [Option.some.injEq,Prod.mk.injEq] at hf
      obtain ⟨_,_,rfl⟩:=hf
      exact ⟨zJn _,trivial⟩
     ·cases hf
    ·cases hf
   ·cases he
  | false=>
   rw [h2] at he
   simp only [zGB] at he
   split at he
   ·simp only [Option.some.injEq] at he
    subst he
    simp only at hf ⊢
    split at hf
    ·split at hf
     ·simp only [Option.some.injEq,Prod.mk.injEq] at hf
      obtain ⟨_,_,rfl⟩:=hf
      refine ⟨?_,trivial⟩
      split
      ·exact zJn _
      ·exact zJw _
     ·cases hf
    ·cases hf
   ·split at he
    ·split at he
     ·simp only [Option.some.injEq] at he
      subst he
      simp only [Option.some.injEq,Prod.mk.injEq] at hf
      obtain ⟨_,_,rfl⟩:=hf
      exact ⟨zJn _,rfl⟩
     ·cases he
    ·cases he
theorem jWs {P:Program} {Γ:Gam} {dst:Option Nat} {f:FuncId} {xs:List AV} {e0:Eff} (he:zWg P Γ dst f xs=some e0) {bs bs':List Bx} {vc:Prop} {v:AV} (hq:jKk Γ f xs bs=true) (hf:e0.f bs=some (vc,v,bs')):bs'=bs∧e0.wrs=e0.rds:=by
 unfold jKk at hq
 unfold zWg at he
 cases h1:jWo Γ f with
 | some p=>rw [h1] at hq; cases hq
 | none=>
  rw [h1] at hq he
  simp only at hq he
  cases h2:jWx Γ f with
  | true=>
   rw [h2] at he
   simp only [zGC] at he
   split at he
   ·simp only [Option.some.injEq] at he
    subst he
    simp only at hf ⊢
    split at hf
    ·split at hf
     ·simp only [Option.some.injEq,Prod.mk.injEq] at hf
      exact ⟨hf.2.2.symm,trivial⟩
     ·cases hf
    ·cases hf
   ·cases he
  | false=>
   rw [h2] at he hq
   simp only [zGB] at he
   split at he
   ·simp only [Option.some.injEq] at he
    subst he
    simp only at hf hq ⊢
    split at hf
    ·rename_i rs hrs
     rw [hrs] at hq
     simp only at hq
     split at hf
     ·rename_i r hr
      rw [hr] at hq
      simp only at hq
      simp only [Option.some.injEq,Prod.mk.injEq,if_pos hq] at hf
      exact ⟨hf.2.2.symm,trivial⟩
     ·cases hf
    ·cases hf
   ·split at he
    ·split at he
     ·simp only [Option.some.injEq] at he
      subst he
      simp only [Option.some.injEq,Prod.mk.injEq] at hf
      exact ⟨hf.2.2.symm,rfl⟩
     ·cases he
    ·cases he
theorem jZI {P:Program} {Γ:Gam} {o:Oper} {s:AS} {f:FuncId} {xs:List AV} (h:zZH P o s (prep P Γ o s.eval)) (hp:prep P Γ o s.eval=zWg P Γ o.dst f xs):jQs P o s ((prep P Γ o s.eval).map (Eff.upQ (jKk Γ f xs))):=by
 intro e' he vc v ws hf
 obtain ⟨e0,he0,rfl⟩:=Option.map_eq_some_iff.1 he
 simp only [Eff.upQ] at hf
 obtain ⟨⟨vc0,v0,bs0⟩,hf1,hf'⟩:=Option.map_eq_some_iff.1 hf
 simp only [Prod.mk.injEq] at hf'
 obtain ⟨rfl,rfl,rfl⟩:=hf'
 have hs:=h e0 he0 vc0 v0 bs0 hf1
 cases hq:jKk Γ f xs (e0.rds.map s.bx) with
 | true=>
  obtain ⟨e1,e2⟩:=jWs (by rw [← hp,he0]) hq hf1
  subst e1
  intro w0 S n ι a w K Q hr hvc hK
  refine hs w0 S n ι a w K Q hr hvc fun ι' u w' h1 h2=>hK ι' u w' ?_ ?_
  ·rw [e2,zJD] at h1; exact h1
  ·rw [e2,zJD] at h2; exact h2
 | false=>
  obtain ⟨e1,e2⟩:=jJ3 (by rw [← hp,he0]) hf1
  rw [← e2] at e1
  have e3:=zGa s e0.wrs bs0 s (fun _ _ h=>h) e1
  intro w0 S n ι a w K Q hr hvc hK
  refine hs w0 S n ι a w K Q hr hvc fun ι' u w' h1 h2=>hK ι' u w' ?_ ?_
  ·simp only; rw [← e2,e3]; exact h1
  ·simp only; rw [← e2,e3]; exact h2
def zVG (P:Program) (Γ:Gam) (o:Oper) (ρ:Operand→AV):Option Eff2:=
 match o.op with
 | .call c=>match c.callee with
  | .value (.func f)=>match Γ.modes f with
   | some _=>zGu P Γ o.dst f (c.args.toList.map ρ)
   | none=>(prep P Γ o ρ).map (Eff.upQ (jKk Γ f (c.args.toList.map ρ)))
  | .value (.tmp t)=>match ρ (.tmp t) with
   | .one (.d (.fn f))=>match Γ.modes f with
    | some _=>zGu P Γ o.dst f (c.args.toList.map ρ)
    | none=>(prep P Γ o ρ).map (Eff.upQ (jKk Γ f (c.args.toList.map ρ)))
   | .one (.clo f cs)=>zGu P Γ o.dst f (c.args.toList.map ρ++cs.map Cap.av)
   | _=>none
  | _=>(prep P Γ o ρ).map Eff.up
 | _=>(prep P Γ o ρ).map Eff.up
def aop (P:Program) (Γ:Gam) (n:Dom) (o:Oper) (s:AS):Option (Prop × AS):=
 if jXH n o then
  match zVG P Γ o s.eval with
  | some e=>match e.f (e.rds.map s.bx) ((e.more (e.rds.map s.bx)).map s.bx) with
   | some (vc,v,ws)=>some (vc,(s.setL ws).put o.dst v)
   | none=>none
  | none=>none
 else none
section
variable {P:Program} {o:Oper} {s:AS}
theorem jZV:∀ {l:List Nat} {b:Nat} (f:Nat→Bx),b∈l→(l.map f).getD (zQV l b) .gone=f b
 | x::l,b,f,h=>by
  simp only [zQV,List.map_cons]
  split
  ·rename_i e; subst e; rfl
  ·rename_i e
   have h:b∈l:=by
    rcases List.mem_cons.1 h with h | h
    ·exact absurd h e
    ·exact h
   have:=jZV f h
   simpa using this
 | [],_,_,h=>by cases h
theorem jX0 {q:Bool} {l:List Nat} {r:Option (Prop × AV × List (Nat × Bx))} {vc:Prop} {v:AV} {ws:List (Nat × Bx)} (h:∀ vc v ws,r=some (vc,v,ws)→zVj P o s vc v (ws.map (·.1)) (ws.map (·.2)))
  (hs:jXX q l (l.map s.bx) r=some (vc,v,ws)):zVj P o s vc v (ws.map (·.1)) (ws.map (·.2)):=by
 unfold jXX at hs
 split at hs
 ·exact h _ _ _ hs
 ·split at hs
  ·rename_i vc0 v0 ws0
   split at hs
   ·rename_i hall
    simp only [Option.some.injEq,Prod.mk.injEq] at hs
    obtain ⟨rfl,rfl,rfl⟩:=hs
    simp only [List.all_eq_true,List.contains_eq_mem,decide_eq_true_eq] at hall
    intro w0 S n ι a w K Q hr hvc hK
    have e:ws0.map (·.2)=(ws0.map (·.1)).map s.bx:=by
     rw [hvc.2,List.map_map]
     exact List.map_congr_left fun p hp=>by
      simp only [jGv,Function.comp_apply]
      exact jZV s.bx (hall p hp)
    have e2:s.setBs (ws0.map (·.1)) (ws0.map (·.2))=s:=by rw [e,zJD]
    refine h _ _ _ rfl w0 S n ι a w K Q hr hvc.1 fun ι' u w' h1 h2=>hK ι' u w' ?_ ?_
    ·rw [e2] at h1; exact h1
    ·rw [e2] at h2; exact h2
   ·cases hs
  ·cases hs
theorem zJU {Γ:Gam} {f:FuncId} {xs:List AV}
  (hex:enters P f=true→∀ (w0:World) (S:zQ8) (n:Dom) (ι:zQm) (a:Act) (w:World),RepS w0 S n s ι a w→∃ vs:Array Value,(execOp a.eval o).run P w=.ok (.enter f vs) w ∧
   ∀ ι2 s2,s2.tm=s.tm→RepS w0 S n s2 ι2 a w→RepAVs w (Seen S w0.heap.size s2.bx ι2) ι2 s2.bx xs vs.toList):jQs P o s (zGu P Γ o.dst f xs):=by
 unfold zGu
 split
 ·rename_i ms pin nnew hm hen
  intro e' he vc v ws hf
  simp only [Option.some.injEq] at he
  subst he
  simp only at hf
  have e1:((zYT ms xs++nubN (zXv ms xs)).map s.bx).take (zYT ms xs).length=(zYT ms xs).map s.bx:=by
   rw [List.map_append,List.take_left' (by simp)]
  have e2:((zYT ms xs++nubN (zXv ms xs)).map s.bx).drop (zYT ms xs).length=(nubN (zXv ms xs)).map s.bx:=by
   rw [List.map_append,List.drop_left' (by simp)]
  rw [e1,e2] at hf
  generalize hl2:zW5 (nubN (zXv ms xs)) ((nubN (zXv ms xs)).map s.bx)=l2 at hf
  generalize zGE o.dst (nubN (zXv ms xs)++l2) (_ % 1000)=news at hf
  have e3:((l2++news).map s.bx).take l2.length=l2.map s.bx:=by rw [List.map_append,List.take_left' (by simp)]
  have e4:((l2++news).map s.bx).drop l2.length=news.map s.bx:=by rw [List.map_append,List.drop_left' (by simp)]
  rw [e3,e4,← List.map_append,← List.map_append,List.append_assoc] at hf
  refine jX0 (fun vc v ws hf=>?_) hf
  exact jJN (hex hen) (fun b hb=>hb) (fun b hb=>by rw [List.mem_append]; exact .inl (jJj.2 hb)) hf
 ·exact .none
theorem zHf {w0:World} {S:zQ8} {n:Dom} {a:Act} {w:World} {ι2:zQm} {s2:AS} (ht:s2.tm=s.tm) (hr:RepS w0 S n s2 ι2 a w) (args:List Operand):RepAVs w (Seen S w0.heap.size s2.bx ι2) ι2 s2.bx (args.map s.eval) (args.map a.eval):=by
 have heval:s2.eval=s.eval:=by funext x; cases x <;> simp [AS.eval,ht]
 induction args with
 | nil=>simp only [List.map_nil,RepAVs]
 | cons x xs ih=>
  simp only [List.map_cons,RepAVs]
  exact ⟨by rw [← heval]; exact hr.eval x,ih⟩
theorem jXJ {w:World} {V:Nat→Prop} {ι:zQm} {bx:Nat→Bx}:∀ {cs:List Cap} {vs:List Value},zXF ι bx w V cs vs→RepAVs w V ι bx (cs.map Cap.av) vs
 | [],[],_=>by simp only [List.map_nil,RepAVs]
 | c::cs,v::vs,h=>by
  simp only [List.map_cons,RepAVs]
  refine ⟨?_,jXJ h.2⟩
  cases c <;> simp only [Cap.av,zQi,zQs] <;> exact h.1
 | [],_::_,h=>h.elim
 | _::_,[],h=>h.elim
theorem zH1 {w:World} {V:Nat→Prop} {ι:zQm} {bx:Nat→Bx}:∀ {xs:List AV} {us:List Value} {ys:List AV} {vs:List Value},RepAVs w V ι bx xs us→RepAVs w V ι bx ys vs→RepAVs w V ι bx (xs++ys) (us++vs)
 | [],[],_,_,_,h=>h
 | _::_,_::_,_,_,h,h'=>by
  simp only [RepAVs,List.cons_append] at h ⊢
  exact ⟨h.1,zH1 h.2 h'⟩
 | [],_::_,_,_,h,_=>by simp only [RepAVs] at h
 | _::_,[],_,_,h,_=>by simp only [RepAVs] at h
theorem jX5 {Γ:Gam} (o:Oper) (s:AS):jQs P o s (zVG P Γ o s.eval):=by
 unfold zVG
 split
 ·rename_i c h
  obtain ⟨callee,args,ts⟩:=c
  simp only
  split
  ·rename_i f
   split
   ·exact zJU fun hen w0 S n ι a w hr=>⟨args.map a.eval,zHN h hen w0 S n ι a w hr,fun ι2 s2 ht hr2=>by simpa using zHf ht hr2 args.toList⟩
   ·exact jZI (zK3 o s) (by unfold prep; rw [h])
  ·rename_i t
   split
   ·rename_i f hx
    split
    ·exact zJU fun hen w0 S n ι a w hr=>⟨args.map a.eval,zGf h hx hen w0 S n ι a w hr,fun ι2 s2 ht hr2=>by simpa using zHf ht hr2 args.toList⟩
    ·exact jZI (zK3 o s) (by unfold prep; rw [h]; simp only [hx])
   ·rename_i f cs hx
    refine zJU fun hen w0 S n ι a w hr=>?_
    have hv:=hr.eval (.tmp t)
    rw [hx] at hv
    simp only [zQi,zQs] at hv
    obtain ⟨lb,hv,hc⟩:=hv
    refine ⟨args.map a.eval++lb,?_,fun ι2 s2 ht hr2=>?_⟩
    ·simp [execOp,h,resolve,hv,Deferred.ofValue,invoke,zV6 hen]
    ·have hv2:=hr2.eval (.tmp t)
     have hx2:s2.eval (.tmp t)=.one (.clo f cs):=by rw [← hx]; simp [AS.eval,ht]
     rw [hx2,hv] at hv2
     simp only [zQi,zQs] at hv2
     obtain ⟨lb2,e,hc2⟩:=hv2
     injection e with _ _ e
     subst e
     have:=zH1 (zHf ht hr2 args.toList) (jXJ hc2)
     simpa using this
   ·exact .none
  ·exact (zK3 o s).up
 ·exact (zK3 o s).up
theorem jVZ {Γ:Gam} {n:Dom} {o:Oper} {s s':AS} {vc:Prop} (h:aop P Γ n o s=some (vc,s')) {w0:World} {S:zQ8} {ι:zQm} {a:Act} {w:World} {K:Act→World→Prop} {Q:Exit→Act→World→Prop}
  (hr:RepS w0 S n s ι a w) (hvc:vc) (hK:∀ ι' a' w',RepS w0 S n s' ι' a' w'→K a' w'):o.wp P a w K Q:=by
 unfold aop at h
 split at h
 ·rename_i hd
  split at h
  ·rename_i e he
   split at h
   ·rename_i vc' v ws hf
    simp only [Option.some.injEq,Prod.mk.injEq] at h
    obtain ⟨rfl,rfl⟩:=h
    refine jX5 (Γ:=Γ) o s e he vc' v ws hf w0 S n ι a w K Q hr hvc fun ι' u w' h1 h2=>hK ι' _ w' (h1.put (fun k hk=>?_) h2)
    unfold jXH at hd
    rw [hk] at hd
    simpa using hd
   ·cases h
  ·cases h
 ·cases h
theorem jYN {Γ:Gam} {n:Dom} {o:Oper} {s s':AS} {vc:Prop} (h:aop P Γ n o s=some (vc,s')):∀ c,o.op≠.defer c:=by
 intro c hc
 unfold aop zVG prep at h
 rw [hc] at h
 simp at h
end
theorem jJ0 {P:Program} {Γ:Gam} {o:Oper} {ρ ρ':Operand→AV} (h:∀ x∈o.op.operands,ρ x=ρ' x):prep P Γ o ρ=prep P Γ o ρ':=by
 obtain ⟨dst,op,type,pos,after,guard⟩:=o
 have pairs:∀ ps:Array (Nat × Operand),(∀ x∈(ps.toList.map (·.2)),ρ x=ρ' x)→(ps.toList.map fun p=>(p.1,ρ p.2))=ps.toList.map fun p=>(p.1,ρ' p.2):=fun ps hp=>
  List.map_congr_left fun p hm=>by
   simp only [hp p.2 (List.mem_map.2 ⟨p,hm,rfl⟩)]
 have bnd:∀ (o:Option Operand) d,(∀ x,o=some x→ρ x=ρ' x)→zYH ρ o d=zYH ρ' o d:=fun o d ho=>by
  cases o with
  | none=>rfl
  | some x=>simp only [zYH,ho x rfl]
 cases op <;> simp only [Op.operands] at h <;> simp only [prep]
 case move x=>rw [h x (by simp)]
 case assign x=>rw [h x (by simp)]
 case pick c a b=>simp only [jZ1,h c (by simp),h a (by simp),h b (by simp)]
 case box t x=>simp only [jWt,h x (by simp)]
 case build t ps=>simp only [jQY,pairs ps (fun x hx=>h x (by simpa using hx))]
 case buildSlice t n ps=>simp only [zYR,zJk,pairs ps (fun x hx=>h x (by simpa using hx))]
 case load t x=>simp only [jJd,h x (by simp)]
 case store t x y=>simp only [jQR,h x (by simp),h y (by simp)]
 case nilCheck x=>simp only [zK8,h x (by simp)]
 case binOp op t x y t'=>simp only [jWu,h x (by simp),h y (by simp)]
 case unOp op t x=>simp only [opUn,h x (by simp)]
 case convert s d x=>simp only [jJe,jQW,jQV,h x (by simp)]
 case makeSlice t l c=>simp only [zJ0,h l (by simp),h c (by simp)]
 case slice t x lo hi mx=>
  have e0:zK7 P ρ t x lo hi mx=zK7 P ρ' t x lo hi mx:=by
   simp only [zK7,h x (by simp),bnd lo _ (fun y e=>h y (by subst e; simp)),bnd hi _ (fun y e=>h y (by subst e; simp))]
  have e1:∀ b n,zK5 P ρ t b n lo hi mx=zK5 P ρ' t b n lo hi mx:=fun b n=>by
   simp only [zK5,bnd hi _ (fun y e=>h y (by subst e; simp))]
  have e2:∀ b n,zK6 P ρ t b n lo hi mx=zK6 P ρ' t b n lo hi mx:=fun b n=>by
   simp only [zK6,bnd lo _ (fun y e=>h y (by subst e; simp)),bnd hi _ (fun y e=>h y (by subst e; simp))]
  unfold jQS
  rw [h x (by simp),e0]
  split
  ·cases lo with
   | none=>exact e1 _ _
   | some l=>exact e2 _ _
  ·rfl
 case fieldAddr t x f=>simp only [zJ2,h x (by simp)]
 case field t x f=>simp only [jQU,h x (by simp)]
 case indexAddr t x y=>simp only [zJ1,h x (by simp),h y (by simp)]
 case index t x y=>simp only [jQT,h x (by simp),h y (by simp)]
 case extract x i=>simp only [zWf,h x (by simp)]
 case makeFunc fn fs cs=>
  have h1:fs.toList.map ρ=fs.toList.map ρ':=List.map_congr_left fun x hx=>h x (by simp; left; simpa using hx)
  have h2:cs.toList.map ρ=cs.toList.map ρ':=List.map_congr_left fun x hx=>h x (by simp; right; simpa using hx)
  simp only [h1,h2]
 case call c=>
  obtain ⟨callee,args,ts⟩:=c
  have hargs:∀ x∈args.toList,ρ x=ρ' x:=fun x hx=>h x (by simp [Call.operands]; right; simpa using hx)
  have hm:args.toList.map ρ=args.toList.map ρ':=List.map_congr_left hargs
  cases callee with
  | value f=>
   cases f with
   | tmp t=>simp only [hm,h (.tmp t) (by simp [Call.operands])]
   | const v=>rfl
   | global g=>rfl
   | func f=>simp only [hm]
  | invoke r m=>rfl
  | builtin b=>
   simp only
   generalize args.toList=l at hargs
   match b,l with
   | .len,[x]=>simp only [hargs x (by simp)]
   | .max,[x,y]=>simp only [hargs x (by simp),hargs y (by simp)]
   | .min,[x,y]=>simp only [hargs x (by simp),hargs y (by simp)]
   | .append,[x,y]=>simp only [hargs x (by simp),hargs y (by simp)]
   | b,[]=>cases b <;> rfl
   | b,[x]=>cases b <;> first | rfl | simp only [hargs x (by simp)]
   | b,[x,y]=>cases b <;> first | rfl | simp only [hargs x (by simp),hargs y (by simp)]
   | b,_::_::_::_=>cases b <;> rfl
theorem jYj {P:Program} {Γ:Gam} {o:Oper} {ρ ρ':Operand→AV} (h:∀ x∈o.op.operands,ρ x=ρ' x):zVG P Γ o ρ=zVG P Γ o ρ':=by
 have h1:=jJ0 (P:=P) (Γ:=Γ) h
 unfold zVG
 rw [h1]
 cases hop:o.op with
 | call c=>
  obtain ⟨callee,args,ts⟩:=c
  rw [hop] at h
  simp only [Op.operands] at h
  have hargs:∀ x∈args.toList,ρ x=ρ' x:=fun x hx=>h x (by simp [Call.operands]; right; simpa using hx)
  have hm:args.toList.map ρ=args.toList.map ρ':=List.map_congr_left hargs
  cases callee with
  | value x=>
   cases x with
   | func f=>simp only [hm]
   | tmp t=>simp only [hm,h (.tmp t) (by simp [Call.operands])]
   | const v=>rfl
   | global g=>rfl
  | invoke r m=>rfl
  | builtin b=>rfl
 | _=>rfl
def Wide (F:Fence):Prop:=F=Fence.wide∨∃ l,F=Fence.wide.inRound l
theorem Wide.fn {F:Fence} (h:Wide F) (f:FuncId):F.fn f:=by
 rcases h with rfl | ⟨l,rfl⟩ <;> trivial
theorem Wide.depth {F:Fence} (h:Wide F):F.depth=none:=by
 rcases h with rfl | ⟨l,rfl⟩ <;> rfl
theorem Wide.room {F:Fence} (h:Wide F) (n:Nat):F.room n:=fun d hd=>by rw [h.depth] at hd; cases hd
theorem Wide.calls {F:Fence} (h:Wide F) {n:Nat} {P:Program} {f:FuncId} {args:Array Value} {w:World} {R:Ending→World→Prop} (hc:Calls P f args w R):CallsIn F n P f args w R:=by
 have h1:CallsIn Fence.wide n P f args w R:=callsIn_wide.2 hc
 rcases h with rfl | ⟨l,rfl⟩
 ·exact h1
 ·exact h1
theorem Wide.rows {F:Fence} (h:Wide F) {n:Nat} {P:Program} {row:String} {args:Array Value} {w:World} {R:Value→World→Prop} (hc:Rows P row args w R):RowsIn F n P row args w R:=by
 have h1:RowsIn Fence.wide n P row args w R:=fun c cs _=>by
  obtain ⟨v,w',r,st⟩:=hc c cs
  exact ⟨v,w',r,stepsIn_wide.2 st⟩
 rcases h with rfl | ⟨l,rfl⟩
 ·exact h1
 ·exact h1
theorem Oper.wpIn_of_wp {F:Fence} (hF:Wide F) {m:Nat} {P:Program} {o:Oper} (hd:∀ c,o.op≠.defer c) {a:Act} {w:World} {K:Act→World→Prop} {Q:Exit→Act→World→Prop} (h:o.wp P a w K Q):o.wpIn F m P a w K Q:=by
 refine ⟨fun f _=>hF.fn f,?_⟩
 rw [Oper.semAt_eq _ _ _ hd]
 unfold Oper.wp at h
 revert h
 generalize (execOp a.eval o).run P w=r
 intro h
 cases r with
 | ok nx w'=>
  cases nx with
  | value v=>exact h
  | skip=>exact h
  | defer d=>exact h
  | enter f args=>exact ⟨fun hx=>by (rw [hF.depth] at hx; cases hx),hF.calls h⟩
  | row row args=>exact ⟨fun hx=>by (rw [hF.depth] at hx; cases hx),hF.rows h⟩
  | _=>exact h.elim
 | halt s w'=>
  cases s with
  | panic v=>exact h
  | _=>exact h.elim
section
variable (P:Program) (Γ:Gam) (n:Dom) (ops:Array Oper)
def gv (s:AS) (o:Oper):Option Bool:=
 match o.guard with
 | none=>some true
 | some (j,want)=>match (ops[j]?).bind (·.dst) with
  | none=>none
  | some t=>match s.tm t with
   | .tup []=>some false
   | x=>x.bool?.map (·==want)
def zVR (i:Nat) (s:AS):Option (Prop × AS):=
 match ops[i]? with
 | none=>none
 | some o=>match gv ops s o with
  | none=>none
  | some true=>aop P Γ n o s
  | some false=>if jXH n o then some (True,s.put o.dst (.tup [])) else none
def touch (i:Nat) (s:AS):List Nat × List Nat:=
 match ops[i]? with
 | none=>([],[])
 | some o=>match gv ops s o with
  | some true=>match zVG P Γ o s.eval with
   | some e=>e.touch s.bx
   | none=>([],[])
  | _=>([],[])
def Runs (τ:Nat→List Nat × List Nat):List Nat→AS→AS→Prop
 | [],s,s'=>s=s'
 | i::R,s,s'=>∃ vc s1,zVR P Γ n ops i s=some (vc,s1)∧vc∧touch P Γ ops i s=τ i∧Runs τ R s1 s'
def jUn (x y:List Nat × List Nat):Bool:=
 (x.2.all fun b=>!y.1.contains b && !y.2.contains b) && (y.2.all fun b=>!x.1.contains b)
def jVp (τ:Nat→List Nat × List Nat) (i j:Nat):Bool:=
 match ops[i]?,ops[j]? with
 | some x,some y=>x.apart ops y && jUn (τ i) (τ j)
 | _,_=>false
end
section
variable {P:Program} {Γ:Gam} {n:Dom} {ops:Array Oper}
theorem zGt (s:AS) (d:Option Nat) (v:AV) (t:Nat) (h:d≠some t):(s.put d v).tm t=s.tm t:=by
 cases d with
 | none=>rfl
 | some d=>simp only [AS.put]; rw [if_neg (fun e=>h (by rw [e]))]
theorem zUj (s:AS) (d:Option Nat) (v:AV):(s.put d v).bx=s.bx:=by cases d <;> rfl
theorem zZS:∀ (bs:List Nat) (Bs:List Bx) (s:AS) (b:Nat),b ∉ bs→(s.setBs bs Bs).bx b=s.bx b
 | [],_,_,_,_=>by simp [AS.setBs]
 | _::_,[],_,_,_=>by simp [AS.setBs]
 | x::bs,B::Bs,s,b,h=>by
  rw [AS.setBs,zZS bs Bs _ b (fun e=>h (by simp [e]))]
  simp only [AS.setB]
  rw [if_neg (fun e=>h (by simp [e]))]
theorem zYk:∀ (bs:List Nat) (Bs:List Bx) (s s':AS) (b:Nat),(b ∉ bs→s.bx b=s'.bx b)→(Bs.length < bs.length→s.bx b=s'.bx b)→(s.setBs bs Bs).bx b=(s'.setBs bs Bs).bx b
 | [],_,_,_,_,h,_=>by simpa [AS.setBs] using h (by simp)
 | _::_,[],_,_,_,_,h=>by simpa [AS.setBs] using h (by simp)
 | x::bs,B::Bs,s,s',b,h,h'=>by
  rw [AS.setBs,AS.setBs]
  by_cases e:b=x
  ·refine zYk bs Bs _ _ b (fun _=>by simp [AS.setB,e]) (fun _=>by simp [AS.setB,e])
  ·refine zYk bs Bs _ _ b (fun hb=>?_) (fun hl=>?_)
   ·simp only [AS.setB,if_neg e]; exact h (by simp [e,hb])
   ·simp only [AS.setB,if_neg e]; exact h' (by simpa using hl)
theorem jKm {i:Nat} {s s1:AS} {vc:Prop} (h:zVR P Γ n ops i s=some (vc,s1)):∃ o v wrs bs,ops[i]?=some o∧wrs=(touch P Γ ops i s).2∧s1=(s.setBs wrs bs).put o.dst v:=by
 unfold zVR at h
 split at h
 ·cases h
 ·rename_i o ho
  split at h
  ·cases h
  ·rename_i hg
   unfold aop at h
   split at h
   ·split at h
    ·rename_i e he
     split at h
     ·rename_i vc' v ws hf
      simp only [Option.some.injEq,Prod.mk.injEq] at h
      obtain ⟨rfl,rfl⟩:=h
      exact ⟨o,v,ws.map (·.1),ws.map (·.2),ho,by simp [touch,ho,hg,he,Eff2.touch,hf],rfl⟩
     ·cases h
    ·cases h
   ·cases h
  ·rename_i hg
   split at h
   ·simp only [Option.some.injEq,Prod.mk.injEq] at h
    obtain ⟨rfl,rfl⟩:=h
    exact ⟨o,.tup [],[],[],ho,by simp [touch,ho,hg],by simp [AS.setBs]⟩
   ·cases h
theorem zHe {i:Nat} {o:Oper} (ho:ops[i]?=some o) {s s':AS} (htm:∀ t∈o.looksAt ops,s.tm t=s'.tm t) :
  (∀ b∈(touch P Γ ops i s).1,s.bx b=s'.bx b)→touch P Γ ops i s=touch P Γ ops i s'∧(∀ vc s1,zVR P Γ n ops i s=some (vc,s1) →
   ∃ v bs,s1=(s.setBs (touch P Γ ops i s).2 bs).put o.dst v∧zVR P Γ n ops i s'=some (vc,(s'.setBs (touch P Γ ops i s).2 bs).put o.dst v)):=by
 have hgv:gv ops s o=gv ops s' o:=by
  unfold gv
  cases hg:o.guard with
  | none=>rfl
  | some jw=>
   obtain ⟨j,want⟩:=jw
   simp only
   cases ht:(ops[j]?).bind (·.dst) with
   | none=>rfl
   | some t=>
    have:s.tm t=s'.tm t:=htm t (by simp [Oper.looksAt,hg,ht])
    simp only [this]
 have hev:∀ x∈o.op.operands,s.eval x=s'.eval x:=fun x hx=>by
  cases x with
  | tmp t=>exact htm t (by simp only [Oper.looksAt,List.mem_append,List.mem_filterMap]; exact .inl ⟨_,by simpa using hx,rfl⟩)
  | const v=>rfl
  | global g=>rfl
  | func f=>rfl
 have hprep:zVG P Γ o s.eval=zVG P Γ o s'.eval:=jYj hev
 intro hbx
 have htouch:touch P Γ ops i s=touch P Γ ops i s':=by
  simp only [touch,ho,← hgv,← hprep] at hbx ⊢
  cases hg:gv ops s o with
  | none=>rfl
  | some g=>
   cases g with
   | false=>rfl
   | true=>
    rw [hg] at hbx
    cases he:zVG P Γ o s.eval with
    | none=>rfl
    | some e=>
     rw [he] at hbx
     simp only at hbx ⊢
     exact e.touch_congr hbx
 refine ⟨htouch,fun vc s1 h=>?_⟩
 unfold zVR at h ⊢
 simp only [ho] at h ⊢
 rw [← hgv]
 cases hg:gv ops s o with
 | none=>rw [hg] at h; cases h
 | some g=>
  rw [hg] at h
  cases g with
  | false=>
   simp only at h ⊢
   split at h
   ·rename_i hd
    simp only [Option.some.injEq,Prod.mk.injEq] at h
    obtain ⟨rfl,rfl⟩:=h
    have ht:(touch P Γ ops i s).2=[]:=by simp [touch,ho,hg]
    exact ⟨.tup [],[],by rw [ht]; simp [AS.setBs],by rw [ht,if_pos hd]; simp [AS.setBs]⟩
   ·cases h
  | true=>
   simp only at h ⊢
   unfold aop at h ⊢
   split at h
   ·rename_i hd
    rw [if_pos hd,← hprep]
    cases he:zVG P Γ o s.eval with
    | none=>rw [he] at h; cases h
    | some e=>
     rw [he] at h
     simp only at h ⊢
     have ht:touch P Γ ops i s=e.touch s.bx:=by simp [touch,ho,hg,he]
     rw [ht] at hbx
     obtain ⟨m1,m2⟩:=e.agree hbx
     rw [← m1] at m2 ⊢
     rw [← m2]
     cases hf:e.f (e.rds.map s.bx) ((e.more (e.rds.map s.bx)).map s.bx) with
     | none=>rw [hf] at h; cases h
     | some r=>
      obtain ⟨vc',v,ws⟩:=r
      rw [hf] at h
      simp only [Option.some.injEq,Prod.mk.injEq] at h ⊢
      obtain ⟨rfl,rfl⟩:=h
      have ht2:(touch P Γ ops i s).2=ws.map (·.1):=by rw [ht]; simp [Eff2.touch,hf]
      exact ⟨v,ws.map (·.2),by rw [ht2]; rfl,rfl,by rw [ht2]; rfl⟩
   ·cases h
theorem swap {τ:Nat→List Nat × List Nat} {i j:Nat} (hi:jVp ops τ j i=true) {s s1 s2:AS} {v1 v2:Prop}
  (h1:zVR P Γ n ops j s=some (v1,s1)) (t1:touch P Γ ops j s=τ j) (h2:zVR P Γ n ops i s1=some (v2,s2)) (t2:touch P Γ ops i s1=τ i) :
  ∃ s1',zVR P Γ n ops i s=some (v2,s1')∧touch P Γ ops i s=τ i∧zVR P Γ n ops j s1'=some (v1,s2)∧touch P Γ ops j s1'=τ j:=by
 unfold jVp at hi
 split at hi
 ·rename_i oj oi hoj hoi
  simp only [Bool.and_eq_true] at hi
  obtain ⟨hap,hb⟩:=hi
  obtain ⟨a1,a2,a3⟩:=Oper.apart_spec hap
  simp only [jUn,Bool.and_eq_true,List.all_eq_true,Bool.not_eq_true'] at hb
  obtain ⟨b1,b2⟩:=hb
  obtain ⟨o',v,wrs,bs,ho',hw,hs1⟩:=jKm h1
  rw [hoj] at ho'
  injection ho' with ho'
  subst ho'
  rw [t1] at hw
  have htm1:∀ t∈oi.looksAt ops,s1.tm t=s.tm t:=fun t ht=>by
   rw [hs1,zGt _ _ _ _ (fun e=>a1 t e ht),zZu]
  have hbx1:∀ b,b ∉ (τ j).2→s1.bx b=s.bx b:=fun b hb=>by
   rw [hs1,zUj,zZS _ _ _ _ (by rw [hw]; exact hb)]
  obtain ⟨c1,c2⟩:=zHe (P:=P) (Γ:=Γ) (n:=n) hoi htm1 (by
   rw [t2]
   exact fun b hb=>hbx1 b (fun hm=>by
    have:=b1 b hm
    simp only [List.contains_eq_mem,decide_eq_false_iff_not] at this
    exact this.1 hb))
  rw [t2] at c1 c2
  obtain ⟨v',bs',e1,e2⟩:=c2 _ _ h2
  have htm2:∀ t∈oj.looksAt ops,s.tm t=((s.setBs (τ i).2 bs').put oi.dst v').tm t:=fun t ht=>by
   rw [zGt _ _ _ _ (fun e=>a3 t e ht),zZu]
  obtain ⟨d1,d2⟩:=zHe (P:=P) (Γ:=Γ) (n:=n) hoj htm2 (by
   rw [t1]
   intro b hb
   rw [zUj,zZS]
   intro hm
   have:=b2 b hm
   simp only [List.contains_eq_mem,decide_eq_false_iff_not] at this
   exact this hb)
  rw [t1] at d1 d2
  obtain ⟨v'',bs'',f1,f2⟩:=d2 _ _ h1
  refine ⟨_,e2,c1.symm,?_,d1.symm⟩
  rw [f2]
  congr 1
  congr 1
  rw [e1,f1]
  apply AS.ext'
  ·funext t
   have q:∀ (s:AS) (d:Option Nat) (x:AV) (bs:List Nat) (Bs:List Bx),((s.setBs bs Bs).put d x).tm=(s.put d x).tm:=fun s d x bs Bs=>by
    cases d with
    | none=>simp [AS.put,zZu]
    | some d=>simp [AS.put,zZu]
   by_cases g1:oj.dst=some t
   ·have g2:oi.dst≠some t:=a2 t g1
    rw [zGt _ oi.dst _ _ g2,zZu,g1]
    simp [AS.put]
   ·rw [zGt _ oj.dst _ _ g1,zZu]
    by_cases g2:oi.dst=some t
    ·rw [g2]; simp [AS.put]
    ·rw [zGt _ oi.dst _ _ g2,zGt _ oi.dst _ _ g2,zZu,zZu,zGt _ oj.dst _ _ g1,zZu]
  ·funext b
   rw [zUj,zUj]
   by_cases g1:b∈(τ j).2
   ·have hni:b ∉ (τ i).2:=fun hm=>by
     have:=b1 b g1
     simp only [List.contains_eq_mem,decide_eq_false_iff_not] at this
     exact this.2 hm
    rw [zZS (τ i).2 bs' _ b hni,zUj]
    refine zYk _ _ _ _ _ (fun h=>absurd g1 h) (fun _=>?_)
    rw [zUj,zZS _ _ _ _ hni]
   ·rw [zZS (τ j).2 bs'' _ b g1,zUj]
    refine zYk _ _ _ _ _ (fun _=>?_) (fun _=>?_) <;> rw [zUj,zZS _ _ _ _ g1]
 ·cases hi
theorem jGF {τ:Nat→List Nat × List Nat} {i:Nat} {B:List Nat} {s':AS}:∀ {A:List Nat} {s:AS},(∀ j∈A,jVp ops τ j i=true)→Runs P Γ n ops τ (A++i::B) s s' →
  ∃ vc s1,zVR P Γ n ops i s=some (vc,s1)∧vc∧touch P Γ ops i s=τ i∧Runs P Γ n ops τ (A++B) s1 s'
 | [],s,_,h=>h
 | j::A,s,hA,h=>by
  obtain ⟨vj,sj,h1,h2,h3,h4⟩:=h
  obtain ⟨vi,si,g1,g2,g3,g4⟩:=jGF (fun k hk=>hA k (by simp [hk])) h4
  obtain ⟨s1',e1,e2,e3,e4⟩:=swap (hA j (by simp)) h1 h3 g1 g3
  exact ⟨vi,s1',e1,g2,e2,vj,si,e3,h2,e4,g4⟩
end
section
variable (ops:Array Oper)
def jYs (k:Nat) (t:List Nat):List Edge→Nat
 | []=>0
 | e::es=>match Region.binds .any e && decide (e.on < k) with
  | true=>(2 ^ e.on ||| t.getD e.on 0) ||| jYs k t es
  | false=>jYs k t es
def zKJ:Nat→List Nat
 | 0=>[]
 | k+1=>zKJ k++[match ops[k]? with
  | some o=>jYs k (zKJ k) o.after.toList
  | none=>0]
def zUW (j i:Nat):Bool:=((zKJ ops ops.size).getD i 0).testBit j
def jV5 (listed:Array Bool):Prop:=∀ i o,ops[i]?=some o→listed.getD i true=true→i < listed.size→∀ e∈o.after.toList,Region.binds .any e=true→listed.getD e.on false=true
theorem zJ5:∀ k,(zKJ ops k).length=k
 | 0=>rfl
 | k+1=>by simp [zKJ,zJ5 k]
theorem zK9:∀ {n k:Nat},k < n→(zKJ ops n).getD k 0=match ops[k]? with
  | some o=>jYs k (zKJ ops k) o.after.toList
  | none=>0
 | n+1,k,h=>by
  simp only [zKJ,List.getD_eq_getElem?_getD]
  by_cases e:k < n
  ·rw [List.getElem?_append_left (by rw [zJ5]; exact e)]
   have:=zK9 (n:=n) e
   rwa [List.getD_eq_getElem?_getD] at this
  ·have:k=n:=by omega
   subst this
   rw [List.getElem?_append_right (by rw [zJ5]; omega),zJ5]
   simp
theorem zGH {k j:Nat} {t:List Nat}:∀ {es:List Edge},(jYs k t es).testBit j=true→∃ e∈es,Region.binds .any e=true∧e.on < k∧(e.on=j∨(t.getD e.on 0).testBit j=true)
 | [],h=>by simp [jYs] at h
 | e::es,h=>by
  simp only [jYs] at h
  cases hb:Region.binds .any e && decide (e.on < k) with
  | false=>
   rw [hb] at h
   obtain ⟨e',h1,h2⟩:=zGH h
   exact ⟨e',by simp [h1],h2⟩
  | true=>
   rw [hb] at h
   simp only [Nat.testBit_or,Bool.or_eq_true,Nat.testBit_two_pow] at h
   simp only [Bool.and_eq_true,decide_eq_true_eq] at hb
   rcases h with (h | h) | h
   ·exact ⟨e,by simp,hb.1,hb.2,.inl (by simpa using h)⟩
   ·exact ⟨e,by simp,hb.1,hb.2,.inr h⟩
   ·obtain ⟨e',h1,h2⟩:=zGH h
    exact ⟨e',by simp [h1],h2⟩
theorem jZm {listed:Array Bool} (hc:jV5 ops listed) (hsz:listed.size=ops.size):∀ (i j:Nat) (o:Oper),ops[i]?=some o→(∀ e∈o.after.toList,Region.binds .any e=true→listed.getD e.on false=true)→zUW ops j i=true→listed.getD j false=true:=by
 intro i
 induction i using Nat.strongRecOn with
 | ind i ih=>
  intro j o ho haft hb
  have hi:i < ops.size:=(Array.getElem?_eq_some_iff.1 ho).1
  unfold zUW at hb
  rw [zK9 ops hi,ho] at hb
  obtain ⟨e,h1,h2,h3,h4⟩:=zGH hb
  have hl:=haft e h1 h2
  rcases h4 with rfl | h4
  ·exact hl
  ·have he:e.on < ops.size:=by omega
   refine ih e.on h3 j ops[e.on] (Array.getElem?_eq_getElem he) ?_ ?_
   ·refine hc e.on _ (Array.getElem?_eq_getElem he) ?_ (by omega)
    have:e.on < listed.size:=by omega
    simp [Array.getD,this] at hl ⊢
    exact hl
   ·unfold zUW
    rw [zK9 ops he]
    rw [zK9 ops h3] at h4
    exact h4
def jWh (τ:Nat→List Nat × List Nat):Bool:=
 (List.range ops.size).all fun i=>((ops[i]?).any fun o=>o.after.all fun e=>!Region.binds .any e || decide (e.on < i)) && (List.range i).all fun j=>zUW ops j i || jVp ops τ j i
end
section
variable {P:Program} {Γ:Gam} {n:Dom} {ops:Array Oper}
theorem jXn {w0:World} {S:zQ8} {s:AS} {ι:zQm} {a:Act} {w:World} (h:RepS w0 S n s ι a w) {o:Oper} {g:Bool} (hg:gv ops s o=some g):Region.wanted o (yielded ops a.tmps)=g:=by
 unfold gv at hg
 unfold Region.wanted
 cases ho:o.guard with
 | none=>rw [ho] at hg; simp only [Option.some.injEq] at hg; exact hg
 | some jw=>
  obtain ⟨j,want⟩:=jw
  rw [ho] at hg
  simp only at hg ⊢
  cases ht:(ops[j]?).bind (·.dst) with
  | none=>rw [ht] at hg; cases hg
  | some t=>
   rw [ht] at hg
   simp only at hg
   have hr:=h.tm t
   unfold yielded
   rw [ht]
   simp only [Option.bind_some]
   split at hg
   ·rename_i hs
    rw [hs] at hr
    simp only [zQi] at hr
    obtain ⟨cur,e,hc⟩:=hr
    have hcur:cur=#[]:=by
     cases hcl:cur.toList with
     | nil=>exact Array.toList_eq_nil_iff.1 hcl
     | cons _ _=>rw [hcl] at hc; simp only [RepAVs] at hc
    subst hcur
    simp only [Option.some.injEq] at hg
    subst hg
    rw [Array.getD_eq_getD_getElem?] at e
    cases hx:a.tmps[t]? with
    | none=>rfl
    | some x=>
     rw [hx] at e
     simp only [Option.getD_some] at e
     subst e
     rfl
   ·cases hb:(s.tm t).bool? with
    | none=>rw [hb] at hg; cases hg
    | some b=>
     rw [hb] at hg
     simp only [Option.map_some,Option.some.injEq] at hg
     subst hg
     have e:=zJV hr hb
     rw [Array.getD_eq_getD_getElem?] at e
     cases hx:a.tmps[t]? with
     | none=>rw [hx] at e; simp [undef] at e
     | some x=>
      rw [hx] at e
      simp only [Option.getD_some] at e
      subst e
      simp only
      cases b <;> cases want <;> rfl
theorem zHd {F:Fence} {m:Nat} (hF:Wide F) {w0:World} {S:zQ8} {s s1:AS} {ι:zQm} {a:Act} {w:World} {i:Nat} {vc:Prop} (h:zVR P Γ n ops i s=some (vc,s1)) (hr:RepS w0 S n s ι a w) (hvc:vc) {K:Act→World→Prop} {Q:Exit→Act→World→Prop}
  (hK:∀ ι' a' w',RepS w0 S n s1 ι' a' w'→K a' w'):wpOpIn F m P ops Q i K a w:=by
 unfold zVR at h
 unfold Go.wpOpIn
 split at h
 ·cases h
 ·rename_i o ho
  simp only [ho]
  split at h
  ·cases h
  ·rename_i hg
   rw [if_pos (jXn hr hg)]
   exact Oper.wpIn_of_wp hF (jYN h) (jVZ h hr hvc hK)
  ·rename_i hg
   rw [jXn hr hg,if_neg (by simp)]
   split at h
   ·rename_i hd
    simp only [Option.some.injEq,Prod.mk.injEq] at h
    obtain ⟨rfl,rfl⟩:=h
    refine ⟨fun _ _=>hF.fn _,hK ι _ w (hr.put (fun k hk=>?_) (by simp only [zQi]; exact ⟨_,rfl,by simp only [RepAVs]⟩))⟩
    unfold jXH at hd
    rw [hk] at hd
    simpa using hd
   ·cases h
theorem zHM {F:Fence} {m:Nat} (hF:Wide F) {τ:Nat→List Nat × List Nat} {w0:World} {S:zQ8} {Q:Exit→Act→World→Prop} {s':AS}:∀ {R:List Nat} {s:AS} {ι:zQm} {a:Act} {w:World},Runs P Γ n ops τ R s s'→RepS w0 S n s ι a w →
  (∀ ι' a' w',RepS w0 S n s' ι' a' w'→Q .normal a' w')→wpOpsIn F m P ops Q R a w
 | [],s,ι,a,w,h,hr,hQ=>by
  have h:s=s':=h
  subst h; exact hQ ι a w hr
 | i::R,s,ι,a,w,⟨vc,s1,h1,h2,_,h4⟩,hr,hQ=>by
  rw [wpOpsIn_cons]
  exact zHd hF h1 hr h2 fun ι' a' w' hr'=>zHM hF h4 hr' hQ
def left (ops:Array Oper) (listed:Array Bool):List Nat:=(List.range ops.size).filter fun i=>!listed.getD i true
theorem jWb {F:Fence} {m:Nat} (hF:Wide F) {τ:Nat→List Nat × List Nat} (hok:jWh ops τ=true) {w0:World} {S:zQ8} {Q:Exit→Act→World→Prop} {s':AS} (hQ:∀ ι' a' w',RepS w0 S n s' ι' a' w'→Q .normal a' w') :
  ∀ (fuel:Nat) (listed:Array Bool) (s:AS) (ι:zQm) (a:Act) (w:World),jV5 ops listed→listed.size=ops.size→(left ops listed).length≤fuel→Runs P Γ n ops τ (left ops listed) s s'→RepS w0 S n s ι a w→wpAnyIn F m P .any ops Q fuel listed a w:=by
 simp only [jWh,List.all_eq_true,Bool.and_eq_true] at hok
 have hready:∀ (listed:Array Bool) i,i∈Region.ready .any ops listed↔i < ops.size∧listed.getD i true=false∧((ops[i]?).map (·.after.all fun e=>!Region.binds .any e || listed.getD e.on false)).getD false=true:=by
  intro listed i
  simp [Region.ready,List.mem_filter]
 have hempty:∀ listed:Array Bool,listed.size=ops.size→Region.ready .any ops listed=[]→left ops listed=[]:=by
  intro listed hsz hr
  cases hl:left ops listed with
  | nil=>rfl
  | cons i R=>
   exfalso
   have hi:i∈left ops listed:=by rw [hl]; simp
   simp only [left,List.mem_filter,List.mem_range,Bool.not_eq_true'] at hi
   have hsorted:∀ j,j < i→listed.getD j true=true:=by
    intro j hj
    cases hjv:listed.getD j true with
    | true=>rfl
    | false=>
     exfalso
     have hjm:j∈left ops listed:=by
      simp only [left,List.mem_filter,List.mem_range,Bool.not_eq_true']
      exact ⟨by omega,hjv⟩
     have hp:(left ops listed).Pairwise (· < ·):=List.Pairwise.filter _ List.pairwise_lt_range
     rw [hl] at hjm hp
     rcases List.mem_cons.1 hjm with e | hm
     ·omega
     ·have:=(List.pairwise_cons.1 hp).1 j hm
      omega
   have:i∈Region.ready .any ops listed:=by
    rw [hready]
    refine ⟨hi.1,hi.2,?_⟩
    have h1:=(hok i (List.mem_range.2 hi.1)).1
    cases ho:ops[i]? with
    | none=>rw [ho] at h1; simp at h1
    | some o=>
     rw [ho] at h1
     simp only [Option.any_some,Option.map_some,Option.getD_some] at h1 ⊢
     rw [Array.all_eq_true_iff_forall_mem] at h1 ⊢
     intro e he
     have h2:=h1 e he
     simp only [Bool.or_eq_true,Bool.not_eq_true',decide_eq_true_eq] at h2 ⊢
     rcases h2 with h2 | h2
     ·exact .inl h2
     ·right
      have h3:=hsorted e.on h2
      have hlt:e.on < listed.size:=by omega
      simp [Array.getD,hlt] at h3 ⊢
      exact h3
   rw [hr] at this
   simp at this
 intro fuel
 induction fuel with
 | zero=>
  intro listed s ι a w hcl hsz hl hruns hr
  have h0:left ops listed=[]:=List.eq_nil_of_length_eq_zero (by omega)
  rw [h0] at hruns
  have hs:s=s':=hruns
  subst hs
  refine ⟨?_,hQ ι a w hr⟩
  cases hre:Region.ready .any ops listed with
  | nil=>rfl
  | cons i R=>
   exfalso
   have:i∈Region.ready .any ops listed:=by rw [hre]; simp
   rw [hready] at this
   have hm:i∈left ops listed:=by
    simp only [left,List.mem_filter,List.mem_range,Bool.not_eq_true']
    exact ⟨this.1,this.2.1⟩
   rw [h0] at hm
   simp at hm
 | succ fuel ih=>
  intro listed s ι a w hcl hsz hl hruns hr
  refine ⟨fun he=>?_,fun i hi=>?_⟩
  ·have h0:=hempty listed hsz he
   rw [h0] at hruns
   have hs:s=s':=hruns
   subst hs
   exact hQ ι a w hr
  ·rw [hready] at hi
   obtain ⟨hlt,hnl,haft⟩:=hi
   have hm:i∈left ops listed:=by
    simp only [left,List.mem_filter,List.mem_range,Bool.not_eq_true']
    exact ⟨hlt,hnl⟩
   obtain ⟨A,B,hAB⟩:=List.append_of_mem hm
   have hp:(left ops listed).Pairwise (· < ·):=List.Pairwise.filter _ List.pairwise_lt_range
   rw [hAB] at hp
   have hA:∀ j∈A,j < i∧listed.getD j true=false:=fun j hj=>by
    refine ⟨(List.pairwise_append.1 hp).2.2 j hj i (by simp),?_⟩
    have:j∈left ops listed:=by rw [hAB]; simp [hj]
    simp only [left,List.mem_filter,List.mem_range,Bool.not_eq_true'] at this
    exact this.2
   have hind:∀ j∈A,jVp ops τ j i=true:=fun j hj=>by
    obtain ⟨h1,h2⟩:=hA j hj
    have h3:=(hok i (List.mem_range.2 hlt)).2 j (List.mem_range.2 h1)
    simp only [Bool.or_eq_true] at h3
    rcases h3 with h3 | h3
    ·exfalso
     cases ho:ops[i]? with
     | none=>rw [ho] at haft; simp at haft
     | some o=>
      rw [ho] at haft
      simp only [Option.map_some,Option.getD_some] at haft
      have h4:=jZm ops hcl hsz i j o ho (fun e he hb=>by
       have:=Array.all_eq_true_iff_forall_mem.1 haft e (Array.mem_toList_iff.1 he)
       simpa [hb] using this) h3
      by_cases hlt':j < listed.size
      ·simp [Array.getD,hlt'] at h2 h4
       rw [h2] at h4; cases h4
      ·simp [Array.getD,hlt'] at h2
    ·exact h3
   rw [hAB] at hruns
   obtain ⟨vc,s1,g1,g2,_,g4⟩:=jGF hind hruns
   have hleft:left ops (listed.setIfInBounds i true)=A++B:=by
    have hnodup:(left ops listed).Nodup:=(List.nodup_range).filter _
    have e1:left ops (listed.setIfInBounds i true)=(left ops listed).filter fun k=>decide (k≠i):=by
     simp only [left,List.filter_filter]
     apply List.filter_congr
     intro k hk
     have hk':k < ops.size:=List.mem_range.1 hk
     by_cases e:k=i
     ·subst e
      simp [Array.getD,hsz,hlt]
     ·have:(listed.setIfInBounds i true).getD k true=listed.getD k true:=by
       simp only [Array.getD_eq_getD_getElem?,Array.getElem?_setIfInBounds_ne (Ne.symm e)]
      rw [this]; simp [e]
    rw [e1,hAB,List.filter_append,List.filter_cons]
    rw [hAB] at hnodup
    have hn:=List.nodup_append.1 hnodup
    have hA':A.filter (fun k=>decide (k≠i))=A:=List.filter_eq_self.2 fun k hk=>by
     have:=(hA k hk).1
     simp; omega
    have hB':B.filter (fun k=>decide (k≠i))=B:=List.filter_eq_self.2 fun k hk=>by
     have:i≠k:=fun e=>by
      have:=(List.nodup_cons.1 hn.2.1).1
      exact this (by rw [e]; exact hk)
     simp; exact Ne.symm this
    rw [hA',hB']
    simp
   refine zHd hF g1 hr g2 fun ι' a' w' hr'=>?_
   have hcl2:jV5 ops (listed.setIfInBounds i true):=by
    intro k ok hk hkl hks e he hb
    have hmono:∀ q,listed.getD q false=true→(listed.setIfInBounds i true).getD q false=true:=fun q hq=>by
     by_cases e':q=i
     ·subst e'
      simp [Array.getD,hsz,hlt]
     ·simp only [Array.getD_eq_getD_getElem?,Array.getElem?_setIfInBounds_ne (Ne.symm e')] at hq ⊢
      exact hq
    refine hmono _ ?_
    by_cases e':k=i
    ·subst e'
     rw [hk] at haft
     simp only [Option.map_some,Option.getD_some] at haft
     have:=Array.all_eq_true_iff_forall_mem.1 haft e (Array.mem_toList_iff.1 he)
     simpa [hb] using this
    ·have hkl':listed.getD k true=true:=by
      simp only [Array.getD_eq_getD_getElem?,Array.getElem?_setIfInBounds_ne (Ne.symm e')] at hkl ⊢
      exact hkl
     exact hcl k ok hk hkl' (by simpa using hks) e he hb
   refine ih _ s1 ι' a' w' hcl2 (by simpa using hsz) ?_ (by rw [hleft]; exact g4) hr'
   rw [hleft]
   have:(left ops listed).length=(A++B).length+1:=by rw [hAB]; simp; omega
   omega
end
abbrev Kn:=Nat→Option Bool
def kx (kn:Kn):Operand→Option Bool
 | .const (.bool b)=>some b
 | .tmp t=>kn t
 | _=>none
def knOf (kn:Kn):Op→Option Bool
 | .move x | .assign x=>kx kn x
 | .pick c x y=>match kx kn c with
  | some true=>kx kn x
  | some false=>kx kn y
  | none=>none
 | .unOp .not _ x=>(kx kn x).map (!·)
 | _=>none
def zKs (kn:Kn) (d:Option Nat) (b:Option Bool):Kn:=
 match d with
 | some d=>fun t=>if t=d then b else kn t
 | none=>kn
def jKK (x:AV) (b:Bool):AV:=
 match x with
 | .one (.d (.bool _))=>.one (.d (.bool b))
 | .one (.lit (.bool _))=>.one (.lit (.bool b))
 | x=>x
def AS.fix (s:AS) (t:Nat) (b:Bool):AS:=s.put (some t) (jKK (s.tm t) b)
def KnOK (kn:Kn) (s:AS):Prop:=∀ t b,kn t=some b→(s.tm t).bool?=some b
inductive Gd where
  | stuck
  | yes
  | no
  | ask (t:Nat) (b want:Bool)
def gd (ops:Array Oper) (kn:Kn) (s:AS) (o:Oper):Gd:=
 match o.guard with
 | none=>.yes
 | some (j,want)=>match (ops[j]?).bind (·.dst) with
  | none=>.stuck
  | some t=>match kn t with
   | some b=>if b=want then .yes else .no
   | none=>match s.tm t with
    | .tup []=>.no
    | .one (.d (.bool b))=>.ask t b want
    | .one (.lit (.bool b))=>.ask t b want
    | _=>.stuck
section
variable (P:Program) (Γ:Gam) (n:Dom)
def aopT (o:Oper) (s:AS):Option (Prop × AS × (List Nat × List Nat)):=
 if jXH n o then
  match zVG P Γ o s.eval with
  | some e=>match e.f (e.rds.map s.bx) ((e.more (e.rds.map s.bx)).map s.bx) with
   | some (vc,v,ws)=>some (vc,(s.setL ws).put o.dst v,(e.rds++e.more (e.rds.map s.bx),ws.map (·.1)))
   | none=>none
  | none=>none
 else none
def zJA (ops:Array Oper):List Nat→Kn→AS→List (List Nat × List Nat)→(Kn→AS→List (List Nat × List Nat)→Prop)→Prop
 | [],kn,s,acc,Q=>Q kn s acc
 | i::R,kn,s,acc,Q=>
  match ops[i]? with
  | none=>False
  | some o=>match gd ops kn s o with
   | .stuck=>False
   | .yes=>match aopT P Γ n o s with
    | some (vc,s',t)=>vc∧zJA ops R (zKs kn o.dst (knOf kn o.op)) s' (t::acc) Q
    | none=>False
   | .no=>match jXH n o with
    | true=>zJA ops R (zKs kn o.dst none) (s.put o.dst (.tup [])) (([],[])::acc) Q
    | false=>False
   | .ask t b want=>
    (b=want→match aopT P Γ n o (s.fix t want) with
     | some (vc,s',th)=>vc∧zJA ops R (zKs (zKs kn (some t) (some want)) o.dst (knOf (zKs kn (some t) (some want)) o.op)) s' (th::acc) Q
     | none=>False) ∧
    (b=(!want)→match jXH n o with
     | true=>zJA ops R (zKs (zKs kn (some t) (some (!want))) o.dst none) ((s.fix t (!want)).put o.dst (.tup [])) (([],[])::acc) Q
     | false=>False)
end
theorem jKl {x:AV} {b:Bool} (h:x.bool?=some b):jKK x b=x:=by
 unfold AV.bool? at h
 split at h
 ·injection h with h; subst h; rfl
 ·injection h with h; subst h; rfl
 ·cases h
theorem jJx {s:AS} {t:Nat} {b:Bool} (h:(s.tm t).bool?=some b):s.fix t b=s:=by
 unfold AS.fix
 rw [jKl h]
 apply AS.ext'
 ·funext t'
  simp only [AS.put]
  split
  ·rename_i e; rw [e]
  ·rfl
 ·rfl
theorem jQ5 {kn:Kn} {s:AS} (h:KnOK kn s) {x:Operand} {b:Bool} (hx:kx kn x=some b):(s.eval x).bool?=some b:=by
 unfold kx at hx
 split at hx
 ·injection hx with hx; subst hx; rfl
 ·exact h _ _ hx
 ·cases hx
section
variable {P:Program} {Γ:Gam} {n:Dom} {ops:Array Oper}
theorem jW0 {o:Oper} {s s':AS} {vc:Prop} {t:List Nat × List Nat} (h:aopT P Γ n o s=some (vc,s',t)):aop P Γ n o s=some (vc,s')∧∃ e,zVG P Γ o s.eval=some e∧t=e.touch s.bx:=by
 unfold aopT at h
 unfold aop
 split at h
 ·rename_i hd
  rw [if_pos hd]
  split at h
  ·rename_i e he
   split at h
   ·rename_i vc' v ws hf
    simp only [Option.some.injEq,Prod.mk.injEq] at h
    obtain ⟨rfl,rfl,rfl⟩:=h
    refine ⟨?_,e,he,by simp [Eff2.touch,hf]⟩
    try rw [he]
    simp only [hf]
   ·cases h
  ·cases h
 ·cases h
theorem jGw {kn:Kn} {s s':AS} (h:KnOK kn s) {o:Oper} {vc:Prop} (ha:aop P Γ n o s=some (vc,s')):KnOK (zKs kn o.dst (knOf kn o.op)) s':=by
 unfold aop at ha
 split at ha
 ·split at ha
  ·rename_i e he
   split at ha
   ·rename_i vc' v bs hf
    simp only [Option.some.injEq,Prod.mk.injEq] at ha
    obtain ⟨rfl,rfl⟩:=ha
    intro t b hb
    cases hd:o.dst with
    | none=>
     rw [hd] at hb
     have hb:kn t=some b:=hb
     show ((s.setL bs).tm t).bool?=some b
     rw [AS.setL,zZu]
     exact h t b hb
    | some d=>
     rw [hd] at hb
     simp only [zKs] at hb
     by_cases e1:t=d
     ·rw [if_pos e1] at hb
      simp only [AS.put,if_pos e1]
      unfold knOf at hb
      unfold zVG at he
      have he':(prep P Γ o s.eval).map Eff.up=some e:=by
       split at he
       ·rename_i c hc
        rw [hc] at hb
        cases hb
       ·exact he
      clear he
      obtain ⟨e0,he,rfl⟩:=Option.map_eq_some_iff.1 he'
      clear he'
      simp only [Eff.up] at hf
      obtain ⟨⟨vc0,v0,bs0⟩,hf2,hf'⟩:=Option.map_eq_some_iff.1 hf
      clear hf
      have hf:=hf2
      clear hf2
      simp only [Prod.mk.injEq] at hf'
      obtain ⟨rfl,rfl,rfl⟩:=hf'
      unfold prep at he
      split at hb
      ·rename_i x hop
       rw [hop] at he
       simp only [Option.some.injEq] at he
       subst he
       simp only [Eff.val,Option.some.injEq,Prod.mk.injEq] at hf
       rw [← hf.2.1]; exact jQ5 h hb
      ·rename_i x hop
       rw [hop] at he
       simp only [Option.some.injEq] at he
       subst he
       simp only [Eff.val,Option.some.injEq,Prod.mk.injEq] at hf
       rw [← hf.2.1]; exact jQ5 h hb
      ·rename_i c x y hop
       rw [hop] at he
       simp only [jZ1] at he
       split at hb
       ·rename_i hc
        rw [jQ5 h hc] at he
        simp only [Option.some.injEq] at he
        subst he
        simp only [Eff.val,Option.some.injEq,Prod.mk.injEq] at hf
        rw [← hf.2.1]; exact jQ5 h hb
       ·rename_i hc
        rw [jQ5 h hc] at he
        simp only [Option.some.injEq] at he
        subst he
        simp only [Eff.val,Option.some.injEq,Prod.mk.injEq] at hf
        rw [← hf.2.1]; exact jQ5 h hb
       ·cases hb
      ·rename_i t' x hop
       rw [hop] at he
       simp only [opUn] at he
       cases hx:kx kn x with
       | none=>rw [hx] at hb; cases hb
       | some bx=>
        rw [hx] at hb
        simp only [Option.map_some,Option.some.injEq] at hb
        have:=jQ5 h hx
        unfold AV.bool? at this
        split at this
        ·rename_i b' hs
         rw [hs] at he
         simp only [Option.some.injEq] at this he
         subst this he
         simp only [Eff.val,Option.some.injEq,Prod.mk.injEq] at hf
         rw [← hf.2.1,← hb]; rfl
        ·rename_i b' hs
         rw [hs] at he
         simp only [Option.some.injEq] at this he
         subst this he
         simp only [Eff.val,Option.some.injEq,Prod.mk.injEq] at hf
         rw [← hf.2.1,← hb]; rfl
        ·cases this
      ·cases hb
     ·rw [if_neg e1] at hb
      simp only [AS.put,if_neg e1]
      rw [AS.setL,zZu]
      exact h t b hb
   ·cases ha
  ·cases ha
 ·cases ha
theorem jUi {kn:Kn} {s:AS} (h:KnOK kn s) {t:Nat} {b:Bool} (ht:(s.tm t).bool?=some b):KnOK (zKs kn (some t) (some b)) s:=by
 intro t' b' hb
 simp only [zKs] at hb
 by_cases e:t'=t
 ·rw [if_pos e] at hb; injection hb with hb; subst hb; rw [e]; exact ht
 ·rw [if_neg e] at hb; exact h _ _ hb
theorem jUN {kn:Kn} {s:AS} (h:KnOK kn s) (d:Option Nat):KnOK (zKs kn d none) (s.put d (.tup [])):=by
 intro t b hb
 cases d with
 | none=>exact h t b hb
 | some d=>
  simp only [zKs] at hb
  by_cases e:t=d
  ·rw [if_pos e] at hb; cases hb
  ·rw [if_neg e] at hb
   simp only [AS.put,if_neg e]
   exact h t b hb
def Ran (P:Program) (Γ:Gam) (n:Dom) (ops:Array Oper) (R:List Nat) (s:AS) (acc:List (List Nat × List Nat)) (Q:Kn→AS→List (List Nat × List Nat)→Prop):Prop:=
 ∃ (kn':Kn) (s':AS) (ts:List (List Nat × List Nat)),Q kn' s' (ts.reverse++acc)∧KnOK kn' s'∧ts.length=R.length∧∀ τ:Nat→List Nat × List Nat,(∀ (k:Nat) (i:Nat),R[k]?=some i→τ i=ts.getD k ([],[]))→Runs P Γ n ops τ R s s'
theorem zWE:∀ {R:List Nat} {kn:Kn} {s:AS} {acc:List (List Nat × List Nat)} {Q:Kn→AS→List (List Nat × List Nat)→Prop},zJA P Γ n ops R kn s acc Q→KnOK kn s →
  Ran P Γ n ops R s acc Q
 | [],kn,s,acc,Q,h,hk=>⟨kn,s,[],h,hk,rfl,fun τ _=>rfl⟩
 | i::R,kn,s,acc,Q,h,hk=>by
  have yes:∀ {o:Oper} {kn1:Kn},ops[i]?=some o→gv ops s o=some true→KnOK kn1 s→(match aopT P Γ n o s with
    | some (vc,s',t)=>vc∧zJA P Γ n ops R (zKs kn1 o.dst (knOf kn1 o.op)) s' (t::acc) Q
    | none=>False)→Ran P Γ n ops (i::R) s acc Q:=by
   intro o kn1 ho hg hk1 h
   split at h
   ·rename_i vc s1 t ha
    obtain ⟨hvc,h⟩:=h
    obtain ⟨h1,e,he,rfl⟩:=jW0 ha
    obtain ⟨kn',s',ts,g1,g2,g3,g4⟩:=zWE h (jGw hk1 h1)
    refine ⟨kn',s',e.touch s.bx::ts,by simpa using g1,g2,by simp [g3],fun τ hτ=>⟨vc,s1,by simp [zVR,ho,hg,h1],hvc,?_,g4 τ fun k j hj=>by simpa using hτ (k+1) j (by simpa using hj)⟩⟩
    have:=hτ 0 i rfl
    rw [this]
    simp [touch,ho,hg,he]
   ·exact h.elim
  have no:∀ {o:Oper} {kn1:Kn},ops[i]?=some o→gv ops s o=some false→KnOK kn1 s→(match jXH n o with
    | true=>zJA P Γ n ops R (zKs kn1 o.dst none) (s.put o.dst (.tup [])) (([],[])::acc) Q
    | false=>False)→Ran P Γ n ops (i::R) s acc Q:=by
   intro o kn1 ho hg hk1 h
   split at h
   ·rename_i hd
    obtain ⟨kn',s',ts,g1,g2,g3,g4⟩:=zWE h (jUN hk1 o.dst)
    refine ⟨kn',s',([],[])::ts,by simpa using g1,g2,by simp [g3],fun τ hτ=>⟨True,_,by simp only [zVR,ho,hg,hd,if_true],trivial,?_,g4 τ fun k j hj=>by simpa using hτ (k+1) j (by simpa using hj)⟩⟩
    have:=hτ 0 i rfl
    rw [this]
    simp [touch,ho,hg]
   ·exact h.elim
  unfold zJA at h
  split at h
  ·exact h.elim
  ·rename_i o ho
   split at h
   ·exact h.elim
   ·rename_i hg
    have hgv:gv ops s o=some true:=by
     unfold gd at hg
     unfold gv
     cases hgu:o.guard with
     | none=>rfl
     | some jw=>
      obtain ⟨j,want⟩:=jw
      rw [hgu] at hg
      simp only at hg ⊢
      cases ht:(ops[j]?).bind (·.dst) with
      | none=>rw [ht] at hg; cases hg
      | some t=>
       rw [ht] at hg
       simp only at hg ⊢
       cases hkt:kn t with
       | some b=>
        rw [hkt] at hg
        simp only at hg
        split at hg
        ·rename_i hbw
         subst hbw
         have hb:=hk t b hkt
         split
         ·rename_i hs; rw [hs] at hb; simp [AV.bool?] at hb
         ·rw [hb]; simp
        ·cases hg
       | none=>
        rw [hkt] at hg
        simp only at hg
        split at hg <;> cases hg
    exact yes ho hgv hk h
   ·rename_i hg
    have hgv:gv ops s o=some false:=by
     unfold gd at hg
     unfold gv
     cases hgu:o.guard with
     | none=>rw [hgu] at hg; cases hg
     | some jw=>
      obtain ⟨j,want⟩:=jw
      rw [hgu] at hg
      simp only at hg ⊢
      cases ht:(ops[j]?).bind (·.dst) with
      | none=>rw [ht] at hg; cases hg
      | some t=>
       rw [ht] at hg
       simp only at hg ⊢
       cases hkt:kn t with
       | some b=>
        rw [hkt] at hg
        simp only at hg
        split at hg
        ·cases hg
        ·rename_i hbw
         have hb:=hk t b hkt
         split
         ·rfl
         ·rw [hb]; simp [hbw]
       | none=>
        rw [hkt] at hg
        simp only at hg
        split at hg
        ·rename_i hs; simp [hs]
        ·cases hg
        ·cases hg
        ·cases hg
    exact no ho hgv hk h
   ·rename_i t b want hg
    have hgt:∃ j,o.guard=some (j,want)∧(ops[j]?).bind (·.dst)=some t∧(s.tm t).bool?=some b:=by
     unfold gd at hg
     cases hgu:o.guard with
     | none=>rw [hgu] at hg; cases hg
     | some jw=>
      obtain ⟨j,want'⟩:=jw
      rw [hgu] at hg
      simp only at hg
      cases ht:(ops[j]?).bind (·.dst) with
      | none=>rw [ht] at hg; cases hg
      | some t'=>
       rw [ht] at hg
       simp only at hg
       cases hkt:kn t' with
       | some b'=>rw [hkt] at hg; simp only at hg; split at hg <;> cases hg
       | none=>
        rw [hkt] at hg
        simp only at hg
        split at hg
        ·cases hg
        ·rename_i b' hs
         simp only [Gd.ask.injEq] at hg
         obtain ⟨rfl,rfl,rfl⟩:=hg
         exact ⟨j,rfl,ht,by rw [hs]; rfl⟩
        ·rename_i b' hs
         simp only [Gd.ask.injEq] at hg
         obtain ⟨rfl,rfl,rfl⟩:=hg
         exact ⟨j,rfl,ht,by rw [hs]; rfl⟩
        ·cases hg
    obtain ⟨j,h1,h2,h3⟩:=hgt
    have hgv:gv ops s o=some (b==want):=by
     unfold gv
     rw [h1]
     simp only [h2]
     split
     ·rename_i hs; rw [hs] at h3; simp [AV.bool?] at h3
     ·rw [h3]; simp
    by_cases hbw:b=want
    ·subst hbw
     rw [jJx h3] at h
     exact yes ho (hgv.trans (by simp)) (jUi hk h3) (h.1 rfl)
    ·have hbn:b=!want:=by cases b <;> cases want <;> simp_all
     subst hbn
     rw [jJx h3] at h
     exact no ho (hgv.trans (by cases want <;> rfl)) (jUi hk h3) (h.2 rfl)
end
def jJG (w:World):Bool × List DV→Value→Prop
 |(false,ds),v=>∃ d,ds=[d]∧d.plain=some v
 |(true,ds),v=>∃ g,v=.pointer (some ⟨g,0,none⟩)∧∀ i d,ds[i]?=some d→∃ u,d.plain=some u∧w.cell? ⟨g,i,none⟩=some u
def jXR (w:World):List (Bool × List DV)→List Value→Prop
 | [],[]=>True
 | c::cs,v::vs=>jJG w c v∧jXR w cs vs
 | _,_=>False
def zG3 (ds:List DV):Array Value:=(ds.map fun d=>d.plain.getD undef).toArray
def AnsI (P:Program) (g:FuncId) (caps:List (Bool × List DV)) (N:Nat) (item:Nat→List DV):Prop:=
 ∀ (lb:Array Value) (l m:Nat) (J:Nat→World→Prop) (Jx:World→Prop),
  (∀ k W,J k W→jXR W caps lb.toList) →
  (∀ k W d,J k W→J k { W with drawn:=d })→(∀ W d,Jx W→Jx { W with drawn:=d }) →
  (∀ k W,k < N→J k W→YieldAt Fence.wide m P l (zG3 (item k)) W fun e W'=>(e=.returned (.bool true)∧J (k+1) W')∨(e=.returned (.bool false)∧Jx W')) →
  ∀ W,J 0 W→CallsIn Fence.wide m P g (#[.func (.yield l) #[] #[]]++lb) W fun e W'=>(∃ v,e=.returned v)∧(J N W'∨Jx W')
def jWd (I:World→Prop) (Ix:Code→World→Prop) (W:World):Exit→Act→World→Prop
 | .normal,_,W'=>KeepsOthers W W'∧I W'
 | .ret,_,W'=>KeepsOthers W W'∧Ix .ret W'
 | .exit id,_,W'=>KeepsOthers W W'∧Ix (.exit id) W'
 | _,_,_=>False
def zUw (B:Nat) (I:World→Prop):Prop:=
 ∀ W W' row,I W→W.grownBy W' row→(∀ r,row=some r→B≤r∧∃ o:Obj,W.heap[r]?=some o∧o.isCells=false)→I W'
theorem zUw.put {B:Nat} {I:World→Prop} (h:zUw B I) {W:World} {l:Nat} {o:Obj} (o':Obj) (hs:I W) (hB:B≤l) (hl:W.heap[l]?=some o) (ho:o.isCells=false):I (W.putObj l o'):=
 h W _ (some l) hs (grownBy_putObj' W l o') (fun r e=>by cases e; exact ⟨hB,o,hl,ho⟩)
theorem zUw.new_ {B:Nat} {I:World→Prop} (h:zUw B I) {W:World} (o:Obj) (hs:I W):I (W.alloc o):=
 h W _ none hs (World.grownBy_alloc W o none) (fun r e=>by cases e)
theorem zUw.drawn {B:Nat} {I:World→Prop} (h:zUw B I) {W:World} (d:Nat) (hs:I W):I { W with drawn:=d }:=
 h W _ none hs ⟨rfl,rfl,rfl,Nat.le_refl _,fun _ _ _=>rfl⟩ (fun r e=>by cases e)
theorem jK1 {P:Program} {g:Operand} {ps:Array Tmp} {assign body:Code} {Q:Exit→Act→World→Prop} {a:Act} {w:World} {m gf:Nat} {lb:Array Value}
  (hg:a.eval g=.func (.func gf) #[] lb) (eg:∀ args w,(callFunc gf args).run P w=.ok (.enter gf args) w)
  {caps:List (Bool × List DV)} {N:Nat} {item:Nat→List DV} (hseq:AnsI P gf caps N item) (hps:∀ k,k < N→(item k).length=ps.size)
  (I:Nat→World→Prop) (Ix:Code→World→Prop) (hI:∀ k,zUw w.heap.size (I k)) (hIx:∀ c,zUw w.heap.size (Ix c))
  (hcaps:∀ k W,I k W→jXR W caps lb.toList) (h0:I 0 w)
  (hround:∀ l k W,k < N→I k W →
   assign.wpIn (Fence.wide.inRound l) m P (Exit.then (fun a1 W1=>KeepsOthers W W1∧∀ W2,W1.grownBy W2 (some l)→w.heap.size≤l→(∃ r:Loop,W1.heap[l]?=some (.loop r)) →
    body.wpIn (Fence.wide.inRound l) m P (jWd (I (k+1)) Ix W2) a1 W2) (fun _ _ _=>False))
    { tmps:=(ps.zip (zG3 (item k))).foldl (fun t (p,v)=>t.setIfInBounds p v) a.tmps,defers:=[] } W)
  (hdone:∀ (D:Nat) (W:World),w.heap.size≤D→I N W→W.heap[D]?=some (.deferred (some []))→Q .normal { a with defers:={ target:=.collected D,args:=#[] }::a.defers } W)
  (hstop:∀ (D:Nat) (c:Code) (W:World),w.heap.size≤D→Ix c W→W.heap[D]?=some (.deferred (some []))→c.wpIn Fence.wide m P Q { a with defers:={ target:=.collected D,args:=#[] }::a.defers } W) :
  (Code.rangeFunc g ps assign body).wpIn Fence.wide m P Q a w:=by
 refine wpIn_rangeFunc ?_
 intro fn hfn
 show ∃ (l:Nat) (mark:List Deferred) (w₁:World) (d:Deferred) (w₁':World) (f:FuncId) (args:Array Value) (w₂:World),(Instr.enterLoop fn a.tmps ps assign body none).run P w=_∧_
 obtain ⟨rec,hrec⟩:∃ rec:LoopState→Option Code→Loop,rec=fun st pe=>{ state:=st,pending:=pe,fn,tmps:=a.tmps,params:=ps,assign,body,defers:=w.heap.size }:=⟨_,rfl⟩
 obtain ⟨W1,hW1⟩:∃ W1,(w.alloc (.deferred (some []))).alloc (.loop (rec .ready none))=W1:=⟨_,rfl⟩
 have hL1:W1.heap[w.heap.size+1]?=some (.loop (rec .ready none)):=by
  rw [← hW1]; have:=World.alloc_heap_new (w.alloc (.deferred (some []))) (.loop (rec .ready none)); rwa [World.size_alloc] at this
 have hK1:W1.heap[w.heap.size]?=some (.deferred (some [])):=by
  rw [← hW1]; exact (Below.heap_alloc _ _ _ (by simp)).trans (World.alloc_heap_new w _)
 have hI1:I 0 W1:=by rw [← hW1]; exact (hI 0).new_ _ ((hI 0).new_ _ h0)
 refine ⟨w.heap.size+1,[{ target:=.collected w.heap.size,args:=#[] }],W1,{ target:=.fn (.func gf) lb,args:=#[.func (.yield (w.heap.size+1)) #[] #[]] },W1,gf,
  #[.func (.yield (w.heap.size+1)) #[] #[]]++lb,W1,?_,?_,?_,?_,fun h=>by (cases h),?_⟩
 ·rw [← hW1,hrec]; exact run_enterLoop_outer _ _ _ _ _
 ·simp only [resolve,hg]
  simp [go_sem]
 ·intro f' hf'; trivial
 ·simp [invoke,go_sem,eg]
 ·refine CallsIn.mono (hseq lb (w.heap.size+1) (m - 1)
   (fun k W=>I k W∧W.heap[w.heap.size+1]?=some (.loop (rec .ready none))∧W.heap[w.heap.size]?=some (.deferred (some [])))
   (fun W=>∃ c,Ix c W∧W.heap[w.heap.size+1]?=some (.loop (rec .done (some c)))∧W.heap[w.heap.size]?=some (.deferred (some [])))
   (fun k W h=>hcaps k W h.1) (fun k W d h=>⟨(hI k).drawn d h.1,h.2.1,h.2.2⟩) (fun W d ⟨c,h1,h2,h3⟩=>⟨c,(hIx c).drawn d h1,h2,h3⟩) ?_ W1 ⟨hI1,hL1,hK1⟩) ?_
  ·
   rintro k W hk ⟨hi,hl,hkd⟩
   have hy:=run_yield (P:=P) (args:=zG3 (item k)) hl (by rw [hrec]; simp only [zG3,List.size_toArray,List.length_map]; exact hps k hk)
   rw [hrec] at hy
   refine ⟨fn,_,assign,body,hy,roundIn_of_wpIn trivial ?_⟩
   have hr:=hround (w.heap.size+1) k W hk hi
   have hr:assign.wpIn (Fence.wide.inRound (w.heap.size+1)) (m - 1) P _ _ W:=fun b k cs h1 h2 _=>hr b k cs h1 h2 (Wide.room (.inr ⟨_,rfl⟩) _)
   refine wpIn_mono hr ?_
   intro e a1 Wa hq
   cases e with
   | normal=>
    obtain ⟨hka,hq⟩:=hq
    have hla:=hka.same _ _ hl rfl
    have hda:=hka.same _ _ hkd rfl
    have hbr:=run_beginRound (P:=P) hla (by rw [hrec])
    refine ⟨_,hbr,?_⟩
    have hlt:w.heap.size+1 < Wa.heap.size:=(Array.getElem?_eq_some_iff.1 hla).1
    have hl2:(Wa.putObj (w.heap.size+1) (.loop { rec .ready none with state:=.busy })).heap[w.heap.size+1]?=some (.loop { rec .ready none with state:=.busy }):=World.putObj_heap_same hlt
    have hk2:(Wa.putObj (w.heap.size+1) (.loop { rec .ready none with state:=.busy })).heap[w.heap.size]?=some (.deferred (some [])):=(World.putObj_heap_other (by omega)).trans hda
    have hb:=hq _ (grownBy_putObj' Wa (w.heap.size+1) (.loop { rec .ready none with state:=.busy })) (by omega) ⟨_,hla⟩
    have hb:body.wpIn (Fence.wide.inRound (w.heap.size+1)) (m - 1) P _ a1 _:=fun b k cs h1 h2 _=>hb b k cs h1 h2 (Wide.room (.inr ⟨_,rfl⟩) _)
    refine wpIn_mono hb ?_
    have fin:∀ (jump:Option Code) (W3:World),KeepsOthers (Wa.putObj (w.heap.size+1) (.loop { rec .ready none with state:=.busy })) W3 →
      (Instr.endRound (w.heap.size+1) jump).run P W3=.ok (.bool jump.isNone) (W3.putObj (w.heap.size+1) (.loop (rec (if jump.isNone then .ready else .done) jump))) ∧
      W3.heap[w.heap.size+1]?=some (.loop { rec .ready none with state:=.busy }) ∧
      (W3.putObj (w.heap.size+1) (.loop (rec (if jump.isNone then .ready else .done) jump))).heap[w.heap.size+1]?=some (.loop (rec (if jump.isNone then .ready else .done) jump)) ∧
      (W3.putObj (w.heap.size+1) (.loop (rec (if jump.isNone then .ready else .done) jump))).heap[w.heap.size]?=some (.deferred (some [])):=fun jump W3 hk3=>by
     have hl3:=hk3.same _ _ hl2 rfl
     have:=run_endRound (P:=P) jump hl3
     rw [hrec] at this ⊢
     exact ⟨this,by rw [hrec] at hl3; exact hl3,World.putObj_heap_same (Array.getElem?_eq_some_iff.1 hl3).1,(World.putObj_heap_other (by omega)).trans (hk3.same _ _ hk2 rfl)⟩
    intro e3 a3 W3 hp
    cases e3 with
    | normal=>
     obtain ⟨hk3,hi3⟩:=hp
     obtain ⟨hr,hl3,hl4,hk4⟩:=fin none W3 hk3
     exact ⟨_,_,hr,.inl ⟨rfl,(hI _).put _ hi3 (by omega) hl3 rfl,hl4,hk4⟩⟩
    | ret=>
     obtain ⟨hk3,hi3⟩:=hp
     obtain ⟨hr,hl3,hl4,hk4⟩:=fin (some .ret) W3 hk3
     exact ⟨_,_,hr,.inr ⟨rfl,.ret,(hIx _).put _ hi3 (by omega) hl3 rfl,hl4,hk4⟩⟩
    | exit id=>
     obtain ⟨hk3,hi3⟩:=hp
     obtain ⟨hr,hl3,hl4,hk4⟩:=fin (some (.exit id)) W3 hk3
     exact ⟨_,_,hr,.inr ⟨rfl,.exit id,(hIx _).put _ hi3 (by omega) hl3 rfl,hl4,hk4⟩⟩
    | goto t=>exact hp.elim
    | panic ch=>exact hp.elim
    | outgrown=>exact hp.elim
   | ret=>exact hq.elim
   | exit id=>exact hq.elim
   | goto t=>exact hq.elim
   | panic ch=>exact hq.elim
   | outgrown=>exact hq.elim
  ·
   rintro e W2 ⟨⟨v,rfl⟩,(⟨hi,hl,hk⟩ | ⟨c,hi,hl,hk⟩)⟩
   ·exact ⟨none,_,by have:=run_endLoop (P:=P) hl (by rw [hrec]; simp); rw [hrec] at this; exact this,hdone _ _ (Nat.le_refl _) ((hI _).put _ hi (by omega) hl rfl) ((World.putObj_heap_other (by omega)).trans hk)⟩
   ·exact ⟨some c,_,by have:=run_endLoop (P:=P) hl (by rw [hrec]; simp); rw [hrec] at this; exact this,hstop _ c _ (Nat.le_refl _) ((hIx c).put _ hi (by omega) hl rfl) ((World.putObj_heap_other (by omega)).trans hk)⟩
structure Snap where
  tm:List (Nat × AV)
  bx:List (Nat × Bx)
def jJ5:List (Nat × AV)→Nat→AV
 | [],_=>.one .dead
 |(t',v)::r,t=>if t=t' then v else jJ5 r t
def zYf:List (Nat × Bx)→Nat→Bx
 | [],_=>.fresh
 |(t',v)::r,t=>if t=t' then v else zYf r t
def Snap.as (sn:Snap):AS:=⟨jJ5 sn.tm,zYf sn.bx⟩
abbrev Ren:=List (Nat × Option Nat)
def zVE:Ren→Nat→Option (Option Nat)
 | [],_=>none
 |(b',x)::r,b=>if b=b' then some x else zVE r b
def jJz:Cap→Cap→Option (Prop × Ren)
 | .d v,.d v'=>some (v'=v,[])
 | .ptr b off,.ptr b' off'=>some (off'=off,[(b,some b')])
 | _,_=>none
def zG2:List Cap→List Cap→Option (Prop × Ren)
 | [],[]=>some (True,[])
 | c::cs,c'::cs'=>match jJz c c',zG2 cs cs' with
  | some (p,r),some (q,r')=>some (p∧q,r++r')
  | _,_=>none
 | _,_=>none
def jKf:Cl→Cl→Option (Prop × Ren)
 | .dead,_=>some (True,[])
 | .d v,.d v'=>some (v'=v,[])
 | .d v,.lit (.bool b)=>some (DV.bool b=v,[])
 | .d v,.nil=>some (DV.sl 0 []=v,[])
 | .lit u,.lit u'=>some (u'=u,[])
 | .nil,.nil=>some (True,[])
 | .ptr b off,.ptr b' off'=>some (off'=off,[(b,some b')])
 | .vp cs off,.vp cs' off'=>some (cs'=cs∧off'=off,[])
 | .ref b n,.ref b' n'=>some (n'=n,[(b,some b')])
 | .ref b n,.nil=>some (0=n,[(b,none)])
 | .clo f cs,.clo f' cs'=>if f'=f then zG2 cs cs' else none
 | _,_=>none
def zVM:List Cl→List Cl→Option (Prop × Ren)
 | [],[]=>some (True,[])
 | c::cs,c'::cs'=>match jKf c c',zVM cs cs' with
  | some (p,r),some (q,r')=>some (p∧q,r++r')
  | _,_=>none
 | _,_=>none
def zG7:List Cl→Option (List DV)
 | []=>some []
 | .d v::cs=>match zG7 cs with
  | some vs=>some (v::vs)
  | none=>none
 | _::_=>none
def jQi (cs cs':List Cl):Option (Prop × Ren):=match zG7 cs,dvs cs' with
 | some xs,some ys=>some (ys=xs,[])
 | _,_=>zVM cs cs'
mutual
def zVN:AV→AV→Option (Prop × Ren)
 | .one c,.one c'=>jKf c c'
 | .one .dead,_=>some (True,[])
 | .agg cs,.agg cs'=>jQi cs cs'
 | .tup vs,.tup vs'=>fitAVs vs vs'
 | _,_=>none
def fitAVs:List AV→List AV→Option (Prop × Ren)
 | [],[]=>some (True,[])
 | x::xs,y::ys=>match zVN x y,fitAVs xs ys with
  | some (p,r),some (q,r')=>some (p∧q,r++r')
  | _,_=>none
 | _,_=>none
end
def jVF (s:AS):List (Nat × AV)→Option (Prop × Ren)
 | []=>some (True,[])
 |(t,v)::l=>match zVN v (s.tm t),jVF s l with
  | some (p,r),some (q,r')=>some (p∧q,r++r')
  | _,_=>none
def jKh:Bx→Bx→Option (Prop × Ren)
 | .cells cs,.cells cs'=>jQi cs cs'
 | .row e size xs,.row e' size' xs'=>if e'=e∧size'=size then some (xs'=xs,[]) else none
 | .ice xs,.ice xs'=>some (xs'=xs,[])
 | .gone,.gone=>some (True,[])
 | _,_=>none
def zUs (s:AS):List (Nat × Bx)→Ren→Option (Prop × Ren)
 | [],r=>some (True,r)
 |(b,B)::l,r=>match zVE r b with
  | some (some b')=>match jKh B (s.bx b') with
   | some (p,r')=>match zUs s l (r++r') with
    | some (q,r'')=>some (p∧q,r'')
    | none=>none
   | none=>none
  | some none=>match B with
   | .row _ _ xs=>match zUs s l r with
    | some (q,r'')=>some ([]=xs∧q,r'')
    | none=>none
   | _=>none
  | none=>none
def jGs (bx:List (Nat × Bx)) (r:Ren):Bool:=
 (r.all fun p=>(zVE r p.1==some p.2) && bx.any fun q=>q.1==p.1) &&
 (r.all fun p=>r.all fun q=>p.1==q.1 || p.2==none || p.2 != q.2) && decide ((bx.map (·.1)).Nodup)
def pins (l:List Nat):Ren:=l.map fun j=>(j,some j)
def jU3 (n:Dom) (s:AS) (sn:Snap):Prop:=
 match jVF s sn.tm with
 | some (p,r)=>match zUs s sn.bx (r++pins n.pin) with
  | some (q,r')=>match jGs sn.bx r' with
   | true=>p∧q
   | false=>False
  | none=>False
 | none=>False
def AS.melt1 (s:AS) (t:Nat):AS:=match s.tm t with
 | .one (.ref b n)=>match zXj (s.bx b) with
  | some xs=>⟨fun t'=>if t'=t then .one (.d (.sl n xs)) else s.tm t',fun b'=>if b'=b then (s.bx b).freeze else s.bx b'⟩
  | none=>s
 | _=>s
def meltFor:List (Nat × AV)→AS→AS
 | [],s=>s
 |(t,.one (.d _))::l,s=>meltFor l (s.melt1 t)
 | _::l,s=>meltFor l s
def fits (n:Dom) (s:AS) (sn:Snap):Prop:=jU3 n (meltFor sn.tm s) sn
structure Inv where
  α:Type
  ok:α→Prop
  st:α→Snap
  μ:α→Nat
inductive Ann:Type 1 where
  | leaf
  | seq (a b:Ann)
  | loop (I:Inv) (a:I.α→Ann)
  | cut (I:Inv) (a:Ann) (b:I.α→Ann)
  | link (I:Inv) (a:I.α→Ann) (next:Ann)
  | split (a:Ann) (t:Nat) (bs:Ann)
  | opt (v:Int) (b:Ann) (next:Ann)
  | sure (b:Bool) (a:Ann)
  | ice (bs ts:List Nat) (a b:Ann)
  | splitAt (i t:Nat) (vs:List Int)
  | range (I:Inv) (T:List Nat) (a b:I.α→Ann)
abbrev aL:Ann:=Ann.leaf
abbrev aQ (a b:Ann):Ann:=Ann.seq a b
def Ann.l:Ann→Ann
 | .seq a _=>a
 | _=>.leaf
def Ann.r:Ann→Ann
 | .seq _ b=>b
 | _=>.leaf
inductive zJd where
  | normal
  | exit (id:Nat)
  | ret
def kn0:Kn:=fun _=>none
def jJm (n:Dom):Ann→AS→Prop
 | .link I _ _,s=>∃ z,I.ok z∧fits n s (I.st z)
 | _,_=>False
def jZ7 (n:Dom) (f:Ann→Kn→AS→(zJd→Kn→AS→Prop)→Prop) (Q:zJd→Kn→AS→Prop):Ann→Prop
 | .link I a next=>(∀ z,I.ok z→f (a z) kn0 (I.st z).as fun e kn' s'=>match e with
   | .normal=>jJm n next s'
   | e=>Q e kn' s')∧jZ7 n f Q next
 | _=>True
def jWr (e:Int):Ann→Prop
 | .opt v _ next=>e=v∨jWr e next
 | _=>False
def jJc (f:Ann→Kn→AS→(zJd→Kn→AS→Prop)→Prop) (k:IntKind) (e:Int) (kn:Kn) (s:AS) (t:Nat) (Q:zJd→Kn→AS→Prop):Ann→Prop
 | .opt v b next=>(e=v→f b (zKs kn (some t) none) (s.put (some t) (.one (.d (.int k v)))) Q)∧jJc f k e kn s t Q next
 | _=>True
def jGu (f:Ann→Kn→AS→(zJd→Kn→AS→Prop)→Prop) (kn:Kn) (s:AS) (t:Nat) (bs:Ann) (Q:zJd→Kn→AS→Prop):Prop:=
 match s.tm t with
 | .one (.d (.int k e))=>jWr e bs∧jJc f k e kn s t Q bs
 | _=>False
def jZk (bx:Nat→Bx):Cap→Option (Bool × List DV)
 | .d v=>if v.plain.isSome then some (false,[v]) else none
 | .ptr b off=>if off=0 then match bx b with
  | .cells cs=>match dvs cs with
   | some ds=>if ds.all (fun d=>d.plain.isSome) then some (true,ds) else none
   | none=>none
  | _=>none else none
def zKc (bx:Nat→Bx):List Cap→Option (List (Bool × List DV))
 | []=>some []
 | c::cs=>match jZk bx c,zKc bx cs with
  | some x,some xs=>some (x::xs)
  | _,_=>none
def AS.only (T:List Nat) (s:AS):AS:=⟨fun t=>if T.contains t then s.tm t else .one .dead,s.bx⟩
def AS.putAll:AS→List Nat→List DV→AS
 | s,p::ps,d::ds=>(s.put (some p) (.one (.d d))).putAll ps ds
 | s,_,_=>s
def Dom.pinned (n:Dom) (names:List Nat):Dom:=⟨n.n,n.keep,n.pin++names,n.round⟩
def Dom.inner (n:Dom) (T names:List Nat):Dom:=⟨n.n,fun t=>n.keep t || T.contains t,n.pin++names,true⟩
def jK4:DV→Prop
 | .int k n=>k.min≤n∧n≤k.max
 | .bool _=>True
 | .str s=>s.size≤maxLen
 | _=>False
def zWa:List DV→Prop
 | []=>True
 | d::ds=>jK4 d∧zWa ds
def psOK (ps T:List Nat) (n:Dom):Bool:=(ps.all fun p=>decide (p < n.n) && !T.contains p && !n.keep p) && decide ps.Nodup
abbrev VCF:=Dom→Ann→Kn→AS→(zJd→Kn→AS→Prop)→Prop
def jYh (P:Program) (Γ:Gam) (n:Dom) (fA fB:VCF) (g:Operand) (ps:List Nat) (I:Inv) (T:List Nat) (a b:I.α→Ann) (s:AS) (Q:zJd→Kn→AS→Prop):Prop:=
 match s.eval g with
 | .one (.clo f cs)=>match zKc s.bx cs,enters P f && !n.round && psOK ps T n with
  | some caps,true=>match Γ.iter f caps with
   | some (N,item)=>
    AnsI P f caps N item∧(∀ k,k < N→(item k).length=ps.length∧zWa (item k)) ∧
    (∃ z,I.ok z∧I.μ z=0∧fits (n.pinned (cs.flatMap Cap.names)) s (I.st z)) ∧
    (∀ z,I.ok z→zKc (zYf (I.st z).bx) cs=some caps ∧
     (I.μ z < N→fA (n.inner T (cs.flatMap Cap.names)) (a z) kn0 (((I.st z).as.only T).putAll ps (item (I.μ z))) fun e kn' s'=>match e with
      | .normal=>fB (n.inner T (cs.flatMap Cap.names)) (b z) kn' s' fun e kn' s'=>match e with
       | .normal=>∃ y,I.ok y∧I.μ y=I.μ z+1∧fits (n.inner T (cs.flatMap Cap.names)) s' (I.st y)
       | e=>Q e kn0 (s'.only T)
      | _=>False) ∧
     (I.μ z=N→Q .normal kn0 ((I.st z).as.only T)))
   | none=>False
  | _,_=>False
 | _=>False
def melts:AS→List Nat→AS
 | s,[]=>s
 | s,t::ts=>melts (s.melt1 t) ts
def orIs (e:Int):List Int→Prop
 | []=>False
 | v::vs=>e=v∨orIs e vs
def jW1 (e:Int) (k:IntKind) (t:Nat) (s:AS) (K:AS→Prop):List Int→Prop
 | []=>True
 | v::vs=>(e=v→K (s.put (some t) (.one (.d (.int k v)))))∧jW1 e k t s K vs
def jXZ (vs:List Int) (t:Nat) (s:AS) (K:AS→Prop):Prop:=
 match s.tm t with
 | .one (.d (.int k e))=>orIs e vs∧jW1 e k t s K vs
 | _=>False
def jUp (P:Program) (Γ:Gam) (n:Dom) (ops:Array Oper) (ann:Ann) (kn:Kn) (s:AS) (K:Kn→AS→List (List Nat × List Nat)→Prop):Prop:=
 match ann with
 | .splitAt i t vs=>zJA P Γ n ops ((List.range ops.size).take (i+1)) kn s [] fun kn' s' acc=>jXZ vs t s' fun s2=>zJA P Γ n ops ((List.range ops.size).drop (i+1)) kn' s2 acc K
 | _=>zJA P Γ n ops (List.range ops.size) kn s [] K
def vcg (P:Program) (Γ:Gam):Dom→Code→Ann→Kn→AS→(zJd→Kn→AS→Prop)→Prop
 | _,.skip,_,kn,s,Q=>Q .normal kn s
 | _,.label _,_,kn,s,Q=>Q .normal kn s
 | _,.exit id,_,kn,s,Q=>Q (.exit id) kn s
 | _,.ret,_,kn,s,Q=>Q .ret kn s
 | n,.region _ ops draw,ann,kn,s,Q=>jUp P Γ n ops ann kn s fun kn' s' acc=>match draw with
  | true=>jWh ops (fun i=>acc.reverse.getD i ([],[]))=true∧Q .normal kn' s'
  | false=>Q .normal kn' s'
 | n,.seq x y,ann,kn,s,Q=>match ann with
  | .cut I a b=>vcg P Γ n x a kn s (fun e kn' s'=>match e with
    | .normal=>∃ z,I.ok z∧fits n s' (I.st z)
    | e=>Q e kn' s')∧∀ z,I.ok z→vcg P Γ n y (b z) kn0 (I.st z).as Q
  | .ice bs ts a b=>vcg P Γ n x a kn s fun e kn' s'=>match e with
    | .normal=>vcg P Γ n y b kn' (melts (ices s' bs) ts) Q
    | e=>Q e kn' s'
  | .split a t bs=>vcg P Γ n x a kn s fun e kn' s'=>match e with
    | .normal=>jGu (vcg P Γ n y) kn' s' t bs Q
    | e=>Q e kn' s'
  | ann=>vcg P Γ n x ann.l kn s fun e kn' s'=>match e with
    | .normal=>vcg P Γ n y ann.r kn' s' Q
    | e=>Q e kn' s'
 | n,.cond c x y,ann,kn,s,Q=>match ann with
  | .sure b a=>match (s.eval c).bool? with
   | some b'=>b'=b∧match b with
    | true=>vcg P Γ n x a kn s Q
    | false=>vcg P Γ n y a kn s Q
   | none=>False
  | ann=>match kx kn c with
   | some true=>vcg P Γ n x ann.l kn s Q
   | some false=>vcg P Γ n y ann.r kn s Q
   | none=>match (s.eval c).bool? with
    | some b=>(b=true→vcg P Γ n x ann.l kn s Q)∧(b=false→vcg P Γ n y ann.r kn s Q)
    | none=>False
 | n,.block id c,ann,kn,s,Q=>vcg P Γ n c ann kn s fun e kn' s'=>match e with
  | .exit id'=>match decide (id'=id) with
   | true=>Q .normal kn' s'
   | false=>Q (.exit id') kn' s'
  | e=>Q e kn' s'
 | n,.loop c,ann,kn,s,Q=>match ann with
  | .loop I a=>(∃ z,I.ok z∧fits n s (I.st z))∧∀ z,I.ok z→vcg P Γ n c (a z) kn0 (I.st z).as fun e kn' s'=>match e with
    | .normal=>∃ y,I.ok y∧I.μ y < I.μ z∧fits n s' (I.st y)
    | e=>Q e kn' s'
  | .link I a next=>jJm n (.link I a next) s∧jZ7 n (vcg P Γ n c) Q (.link I a next)
  | _=>False
 | n,.rangeFunc g ps x y,ann,kn,s,Q=>match ann with
  | .range I T a b=>jYh P Γ n (fun n'=>vcg P Γ n' x) (fun n'=>vcg P Γ n' y) g ps.toList I T a b s Q
  | _=>False
 | _,_,_,_,_,_=>False
section
variable {w:World} {V:Nat→Prop} {ι:zQm} {bx:Nat→Bx}
def nm (ι:zQm) (r:Ren):zQm:=fun b=>match zVE r b with
 | some (some b')=>ι b'
 | _=>none
theorem jKg {ι':zQm} {bx':Nat→Bx} {c c':Cap} {v:Value} {p:Prop} {r r':Ren} (hf:jJz c c'=some (p,r)) (hp:p) (hr:∀ q∈r,zVE r' q.1=some q.2∧(bx' q.1).known=true) (hι:∀ b,ι' b=nm ι r' b)
  (h:zVx ι bx w V c' v):zVx ι' bx' w V c v:=by
 unfold jJz at hf
 split at hf <;> first
  |(injection hf with hf; injection hf with hf1 hf2; subst hf1 hf2)
  | cases hf
 ·subst hp; exact h
 ·obtain ⟨h1,g,c,h2,h3⟩:=h
  subst hp
  obtain ⟨e1,e2⟩:=hr _ (List.mem_singleton.2 rfl)
  simp only at e1 e2
  exact ⟨e2,g,c,by rw [hι]; simp only [nm,e1]; exact h2,h3⟩
theorem zG1 {ι':zQm} {bx':Nat→Bx} {r':Ren} (hι:∀ b,ι' b=nm ι r' b):∀ {cs cs':List Cap} {vs:List Value} {p:Prop} {r:Ren},zG2 cs cs'=some (p,r)→p→(∀ q∈r,zVE r' q.1=some q.2∧(bx' q.1).known=true) →
  zXF ι bx w V cs' vs→zXF ι' bx' w V cs vs
 | [],[],[],_,_,_,_,_,_=>trivial
 | [],[],_::_,_,_,_,_,_,h=>h.elim
 | c::cs,c'::cs',[],_,_,_,_,_,h=>h.elim
 | c::cs,c'::cs',v::vs,p,r,hf,hp,hr,h=>by
  simp only [zG2] at hf
  cases h1:jJz c c' with
  | none=>rw [h1] at hf; cases hf
  | some x=>
   cases h2:zG2 cs cs' with
   | none=>rw [h1,h2] at hf; cases hf
   | some y=>
    rw [h1,h2] at hf
    simp only [Option.some.injEq,Prod.mk.injEq] at hf
    obtain ⟨rfl,rfl⟩:=hf
    exact ⟨jKg h1 hp.1 (fun q hq=>hr q (by simp [hq])) hι h.1,zG1 hι h2 hp.2 (fun q hq=>hr q (by simp [hq])) h.2⟩
 | [],_::_,_,_,_,hf,_,_,_=>by cases hf
 | _::_,[],_,_,_,hf,_,_,_=>by cases hf
theorem jXA {ι':zQm} {bx':Nat→Bx} {c c':Cl} {v:Value} {p:Prop} {r r':Ren} (hf:jKf c c'=some (p,r)) (hp:p) (hr:∀ q∈r,zVE r' q.1=some q.2∧(bx' q.1).known=true) (hι:∀ b,ι' b=nm ι r' b)
  (h:zQs w V ι bx c' v):zQs w V ι' bx' c v:=by
 unfold jKf at hf
 split at hf <;> first
  |(injection hf with hf; injection hf with hf1 hf2; subst hf1 hf2)
  | cases hf
  | skip
 ·trivial
 ·subst hp; exact h
 ·subst hp; exact zX1 (d:=.bool _) h rfl
 ·subst hp; exact zX1 (d:=.sl 0 []) h rfl
 ·subst hp; exact h
 ·exact h
 ·obtain ⟨h1,g,c,h2,h3⟩:=h
  subst hp
  obtain ⟨e1,e2⟩:=hr _ (List.mem_singleton.2 rfl)
  simp only at e1 e2
  exact ⟨e2,g,c,by rw [hι]; simp only [nm,e1]; exact h2,h3⟩
 ·obtain ⟨rfl,rfl⟩:=hp; exact h
 ·obtain ⟨h1,h2⟩:=h
  subst hp
  obtain ⟨e1,e2⟩:=hr _ (List.mem_singleton.2 rfl)
  simp only at e1 e2
  exact ⟨e2,by rw [hι]; simp only [nm,e1]; exact h2⟩
 ·subst hp
  obtain ⟨e1,e2⟩:=hr _ (List.mem_singleton.2 rfl)
  simp only at e1 e2
  exact ⟨e2,.inl ⟨by rw [hι]; simp only [nm,e1],rfl,h⟩⟩
 ·split at hf
  ·rename_i e
   subst e
   obtain ⟨lb,h1,h2⟩:=h
   exact ⟨lb,h1,zG1 hι hf hp hr h2⟩
  ·cases hf
theorem zG0 {ι':zQm} {bx':Nat→Bx} {r':Ren} (hι:∀ b,ι' b=nm ι r' b):∀ {cs cs':List Cl} {vs:List Value} {p:Prop} {r:Ren},zVM cs cs'=some (p,r)→p→(∀ q∈r,zVE r' q.1=some q.2∧(bx' q.1).known=true) →
  zQR w V ι bx cs' vs→zQR w V ι' bx' cs vs
 | [],[],[],_,_,_,_,_,_=>trivial
 | [],[],_::_,_,_,_,_,_,h=>h.elim
 | c::cs,c'::cs',[],_,_,_,_,_,h=>h.elim
 | c::cs,c'::cs',v::vs,p,r,hf,hp,hr,h=>by
  simp only [zVM] at hf
  cases h1:jKf c c' with
  | none=>rw [h1] at hf; cases hf
  | some x=>
   cases h2:zVM cs cs' with
   | none=>rw [h1,h2] at hf; cases hf
   | some y=>
    rw [h1,h2] at hf
    simp only [Option.some.injEq,Prod.mk.injEq] at hf
    obtain ⟨rfl,rfl⟩:=hf
    exact ⟨jXA h1 hp.1 (fun q hq=>hr q (by simp [hq])) hι h.1,zG0 hι h2 hp.2 (fun q hq=>hr q (by simp [hq])) h.2⟩
 | [],_::_,_,_,_,hf,_,_,_=>by cases hf
 | _::_,[],_,_,_,hf,_,_,_=>by cases hf
theorem zHW {w:World} {V:Nat→Prop} {ι:zQm} {bx:Nat→Bx}:∀ {cs:List Cl} {vs:List Value} {ds:List DV},zG7 cs=some ds→zZi w V ds vs→zQR w V ι bx cs vs
 | [],[],_,_,_=>trivial
 | [],_::_,ds,hd,h=>by simp only [zG7,Option.some.injEq] at hd; subst hd; exact h.elim
 | c::cs,vs,ds,hd,h=>by
  cases c <;> simp only [zG7,reduceCtorEq] at hd
  rename_i v
  cases h2:zG7 cs with
  | none=>rw [h2] at hd; cases hd
  | some ds'=>
   rw [h2] at hd
   simp only [Option.some.injEq] at hd
   subst hd
   cases vs with
   | nil=>exact h.elim
   | cons u vs=>exact ⟨h.1,zHW h2 h.2⟩
theorem jUL {c:Cl} (h:nilC c=true):c=.lit (.pointer none):=by
 unfold nilC at h
 split at h
 ·rfl
 ·cases h
theorem jYH {cs cs':List Cl} {p:Prop} {r:Ren} (hf:jQi cs cs'=some (p,r)) (hp:p) (hn:zKH cs=true):zKH cs'=true:=by
 cases cs with
 | nil=>cases hn
 | cons c0 tl=>
  obtain rfl:=jUL hn
  have h0:zG7 (Cl.lit (.pointer none)::tl)=none:=rfl
  unfold jQi at hf
  rw [h0] at hf
  simp only at hf
  cases cs' with
  | nil=>simp [zVM] at hf
  | cons c cs'=>
   simp only [zVM] at hf
   split at hf
   ·rename_i p1 r1 q1 r2 h1 h2
    cases c <;> simp only [jKf,reduceCtorEq] at h1
    rename_i u
    simp only [Option.some.injEq,Prod.mk.injEq] at h1 hf
    obtain ⟨rfl,rfl⟩:=h1
    obtain ⟨rfl,rfl⟩:=hf
    obtain ⟨rfl,_⟩:=hp
    rfl
   ·cases hf
theorem jQh {ι':zQm} {bx':Nat→Bx} {r':Ren} (hι:∀ b,ι' b=nm ι r' b) {cs cs':List Cl} {vs:List Value} {p:Prop} {r:Ren} (hf:jQi cs cs'=some (p,r)) (hp:p) (hr:∀ q∈r,zVE r' q.1=some q.2∧(bx' q.1).known=true)
  (h:zQR w V ι bx cs' vs):zQR w V ι' bx' cs vs:=by
 unfold jQi at hf
 split at hf
 ·rename_i xs ys h1 h2
  simp only [Option.some.injEq,Prod.mk.injEq] at hf
  obtain ⟨rfl,rfl⟩:=hf
  subst hp
  exact zHW h1 (zKD h h2)
 ·exact zG0 hι hf hp hr h
mutual
theorem jXB {ι':zQm} {bx':Nat→Bx} {r':Ren} (hι:∀ b,ι' b=nm ι r' b):∀ {x y:AV} {v:Value} {p:Prop} {r:Ren},zVN x y=some (p,r)→p→(∀ q∈r,zVE r' q.1=some q.2∧(bx' q.1).known=true) →
  zQi w V ι bx y v→zQi w V ι' bx' x v
 | .one c,.one c',v,p,r,hf,hp,hr,h=>by
  simp only [zVN] at hf
  simp only [zQi] at h ⊢
  exact jXA hf hp hr hι h
 | .one c,.agg cs',v,p,r,hf,hp,hr,h=>by
  cases c <;> simp only [zVN,reduceCtorEq] at hf
  simp only [zQi,zQs]
 | .one c,.tup vs',v,p,r,hf,hp,hr,h=>by
  cases c <;> simp only [zVN,reduceCtorEq] at hf
  simp only [zQi,zQs]
 | .agg cs,.agg cs',v,p,r,hf,hp,hr,h=>by
  simp only [zVN] at hf
  simp only [zQi] at h ⊢
  obtain ⟨cur,e,h⟩:=h
  exact ⟨cur,e,jQh hι hf hp hr h⟩
 | .tup vs,.tup vs',v,p,r,hf,hp,hr,h=>by
  simp only [zVN] at hf
  simp only [zQi] at h ⊢
  obtain ⟨cur,e,h⟩:=h
  exact ⟨cur,e,fitAVs_rep hι hf hp hr h⟩
 | .agg _,.one _,_,_,_,hf,_,_,_=>by simp [zVN] at hf
 | .agg _,.tup _,_,_,_,hf,_,_,_=>by simp [zVN] at hf
 | .tup _,.one _,_,_,_,hf,_,_,_=>by simp [zVN] at hf
 | .tup _,.agg _,_,_,_,hf,_,_,_=>by simp [zVN] at hf
theorem fitAVs_rep {ι':zQm} {bx':Nat→Bx} {r':Ren} (hι:∀ b,ι' b=nm ι r' b):∀ {xs ys:List AV} {vs:List Value} {p:Prop} {r:Ren},fitAVs xs ys=some (p,r)→p→(∀ q∈r,zVE r' q.1=some q.2∧(bx' q.1).known=true) →
  RepAVs w V ι bx ys vs→RepAVs w V ι' bx' xs vs
 | [],[],vs,_,_,_,_,_,h=>by
  cases vs with
  | nil=>simp only [RepAVs]
  | cons _ _=>simp only [RepAVs] at h
 | x::xs,y::ys,[],_,_,_,_,_,h=>by simp only [RepAVs] at h
 | x::xs,y::ys,v::vs,p,r,hf,hp,hr,h=>by
  simp only [fitAVs] at hf
  cases h1:zVN x y with
  | none=>rw [h1] at hf; cases hf
  | some a=>
   cases h2:fitAVs xs ys with
   | none=>rw [h1,h2] at hf; cases hf
   | some b=>
    rw [h1,h2] at hf
    simp only [Option.some.injEq,Prod.mk.injEq] at hf
    obtain ⟨rfl,rfl⟩:=hf
    simp only [RepAVs] at h ⊢
    exact ⟨jXB hι h1 hp.1 (fun q hq=>hr q (by simp [hq])) h.1,fitAVs_rep hι h2 hp.2 (fun q hq=>hr q (by simp [hq])) h.2⟩
 | [],_::_,_,_,_,hf,_,_,_=>by simp [fitAVs] at hf
 | _::_,[],_,_,_,hf,_,_,_=>by simp [fitAVs] at hf
end
end
theorem jJy {s:AS}:∀ {l:List (Nat × AV)} {p:Prop} {r:Ren},jVF s l=some (p,r)→p→∀ t,jJ5 l t=.one .dead∨∃ q r1,zVN (jJ5 l t) (s.tm t)=some (q,r1)∧q∧∀ x∈r1,x∈r
 | [],_,_,_,_,t=>.inl rfl
 |(t',v)::l,p,r,hf,hp,t=>by
  simp only [jVF] at hf
  cases h1:zVN v (s.tm t') with
  | none=>rw [h1] at hf; cases hf
  | some a=>
   cases h2:jVF s l with
   | none=>rw [h1,h2] at hf; cases hf
   | some b=>
    rw [h1,h2] at hf
    simp only [Option.some.injEq,Prod.mk.injEq] at hf
    obtain ⟨rfl,rfl⟩:=hf
    simp only [jJ5]
    by_cases e:t=t'
    ·subst e
     rw [if_pos rfl]
     exact .inr ⟨a.1,a.2,h1,hp.1,fun x hx=>by simp [hx]⟩
    ·rw [if_neg e]
     rcases jJy h2 hp.2 t with h3 | ⟨q,r1,h3,h4,h5⟩
     ·exact .inl h3
     ·exact .inr ⟨q,r1,h3,h4,fun x hx=>by simp [h5 x hx]⟩
theorem zXQ {s:AS}:∀ {l:List (Nat × Bx)} {r r':Ren} {p:Prop},zUs s l r=some (p,r')→∀ x∈r,x∈r'
 | [],r,r',p,h,x,hx=>by simp only [zUs,Option.some.injEq,Prod.mk.injEq] at h; rw [← h.2]; exact hx
 |(b,B)::l,r,r',p,h,x,hx=>by
  simp only [zUs] at h
  split at h
  ·split at h
   ·split at h
    ·rename_i h3
     simp only [Option.some.injEq,Prod.mk.injEq] at h
     rw [← h.2]
     exact zXQ h3 x (by simp [hx])
    ·cases h
   ·cases h
  ·split at h
   ·split at h
    ·rename_i h3
     simp only [Option.some.injEq,Prod.mk.injEq] at h
     rw [← h.2]
     exact zXQ h3 x hx
    ·cases h
   ·cases h
  ·cases h
theorem zGq:∀ {r:Ren} {b:Nat} {x:Option Nat},zVE r b=some x→(b,x)∈r
 | [],_,_,h=>by cases h
 |(b',y)::r,b,x,h=>by
  simp only [zVE] at h
  split at h
  ·rename_i e; injection h with h; subst e h; simp
  ·simp [zGq h]
theorem zWs {s:AS}:∀ {l:List (Nat × Bx)} {r r':Ren} {p:Prop},zUs s l r=some (p,r')→p→(l.map (·.1)).Nodup→∀ b B,(b,B)∈l →
  (∃ b' q r1,(b,some b')∈r'∧jKh B (s.bx b')=some (q,r1)∧q∧∀ x∈r1,x∈r')∨((b,none)∈r'∧∃ e size,B=.row e size [])
 |(b0,B0)::l,r,r',p,h,hp,hn,b,B,hm=>by
  simp only [List.map_cons,List.nodup_cons] at hn
  simp only [zUs] at h
  split at h
  ·rename_i b' hren
   split at h
   ·rename_i q r1 h2
    split at h
    ·rename_i q2 r2 h3
     simp only [Option.some.injEq,Prod.mk.injEq] at h
     obtain ⟨rfl,rfl⟩:=h
     rcases List.mem_cons.1 hm with e | hm
     ·injection e with e1 e2
      subst e1 e2
      exact .inl ⟨b',q,r1,zXQ h3 _ (by simp [zGq hren]),h2,hp.1,fun x hx=>zXQ h3 x (by simp [hx])⟩
     ·exact zWs h3 hp.2 hn.2 b B hm
    ·cases h
   ·cases h
  ·rename_i hren
   split at h
   ·rename_i e size xs
    split at h
    ·rename_i q2 r2 h3
     simp only [Option.some.injEq,Prod.mk.injEq] at h
     obtain ⟨rfl,rfl⟩:=h
     rcases List.mem_cons.1 hm with e' | hm
     ·injection e' with e1 e2
      subst e1 e2
      exact .inr ⟨zXQ h3 _ (zGq hren),e,size,by rw [← hp.1]⟩
     ·exact zWs h3 hp.2 hn.2 b B hm
    ·cases h
   ·cases h
  ·cases h
theorem jZ5:∀ {l:List (Nat × Bx)} {b:Nat},(zYf l b).known=true→(b,zYf l b)∈l
 | [],_,h=>by simp [zYf,Bx.known] at h
 |(b',B)::l,b,h=>by
  simp only [zYf] at h ⊢
  by_cases e:b=b'
  ·subst e; simp
  ·rw [if_neg e] at h ⊢; simp [jZ5 h]
theorem zUm:∀ {l:List (Nat × Bx)} {b:Nat} {B:Bx},(l.map (·.1)).Nodup→(b,B)∈l→zYf l b=B
 |(b',B')::l,b,B,hn,h=>by
  simp only [List.map_cons,List.nodup_cons] at hn
  rcases List.mem_cons.1 h with e | h
  ·injection e with e1 e2; subst e1 e2; simp [zYf]
  ·have:b≠b':=fun e=>hn.1 (by rw [← e]; exact List.mem_map.2 ⟨_,h,rfl⟩)
   simp only [zYf,if_neg this]
   exact zUm hn.2 h
theorem RepS.fit0 {w0:World} {S:zQ8} {n:Dom} {s:AS} {ι:zQm} {a:Act} {w:World} (h:RepS w0 S n s ι a w) {sn:Snap} (hf:jU3 n s sn):∃ ι',RepS w0 S n sn.as ι' a w:=by
 unfold jU3 at hf
 split at hf
 ·rename_i p r h1
  split at hf
  ·rename_i q r' h2
   split at hf
   ·rename_i hok
    obtain ⟨hp,hq⟩:=hf
    simp only [jGs,Bool.and_eq_true,List.all_eq_true,decide_eq_true_eq] at hok
    obtain ⟨⟨o1,o2⟩,o3⟩:=hok
    have hren:∀ x∈r',zVE r' x.1=some x.2:=fun x hx=>by
     have:=(o1 x hx).1
     exact eq_of_beq this
    have hinj:∀ b1 b2 b',(b1,some b')∈r'→(b2,some b')∈r'→b1=b2:=fun b1 b2 b' m1 m2=>by
     have:=o2 _ m1 _ m2
     simpa using this
    have hat:∀ b,(zYf sn.bx b).known=true→(∃ b' q r1,(b,some b')∈r'∧jKh (zYf sn.bx b) (s.bx b')=some (q,r1)∧q∧∀ x∈r1,x∈r')∨((b,none)∈r'∧∃ e size,zYf sn.bx b=.row e size []):=
     fun b hk=>zWs h2 hq o3 b _ (jZ5 hk)
    have hbxk:∀ x∈r',(sn.as.bx x.1).known=true:=fun x hx=>by
     have:=(o1 x hx).2
     rw [List.any_eq_true] at this
     obtain ⟨y,hy,e⟩:=this
     have e:y.1=x.1:=eq_of_beq e
     have hy':(x.1,y.2)∈sn.bx:=by rw [← e]; exact hy
     have hl:=zUm o3 hy'
     show (zYf sn.bx x.1).known=true
     rw [hl]
     have hno:∀ B,(x.1,B)∈sn.bx→B.known=true:=fun B hB=>by
      rcases zWs h2 hq o3 x.1 B hB with ⟨b',q,r1,_,hfb,_⟩ | ⟨_,e',size,rfl⟩
      ·cases B <;> simp_all [jKh,Bx.known]
      ·rfl
     exact hno _ hy'
    have hknown:∀ x∈r',zVE r' x.1=some x.2∧(sn.as.bx x.1).known=true:=fun x hx=>⟨hren x hx,hbxk x hx⟩
    have hlive:∀ b,(sn.as.bx b).live=true→(∃ b',(b,some b')∈r'∧(s.bx b').live=true∧nm ι r' b=ι b')∨nm ι r' b=none:=fun b hl=>by
     have hk:(zYf sn.bx b).known=true:=by
      have hl':(zYf sn.bx b).live=true:=hl
      cases hB:zYf sn.bx b <;> rw [hB] at hl' <;> first | rfl | cases hl'
     rcases hat b hk with ⟨b',q,r1,m,hfb,_⟩ | ⟨m,_⟩
     ·left
      refine ⟨b',m,?_,by simp only [nm,hren _ m]⟩
      have hl':(zYf sn.bx b).live=true:=hl
      cases hB:zYf sn.bx b <;> cases hB':s.bx b' <;> rw [hB,hB'] at hfb <;> simp only [jKh,reduceCtorEq] at hfb <;> first | rfl | (rw [hB] at hl'; cases hl')
     ·right; simp only [nm,hren _ m]
    have hkeep:zZA w (Seen S w0.heap.size s.bx ι) w (Seen S w0.heap.size sn.as.bx (nm ι r')):=fun g off u hV hu=>⟨⟨hV.1,fun b c hl e=>by
     rcases hlive b hl with ⟨b',_,hl',e'⟩ | e'
     ·exact hV.2 b' c hl' (by rw [← e']; exact e)
     ·rw [e'] at e; cases e⟩,hu⟩
    have hVmono:∀ {x:AV} {v:Value},zQi w (Seen S w0.heap.size s.bx ι) ι s.bx x v→zQi w (Seen S w0.heap.size sn.as.bx (nm ι r')) ι s.bx x v:=fun hx=>hx.keep (fun b hb=>⟨hb,rfl⟩) hkeep
    refine ⟨nm ι r',h.bel,h.marks,h.oth,h.size,h.fix,fun b hb=>?_,fun t=>?_,fun b=>?_,fun b g c hl e=>?_,fun b1 b2 g c c' hl hl' hne e=>?_,h.glob.keep hkeep⟩
    ·have hm:(b,some b)∈r':=zXQ h2 _ (by simp only [pins,List.mem_append,List.mem_map]; exact .inr ⟨b,hb,rfl⟩)
     exact ⟨by simp only [nm,hren _ hm]; exact (h.pin b hb).1,hbxk _ hm⟩
    ·rcases jJy h1 hp t with hd | ⟨q,r1,g1,g2,g3⟩
     ·show zQi _ _ _ _ (jJ5 sn.tm t) _
      rw [hd]; simp only [zQi,zQs]
     ·exact jXB (fun _=>rfl) g1 g2 (fun x hx=>hknown x (zXQ h2 x (by simp [g3 x hx]))) (hVmono (h.tm t))
    ·show zXG _ _ _ _ b (zYf sn.bx b)
     cases hk:(zYf sn.bx b).known with
     | false=>cases hB:zYf sn.bx b <;> rw [hB] at hk <;> first | trivial | cases hk
     | true=>
      rcases hat b hk with ⟨b',q,r1,m,hfb,hq1,hr1⟩ | ⟨m,e,size,hB⟩
      ·have hnm:nm ι r' b=ι b':=by simp only [nm,hren _ m]
       have hrb:=h.bx b'
       cases hB:zYf sn.bx b <;> cases hB':s.bx b' <;> rw [hB,hB'] at hfb <;> simp only [jKh,reduceCtorEq] at hfb <;> rw [hB'] at hrb
       ·trivial
       ·obtain ⟨g,c,cur,T,g1,g2,g0,g3⟩:=hrb
        refine ⟨g,c,cur,T,by rw [hnm]; exact g1,g2,zGS g0 (jYH hfb hq1),?_⟩
        exact jQh (fun _=>rfl) hfb hq1 (fun x hx=>hknown x (hr1 x hx)) (g3.keep (fun b hb=>⟨hb,rfl⟩) hkeep)
       ·split at hfb
        ·rename_i hes
         simp only [Option.some.injEq,Prod.mk.injEq] at hfb
         obtain ⟨rfl,rfl⟩:=hfb
         subst hq1
         obtain ⟨rfl,rfl⟩:=hes
         rcases hrb with ⟨g1,g2⟩ | ⟨g,cap,cur,g1,g2,g3,g4,g5⟩
         ·exact .inl ⟨by rw [hnm]; exact g1,g2⟩
         ·exact .inr ⟨g,cap,cur,by rw [hnm]; exact g1,g2,g3,g4,g5.keep hkeep⟩
        ·cases hfb
       ·simp only [Option.some.injEq,Prod.mk.injEq] at hfb
        obtain ⟨rfl,rfl⟩:=hfb
        subst hq1
        rcases hrb with ⟨g1,g2⟩ | ⟨g,cap,g1,g2,g3⟩
        ·exact .inl ⟨by rw [hnm]; exact g1,g2⟩
        ·exact .inr ⟨g,cap,by rw [hnm]; exact g1,g2.keep hkeep,g3⟩
      ·rw [hB]
       exact .inl ⟨by simp only [nm,hren _ m],rfl⟩
    ·rcases hlive b hl with ⟨b',_,hl',e'⟩ | e'
     ·exact h.own b' g c hl' (by rw [← e']; exact e)
     ·rw [e'] at e; cases e
    ·rcases hlive b1 hl with ⟨b1',m1,hl1,e1⟩ | e1
     ·rcases hlive b2 hl' with ⟨b2',m2,hl2,e2⟩ | e2
      ·rw [e1] at e
       rw [e2]
       refine h.dist b1' b2' g c c' hl1 hl2 (fun e'=>hne ?_) e
       subst e'
       exact hinj _ _ _ m1 m2
      ·rw [e2]; simp
     ·rw [e1] at e; cases e
   ·exact hf.elim
  ·exact hf.elim
 ·exact hf.elim
theorem RepS.melt1 {w0:World} {S:zQ8} {n:Dom} {s:AS} {ι:zQm} {a:Act} {w:World} (h:RepS w0 S n s ι a w) (t:Nat):RepS w0 S n (s.melt1 t) ι a w:=by
 unfold AS.melt1
 split
 ·rename_i b m ht
  split
  ·rename_i xs hin
   have h2:=h.freeze b
   refine ⟨h2.bel,h2.marks,h2.oth,h2.size,h2.fix,h2.pin,fun t'=>?_,h2.bx,h2.own,h2.dist,h2.glob⟩
   by_cases e:t'=t
   ·subst e
    have hv:=h2.tm t'
    have hb:=h2.bx b
    have e1:(s.setB b (s.bx b).freeze).bx b=.ice xs:=by
     simp only [AS.setB,if_true]
     revert hin
     cases s.bx b <;> intro hin <;> simp only [zXj,Option.some.injEq,reduceCtorEq] at hin <;> subst hin <;> rfl
    have e2:(s.setB b (s.bx b).freeze).tm t'=.one (.ref b m):=ht
    rw [e2] at hv
    rw [e1] at hb
    show zQi _ _ _ _ (if t'=t' then .one (.d (.sl m xs)) else s.tm t') _
    rw [if_pos rfl]
    simp only [zQi,zQs] at hv ⊢
    simp only [RepD]
    obtain ⟨_,hv⟩:=hv
    rcases hb with ⟨g1,g2⟩ | ⟨g,cap,g1,g2,g3⟩
    ·subst g2
     rcases hv with ⟨_,q1,q2⟩ | ⟨g',cap',q1,_⟩
     ·exact ⟨none,0,by rw [q1]; exact q2,by omega,Nat.zero_le _,fun hne=>absurd rfl hne⟩
     ·rw [g1] at q1; cases q1
    ·rcases hv with ⟨q1,_⟩ | ⟨g',cap',q1,q2,q3⟩
     ·rw [g1] at q1; cases q1
     ·rw [g1] at q1
      simp only [Option.some.injEq,Prod.mk.injEq] at q1
      obtain ⟨rfl,rfl⟩:=q1
      exact ⟨_,cap,q2,q3,g3,fun hne=>⟨g,0,rfl,g2 hne⟩⟩
   ·have:=h2.tm t'
    show zQi _ _ _ _ (if t'=t then .one (.d (.sl m xs)) else s.tm t') _
    rw [if_neg e]
    exact this
  ·exact h
 ·exact h
theorem RepS.meltFor {w0:World} {S:zQ8} {n:Dom} {ι:zQm} {a:Act} {w:World}:∀ (l:List (Nat × AV)) {s:AS},RepS w0 S n s ι a w→RepS w0 S n (meltFor l s) ι a w
 | [],_,h=>h
 |(t,v)::l,s,h=>by
  unfold Go.Proofs.YtbnmadpcdlnleaaGreatDoor.meltFor
  split
  ·rename_i e; cases e
  ·rename_i t' d l' e
   injection e with e1 e2
   injection e1 with e3 e4
   subst e2 e3
   exact RepS.meltFor _ (h.melt1 _)
  ·rename_i p l' _ e
   injection e with e1 e2
   subst e2
   exact RepS.meltFor _ h
theorem RepS.fit {w0:World} {S:zQ8} {n:Dom} {s:AS} {ι:zQm} {a:Act} {w:World} (h:RepS w0 S n s ι a w) {sn:Snap} (hf:fits n s sn):∃ ι',RepS w0 S n sn.as ι' a w:=
 (h.meltFor sn.tm).fit0 hf
def zJd.exit_:zJd→Exit
 | .normal=>.normal
 | .exit id=>.exit id
 | .ret=>.ret
section
variable {P:Program} {Γ:Gam}
theorem zUo (s:AS):KnOK kn0 s:=fun _ _ h=>by cases h
theorem RepS.turn {w0:World} {S:zQ8} {n:Dom} {s:AS} {ι:zQm} {a:Act} {w w':World} (h:RepS w0 S n s ι a w) {row:Option Nat} (hg:w.grownBy w' row)
  (hr:∀ r,row=some r→w0.heap.size≤r∧∃ o:Obj,w.heap[r]?=some o∧o.isCells=false) {ds:List Deferred} (hm:zHI w0 ds w') {ref:World} (ho:KeepsOthers ref w') :
  RepS w0 { S with ref:=ref } n s ι { a with defers:=ds } w':=by
 have hk:zZA w (Seen S w0.heap.size s.bx ι) w' (Seen { S with ref:=ref } w0.heap.size s.bx ι):=fun g off u hV hu=>⟨hV,cell_kept hu hg fun r e=>(hr r e).2⟩
 have hl:∀ b g c,(s.bx b).live=true→ι b=some (g,c)→w'.heap[g]?=w.heap[g]?:=fun b g c hb hι=>by
  refine hg.block g (h.own b g c hb hι).2 fun e=>?_
  obtain ⟨o,h1,h2⟩:=(hr g e.symm).2
  obtain ⟨cur,T,i,h3⟩:=h.live_cells hb hι
  rw [h3] at h1
  injection h1 with h1
  subst h1
  cases h2
 refine ⟨⟨hg.os.trans h.bel.os,hg.tape.trans h.bel.tape,hg.output.trans h.bel.output,Nat.le_trans h.bel.size hg.size,fun g h1 h2=>?_⟩,hm,ho,h.size,h.fix,h.pin,fun t=>(h.tm t).keep (fun b hb=>⟨hb,rfl⟩) hk,fun b=>?_,
  fun b g c hb hι=>⟨(h.own b g c hb hι).1,Nat.lt_of_lt_of_le (h.own b g c hb hι).2 hg.size⟩,h.dist,h.glob.keep hk⟩
 ·refine (hg.block g (Nat.lt_of_lt_of_le h1 h.bel.size) fun e=>?_).trans (h.bel.block g h1 h2)
  have:=(hr g e.symm).1
  omega
 ·cases hkn:(s.bx b).known with
  | true=>exact zXG.keep (fun b hb=>⟨hb,rfl⟩) hk hkn hkn (fun hb g c hι=>hl b g c hb hι) (h.bx b)
  | false=>cases hB:s.bx b <;> rw [hB] at hkn <;> first | trivial | (simp [Bx.known] at hkn)
theorem zW4 {ref w w':World} {row:Option Nat} {B:Nat} (h:KeepsOthers ref w) (hg:w.grownBy w' row) (hr:∀ r,row=some r→B≤r) (hB:ref.heap.size≤B):KeepsOthers ref w':=
 ⟨Nat.le_trans h.size hg.size,fun k o hk ho=>by
  have hlt:k < ref.heap.size:=(Array.getElem?_eq_some_iff.1 hk).1
  refine (hg.block k (Nat.lt_of_lt_of_le hlt h.size) fun e=>?_).trans (h.same k o hk ho)
  have:=hr k e.symm
  omega⟩
theorem zH8 {w0 w w':World} {ds:List Deferred} {row:Option Nat} {B:Nat} (h:zHI w0 ds w) (hg:w.grownBy w' row) (hr:∀ r,row=some r→B≤r) (hB:∀ d∈ds,∀ D,d={ target:=.collected D,args:=#[] }→D < B):zHI w0 ds w':=
 ⟨h.1,fun d hd=>by
  obtain ⟨D,e,h1,h2⟩:=h.2 d hd
  refine ⟨D,e,h1,(hg.block D (Array.getElem?_eq_some_iff.1 h2).1 fun e'=>?_).trans h2⟩
  have:=hr D e'.symm
  have:=hB d hd D e
  omega⟩
theorem jV6 {n:Dom} {F:Fence} (hF:Wide F) {m id:Nat} {ops:Array Oper} {draw:Bool} {kn:Kn} {s:AS} {Q:zJd→Kn→AS→Prop} (hm:P.follows .mixedOrders=true) (h:zJA P Γ n ops (List.range ops.size) kn s [] fun kn' s' acc=>match draw with
  | true=>jWh ops (fun i=>acc.reverse.getD i ([],[]))=true∧Q .normal kn' s'
  | false=>Q .normal kn' s') (hk:KnOK kn s) {w0:World} {S:zQ8} {ι:zQm} {a:Act} {w:World} (hr:RepS w0 S n s ι a w) {Q':Exit→Act→World→Prop}
  (hQ:∀ e kn' s' ι' a' w',Q e kn' s'→KnOK kn' s'→RepS w0 S n s' ι' a' w'→Q' e.exit_ a' w'):(Code.region id ops draw).wpIn F m P Q' a w:=by
 obtain ⟨kn',s',ts,h1,h2,h3,h4⟩:=zWE h hk
 have hτ:∀ (k i:Nat),(List.range ops.size)[k]?=some i→(fun i=>(ts.reverse++[]).reverse.getD i ([],[])) i=ts.getD k ([],[]):=fun k i hi=>by
  have:k=i:=by
   have hlt:=(List.getElem?_eq_some_iff.1 hi).1
   simp at hlt
   simp [hlt] at hi
   exact hi
  subst this
  simp
 have hruns:=h4 _ hτ
 cases draw with
 | false=>
  simp only at h1
  exact wpIn_region (zHM hF hruns hr fun ι' a' w' hr'=>hQ .normal kn' s' ι' a' w' h1 h2 hr')
 | true=>
  simp only at h1
  obtain ⟨hok,h1⟩:=h1
  refine wpIn_region_any hm ?_
  have hleft:left ops (Array.replicate ops.size false)=List.range ops.size:=by
   unfold left
   rw [List.filter_eq_self]
   intro i hi
   have:i < ops.size:=List.mem_range.1 hi
   simp [Array.getD,this]
  have hr1:RepS w0 S n s ι a { w with drawn:=w.drawn+1 }:=hr.quiet ⟨hr.bel.os,hr.bel.tape,hr.bel.output,hr.bel.size,hr.bel.block⟩ rfl
  exact jWb hF hok (fun ι' a' w' hr'=>hQ .normal kn' s' ι' a' w' h1 h2 hr') ops.size _ s ι a _ (fun i o ho hl hs=>by
   have:i < ops.size:=by simpa using hs
   simp [Array.getD,this] at hl) (by simp) (by rw [hleft]; simp) (by rw [hleft]; exact hruns) hr1
theorem jWy {kn:Kn} {s:AS} {t:Nat} (h:KnOK kn s):KnOK kn (s.melt1 t):=fun t' b hb=>by
 have h1:=h t' b hb
 unfold AS.melt1
 split
 ·rename_i b' m ht
  split
  ·simp only
   split
   ·rename_i e
    subst e
    rw [ht] at h1
    cases h1
   ·exact h1
  ·exact h1
 ·exact h1
theorem jJk {kn:Kn}:∀ (ts:List Nat) {s:AS},KnOK kn s→KnOK kn (melts s ts)
 | [],_,h=>h
 | _::ts,_,h=>jJk ts (jWy h)
theorem RepS.melts {w0:World} {S:zQ8} {n:Dom} {ι:zQm} {a:Act} {w:World}:∀ (ts:List Nat) {s:AS},RepS w0 S n s ι a w→RepS w0 S n (melts s ts) ι a w
 | [],_,h=>h
 | t::ts,_,h=>RepS.melts ts (h.melt1 t)
theorem zJz {n:Dom} {ops:Array Oper}:∀ {R:List Nat} {kn:Kn} {s:AS} {acc:List (List Nat × List Nat)} {Q Q':Kn→AS→List (List Nat × List Nat)→Prop},(∀ kn s acc,Q kn s acc→Q' kn s acc)→zJA P Γ n ops R kn s acc Q→zJA P Γ n ops R kn s acc Q'
 | [],kn,s,acc,Q,Q',hQ,h=>hQ _ _ _ h
 | i::R,kn,s,acc,Q,Q',hQ,h=>by
  unfold zJA at h ⊢
  split at h
  ·exact h.elim
  ·split at h
   ·exact h.elim
   ·split at h
    ·exact ⟨h.1,zJz hQ h.2⟩
    ·exact h.elim
   ·split at h
    ·exact zJz hQ h
    ·exact h.elim
   ·refine ⟨fun e=>?_,fun e=>?_⟩
    ·have h:=h.1 e
     split at h
     ·exact ⟨h.1,zJz hQ h.2⟩
     ·exact h.elim
    ·have h:=h.2 e
     split at h
     ·exact zJz hQ h
     ·exact h.elim
theorem zYt {n:Dom} {ops:Array Oper} {B:List Nat} {Q:Kn→AS→List (List Nat × List Nat)→Prop}:∀ {A:List Nat} {kn:Kn} {s:AS} {acc:List (List Nat × List Nat)},zJA P Γ n ops A kn s acc (fun kn' s' acc'=>zJA P Γ n ops B kn' s' acc' Q)→zJA P Γ n ops (A++B) kn s acc Q
 | [],kn,s,acc,h=>h
 | i::A,kn,s,acc,h=>by
  rw [List.cons_append]
  unfold zJA at h ⊢
  split at h
  ·exact h.elim
  ·split at h
   ·exact h.elim
   ·split at h
    ·exact ⟨h.1,zYt h.2⟩
    ·exact h.elim
   ·split at h
    ·exact zYt h
    ·exact h.elim
   ·refine ⟨fun e=>?_,fun e=>?_⟩
    ·have h:=h.1 e
     split at h
     ·exact ⟨h.1,zYt h.2⟩
     ·exact h.elim
    ·have h:=h.2 e
     split at h
     ·exact zYt h
     ·exact h.elim
theorem jQn {e:Int} {k:IntKind} {t:Nat} {s:AS} {K:AS→Prop}:∀ {vs:List Int},orIs e vs→jW1 e k t s K vs→K (s.put (some t) (.one (.d (.int k e))))
 | v::vs,h1,h2=>by
  simp only [orIs] at h1
  simp only [jW1] at h2
  rcases h1 with rfl | h1
  ·exact h2.1 rfl
  ·exact jQn h1 h2.2
 | [],h1,_=>h1.elim
theorem jZA {vs:List Int} {t:Nat} {s:AS} {K:AS→Prop} (h:jXZ vs t s K):K s:=by
 unfold jXZ at h
 split at h
 ·rename_i k e ht
  have:=jQn h.1 h.2
  have hs:s.put (some t) (.one (.d (.int k e)))=s:=by
   refine AS.ext' ?_ rfl
   funext t'
   simp only [AS.put]
   split
   ·rename_i e'; rw [e',ht]
   ·rfl
  rwa [hs] at this
 ·exact h.elim
theorem jKr {n:Dom} {ops:Array Oper} {ann:Ann} {kn:Kn} {s:AS} {K:Kn→AS→List (List Nat × List Nat)→Prop} (h:jUp P Γ n ops ann kn s K):zJA P Γ n ops (List.range ops.size) kn s [] K:=by
 unfold jUp at h
 split at h
 ·rename_i i t vs
  have h2:=zYt (zJz (fun _ _ _ h=>jZA h) h)
  rwa [List.take_append_drop] at h2
 ·exact h
def jJF (P:Program) (f:VCF) (c:Code):Prop:=
 ∀ (n:Dom) (ann:Ann) (kn:Kn) (s:AS) (Q:zJd→Kn→AS→Prop),f n ann kn s Q→KnOK kn s→∀ (F:Fence),Wide F→(n.round=false→F=Fence.wide) →
  ∀ (w0:World) (S:zQ8) (ι:zQm) (a:Act) (w:World),RepS w0 S n s ι a w→∀ (m:Nat) (Q':Exit→Act→World→Prop),
  (∀ e kn' s' ι' a' w',Q e kn' s'→KnOK kn' s'→RepS w0 S n s' ι' a' w'→Q' e.exit_ a' w')→c.wpIn F m P Q' a w
def zGI:Ann→Nat
 | .link _ _ next=>zGI next+1
 | _=>0
theorem jJ6 {f:VCF} {c:Code} (ih:jJF P f c) {n:Dom} {ann:Ann} {s:AS} {Q:zJd→Kn→AS→Prop} (h1:jJm n ann s) (h2:jZ7 n (f n) Q ann) {F:Fence} (hF:Wide F) (hR:n.round=false→F=Fence.wide)
  {w0:World} {S:zQ8} {ι:zQm} {a:Act} {w:World} (hr:RepS w0 S n s ι a w) {m:Nat} {Q':Exit→Act→World→Prop}
  (hQ:∀ e kn' s' ι' a' w',Q e kn' s'→KnOK kn' s'→RepS w0 S n s' ι' a' w'→Q' e.exit_ a' w'):(Code.loop c).wpIn F m P Q' a w:=by
 refine wpIn_loop_ghost (fun k a w=>∃ ann s ι,zGI ann=k∧jJm n ann s∧jZ7 n (f n) Q ann∧RepS w0 S n s ι a w) (zGI ann) ⟨ann,s,ι,rfl,h1,h2,hr⟩ fun k a w hI=>?_
 obtain ⟨ann,s,ι,rfl,h1,h2,hr⟩:=hI
 cases ann <;> first | exact h1.elim | skip
 rename_i I b next
 obtain ⟨z,hz,hf⟩:=h1
 obtain ⟨ι2,hr2⟩:=hr.fit hf
 simp only [jZ7] at h2
 refine ih n (b z) kn0 _ _ (h2.1 z hz) (zUo _) F hF hR w0 S ι2 a w hr2 m _ fun e kn' s' ι' a' w' hq hk' hr'=>?_
 cases e with
 | normal=>exact ⟨zGI next,by simp [zGI],next,s',ι',rfl,hq,h2.2,hr'⟩
 | exit id=>exact hQ (.exit id) kn' s' ι' a' w' hq hk' hr'
 | ret=>exact hQ .ret kn' s' ι' a' w' hq hk' hr'
theorem jJb {f:Ann→Kn→AS→(zJd→Kn→AS→Prop)→Prop} {kn:Kn} {s:AS} {t:Nat} {Q:zJd→Kn→AS→Prop} {k:IntKind} {e:Int} (ht:s.tm t=.one (.d (.int k e))) :
  ∀ {bs:Ann},jWr e bs→jJc f k e kn s t Q bs→∃ b,f b (zKs kn (some t) none) s Q
 | .opt v b next,h1,h2=>by
  simp only [jWr] at h1
  simp only [jJc] at h2
  rcases h1 with h1 | h1
  ·have hs:s.put (some t) (.one (.d (.int k v)))=s:=by
    refine AS.ext' ?_ rfl
    funext t'
    simp only [AS.put]
    split
    ·rename_i e'; rw [e',ht,h1]
    ·rfl
   have:=h2.1 h1
   rw [hs] at this
   exact ⟨b,this⟩
  ·exact jJb ht h1 h2.2
 | .leaf,h1,_=>h1.elim
 | .seq _ _,h1,_=>h1.elim
 | .loop _ _,h1,_=>h1.elim
 | .cut _ _ _,h1,_=>h1.elim
 | .link _ _ _,h1,_=>h1.elim
 | .split _ _ _,h1,_=>h1.elim
 | .range _ _ _ _,h1,_=>h1.elim
 | .sure _ _,h1,_=>h1.elim
 | .ice _ _ _ _,h1,_=>h1.elim
 | .splitAt _ _ _,h1,_=>h1.elim
theorem jVs:∀ (bs:List Nat) (s:AS),(ices s bs).tm=s.tm
 | [],_=>rfl
 | b::bs,s=>by simp only [ices]; rw [jVs bs]; rfl
theorem RepS.ices {w0:World} {S:zQ8} {n:Dom} {ι:zQm} {a:Act} {w:World}:∀ (bs:List Nat) {s:AS},RepS w0 S n s ι a w→RepS w0 S n (ices s bs) ι a w
 | [],_,h=>h
 | b::bs,s,h=>RepS.ices bs (h.freeze b)
theorem RepS.only {w0:World} {S:zQ8} {n:Dom} {s:AS} {ι:zQm} {a:Act} {w:World} (h:RepS w0 S n s ι a w) (T:List Nat):RepS w0 S n (s.only T) ι a w:=by
 refine ⟨h.bel,h.marks,h.oth,h.size,h.fix,h.pin,fun t=>?_,h.bx,h.own,h.dist,h.glob⟩
 show zQi _ _ _ _ (if T.contains t then s.tm t else .one .dead) _
 split
 ·exact h.tm t
 ·simp only [zQi,zQs]
theorem jYk {d:DV} (h:jK4 d):∃ u,d.plain=some u∧∀ (w:World) (V:Nat→Prop),RepD w V d u:=by
 cases d with
 | int k n=>exact ⟨_,rfl,fun w V=>by simp only [RepD,true_and]; exact (zXD _ _).2 h⟩
 | bool b=>exact ⟨_,rfl,fun w V=>by simp only [RepD]⟩
 | str s=>exact ⟨_,rfl,fun w V=>by simp only [RepD,true_and]; exact h⟩
 | sl n cs=>exact h.elim
 | fn f=>exact h.elim
theorem RepS.putAll {w0:World} {S:zQ8} {n:Dom} {ι:zQm} {w:World}:∀ {ps:List Nat} {ds:List DV} {s:AS} {a:Act},ds.length=ps.length→zWa ds→(∀ p∈ps,p < n.n∧n.keep p=false)→RepS w0 S n s ι a w →
  RepS w0 S n (s.putAll ps ds) ι { a with tmps:=(ps.zip (ds.map fun d=>d.plain.getD undef)).foldl (fun t (p,v)=>t.setIfInBounds p v) a.tmps } w
 | [],[],_,_,_,_,_,h=>h
 | p::ps,d::ds,s,a,hl,hd,hp,h=>by
  obtain ⟨u,h1,h2⟩:=jYk hd.1
  have:=h.put (d:=some p) (x:=.one (.d d)) (v:=u) (fun k hk=>by cases hk; exact hp p (by simp)) (by simp only [zQi,zQs]; exact h2 _ _)
  have:=RepS.putAll (ps:=ps) (ds:=ds) (by simpa using hl) hd.2 (fun q hq=>hp q (by simp [hq])) this
  simpa [AS.putAll,h1,Act.put] using this
 | [],_::_,_,_,hl,_,_,_=>by simp at hl
 | _::_,[],_,_,hl,_,_,_=>by simp at hl
theorem jXK {w0:World} {S:zQ8} {n:Dom} {s:AS} {ι:zQm} {a:Act} {w:World} (h:RepS w0 S n s ι a w) {ι0:zQm} {bx0:Nat→Bx} {w1:World} {V1:Nat→Prop}:∀ {cs:List Cap} {lb:List Value} {caps:List (Bool × List DV)},zXF ι0 bx0 w1 V1 cs lb →
  (∀ b∈cs.flatMap Cap.names,ι b=ι0 b)→zKc s.bx cs=some caps→jXR w caps lb
 | [],[],caps,_,_,hc=>by simp only [zKc,Option.some.injEq] at hc; subst hc; trivial
 | c::cs,v::lb,caps,hr,hn,hc=>by
  simp only [zKc] at hc
  cases h1:jZk s.bx c with
  | none=>rw [h1] at hc; cases hc
  | some x=>
   cases h2:zKc s.bx cs with
   | none=>rw [h1,h2] at hc; cases hc
   | some xs=>
    rw [h1,h2] at hc
    simp only [Option.some.injEq] at hc
    subst hc
    refine ⟨?_,jXK h hr.2 (fun b hb=>hn b (by rw [List.flatMap_cons,List.mem_append]; exact .inr hb)) h2⟩
    have hv:=hr.1
    cases c with
    | d x=>
     simp only [jZk] at h1
     split at h1
     ·rename_i hp
      simp only [Option.some.injEq] at h1
      subst h1
      obtain ⟨u,hu⟩:=Option.isSome_iff_exists.1 hp
      exact ⟨x,rfl,by rw [RepD.plain hv hu]; exact hu⟩
     ·cases h1
    | ptr b off=>
     simp only [jZk] at h1
     split at h1
     ·rename_i ho
      subst ho
      split at h1
      ·rename_i cells hB
       split at h1
       ·rename_i ds hds
        split at h1
        ·rename_i hall
         simp only [Option.some.injEq] at h1
         subst h1
         obtain ⟨_,g,c,e1,e2⟩:=hv
         have hb:=h.bx b
         rw [hB] at hb
         obtain ⟨g',c',cur,T,q1,q2,_,q3⟩:=hb
         rw [hn b (by simp [Cap.names]),e1] at q1
         simp only [Option.some.injEq,Prod.mk.injEq] at q1
         obtain ⟨rfl,rfl⟩:=q1
         have q4:=zKD q3 hds
         refine ⟨g,e2,fun i d hi=>?_⟩
         obtain ⟨u,hu,hd⟩:=zJG q4 i d hi
         have hp:d.plain.isSome=true:=(List.all_eq_true.1 hall) d (List.mem_of_getElem? hi)
         obtain ⟨u',hu'⟩:=Option.isSome_iff_exists.1 hp
         refine ⟨u',hu',?_⟩
         rw [cell_of_row w g i cur T (0,0) q2,← RepD.plain hd hu']
         simpa using hu
        ·cases h1
       ·cases h1
      ·cases h1
     ·cases h1
 | [],_::_,_,h,_,_=>h.elim
 | _::_,[],_,h,_,_=>h.elim
theorem jQj {w:World} {V:Nat→Prop} {ι:zQm} {bx:Nat→Bx}:∀ {cs:List Cap} {lb:List Value},zXF ι bx w V cs lb→∀ b∈cs.flatMap Cap.names,(bx b).known=true
 | [],[],_,b,hb=>by simp at hb
 | c::cs,v::lb,h,b,hb=>by
  rw [List.flatMap_cons,List.mem_append] at hb
  rcases hb with hb | hb
  ·cases c with
   | d x=>simp [Cap.names] at hb
   | ptr b' off=>simp only [Cap.names,List.mem_singleton] at hb; subst hb; exact h.1.1
  ·exact jQj h.2 b hb
 | [],_::_,h,_,_=>h.elim
 | _::_,[],h,_,_=>h.elim
def jZg:zJd→Option Code
 | .normal=>none
 | .exit id=>some (.exit id)
 | .ret=>some .ret
theorem jYg {fA fB:VCF} {x y:Code} (ihA:jJF P fA x) (ihB:jJF P fB y) {n:Dom} {g:Operand} {ps:Array Tmp} {I:Inv} {T:List Nat} {aa bb:I.α→Ann} {s:AS} {Q:zJd→Kn→AS→Prop}
  (h:jYh P Γ n fA fB g ps.toList I T aa bb s Q) {F:Fence} (hR:n.round=false→F=Fence.wide)
  {w0:World} {S:zQ8} {ι:zQm} {a:Act} {w:World} (hr:RepS w0 S n s ι a w) {m:Nat} {Q':Exit→Act→World→Prop}
  (hQ:∀ e kn' s' ι' a' w',Q e kn' s'→KnOK kn' s'→RepS w0 S n s' ι' a' w'→Q' e.exit_ a' w'):(Code.rangeFunc g ps x y).wpIn F m P Q' a w:=by
 unfold jYh at h
 split at h
 ·rename_i f cs hs
  split at h
  ·rename_i caps hcaps hflags
   split at h
   ·rename_i N item hit
    obtain ⟨hans,hitems,⟨z0,hz0,hμ0,hf0⟩,hrounds⟩:=h
    simp only [Bool.and_eq_true,Bool.not_eq_true'] at hflags
    obtain ⟨⟨hen,hrd⟩,hps⟩:=hflags
    have hFw:=hR hrd
    subst hFw
    simp only [psOK,Bool.and_eq_true,List.all_eq_true,decide_eq_true_eq,Bool.not_eq_true'] at hps
    obtain ⟨hps1,hps2⟩:=hps
    have hv:=hr.eval g
    rw [hs] at hv
    simp only [zQi,zQs] at hv
    obtain ⟨lb,hv,hlb⟩:=hv
    have hr1:RepS w0 { S with nm:=ι } (n.pinned (cs.flatMap Cap.names)) s ι a w:=
     ⟨hr.bel,hr.marks,hr.oth,hr.size,hr.fix,fun b hb=>⟨rfl,by
      simp only [Dom.pinned,List.mem_append] at hb
      rcases hb with hb | hb
      ·exact (hr.pin b hb).2
      ·exact jQj hlb b hb⟩,hr.tm,hr.bx,hr.own,hr.dist,hr.glob⟩
    obtain ⟨ι1,hr2⟩:=hr1.fit hf0
    have hmk:∀ d∈a.defers,∀ D,d={ target:=.collected D,args:=#[] }→D < w.heap.size:=fun d hd D e=>by
     obtain ⟨D',e',_,h2⟩:=hr.marks.2 d hd
     rw [e'] at e
     simp only [Deferred.mk.injEq,Target.collected.injEq,and_true] at e
     subst e
     exact (Array.getElem?_eq_some_iff.1 h2).1
    have hturn:∀ {s':AS} {n':Dom} {S':zQ8} {ι':zQm} {W W':World} {row:Option Nat},S'.ref.heap.size≤w.heap.size→RepS w0 S' n' s' ι' a W→W.grownBy W' row→(∀ r,row=some r→w.heap.size≤r∧∃ o:Obj,W.heap[r]?=some o∧o.isCells=false)→RepS w0 S' n' s' ι' a W':=by
     intro s' n' S' ι' W W' row hs' h' hg hr'
     exact h'.turn hg (fun r e=>⟨Nat.le_trans hr.bel.size (hr' r e).1,(hr' r e).2⟩) (zH8 h'.marks hg (fun r e=>(hr' r e).1) hmk) (zW4 h'.oth hg (fun r e=>(hr' r e).1) hs')
    have hkeepT:∀ t,(T.contains t=true∨n.keep t=true)→t ∉ ps.toList:=fun t ht hm=>by
     obtain ⟨⟨_,h2⟩,h3⟩:=hps1 t hm
     rcases ht with ht | ht
     ·rw [ht] at h2; cases h2
     ·rw [ht] at h3; cases h3
    have hback:∀ {s':AS} {ι':zQm} {a3:Act} {W W3 ref:World},zHI w0 a.defers W→KeepsOthers S.ref W→KeepsOthers W W3→RepS w0 { S with nm:=ι,ref:=ref,base:=fun t=>a.tmps.getD t undef } (n.inner T (cs.flatMap Cap.names)) s' ι' a3 W3 →
      RepS w0 { S with nm:=ι } (n.pinned (cs.flatMap Cap.names)) (s'.only T) ι' a W3:=by
     intro s' ι' a3 W W3 ref hm1 ho1 hk h3
     refine ⟨h3.bel,hm1.keep hk,ho1.trans hk,hr.size,hr.fix,h3.pin,fun t=>?_,h3.bx,h3.own,h3.dist,h3.glob⟩
     show zQi _ _ _ _ (if T.contains t then s'.tm t else .one .dead) _
     split
     ·rename_i ht
      have hfx:=h3.fix t (by show (n.keep t || T.contains t)=true; rw [ht,Bool.or_true])
      have:=h3.tm t
      rw [hfx] at this
      exact this
     ·simp only [zQi,zQs]
    have hout:∀ {s':AS} {ι':zQm} {W:World},RepS w0 { S with nm:=ι } (n.pinned (cs.flatMap Cap.names)) s' ι' a W→RepS w0 S n s' ι' a W:=fun h'=>
     ⟨h'.bel,h'.marks,h'.oth,h'.size,h'.fix,fun b hb=>by
      have:=h'.pin b (by simp [Dom.pinned,hb])
      exact ⟨this.1.trans (hr.pin b hb).1,this.2⟩,h'.tm,h'.bx,h'.own,h'.dist,h'.glob⟩
    have hmark:∀ {s':AS} {ι':zQm} {W:World} {D:Nat},w.heap.size≤D→W.heap[D]?=some (.deferred (some []))→RepS w0 S n s' ι' a W→RepS w0 S n s' ι' { a with defers:={ target:=.collected D,args:=#[] }::a.defers } W:=fun hD hW h'=>
     ⟨h'.bel,⟨List.pairwise_cons.2 ⟨fun d hd e=>by
       have:=hmk d hd _ e.symm
       omega,h'.marks.1⟩,fun d hd=>by
      rcases List.mem_cons.1 hd with rfl | hd
      ·exact ⟨_,rfl,Nat.le_trans hr.bel.size hD,hW⟩
      ·exact h'.marks.2 d hd⟩,h'.oth,h'.size,h'.fix,h'.pin,h'.tm,h'.bx,h'.own,h'.dist,h'.glob⟩
    refine jK1 hv (zV6 hen) hans (fun k hk=>by rw [(hitems k hk).1]; simp)
     (fun k W=>∃ z ι',I.ok z∧I.μ z=k∧RepS w0 { S with nm:=ι } (n.pinned (cs.flatMap Cap.names)) ((I.st z).as.only T) ι' a W)
     (fun c W=>∃ e kn' s' ι',jZg e=some c∧Q e kn' s'∧KnOK kn' s'∧RepS w0 { S with nm:=ι } (n.pinned (cs.flatMap Cap.names)) s' ι' a W)
     (fun k W W' row ⟨z,ι',h1,h2,h3⟩ hg hrr=>⟨z,ι',h1,h2,hturn hr.oth.size h3 hg hrr⟩)
     (fun c W W' row ⟨e,kn',s',ι',h1,h2,h3,h4⟩ hg hrr=>⟨e,kn',s',ι',h1,h2,h3,hturn hr.oth.size h4 hg hrr⟩)
     (fun k W ⟨z,ι',h1,h2,h3⟩=>jXK h3 hlb (fun b hb=>(h3.pin b (by simp only [Dom.pinned,List.mem_append]; exact .inr hb)).1) (hrounds z h1).1)
     ⟨z0,ι1,hz0,hμ0,hr2.only T⟩ ?_ ?_ ?_
    ·
     rintro l k W hk ⟨z,ι',hz,rfl,h3⟩
     have hit:=hitems (I.μ z) hk
     have hin:RepS w0 { S with nm:=ι,ref:=W,base:=fun t=>a.tmps.getD t undef } (n.inner T (cs.flatMap Cap.names)) ((I.st z).as.only T) ι' { tmps:=a.tmps,defers:=[] } W:=
      ⟨h3.bel,⟨List.Pairwise.nil,fun d hd=>by simp at hd⟩,KeepsOthers.refl W,h3.size,fun t _=>rfl,h3.pin,h3.tm,h3.bx,h3.own,h3.dist,h3.glob⟩
     have hin2:=hin.putAll (ps:=ps.toList) (ds:=item (I.μ z)) hit.1 hit.2 (fun p hp=>by
      obtain ⟨⟨h1,h2⟩,h4⟩:=hps1 p hp
      refine ⟨h1,?_⟩
      simp only [Dom.inner,h2,h4,Bool.or_self])
     have hloop:∀ (f:Array Value→Tmp × Value→Array Value) (t0:Array Value) (vs:List Value),(ps.zip vs.toArray).foldl f t0=(ps.toList.zip vs).foldl f t0:=fun f t0 vs=>by
      rw [← Array.foldl_toList,Array.toList_zip]
     show x.wpIn _ m P _ { tmps:=(ps.zip (zG3 (item (I.μ z)))).foldl (fun t (p,v)=>t.setIfInBounds p v) a.tmps,defers:=[] } W
     rw [zG3,hloop]
     refine ihA _ (aa z) kn0 _ _ ((hrounds z hz).2.1 hk) (zUo _) _ (.inr ⟨l,rfl⟩) (fun h=>by cases h) w0 _ ι' _ W hin2 m _ fun e kn' s' ι2 a1 W1 hq hk' h4=>?_
     cases e with
     | ret=>exact hq.elim
     | exit id=>exact hq.elim
     | normal=>
      refine ⟨h4.oth,fun W2 hg hl hcell=>?_⟩
      obtain ⟨lr,hlr⟩:=hcell
      have h5:=h4.turn hg (fun r e=>by cases e; exact ⟨Nat.le_trans hr.bel.size hl,_,hlr,rfl⟩) (ds:=a1.defers) ⟨h4.marks.1,fun d hd=>by
       obtain ⟨D,e1,e2,e3⟩:=h4.marks.2 d hd
       refine ⟨D,e1,e2,(hg.block D (Array.getElem?_eq_some_iff.1 e3).1 fun e'=>?_).trans e3⟩
       injection e' with e'
       subst e'
       rw [hlr] at e3
       injection e3 with e3
       cases e3⟩ (KeepsOthers.refl W2)
      have hm1:zHI w0 a.defers W:=h3.marks
      have hm2:zHI w0 a.defers W2:=zH8 (hm1.keep h4.oth) hg (fun r e=>by cases e; exact hl) hmk
      have ho2:KeepsOthers S.ref W2:=zW4 (h3.oth.trans h4.oth) hg (fun r e=>by cases e; exact hl) hr.oth.size
      refine ihB _ (bb z) kn' _ _ hq hk' _ (.inr ⟨l,rfl⟩) (fun h=>by cases h) w0 _ ι2 a1 W2 h5 m _ fun e kn2 s2 ι3 a3 W3 hq2 hk2 h6=>?_
      cases e with
      | normal=>
       obtain ⟨y,hy,hμ,hf⟩:=hq2
       obtain ⟨ι4,h7⟩:=h6.fit hf
       exact ⟨h6.oth,y,ι4,hy,hμ,hback hm2 ho2 h6.oth h7⟩
      | ret=>exact ⟨h6.oth,.ret,kn0,s2.only T,ι3,rfl,hq2,zUo _,hback hm2 ho2 h6.oth h6⟩
      | exit id=>exact ⟨h6.oth,.exit id,kn0,s2.only T,ι3,rfl,hq2,zUo _,hback hm2 ho2 h6.oth h6⟩
    ·
     rintro Dk W hD ⟨z,ι',hz,hμ,h3⟩ hW
     exact hQ .normal kn0 _ ι' _ W ((hrounds z hz).2.2 hμ) (zUo _) (hmark hD hW (hout h3))
    ·rintro Dk c W hD ⟨e,kn',s',ι',he,hq,hk',h3⟩ hW
     cases e with
     | normal=>cases he
     | ret=>
      simp only [jZg,Option.some.injEq] at he
      subst he
      exact wpIn_ret (hQ .ret kn' s' ι' _ W hq hk' (hmark hD hW (hout h3)))
     | exit id=>
      simp only [jZg,Option.some.injEq] at he
      subst he
      exact wpIn_exit (hQ (.exit id) kn' s' ι' _ W hq hk' (hmark hD hW (hout h3)))
   ·exact h.elim
  ·exact h.elim
 ·exact h.elim
theorem zQ2 (hm:P.follows .mixedOrders=true):∀ (c:Code),jJF P (fun n=>vcg P Γ n c) c
 | .skip,n,_,kn,s,Q,h,hk,F,hF,hR,w0,S,ι,a,w,hr,m,Q',hQ=>wpIn_skip (hQ .normal kn s ι a w h hk hr)
 | .label _,n,_,kn,s,Q,h,hk,F,hF,hR,w0,S,ι,a,w,hr,m,Q',hQ=>wpIn_label (hQ .normal kn s ι a w h hk hr)
 | .exit id,n,_,kn,s,Q,h,hk,F,hF,hR,w0,S,ι,a,w,hr,m,Q',hQ=>wpIn_exit (hQ (.exit id) kn s ι a w h hk hr)
 | .ret,n,_,kn,s,Q,h,hk,F,hF,hR,w0,S,ι,a,w,hr,m,Q',hQ=>wpIn_ret (hQ .ret kn s ι a w h hk hr)
 | .region id ops draw,n,_,kn,s,Q,h,hk,F,hF,hR,w0,S,ι,a,w,hr,m,Q',hQ=>jV6 hF hm (jKr h) hk hr hQ
 | .seq x y,n,ann,kn,s,Q,h,hk,F,hF,hR,w0,S,ι,a,w,hr,m,Q',hQ=>by
  simp only [vcg] at h
  refine wpIn_seq ?_
  split at h
  ·rename_i I a' b
   obtain ⟨h1,h2⟩:=h
   refine zQ2 hm x n a' kn s _ h1 hk F hF hR w0 S ι a w hr m _ fun e kn' s' ι' a' w' hq hk' hr'=>?_
   cases e with
   | normal=>
    obtain ⟨z,hz,hf⟩:=hq
    obtain ⟨ι2,hr2⟩:=hr'.fit hf
    exact zQ2 hm y n (b z) kn0 _ Q (h2 z hz) (zUo _) F hF hR w0 S ι2 a' w' hr2 m Q' hQ
   | exit id=>exact hQ (.exit id) kn' s' ι' a' w' hq hk' hr'
   | ret=>exact hQ .ret kn' s' ι' a' w' hq hk' hr'
  ·rename_i bs ts a' b
   refine zQ2 hm x n a' kn s _ h hk F hF hR w0 S ι a w hr m _ fun e kn' s' ι' a' w' hq hk' hr'=>?_
   cases e with
   | normal=>exact zQ2 hm y n b kn' (Go.Proofs.YtbnmadpcdlnleaaGreatDoor.melts (Go.Proofs.YtbnmadpcdlnleaaGreatDoor.ices s' bs) ts) Q hq (jJk ts fun t b hb=>by rw [jVs]; exact hk' t b hb) F hF hR w0 S ι' a' w' ((hr'.ices bs).melts ts) m Q' hQ
   | exit id=>exact hQ (.exit id) kn' s' ι' a' w' hq hk' hr'
   | ret=>exact hQ .ret kn' s' ι' a' w' hq hk' hr'
  ·rename_i a' t bs
   refine zQ2 hm x n a' kn s _ h hk F hF hR w0 S ι a w hr m _ fun e kn' s' ι' a' w' hq hk' hr'=>?_
   cases e with
   | normal=>
    simp only at hq
    unfold jGu at hq
    split at hq
    ·rename_i k e ht
     obtain ⟨b,hb⟩:=jJb ht hq.1 hq.2
     refine zQ2 hm y n b _ s' Q hb (fun t' b' hb'=>?_) F hF hR w0 S ι' a' w' hr' m Q' hQ
     simp only [zKs] at hb'
     split at hb'
     ·cases hb'
     ·exact hk' _ _ hb'
    ·exact hq.elim
   | exit id=>exact hQ (.exit id) kn' s' ι' a' w' hq hk' hr'
   | ret=>exact hQ .ret kn' s' ι' a' w' hq hk' hr'
  ·refine zQ2 hm x n ann.l kn s _ h hk F hF hR w0 S ι a w hr m _ fun e kn' s' ι' a' w' hq hk' hr'=>?_
   cases e with
   | normal=>exact zQ2 hm y n ann.r kn' s' Q hq hk' F hF hR w0 S ι' a' w' hr' m Q' hQ
   | exit id=>exact hQ (.exit id) kn' s' ι' a' w' hq hk' hr'
   | ret=>exact hQ .ret kn' s' ι' a' w' hq hk' hr'
 | .cond c x y,n,ann,kn,s,Q,h,hk,F,hF,hR,w0,S,ι,a,w,hr,m,Q',hQ=>by
  simp only [vcg] at h
  split at h
  ·rename_i b a'
   split at h
   ·rename_i b' hc
    obtain ⟨rfl,h⟩:=h
    cases b' with
    | true=>exact wpIn_cond_true (zJV (hr.eval c) hc) (zQ2 hm x n a' kn s Q h hk F hF hR w0 S ι a w hr m Q' hQ)
    | false=>exact wpIn_cond_false (zJV (hr.eval c) hc) (zQ2 hm y n a' kn s Q h hk F hF hR w0 S ι a w hr m Q' hQ)
   ·exact h.elim
  split at h
  ·rename_i hc
   exact wpIn_cond_true (zJV (hr.eval c) (jQ5 hk hc)) (zQ2 hm x n ann.l kn s Q h hk F hF hR w0 S ι a w hr m Q' hQ)
  ·rename_i hc
   exact wpIn_cond_false (zJV (hr.eval c) (jQ5 hk hc)) (zQ2 hm y n ann.r kn s Q h hk F hF hR w0 S ι a w hr m Q' hQ)
  ·split at h
   ·rename_i b hc
    exact wpIn_cond_split (zJV (hr.eval c) hc) (fun hb=>zQ2 hm x n ann.l kn s Q (h.1 hb) hk F hF hR w0 S ι a w hr m Q' hQ) (fun hb=>zQ2 hm y n ann.r kn s Q (h.2 hb) hk F hF hR w0 S ι a w hr m Q' hQ)
   ·exact h.elim
 | .block id c,n,ann,kn,s,Q,h,hk,F,hF,hR,w0,S,ι,a,w,hr,m,Q',hQ=>by
  simp only [vcg] at h
  refine wpIn_block (zQ2 hm c n ann kn s _ h hk F hF hR w0 S ι a w hr m _ fun e kn' s' ι' a' w' hq hk' hr'=>?_)
  cases e with
  | normal=>exact hQ .normal kn' s' ι' a' w' hq hk' hr'
  | exit id'=>
   simp only at hq
   simp only [zJd.exit_,Exit.inBlock]
   by_cases e:id'=id
   ·rw [if_pos e]
    simp only [e,decide_true] at hq
    exact hQ .normal kn' s' ι' a' w' hq hk' hr'
   ·rw [if_neg e]
    simp only [e,decide_false] at hq
    exact hQ (.exit id') kn' s' ι' a' w' hq hk' hr'
  | ret=>exact hQ .ret kn' s' ι' a' w' hq hk' hr'
 | .loop c,n,ann,kn,s,Q,h,hk,F,hF,hR,w0,S,ι,a,w,hr,m,Q',hQ=>by
  simp only [vcg] at h
  split at h
  ·rename_i I a'
   obtain ⟨⟨z,hz,hf⟩,h2⟩:=h
   obtain ⟨ι2,hr2⟩:=hr.fit hf
   refine wpIn_loop_ghost (fun m a w=>∃ z ι,I.ok z∧I.μ z=m∧RepS w0 S n (I.st z).as ι a w) (I.μ z) ⟨z,ι2,hz,rfl,hr2⟩ fun k a w hI=>?_
   obtain ⟨z,ι,hz,rfl,hr⟩:=hI
   refine zQ2 hm c n (a' z) kn0 _ _ (h2 z hz) (zUo _) F hF hR w0 S ι a w hr m _ fun e kn' s' ι' a' w' hq hk' hr'=>?_
   cases e with
   | normal=>
    obtain ⟨y,hy,hlt,hf⟩:=hq
    obtain ⟨ι3,hr3⟩:=hr'.fit hf
    exact ⟨I.μ y,hlt,y,ι3,hy,rfl,hr3⟩
   | exit id=>exact hQ (.exit id) kn' s' ι' a' w' hq hk' hr'
   | ret=>exact hQ .ret kn' s' ι' a' w' hq hk' hr'
  ·exact jJ6 (f:=fun n=>vcg P Γ n c) (zQ2 hm c) h.1 h.2 hF hR hr hQ
  ·exact h.elim
 | .rangeFunc g ps x y,n,ann,kn,s,Q,h,hk,F,hF,hR,w0,S,ι,a,w,hr,m,Q',hQ=>by
  simp only [vcg] at h
  split at h
  ·exact jYg (zQ2 hm x) (zQ2 hm y) h hR hr hQ
  ·exact h.elim
 | .scope _,_,_,_,_,_,h,_,_,_,_,_,_,_,_,_,_,_,_,_=>by simp only [vcg] at h
 | .goto _,_,_,_,_,_,h,_,_,_,_,_,_,_,_,_,_,_,_,_=>by simp only [vcg] at h
 | .refuse _,_,_,_,_,_,h,_,_,_,_,_,_,_,_,_,_,_,_,_=>by simp only [vcg] at h
end
def jWf (P:Program) (s:AS):ResultVar→Option AV
 | .tmp t=>some (s.tm t)
 | .cell t ty=>match s.tm t with
  | .one (.ptr b off)=>match s.bx b,zJm P ty with
   | .cells cs,some (g,k)=>if off+k≤cs.length then zKu g ((cs.drop off).take k) else none
   | _,_=>none
  | _=>none
def zUi (P:Program) (s:AS):List ResultVar→Option (List AV)
 | []=>some []
 | r::rs=>match jWf P s r,zUi P s rs with
  | some v,some vs=>some (v::vs)
  | _,_=>none
def jUA (P:Program) (s:AS) (rs:List ResultVar):Option RV:=
 match zUi P s rs with
 | some xs=>if xs.all AV.flat then match AV.rvs (fun b=>zXj (s.bx b)) xs with
  | some [r]=>some r
  | some l=>some (.tup l)
  | none=>none else none
 | none=>none
def post (P:Program) (rs:List ResultVar) (R:RV→Prop):zJd→Kn→AS→Prop
 | .exit _,_,_=>False
 | _,_,s=>match jUA P s rs with
  | some r=>R r
  | none=>False
def start (args:List RV):AS:=⟨fun t=>match args[t]? with
 | some r=>r.av
 | none=>.tup [],fun _=>.fresh⟩
mutual
def DV.wf:DV→Prop
 | .int k n=>k.min≤n∧n≤k.max
 | .bool _=>True
 | .str s=>s.size≤maxLen
 | .sl n xs=>n≤maxLen∧DV.wfs xs
 | .fn _=>True
def DV.wfs:List DV→Prop
 | []=>True
 | x::xs=>x.wf∧DV.wfs xs
end
mutual
def RV.wf:RV→Prop
 | .d x=>x.wf
 | .agg xs=>DV.wfs xs
 | .tup xs=>RV.wfs xs
def RV.wfs:List RV→Prop
 | []=>True
 | x::xs=>x.wf∧RV.wfs xs
end
section
variable {w:World} {V:Nat→Prop}
mutual
theorem RepD.wf:∀ {d:DV} {v:Value},RepD w V d v→d.wf
 | .int k n,v,h=>by simp only [RepD] at h; simp only [DV.wf]; exact (zXD _ _).1 h.2
 | .bool _,_,_=>by simp only [DV.wf]
 | .str s,v,h=>by simp only [RepD] at h; simp only [DV.wf]; exact h.2
 | .fn _,_,_=>by simp only [DV.wf]
 | .sl n xs,v,h=>by
  simp only [RepD] at h
  obtain ⟨A,cap,_,h1,h2,h3⟩:=h
  simp only [DV.wf]
  refine ⟨Nat.le_trans h1 h2,?_⟩
  cases xs with
  | nil=>simp only [DV.wfs]
  | cons d ds=>
   obtain ⟨g,off,_,_,hc⟩:=h3 (by simp)
   exact RepCells.wf hc
theorem RepCells.wf:∀ {xs:List DV} {g off:Nat},RepCells w V xs g off→DV.wfs xs
 | [],_,_,_=>by simp only [DV.wfs]
 | d::ds,g,off,h=>by
  simp only [RepCells] at h
  obtain ⟨⟨u,_,hd⟩,hr⟩:=h
  simp only [DV.wfs]
  exact ⟨RepD.wf hd,RepCells.wf hr⟩
end
theorem zZi.wf:∀ {ds:List DV} {vs:List Value},zZi w V ds vs→DV.wfs ds
 | [],[],_=>by simp only [DV.wfs]
 | _::_,_::_,h=>by simp only [DV.wfs]; exact ⟨h.1.wf,zZi.wf h.2⟩
 | [],_::_,h=>h.elim
 | _::_,[],h=>h.elim
mutual
theorem RepR.wf:∀ {r:RV} {v:Value},RepR w V r v→r.wf
 | .d x,v,h=>by simp only [RepR] at h; simp only [RV.wf]; exact h.wf
 | .agg xs,v,h=>by simp only [RepR] at h; obtain ⟨cs,_,h⟩:=h; simp only [RV.wf]; exact h.wf
 | .tup xs,v,h=>by simp only [RepR] at h; obtain ⟨vs,_,h⟩:=h; simp only [RV.wf]; exact RepRs.wf h
theorem RepRs.wf:∀ {rs:List RV} {vs:List Value},RepRs w V rs vs→RV.wfs rs
 | [],[],_=>by simp only [RV.wfs]
 | _::_,_::_,h=>by simp only [RepRs] at h; simp only [RV.wfs]; exact ⟨RepR.wf h.1,RepRs.wf h.2⟩
 | [],_::_,h=>by simp only [RepRs] at h
 | _::_,[],h=>by simp only [RepRs] at h
end
end
theorem zGp {w:World} {V:Nat→Prop}:∀ {rs:List RV} {vs:List Value},RepRs w V rs vs→rs.length=vs.length
 | [],[],_=>rfl
 | _::_,_::_,h=>by simp only [RepRs] at h; simp [zGp h.2]
 | [],_::_,h=>by simp only [RepRs] at h
 | _::_,[],h=>by simp only [RepRs] at h
theorem zUg {P:Program} {α β:Type} (f:α→Sem β) (w:World):∀ (l:List α) (us:List β),l.length=us.length→(∀ (i:Nat) x u,l[i]?=some x→us[i]?=some u→(f x).run P w=.ok u w)→(l.mapM f).run P w=.ok us w
 | [],[],_,_=>by simp
 | x::l,u::us,hl,h=>by
  rw [List.mapM_cons]
  simp only [Sem.run_bind,h 0 x u rfl rfl,Result.andThen_ok,zUg f w l us (by simpa using hl) (fun i x' u' h1 h2=>h (i+1) x' u' (by simpa using h1) (by simpa using h2)),Sem.run_pure]
 | [],_::_,hl,_=>by simp at hl
 | _::_,[],hl,_=>by simp at hl
def jZO (tmps:Array Value):ResultVar→Sem Value
 | .tmp t=>pure (tmps.getD t undef)
 | .cell c t=>do loadVar t (← asAddr (tmps.getD c undef))
theorem jJU (fn:Func) (tmps:Array Value):results fn tmps=(do let vs ← fn.results.mapM (jZO tmps); pure (if h:vs.size=1 then vs[0] else .tuple vs)):=by
 unfold results
 refine congrArg (fun f:ResultVar→Sem Value=>(do let vs ← fn.results.mapM f; pure (if h:vs.size=1 then vs[0] else .tuple vs):Sem Value)) ?_
 funext x
 cases x <;> rfl
theorem jY2 {P:Program} {fn:Func} {w0:World} {S:zQ8} {n:Dom} {s:AS} {ι:zQm} {a:Act} {w:World} (h:RepS w0 S n s ι a w) {xs:List AV} (hxs:zUi P s fn.results.toList=some xs) :
  ∃ us:List Value,(results fn a.tmps).run P w=.ok (if h:us.toArray.size=1 then us.toArray[0] else .tuple us.toArray) w∧RepAVs w (Seen S w0.heap.size s.bx ι) ι s.bx xs us:=by
 have key:∀ (rs:List ResultVar) (xs:List AV),zUi P s rs=some xs→∃ us:List Value,rs.length=us.length∧(∀ (i:Nat) x u,rs[i]?=some x→us[i]?=some u→(jZO a.tmps x).run P w=.ok u w) ∧
   RepAVs w (Seen S w0.heap.size s.bx ι) ι s.bx xs us:=by
  intro rs
  induction rs with
  | nil=>intro xs h; simp only [zUi,Option.some.injEq] at h; subst h; exact ⟨[],rfl,fun i x u h=>by simp at h,by simp only [RepAVs]⟩
  | cons rv rs ih=>
   intro xs hx
   simp only [zUi] at hx
   cases h1:jWf P s rv with
   | none=>rw [h1] at hx; cases hx
   | some v=>
    cases h2:zUi P s rs with
    | none=>rw [h1,h2] at hx; cases hx
    | some vs=>
     rw [h1,h2] at hx
     simp only [Option.some.injEq] at hx
     subst hx
     obtain ⟨us,l1,l2,l3⟩:=ih vs h2
     have h0:∃ u,(jZO a.tmps rv).run P w=.ok u w∧zQi w (Seen S w0.heap.size s.bx ι) ι s.bx v u:=by
      cases rv with
      | tmp t=>
       simp only [jWf,Option.some.injEq] at h1
       subst h1
       exact ⟨_,rfl,h.tm t⟩
      | cell c ty=>
       simp only [jWf] at h1
       split at h1
       ·rename_i b off hc
        split at h1
        ·rename_i cs g k hB hk
         split at h1
         ·rename_i hle
          have hv:=h.tm c
          rw [hc] at hv
          obtain ⟨_,g',c',hι,ev⟩:=zVa hv
          have hb:=h.bx b
          rw [hB] at hb
          obtain ⟨g2,c2,cur,T,e1,e2,_,e3⟩:=hb
          rw [e1] at hι
          simp only [Option.some.injEq,Prod.mk.injEq] at hι
          obtain ⟨rfl,rfl⟩:=hι
          have hp:=zYA (zJh e3 off k) h1
          have hlen:=zZg e3
          have hk':zJm P ty=some (g,((cur.toList.drop off).take k).length):=by
           rw [hk]; congr 2; simp at hlen ⊢; omega
          have hrun:=zXJ (P:=P) hk' (w:=w) (b:=g2) (o:=off) (fun j u hj=>by
           rw [cell_of_row w g2 (off+j) cur T (0,0) e2]
           rw [List.getElem?_take] at hj
           split at hj
           ·simpa using hj
           ·cases hj)
          refine ⟨_,?_,hp.1⟩
          simp only [jZO,ev,asAddr,Sem.run_bind,Sem.run_pure,Result.andThen_ok,hrun]
         ·cases h1
        ·cases h1
       ·cases h1
     obtain ⟨u,hu1,hu2⟩:=h0
     refine ⟨u::us,by simp [l1],fun i x u' hx hu'=>?_,by simp only [RepAVs]; exact ⟨hu2,l3⟩⟩
     cases i with
     | zero=>simp at hx hu'; subst hx hu'; exact hu1
     | succ i=>exact l2 i x u' (by simpa using hx) (by simpa using hu')
 obtain ⟨us,l1,l2,l3⟩:=key _ _ hxs
 have hmap:=zUg (P:=P) (jZO a.tmps) w fn.results.toList us l1 l2
 refine ⟨us,?_,l3⟩
 rw [jJU,Sem.run_bind,Array.mapM_eq_mapM_toList,Sem.run_map,hmap]
 simp only [Result.andThen_ok,Sem.run_pure]
theorem jUz {P:Program} {fn:Func} {w0:World} {S:zQ8} {n:Dom} {s:AS} {ι:zQm} {a:Act} {w:World} (h:RepS w0 S n s ι a w) {r:RV} (hr:jUA P s fn.results.toList=some r) :
  ∃ v,(results fn a.tmps).run P w=.ok v w∧RepR w (fun g=>S.see g∨w0.heap.size≤g∨S.lent g) r v:=by
 unfold jUA at hr
 split at hr
 ·rename_i xs hxs
  split at hr
  ·rename_i hflat
   obtain ⟨us,hrun,l3⟩:=jY2 h hxs
   have hseen:zZA w (Seen S w0.heap.size s.bx ι) w (fun g=>S.see g∨w0.heap.size≤g∨S.lent g):=fun g off u hV hu=>⟨hV.1,hu⟩
   have hlook:∀ x∈xs,∀ b∈x.refs,∀ ys,(fun b=>zXj (s.bx b)) b=some ys→zHk w (fun g=>S.see g∨w0.heap.size≤g∨S.lent g) ι b ys∧(ι b=none→ys=[]):=by
    intro x hx b hb ys hys
    simp only at hys
    have hb':=h.bx b
    cases hB:s.bx b <;> rw [hB] at hys hb' <;> simp only [zXj,Option.some.injEq,reduceCtorEq] at hys <;> subst hys
    ·rcases hb' with ⟨g1,g2⟩ | ⟨g,cap,cur,g1,g2,g3,g4,g5⟩
     ·exact ⟨fun g c e=>(by rw [g1] at e; cases e),fun _=>g2⟩
     ·refine ⟨fun g' c e=>?_,fun e=>(by rw [g1] at e; cases e)⟩
      rw [g1] at e
      simp only [Option.some.injEq,Prod.mk.injEq] at e
      obtain ⟨rfl,rfl⟩:=e
      exact ⟨g3,fun _=>⟨.inr (h.own b g cap (by rw [hB]; rfl) g1).1,RepCells.of_row g2 (g5.keep hseen)⟩⟩
    ·rcases hb' with ⟨g1,g2⟩ | ⟨g,cap,g1,g2,g3⟩
     ·exact ⟨fun g c e=>(by rw [g1] at e; cases e),fun _=>g2⟩
     ·refine ⟨fun g' c e=>?_,fun e=>(by rw [g1] at e; cases e)⟩
      rw [g1] at e
      simp only [Option.some.injEq,Prod.mk.injEq] at e
      obtain ⟨rfl,rfl⟩:=e
      exact ⟨g3,g2.keep hseen⟩
   cases hrv:AV.rvs (fun b=>zXj (s.bx b)) xs with
   | none=>rw [hrv] at hr; cases hr
   | some rvs=>
    rw [hrv] at hr
    have hall:=zGc hseen hflat l3 hlook hrv
    refine ⟨_,hrun,?_⟩
    have hlen:=zGp hall
    match rvs,us,hall,hlen,hr with
    | [r'],[u],hall,_,hr=>
     simp only [Option.some.injEq] at hr
     subst hr
     simp only [RepRs] at hall
     simpa using hall.1
    | [],[],hall,_,hr=>
     simp only [Option.some.injEq] at hr
     subst hr
     simp only [List.size_toArray,List.length_nil,Nat.zero_ne_one,dite_false,RepR]
     exact ⟨_,rfl,hall⟩
    | r1::r2::rs,u1::u2::us,hall,_,hr=>
     simp only [Option.some.injEq] at hr
     subst hr
     simp only [RepR]
     refine ⟨(u1::u2::us).toArray,by simp,hall⟩
    | [_],[],_,hl,_=>simp at hl
    | [],_::_,_,hl,_=>simp at hl
    | [_],_::_::_,_,hl,_=>simp at hl
    | _::_::_,[],_,hl,_=>simp at hl
    | _::_::_,[_],_,hl,_=>simp at hl
  ·cases hr
 ·cases hr
theorem jZ9 {F:Fence} {m:Nat} {P:Program} {fn:Func} {R:Ending→World→Prop} {w0:World} {n:Dom} {s:AS} {ι:zQm} {tmps:Array Value}:∀ (ds:List Deferred) (S:zQ8) (w:World),RepS w0 S n s ι { tmps:=tmps,defers:=ds } w→S.ref.heap.size≤w0.heap.size →
  (∀ w',RepS w0 S n s ι { tmps:=tmps,defers:=[] } w'→∃ v,(results fn tmps).run P w'=.ok v w'∧R (.returned v) w')→LeavesInM F m P fn tmps R ds .returning w
 | [],S,w,h,_,hR=>hR w h
 | d::ds,S,w,h,href,hR=>by
  obtain ⟨D,rfl,h1,h2⟩:=h.marks.2 d (by simp)
  have hlt:D < w.heap.size:=(Array.getElem?_eq_some_iff.1 h2).1
  refine ⟨by simp,.inl ⟨D,w.putObj D (.deferred none),rfl,run_takeDeferred h2,jZ9 ds S _ ?_ href hR⟩⟩
  have hg:=grownBy_putObj' w D (.deferred none)
  refine h.turn hg (fun r e=>by cases e; exact ⟨h1,_,h2,rfl⟩) (ds:=ds) ⟨(List.pairwise_cons.1 h.marks.1).2,fun d' hd'=>?_⟩ (ref:=S.ref) (zW4 h.oth hg (fun r e=>by cases e; exact h1) href)
  obtain ⟨D',rfl,q1,q2⟩:=h.marks.2 d' (by simp [hd'])
  have hne:D'≠D:=fun e=>(List.pairwise_cons.1 h.marks.1).1 _ hd' (by rw [e])
  exact ⟨D',rfl,q1,(World.putObj_heap_other hne).trans q2⟩
def zUu (fn:Func):Code:=fn.body.getD .skip
theorem jVU {fn:Func} (hb:fn.body.isSome=true):fn.body=some (zUu fn):=by
 unfold zUu
 cases h:fn.body with
 | none=>rw [h] at hb; cases hb
 | some c=>rfl
theorem zKT {P:Program} {Γ:Gam} {f:FuncId} {fn:Func} (ann:Ann) (hm:P.follows .mixedOrders=true) (hf:P.funcs[f]?=some fn) (hb:fn.body.isSome=true) {n:Dom} (hn:n.round=false) {s:AS} {Q:zJd→Kn→AS→Prop}
  (h:vcg P Γ n (zUu fn) ann kn0 s Q) {w:World} {S:zQ8} {ι:zQm} {vs:Array Value} {R:Ending→World→Prop} (hr:RepS w S n s ι { tmps:=vs++Array.replicate (fn.ntmps - vs.size) undef,defers:=[] } w) (href:S.ref=w)
  (hend:∀ e kn' s' ι' tmps w',Q e kn' s'→RepS w S n s' ι' { tmps:=tmps,defers:=[] } w'→(∀ id,e≠.exit id)∧∃ v,(results fn tmps).run P w'=.ok v w'∧R (.returned v) w')
  (hex:∀ id kn' s',¬ Q (.exit id) kn' s'):Calls P f vs w R:=by
 refine callsIn_wide.1 (callsIn_of_wp_marks (F:=Fence.wide) (n:=1) hf (jVU hb) trivial ?_)
 refine zQ2 hm (zUu fn) n ann kn0 s Q h (zUo _) Fence.wide (.inl rfl) (fun _=>rfl) w S ι _ w hr 1 _ fun e kn' s' ι' a' w' hq hk' hr'=>?_
 have done:LeavesInM Fence.wide 1 P fn a'.tmps R a'.defers .returning w':=
  jZ9 a'.defers S w' hr' (by rw [href]; exact Nat.le_refl _) fun w'' h''=>(hend e kn' s' ι' a'.tmps w'' hq h'').2
 cases e with
 | normal=>exact done
 | ret=>exact done
 | exit id=>exact (hex id kn' s' hq).elim
theorem jQx {w:World} {V:Nat→Prop} {ι:zQm} {bx:Nat→Bx} {k:Nat}:∀ {xs:List AV} {vs:List Value},RepAVs w V ι bx xs vs→∀ t,zQi w V ι bx ((xs[t]?).getD (.tup [])) ((vs++List.replicate k undef).getD t undef)
 | [],[],_,t=>by
  simp only [List.getElem?_nil,Option.getD_none,zQi,List.nil_append]
  refine ⟨#[],?_,by simp only [RepAVs]⟩
  rw [List.getD_eq_getElem?_getD,List.getElem?_replicate]
  split <;> rfl
 | x::xs,v::vs,h,0=>by simp only [RepAVs] at h; simpa using h.1
 | x::xs,v::vs,h,t+1=>by simp only [RepAVs] at h; simpa using jQx h.2 t
 | [],_::_,h,_=>by simp only [RepAVs] at h
 | _::_,[],h,_=>by simp only [RepAVs] at h
theorem jJE (vs:Array Value) (k t:Nat):(vs++Array.replicate k undef).getD t undef=(vs.toList++List.replicate k undef).getD t undef:=by
 rw [Array.getD_eq_getD_getElem?,List.getD_eq_getElem?_getD,← Array.getElem?_toList]
 simp
theorem jZQ {w:World} {S:Nat→Prop} {fn:Func} {args:List RV} {vs:Array Value} (hl:args.length≤fn.ntmps) (hgl:zJc w S) (hvs:RepRs w S args vs.toList) :
  RepS w { see:=S,ref:=w } fn.ntmps (start args) (fun _=>none) { tmps:=vs++Array.replicate (fn.ntmps - vs.size) undef,defers:=[] } w:=by
 have hlen:=zGp hvs
 refine ⟨Bel.refl _ _,⟨List.Pairwise.nil,fun d hd=>by simp at hd⟩,KeepsOthers.refl w,?_,fun t h=>by (cases h),fun b h=>by (cases h),fun t=>?_,fun b=>trivial,fun b g c hl=>by simp [start,Bx.live] at hl,fun b b' g c c' hl=>by simp [start,Bx.live] at hl,hgl.keep fun g off u hV hu=>⟨⟨.inl hV,fun b c hl=>by simp [start,Bx.live] at hl⟩,hu⟩⟩
 ·show (vs++Array.replicate (fn.ntmps - vs.size) undef).size=fn.ntmps
  simp at hlen ⊢; omega
 ·have hk:zZA w S w (Seen { see:=S,ref:=w } w.heap.size (start args).bx fun _=>none):=fun g off u hV hu=>⟨⟨.inl hV,fun b c hl=>by simp [start,Bx.live] at hl⟩,hu⟩
  have h1:=rep_avs (ι:=fun _=>none) (bx:=(start args).bx) (RepRs.keep hk hvs)
  have h2:=jQx (k:=fn.ntmps - vs.size) h1 t
  rw [← jJE] at h2
  have e:(start args).tm t=((RV.avs args)[t]?).getD (.tup []):=by
   have:∀ (l:List RV) (t:Nat),(RV.avs l)[t]?=(l[t]?).map RV.av:=by
    intro l
    induction l with
    | nil=>intro t; simp [RV.avs]
    | cons x l ih=>intro t; cases t <;> simp [RV.avs,ih]
   rw [this]
   simp only [start]
   cases args[t]? <;> rfl
  rw [e]
  exact h2
theorem zQa {P:Program} {Γ:Gam} {f:FuncId} {fn:Func} {args:List RV} {res:RV} (ann:Ann) (hm:P.follows .mixedOrders=true) (hf:P.funcs[f]?=some fn) (hb:fn.body.isSome=true) (hl:args.length≤fn.ntmps)
  (h:RV.wfs args→vcg P Γ fn.ntmps (zUu fn) ann kn0 (start args) (post P fn.results.toList (·=res))):Ans P f args res:=by
 intro w S vs hgl hvs
 refine zKT ann hm hf hb (n:=fn.ntmps) rfl (h (RepRs.wf hvs)) (jZQ hl hgl hvs) rfl (fun e kn' s' ι' tmps w' hq hr'=>?_) (fun id kn' s' hq=>hq)
 have done:post P fn.results.toList (·=res) .ret kn' s'→∃ v,(results fn tmps).run P w'=.ok v w'∧(∃ u,Ending.returned v=.returned u∧RepR w' (fun g=>S g∨w.heap.size≤g) res u∧Below w.heap.size w w'):=by
  intro hq
  simp only [post] at hq
  split at hq
  ·rename_i r hres
   subst hq
   obtain ⟨v,h1,h2⟩:=jUz hr' hres
   have hsee:∀ g,(S g∨w.heap.size≤g∨False)→(S g∨w.heap.size≤g):=fun g hV=>hV.imp id fun h=>h.resolve_right id
   exact ⟨v,h1,v,rfl,h2.keep (fun g off u hV hu=>⟨hsee g hV,hu⟩),hr'.bel.below fun g h=>h⟩
  ·exact hq.elim
 cases e with
 | normal=>exact ⟨fun _ e=>by (cases e),done hq⟩
 | ret=>exact ⟨fun _ e=>by (cases e),done hq⟩
 | exit id=>exact hq.elim
def jUE (t e size n:Nat) (ys:List DV):zJd→Kn→AS→Prop
 | .exit _,_,_=>False
 | _,_,s=>match s.tm t with
  | .one (.ref b m)=>match s.bx b with
   | .row e' size' zs=>(e'=e∧size'=size)∧ys.length=n*size∧m=n∧zs=ys
   | _=>False
  | .one .nil=>n=0∧ys=[]
  | _=>False
theorem jUI {w0 w:World} {S:zQ8} {n:Dom} {s:AS} {ι:zQm} {a:Act} (h:RepS w0 S n s ι a w) (hl:∀ g,¬ S.lent g) {b e size m:Nat} {v:Value} {us:List Value} (hb:(s.bx b).live=true) (ho:zVU w 0 e size v m us) (hn:∀ g,v.ownBlock=some g→∃ c,ι b=some (g,c)):zVU w w0.heap.size e size v m us:=by
 refine ⟨ho.1,?_⟩
 rcases ho.2 with h1 | ⟨g,cap,cur,e1,h1,h2,h3⟩
 ·exact .inl h1
 ·refine .inr ⟨g,cap,cur,e1,?_,h2,h3⟩
  obtain ⟨c,hc⟩:=hn g (by rw [e1]; rfl)
  exact (h.own b g c hb hc).1.resolve_right (hl g)
theorem zVw {P:Program} {Γ:Gam} {f:FuncId} {fn:Func} {args:List RV} {t e size n:Nat} {ys:List DV} (ann:Ann) (hm:P.follows .mixedOrders=true) (hf:P.funcs[f]?=some fn) (hb:fn.body.isSome=true) (hl:args.length≤fn.ntmps) (hres:fn.results=#[.tmp t])
  (h:RV.wfs args→vcg P Γ fn.ntmps (zUu fn) ann kn0 (start args) (jUE t e size n ys)):AnsO P f args e size n ys:=by
 intro w S vs hgl hvs
 refine zKT ann hm hf hb (n:=fn.ntmps) rfl (h (RepRs.wf hvs)) (jZQ hl hgl hvs) rfl (fun ex kn' s' ι' tmps w' hq hr'=>?_) (fun id kn' s' hq=>hq)
 have hbel:Below w.heap.size w w':=hr'.bel.below fun g h=>h
 have done:jUE t e size n ys .ret kn' s'→∃ v,(results fn tmps).run P w'=.ok v w'∧(∃ v2 us,Ending.returned v=.returned v2∧zVU w' w.heap.size e size v2 n us∧zZi w' (fun g=>(S g∨w.heap.size≤g)∧v2.ownBlock≠some g) ys us∧ys.length=n*size∧Below w.heap.size w w'):=by
  intro hq
  have hsee:∀ g,(S g∨w.heap.size≤g∨False)→(S g∨w.heap.size≤g):=fun g hV=>hV.imp id fun h=>h.resolve_right id
  refine ⟨_,results_tmp hres _ _ _,?_⟩
  have hv:=hr'.tm t
  simp only [jUE] at hq
  split at hq
  ·rename_i b m htm
   rw [htm] at hv
   split at hq
   ·rename_i e' size' zs hbx
    obtain ⟨⟨rfl,rfl⟩,hlen,rfl,rfl⟩:=hq
    obtain ⟨us,o1,o2,o3⟩:=zWX hr' hbx hlen hv
    refine ⟨_,us,rfl,jUI hr' (fun g h=>h) (by rw [hbx]; rfl) o1 o3,o2.keep fun g off u hV hu=>⟨⟨hsee g hV.1,fun e=>?_⟩,hu⟩,hlen,hbel⟩
    obtain ⟨c,hc⟩:=o3 g e
    exact hV.2 b c (by rw [hbx]; rfl) hc
   ·exact hq.elim
  ·rename_i htm
   rw [htm] at hv
   simp only [zQi,zQs] at hv
   obtain ⟨rfl,rfl⟩:=hq
   exact ⟨_,[],rfl,by rw [hv]; exact zKG _ _ _ _,trivial,by simp,hbel⟩
  ·exact hq.elim
 cases ex with
 | normal=>exact ⟨fun _ e=>by (cases e),done hq⟩
 | ret=>exact ⟨fun _ e=>by (cases e),done hq⟩
 | exit id=>exact hq.elim
mutual
def AV.wf:AV→Prop
 | .one c=>match c with
  | .d v=>v.wf
  | _=>True
 | .agg cs=>Cl.wfs cs
 | .tup _=>True
def Cl.wfs:List Cl→Prop
 | []=>True
 | c::cs=>(match c with
  | .d v=>v.wf
  | _=>True)∧Cl.wfs cs
end
def AV.wfL:List AV→Prop
 | []=>True
 | x::xs=>x.wf∧AV.wfL xs
def Bx.wf:Bx→Prop
 | .cells cs=>Cl.wfs cs
 | .row _ _ xs=>DV.wfs xs
 | .ice xs=>DV.wfs xs
 | _=>True
def Bx.wfL:List Bx→Prop
 | []=>True
 | x::xs=>x.wf∧Bx.wfL xs
section
variable {w:World} {V:Nat→Prop} {ι:zQm} {bx:Nat→Bx}
theorem zQR.wf:∀ {cs:List Cl} {vs:List Value},zQR w V ι bx cs vs→Cl.wfs cs
 | [],[],_=>by simp only [Cl.wfs]
 | c::cs,v::vs,h=>by
  simp only [Cl.wfs]
  refine ⟨?_,zQR.wf h.2⟩
  cases c <;> first | exact RepD.wf h.1 | trivial
 | [],_::_,h=>h.elim
 | _::_,[],h=>h.elim
theorem zQi.wf {x:AV} {v:Value} (h:zQi w V ι bx x v):x.wf:=by
 cases x with
 | one c=>simp only [zQi] at h; cases c <;> simp only [AV.wf] <;> first | exact RepD.wf h | trivial
 | agg cs=>simp only [zQi] at h; obtain ⟨cur,_,h⟩:=h; simp only [AV.wf]; exact h.wf
 | tup vs=>simp only [AV.wf]
theorem RepAVs.wf:∀ {xs:List AV} {vs:List Value},RepAVs w V ι bx xs vs→AV.wfL xs
 | [],[],_=>trivial
 | _::_,_::_,h=>by simp only [RepAVs] at h; exact ⟨h.1.wf,RepAVs.wf h.2⟩
 | [],_::_,h=>by simp only [RepAVs] at h
 | _::_,[],h=>by simp only [RepAVs] at h
theorem zXG.wf {b:Nat} {B:Bx} (h:zXG w V ι bx b B):B.wf:=by
 cases B with
 | fresh=>trivial
 | gone=>trivial
 | cells cs=>obtain ⟨_,_,_,_,_,_,_,h⟩:=h; exact h.wf
 | row e size xs=>
  rcases h with ⟨_,rfl⟩ | ⟨_,_,_,_,_,_,_,h⟩
  ·simp only [Bx.wf,DV.wfs]
  ·exact h.wf
 | ice xs=>
  rcases h with ⟨_,rfl⟩ | ⟨_,_,_,h,_⟩
  ·simp only [Bx.wf,DV.wfs]
  ·exact h.cells.wf
end
def jUc (args:List AV) (ins:List Bx):AS:=⟨fun t=>(args[t]?).getD (.tup []),zQM ins⟩
def zipN {α:Type}:Nat→List α→List (Nat × α)
 | _,[]=>[]
 | n,x::xs=>(n,x)::zipN (n+1) xs
def Cl.flatV:Cl→Prop
 | .d v=>v.flat=true
 | .vp _ _=>False
 | .clo _ _=>False
 | _=>True
def jQg:List Cl→Prop
 | []=>True
 | c::cs=>c.flatV∧jQg cs
mutual
def AV.flatV:AV→Prop
 | .one c=>c.flatV
 | .agg cs=>jQg cs
 | .tup vs=>AV.flatVL vs
def AV.flatVL:List AV→Prop
 | []=>True
 | x::xs=>x.flatV∧AV.flatVL xs
end
def Bx.flatV:Bx→Prop
 | .cells cs=>jQg cs
 | .row _ _ xs=>∀ d∈xs,d.flat=true
 | .ice _=>False
 | _=>True
def Bx.flatVL:List Bx→Prop
 | []=>True
 | x::xs=>x.flatV∧Bx.flatVL xs
def zQC (r:Ret):Prop:=match r.fresh with
 | true=>r.res.flatV∧Bx.flatVL r.outs
 | false=>True
def jJ4:List AV→AV
 | [x]=>x
 | xs=>.tup xs
def jUf (x:AV) (bx:Nat→Bx):AS:=⟨fun t=>if t=0 then x else .one .dead,bx⟩
def jUF (P:Program) (n:Dom) (rs:List ResultVar) (r:Ret):zJd→Kn→AS→Prop
 | .exit _,_,_=>False
 | _,_,s=>match zUi P s rs with
  | some xs=>fits ⟨1,fun _=>false,n.pin,false⟩ (jUf (jJ4 xs) s.bx) ⟨[(0,r.res)],zipN 0 r.outs⟩∧zQC r
  | none=>False
section
variable {w:World} {V V':Nat→Prop} {ι:zQm} {bx:Nat→Bx}
theorem jVD {c:Cl} {v:Value} (hf:c.flatV) (h:zQs w V ι bx c v):zQs w V' ι bx c v:=by
 cases c with
 | d x=>exact RepD.of_flat hf h
 | vp _ _=>exact hf.elim
 | clo _ _=>exact hf.elim
 | lit u=>exact h
 | nil=>exact h
 | ptr b off=>exact h
 | ref b n=>exact h
 | sub b o n=>exact h
 | dead=>trivial
theorem jZe:∀ {cs:List Cl} {vs:List Value},jQg cs→zQR w V ι bx cs vs→zQR w V' ι bx cs vs
 | [],[],_,_=>trivial
 | _::_,_::_,hf,h=>⟨jVD hf.1 h.1,jZe hf.2 h.2⟩
 | [],_::_,_,h=>h.elim
 | _::_,[],_,h=>h.elim
mutual
theorem jVE:∀ {x:AV} {v:Value},x.flatV→zQi w V ι bx x v→zQi w V' ι bx x v
 | .one c,v,hf,h=>by simp only [zQi,AV.flatV] at h hf ⊢; exact jVD hf h
 | .agg cs,v,hf,h=>by
  simp only [zQi,AV.flatV] at h hf ⊢
  obtain ⟨cur,e,h⟩:=h
  exact ⟨cur,e,jZe hf h⟩
 | .tup vs,v,hf,h=>by
  simp only [zQi,AV.flatV] at h hf ⊢
  obtain ⟨cur,e,h⟩:=h
  exact ⟨cur,e,flat_avs hf h⟩
theorem flat_avs:∀ {xs:List AV} {vs:List Value},AV.flatVL xs→RepAVs w V ι bx xs vs→RepAVs w V' ι bx xs vs
 | [],[],_,_=>by simp only [RepAVs]
 | _::_,_::_,hf,h=>by simp only [RepAVs,AV.flatVL] at h hf ⊢; exact ⟨jVE hf.1 h.1,flat_avs hf.2 h.2⟩
 | [],_::_,_,h=>by simp only [RepAVs] at h
 | _::_,[],_,h=>by simp only [RepAVs] at h
end
theorem jU2 {b:Nat} {B:Bx} (hf:B.flatV) (h:zXG w V ι bx b B):zXG w V' ι bx b B:=by
 cases B with
 | fresh=>trivial
 | gone=>trivial
 | cells cs=>obtain ⟨g,c,cur,T,h1,h2,h0,h3⟩:=h; exact ⟨g,c,cur,T,h1,h2,h0,jZe hf h3⟩
 | row e size xs=>
  rcases h with h | ⟨g,cap,cur,h1,h2,h3,h4,h5⟩
  ·exact .inl h
  ·exact .inr ⟨g,cap,cur,h1,h2,h3,h4,zZi.of_flat (List.all_eq_true.2 hf) h5⟩
 | ice xs=>exact hf.elim
theorem jXz:∀ {l:List Bx} {b:Nat},Bx.flatVL l→(zQM l b).flatV
 | [],b,_=>by simp [zQM,Bx.flatV]
 | x::l,0,h=>h.1
 | x::l,b+1,h=>jXz (b:=b) h.2
end
theorem zH9:∀ {l:List Bx} {k b:Nat},zYf (zipN k l) (k+b)=zQM l b
 | [],_,_=>rfl
 | x::l,k,0=>by simp [zipN,zYf,zQM]
 | x::l,k,b+1=>by
  have:=zH9 (l:=l) (k:=k+1) (b:=b)
  simp only [zipN,zYf]
  rw [if_neg (by omega),show k+(b+1)=k+1+b from by omega,this]
  rfl
theorem jUb:∀ {l:List Bx},(∀ b,(zQM l b).wf)→Bx.wfL l
 | [],_=>trivial
 | x::l,h=>⟨h 0,jUb fun b=>h (b+1)⟩
theorem zWU {w:World} {V:Nat→Prop} {ι:zQm} {bx:Nat→Bx}:∀ {xs:List AV} {vs:List Value},RepAVs w V ι bx xs vs→xs.length=vs.length
 | [],[],_=>rfl
 | _::_,_::_,h=>by simp only [RepAVs] at h; simp [zWU h.2]
 | [],_::_,h=>by simp only [RepAVs] at h
 | _::_,[],h=>by simp only [RepAVs] at h
theorem jJM {fn:Func} {pin:Nat} {args:List AV} {ins:List Bx} (hl:args.length≤fn.ntmps) (hp:(List.range pin).all (fun b=>(zQM ins b).known)=true)
  {w:World} {S:Nat→Prop} {ι:zQm} {vs:Array Value} (hgl:zJc w S) (hh:zHp w S ι args ins vs.toList) :
  RepS w { see:=S,lent:=OwnB (zQM ins) ι,ref:=w,nm:=ι } ⟨fn.ntmps,fun _=>false,List.range pin,false⟩ (jUc args ins) ι { tmps:=vs++Array.replicate (fn.ntmps - vs.size) undef,defers:=[] } w:=by
 have hargs:=hh.args
 have hlen:=zWU hargs
 have hk:zZA w S w (Seen { see:=S,lent:=OwnB (zQM ins) ι,ref:=w,nm:=ι } w.heap.size (zQM ins) ι):=fun g off u hV hu=>⟨⟨.inl hV,fun b c hl e=>(hh.own b g c hl e).1 hV⟩,hu⟩
 refine ⟨Bel.refl _ _,⟨List.Pairwise.nil,fun d hd=>by simp at hd⟩,KeepsOthers.refl w,?_,fun t h=>by (cases h),fun b hb=>⟨rfl,(List.all_eq_true.1 hp) b hb⟩,fun t=>?_,fun b=>(hh.bx b).seen hk,fun b g c hl e=>⟨.inr ⟨b,c,hl,e⟩,(hh.own b g c hl e).2⟩,hh.dist,hgl.keep hk⟩
 ·show (vs++Array.replicate (fn.ntmps - vs.size) undef).size=fn.ntmps
  simp at hlen ⊢; omega
 ·have h1:RepAVs w (Seen { see:=S,lent:=OwnB (zQM ins) ι,ref:=w,nm:=ι } w.heap.size (zQM ins) ι) ι (zQM ins) args vs.toList:=hargs.keep (fun b hb=>⟨hb,rfl⟩) hk
  have h2:=jQx (k:=fn.ntmps - vs.size) h1 t
  rw [← jJE] at h2
  exact h2
theorem zHU {P:Program} {fn:Func} {pin:Nat} {ins:List Bx} {r:Ret} {kn':Kn} {s':AS} {ι':zQm} {w w':World} {S:Nat→Prop} {ι:zQm} {tmps:Array Value}
  (hr':RepS w { see:=S,lent:=OwnB (zQM ins) ι,ref:=w,nm:=ι } ⟨fn.ntmps,fun _=>false,List.range pin,false⟩ s' ι' { tmps:=tmps,defers:=[] } w') :
  jUF P ⟨fn.ntmps,fun _=>false,List.range pin,false⟩ fn.results.toList r .ret kn' s'→∃ v,(results fn tmps).run P w'=.ok v w'∧∃ v2 ι',Ending.returned v=.returned v2∧jGi w S ι pin ins r w' ι' v2:=by
 intro hq
 simp only [jUF] at hq
 split at hq
 ·rename_i xs hxs
  obtain ⟨hfit,hfresh⟩:=hq
  obtain ⟨us,hrun,hus⟩:=jY2 hr' hxs
  have hul:=zWU hus
  refine ⟨_,hrun,?_⟩
  have hx:zQi w' (Seen { see:=S,lent:=OwnB (zQM ins) ι,ref:=w,nm:=ι } w.heap.size s'.bx ι') ι' s'.bx (jJ4 xs) (if h:us.toArray.size=1 then us.toArray[0] else .tuple us.toArray):=by
   match xs,us,hus,hul with
   | [x],[u],hus,_=>simp only [RepAVs] at hus; simpa [jJ4] using hus.1
   | [],[],hus,_=>simp only [jJ4,zQi]; exact ⟨_,rfl,hus⟩
   | x1::x2::xs,u1::u2::us,hus,_=>simp only [jJ4,zQi]; exact ⟨(u1::u2::us).toArray,by simp,hus⟩
   | [_],[],_,hl=>simp at hl
   | [],_::_,_,hl=>simp at hl
   | [_],_::_::_,_,hl=>simp at hl
   | _::_::_,[],_,hl=>simp at hl
   | _::_::_,[_],_,hl=>simp at hl
  generalize (if h:us.toArray.size=1 then us.toArray[0] else .tuple us.toArray)=v at hx
  generalize jJ4 xs=x at hx hfit
  have h1:RepS w { see:=S,lent:=OwnB (zQM ins) ι,ref:=w,nm:=ι } ⟨1,fun _=>false,List.range pin,false⟩ (jUf x s'.bx) ι' { tmps:=#[v],defers:=[] } w':=
   ⟨hr'.bel,⟨List.Pairwise.nil,fun d hd=>by simp at hd⟩,hr'.oth,rfl,fun t h=>by (cases h),hr'.pin,fun t=>by
    show zQi _ _ _ _ (if t=0 then x else .one .dead) _
    split
    ·rename_i e; subst e; exact hx
    ·simp only [zQi,zQs],hr'.bx,hr'.own,hr'.dist,hr'.glob⟩
  obtain ⟨ι2,h2⟩:=h1.fit hfit
  have hbx:zYf (zipN 0 r.outs)=zQM r.outs:=by
   funext b
   have:=zH9 (l:=r.outs) (k:=0) (b:=b)
   rwa [Nat.zero_add] at this
  have htm:zQi w' (Seen { see:=S,lent:=OwnB (zQM ins) ι,ref:=w,nm:=ι } w.heap.size (zQM r.outs) ι2) ι2 (zQM r.outs) r.res v:=by
   have:=h2.tm 0
   rw [← hbx]
   exact this
  have hb2:∀ b,zXG w' (Seen { see:=S,lent:=OwnB (zQM ins) ι,ref:=w,nm:=ι } w.heap.size (zQM r.outs) ι2) ι2 (zQM r.outs) b (zQM r.outs b):=fun b=>by
   have:=h2.bx b
   rw [← hbx]
   exact this
  have hown:∀ b g c,(zQM r.outs b).live=true→ι2 b=some (g,c)→(w.heap.size≤g∨OwnB (zQM ins) ι g)∧g < w'.heap.size:=fun b g c hl e=>h2.own b g c (by rw [← hbx] at hl; exact hl) e
  have hdist:∀ b b' g c c',(zQM r.outs b).live=true→(zQM r.outs b').live=true→b≠b'→ι2 b=some (g,c)→ι2 b'≠some (g,c'):=fun b b' g c c' hl hl'=>h2.dist b b' g c c' (by rw [← hbx] at hl; exact hl) (by rw [← hbx] at hl'; exact hl')
  have hpin:∀ b,b < pin→ι2 b=ι b:=fun b hb=>(h2.pin b (List.mem_range.2 hb)).1
  refine ⟨v,ι2,rfl,?_⟩
  cases hfr:r.fresh with
  | true=>
   unfold zQC at hfresh
   rw [hfr] at hfresh
   exact ⟨jVE hfresh.1 htm,fun b=>jU2 (jXz hfresh.2) (hb2 b),hown,hdist,hpin,h2.bel⟩
  | false=>
   have hk2:zZA w' (Seen { see:=S,lent:=OwnB (zQM ins) ι,ref:=w,nm:=ι } w.heap.size (zQM r.outs) ι2) w' (jJH w S ι ins r ι2):=fun g off u hV hu=>⟨⟨by
    rcases hV.1 with h | h | h
    ·exact .inl ⟨hfr,h⟩
    ·exact .inr (.inl h)
    ·exact .inr (.inr h),fun ⟨b,c,hl,e⟩=>hV.2 b c hl e⟩,hu⟩
   exact ⟨htm.keep (fun b hb=>⟨hb,rfl⟩) hk2,fun b=>(hb2 b).seen hk2,hown,hdist,hpin,h2.bel⟩
 ·exact hq.elim
theorem zZp {P:Program} {Γ:Gam} {f:FuncId} {fn:Func} {pin:Nat} {args:List AV} {ins:List Bx} {r:Ret} (ann:Ann) (hm:P.follows .mixedOrders=true) (hf:P.funcs[f]?=some fn) (hb:fn.body.isSome=true) (hl:args.length≤fn.ntmps)
  (hp:(List.range pin).all (fun b=>(zQM ins b).known)=true)
  (h:AV.wfL args→Bx.wfL ins→vcg P Γ ⟨fn.ntmps,fun _=>false,List.range pin,false⟩ (zUu fn) ann kn0 (jUc args ins) (jUF P ⟨fn.ntmps,fun _=>false,List.range pin,false⟩ fn.results.toList r)):AnsG P f pin args ins r:=by
 intro w S ι vs hgl hh
 have hv:=h hh.args.wf (jUb fun b=>(hh.bx b).wf)
 refine zKT ann hm hf hb (n:=⟨fn.ntmps,fun _=>false,List.range pin,false⟩) rfl hv (jJM hl hp hgl hh) rfl (fun e kn' s' ι' tmps w' hq hr'=>?_) (fun id kn' s' hq=>hq)
 cases e with
 | normal=>exact ⟨fun _ e=>by (cases e),zHU (kn':=kn') hr' hq⟩
 | ret=>exact ⟨fun _ e=>by (cases e),zHU (kn':=kn') hr' hq⟩
 | exit id=>exact hq.elim
theorem jVe {x y M:Int} (h1:0≤x) (h2:x≤M) (h3:0≤y) (h4:y≤M):0≤x*y∧x*y≤M*M:=
 ⟨Int.mul_nonneg h1 h3,Int.mul_le_mul h2 h4 h3 (by omega)⟩
def modS (n k:Int):Int:=if k < 1 then 0 else (wrap .i64 (n.tmod k+k)).tmod k
theorem jVf {n k:Int} (hk:1≤k) (hk':k≤4611686018427387904):modS n k=n % k:=by
 unfold modS
 rw [if_neg (by omega)]
 have a:=Int.tmod_lt_of_pos n (show 0 < k by omega)
 have b : -k < n.tmod k:=by
  rcases Int.le_total 0 n with h | h
  ·have:=Int.tmod_nonneg k h; omega
  ·have:=Int.tmod_lt_of_pos (-n) (show 0 < k by omega)
   rw [Int.neg_tmod] at this
   omega
 rw [IntWalk.i64_in _ ⟨by omega,by omega⟩,Int.tmod_eq_emod_of_nonneg (by omega),Int.add_emod_right,Int.tmod_def]
 rw [show n - k*n.tdiv k=n+k*(-(n.tdiv k)) from by rw [Int.mul_neg]; omega,Int.add_mul_emod_self_left]
structure Rc where
  a:Int
  b:Int
  c:Int
  d:Int
deriving DecidableEq
def okC (v:Int):Bool:=decide (-1073741824≤v) && decide (v≤1073741824)
def Rc.valid (r:Rc):Bool:=okC r.a && okC r.b && okC r.c && okC r.d
def Rc.empty (r:Rc):Bool:=!r.valid || decide (r.c≤r.a) || decide (r.d≤r.b)
def Rc.zero:Rc:=⟨0,0,0,0⟩
def Rc.clean (r:Rc):Rc:=if r.empty then Rc.zero else r
def Rc.area (r:Rc):Int:=if r.empty then 0 else (r.c - r.a)*(r.d - r.b)
def Rc.has (r:Rc) (x y:Int):Bool:=!r.empty && decide (r.a≤x) && decide (x < r.c) && decide (r.b≤y) && decide (y < r.d)
def Rc.inter (r q:Rc):Rc:=if r.empty || q.empty then Rc.zero else Rc.clean ⟨max r.a q.a,max r.b q.b,min r.c q.c,min r.d q.d⟩
def Rc.covers (r q:Rc):Bool:=q.empty || (!r.empty && decide (r.a≤q.a) && decide (r.b≤q.b) && decide (q.c≤r.c) && decide (q.d≤r.d))
def Rc.hull (r q:Rc):Rc:=if q.empty then r else if r.empty then q else ⟨min r.a q.a,min r.b q.b,max r.c q.c,max r.d q.d⟩
def Rc.move (r:Rc) (x y:Int):Rc:=if r.empty || decide (x < -2147483648) || decide (2147483648 < x) || decide (y < -2147483648) || decide (2147483648 < y) then Rc.zero else Rc.clean ⟨r.a+x,r.b+y,r.c+x,r.d+y⟩
theorem Rc.empty_false {r:Rc} (h:r.empty=false) :
  -1073741824≤r.a∧r.a < r.c∧r.c≤1073741824 ∧ -1073741824≤r.b∧r.b < r.d∧r.d≤1073741824:=by
 simp [Rc.empty,Rc.valid,okC] at h
 omega
theorem Rc.empty_iff (r:Rc):r.empty=false ↔ -1073741824≤r.a∧r.a < r.c∧r.c≤1073741824 ∧ -1073741824≤r.b∧r.b < r.d∧r.d≤1073741824:=by
 refine ⟨Rc.empty_false,fun h=>?_⟩
 simp [Rc.empty,Rc.valid,okC]
 omega
theorem Rc.zero_empty:Rc.zero.empty=true:=by decide
theorem Rc.clean_of {r:Rc} (h:r.empty=false):r.clean=r:=by simp [Rc.clean,h]
theorem Rc.clean_zero {r:Rc} (h:r.empty=true):r.clean=Rc.zero:=by simp [Rc.clean,h]
theorem Rc.area_wrap (r:Rc):wrap .i64 (wrap .i64 (r.clean.c - r.clean.a)*wrap .i64 (r.clean.d - r.clean.b))=r.area:=by
 by_cases h:r.empty=true
 ·rw [Rc.clean_zero h]; simp [Rc.area,h,Rc.zero,IntKind.wrap_i64]
 ·have h:r.empty=false:=by simpa using h
  obtain ⟨h1,h2,h3,h4,h5,h6⟩:=Rc.empty_false h
  rw [Rc.clean_of h,IntWalk.i64_in (r.c - r.a) ⟨by omega,by omega⟩,IntWalk.i64_in (r.d - r.b) ⟨by omega,by omega⟩]
  have:=jVe (x:=r.c - r.a) (y:=r.d - r.b) (M:=2147483648) (by omega) (by omega) (by omega) (by omega)
  rw [IntWalk.i64_in _ ⟨by omega,by omega⟩]
  simp [Rc.area,h]
def is (l:List Int):List DV:=l.map (.int .i64)
def ints (l:List DV):List Int:=l.map fun | .int _ n=>n | _=>0
theorem zZD (l:List Int):ints (is l)=l:=by simp [ints,is,Function.comp_def]
def Rc.cells (r:Rc):List DV:=[.int .i64 r.a,.int .i64 r.b,.int .i64 r.c,.int .i64 r.d]
def rcs (l:List Rc):List DV:=l.flatMap Rc.cells
theorem zXu (l:List Rc):(rcs l).length=l.length*4:=by
 unfold rcs
 induction l with
 | nil=>rfl
 | cons r l ih=>simp [ih,Rc.cells]; omega
theorem jJW (l m:List Rc):rcs (l++m)=rcs l++rcs m:=by simp [rcs]
theorem zVq:∀ (l:List Rc) (i:Nat) (h:i < l.length),(rcs l)[i*4]?=some (.int .i64 l[i].a)∧(rcs l)[i*4+1]?=some (.int .i64 l[i].b)∧(rcs l)[i*4+1+1]?=some (.int .i64 l[i].c)∧(rcs l)[i*4+1+1+1]?=some (.int .i64 l[i].d)
 | r::l,0,_=>by simp [rcs,Rc.cells]
 | r::l,i+1,h=>by
  have:=zVq l i (by simpa using h)
  have e:rcs (r::l)=Rc.cells r++rcs l:=by simp [rcs]
  rw [e]
  simp only [List.getElem_cons_succ]
  have key:∀ j,(Rc.cells r++rcs l)[(i+1)*4+j]?=(rcs l)[i*4+j]?:=fun j=>by
   rw [List.getElem?_append_right (by simp [Rc.cells]; omega)]
   congr 1
   simp [Rc.cells]; omega
  exact ⟨by have:=key 0; simp only [Nat.add_zero] at this; rw [this]; exact (zVq l i (by simpa using h)).1,by rw [key 1]; exact this.2.1,by rw [show (i+1)*4+1+1=(i+1)*4+2 from rfl,key 2]; exact this.2.2.1,by rw [show (i+1)*4+1+1+1=(i+1)*4+3 from rfl,key 3]; exact this.2.2.2⟩
def nOf:DV→Int
 | .int _ n=>n
 | _=>0
def zXC:List DV→List Rc
 | a::b::c::d::r=>⟨nOf a,nOf b,nOf c,nOf d⟩::zXC r
 | _=>[]
theorem zKy:∀ l:List Rc,zXC (rcs l)=l
 | []=>rfl
 | r::l=>by
  have e:rcs (r::l)=.int .i64 r.a::.int .i64 r.b::.int .i64 r.c::.int .i64 r.d::rcs l:=by simp [rcs,Rc.cells]
  rw [e,zXC,zKy l]
  rfl
def jW7 (n:Nat) (xs:List DV):Prop:=xs=rcs (zXC xs)∧n=(zXC xs).length
theorem jVm (l:List Rc):jW7 l.length (rcs l):=⟨by rw [zKy],by rw [zKy]⟩
theorem jW7.of {n:Nat} {xs:List DV} (h:jW7 n xs):∃ l:List Rc,xs=rcs l∧n=l.length:=⟨_,h.1,h.2⟩
theorem zVF {l:List Rc} {i:Nat} (h:i < l.length):nAt (rcs l) (i*4)=l[i].a∧nAt (rcs l) (i*4+1)=l[i].b∧nAt (rcs l) (i*4+1+1)=l[i].c∧nAt (rcs l) (i*4+1+1+1)=l[i].d:=by
 obtain ⟨h1,h2,h3,h4⟩:=zVq l i h
 exact ⟨by simp [nAt,h1],by simp [nAt,h2],by simp [nAt,h3],by simp [nAt,h4]⟩
def zQX (l:List Rc):Rc:=l.foldl Rc.hull Rc.zero
theorem jKa {l:List Rc} {k:Nat} (h:k < l.length):zQX (l.take (k+1))=(zQX (l.take k)).hull l[k]:=by
 unfold zQX
 rw [List.take_add_one,List.foldl_append,List.getElem?_eq_getElem h]
 rfl
def Rc.pieces (r i:Rc):List Rc:=[⟨r.a,r.b,r.c,i.b⟩,⟨r.a,i.d,r.c,r.d⟩,⟨r.a,i.b,i.a,i.d⟩,⟨i.c,i.b,r.c,i.d⟩]
def filt (l:List Rc):List Rc:=l.filter fun p=>!p.empty
def Rc.sub (r q:Rc):List Rc:=if r.empty then [] else if (r.inter q).empty then [r] else filt (Rc.pieces r (r.inter q))
theorem zQH (l:List Int):(is l).length=l.length:=by simp [is]
theorem jYv {l:List Int} {k:Nat} (h:k < l.length):(is l)[k]?=some (.int .i64 l[k]):=by simp [is,h]
theorem zGG {l:List Int} {k:Nat} (h:k < l.length):nAt (is l) k=l[k]:=by simp [nAt,jYv h]
theorem jKq:∀ (xs:List DV),DV.wfs xs↔∀ x∈xs,x.wf
 | []=>by simp [DV.wfs]
 | x::xs=>by simp only [DV.wfs,jKq xs,List.mem_cons,forall_eq_or_imp]
theorem jGM {l:List Int} (h:DV.wfs (is l)) {k:Nat} (hk:k < l.length) : -9223372036854775808≤l[k]∧l[k]≤9223372036854775807:=by
 have:=(jKq _).1 h (.int .i64 l[k]) (by simp [is])
 simp [DV.wf,IntKind.min,IntKind.max,IntKind.signed,IntKind.bits] at this
 exact this
theorem Rc.has_iff (r:Rc) (x y:Int):r.has x y=true↔r.empty=false∧r.a≤x∧x < r.c∧r.b≤y∧y < r.d:=by
 simp [Rc.has,and_assoc]
theorem Rc.clean_has (r:Rc) (x y:Int):r.clean.has x y=r.has x y:=by
 cases h:r.empty with
 | true=>rw [Rc.clean_zero h]; simp [Rc.has,h,Rc.zero_empty]
 | false=>rw [Rc.clean_of h]
theorem Rc.inter_has (r q:Rc) (x y:Int):(r.inter q).has x y=(r.has x y && q.has x y):=by
 unfold Rc.inter
 cases h1:r.empty with
 | true=>simp [Rc.has,h1,Rc.zero_empty]
 | false=>
  cases h2:q.empty with
  | true=>simp [Rc.has,h2,Rc.zero_empty]
  | false=>
   simp only [Bool.or_self,Bool.false_eq_true,if_false,Rc.clean_has]
   rw [Bool.eq_iff_iff,Bool.and_eq_true,Rc.has_iff,Rc.has_iff,Rc.has_iff,Rc.empty_iff]
   have g1:=(Rc.empty_iff r).1 h1
   have g2:=(Rc.empty_iff q).1 h2
   simp only [h1,h2,true_and]
   omega
theorem Rc.hull_has {r q:Rc} {x y:Int} (h:r.has x y=true∨q.has x y=true):(r.hull q).has x y=true:=by
 unfold Rc.hull
 cases h1:q.empty with
 | true=>
  rcases h with h | h
  ·simpa using h
  ·simp [Rc.has,h1] at h
 | false=>
  cases h2:r.empty with
  | true=>
   rcases h with h | h
   ·simp [Rc.has,h2] at h
   ·simpa using h
  | false=>
   simp only [Bool.false_eq_true,if_false]
   rw [Rc.has_iff,Rc.empty_iff]
   have g1:=(Rc.empty_iff q).1 h1
   have g2:=(Rc.empty_iff r).1 h2
   rw [Rc.has_iff,Rc.has_iff] at h
   simp only
   omega
def cnt (l:List Rc) (x y:Int):Int:=(l.map fun r=>if r.has x y then (1:Int) else 0).sum
def areas (l:List Rc):Int:=(l.map Rc.area).sum
def us (l:List Int):List DV:=l.map (.int .u16)
theorem jUQ (l:List Int):ints (us l)=l:=by simp [ints,us,Function.comp_def]
theorem zKx (l:List Int):(us l).length=l.length:=by simp [us]
theorem jGj {l:List Int} {k:Nat} (h:k < l.length):(us l)[k]?=some (.int .u16 l[k]):=by simp [us,h]
theorem jYP {l:List Int} {k:Nat} (h:k < l.length):nAt (us l) k=l[k]:=by simp [nAt,jGj h]
theorem jKs (l m:List Int):us l++us m=us (l++m):=by simp [us]
def IsU (n:Nat) (xs:List DV):Prop:=xs=us (ints xs)∧n=xs.length
theorem IsU.of {n:Nat} {xs:List DV} (h:IsU n xs):∃ l:List Int,xs=us l∧n=l.length:=by
 refine ⟨ints xs,h.1,?_⟩
 rw [h.2,h.1,zKx,jUQ]
theorem jUj {n:Nat} {xs:List DV} (hn:xs.length=n) (hx:∀ (j:Nat) d,xs[j]?=some d→∃ v,d=.int .u16 v):IsU n xs:=by
 refine ⟨?_,hn.symm⟩
 clear hn
 induction xs with
 | nil=>rfl
 | cons x xs ih=>
  obtain ⟨v,rfl⟩:=hx 0 _ rfl
  have:=ih fun j d hj=>hx (j+1) d hj
  simp only [us,ints,List.map_cons] at this ⊢
  rw [← this]
def zQ4 (w h:Int):Bool:=decide (1≤w) && decide (1≤h) && decide (w*h≤16777216)
def lenW (w h s:Int):Int:=wrap .i64 (wrap .i64 (wrap .i64 (h - 1)*s)+w)
def zQI (w h s:Int) (n:Nat):Bool:=zQ4 w h && decide (w≤s) && decide (s≤16777216) && decide (lenW w h s≤n)
structure Pl where (w h s:Int) (n:Nat) (xs:List DV)
def Pl.none:Pl:=⟨0,0,0,0,[]⟩
def jYx (w h s:Int) (n:Nat) (x y:Int):Bool:=zQI w h s n && decide (0≤x) && decide (x < w) && decide (0≤y) && decide (y < h)
def atP (w h s:Int) (n:Nat) (xs:List DV) (x y:Int):Int:=if jYx w h s n x y then nAt xs (y*s+x).toNat else 0
def jGN (w h s:Int) (n:Nat) (xs:List DV) (w' h' s':Int) (n':Nat) (xs':List DV):Bool:=decide (w=w') && decide (h=h') && decide (s=s') && decide (n=n') && decide (ints xs=ints xs')
theorem zU8 {w h:Int} (h1:1≤w) (h2:1≤h):(w≤wrap .i64 (Int.tdiv 16777216 h))↔w*h≤16777216:=by
 have hd:Int.tdiv 16777216 h=16777216 / h:=Int.tdiv_eq_ediv_of_nonneg (by omega)
 have h3:(0:Int)≤16777216 / h:=Int.ediv_nonneg (by omega) (by omega)
 have h4:(16777216:Int) / h≤16777216:=Int.ediv_le_self _ (by omega)
 rw [hd,IntWalk.i64_in _ ⟨by omega,by omega⟩,Int.le_ediv_iff_mul_le (by omega)]
theorem zXE {w h:Int} (hf:zQ4 w h=true):1≤w∧1≤h∧w≤16777216∧h≤16777216∧w*h≤16777216:=by
 simp only [zQ4,Bool.and_eq_true,decide_eq_true_eq] at hf
 obtain ⟨⟨h1,h2⟩,h3⟩:=hf
 have e1:w*1≤w*h:=Int.mul_le_mul_of_nonneg_left h2 (by omega)
 have e2:1*h≤w*h:=Int.mul_le_mul_of_nonneg_right h1 (by omega)
 omega
theorem jYt {w h s:Int} (hf:zQ4 w h=true) (h1:w≤s) (h2:s≤16777216):lenW w h s=(h - 1)*s+w∧1≤lenW w h s∧lenW w h s≤562949953421312∧0≤(h - 1)*s:=by
 obtain ⟨a,b,c,d,_⟩:=zXE hf
 have e:=jVe (x:=h - 1) (y:=s) (M:=16777216) (by omega) (by omega) (by omega) (by omega)
 unfold lenW
 rw [IntWalk.i64_in (h - 1) ⟨by omega,by omega⟩,IntWalk.i64_in ((h - 1)*s) ⟨by omega,by omega⟩,IntWalk.i64_in _ ⟨by omega,by omega⟩]
 omega
theorem zY2 {w h s:Int} {n:Nat} (hv:zQI w h s n=true):1≤w∧1≤h∧w≤16777216∧h≤16777216∧w*h≤16777216∧w≤s∧s≤16777216∧(h - 1)*s+w≤n∧0≤(h - 1)*s:=by
 simp only [zQI,Bool.and_eq_true,decide_eq_true_eq] at hv
 obtain ⟨⟨⟨h1,h2⟩,h3⟩,h4⟩:=hv
 obtain ⟨e1,_,_,e4⟩:=jYt h1 h2 h3
 obtain ⟨a,b,c,d,e⟩:=zXE h1
 rw [e1] at h4
 exact ⟨a,b,c,d,e,h2,h3,h4,e4⟩
theorem place {w h s:Int} {n:Nat} {x y:Int} (hv:zQI w h s n=true) (h1:0≤x) (h2:x < w) (h3:0≤y) (h4:y < h):0≤y*s∧y*s+x < n∧y*s+w≤n∧y*s≤281474976710656∧wrap .i64 (y*s)=y*s∧wrap .i64 (y*s+x)=y*s+x:=by
 obtain ⟨a,b,c,d,e,f,g,i,j⟩:=zY2 hv
 have e1:=jVe (x:=y) (y:=s) (M:=16777216) (by omega) (by omega) (by omega) (by omega)
 have e2:y*s≤(h - 1)*s:=Int.mul_le_mul_of_nonneg_right (by omega) (by omega)
 refine ⟨by omega,by omega,by omega,by omega,IntWalk.i64_in _ ⟨by omega,by omega⟩,IntWalk.i64_in _ ⟨by omega,by omega⟩⟩
theorem jJJ {w h s:Int} {l:List Int} (hv:zQI w h s l.length=true):∀ y,y < h.toNat→y*s.toNat+w.toNat≤l.length:=by
 intro y hy
 obtain ⟨a,b,c,d,e,f,g,i,j⟩:=zY2 hv
 obtain ⟨p1,p2,p3,p4,_⟩:=place (x:=0) (y:=(y:Int)) hv (by omega) (by omega) (by omega) (by omega)
 have e1:((y*s.toNat:Nat):Int)=(y:Int)*s:=by rw [Int.natCast_mul,Int.toNat_of_nonneg (by omega)]
 omega
theorem idx {s:Int} {y x:Nat} (hs:0≤s):((y:Int)*s+(x:Int)).toNat=y*s.toNat+x:=by
 have e1:((y*s.toNat:Nat):Int)=(y:Int)*s:=by rw [Int.natCast_mul,Int.toNat_of_nonneg hs]
 omega
theorem at_in {w h s:Int} {l:List Int} (hv:zQI w h s l.length=true) {x y:Nat} (hx:x < w.toNat) (hy:y < h.toNat):l[y*s.toNat+x]?=some (atP w h s l.length (us l) x y):=by
 have hr:=jJJ hv y hy
 obtain ⟨a,b,c,d,e,f,g,i,j⟩:=zY2 hv
 have hi:jYx w h s l.length x y=true:=by simp [jYx,hv]; omega
 have hk:y*s.toNat+x < l.length:=by omega
 have hz:((y:Int)*s+(x:Int)).toNat=y*s.toNat+x:=idx (by omega)
 simp only [atP,hi,if_true,hz,jYP hk,List.getElem?_eq_getElem hk]
theorem zYs {k:Nat} (h:k≤9223372036854775806):wrap .i64 ((k:Int)+1)=((k+1:Nat):Int):=by rw [IntWalk.i64_in _ ⟨by omega,by omega⟩]; omega
theorem w1_:wrap .i64 0=0∧wrap .i64 1=1∧wrap .i64 2=2∧wrap .i64 3=3∧wrap .i64 4=4∧wrap .i64 5=5∧wrap .i64 6=6:=by decide
structure Px where
  a:Int
  b:Int
  c:Int
  al:Int
  f:Int
deriving DecidableEq
def Px.zero:Px:=⟨0,0,0,0,0⟩
def Px.ds (p:Px):List DV:=[.int .u16 p.a,.int .u16 p.b,.int .u16 p.c,.int .u16 p.al,.int .u16 p.f]
def pxs (l:List Px):List DV:=l.flatMap Px.ds
def dI:DV→Int
 | .int _ n=>n
 | _=>0
def zQe:List DV→List Px
 | a::b::c::d::e::r=>⟨dI a,dI b,dI c,dI d,dI e⟩::zQe r
 | _=>[]
theorem zZq:∀ l:List Px,zQe (pxs l)=l
 | []=>rfl
 | p::l=>by
  show zQe (Px.ds p++pxs l)=_
  simp [Px.ds,zQe,dI,zZq l]
theorem zQx (l:List Px):(pxs l).length=l.length*5:=by
 induction l with
 | nil=>rfl
 | cons p l ih=>simp [pxs,Px.ds] at ih ⊢; omega
theorem zUT (p:Px) (l:List Px):pxs (p::l)=Px.ds p++pxs l:=rfl
theorem zYX (l m:List Px):pxs l++pxs m=pxs (l++m):=by simp [pxs]
theorem zJK:∀ {l:List Px} {k:Nat} (h:k < l.length),(pxs l)[k*5]?=some (.int .u16 l[k].a)∧(pxs l)[k*5+1]?=some (.int .u16 l[k].b)∧(pxs l)[k*5+2]?=some (.int .u16 l[k].c)∧(pxs l)[k*5+3]?=some (.int .u16 l[k].al)∧(pxs l)[k*5+4]?=some (.int .u16 l[k].f)
 | p::l,0,_=>by simp [zUT,Px.ds]
 | p::l,k+1,h=>by
  have:=zJK (l:=l) (k:=k) (by simpa using h)
  have e:∀ j,(pxs (p::l))[(k+1)*5+j]?=(pxs l)[k*5+j]?:=fun j=>by
   rw [zUT,List.getElem?_append_right (by simp [Px.ds]; omega)]
   congr 1
   simp [Px.ds]; omega
  have e0:=e 0
  simp only [Nat.add_zero] at e0
  simp only [e,e0,List.getElem_cons_succ]
  exact this
theorem zQU {l:List Px} {k:Nat} (h:k < l.length):nAt (pxs l) (k*5)=l[k].a∧nAt (pxs l) (k*5+1)=l[k].b∧nAt (pxs l) (k*5+2)=l[k].c∧nAt (pxs l) (k*5+3)=l[k].al∧nAt (pxs l) (k*5+4)=l[k].f:=by
 obtain ⟨h1,h2,h3,h4,h5⟩:=zJK h
 simp [nAt,h1,h2,h3,h4,h5]
theorem zUS (l:List Px) (k:Nat):(pxs l).take (k*5)=pxs (l.take k):=by
 induction k generalizing l with
 | zero=>simp [pxs]
 | succ k ih=>
  cases l with
  | nil=>simp [pxs]
  | cons p l=>
   rw [List.take_succ_cons,zUT,zUT,List.take_append,← ih]
   simp [Px.ds,show (k+1)*5=k*5+5 from by omega]
def jXQ (n:Nat) (xs:List DV):Prop:=xs=pxs (zQe xs)∧n=(zQe xs).length
theorem jXQ.of {n:Nat} {xs:List DV} (h:jXQ n xs):∃ l:List Px,xs=pxs l∧n=l.length:=⟨zQe xs,h.1,h.2⟩
theorem jXd (l:List Px):jXQ l.length (pxs l):=⟨by rw [zZq],by rw [zZq]⟩
structure Im where
  w:Int
  h:Int
  so:Bool
  c:Px
  p0:Pl
  p1:Pl
  p2:Pl
  p3:Pl
  p4:Pl
def Im.zero:Im:=⟨0,0,false,.zero,.none,.none,.none,.none,.none⟩
def Pl.isU (p:Pl):Prop:=IsU p.n p.xs
def Im.isU (m:Im):Prop:=m.p0.isU∧m.p1.isU∧m.p2.isU∧m.p3.isU∧m.p4.isU
def zZc (p:Pl):Bool:=decide (p.w=0) && decide (p.h=0) && decide (p.s=0) && decide (p.n=0)
def okPl (so:Bool) (w h:Int) (p:Pl):Bool:=if so then zZc p else zQI p.w p.h p.s p.n && decide (p.w=w) && decide (p.h=h)
def Im.inner (m:Im):Bool:=(m.so || decide (m.c=Px.zero)) && (okPl m.so m.w m.h m.p0 && (okPl m.so m.w m.h m.p1 && (okPl m.so m.w m.h m.p2 && (okPl m.so m.w m.h m.p3 && okPl m.so m.w m.h m.p4))))
def Im.formed (m:Im):Bool:=zQ4 m.w m.h && m.inner
def Pl.at_ (p:Pl) (x y:Int):Int:=nAt p.xs (y*p.s+x).toNat
def Im.px (m:Im) (x y:Int):Px:=if m.so then m.c else ⟨m.p0.at_ x y,m.p1.at_ x y,m.p2.at_ x y,m.p3.at_ x y,m.p4.at_ x y⟩
def Px.ok (p:Px) (most:Int):Bool:=decide (p.a≤p.al) && (decide (p.b≤p.al) && (decide (p.c≤p.al) && (decide (p.al≤p.f) && decide (p.f≤most))))
def Im.nth (m:Im) (k:Nat):Px:=m.px ((k % m.w.toNat:Nat):Int) ((k / m.w.toNat:Nat):Int)
def Im.count (m:Im):Nat:=m.w.toNat*m.h.toNat
def Im.okTo (m:Im) (most:Int) (k:Nat):Bool:=(List.range k).all fun i=>(m.nth i).ok most
def Im.valid (m:Im) (most:Int):Int:=
 if zQ4 m.w m.h=false then 6 else if m.inner=false then 7 else if m.so then (if m.c.ok most then 0 else 8) else if m.okTo most m.count then 0 else 8
def Im.shape (m:Im):Int:=if zQ4 m.w m.h=false then 6 else if m.inner=false then 7 else 0
def Im.list (m:Im) (k:Nat):List Px:=(List.range k).map m.nth
def Im.pixels (m:Im):List Px:=if m.formed then m.list m.count else []
def Im.at_ (m:Im) (x y:Int):Px:=if m.formed && decide (0≤x) && decide (x < m.w) && decide (0≤y) && decide (y < m.h) then m.px x y else .zero
def zQd (w h:Int) (c:Px):Im:=⟨w,h,true,c,.none,.none,.none,.none,.none⟩
def chan (l:List Px) (g:Px→Int):List DV:=us (l.map g)
def ofIm (w h:Int) (l:List Px):Im:=
 let q (g:Px→Int):Pl:=⟨w,h,w,l.length,chan l g⟩
 ⟨w,h,false,.zero,q Px.a,q Px.b,q Px.c,q Px.al,q Px.f⟩
def ofOk (w h:Int) (n:Nat):Bool:=zQ4 w h && decide ((n:Int)=w*h)
def imOf (w h:Int) (l:List Px):Im:=if ofOk w h l.length then ofIm w h l else .zero
def Im.equal (m n:Im):Bool:=m.formed && n.formed && decide (m.w=n.w) && decide (m.h=n.h) && decide (m.pixels=n.pixels)
theorem zYn {w h s:Int} {n:Nat} {xs:List DV} (hu:IsU n xs) (hv:zQI w h s n=true) {x y:Int} (hx:0≤x∧x < w) (hy:0≤y∧y < h) :
  wrap .i64 (wrap .i64 (y*s)+x)=y*s+x∧(0≤y*s+x∧y*s+x < n∧(y*s+x).toNat*1 < xs.length)∧xs[(y*s+x).toNat*1]?=some (.int .u16 (nAt xs ((y*s+x).toNat*1))):=by
 obtain ⟨l,rfl,rfl⟩:=hu.of
 have hp:=place hv hx.1 hx.2 hy.1 hy.2
 have hf:=zY2 hv
 have h1:0≤y*s:=hp.1
 have h2:y*s+x < l.length:=by exact_mod_cast hp.2.1
 have hy16:y≤16777216:=by omega
 have hs16:s≤16777216:=by omega
 have hb:y*s≤281474976710656:=by
  have:=Int.mul_le_mul hy16 hs16 (by omega) (by omega)
  omega
 have w1:wrap .i64 (y*s)=y*s:=IntWalk.i64_in _ ⟨by omega,by omega⟩
 have w2:wrap .i64 (y*s+x)=y*s+x:=IntWalk.i64_in _ ⟨by omega,by omega⟩
 rw [w1,w2]
 have hk:(y*s+x).toNat*1 < l.length:=by omega
 refine ⟨rfl,⟨by omega,h2,by rw [zKx]; exact hk⟩,?_⟩
 rw [jGj hk,jYP hk]
theorem Im.inner_planes {m:Im} (h:m.inner=true) (hs:m.so=false):m.c=Px.zero∧(zQI m.p0.w m.p0.h m.p0.s m.p0.n=true∧m.p0.w=m.w∧m.p0.h=m.h)∧(zQI m.p1.w m.p1.h m.p1.s m.p1.n=true∧m.p1.w=m.w∧m.p1.h=m.h) ∧
  (zQI m.p2.w m.p2.h m.p2.s m.p2.n=true∧m.p2.w=m.w∧m.p2.h=m.h)∧(zQI m.p3.w m.p3.h m.p3.s m.p3.n=true∧m.p3.w=m.w∧m.p3.h=m.h)∧(zQI m.p4.w m.p4.h m.p4.s m.p4.n=true∧m.p4.w=m.w∧m.p4.h=m.h):=by
 simp [Im.inner,okPl,hs] at h
 grind
theorem Im.okTo_succ (m:Im) (most:Int) (k:Nat):m.okTo most (k+1)=(m.okTo most k && (m.nth k).ok most):=by
 simp [Im.okTo,List.range_succ,List.all_append]
theorem Im.okTo_le {m:Im} {most:Int} {k n:Nat} (h:k≤n) (hn:m.okTo most n=true):m.okTo most k=true:=by
 simp only [Im.okTo,List.all_eq_true,List.mem_range] at hn ⊢
 exact fun i hi=>hn i (by omega)
theorem Im.shape_zero {m:Im} (h:m.shape=0):zQ4 m.w m.h=true∧m.inner=true:=by
 unfold Im.shape at h
 split at h
 ·cases h
 ·split at h
  ·cases h
  ·simp_all
theorem Im.valid_shape {m:Im} (most:Int) (h:m.shape≠0):m.valid most=m.shape:=by
 unfold Im.shape at h ⊢
 unfold Im.valid
 split
 ·rfl
 ·rename_i h1
  rw [if_neg h1] at h
  split
  ·rfl
  ·rename_i h2
   rw [if_neg h2] at h
   exact absurd rfl h
theorem Im.valid_solid {m:Im} {most:Int} (h:m.shape=0) (hs:m.so=true):m.valid most=if m.c.ok most then 0 else 8:=by
 obtain ⟨h1,h2⟩:=Im.shape_zero h
 simp [Im.valid,h1,h2,hs]
theorem Im.valid_planes {m:Im} {most:Int} (h:m.shape=0) (hs:m.so=false):m.valid most=if m.okTo most (m.w.toNat*m.h.toNat) then 0 else 8:=by
 obtain ⟨h1,h2⟩:=Im.shape_zero h
 unfold Im.valid Im.count
 rw [if_neg (by simp [h1]),if_neg (by simp [h2]),if_neg (by simp [hs])]
theorem Im.nth_in {m:Im} (hf:zQ4 m.w m.h=true) {k:Nat} (hk:k < m.w.toNat*m.h.toNat):(0≤(((k % m.w.toNat:Nat)):Int)∧(((k % m.w.toNat:Nat)):Int) < m.w)∧(0≤(((k / m.w.toNat:Nat)):Int)∧(((k / m.w.toNat:Nat)):Int) < m.h):=by
 obtain ⟨a,b,c,d,e⟩:=zXE hf
 have h1:=Nat.mod_lt k (show 0 < m.w.toNat by omega)
 have h2:k / m.w.toNat < m.h.toNat:=Nat.div_lt_of_lt_mul hk
 generalize k % m.w.toNat=q at *
 generalize k / m.w.toNat=r at *
 omega
theorem Im.count_le {m:Im} (hf:zQ4 m.w m.h=true):m.w.toNat*m.h.toNat≤16777216∧((m.w.toNat*m.h.toNat:Nat):Int)=m.w*m.h:=by
 obtain ⟨a,b,c,d,e⟩:=zXE hf
 have:((m.w.toNat*m.h.toNat:Nat):Int)=m.w*m.h:=by
  rw [Int.natCast_mul,Int.toNat_of_nonneg (by omega),Int.toNat_of_nonneg (by omega)]
 exact ⟨by omega,this⟩
theorem jWB {w h:Int} (hf:zQ4 w h=true) (k:Nat) (hk:k < w.toNat*h.toNat):[DV.int .i64 ((k % w.toNat:Nat):Int),DV.int .i64 ((k / w.toNat:Nat):Int)].length=2∧zWa [DV.int .i64 ((k % w.toNat:Nat):Int),DV.int .i64 ((k / w.toNat:Nat):Int)]:=by
 obtain ⟨a,b,c,d,e⟩:=zXE hf
 obtain ⟨⟨h1,h2⟩,h3,h4⟩:=Im.nth_in (m:=⟨w,h,true,.zero,.none,.none,.none,.none,.none⟩) hf hk
 have m1:IntKind.min .i64 = -9223372036854775808:=rfl
 have m2:IntKind.max .i64=9223372036854775807:=rfl
 simp only at h1 h2 h3 h4
 generalize k % w.toNat=q at *
 generalize k / w.toNat=r at *
 refine ⟨rfl,⟨?_,?_⟩,⟨?_,?_⟩,trivial⟩ <;> (first | rw [m1] | rw [m2]) <;> omega
theorem Im.list_len (m:Im) (k:Nat):(m.list k).length=k:=by simp [Im.list]
theorem Im.formed_of {m:Im} (h:m.formed=true):zQ4 m.w m.h=true∧m.inner=true:=by simpa [Im.formed] using h
theorem Im.pixels_of {m:Im} (h:m.formed=true):m.pixels=m.list (m.w.toNat*m.h.toNat):=by simp [Im.pixels,h,Im.count]
theorem Im.at_in {m:Im} {x y:Int} (h:m.formed=true) (hx:0≤x∧x < m.w) (hy:0≤y∧y < m.h):m.at_ x y=m.px x y:=by
 simp [Im.at_,h,hx,hy]
theorem Im.at_out {m:Im} {x y:Int} (h:m.formed=false∨x < 0∨m.w≤x∨y < 0∨m.h≤y):m.at_ x y=Px.zero:=by
 unfold Im.at_
 rw [if_neg]
 simp
 intro h1 h2 h3 h4
 rcases h with h | h | h | h | h
 ·rw [h] at h1; cases h1
 all_goals omega
def jZC (p q:Pl):Bool:=jGN p.w p.h p.s p.n p.xs q.w q.h q.s q.n q.xs
def Im.same (m n:Im):Bool:=jZC m.p0 n.p0 && (jZC m.p1 n.p1 && (jZC m.p2 n.p2 && (jZC m.p3 n.p3 && (jZC m.p4 n.p4 && (decide (m.w=n.w) && (decide (m.h=n.h) && ((m.so==n.so) && decide (m.c=n.c))))))))
def zQh (l:List Px) (g:Px→Int) (k:Nat):List DV:=us ((l.take k).map g)++List.replicate (l.length - k) (.int .u16 0)
theorem zVd {l:List Px} {g:Px→Int} {k:Nat} (h:k≤l.length):(zQh l g k).length=l.length:=by
 unfold zQh
 rw [List.length_append,zKx,List.length_map,List.length_take,List.length_replicate]; omega
theorem zXS (l:List Px) (g:Px→Int):zQh l g 0=List.replicate l.length (.int .u16 0):=by simp [zQh,us]
theorem zVe (l:List Px) (g:Px→Int):zQh l g l.length=chan l g:=by simp [zQh,chan]
theorem zY0 {l:List Px} {g:Px→Int} {k:Nat} (h:k < l.length) {v:Int} (hv:v=g l[k]):(zQh l g k).set k (.int .u16 v)=zQh l g (k+1):=by
 subst hv
 have hl:(us ((l.take k).map g)).length=k:=by rw [zKx,List.length_map,List.length_take]; omega
 unfold zQh
 rw [List.set_append_right _ _ (by omega),hl,Nat.sub_self,show l.length - k=(l.length - (k+1))+1 by omega,List.replicate_succ,List.set_cons_zero,List.take_add_one,List.getElem?_eq_getElem h,Option.toList_some,List.map_append,← jKs]
 simp [us]
theorem zJu {l:List Px} {k j:Nat} (h:k < l.length) (hj:j < 5):(pxs l)[k*5+j]?=some (.int .u16 (nAt (pxs l) (k*5+j))):=by
 obtain ⟨a0,a1,a2,a3,a4⟩:=zJK h
 obtain ⟨b0,b1,b2,b3,b4⟩:=zQU h
 match j,hj with
 | 0,_=>rw [Nat.add_zero,a0,b0]
 | 1,_=>rw [a1,b1]
 | 2,_=>rw [a2,b2]
 | 3,_=>rw [a3,b3]
 | 4,_=>rw [a4,b4]
theorem jY7 {l:List Px} {k:Nat} (h:k < l.length):(pxs l)[k*5]?=some (.int .u16 (nAt (pxs l) (k*5))):=zJu (j:=0) h (by omega)
theorem zVr {l:List Px} {g:Px→Int} {k:Nat} (hlt:(k:Int) < (l.length:Int)) (hb:l.length≤16777216) {v:Int} (hv:∀ h:k < l.length,v=g l[k]) :
  ∃ k':Nat,k'≤l.length∧l.length - k' < l.length - k∧wrap .i64 ((k:Int)+1)=(k':Int)∧(zQh l g k).set (k*1) (.int .u16 v)=zQh l g k':=
 have h:k < l.length:=by omega
 ⟨k+1,by omega,by omega,zYs (by omega),by rw [Nat.mul_one]; exact zY0 h (hv h)⟩
theorem jK9 {l:List Px} {k:Nat} (hlt:(k:Int) < (l.length:Int)) (hb:l.length≤16777216) {v1 v2 v3 v4 v5:Int} (h1:∀ h:k < l.length,v1=l[k].a) (h2:∀ h:k < l.length,v2=l[k].b) (h3:∀ h:k < l.length,v3=l[k].c) (h4:∀ h:k < l.length,v4=l[k].al) (h5:∀ h:k < l.length,v5=l[k].f) :
  ∃ k':Nat,k'≤l.length∧l.length - k' < l.length - k∧wrap .i64 ((k:Int)+1)=(k':Int)∧(zQh l Px.a k).set (k*1) (.int .u16 v1)=zQh l Px.a k'∧(zQh l Px.b k).set (k*1) (.int .u16 v2)=zQh l Px.b k'∧(zQh l Px.c k).set (k*1) (.int .u16 v3)=zQh l Px.c k'∧(zQh l Px.al k).set (k*1) (.int .u16 v4)=zQh l Px.al k'∧(zQh l Px.f k).set (k*1) (.int .u16 v5)=zQh l Px.f k':=
 have h:k < l.length:=by omega
 ⟨k+1,by omega,by omega,zYs (by omega),by rw [Nat.mul_one]; exact zY0 h (h1 h),by rw [Nat.mul_one]; exact zY0 h (h2 h),by rw [Nat.mul_one]; exact zY0 h (h3 h),by rw [Nat.mul_one]; exact zY0 h (h4 h),by rw [Nat.mul_one]; exact zY0 h (h5 h)⟩
theorem jWw {l:List Px} {g:Px→Int} {k:Nat} (hk:k≤l.length) (hge:¬ (k:Int) < (l.length:Int)):zQh l g k=zQh l g l.length:=by
 rw [show k=l.length by omega]
theorem zU2 (l:List Int):∀ d∈us l,d.flat=true:=by
 intro d hd
 simp only [us,List.mem_map] at hd
 obtain ⟨v,_,rfl⟩:=hd
 rfl
theorem zVI {w h:Int} {l:List Px} (hk:ofOk w h l.length=true):imOf w h l=ofIm w h l:=by simp [imOf,hk]
theorem zGQ {w h:Int} {l:List Px} (hk:ofOk w h l.length=false):imOf w h l=Im.zero:=by simp [imOf,hk]
theorem jVq (w h:Int) (l:List Px):(∀ d∈(imOf w h l).p0.xs,d.flat=true)∧(∀ d∈(imOf w h l).p1.xs,d.flat=true)∧(∀ d∈(imOf w h l).p2.xs,d.flat=true)∧(∀ d∈(imOf w h l).p3.xs,d.flat=true)∧(∀ d∈(imOf w h l).p4.xs,d.flat=true):=by
 cases hk:ofOk w h l.length with
 | true=>rw [zVI hk]; exact ⟨zU2 _,zU2 _,zU2 _,zU2 _,zU2 _⟩
 | false=>rw [zGQ hk]; simp [Im.zero,Pl.none]
theorem jQb (w h:Int) (l:List Px):(∀ d∈(imOf w h l).p0.xs,d.flat=true)=True∧(∀ d∈(imOf w h l).p1.xs,d.flat=true)=True∧(∀ d∈(imOf w h l).p2.xs,d.flat=true)=True∧(∀ d∈(imOf w h l).p3.xs,d.flat=true)=True∧(∀ d∈(imOf w h l).p4.xs,d.flat=true)=True:=by
 obtain ⟨a,b,c,d,e⟩:=jVq w h l
 exact ⟨eq_true a,eq_true b,eq_true c,eq_true d,eq_true e⟩
def gMax (n:Int):Int:=if modS n 3=2 then 65535 else 255
def zQN (n most:Int):Int:=
 if modS n 8=0 then 0
 else if modS n 8=1∨modS n 8=2 then most
 else if modS n 8=3 then wrap .u16 (wrap .i64 (Int.tdiv (wrap .i64 (wrap .i64 most+modS (wrap .i64 (Int.tdiv n 8)) 2)) 2))
 else if modS n 8=4 then wrap .u16 (min (wrap .i64 most) (modS (wrap .i64 (Int.tdiv n 8)) 4))
 else wrap .u16 (modS (wrap .i64 (Int.tdiv n 8)) (wrap .i64 (wrap .i64 most+1)))
def zZI (n0 n1 n2 n3 n4 most:Int):Px:=
 let f:=zQN n4 most
 let a:=if 0 < modS n3 3 then zQN (wrap .i64 (Int.tdiv n3 3)) f else f
 ⟨zQN n0 a,zQN n1 a,zQN n2 a,a,f⟩
def gNum (L:Nat) (xs:List DV) (k j:Nat):Int:=if 0 < L then nAt xs (k % L*5+j) else 0
def gPx1 (L:Nat) (xs:List DV) (most:Int) (k:Nat):Px:=zZI (gNum L xs k 0) (gNum L xs k 1) (gNum L xs k 2) (gNum L xs k 3) (gNum L xs k 4) most
def gPx (mood:Int) (L:Nat) (xs:List DV) (most:Int) (k:Nat):Px:=
 if modS mood 6=0 then .zero
 else if modS mood 6=1 then let p:=gPx1 L xs most k; ⟨p.a,p.b,p.c,most,most⟩
 else if modS mood 6=2 then gPx1 L xs most 0
 else gPx1 L xs most k
def zQq (mood:Int) (L:Nat) (xs:List DV) (most:Int) (n:Nat):List Px:=(List.range n).map (gPx mood L xs most)
theorem zXk (mood:Int) (L:Nat) (xs:List DV) (most:Int) (n:Nat):(zQq mood L xs most n).length=n:=by simp [zQq]
theorem jXs (mood:Int) (L:Nat) (xs:List DV) (most:Int) (n:Nat):zQq mood L xs most (n+1)=zQq mood L xs most n++[gPx mood L xs most n]:=by simp [zQq,List.range_succ]
theorem jWk (l:List Px) (p:Px):pxs (l++[p])=pxs l++Px.ds p:=by simp [pxs]
def Is5 (L:Nat) (xs:List DV):Prop:=xs.length=L*5∧∀ i,i < L*5→xs[i]?=some (.int .i64 (nAt xs i))
theorem jUZ {mood:Int} {L:Nat} {xs:List DV} {most:Int} {n:Nat} (hn:0 < n) (hm:modS mood 6=2):∃ h:0 < (zQq mood L xs most n).length,(zQq mood L xs most n)[0]=gPx1 L xs most 0:=by
 refine ⟨by rw [zXk]; exact hn,?_⟩
 simp [zQq,gPx,hm]
theorem zKo {mood:Int} {L:Nat} {xs:List DV} {most:Int} {k:Nat} (hk:0 < k) (j:Nat) (hj:j < 5):(pxs (zQq mood L xs most k))[j]?=some (.int .u16 (nAt (pxs (zQq mood L xs most k)) j)):=by
 have h:=zJu (l:=zQq mood L xs most k) (k:=0) (j:=j) (by rw [zXk]; exact hk) hj
 rw [Nat.zero_mul,Nat.zero_add] at h
 exact h
theorem jZc {mood:Int} {L:Nat} {xs:List DV} {most:Int} {k:Nat} (hk:0 < k) (hm:modS mood 6=2):nAt (pxs (zQq mood L xs most k)) 0=(gPx1 L xs most 0).a∧nAt (pxs (zQq mood L xs most k)) 1=(gPx1 L xs most 0).b∧nAt (pxs (zQq mood L xs most k)) 2=(gPx1 L xs most 0).c∧nAt (pxs (zQq mood L xs most k)) 3=(gPx1 L xs most 0).al∧nAt (pxs (zQq mood L xs most k)) 4=(gPx1 L xs most 0).f:=by
 obtain ⟨h,e⟩:=jUZ (mood:=mood) (L:=L) (xs:=xs) (most:=most) hk hm
 have:=zQU h
 rw [e] at this
 simpa only [Nat.zero_mul,Nat.zero_add] using this
theorem jXr {mood:Int} {L:Nat} {xs:List DV} {most:Int} {n k:Nat} (hk:k < n) (hn:n≤16777216) {cs:List DV} (hc:cs=Px.ds (gPx mood L xs most k)) :
  ∃ k':Nat,k'≤n∧n - k' < n - k∧(k+1=k'∧wrap .i64 ((k:Int)+1)=(k':Int))∧pxs (zQq mood L xs most k)++cs=pxs (zQq mood L xs most k'):=
 ⟨k+1,by omega,by omega,⟨rfl,zYs (by omega)⟩,by rw [jXs,jWk,hc]⟩
section
open Go.ChangeShapes
open Go.WideShapes
def Rd (P:Program) (w:World):Nat→TypeId→List Value→Prop
 | 0,_,_=>False
 | fuel+1,t,cs=>
  match P.underlying t with
  | some .bool=>∃ b,cs=[.bool b]
  | some (.int k)=>∃ n,cs=[.int k n]∧(Lit.int k n).wf=true
  | some .string=>∃ s,cs=[.string s]∧s.size≤reachBytes
  | some (.slice e)=>cs=[.slice none 0 0]∨∃ a len cap,cs=[.slice (some a) len cap]∧len≤cap∧cap≤maxLen∧cap*P.bytesOf e≤reachBytes ∧
    ∀ i,i < cap→∃ cs',w.cells? 0 (a.add (i*P.cellsOf e)) (P.cellsOf e)=some cs'∧Rd P w fuel e cs'
  | some (.struct fs)=>cs.length=P.cellsOf t∧∀ f∈fs.toList,Rd P w fuel f.type ((cs.drop f.offset).take (P.cellsOf f.type))
  | some (.array n e)=>cs.length=P.cellsOf t∧∀ i,i < n→Rd P w fuel e ((cs.drop (i*P.cellsOf e)).take (P.cellsOf e))
  | _=>True
section
variable {H:Type} {enc:TypeId × Value→H} {P:Program} {w:World}
theorem zYM {e:TypeId} {n:Nat}:∀ {l:List (DataW H)} {d:DataW H},d∈l→n∈d.weights P e→n∈DataW.weightsAll P e l
 | x::r,d,hd,hn=>by
  simp only [DataW.weightsAll,List.mem_append]
  rcases List.mem_cons.1 hd with rfl | h
  ·exact .inl hn
  ·exact .inr (zYM h hn)
theorem zVl {n:Nat}:∀ {ts:List TypeId} {ds:List (DataW H)} {i:Nat} {t:TypeId} {d:DataW H},ts[i]?=some t→ds[i]?=some d→n∈d.weights P t→n∈DataW.weightsEach P ts ds
 | t::ts,d::ds,0,_,_,ht,hd,hn=>by
  simp at ht hd; subst ht hd
  simp only [DataW.weightsEach,List.mem_append]
  exact .inl hn
 | t::ts,d::ds,i+1,_,_,ht,hd,hn=>by
  simp only [DataW.weightsEach,List.mem_append]
  exact .inr (zVl (by simpa using ht) (by simpa using hd) hn)
 | [],_,_,_,_,ht,_,_=>by simp at ht
 | _::_,[],_,_,_,_,hd,_=>by simp at hd
theorem jJV:∀ (fuel:Nat) (t:TypeId) (cs:List Value) (d:DataW H) (ps:List MemPlace),
  DataW.trod enc P w 0 (fun _=>true) true fuel t cs=some (d,ps)→(∀ n∈d.weights P t,n≤reachBytes)→Rd P w fuel t cs:=by
 intro fuel
 induction fuel with
 | zero=>intro t cs d ps h; simp [DataW.trod] at h
 | succ fuel ih=>
  intro t cs d ps h hw
  unfold DataW.trod at h
  unfold Rd
  split at h
  ·rename_i b hu; simp only [hu]; exact ⟨_,rfl⟩
  ·rename_i k k' n hu
   simp only [hu]
   split at h
   ·rename_i hk; obtain ⟨rfl,hwf⟩:=hk; exact ⟨_,rfl,hwf⟩
   ·cases h
  ·rename_i hu; simp only [hu]
  ·rename_i s hu
   simp only [hu]
   split at h
   ·simp only [Option.some.injEq,Prod.mk.injEq] at h
    obtain ⟨rfl,_⟩:=h
    exact ⟨_,rfl,by have:=hw s.data.toList.length (List.mem_singleton.2 rfl); rw [Array.length_toList] at this; exact this⟩
   ·cases h
  ·rename_i hu; simp only [hu]
  ·rename_i hu; simp only [hu]
  ·rename_i hu; simp only [hu]; exact .inl trivial
  ·rename_i e a len cap hu
   simp only [hu]
   split at h
   ·rename_i hc
    obtain ⟨_,hl,hm⟩:=hc
    simp only [if_true] at h
    obtain ⟨elems,he,h⟩:=Option.bind_eq_some_iff.1 h
    obtain ⟨rest,hr,h⟩:=Option.map_eq_some_iff.1 h
    simp only [Prod.mk.injEq] at h
    obtain ⟨rfl,_⟩:=h
    have le:=mapM_some_length he
    have lr:=mapM_some_length hr
    simp only [List.length_range] at le lr
    have hwt:DataW.weights P t (.slice (elems.map (·.1)) (rest.map (·.1)))=((elems.map (·.1)).length+(rest.map (·.1)).length)*P.bytesOf e::(DataW.weightsAll P e (elems.map (·.1))++DataW.weightsAll P e (rest.map (·.1))):=by
     simp only [DataW.weights,hu]
    rw [hwt] at hw
    refine .inr ⟨a,len,cap,rfl,hl,hm,?_,?_⟩
    ·have:=hw _ (.head _)
     simp only [List.length_map,le,lr] at this
     rwa [show len+(cap - len)=cap from by omega] at this
    ·have key:∀ (i:Nat) (x:DataW H × List MemPlace),((w.cells? 0 (a.add (i*P.cellsOf e)) (P.cellsOf e)).bind (DataW.trod enc P w 0 (fun _=>true) true fuel e))=some x→(∀ n∈x.1.weights P e,n≤reachBytes) →
       ∃ cs',w.cells? 0 (a.add (i*P.cellsOf e)) (P.cellsOf e)=some cs'∧Rd P w fuel e cs':=by
      intro i x hx hxw
      obtain ⟨cs',h1,h2⟩:=Option.bind_eq_some_iff.1 hx
      exact ⟨cs',h1,ih e cs' x.1 x.2 h2 hxw⟩
     intro i hi
     rcases Nat.lt_or_ge i len with hlt | hge
     ·have hx:elems[i]?=some (elems[i]'(by omega)):=List.getElem?_eq_getElem (by omega)
      have h1:=mapM_some_get he i i (by simp [hlt])
      rw [hx] at h1
      refine key i _ h1 fun n hn=>hw n (.tail _ (List.mem_append.2 (.inl (zYM (List.mem_map.2 ⟨_,List.getElem_mem (by omega),rfl⟩) hn))))
     ·have hx:rest[i - len]?=some (rest[i - len]'(by omega)):=List.getElem?_eq_getElem (by omega)
      have h1:=mapM_some_get hr (i - len) (i - len) (List.getElem?_range (by omega))
      rw [hx,show len+(i - len)=i from by omega] at h1
      refine key i _ h1 fun n hn=>hw n (.tail _ (List.mem_append.2 (.inr (zYM (List.mem_map.2 ⟨_,List.getElem_mem (by omega),rfl⟩) hn))))
   ·cases h
  ·rename_i fs hu
   simp only [hu]
   split at h
   ·rename_i hlen
    obtain ⟨xs,hxs,h⟩:=Option.map_eq_some_iff.1 h
    simp only [Prod.mk.injEq] at h
    obtain ⟨rfl,_⟩:=h
    refine ⟨hlen,fun f hf=>?_⟩
    obtain ⟨i,hi,rfl⟩:=List.getElem_of_mem hf
    have hl:=mapM_some_length hxs
    have hx:xs[i]?=some (xs[i]'(by omega)):=List.getElem?_eq_getElem (by omega)
    have h1:=mapM_some_get hxs i _ (List.getElem?_eq_getElem hi)
    rw [hx] at h1
    refine ih _ _ _ _ h1 fun n hn=>hw n ?_
    simp only [DataW.weights,hu]
    exact zVl (i:=i) (by rw [List.getElem?_map,List.getElem?_eq_getElem hi]; rfl) (by rw [List.getElem?_map,hx]; rfl) hn
   ·cases h
  ·rename_i n e hu
   simp only [hu]
   split at h
   ·rename_i hlen
    obtain ⟨xs,hxs,h⟩:=Option.map_eq_some_iff.1 h
    simp only [Prod.mk.injEq] at h
    obtain ⟨rfl,_⟩:=h
    refine ⟨hlen,fun i hi=>?_⟩
    have hl:=mapM_some_length hxs
    simp only [List.length_range] at hl
    have hx:xs[i]?=some (xs[i]'(by omega)):=List.getElem?_eq_getElem (by omega)
    have h1:=mapM_some_get hxs i i (by simp [hi])
    rw [hx] at h1
    refine ih _ _ _ _ h1 fun n hn=>hw n ?_
    simp only [DataW.weights,hu]
    exact zYM (List.mem_map.2 ⟨_,List.getElem_mem (by omega),rfl⟩) hn
   ·cases h
  all_goals first | (cases h; done) | (rename_i hu; simp only [hu])
end
def Arg (P:Program) (w:World) (t:TypeId) (v:Value):Prop:=
 (∃ fuel,Rd P w fuel t v.cells.toList) ∧
  match P.underlying t with
  | some (.struct _) | some (.array _ _)=>∃ cs,v=.agg cs
  | _=>v.cells=#[v]
def Args (P:Program) (w:World):List TypeId→List Value→Prop
 | [],[]=>True
 | t::ts,v::vs=>Arg P w t v∧Args P w ts vs
 | _,_=>False
theorem zG8 {P:Program} {w:World} {r:Reach} {base:Nat} {t:TypeId} {v:Value} (h:Value.okWide P w r base t v) :
  match P.underlying t with
  | some (.struct _) | some (.array _ _)=>∃ cs,v=.agg cs
  | _=>v.cells=#[v]:=by
 unfold Value.okWide at h
 split
 ·rename_i hu
  simp only [hu] at h
  obtain ⟨cs,rfl,_⟩:=h
  exact ⟨_,rfl⟩
 ·rename_i hu
  simp only [hu] at h
  obtain ⟨cs,rfl,_⟩:=h
  exact ⟨_,rfl⟩
 ·rename_i h1 h2
  have h':Cell.okWide P w r base t v:=by
   split at h
   ·rename_i hu; exact absurd hu (by intro e; exact h1 _ e)
   ·rename_i hu; exact absurd hu (by intro e; exact h2 _ _ e)
   ·exact h
  cases v with
  | agg cs=>
   exfalso
   unfold Cell.okWide at h'
   split at h' <;> first | (rename_i hv; cases hv; done) | skip
   unfold Cell.ok at h'
   split at h' <;> first | (rename_i hv; cases hv; done) | exact h'
  | _=>rfl
section
variable {H:Type} {enc:TypeId × Value→H}
theorem zKV {P:Program} {w:World}:∀ {ts:List TypeId} {vs:List Value} {ds:List (DataW H)} {ps:List MemPlace},DataW.TrodAll enc P w 0 (fun _=>true) true ts vs ds ps →
  (∀ n∈DataW.weightsEach P ts ds,n≤reachBytes) →
  (∀ (j:Nat) t v,ts[j]?=some t→vs[j]?=some v→match P.underlying t with | some (.struct _) | some (.array _ _)=>∃ cs,v=.agg cs | _=>v.cells=#[v])→Args P w ts vs∧ds.length=ts.length
 | [],[],[],_,_,_,_=>⟨trivial,rfl⟩
 | t::ts,v::vs,d::ds,_,h,hw,hv=>by
  obtain ⟨p,q,⟨fuel,hf⟩,hr,_⟩:=h
  have hrest:=zKV hr (fun n hn=>hw n (by simp only [DataW.weightsEach,List.mem_append]; exact .inr hn)) (fun j t v ht hv'=>hv (j+1) t v (by simpa using ht) (by simpa using hv'))
  exact ⟨⟨⟨⟨fuel,jJV fuel t _ d p hf (fun n hn=>hw n (by simp only [DataW.weightsEach,List.mem_append]; exact .inl hn))⟩,hv 0 t v rfl rfl⟩,hrest.1⟩,by simp [hrest.2]⟩
 | [],[],_::_,_,h,_,_=>h.elim
 | [],_::_,_,_,h,_,_=>h.elim
 | _::_,[],_,_,h,_,_=>h.elim
 | _::_,_::_,[],_,h,_,_=>h.elim
theorem zVX {P:Program} (laid:laidOutB P=true) {W W':World} (hb:Below W.heap.size W W'):∀ {ts:List TypeId} {vs:List Value} {ds:List (DataW H)} {ps:List MemPlace},
  (∀ t∈ts,P.readableRec t=true∧t < P.types.size)→DataW.TrodAll enc P W 0 (fun _=>true) true ts vs ds ps→DataW.TrodAll enc P W' 0 (fun b=>decide (b < W.heap.size)) true ts vs ds ps
 | [],[],[],_,_,h=>h
 | t::ts,v::vs,d::ds,_,hr,h=>by
  obtain ⟨p,q,hd,hrest,rfl⟩:=h
  have hlt:∀ x∈p,x.block < W.heap.size:=by obtain ⟨m,hm⟩:=hd; exact DataW.trod_lt m _ _ _ hm
  exact ⟨p,q,Below.trod laid (hr t (.head _)).1 (hr t (.head _)).2 hd hb hlt,zVX laid hb (fun t' ht'=>hr t' (.tail _ ht')) hrest,rfl⟩
 | [],[],_::_,_,_,h=>h.elim
 | [],_::_,_,_,_,h=>h.elim
 | _::_,[],_,_,_,h=>h.elim
 | _::_,_::_,[],_,_,h=>h.elim
end
section
variable {P:Program} {w:World} {fuel:Nat} {t:TypeId} {cs:List Value}
theorem Rd.int {k:IntKind} (hu:P.underlying t=some (.int k)) (h:Rd P w fuel t cs):∃ n,cs=[.int k n]∧(Lit.int k n).wf=true:=by
 cases fuel with
 | zero=>exact h.elim
 | succ fuel=>unfold Rd at h; simp only [hu] at h; exact h
theorem Rd.bool (hu:P.underlying t=some .bool) (h:Rd P w fuel t cs):∃ b,cs=[.bool b]:=by
 cases fuel with
 | zero=>exact h.elim
 | succ fuel=>unfold Rd at h; simp only [hu] at h; exact h
theorem Rd.str (hu:P.underlying t=some .string) (h:Rd P w fuel t cs):∃ s,cs=[.string s]∧s.size≤reachBytes:=by
 cases fuel with
 | zero=>exact h.elim
 | succ fuel=>unfold Rd at h; simp only [hu] at h; exact h
theorem Rd.slice {e:TypeId} (hu:P.underlying t=some (.slice e)) (h:Rd P w fuel t cs) :
  cs=[.slice none 0 0]∨∃ a len cap,cs=[.slice (some a) len cap]∧len≤cap∧cap≤maxLen∧cap*P.bytesOf e≤reachBytes ∧
    ∀ i,i < cap→∃ cs',w.cells? 0 (a.add (i*P.cellsOf e)) (P.cellsOf e)=some cs'∧∃ fuel,Rd P w fuel e cs':=by
 cases fuel with
 | zero=>exact h.elim
 | succ fuel=>
  unfold Rd at h; simp only [hu] at h
  rcases h with h | ⟨a,len,cap,h1,h2,h3,h4,h5⟩
  ·exact .inl h
  ·exact .inr ⟨a,len,cap,h1,h2,h3,h4,fun i hi=>let ⟨cs',a1,a2⟩:=h5 i hi; ⟨cs',a1,fuel,a2⟩⟩
theorem Rd.struct {fs:Array Field} (hu:P.underlying t=some (.struct fs)) (h:Rd P w fuel t cs) :
  cs.length=P.cellsOf t∧∀ f∈fs.toList,∃ fuel,Rd P w fuel f.type ((cs.drop f.offset).take (P.cellsOf f.type)):=by
 cases fuel with
 | zero=>exact h.elim
 | succ fuel=>
  unfold Rd at h; simp only [hu] at h
  exact ⟨h.1,fun f hf=>⟨fuel,h.2 f hf⟩⟩
theorem Rd.array {e:TypeId} {n:Nat} (hu:P.underlying t=some (.array n e)) (h:Rd P w fuel t cs) :
  cs.length=P.cellsOf t∧∀ i,i < n→∃ fuel,Rd P w fuel e ((cs.drop (i*P.cellsOf e)).take (P.cellsOf e)):=by
 cases fuel with
 | zero=>exact h.elim
 | succ fuel=>
  unfold Rd at h; simp only [hu] at h
  exact ⟨h.1,fun i hi=>⟨fuel,h.2 i hi⟩⟩
end
def zWk (P:Program) (f:TypeId→Option (List TypeId)):List Field→Nat→Option (List TypeId)
 | [],_=>some []
 | fd::r,off=>(f fd.type).bind fun l=>if fd.offset=off∧P.cellsOf fd.type=l.length then (zWk P f r (off+l.length)).map (l++·) else none
def zUn (P:Program):Nat→TypeId→Option (List TypeId)
 | 0,_=>none
 | k+1,t=>
  match P.underlying t with
  | some (.struct fs)=>zWk P (zUn P k) fs.toList 0
  | some (.array n e)=>(zUn P k e).bind fun l=>if P.cellsOf e=l.length then some (List.replicate n l).flatten else none
  | some .bool | some (.int _) | some .string | some (.slice _)=>some [t]
  | _=>none
section
variable {P:Program} {w:World}
theorem zGJ {f:TypeId→Option (List TypeId)} {cs:List Value}
  (hf:∀ (t:TypeId) (ts:List TypeId) (fuel:Nat) (cs:List Value),f t=some ts→Rd P w fuel t cs→∀ (i:Nat) (t':TypeId),ts[i]?=some t'→∃ c g,cs[i]?=some c∧Rd P w g t' [c]) :
  ∀ (fs:List Field) (off:Nat) (ts:List TypeId),zWk P f fs off=some ts→(∀ fd∈fs,∃ fuel,Rd P w fuel fd.type ((cs.drop fd.offset).take (P.cellsOf fd.type))) →
  ∀ (i:Nat) (t':TypeId),ts[i]?=some t'→∃ c g,cs[off+i]?=some c∧Rd P w g t' [c]
 | [],_,ts,h,_,i,t',hi=>by simp [zWk] at h; subst h; simp at hi
 | fd::r,off,ts,h,hr,i,t',hi=>by
  unfold zWk at h
  obtain ⟨l,hl,h⟩:=Option.bind_eq_some_iff.1 h
  split at h
  ·rename_i hc
   obtain ⟨ho,hn⟩:=hc
   obtain ⟨ts',hts,h⟩:=Option.map_eq_some_iff.1 h
   subst h
   rcases Nat.lt_or_ge i l.length with hlt | hge
   ·rw [List.getElem?_append_left hlt] at hi
    obtain ⟨fuel,hrd⟩:=hr fd (.head _)
    obtain ⟨c,g,h1,h2⟩:=hf fd.type l fuel _ hl hrd i t' hi
    refine ⟨c,g,?_,h2⟩
    rw [List.getElem?_take,if_pos (by omega),List.getElem?_drop,ho] at h1
    exact h1
   ·rw [List.getElem?_append_right hge] at hi
    obtain ⟨c,g,h1,h2⟩:=zGJ hf r (off+l.length) ts' hts (fun fd' h'=>hr fd' (.tail _ h')) (i - l.length) t' hi
    exact ⟨c,g,by rw [← h1]; congr 1; omega,h2⟩
  ·cases h
theorem jQf {l:List TypeId} (hl:0 < l.length):∀ (n i:Nat) (t:TypeId),(List.replicate n l).flatten[i]?=some t→i / l.length < n∧l[i % l.length]?=some t
 | 0,i,t,h=>by simp at h
 | n+1,i,t,h=>by
  rw [List.replicate_succ,List.flatten_cons] at h
  rcases Nat.lt_or_ge i l.length with hlt | hge
  ·rw [List.getElem?_append_left hlt] at h
   rw [Nat.div_eq_of_lt hlt,Nat.mod_eq_of_lt hlt]
   exact ⟨by omega,h⟩
  ·rw [List.getElem?_append_right hge] at h
   obtain ⟨h1,h2⟩:=jQf hl n (i - l.length) t h
   have e:i=(i - l.length)+l.length:=by omega
   rw [e,Nat.add_div_right _ hl,Nat.add_mod_right]
   exact ⟨by omega,h2⟩
theorem zKE:∀ (k:Nat) (t:TypeId) (ts:List TypeId) (fuel:Nat) (cs:List Value),zUn P k t=some ts→Rd P w fuel t cs →
  ∀ (i:Nat) (t':TypeId),ts[i]?=some t'→∃ c g,cs[i]?=some c∧Rd P w g t' [c]
 | 0,_,_,_,_,h,_,_,_,_=>by simp [zUn] at h
 | k+1,t,ts,fuel,cs,h,hr,i,t',hi=>by
  unfold zUn at h
  split at h
  ·rename_i fs hu
   obtain ⟨_,hfs⟩:=hr.struct hu
   have:=zGJ (fun t ts fuel cs h hr=>zKE k t ts fuel cs h hr) fs.toList 0 ts h hfs i t' hi
   simpa using this
  ·rename_i n e hu
   obtain ⟨l,hl,h⟩:=Option.bind_eq_some_iff.1 h
   split at h
   ·rename_i hc
    simp only [Option.some.injEq] at h
    subst h
    obtain ⟨_,hel⟩:=hr.array hu
    rcases Nat.eq_zero_or_pos l.length with h0 | hpos
    ·have:l=[]:=List.eq_nil_of_length_eq_zero h0
     subst this; simp at hi
    ·obtain ⟨h1,h2⟩:=jQf hpos n i t' hi
     obtain ⟨fuel',hrd⟩:=hel (i / l.length) h1
     obtain ⟨c,g,h3,h4⟩:=zKE k e l fuel' _ hl hrd (i % l.length) t' h2
     refine ⟨c,g,?_,h4⟩
     rw [List.getElem?_take,if_pos (by rw [hc]; exact Nat.mod_lt _ hpos),List.getElem?_drop,hc,Nat.mul_comm,Nat.div_add_mod] at h3
     exact h3
   ·cases h
  all_goals first | (cases h; done) | skip
  all_goals
   rename_i hu
   simp only [Option.some.injEq] at h
   subst h
   match i,hi with
   | 0,hi=>
    simp only [List.getElem?_cons_zero,Option.some.injEq] at hi
    subst hi
    first
    |(obtain ⟨b,rfl⟩:=hr.bool hu; exact ⟨_,fuel,rfl,hr⟩)
    |(obtain ⟨b,rfl,_⟩:=hr.int hu; exact ⟨_,fuel,rfl,hr⟩)
    |(obtain ⟨b,rfl,_⟩:=hr.str hu; exact ⟨_,fuel,rfl,hr⟩)
    |(rcases hr.slice hu with h | ⟨a,len,cap,h,_⟩
      ·subst h; exact ⟨_,fuel,rfl,hr⟩
      ·subst h; exact ⟨_,fuel,rfl,hr⟩)
   | i+1,hi=>simp at hi
theorem Rd.leaf {k:Nat} {t:TypeId} {ts:List TypeId} {fuel:Nat} {cs:List Value} (h:Rd P w fuel t cs) (hl:zUn P k t=some ts) (i:Nat) {t':TypeId} (ht:ts[i]?=some t') {c:Value} (hc:cs[i]?=some c) :
  ∃ g,Rd P w g t' [c]:=by
 obtain ⟨c',g,h1,h2⟩:=zKE k t ts fuel cs hl h i t' ht
 rw [hc] at h1
 cases h1
 exact ⟨g,h2⟩
theorem Args.cons {t:TypeId} {ts:List TypeId} {vs:List Value} (h:Args P w (t::ts) vs):∃ v vs',vs=v::vs'∧Arg P w t v∧Args P w ts vs':=by
 cases vs with
 | nil=>exact h.elim
 | cons v vs=>exact ⟨v,vs,rfl,h.1,h.2⟩
theorem Args.nil {vs:List Value} (h:Args P w [] vs):vs=[]:=by
 cases vs with
 | nil=>rfl
 | cons v vs=>exact h.elim
theorem Arg.one {t:TypeId} {v:Value} (h:Arg P w t v) (hu:∀ fs,P.underlying t≠some (.struct fs)) (ha:∀ n e,P.underlying t≠some (.array n e)):∃ g,Rd P w g t [v]:=by
 obtain ⟨⟨g,hr⟩,hv⟩:=h
 split at hv
 ·rename_i fs he; exact absurd he (hu fs)
 ·rename_i n e he; exact absurd he (ha n e)
 ·rw [hv] at hr; exact ⟨g,hr⟩
theorem Arg.int {t:TypeId} {v:Value} {k:IntKind} (h:Arg P w t v) (hu:P.underlying t=some (.int k)):∃ n,v=.int k n∧(Lit.int k n).wf=true:=by
 obtain ⟨g,hr⟩:=h.one (by rw [hu]; simp) (by rw [hu]; simp)
 obtain ⟨n,hn,hw⟩:=hr.int hu
 simp only [List.cons.injEq,and_true] at hn
 exact ⟨n,hn,hw⟩
theorem Arg.many {t:TypeId} {v:Value} {n:Nat} (h:Arg P w t v) (hu:(∃ fs,P.underlying t=some (.struct fs))∨∃ n e,P.underlying t=some (.array n e)) (hn:P.cellsOf t=n) :
  ∃ cs:List Value,v=.agg cs.toArray∧cs.length=n∧∃ g,Rd P w g t cs:=by
 obtain ⟨⟨g,hr⟩,hv⟩:=h
 rcases hu with ⟨fs,hu⟩ | ⟨m,e,hu⟩
 ·simp only [hu] at hv
  obtain ⟨⟨l⟩,rfl⟩:=hv
  exact ⟨l,rfl,by rw [← hn]; exact (hr.struct hu).1,g,hr⟩
 ·simp only [hu] at hv
  obtain ⟨⟨l⟩,rfl⟩:=hv
  exact ⟨l,rfl,by rw [← hn]; exact (hr.array hu).1,g,hr⟩
end
def lv (P:Program) (e:TypeId):Option (List TypeId):=
 match zUn P 8 e with
 | some ls=>if ls.length=P.cellsOf e∧0 < ls.length then some ls else none
 | none=>none
def zXT (P:Program):Nat→TypeId→DV→Prop
 | 0,_,_=>False
 | k+1,t,d=>
  match P.underlying t with
  | some .bool=>∃ b,d=.bool b
  | some (.int q)=>∃ n,d=.int q n
  | some .string=>∃ s,d=.str s
  | some (.slice e)=>∃ n xs,d=.sl n xs∧n*P.bytesOf e≤reachBytes∧match lv P e with
   | some ls=>xs.length=n*ls.length∧∀ (j:Nat) d',xs[j]?=some d'→∃ t',ls[j % ls.length]?=some t'∧zXT P k t' d'
   | none=>xs=[]
  | _=>False
def jKi (P:Program):Nat→TypeId→Bool
 | 0,_=>false
 | k+1,t=>
  match P.underlying t with
  | some .bool | some (.int _) | some .string=>true
  | some (.slice e)=>match lv P e with
   | some ls=>ls.all (jKi P k)
   | none=>true
  | _=>false
theorem zGz {α:Type} {Q:Nat→α→Prop}:∀ n:Nat,(∀ j,j < n→∃ d,Q j d)→∃ xs:List α,xs.length=n∧∀ (j:Nat) d,xs[j]?=some d→Q j d
 | 0,_=>⟨[],rfl,fun j d h=>by simp at h⟩
 | n+1,h=>by
  obtain ⟨xs,h1,h2⟩:=zGz n fun j hj=>h j (by omega)
  obtain ⟨d,hd⟩:=h n (by omega)
  refine ⟨xs++[d],by simp [h1],fun j d' hj=>?_⟩
  by_cases hlt:j < n
  ·rw [List.getElem?_append_left (by omega)] at hj; exact h2 j d' hj
  ·rw [List.getElem?_append_right (by omega)] at hj
   have:j - xs.length=0:=by
    have:=(List.getElem?_eq_some_iff.1 hj).1
    simp at this; omega
   rw [this] at hj
   simp at hj
   subst hj
   have:j=n:=by omega
   subst this; exact hd
section
variable {P:Program} {w:World}
theorem jZ4 {P:Program} {e:TypeId} {ls:List TypeId} (h:lv P e=some ls):zUn P 8 e=some ls∧ls.length=P.cellsOf e∧0 < ls.length:=by
 unfold lv at h
 split at h
 ·rename_i l hl
  split at h
  ·rename_i hc; injection h with h; subst h; exact ⟨hl,hc.1,hc.2⟩
  ·cases h
 ·cases h
theorem addr_add' (a:Addr) (i j:Nat) (h:a.spot=none):(a.add i).add j=⟨a.block,a.off+(i+j),none⟩:=by
 obtain ⟨b,o,sp⟩:=a
 simp only at h
 subst h
 rw [zZR,zZR,Nat.add_assoc]
theorem jQK:∀ (k:Nat) (t:TypeId),jKi P k t=true→∀ (fuel:Nat) (v:Value),Rd P w fuel t [v]→∃ d,RepD w (fun _=>True) d v∧zXT P k t d
 | 0,_,h,_,_,_=>by cases h
 | k+1,t,ho,fuel,v,h=>by
  unfold jKi at ho
  unfold zXT
  split at ho
  ·rename_i hu
   obtain ⟨b,hb⟩:=h.bool hu
   simp only [List.cons.injEq,and_true] at hb
   subst hb
   exact ⟨.bool b,by simp only [RepD],b,rfl⟩
  ·rename_i q hu
   obtain ⟨n,hn,hw⟩:=h.int hu
   simp only [List.cons.injEq,and_true] at hn
   subst hn
   exact ⟨.int q n,by simp only [RepD]; exact ⟨trivial,hw⟩,n,rfl⟩
  ·rename_i hu
   obtain ⟨s,hs,hw⟩:=h.str hu
   simp only [List.cons.injEq,and_true] at hs
   subst hs
   refine ⟨.str s,by simp only [RepD,true_and]; unfold reachBytes at hw; unfold maxLen; omega,s,rfl⟩
  ·rename_i e hu
   rcases h.slice hu with h | ⟨a,len,cap,h1,h2,h3,h4,h5⟩
   ·simp only [List.cons.injEq,and_true] at h
    subst h
    refine ⟨.sl 0 [],by simp only [RepD]; exact ⟨none,0,rfl,Nat.le_refl _,Nat.zero_le _,fun e=>absurd rfl e⟩,0,[],rfl,by simp,?_⟩
    split
    ·exact ⟨by simp,fun j d h=>by simp at h⟩
    ·rfl
   ·simp only [List.cons.injEq,and_true] at h1
    subst h1
    have hby:len*P.bytesOf e≤reachBytes:=Nat.le_trans (Nat.mul_le_mul_right _ h2) h4
    cases hl:lv P e with
    | none=>exact ⟨.sl len [],by simp only [RepD]; exact ⟨some a,cap,rfl,h2,h3,fun e=>absurd rfl e⟩,len,[],rfl,hby,rfl⟩
    | some ls=>
     rw [hl] at ho
     simp only [List.all_eq_true] at ho
     obtain ⟨g1,g2,g3⟩:=jZ4 hl
     have hcell:∀ j,j < len*ls.length→∃ d,a.spot=none∧(∃ u,w.cell? ⟨a.block,a.off+j,none⟩=some u∧RepD w (fun _=>True) d u)∧∃ t',ls[j % ls.length]?=some t'∧zXT P k t' d:=by
      intro j hj
      have hi:j / ls.length < len:=by rw [Nat.div_lt_iff_lt_mul g3]; exact hj
      obtain ⟨cs',c1,fuel',c2⟩:=h5 (j / ls.length) (by omega)
      have hm:j % ls.length < ls.length:=Nat.mod_lt _ g3
      obtain ⟨c,g,e1,e2⟩:=zKE 8 e ls fuel' cs' g1 c2 (j % ls.length) (ls[j % ls.length]) (by simp [hm])
      obtain ⟨d,f1,f2⟩:=jQK k ls[j % ls.length] (ho _ (List.getElem_mem hm)) g c e2
      obtain ⟨_,c3,c4⟩:=World.cells?_some c1
      have hc:=c4 (j % ls.length) (by omega)
      rw [e1] at hc
      have hpos:0 < cap:=Nat.lt_of_lt_of_le (Nat.lt_of_le_of_lt (Nat.zero_le _) hi) h2
      have hcp:0 < P.cellsOf e:=by omega
      have hs:a.spot=none:=by
       cases hsp:a.spot with
       | none=>rfl
       | some x=>
        exfalso
        obtain ⟨cs0,d0,_⟩:=h5 0 hpos
        obtain ⟨_,hlen,d1⟩:=World.cells?_some d0
        have c0:=d1 0 hcp
        rw [Nat.zero_mul,show a.add 0=a from by simp [Addr.add],show a.add 0=a from by simp [Addr.add]] at c0
        have:w.cell? a=none:=by
         unfold World.cell?
         split
         ·simp [hsp]
         ·rfl
        rw [this] at c0
        have:=List.getElem?_eq_none_iff.1 c0.symm
        omega
      refine ⟨d,hs,⟨c,?_,f1⟩,_,by simp [hm],f2⟩
      rw [addr_add' _ _ _ hs,← g2,Nat.mul_comm,Nat.div_add_mod] at hc
      exact hc
     obtain ⟨xs,x1,x2⟩:=zGz (len*ls.length) hcell
     refine ⟨.sl len xs,?_,len,xs,rfl,hby,x1,fun j d' hj=>(x2 j d' hj).2.2⟩
     simp only [RepD]
     refine ⟨some a,cap,rfl,h2,h3,fun hne=>⟨a.block,a.off,?_,trivial,.of_at fun i d hi=>(x2 i d hi).2.1⟩⟩
     cases xs with
     | nil=>exact absurd rfl hne
     | cons d ds=>
      have hs:=(x2 0 d rfl).1
      obtain ⟨b,o,sp⟩:=a
      simp only at hs
      subst hs
      rfl
  ·cases ho
def zJR (P:Program) (t:TypeId) (r:RV):Prop:=
 match P.underlying t with
 | some (.struct _) | some (.array _ _)=>∃ ds ls,r=.agg ds∧lv P t=some ls∧ds.length=ls.length∧∀ (i:Nat) d,ds[i]?=some d→∃ t',ls[i]?=some t'∧zXT P 6 t' d
 | _=>∃ d,r=.d d∧zXT P 6 t d
def zKX (P:Program):List TypeId→List RV→Prop
 | [],[]=>True
 | t::ts,r::rs=>zJR P t r∧zKX P ts rs
 | _,_=>False
def okT (P:Program) (t:TypeId):Bool:=
 match P.underlying t with
 | some (.struct _) | some (.array _ _)=>match lv P t with
  | some ls=>ls.all (jKi P 6)
  | none=>false
 | _=>jKi P 6 t
theorem jK5 {t:TypeId} {v:Value} (ho:okT P t=true) (h:Arg P w t v):∃ r,RepR w (fun _=>True) r v∧zJR P t r:=by
 have many:((∃ fs,P.underlying t=some (.struct fs))∨∃ n e,P.underlying t=some (.array n e))→(match lv P t with | some ls=>ls.all (jKi P 6) | none=>false)=true→∃ ds ls,RepR w (fun _=>True) (.agg ds) v∧lv P t=some ls∧ds.length=ls.length∧∀ (i:Nat) d,ds[i]?=some d→∃ t',ls[i]?=some t'∧zXT P 6 t' d:=by
  intro hu hl
  obtain ⟨cs,rfl,hlen,g,hr⟩:=h.many hu (n:=P.cellsOf t) rfl
  cases hlv:lv P t with
  | none=>rw [hlv] at hl; cases hl
  | some ls=>
   rw [hlv] at hl
   simp only [List.all_eq_true] at hl
   obtain ⟨g1,g2,g3⟩:=jZ4 hlv
   have hcell:∀ i,i < ls.length→∃ d,(∃ c,cs[i]?=some c∧RepD w (fun _=>True) d c)∧∃ t',ls[i]?=some t'∧zXT P 6 t' d:=by
    intro i hi
    obtain ⟨c,g',e1,e2⟩:=zKE 8 t ls g cs g1 hr i ls[i] (by simp [hi])
    obtain ⟨d,f1,f2⟩:=jQK 6 ls[i] (hl _ (List.getElem_mem hi)) g' c e2
    exact ⟨d,⟨c,e1,f1⟩,_,by simp [hi],f2⟩
   obtain ⟨ds,x1,x2⟩:=zGz ls.length hcell
   refine ⟨ds,ls,?_,rfl,x1,fun i d hi=>(x2 i d hi).2⟩
   simp only [RepR]
   refine ⟨_,rfl,?_⟩
   rw [zHV]
   refine ⟨by simp; omega,fun i d v hd hv=>?_⟩
   obtain ⟨⟨c,e1,e2⟩,_⟩:=x2 i d hd
   have:cs[i]?=some v:=by simpa using hv
   rw [e1] at this
   injection this with this
   subst this
   exact e2
 unfold okT at ho
 unfold zJR
 split at ho
 ·rename_i fs hu
  obtain ⟨ds,ls,h1,h2⟩:=many (.inl ⟨_,hu⟩) ho
  exact ⟨.agg ds,h1,ds,ls,rfl,h2⟩
 ·rename_i n e hu
  obtain ⟨ds,ls,h1,h2⟩:=many (.inr ⟨_,_,hu⟩) ho
  exact ⟨.agg ds,h1,ds,ls,rfl,h2⟩
 ·rename_i h1 h2
  obtain ⟨g,hr⟩:=h.one (fun fs e=>h1 fs e) (fun n e e'=>h2 n e e')
  obtain ⟨d,f1,f2⟩:=jQK 6 t ho g v hr
  exact ⟨.d d,by simp only [RepR]; exact f1,⟨d,rfl,f2⟩⟩
theorem zH4:∀ {ts:List TypeId} {vs:List Value},ts.all (okT P)=true→Args P w ts vs→∃ rs,RepRs w (fun _=>True) rs vs∧zKX P ts rs
 | [],[],_,_=>⟨[],by simp only [RepRs],trivial⟩
 | t::ts,v::vs,ho,h=>by
  simp only [List.all_cons,Bool.and_eq_true] at ho
  obtain ⟨r,h1,h2⟩:=jK5 ho.1 h.1
  obtain ⟨rs,h3,h4⟩:=zH4 ho.2 h.2
  exact ⟨r::rs,by simp only [RepRs]; exact ⟨h1,h3⟩,h2,h4⟩
 | [],_::_,_,h=>h.elim
 | _::_,[],_,h=>h.elim
theorem jUq {f:FuncId} {ts:List TypeId} (hok:ts.all (okT P)=true) (h:∀ rs,zKX P ts rs→RV.wfs rs→Ans P f rs (.d (.bool true))) (W:World) (args:Array Value) (hg:zJc W fun _=>True) (ha:Args P W ts args.toList) :
  Calls P f args W fun e W'=>e=.returned (.bool true)∧Below W.heap.size W W':=by
 obtain ⟨rs,h1,h2⟩:=zH4 hok ha
 refine (h rs h2 (RepRs.wf h1) W _ args hg h1).mono fun e w' ⟨v,he,hv,hb⟩=>?_
 simp only [RepR,RepD] at hv
 subst hv
 exact ⟨he,hb⟩
end
theorem zKX.cons {P:Program} {t:TypeId} {ts:List TypeId} {rs:List RV} (h:zKX P (t::ts) rs):∃ r rs',rs=r::rs'∧zJR P t r∧zKX P ts rs':=by
 cases rs with
 | nil=>exact h.elim
 | cons r rs=>exact ⟨r,rs,rfl,h.1,h.2⟩
theorem zKX.nil {P:Program} {rs:List RV} (h:zKX P [] rs):rs=[]:=by
 cases rs with
 | nil=>rfl
 | cons r rs=>exact h.elim
theorem zJR.one {P:Program} {t:TypeId} {r:RV} {k:IntKind} (h:zJR P t r) (hu:P.underlying t=some (.int k)):∃ n,r=.d (.int k n):=by
 unfold zJR at h
 simp only [hu] at h
 obtain ⟨d,rfl,h⟩:=h
 unfold zXT at h
 simp only [hu] at h
 obtain ⟨n,rfl⟩:=h
 exact ⟨n,rfl⟩
theorem zJR.many {P:Program} {t:TypeId} {r:RV} {ls:List TypeId} (h:zJR P t r) (hu:(match P.underlying t with | some (.struct _) | some (.array _ _)=>true | _=>false)=true) (hl:lv P t=some ls) :
  ∃ ds,r=.agg ds∧ds.length=ls.length∧∀ (i:Nat) d,ds[i]?=some d→∃ t',ls[i]?=some t'∧zXT P 6 t' d:=by
 unfold zJR at h
 split at hu
 ·rename_i fs he
  simp only [he] at h
  obtain ⟨ds,ls',h1,h2,h3⟩:=h
  rw [hl] at h2; injection h2 with h2; subst h2
  exact ⟨ds,h1,h3⟩
 ·rename_i n e he
  simp only [he] at h
  obtain ⟨ds,ls',h1,h2,h3⟩:=h
  rw [hl] at h2; injection h2 with h2; subst h2
  exact ⟨ds,h1,h3⟩
 ·cases hu
def zUe (P:Program) (q:Nat) (ls:List TypeId) (ds:List DV):Prop:=ds.length=ls.length∧∀ (i:Nat) d,ds[i]?=some d→∃ t',ls[i]?=some t'∧zXT P q t' d
theorem zUe.cons {P:Program} {q:Nat} {t:TypeId} {ts:List TypeId} {ds:List DV} (h:zUe P q (t::ts) ds):∃ d ds',ds=d::ds'∧zXT P q t d∧zUe P q ts ds':=by
 obtain ⟨h1,h2⟩:=h
 cases ds with
 | nil=>simp at h1
 | cons d ds=>
  refine ⟨d,ds,rfl,?_,by simpa using h1,fun i d' hd=>?_⟩
  ·obtain ⟨t',e,h⟩:=h2 0 d rfl
   simp at e; subst e; exact h
  ·obtain ⟨t',e,h⟩:=h2 (i+1) d' (by simpa using hd)
   exact ⟨t',by simpa using e,h⟩
theorem zUe.nil {P:Program} {q:Nat} {ds:List DV} (h:zUe P q [] ds):ds=[]:=by
 have:=h.1
 simpa using this
theorem zXT.int {P:Program} {q:Nat} {t:TypeId} {d:DV} {k:IntKind} (h:zXT P q t d) (hu:P.underlying t=some (.int k)):∃ n,d=.int k n:=by
 cases q with
 | zero=>exact h.elim
 | succ q=>unfold zXT at h; simp only [hu] at h; exact h
theorem zXT.bool {P:Program} {q:Nat} {t:TypeId} {d:DV} (h:zXT P q t d) (hu:P.underlying t=some .bool):∃ n,d=.bool n:=by
 cases q with
 | zero=>exact h.elim
 | succ q=>unfold zXT at h; simp only [hu] at h; exact h
theorem zXT.slice {P:Program} {q:Nat} {t e:TypeId} {d:DV} {ls:List TypeId} (h:zXT P q t d) (hu:P.underlying t=some (.slice e)) (hl:lv P e=some ls) :
  ∃ n xs,d=.sl n xs∧n*P.bytesOf e≤reachBytes∧xs.length=n*ls.length∧∀ (j:Nat) d',xs[j]?=some d'→∃ t',ls[j % ls.length]?=some t'∧∃ q,zXT P q t' d':=by
 cases q with
 | zero=>exact h.elim
 | succ q=>
  unfold zXT at h; simp only [hu,hl] at h
  obtain ⟨n,xs,h1,h2,h3,h4⟩:=h
  exact ⟨n,xs,h1,h2,h3,fun j d' hj=>let ⟨t',a,b⟩:=h4 j d' hj; ⟨t',a,q,b⟩⟩
theorem zXT.str {P:Program} {q:Nat} {t:TypeId} {d:DV} (h:zXT P q t d) (hu:P.underlying t=some .string):∃ n,d=.str n:=by
 cases q with
 | zero=>exact h.elim
 | succ q=>unfold zXT at h; simp only [hu] at h; exact h
theorem zJR.slice {P:Program} {t e:TypeId} {r:RV} {ls:List TypeId} (h:zJR P t r) (hu:P.underlying t=some (.slice e)) (hl:lv P e=some ls) :
  ∃ n xs,r=.d (.sl n xs)∧n*P.bytesOf e≤reachBytes∧xs.length=n*ls.length∧∀ (j:Nat) d',xs[j]?=some d'→∃ t',ls[j % ls.length]?=some t'∧∃ q,zXT P q t' d':=by
 unfold zJR at h
 simp only [hu] at h
 obtain ⟨d,rfl,h⟩:=h
 obtain ⟨n,xs,rfl,h2⟩:=zXT.slice h hu hl
 exact ⟨n,xs,rfl,h2⟩
theorem jJq {P:Program} {t t':TypeId} {q j:Nat} {d:DV} {k:IntKind} (hu:P.underlying t=some (.int k)) (a:[t][j % [t].length]?=some t') (b:zXT P q t' d):∃ n,d=.int k n:=by
 have:t'=t:=by
  have h:=List.mem_of_getElem? a
  simpa using h
 subst this
 exact b.int hu
end
theorem zGN (l:List Int) {n:Nat} (h:n=l.length):IsU n (us l):=by
 subst h
 exact jUj (zKx l) fun j d hj=>by
  simp only [us,List.getElem?_map] at hj
  obtain ⟨v,_,rfl⟩:=Option.map_eq_some_iff.1 hj
  exact ⟨v,rfl⟩
theorem zJx:IsU 0 []:=jUj rfl fun j d hj=>by simp at hj
theorem jJI:Im.zero.isU:=⟨zJx,zJx,zJx,zJx,zJx⟩
theorem zVC (w h:Int) (c:Px):(zQd w h c).isU:=⟨zJx,zJx,zJx,zJx,zJx⟩
theorem zUX (w h:Int) (l:List Px):(imOf w h l).isU:=by
 cases hk:ofOk w h l.length with
 | true=>
  rw [zVI hk]
  refine ⟨zGN _ ?_,zGN _ ?_,zGN _ ?_,zGN _ ?_,zGN _ ?_⟩ <;> exact (List.length_map _).symm
 | false=>rw [zGQ hk]; exact jJI
theorem jGx {n:Nat} {xs:List DV} (hn:xs.length=n*5) (hx:∀ (j:Nat) d,xs[j]?=some d→∃ v,d=.int .i64 v):Is5 n xs:=
 ⟨hn,fun i hi=>by
  have hl:i < xs.length:=by omega
  obtain ⟨v,e⟩:=hx i _ (List.getElem?_eq_getElem hl)
  rw [List.getElem?_eq_getElem hl,e]
  simp [nAt,List.getElem?_eq_getElem hl,e]⟩
theorem jWC {P:Program} {t t':TypeId} {q j:Nat} {d:DV} {k:IntKind} (hu:P.underlying t=some (.int k)) (a:[t,t,t,t,t][j % [t,t,t,t,t].length]?=some t') (b:zXT P q t' d):∃ n,d=.int k n:=by
 have:t'=t:=by
  have h:=List.mem_of_getElem? a
  simpa using h
 subst this
 exact b.int hu
theorem jQd (mood:Int) (L:Nat) (xs:List DV) (most:Int) {n k:Nat} (h:k=n):jXQ k (pxs (zQq mood L xs most n)):=by
 subst h
 have:=jXd (zQq mood L xs most k)
 rwa [zXk] at this
theorem zZK {n k:Int} (h1:1≤k) (h2:k≤4611686018427387904):0≤modS n k∧modS n k < k:=by
 rw [jVf h1 h2]
 exact ⟨Int.emod_nonneg _ (by omega),Int.emod_lt_of_pos _ (by omega)⟩
def imR (m:Im):RV:=RV.agg [DV.int .i64 m.w,DV.int .i64 m.h,DV.bool m.so,DV.int .u16 m.c.a,DV.int .u16 m.c.b,DV.int .u16 m.c.c,DV.int .u16 m.c.al,DV.int .u16 m.c.f,DV.int .i64 m.p0.w,DV.int .i64 m.p0.h,DV.int .i64 m.p0.s,DV.sl m.p0.n m.p0.xs,DV.int .i64 m.p1.w,DV.int .i64 m.p1.h,DV.int .i64 m.p1.s,DV.sl m.p1.n m.p1.xs,DV.int .i64 m.p2.w,DV.int .i64 m.p2.h,DV.int .i64 m.p2.s,DV.sl m.p2.n m.p2.xs,DV.int .i64 m.p3.w,DV.int .i64 m.p3.h,DV.int .i64 m.p3.s,DV.sl m.p3.n m.p3.xs,DV.int .i64 m.p4.w,DV.int .i64 m.p4.h,DV.int .i64 m.p4.s,DV.sl m.p4.n m.p4.xs]
def imV (b:Nat) (m:Im):AV:=AV.agg [Cl.d (DV.int .i64 m.w),Cl.d (DV.int .i64 m.h),Cl.d (DV.bool m.so),Cl.d (DV.int .u16 m.c.a),Cl.d (DV.int .u16 m.c.b),Cl.d (DV.int .u16 m.c.c),Cl.d (DV.int .u16 m.c.al),Cl.d (DV.int .u16 m.c.f),Cl.d (DV.int .i64 m.p0.w),Cl.d (DV.int .i64 m.p0.h),Cl.d (DV.int .i64 m.p0.s),Cl.ref (b+0) m.p0.n,Cl.d (DV.int .i64 m.p1.w),Cl.d (DV.int .i64 m.p1.h),Cl.d (DV.int .i64 m.p1.s),Cl.ref (b+1) m.p1.n,Cl.d (DV.int .i64 m.p2.w),Cl.d (DV.int .i64 m.p2.h),Cl.d (DV.int .i64 m.p2.s),Cl.ref (b+2) m.p2.n,Cl.d (DV.int .i64 m.p3.w),Cl.d (DV.int .i64 m.p3.h),Cl.d (DV.int .i64 m.p3.s),Cl.ref (b+3) m.p3.n,Cl.d (DV.int .i64 m.p4.w),Cl.d (DV.int .i64 m.p4.h),Cl.d (DV.int .i64 m.p4.s),Cl.ref (b+4) m.p4.n]
def imB (e:Nat) (m:Im):List Bx:=[Bx.row e 1 m.p0.xs,Bx.row e 1 m.p1.xs,Bx.row e 1 m.p2.xs,Bx.row e 1 m.p3.xs,Bx.row e 1 m.p4.xs]
def zYS (p k a b often:Int):Int:=if modS (wrap .i64 (Int.tdiv often 5)) 3=0 then wrap .i64 (b - a) else wrap .i64 (1+modS p k)
def zQO (pw ph so mood:Int) (L:Nat) (xs:List DV) (x0 y0 x1 y1 most:Int):Im:=
 let w:=zYS pw 5 x0 x1 pw
 let h:=zYS ph 4 y0 y1 pw
 let l:=zQq mood L xs most (wrap .i64 (w*h)).toNat
 if modS so 2=0 then zQd w h (gPx mood L xs most 0) else imOf w h l
theorem zUq {mood:Int} {L:Nat} {xs:List DV} {most:Int} {n:Nat} (hn:0 < n):nAt (pxs (zQq mood L xs most n)) 0=(gPx mood L xs most 0).a∧nAt (pxs (zQq mood L xs most n)) 1=(gPx mood L xs most 0).b∧nAt (pxs (zQq mood L xs most n)) 2=(gPx mood L xs most 0).c∧nAt (pxs (zQq mood L xs most n)) 3=(gPx mood L xs most 0).al∧nAt (pxs (zQq mood L xs most n)) 4=(gPx mood L xs most 0).f:=by
 have h:0 < (zQq mood L xs most n).length:=by rw [zXk]; exact hn
 have e:(zQq mood L xs most n)[0]=gPx mood L xs most 0:=by simp [zQq]
 have:=zQU h
 rw [e] at this
 simpa only [Nat.zero_mul,Nat.zero_add] using this
theorem jKd (pw ph so mood:Int) (L:Nat) (xs:List DV) (x0 y0 x1 y1 most:Int):(zQO pw ph so mood L xs x0 y0 x1 y1 most).isU:=by
 unfold zQO
 simp only
 split
 ·exact zVC _ _ _
 ·exact zUX _ _ _
theorem zWr (pw ph so mood:Int) (L:Nat) (xs:List DV) (x0 y0 x1 y1 most W H:Int) (hW:zYS pw 5 x0 x1 pw=W) (hH:zYS ph 4 y0 y1 pw=H):zQO pw ph so mood L xs x0 y0 x1 y1 most=if modS so 2=0 then zQd W H (gPx mood L xs most 0) else imOf W H (zQq mood L xs most (wrap .i64 (W*H)).toNat):=by
 unfold zQO
 simp only [hW,hH]
theorem jZv {W H:Int} (hW:1≤W∧W≤100) (hH:1≤H∧H≤100):1≤wrap .i64 (W*H)∧wrap .i64 (W*H)≤10000:=by
 have a:=Int.mul_le_mul hW.2 hH.2 (by omega) (by omega)
 have b:=Int.mul_le_mul hW.1 hH.1 (by omega) (by omega)
 rw [IntWalk.i64_in _ ⟨by omega,by omega⟩]
 omega
def strS (p:Pl) (more k:Int):Int:=wrap .i64 (p.w+modS (wrap .i64 (more+k)) 4)
def strV (p:Pl) (s:Int) (i:Nat):Int:=
 if Int.tmod (i:Int) s < p.w then nAt p.xs (wrap .i64 (wrap .i64 (wrap .i64 (Int.tdiv (i:Int) s)*p.s)+Int.tmod (i:Int) s)).toNat else wrap .u16 (wrap .i64 (40000+(i:Int)))
def jYT (p:Pl) (s:Int) (n:Nat):List DV:=us ((List.range n).map (strV p s))
def strN (p:Pl) (s:Int):Nat:=(wrap .i64 (s*p.h)).toNat
def strP (p:Pl) (more k:Int):Pl:=⟨p.w,p.h,strS p more k,strN p (strS p more k),jYT p (strS p more k) (strN p (strS p more k))⟩
def zXO (m:Im) (more:Int):Im:=if m.so then m else ⟨m.w,m.h,m.so,m.c,strP m.p0 more 0,strP m.p1 more 1,strP m.p2 more 2,strP m.p3 more 3,strP m.p4 more 4⟩
theorem jKD {p:Pl} {more k:Int} (hw:1≤p.w∧p.w≤100):p.w≤strS p more k∧strS p more k≤103:=by
 have b:=@zZK (wrap .i64 (more+k)) 4 (by omega) (by omega)
 unfold strS
 rw [IntWalk.i64_in _ ⟨by omega,by omega⟩]
 omega
theorem jKE {p:Pl} {s:Int} (hs:1≤s∧s≤103) (hh:1≤p.h∧p.h≤100):wrap .i64 (s*p.h)=(strN p s:Int)∧strN p s≤10300∧((strN p s:Nat):Int)=s*p.h:=by
 have a:=Int.mul_le_mul hs.2 hh.2 (by omega) (by omega)
 have b:=Int.mul_nonneg (show 0≤s by omega) (show 0≤p.h by omega)
 unfold strN
 rw [IntWalk.i64_in _ ⟨by omega,by omega⟩]
 omega
theorem jJL (p:Pl) (s:Int) {n i:Nat} (h:i < n):nAt (jYT p s n) i=strV p s i:=by
 unfold jYT
 rw [jYP (by simpa using h)]
 simp
theorem zJC {p:Pl} {more k:Int} (hv:zQI p.w p.h p.s p.n=true) (hw:p.w≤100) (hh:p.h≤100):zQI (strP p more k).w (strP p more k).h (strP p more k).s (strP p more k).n=true:=by
 have hf:zQ4 p.w p.h=true:=by unfold zQI at hv; simp at hv; exact hv.1.1.1
 obtain ⟨f1,f2,f3,f4,f5⟩:=zXE hf
 have S:=@jKD p more k ⟨f1,hw⟩
 have N:=@jKE p (strS p more k) ⟨by omega,by omega⟩ ⟨f2,hh⟩
 have L:=jYt hf S.1 (by omega)
 show zQI p.w p.h (strS p more k) (strN p (strS p more k))=true
 unfold zQI
 have e:(p.h - 1)*strS p more k=strS p more k*p.h - strS p more k:=by rw [Int.sub_mul,Int.mul_comm]; omega
 simp only [hf,Bool.true_and,Bool.and_eq_true,decide_eq_true_eq]
 exact ⟨⟨S.1,by omega⟩,by omega⟩
theorem zU5 {p:Pl} {more k:Int} (hv:zQI p.w p.h p.s p.n=true) (hw:p.w≤100) (hh:p.h≤100) {x y:Int} (hx:0≤x∧x < p.w) (hy:0≤y∧y < p.h):(strP p more k).at_ x y=p.at_ x y:=by
 have hf:zQ4 p.w p.h=true:=by unfold zQI at hv; simp at hv; exact hv.1.1.1
 obtain ⟨f1,f2,f3,f4,f5⟩:=zXE hf
 obtain ⟨q1,q2,q3,q4,q5⟩:=place hv hx.1 hx.2 hy.1 hy.2
 obtain ⟨v1,v2,v3,v4,v5,v6,v7,v8,v9⟩:=zY2 hv
 have S:=@jKD p more k ⟨f1,hw⟩
 have N:=@jKE p (strS p more k) ⟨by omega,by omega⟩ ⟨f2,hh⟩
 show nAt (jYT p (strS p more k) (strN p (strS p more k))) (y*strS p more k+x).toNat=nAt p.xs (y*p.s+x).toNat
 generalize strS p more k=s at *
 have a1:0≤y*s:=Int.mul_nonneg hy.1 (by omega)
 have a2:(y+1)*s≤p.h*s:=Int.mul_le_mul_of_nonneg_right (by omega) (by omega)
 have a3:(y+1)*s=y*s+s:=by rw [Int.add_mul,Int.one_mul]
 have a4:p.h*s=s*p.h:=Int.mul_comm _ _
 have hi:(y*s+x).toNat < strN p s:=by omega
 rw [jJL _ _ hi]
 have ei:((y*s+x).toNat:Int)=y*s+x:=by omega
 unfold strV
 rw [ei,Int.tmod_eq_emod_of_nonneg (by omega),Int.tdiv_eq_ediv_of_nonneg (by omega)]
 have m1:(y*s+x) % s=x:=by rw [Int.add_comm,Int.add_mul_emod_self_right]; exact Int.emod_eq_of_lt hx.1 (by omega)
 have m2:(y*s+x) / s=y:=by rw [Int.add_comm,Int.add_mul_ediv_right _ _ (by omega),Int.ediv_eq_zero_of_lt hx.1 (by omega)]; omega
 rw [m1,m2,if_pos hx.2]
 rw [IntWalk.i64_in y ⟨by omega,by omega⟩,q5.1,q5.2]
theorem jYF (m:Im) (more:Int):(zXO m more).so=m.so∧(zXO m more).w=m.w∧(zXO m more).h=m.h∧(zXO m more).c=m.c:=by
 unfold zXO
 split <;> simp
theorem zKR {m:Im} (hf:m.formed=true) (hm:m.w≤100∧m.h≤100) (more:Int):(zXO m more).formed=true:=by
 unfold zXO
 split
 ·exact hf
 ·rename_i hs
  have hs:m.so=false:=by simpa using hs
  obtain ⟨qf,qi⟩:=Im.formed_of hf
  obtain ⟨qc,z0,z1,z2,z3,z4⟩:=Im.inner_planes qi hs
  have p0:=zJC (more:=more) (k:=0) z0.1 (by omega) (by omega)
  have p1:=zJC (more:=more) (k:=1) z1.1 (by omega) (by omega)
  have p2:=zJC (more:=more) (k:=2) z2.1 (by omega) (by omega)
  have p3:=zJC (more:=more) (k:=3) z3.1 (by omega) (by omega)
  have p4:=zJC (more:=more) (k:=4) z4.1 (by omega) (by omega)
  have e:∀ (p:Pl) k,(strP p more k).w=p.w∧(strP p more k).h=p.h:=fun p k=>⟨rfl,rfl⟩
  simp only [(e _ _).1,(e _ _).2,z0.2,z1.2,z2.2,z3.2,z4.2] at p0 p1 p2 p3 p4
  simp [Im.formed,Im.inner,okPl,hs,qf,qc,p0,p1,p2,p3,p4,e,z0.2,z1.2,z2.2,z3.2,z4.2]
theorem jYG {m:Im} (hf:m.formed=true) (hm:m.w≤100∧m.h≤100) (more:Int) {x y:Int} (hx:0≤x∧x < m.w) (hy:0≤y∧y < m.h):(zXO m more).px x y=m.px x y:=by
 unfold zXO
 split
 ·rfl
 ·rename_i hs
  have hs:m.so=false:=by simpa using hs
  obtain ⟨qf,qi⟩:=Im.formed_of hf
  obtain ⟨qc,z0,z1,z2,z3,z4⟩:=Im.inner_planes qi hs
  unfold Im.px
  simp only [hs]
  rw [zU5 z0.1 (by omega) (by omega) (by omega) (by omega),zU5 z1.1 (by omega) (by omega) (by omega) (by omega),zU5 z2.1 (by omega) (by omega) (by omega) (by omega),zU5 z3.1 (by omega) (by omega) (by omega) (by omega),zU5 z4.1 (by omega) (by omega) (by omega) (by omega)]
theorem Im.pixels_ext {m r:Im} (hm:m.formed=true) (hr:r.formed=true) (hw:r.w=m.w) (hh:r.h=m.h) (h:∀ x y:Int,(0≤x∧x < m.w)→(0≤y∧y < m.h)→r.px x y=m.px x y):r.pixels=m.pixels:=by
 rw [Im.pixels_of hm,Im.pixels_of hr,hw,hh]
 unfold Im.list
 refine List.map_congr_left fun k hk=>?_
 have hk:=List.mem_range.1 hk
 obtain ⟨a,b⟩:=Im.nth_in (Im.formed_of hm).1 hk
 unfold Im.nth
 rw [hw]
 exact h _ _ a b
theorem zGX {m:Im} (hf:m.formed=true) (hm:m.w≤100∧m.h≤100) (more:Int):(zXO m more).pixels=m.pixels:=
 have g:=jYF m more
 Im.pixels_ext hf (zKR hf hm more) g.2.1 g.2.2.1 (fun x y hx hy=>jYG hf hm more hx hy)
theorem zYj {w h:Int} (c:Px) (hf:zQ4 w h=true):(zQd w h c).formed=true:=by
 simp [Im.formed,Im.inner,okPl,zQd,hf,zZc,Pl.none]
theorem zVH {w h:Int} {l:List Px} (hk:ofOk w h l.length=true):(ofIm w h l).formed=true:=by
 unfold ofOk at hk
 simp at hk
 obtain ⟨hf,hl⟩:=hk
 obtain ⟨f1,f2,f3,f4,f5⟩:=zXE hf
 have L:=jYt hf (Int.le_refl w) f3
 have e:(h - 1)*w=w*h - w:=by rw [Int.sub_mul,Int.mul_comm]; omega
 have hv:zQI w h w l.length=true:=by
  unfold zQI
  simp only [hf,Bool.true_and,Bool.and_eq_true,decide_eq_true_eq]
  exact ⟨⟨Int.le_refl _,f3⟩,by omega⟩
 simp [Im.formed,Im.inner,okPl,ofIm,hf,hv]
theorem zUr (pw ph so mood:Int) (L:Nat) (xs:List DV) (x0 y0 x1 y1 most:Int) (hc:1≤x1 - x0∧x1 - x0≤100∧1≤y1 - y0∧y1 - y0≤100) :
  (zQO pw ph so mood L xs x0 y0 x1 y1 most).formed=true∧1≤(zQO pw ph so mood L xs x0 y0 x1 y1 most).w∧(zQO pw ph so mood L xs x0 y0 x1 y1 most).w≤100∧1≤(zQO pw ph so mood L xs x0 y0 x1 y1 most).h∧(zQO pw ph so mood L xs x0 y0 x1 y1 most).h≤100:=by
 have b5:=@zZK pw 5 (by omega) (by omega)
 have b4:=@zZK ph 4 (by omega) (by omega)
 have hW:1≤zYS pw 5 x0 x1 pw∧zYS pw 5 x0 x1 pw≤100:=by
  unfold zYS
  split <;> rw [IntWalk.i64_in _ ⟨by omega,by omega⟩] <;> omega
 have hH:1≤zYS ph 4 y0 y1 pw∧zYS ph 4 y0 y1 pw≤100:=by
  unfold zYS
  split <;> rw [IntWalk.i64_in _ ⟨by omega,by omega⟩] <;> omega
 rw [zWr pw ph so mood L xs x0 y0 x1 y1 most _ _ rfl rfl]
 generalize zYS pw 5 x0 x1 pw=W at *
 generalize zYS ph 4 y0 y1 pw=H at *
 have wa:=jZv hW hH
 have hf:zQ4 W H=true:=by
  have:=Int.mul_le_mul hW.2 hH.2 (by omega) (by omega)
  simp [zQ4]; omega
 have hwm:wrap .i64 (W*H)=W*H:=IntWalk.i64_in _ (by
  have:=Int.mul_le_mul hW.2 hH.2 (by omega) (by omega)
  have:=Int.mul_nonneg (a:=W) (b:=H) (by omega) (by omega)
  omega)
 split
 ·exact ⟨zYj _ hf,hW.1,hW.2,hH.1,hH.2⟩
 ·have hk:ofOk W H (zQq mood L xs most (wrap .i64 (W*H)).toNat).length=true:=by
   simp only [ofOk,hf,Bool.true_and,decide_eq_true_eq,zXk]
   omega
  rw [zVI hk]
  exact ⟨zVH hk,hW.1,hW.2,hH.1,hH.2⟩
theorem jU7 {l:List Px} {g:Px→Int} {k:Nat} (h:k < l.length):nAt (chan l g) k=g l[k]:=by
 unfold chan
 rw [jYP (by simpa using h)]
 simp
theorem jVa {w h:Int} {l:List Px} {x y:Int} (hk:(y*w+x).toNat < l.length):(ofIm w h l).px x y=l[(y*w+x).toNat]:=by
 simp [Im.px,ofIm,Pl.at_,jU7 hk]
theorem Im.list_at {m:Im} {n k:Nat} (h:k < n):(m.list n)[k]'(by rw [Im.list_len]; exact h)=m.nth k:=by simp [Im.list]
theorem jYA {w h:Int} {l:List Px} (hk:ofOk w h l.length=true):(imOf w h l).formed=true∧(imOf w h l).pixels=l:=by
 rw [zVI hk]
 have hf:=zVH hk
 refine ⟨hf,?_⟩
 rw [Im.pixels_of hf]
 obtain ⟨f1,f2,f3,f4,f5⟩:=zXE (Im.formed_of hf).1
 have hl:l.length=w.toNat*h.toNat:=by
  have:=(Im.count_le (Im.formed_of hf).1).2
  simp [ofOk] at hk
  change ((w.toNat*h.toNat:Nat):Int)=w*h at this
  omega
 refine List.ext_getElem (by rw [Im.list_len]; exact hl.symm) fun i h1 h2=>?_
 rw [Im.list_len] at h1
 rw [Im.list_at h1]
 have hw:0 < w.toNat:=by change 1≤w at f1; omega
 have e:i / w.toNat*w.toNat+i % w.toNat=i:=by rw [Nat.mul_comm]; exact Nat.div_add_mod i w.toNat
 have e2:(((i / w.toNat:Nat):Int)*w+((i % w.toNat:Nat):Int)).toNat=i:=by
  rw [idx (by change 1≤w at f1; omega)]; exact e
 show (ofIm w h l).px ((i % w.toNat:Nat):Int) ((i / w.toNat:Nat):Int)=l[i]
 rw [jVa (by rw [e2]; exact h2)]
 simp only [e2]
def zQE (n d:Int):Int:=if d=0 then 0 else n / d+(if d - n % d≤n % d then 1 else 0)
def to16 (v:Int):Int:=if 255 < v then 65535 else 257*v
def to8 (v:Int):Int:=zQE (v*255) 65535
def Px.map (f:Int→Int) (p:Px):Px:=⟨f p.a,f p.b,f p.c,f p.al,f p.f⟩
def jVM (b:Int):Bool:=decide (b=8) || decide (b=16)
def jWV (b:Int):Int:=if b=8 then 255 else if b=16 then 65535 else 0
def Px.conv (a b:Int) (p:Px):Px:=if a < b then p.map to16 else if b < a then p.map to8 else p
def Im.convOk (m:Im) (a b:Int):Bool:=jVM a && jVM b && decide (m.valid (jWV a)=0)
def Im.conv (m:Im) (a b:Int):Im:=if m.convOk a b then (if m.so then zQd m.w m.h (m.c.conv a b) else imOf m.w m.h (m.pixels.map (Px.conv a b))) else .zero
def isq:Nat→Nat
 | 0=>0
 | n+1=>if (isq n+1)*(isq n+1)≤n+1 then isq n+1 else isq n
theorem jJo:∀ n:Nat,isq n*isq n≤n∧n < (isq n+1)*(isq n+1)
 | 0=>by decide
 | n+1=>by
  have ⟨h1,h2⟩:=jJo n
  simp only [isq]
  split
  ·refine ⟨by assumption,?_⟩
   have:(isq n+1+1)*(isq n+1+1)=(isq n+1)*(isq n+1)+2*(isq n)+3:=by grind
   omega
  ·omega
def zXc (n:Int):Int:=isq n.toNat
theorem zYW {n:Int} (h:0≤n):0≤zXc n∧zXc n*zXc n≤n∧n < (zXc n+1)*(zXc n+1):=by
 obtain ⟨m,rfl⟩:=Int.eq_ofNat_of_zero_le h
 have ⟨h1,h2⟩:=jJo m
 simp only [zXc,Int.toNat_natCast]
 refine ⟨by omega,by exact_mod_cast h1,by exact_mod_cast h2⟩
theorem jQ3 {n k:Int} (h:0≤n) (hk:0≤k):k≤zXc n↔k*k≤n:=by
 obtain ⟨h0,h1,h2⟩:=zYW h
 constructor
 ·intro hl
  exact Int.le_trans (Int.mul_le_mul hl hl hk h0) h1
 ·intro hl
  apply Int.not_lt.1
  intro hlt
  have:(zXc n+1)*(zXc n+1)≤k*k:=Int.mul_le_mul hlt hlt (by omega) hk
  omega
theorem jQG {n k:Int} (h:0≤n) (hk:0≤k):zXc n < k↔n < k*k:=by
 have:=jQ3 h hk
 omega
structure Ex where
  p:Int
  q:Int
  r:Int
  d:Int
def Ex.up (x:Ex) (t:Int):Int:=t*x.p+zXc ((t*x.q)*(t*x.q)*x.r)
def Ex.floor (x:Ex):Int:=x.up 1 / x.d
def Ex.half (x:Ex):Int:=(x.up 2+x.d) / (2*x.d)
structure Ex.ok (x:Ex):Prop where
  p:0≤x.p
  q:0≤x.q
  r:0≤x.r
  d:0 < x.d
theorem zZe (a:Int):0≤a*a:=by
 rcases Int.le_total 0 a with h | h
 ·exact Int.mul_nonneg h h
 ·have:=Int.mul_nonneg (Int.neg_nonneg.2 h) (Int.neg_nonneg.2 h); grind
theorem Ex.up_nonneg {x:Ex} (h:x.ok) {t:Int} (ht:0≤t):0≤x.up t:=by
 have:=(zYW (Int.mul_nonneg (zZe (t*x.q)) h.r)).1
 have:=Int.mul_nonneg ht h.p
 unfold Ex.up; omega
theorem Ex.up_two {x:Ex} (h:x.ok):2*x.up 1≤x.up 2∧x.up 2≤2*x.up 1+1:=by
 have hn:0≤x.q*x.q*x.r:=Int.mul_nonneg (zZe _) h.r
 have e2:(2*x.q)*(2*x.q)*x.r=4*(x.q*x.q*x.r):=by grind
 unfold Ex.up
 rw [e2,Int.one_mul,Int.one_mul]
 generalize x.q*x.q*x.r=n at *
 obtain ⟨a0,a1,a2⟩:=zYW hn
 have b1:2*zXc n≤zXc (4*n):=(jQ3 (by omega) (by omega)).2 (by grind)
 have b2:zXc (4*n) < 2*zXc n+2:=(jQG (by omega) (by omega)).2 (by grind)
 omega
theorem Ex.half_floor {x:Ex} (h:x.ok):x.half=if (2*x.floor+1)*x.d≤x.up 2 then x.floor+1 else x.floor:=by
 have ⟨u1,u2⟩:=Ex.up_two h
 have hd:=h.d
 have e1:=Int.emod_add_mul_ediv (x.up 1) x.d
 have e2:=Int.emod_nonneg (x.up 1) (b:=x.d) (by omega)
 have e3:=Int.emod_lt_of_pos (x.up 1) hd
 unfold Ex.half
 change _=if (2*(x.up 1 / x.d)+1)*x.d≤_ then x.up 1 / x.d+1 else x.up 1 / x.d
 generalize x.up 1 / x.d=n at *
 generalize x.up 1 % x.d=m at *
 generalize x.up 1=A at *
 generalize x.up 2=B at *
 generalize x.d=d at *
 split
 ·rename_i hc
  rw [Int.ediv_eq_iff_of_pos (by omega)]
  constructor <;> grind
 ·rename_i hc
  rw [Int.ediv_eq_iff_of_pos (by omega)]
  constructor <;> grind
theorem Ex.half_le {x:Ex} (h:x.ok) {B:Int} (h1:x.p≤B) (h2:x.q*x.q*x.r≤(B - x.p)*(B - x.p)):x.half≤(2*B+x.d) / (2*x.d):=by
 apply Int.ediv_le_ediv (by have:=h.d; omega)
 have hn:0≤x.q*x.q*x.r:=Int.mul_nonneg (zZe _) h.r
 have e2:(2*x.q)*(2*x.q)*x.r=4*(x.q*x.q*x.r):=by grind
 have:zXc (4*(x.q*x.q*x.r)) < 2*(B - x.p)+1:=(jQG (by omega) (by omega)).2 (by grind)
 unfold Ex.up
 rw [e2]; omega
theorem Ex.half_nonneg {x:Ex} (h:x.ok):0≤x.half:=by
 have:=Ex.up_nonneg h (t:=2) (by omega)
 have:=h.d
 exact Int.ediv_nonneg (by omega) (by omega)
theorem Ex.half_whole {x:Ex} (hd:0 < x.d) {c:Int} (hq:x.q=0) (hp:x.p=c*x.d):x.half=c:=by
 have:x.up 2=2*(c*x.d):=by
  unfold Ex.up
  rw [hq,hp]
  simp [zXc,isq]
 unfold Ex.half
 rw [this,Int.ediv_eq_iff_of_pos (by omega)]
 constructor <;> grind
def zVJ (s a d b:Int):Int:=if 2*s≤a then 2*s*d else a*b - 2*(b - d)*(a - s)
def zJT (s a d b:Int):Ex:=
 if b=0 then ⟨0,0,0,1⟩
 else if 2*s≤a then ⟨d*a*b - (a - 2*s)*d*(b - d),0,0,b⟩
 else if 4*d≤b then ⟨d*a*(b*b)+(2*s - a)*d*(16*d*d+3*b*b - 12*d*b),0,0,b*b⟩
 else ⟨2*d*(a - s),2*s - a,d*b,1⟩
def zZl (p:Int):Ex:=⟨p,0,0,1⟩
def zQr (mode s a d b:Int):Ex:=
 if mode=1 then zZl (s*b)
 else if mode=2 then zZl (s*d)
 else if mode=3 then zZl (s*b+d*a - s*d)
 else if mode=4 then zZl (zVJ d b s a)
 else if mode=5 then zZl (min (s*b) (d*a))
 else if mode=6 then zZl (max (s*b) (d*a))
 else if mode=7 then if d=0 then zZl 0 else if d*a≥b*(a - s) then zZl (a*b) else ⟨a*a*d,0,0,a - s⟩
 else if mode=8 then if d=b then zZl (a*b) else if (b - d)*a≥s*b then zZl 0 else ⟨a*b*s - (b - d)*a*a,0,0,s⟩
 else if mode=9 then zZl (zVJ s a d b)
 else if mode=10 then zJT s a d b
 else if mode=11 then zZl (max (s*b) (d*a) - min (s*b) (d*a))
 else zZl (s*b+d*a - 2*s*d)
structure Ex.under (x:Ex) (B:Int):Prop where
  ok:x.ok
  p:x.p≤B*x.d
  q:x.q*x.q*x.r≤(B*x.d - x.p)*(B*x.d - x.p)
theorem zQ3 {n B:Int} (h0:0≤n) (h1:n≤B):(zZl n).under B:=
 ⟨⟨h0,by simp [zZl],by simp [zZl],by simp [zZl]⟩,by simp [zZl,h1],by simp [zZl]; exact zZe _⟩
theorem zQg {x y A B:Int} (h0:0≤x) (h1:x≤A) (h2:0≤y) (h3:y≤B):0≤x*y∧x*y≤A*B:=
 ⟨Int.mul_nonneg h0 h2,Int.mul_le_mul h1 h3 h2 (by omega)⟩
theorem zUZ {s a d b:Int} (h0:0≤s) (h1:s≤a) (h2:0≤d) (h3:d≤b):0≤zVJ s a d b∧zVJ s a d b≤a*b:=by
 unfold zVJ
 split
 ·rename_i h
  have:=zQg (x:=2*s) (A:=a) (by omega) h h2 h3
  exact this
 ·rename_i h
  have:=zQg (x:=b - d) (y:=2*(a - s)) (A:=b) (B:=a) (by omega) (by omega) (by omega) (by omega)
  have e:2*(b - d)*(a - s)=(b - d)*(2*(a - s)):=by grind
  have e2:a*b=b*a:=Int.mul_comm _ _
  rw [e]; omega
theorem jYW {d b:Int} (h2:0≤d) (h3:4*d≤b):0≤16*d*d+3*b*b - 12*d*b∧d*(b*b)+d*(16*d*d+3*b*b - 12*d*b)≤b*(b*b):=by
 have a1:=zZe (8*d - 3*b)
 have a2:=zZe b
 refine ⟨by grind,?_⟩
 have c1:0≤d*d*(3*b - 4*d):=Int.mul_nonneg (zZe d) (by omega)
 have c2:0≤(b*b)*(b - 4*d):=Int.mul_nonneg (zZe b) (by omega)
 grind
theorem zU7 {s a d b:Int} (h0:0≤s) (h1:s≤a) (h2:0≤d) (h3:d≤b):(zJT s a d b).under (a*b):=by
 unfold zJT
 split
 ·rename_i h; subst h; exact ⟨⟨by simp,by simp,by simp,by simp⟩,by simp,by simp⟩
 split
 ·rename_i hb h
  have m1:=zQg (x:=a - 2*s) (y:=d*(b - d)) (A:=a) (B:=d*b) (by omega) (by omega) (Int.mul_nonneg h2 (by omega)) (Int.mul_le_mul_of_nonneg_left (by omega) h2)
  have m2:=zQg (x:=d) (y:=a*b) (A:=b) (B:=a*b) h2 h3 (Int.mul_nonneg (by omega) (by omega)) (Int.le_refl _)
  have e1:(a - 2*s)*d*(b - d)=(a - 2*s)*(d*(b - d)):=by grind
  have e2:d*a*b=d*(a*b):=by grind
  have e3:a*b*b=b*(a*b):=by grind
  have e4:a*(d*b)=d*(a*b):=by grind
  exact ⟨⟨by simp only; omega,by simp,by simp,by simp only; omega⟩,by simp only; omega,by simp; exact zZe _⟩
 split
 ·rename_i hb hs h
  obtain ⟨k1,k2⟩:=jYW h2 h
  generalize hK:16*d*d+3*b*b - 12*d*b=K at *
  have m1:=zQg (x:=2*s - a) (y:=d*K) (A:=a) (B:=d*K) (by omega) (by omega) (Int.mul_nonneg h2 k1) (Int.le_refl _)
  have m2:a*(d*(b*b)+d*K)≤a*(b*(b*b)):=Int.mul_le_mul_of_nonneg_left k2 (by omega)
  have m3:0≤d*a*(b*b):=Int.mul_nonneg (Int.mul_nonneg h2 (by omega)) (zZe b)
  have m4:0 < b*b:=Int.mul_pos (by omega) (by omega)
  have e1:(2*s - a)*d*K=(2*s - a)*(d*K):=by grind
  have e2:d*a*(b*b)+a*(d*K)=a*(d*(b*b)+d*K):=by grind
  have e3:a*b*(b*b)=a*(b*(b*b)):=by grind
  exact ⟨⟨by simp only; omega,by simp,by simp,m4⟩,by simp only; omega,by simp; exact zZe _⟩
 ·rename_i hb hs h
  have m1:=zQg (x:=d) (y:=2*(a - s)) (A:=b) (B:=2*(a - s)) h2 h3 (by omega) (Int.le_refl _)
  have e1:2*d*(a - s)=d*(2*(a - s)):=by grind
  have q0:0≤2*s - a:=by omega
  have m2:0≤b*(2*s - a):=Int.mul_nonneg (by omega) q0
  have e2:a*b=b*(2*(a - s))+b*(2*s - a):=by grind
  have m3:b*(2*s - a)≤a*b*1 - 2*d*(a - s):=by omega
  have m4:(b*(2*s - a))*(b*(2*s - a))≤(a*b*1 - 2*d*(a - s))*(a*b*1 - 2*d*(a - s)):=Int.mul_le_mul m3 m3 m2 (by omega)
  have m5:(2*s - a)*(2*s - a)*(d*b)≤(2*s - a)*(2*s - a)*(b*b):=Int.mul_le_mul_of_nonneg_left (Int.mul_le_mul_of_nonneg_right h3 (by omega)) (zZe _)
  have e5:(2*s - a)*(2*s - a)*(b*b)=(b*(2*s - a))*(b*(2*s - a)):=by grind
  exact ⟨⟨by simp only; omega,q0,Int.mul_nonneg h2 (by omega),by simp⟩,by simp only; omega,by simp only; omega⟩
theorem zZx {mode s a d b:Int} (h0:0≤s) (h1:s≤a) (h2:0≤d) (h3:d≤b):(zQr mode s a d b).under (a*b):=by
 have m1:=zQg h0 h1 (show 0≤b by omega) (Int.le_refl b)
 have m2:=zQg h2 h3 (show 0≤a by omega) (Int.le_refl a)
 have m3:=zQg h0 h1 h2 h3
 have e:a*b=b*a:=Int.mul_comm _ _
 have x1:s*b+d*a - s*d=s*b+d*(a - s):=by grind
 have m4:=zQg (x:=d) (y:=a - s) (B:=a - s) h2 h3 (by omega) (Int.le_refl _)
 have x2:b*(a - s)=a*b - s*b:=by grind
 have x3:s*b+d*a - 2*s*d=s*(b - d)+d*(a - s):=by grind
 have m5:=zQg (x:=s) (y:=b - d) (B:=b - d) h0 h1 (by omega) (Int.le_refl _)
 have m6:=Int.mul_nonneg h2 (show 0≤a - s by omega)
 have m7:=Int.mul_nonneg h0 (show 0≤b - d by omega)
 have m8:=Int.mul_nonneg (show 0≤a - s by omega) (show 0≤b - d by omega)
 have x4:a*b=s*(b - d)+d*(a - s)+s*d+(a - s)*(b - d):=by grind
 unfold zQr
 by_cases c1:mode=1
 ·rw [if_pos c1]
  exact zQ3 (by omega) (by omega)
 rw [if_neg c1]
 by_cases c2:mode=2
 ·rw [if_pos c2]
  exact zQ3 (by omega) (by omega)
 rw [if_neg c2]
 by_cases c3:mode=3
 ·rw [if_pos c3]
  exact zQ3 (by omega) (by omega)
 rw [if_neg c3]
 by_cases c4:mode=4
 ·rw [if_pos c4]
  have:=zUZ h2 h3 h0 h1
  exact zQ3 (by omega) (by omega)
 rw [if_neg c4]
 by_cases c5:mode=5
 ·rw [if_pos c5]
  exact zQ3 (by omega) (by omega)
 rw [if_neg c5]
 by_cases c6:mode=6
 ·rw [if_pos c6]
  exact zQ3 (by omega) (by omega)
 rw [if_neg c6]
 by_cases c7:mode=7
 ·rw [if_pos c7]
  split
  ·exact zQ3 (by omega) (by omega)
  split
  ·exact zQ3 (by omega) (by omega)
  ·rename_i hd hlt
   have hp:0 < a - s:=by
    rcases Int.lt_or_le 0 (a - s) with h | h
    ·exact h
    ·have:a - s=0:=by omega
     rw [this] at hlt
     omega
   have n1:a*(d*a)≤a*(b*(a - s)):=Int.mul_le_mul_of_nonneg_left (by omega) (by omega)
   have n2:0≤a*a*d:=Int.mul_nonneg (zZe a) h2
   have y1:a*a*d=a*(d*a):=by grind
   have y2:a*b*(a - s)=a*(b*(a - s)):=by grind
   exact ⟨⟨n2,by simp,by simp,hp⟩,by simp only; omega,by simp; exact zZe _⟩
 rw [if_neg c7]
 by_cases c8:mode=8
 ·rw [if_pos c8]
  split
  ·exact zQ3 (by omega) (by omega)
  split
  ·exact zQ3 (by omega) (by omega)
  ·rename_i hd hlt
   have hp:0 < s:=by
    rcases Int.lt_or_le 0 s with h | h
    ·exact h
    ·have:s=0:=by omega
     rw [this] at hlt
     have:=Int.mul_nonneg (show 0≤b - d by omega) (show 0≤a by omega)
     omega
   have n1:a*((b - d)*a)≤a*(s*b):=Int.mul_le_mul_of_nonneg_left (by omega) (by omega)
   have n2:0≤(b - d)*a*a:=Int.mul_nonneg (Int.mul_nonneg (by omega) (by omega)) (by omega)
   have y1:(b - d)*a*a=a*((b - d)*a):=by grind
   have y2:a*b*s=a*(s*b):=by grind
   exact ⟨⟨by simp only; omega,by simp,by simp,hp⟩,by simp only; omega,by simp; exact zZe _⟩
 rw [if_neg c8]
 by_cases c9:mode=9
 ·rw [if_pos c9]
  have:=zUZ h0 h1 h2 h3
  exact zQ3 (by omega) (by omega)
 rw [if_neg c9]
 by_cases c10:mode=10
 ·rw [if_pos c10]
  exact zU7 h0 h1 h2 h3
 rw [if_neg c10]
 by_cases c11:mode=11
 ·rw [if_pos c11]
  exact zQ3 (by omega) (by omega)
 rw [if_neg c11]
 exact zQ3 (by omega) (by omega)
theorem zJo {n m:Int} (hm:0 < m):zQE n m=(2*n+m) / (2*m):=by
 unfold zQE
 rw [if_neg (by omega)]
 have e1:=Int.emod_add_mul_ediv n m
 have e2:=Int.emod_nonneg n (b:=m) (by omega)
 have e3:=Int.emod_lt_of_pos n hm
 generalize n / m=q at *
 generalize n % m=r at *
 symm
 rw [Int.ediv_eq_iff_of_pos (by omega)]
 split <;> constructor <;> grind
theorem zZ5 {n k m:Int} (hm:0 < m) (h:n≤k):zQE n m≤zQE k m:=by
 rw [zJo hm,zJo hm]
 exact Int.ediv_le_ediv (by omega) (by omega)
theorem zKP {c m:Int} (hm:0 < m):zQE (m*c) m=c:=by
 rw [zJo hm,Int.ediv_eq_iff_of_pos (by omega)]
 constructor <;> grind
theorem zYD {n m:Int} (hm:0 < m) (h:0≤n):0≤zQE n m:=by
 rw [zJo hm]
 exact Int.ediv_nonneg (by omega) (by omega)
theorem zXb {n m k:Int} (hm:0 < m) (h:n≤m*k):zQE n m≤k:=by
 have:=zZ5 hm h
 rwa [zKP hm] at this
def facA (op a b m:Int):Int:=
 if op=2 then m else if op=3 then 0 else if op=4 then m else if op=5 then m - b else if op=6 then b else if op=7 then 0
 else if op=8 then m - b else if op=9 then 0 else if op=10 then b else if op=11 then m - b else if op=12 then m - b else 0
def facB (op a b m:Int):Int:=
 if op=2 then 0 else if op=3 then m else if op=4 then m - a else if op=5 then m else if op=6 then 0 else if op=7 then a
 else if op=8 then 0 else if op=9 then m - a else if op=10 then m - a else if op=11 then a else if op=12 then m - a else 0
def zXA (op a b m:Int):Int:=zQE (facA op a b m*a+facB op a b m*b) m
def zYu (op f g m:Int):Int:=
 if op=2∨op=8∨op=11 then f
 else if op=3∨op=9∨op=10 then g
 else if op=4∨op=5∨op=12 then zQE (m*f+(m - f)*g) m
 else if op=6∨op=7 then zQE (f*g) m
 else 0
def valS (op mode m s a d b:Int):Ex:=
 let t:=zQr mode s a d b
 ⟨t.p*facA op a b m+(m - b)*s*facA op a b m*t.d+facB op a b m*d*m*t.d,facA op a b m*t.q,t.r,m*m*t.d⟩
def colS (op mode m s a d b:Int):Int:=(valS op mode m s a d b).half
def knoX (mode m s a f c d b:Int):Ex:=
 let t:=zQr mode s a d b
 ⟨t.p+((m - f)*c+(f - a)*d+(m - b)*s)*t.d,t.q,t.r,m*t.d⟩
def knoC (mode m s a f c d b:Int):Int:=(knoX mode m s a f c d b).half
def knoA (m a f acc b:Int):Int:=zQE ((m - f)*acc+(f - a)*b+m*a) m
theorem jJA {op a b m:Int} (h0:0≤a) (h1:a≤m) (h2:0≤b) (h3:b≤m):(0≤facA op a b m∧facA op a b m≤m)∧0≤facB op a b m∧facB op a b m≤m:=by
 have key:∀ (c:Prop) [Decidable c] (x y:Int),0≤x∧x≤m→0≤y∧y≤m→0≤(if c then x else y)∧(if c then x else y)≤m:=fun c _ x y hx hy=>by split <;> assumption
 unfold facA facB
 constructor <;> (repeat' (first | apply key | omega))
theorem jZw {op mode m s a d b:Int} (hm:0 < m) (h0:0≤s) (h1:s≤a) (h2:a≤m) (h3:0≤d) (h4:d≤b) (h5:b≤m) :
  let x:=valS op mode m s a d b
  let B:=(zQr mode s a d b).d*m*(facA op a b m*a+facB op a b m*b)
  x.ok∧x.p≤B∧x.q*x.q*x.r≤(B - x.p)*(B - x.p):=by
 have hu:=zZx (mode:=mode) h0 h1 h3 h4
 have ⟨⟨a0,a1⟩,b0,b1⟩:=jJA (op:=op) (show 0≤a by omega) h2 (show 0≤b by omega) h5
 simp only [valS]
 generalize facA op a b m=A at *
 generalize facB op a b m=F at *
 generalize zQr mode s a d b=t at *
 obtain ⟨p,q,r,e⟩:=t
 obtain ⟨⟨p0,q0,r0,e0⟩,p1,q1⟩:=hu
 simp only at *
 have n1:0≤p*A:=Int.mul_nonneg p0 a0
 have n2:p*A≤(a*b*e)*A:=Int.mul_le_mul_of_nonneg_right p1 a0
 have w0:0≤A*e:=Int.mul_nonneg a0 (by omega)
 have n3:=zQg (x:=(m - b)*s) (y:=A*e) (A:=(m - b)*a) (B:=A*e) (Int.mul_nonneg (by omega) h0) (Int.mul_le_mul_of_nonneg_left h1 (by omega)) w0 (Int.le_refl _)
 have v0:0≤F*(m*e):=Int.mul_nonneg b0 (Int.mul_nonneg (by omega) (by omega))
 have n4:=zQg (x:=d) (y:=F*(m*e)) (A:=b) (B:=F*(m*e)) h3 h4 v0 (Int.le_refl _)
 have e1:(m - b)*s*A*e=(m - b)*s*(A*e):=by grind
 have e2:F*d*m*e=d*(F*(m*e)):=by grind
 have key:e*m*(A*a+F*b)=(a*b*e)*A+(m - b)*a*(A*e)+b*(F*(m*e)):=by grind
 have low:A*(a*b*e - p)≤e*m*(A*a+F*b) - (p*A+(m - b)*s*A*e+F*d*m*e):=by
  rw [key,e1,e2]
  have:A*(a*b*e - p)=(a*b*e)*A - p*A:=by grind
  omega
 have lp:0≤A*(a*b*e - p):=Int.mul_nonneg a0 (by omega)
 refine ⟨⟨by simp only; omega,Int.mul_nonneg a0 q0,r0,Int.mul_pos (Int.mul_pos hm hm) e0⟩,by omega,?_⟩
 have s1:=Int.mul_le_mul low low lp (by omega)
 have s2:(A*A)*(q*q*r)≤(A*A)*((a*b*e - p)*(a*b*e - p)):=Int.mul_le_mul_of_nonneg_left q1 (zZe A)
 have s3:A*q*(A*q)*r=(A*A)*(q*q*r):=by grind
 have s4:A*(a*b*e - p)*(A*(a*b*e - p))=(A*A)*((a*b*e - p)*(a*b*e - p)):=by grind
 rw [s3]
 exact Int.le_trans s2 (by rw [← s4]; exact s1)
theorem zG5 {n m k:Int} (hm:0 < m) (hk:0 < k):(2*(k*n)+k*m) / (2*(k*m))=(2*n+m) / (2*m):=by
 have e1:2*(k*n)+k*m=k*(2*n+m):=by grind
 have e2:2*(k*m)=k*(2*m):=by grind
 rw [e1,e2,Int.mul_ediv_mul_of_pos _ _ hk]
theorem jZj {op mode m s a d b:Int} (hm:0 < m) (h0:0≤s) (h1:s≤a) (h2:a≤m) (h3:0≤d) (h4:d≤b) (h5:b≤m) :
  0≤colS op mode m s a d b∧colS op mode m s a d b≤zXA op a b m:=by
 have ⟨ok,l1,l2⟩:=jZw (op:=op) (mode:=mode) hm h0 h1 h2 h3 h4 h5
 have hd:=(zZx (mode:=mode) h0 h1 h3 h4).ok.d
 refine ⟨Ex.half_nonneg ok,?_⟩
 have:=Ex.half_le ok l1 l2
 unfold colS zXA
 rw [zJo hm]
 refine Int.le_trans this ?_
 have e1:(valS op mode m s a d b).d=(m*(zQr mode s a d b).d)*m:=by simp only [valS]; grind
 rw [e1]
 have e2:(zQr mode s a d b).d*m*(facA op a b m*a+facB op a b m*b)=(m*(zQr mode s a d b).d)*(facA op a b m*a+facB op a b m*b):=by grind
 rw [e2,zG5 hm (Int.mul_pos hm hd)]
 exact Int.le_refl _
theorem jXb {mode m s a f c A d b:Int} (hm:0 < m) (h0:0≤s) (h1:s≤a) (h2:a≤f) (h2':f≤m) (h3:0≤d) (h4:d≤b) (h5:b≤m) (h6:0≤c) (h7:c≤A) :
  let x:=knoX mode m s a f c d b
  let B:=(zQr mode s a d b).d*((m - f)*A+(f - a)*b+m*a)
  x.ok∧x.p≤B∧x.q*x.q*x.r≤(B - x.p)*(B - x.p):=by
 have hu:=zZx (mode:=mode) h0 h1 h3 h4
 simp only [knoX]
 generalize zQr mode s a d b=t at *
 obtain ⟨p,q,r,e⟩:=t
 obtain ⟨⟨p0,q0,r0,e0⟩,p1,q1⟩:=hu
 simp only at *
 have n1:=zQg (x:=m - f) (y:=c) (A:=m - f) (B:=A) (by omega) (Int.le_refl _) h6 h7
 have n2:=zQg (x:=f - a) (y:=d) (A:=f - a) (B:=b) (by omega) (Int.le_refl _) h3 h4
 have n3:=zQg (x:=m - b) (y:=s) (A:=m - b) (B:=a) (by omega) (Int.le_refl _) h0 h1
 have n4:=zQg (x:=(m - f)*c+(f - a)*d+(m - b)*s) (y:=e) (A:=(m - f)*A+(f - a)*b+(m - b)*a) (B:=e) (by omega) (by omega) (by omega) (Int.le_refl _)
 have key:e*((m - f)*A+(f - a)*b+m*a)=a*b*e+((m - f)*A+(f - a)*b+(m - b)*a)*e:=by grind
 have low:a*b*e - p≤e*((m - f)*A+(f - a)*b+m*a) - (p+((m - f)*c+(f - a)*d+(m - b)*s)*e):=by omega
 refine ⟨⟨by simp only; omega,q0,r0,Int.mul_pos hm e0⟩,by omega,?_⟩
 exact Int.le_trans q1 (Int.mul_le_mul low low (by omega) (by omega))
theorem jQ6 {mode m s a f c A d b:Int} (hm:0 < m) (h0:0≤s) (h1:s≤a) (h2:a≤f) (h2':f≤m) (h3:0≤d) (h4:d≤b) (h5:b≤m) (h6:0≤c) (h7:c≤A) :
  0≤knoC mode m s a f c d b∧knoC mode m s a f c d b≤knoA m a f A b:=by
 have ⟨ok,l1,l2⟩:=jXb (mode:=mode) hm h0 h1 h2 h2' h3 h4 h5 h6 h7
 have hd:=(zZx (mode:=mode) h0 h1 h3 h4).ok.d
 refine ⟨Ex.half_nonneg ok,?_⟩
 have:=Ex.half_le ok l1 l2
 unfold knoC knoA
 rw [zJo hm]
 refine Int.le_trans this ?_
 have e1:(knoX mode m s a f c d b).d=(zQr mode s a d b).d*m:=by simp only [knoX]; grind
 rw [e1,zG5 hm hd]
 exact Int.le_refl _
theorem jQ7 {m a f acc b:Int} (hm:0 < m) (h0:0≤a) (h1:a≤f) (h2:f≤m) (h3:0≤acc) (h4:acc≤m) (h5:0≤b) (h6:b≤m):0≤knoA m a f acc b∧knoA m a f acc b≤m:=by
 have n1:=zQg (x:=m - f) (y:=acc) (A:=m - f) (B:=m) (by omega) (Int.le_refl _) h3 h4
 have n2:=zQg (x:=f - a) (y:=b) (A:=f - a) (B:=m) (by omega) (Int.le_refl _) h5 h6
 have n3:=Int.mul_nonneg (show 0≤m by omega) h0
 refine ⟨zYD hm (by omega),zXb hm ?_⟩
 have:m*m=(m - f)*m+(f - a)*m+m*a:=by grind
 omega
theorem zHh {op a b m:Int} (hm:0 < m) (h0:0≤a) (h1:a≤m) (h2:0≤b) (h3:b≤m):0≤zXA op a b m:=by
 have ⟨⟨a0,a1⟩,b0,b1⟩:=jJA (op:=op) h0 h1 h2 h3
 have:=Int.mul_nonneg a0 h0
 have:=Int.mul_nonneg b0 h2
 exact zYD hm (by omega)
theorem zXV {op a f b g m:Int} (hm:0 < m) (h0:0≤a) (h1:a≤f) (h2:f≤m) (h3:0≤b) (h4:b≤g) (h5:g≤m):zXA op a b m≤zYu op f g m∧zYu op f g m≤m:=by
 have n1:=zQg (x:=m - f) (y:=m - g) (A:=m) (B:=m) (by omega) (by omega) (by omega) (by omega)
 have n2:=zQg (x:=m - a) (y:=m - b) (A:=m) (B:=m) (by omega) (by omega) (by omega) (by omega)
 have n3:=zQg h0 h1 h3 h4
 have n4:=Int.mul_nonneg (show 0≤f - a by omega) (show 0≤m - g by omega)
 have n5:=Int.mul_nonneg (show 0≤g - b by omega) (show 0≤m - a by omega)
 have n6:=Int.mul_nonneg h0 h3
 have n7:=zQg (x:=f) (y:=g) (A:=f) (B:=m) (by omega) (Int.le_refl _) (by omega) h5
 have e1:m*f+(m - f)*g=m*m - (m - f)*(m - g):=by grind
 have e2:m*f+(m - f)*g=m*a+(m - a)*b+(f - a)*(m - g)+(g - b)*(m - a):=by grind
 have cz:0≤m:=by omega
 unfold zXA zYu facA facB
 by_cases c1:op=2
 ·subst c1; simp only [if_true,true_or,if_pos]
  exact ⟨zXb hm (by have:=Int.mul_le_mul_of_nonneg_left h1 cz; grind),h2⟩
 by_cases c2:op=3
 ·subst c2; simp
  exact ⟨zXb hm (by have:=Int.mul_le_mul_of_nonneg_left h4 cz; grind),h5⟩
 by_cases c3:op=4
 ·subst c3; simp
  exact ⟨zZ5 hm (by omega),zXb hm (by omega)⟩
 by_cases c4:op=5
 ·subst c4; simp
  exact ⟨zZ5 hm (by grind),zXb hm (by omega)⟩
 by_cases c5:op=6
 ·subst c5; simp
  exact ⟨zZ5 hm (by grind),zXb hm (by have:=Int.mul_le_mul_of_nonneg_right h2 (show 0≤m by omega); omega)⟩
 by_cases c6:op=7
 ·subst c6; simp
  exact ⟨zZ5 hm (by grind),zXb hm (by have:=Int.mul_le_mul_of_nonneg_right h2 (show 0≤m by omega); omega)⟩
 by_cases c7:op=8
 ·subst c7; simp
  exact ⟨zXb hm (by have:=Int.mul_le_mul_of_nonneg_left h1 cz; grind),h2⟩
 by_cases c8:op=9
 ·subst c8; simp
  exact ⟨zXb hm (by have:=Int.mul_le_mul_of_nonneg_left h4 cz; grind),h5⟩
 by_cases c9:op=10
 ·subst c9; simp
  exact ⟨zXb hm (by have:=Int.mul_le_mul_of_nonneg_left h4 cz; grind),h5⟩
 by_cases c10:op=11
 ·subst c10; simp
  exact ⟨zXb hm (by have:=Int.mul_le_mul_of_nonneg_left h1 cz; grind),h2⟩
 by_cases c11:op=12
 ·subst c11; simp
  exact ⟨zZ5 hm (by grind),zXb hm (by omega)⟩
 ·simp only [if_neg c1,if_neg c2,if_neg c3,if_neg c4,if_neg c5,if_neg c6,if_neg c7,if_neg c8,if_neg c9,if_neg c10,if_neg c11,c1,c2,c3,c4,c5,c6,c7,c8,c9,c10,c11,or_self]
  simp [zQE]
  omega
def atS (l:List Int) (i:Int):Int:=if i < 0 then 0 else (l[i.toNat]?).getD 0
def upto (n:Nat):List Int:=(List.range n).map Int.ofNat
theorem zVW (n:Nat):(upto n).length=n:=by simp [upto]
theorem jKt (n:Nat):upto (n+1)=upto n++[(n:Int)]:=by simp [upto,List.range_succ]
def stp (l:List Int) (n:Nat):Nat→List Int × List Int
 | 0=>(upto n,[])
 | i+1=>
  let s:=stp l n i
  let k:=(modS (atS l i) s.1.length).toNat
  (s.1.take k++s.1.drop (k+1),s.2++[(s.1[k]?).getD 0])
theorem jUO (l:List Int) (k:Nat):(is l).take k=is (l.take k):=by simp [is,List.map_take]
theorem jUP (l:List Int) (k:Nat):(is l).drop k=is (l.drop k):=by simp [is,List.map_drop]
theorem zKN (l m:List Int):is l++is m=is (l++m):=by simp [is]
theorem jVG {k N:Nat} (h:k < N):(is (upto k)++List.replicate (N - k) (DV.int .i64 0)).set k (.int .i64 k)=is (upto (k+1))++List.replicate (N - (k+1)) (DV.int .i64 0):=by
 have hl:(is (upto k)).length=k:=by rw [zQH,zVW]
 rw [List.set_append_right _ _ (by omega),hl,Nat.sub_self,show N - k=(N - (k+1))+1 by omega,List.replicate_succ,List.set_cons_zero,jKt,← zKN]
 simp [is]
def zJL (l:List Int) (n:Int):List Int:=if l.length=0∨64 < n then [] else (stp l n.toNat n.toNat).2
theorem jYr {v:Int} {m:Nat} (hm:1≤m) (hm':m≤1000000):0≤modS v m∧(modS v m).toNat < m:=by
 rw [jVf (by omega) (by omega)]
 have:=Int.emod_nonneg v (show (m:Int)≠0 by omega)
 have:=Int.emod_lt_of_pos v (show 0 < (m:Int) by omega)
 omega
theorem zU6 (l:List Int) {n:Nat} (hn:n≤64):∀ i,i≤n→(stp l n i).1.length=n - i∧(stp l n i).2.length=i
 | 0,_=>by simp [stp,zVW]
 | i+1,h=>by
  obtain ⟨h1,h2⟩:=zU6 l hn i (by omega)
  have hk:=jYr (v:=atS l i) (m:=(stp l n i).1.length) (by omega) (by omega)
  simp only [stp,List.length_append,List.length_take,List.length_drop,List.length_cons,List.length_nil]
  omega
theorem jYU (l:List Int) {n:Nat} (hn:n≤64):∀ i,i≤n→((stp l n i).2++(stp l n i).1).Perm (upto n)
 | 0,_=>by simp [stp]
 | i+1,h=>by
  obtain ⟨h1,h2⟩:=zU6 l hn i (by omega)
  have hk:=jYr (v:=atS l i) (m:=(stp l n i).1.length) (by omega) (by omega)
  have ih:=jYU l hn i (by omega)
  simp only [stp]
  generalize (stp l n i).1=r at *
  generalize (stp l n i).2=o at *
  generalize (modS (atS l i) r.length).toNat=k at *
  have e:r=r.take k++r[k]::r.drop (k+1):=by rw [← List.drop_eq_getElem_cons hk.2,List.take_append_drop]
  rw [List.getElem?_eq_getElem hk.2,Option.getD_some,List.append_assoc]
  refine List.Perm.trans ?_ ih
  refine List.Perm.append_left o ?_
  conv=>rhs; rw [e]
  simp only [List.singleton_append]
  exact List.perm_middle.symm
theorem jJ1 {l:List Int} {n:Int} (h:l.length≠0) (hn:n≤64):(zJL l n).Perm (upto n.toNat):=by
 have h1:=jYU l (n:=n.toNat) (by omega) n.toNat (Nat.le_refl _)
 have h2:=zU6 l (n:=n.toNat) (by omega) n.toNat (Nat.le_refl _)
 have e:(stp l n.toNat n.toNat).1=[]:=List.eq_nil_of_length_eq_zero (by omega)
 rw [e,List.append_nil] at h1
 unfold zJL
 rw [if_neg (by omega)]
 exact h1
def seqL (l:List Int) (n:Int):List Int:=if l.length=0 then upto n.toNat else l
def zJ8 (s:List Int) (n:Int):Prop:=(∀ v∈s,0≤v∧v < n)∧s.Nodup
instance (s:List Int) (n:Int):Decidable (zJ8 s n):=by unfold zJ8; infer_instance
def zZC (l:List Int) (n:Int):Bool:=decide (0≤n) && decide (n≤16777216) && (decide (l.length=0) || decide ((l.length:Int)=n)) && decide (zJ8 (seqL l n) n)
def zXi (l:List Int) (n:Int):List Int:=if zZC l n then seqL l n else []
def zYd (s:List Int) (N:Nat):List DV:=(List.range N).map fun v=>.bool (s.contains (Int.ofNat v))
theorem zGb (s:List Int) (N:Nat):(zYd s N).length=N:=by simp [zYd]
theorem jYX (s:List Int) {N:Nat} {v:Int} (h0:0≤v) (h1:v < N):(zYd s N)[v.toNat]?=some (.bool (s.contains v)):=by
 have e:Int.ofNat v.toNat=v:=by simp; omega
 simp only [zYd,List.getElem?_map,List.getElem?_range (show v.toNat < N by omega),Option.map_some,e]
theorem jKN (s:List Int) {N:Nat} {v:Int} (h0:0≤v) (h1:v < N):bAt (zYd s N) v.toNat=s.contains v:=by
 simp only [bAt,jYX s h0 h1]
theorem jKM (s:List Int) {N:Nat} {v:Int} (h0:0≤v):(zYd s N).set v.toNat (.bool true)=zYd (s++[v]) N:=by
 apply List.ext_getElem?
 intro i
 rw [List.getElem?_set]
 by_cases hi:i < N
 ·simp only [zYd,List.length_map,List.length_range,List.getElem?_map,List.getElem?_range hi,Option.map_some]
  by_cases e:v.toNat=i
  ·have e2:Int.ofNat i=v:=by simp; omega
   rw [if_pos e,if_pos (by omega),e2]
   simp
  ·have e2:¬ Int.ofNat i=v:=by simp; omega
   rw [if_neg e]
   congr 2
   rw [Bool.eq_iff_iff]
   simp only [List.contains_iff_mem,List.mem_append,List.mem_singleton,e2,or_false]
 ·have n1:∀ t:List Int,(zYd t N)[i]?=none:=fun t=>List.getElem?_eq_none (by rw [zGb]; omega)
  rw [n1,n1]
  split
  ·split
   ·rw [zGb] at *; omega
   ·rfl
  ·rfl
theorem zKz {S:List Int} {k:Nat} (hk:k < S.length):S.take (k+1)=S.take k++[S[k]]:=by
 rw [List.take_add_one,List.getElem?_eq_getElem hk,Option.toList_some]
theorem jVw {S:List Int} {m:Int} {k:Nat} (hk:k < S.length) (hg:zJ8 (S.take k) m) (h0:0≤S[k]) (h1:S[k] < m) (hc:(S.take k).contains S[k]=false):zJ8 (S.take (k+1)) m:=by
 rw [zKz hk]
 refine ⟨fun v hv=>?_,?_⟩
 ·rcases List.mem_append.1 hv with hv | hv
  ·exact hg.1 v hv
  ·rw [List.mem_singleton.1 hv]; exact ⟨h0,h1⟩
 ·rw [List.nodup_append]
  refine ⟨hg.2,by simp,fun a ha b hb e=>?_⟩
  rw [List.mem_singleton] at hb
  subst hb e
  have:(S.take k).contains S[k]=true:=by simpa using ha
  rw [hc] at this; cases this
theorem jVY {S:List Int} {m:Int} {k:Nat} (hk:k < S.length) (h:S[k] < 0∨m≤S[k]∨(S.take k).contains S[k]=true):¬ zJ8 S m:=by
 rintro ⟨g1,g2⟩
 have:=g1 S[k] (List.getElem_mem hk)
 rcases h with h | h | h
 ·omega
 ·omega
 ·have hm:S[k]∈S.take k:=by simpa using h
  have e:S=S.take (k+1)++S.drop (k+1):=(List.take_append_drop _ _).symm
  rw [e,zKz hk,List.append_assoc,List.nodup_append] at g2
  exact g2.2.2 _ hm _ (List.mem_append_left _ (List.mem_singleton.2 rfl)) rfl
theorem jZZ {S:List Int} {m:Int} {k:Nat} (h0:0≤m) (hM:m≤16777216) (hS:S.length=m.toNat) (hk:k < S.length) (hg:zJ8 (S.take k) m) {v:Int} (hv:v=S[k]) {Bad:Prop} (hBad:¬ zJ8 S m→Bad) :
  (¬ v < 0→(¬ v≥m→(0≤v∧v < (m.toNat:Int))∧(zYd (S.take k) m.toNat)[v.toNat*1]?=some (.bool (bAt (zYd (S.take k) m.toNat) (v.toNat*1))) ∧
   (bAt (zYd (S.take k) m.toNat) (v.toNat*1)=true→Bad) ∧
   (bAt (zYd (S.take k) m.toNat) (v.toNat*1)=false→(0≤v∧v < (m.toNat:Int))∧v.toNat*1+1≤(zYd (S.take k) m.toNat).length∧zZL 1 8 k 1 (is (S.take k)) [.int .i64 v] ∧
    ∃ k':Nat,(k'≤m.toNat∧zJ8 (S.take k') m)∧m.toNat - k' < m.toNat - k∧(k+1=k'∧wrap .i64 ((k:Int)+1)=(k':Int))∧(zYd (S.take k) m.toNat).set (v.toNat*1) (.bool true)=zYd (S.take k') m.toNat∧is (S.take k)++[.int .i64 v]=is (S.take k'))) ∧
   (v≥m→Bad))∧(v < 0→Bad):=by
 subst hv
 refine ⟨fun a=>⟨fun b=>?_,fun b=>hBad (jVY hk (.inr (.inl b)))⟩,fun a=>hBad (jVY hk (.inl a))⟩
 have hlt:S[k] < (m.toNat:Int):=by omega
 simp only [Nat.mul_one,jKN (S.take k) (show 0≤S[k] by omega) hlt,jYX (S.take k) (show 0≤S[k] by omega) hlt,jKM (S.take k) (show 0≤S[k] by omega),zGb]
 refine ⟨⟨by omega,hlt⟩,trivial,fun c=>hBad (jVY hk (.inr (.inr c))),fun c=>⟨⟨by omega,hlt⟩,by omega,⟨?_,rfl,by unfold maxLen; omega,by omega⟩,k+1,⟨by omega,jVw hk hg (by omega) (by omega) c⟩,by omega,⟨rfl,?_⟩,by rw [zKz hk],by rw [zKz hk,← zKN]; rfl⟩⟩
 ·rw [zQH,List.length_take]; omega
 ·rw [IntWalk.i64_in _ ⟨by omega,by omega⟩]; omega
theorem jQA {l:List Int} {m:Int} (h:l.length=0∨(l.length:Int)=m):(seqL l m).length=m.toNat:=by
 unfold seqL
 split
 ·exact zVW _
 ·rcases h with h | h <;> omega
theorem jQO {l:List Int} {m:Int} (h0:0≤m) (hM:m≤16777216) (h:l.length=0∨(l.length:Int)=m) (hg:zJ8 (seqL l m) m):zZC l m=true∧zXi l m=seqL l m:=by
 have e:zZC l m=true:=by simp [zZC,h0,hM,hg]; rcases h with h | h <;> simp_all
 exact ⟨e,by simp [zXi,e]⟩
theorem jZ0 {l:List Int} {m:Int} (h:m < 0∨16777216 < m∨(l.length≠0∧(l.length:Int)≠m)∨¬ zJ8 (seqL l m) m):zZC l m=false∧zXi l m=[]:=by
 have e:zZC l m=false:=by
  cases ho:zZC l m with
  | false=>rfl
  | true=>
   simp only [zZC,Bool.and_eq_true,Bool.or_eq_true,decide_eq_true_eq] at ho
   obtain ⟨⟨⟨a,b⟩,c⟩,d⟩:=ho
   rcases h with h | h | h | h
   ·omega
   ·omega
   ·rcases c with c | c
    ·exact absurd c h.1
    ·exact absurd c h.2
   ·exact absurd d h
 exact ⟨e,by simp [zXi,e]⟩
def zXR (S:List Int) (k:Nat):List DV:=is (S.take k)++List.replicate (S.length - k) (DV.int .i64 0)
theorem zWu {S:List Int} {k:Nat} (h:k≤S.length):(zXR S k).length=S.length:=by
 unfold zXR
 rw [List.length_append,zQH,List.length_take,List.length_replicate]; omega
theorem jXC {S:List Int} {k:Nat} (h:k < S.length) {v:Int} (hv:v=S[k]):(zXR S k).set k (.int .i64 v)=zXR S (k+1):=by
 subst hv
 have hl:(is (S.take k)).length=k:=by rw [zQH,List.length_take]; omega
 unfold zXR
 rw [List.set_append_right _ _ (by omega),hl,Nat.sub_self,show S.length - k=(S.length - (k+1))+1 by omega,List.replicate_succ,List.set_cons_zero,zKz h,← zKN]
 simp [is]
theorem jZf {S:List Int} {k:Nat} (h:k < S.length):(zXR S (k+1))[k]?=some (.int .i64 S[k]):=by
 unfold zXR
 have hl:k < (S.take (k+1)).length:=by rw [List.length_take]; omega
 rw [List.getElem?_append_left (by rw [zQH]; exact hl),jYv hl]
 simp
theorem jXD {S:List Int} {k:Nat} (h:k < S.length):nAt (zXR S (k+1)) k=S[k]:=by simp only [nAt,jZf h]
theorem jXE (S:List Int):zXR S S.length=is S:=by simp [zXR]
theorem jUk {n:Nat} {xs:List DV} (hn:xs.length=n) (hx:∀ (j:Nat) d,xs[j]?=some d→∃ v,d=.int .i64 v):xs=is (ints xs)∧n=xs.length:=by
 refine ⟨?_,hn.symm⟩
 clear hn
 induction xs with
 | nil=>rfl
 | cons x xs ih=>
  obtain ⟨v,rfl⟩:=hx 0 _ rfl
  have:=ih fun j d hj=>hx (j+1) d hj
  simp only [is,ints,List.map_cons] at this ⊢
  rw [← this]
theorem zGV {n:Int} (h:0≤n):zJ8 (upto n.toNat) n:=by
 refine ⟨fun v hv=>?_,?_⟩
 ·simp only [upto,List.mem_map,List.mem_range] at hv
  obtain ⟨i,hi,rfl⟩:=hv
  simp; omega
 ·exact List.Pairwise.map Int.ofNat (fun a b hab e=>hab (Int.ofNat.inj e)) List.nodup_range
theorem jVx {s t:List Int} {n:Int} (hp:s.Perm t) (h:zJ8 t n):zJ8 s n:=
 ⟨fun v hv=>h.1 v (hp.mem_iff.1 hv),hp.nodup_iff.2 h.2⟩
theorem jUH {l:List Int} {n:Int} (h0:0≤n) (h1:n≤64):zZC (zJL l n) n=true∧zXi (zJL l n) n=seqL (zJL l n) n:=by
 by_cases hl:l.length=0
 ·have e:zJL l n=[]:=by simp [zJL,hl]
  rw [e]
  exact jQO h0 (by omega) (.inl rfl) (by simpa [seqL] using zGV h0)
 ·have hp:=jJ1 hl h1
  have hlen:=hp.length_eq
  rw [zVW] at hlen
  refine jQO h0 (by omega) (.inr (by omega)) ?_
  unfold seqL
  split
  ·exact zGV h0
  ·exact jVx hp (zGV h0)
end Go.Proofs.YtbnmadpcdlnleaaGreatDoor
