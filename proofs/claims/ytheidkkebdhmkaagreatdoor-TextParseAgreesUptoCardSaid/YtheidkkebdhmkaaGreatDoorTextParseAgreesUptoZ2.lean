/-
  Part 2 of what TextParseAgreesUpto rests on.
-/
import Derived.Test.YtheidkkebdhmkaaGreatDoorTextParseAgreesUptoZ1
import Derived.OrdersIn
import Derived.Deep.LoopGhost
import Derived.WideShapes
import Derived.Test.YtheidkkebdhmkaaGreatDoorProg
namespace Go.Proofs.YtheidkkebdhmkaaGreatDoor
open Go.RowKit
set_option linter.unusedVariables false
set_option linter.unusedSimpArgs false
set_option maxRecDepth 20000
def Cap.av:Cap→AV
 | .d v=>.one (.d v)
 | .ptr b off=>.one (.ptr b off)
def zWx (dst:Option Nat) (bs:List Nat) (nnew:Nat):List Nat:=
 let base:=match dst with
  | some d=>d
  | none=>maxL bs
 (List.range nnew).map fun i=>base+1000*(i+1)
def zVn (l1:List Nat) (B1:List Bx):List Nat:=(nubN (B1.flatMap Bx.names)).filter fun x=>!l1.contains x
def zWm (P:Program) (Γ:Gam) (dst:Option Nat) (f:FuncId) (xs:List AV):Option Eff2:=
 match Γ.modes f,enters P f with
 | some (ms,pin,nnew),true=>
  let l0:=zX8 ms xs
  let l1:=nubN (zZ4 ms xs)
  some ⟨l0++l1,fun bs1=>let l2:=zVn l1 (bs1.drop l0.length); l2++zWx dst (l1++l2) nnew,fun bs1 bs2=>
   let l2:=zVn l1 (bs1.drop l0.length)
   jQa P Γ f ms pin nnew xs l0 (l1++l2) (zWx dst (l1++l2) nnew) (bs1.take l0.length) (bs1.drop l0.length++bs2.take l2.length) (bs2.drop l2.length)⟩
 | _,_=>none
def jZ0 (Γ:Gam) (f:FuncId) (xs:List AV) (bs:List Bx):Bool:=
 match jYU Γ f with
 | some _=>false
 | none=>match jY8 Γ f with
  | true=>true
  | false=>match AV.rvs (zXd (xs.flatMap AV.refs) bs) xs with
   | some rs=>match Γ f rs with
    | some r=>r.flat
    | none=>false
   | none=>false
def zKu:List Nat→List Bx→List Bx→List (Nat × Bx)
 | b::rs,B0::bs,B::ws=>match B0 with
  | .ice _=>zKu rs bs ws
  | _=>(b,B)::zKu rs bs ws
 | _,_,_=>[]
def Eff.upQ (q:List Bx→Bool) (e:Eff):Eff2:=⟨e.rds,fun _=>[],fun bs _=>(e.f bs).map fun r=>(r.1,r.2.1,match q bs with | true=>[] | false=>zKu e.wrs bs r.2.2)⟩
def zZX:List Bx→List Bx→Prop
 | .ice xs::bs,B::ws=>B=.ice xs∧zZX bs ws
 | _::bs,_::ws=>zZX bs ws
 | [],[]=>True
 | _,_=>False
theorem zYu:∀ bs:List Bx,zZX bs (bs.map Bx.freeze)
 | []=>trivial
 | B::bs=>by
  have:=zYu bs
  cases B <;> simp only [List.map_cons,zZX,Bx.freeze,true_and] <;> exact this
theorem zJs:∀ bs:List Bx,zZX bs bs
 | []=>trivial
 | B::bs=>by
  have:=zJs bs
  cases B <;> simp only [zZX,true_and] <;> exact this
theorem zXq:∀ (bs ws:List Bx) (B:Bx),zZX bs ws→zZX (bs++[.fresh]) (ws++[B])
 | [],[],B,_=>by simp [zZX]
 | .ice xs::bs,W::ws,B,h=>by
  simp only [List.cons_append,zZX] at h ⊢
  exact ⟨h.1,zXq bs ws B h.2⟩
 | .fresh::bs,W::ws,B,h=>by simp only [List.cons_append,zZX] at h ⊢; exact zXq bs ws B h
 | .gone::bs,W::ws,B,h=>by simp only [List.cons_append,zZX] at h ⊢; exact zXq bs ws B h
 | .cells _::bs,W::ws,B,h=>by simp only [List.cons_append,zZX] at h ⊢; exact zXq bs ws B h
 | .row _ _ _::bs,W::ws,B,h=>by simp only [List.cons_append,zZX] at h ⊢; exact zXq bs ws B h
 | [],_::_,_,h=>h.elim
 | B0::bs,[],B,h=>by cases B0 <;> exact h.elim
theorem zWc (s0:AS):∀ (rs:List Nat) (ws:List Bx) (s:AS),(∀ b xs,s0.bx b=.ice xs→s.bx b=.ice xs)→zZX (rs.map s0.bx) ws→s.setBs ((zKu rs (rs.map s0.bx) ws).map (·.1)) ((zKu rs (rs.map s0.bx) ws).map (·.2))=s.setBs rs ws
 | [],_,s,_,_=>by simp [zKu,AS.setBs]
 | b::rs,[],s,_,h=>by
  simp only [List.map_cons] at h
  cases hB:s0.bx b <;> rw [hB] at h <;> exact h.elim
 | b::rs,W::ws,s,hs,h=>by
  simp only [List.map_cons,zKu,AS.setBs] at h ⊢
  cases hB:s0.bx b with
  | ice xs=>
   rw [hB] at h
   simp only [zZX] at h
   obtain ⟨rfl,h⟩:=h
   have e:s.setB b (.ice xs)=s:=by
    refine AS.ext' rfl ?_
    funext b'
    simp only [AS.setB]
    split
    ·rename_i e; subst e; exact (hs b' xs hB).symm
    ·rfl
   rw [e]
   exact zWc s0 rs ws s hs h
  | _=>
   rw [hB] at h
   simp only [zZX] at h
   simp only [List.map_cons,AS.setBs]
   refine zWc s0 rs ws _ (fun b' xs hb'=>?_) h
   simp only [AS.setB]
   rw [if_neg (fun e=>by subst e; rw [hB] at hb'; cases hb')]
   exact hs b' xs hb'
theorem jZM {P:Program} {Γ:Gam} {dst:Option Nat} {f:FuncId} {xs:List AV} {e0:Eff} (he:zKT P Γ dst f xs=some e0) {bs bs':List Bx} {vc:Prop} {v:AV} (hf:e0.f bs=some (vc,v,bs')):zZX bs bs'∧e0.wrs=e0.rds:=by
 unfold zKT at he
 cases h1:jYU Γ f with
 | some p=>
  rw [h1] at he
  simp only at he
  split at he
  ·simp only [zGh] at he
   split at he
   ·simp only [Option.some.injEq] at he
    subst he
    simp only at hf ⊢
    split at hf
    ·rename_i hl
     split at hf
     ·split at hf
      ·simp only [Option.some.injEq,Prod.mk.injEq] at hf
       obtain ⟨_,_,rfl⟩:=hf
       refine ⟨?_,trivial⟩
       have:bs=bs.dropLast++[.fresh]:=by
        have hne:bs≠[]:=fun e=>by rw [e] at hl; cases hl
        rw [List.getLast?_eq_some_getLast hne] at hl
        injection hl with hl
        rw [← hl,List.dropLast_concat_getLast]
       have k:=fun B=>zXq _ _ B (zYu bs.dropLast)
       rw [← this] at k
       exact k _
      ·cases hf
     ·cases hf
    ·cases hf
   ·cases he
  ·cases he
 | none=>
  rw [h1] at he
  simp only at he
  cases h2:jY8 Γ f with
  | true=>
   rw [h2] at he
   simp only [zWu] at he
   split at he
   ·simp only [Option.some.injEq] at he
    subst he
    simp only at hf ⊢
    split at hf
    ·split at hf
     ·simp only [Option.some.injEq,Prod.mk.injEq] at hf
      obtain ⟨_,_,rfl⟩:=hf
      exact ⟨zJs _,trivial⟩
     ·cases hf
    ·cases hf
   ·cases he
  | false=>
   rw [h2] at he
   simp only [zWt] at he
   split at he
   ·simp only [Option.some.injEq] at he
    subst he
    simp only at hf ⊢
    split at hf
    ·split at hf
     ·simp only [Option.some.injEq,Prod.mk.injEq] at hf
      obtain ⟨_,_,rfl⟩:=hf
      refine ⟨?_,trivial⟩
      split
      ·exact zJs _
      ·exact zYu _
     ·cases hf
    ·cases hf
   ·cases he
theorem jY2 {P:Program} {Γ:Gam} {dst:Option Nat} {f:FuncId} {xs:List AV} {e0:Eff} (he:zKT P Γ dst f xs=some e0) {bs bs':List Bx} {vc:Prop} {v:AV} (hq:jZ0 Γ f xs bs=true) (hf:e0.f bs=some (vc,v,bs')):bs'=bs∧e0.wrs=e0.rds:=by
 unfold jZ0 at hq
 unfold zKT at he
 cases h1:jYU Γ f with
 | some p=>rw [h1] at hq; cases hq
 | none=>
  rw [h1] at hq he
  simp only at hq he
  cases h2:jY8 Γ f with
  | true=>
   rw [h2] at he
   simp only [zWu] at he
   split at he
   ·simp only [Option.some.injEq] at he
    subst he
    simp only at hf ⊢
    split at hf
    ·split at hf
     ·simp only [Option.some.injEq,Prod.mk.injEq] at hf
      exact ⟨hf.2.2.symm,trivial⟩
     ·cases hf
    ·cases hf
   ·cases he
  | false=>
   rw [h2] at he hq
   simp only [zWt] at he
   split at he
   ·simp only [Option.some.injEq] at he
    subst he
    simp only at hf hq ⊢
    split at hf
    ·rename_i rs hrs
     rw [hrs] at hq
     simp only at hq
     split at hf
     ·rename_i r hr
      rw [hr] at hq
      simp only at hq
      simp only [Option.some.injEq,Prod.mk.injEq,if_pos hq] at hf
      exact ⟨hf.2.2.symm,trivial⟩
     ·cases hf
    ·cases hf
   ·cases he
theorem zGY {P:Program} {Γ:Gam} {o:Oper} {s:AS} {f:FuncId} {xs:List AV} (h:zZJ P o s (prep P Γ o s.eval)) (hp:prep P Γ o s.eval=zKT P Γ o.dst f xs):zUY P o s ((prep P Γ o s.eval).map (Eff.upQ (jZ0 Γ f xs))):=by
 intro e' he vc v ws hf
 obtain ⟨e0,he0,rfl⟩:=Option.map_eq_some_iff.1 he
 simp only [Eff.upQ] at hf
 obtain ⟨⟨vc0,v0,bs0⟩,hf1,hf'⟩:=Option.map_eq_some_iff.1 hf
 simp only [Prod.mk.injEq] at hf'
 obtain ⟨rfl,rfl,rfl⟩:=hf'
 have hs:=h e0 he0 vc0 v0 bs0 hf1
 cases hq:jZ0 Γ f xs (e0.rds.map s.bx) with
 | true=>
  obtain ⟨e1,e2⟩:=jY2 (by rw [← hp,he0]) hq hf1
  subst e1
  intro w0 S n ι a w K Q hr hvc hK
  refine hs w0 S n ι a w K Q hr hvc fun ι' u w' h1 h2=>hK ι' u w' ?_ ?_
  ·rw [e2,zJG] at h1; exact h1
  ·rw [e2,zJG] at h2; exact h2
 | false=>
  obtain ⟨e1,e2⟩:=jZM (by rw [← hp,he0]) hf1
  rw [← e2] at e1
  have e3:=zWc s e0.wrs bs0 s (fun _ _ h=>h) e1
  intro w0 S n ι a w K Q hr hvc hK
  refine hs w0 S n ι a w K Q hr hvc fun ι' u w' h1 h2=>hK ι' u w' ?_ ?_
  ·simp only; rw [← e2,e3]; exact h1
  ·simp only; rw [← e2,e3]; exact h2
def zKo (P:Program) (Γ:Gam) (o:Oper) (ρ:Operand→AV):Option Eff2:=
 match o.op with
 | .call c=>match c.callee with
  | .value (.func f)=>match Γ.modes f with
   | some _=>zWm P Γ o.dst f (c.args.toList.map ρ)
   | none=>(prep P Γ o ρ).map (Eff.upQ (jZ0 Γ f (c.args.toList.map ρ)))
  | .value (.tmp t)=>match ρ (.tmp t) with
   | .one (.d (.fn f))=>match Γ.modes f with
    | some _=>zWm P Γ o.dst f (c.args.toList.map ρ)
    | none=>(prep P Γ o ρ).map (Eff.upQ (jZ0 Γ f (c.args.toList.map ρ)))
   | .one (.clo f cs)=>zWm P Γ o.dst f (c.args.toList.map ρ++cs.map Cap.av)
   | _=>none
  | _=>(prep P Γ o ρ).map Eff.up
 | _=>(prep P Γ o ρ).map Eff.up
def aop (P:Program) (Γ:Gam) (n:Dom) (o:Oper) (s:AS):Option (Prop × AS):=
 if zHC n o then
  match zKo P Γ o s.eval with
  | some e=>match e.f (e.rds.map s.bx) ((e.more (e.rds.map s.bx)).map s.bx) with
   | some (vc,v,ws)=>some (vc,(s.setL ws).put o.dst v)
   | none=>none
  | none=>none
 else none
section
variable {P:Program} {o:Oper} {s:AS}
theorem zYL {Γ:Gam} {f:FuncId} {xs:List AV}
  (hex:enters P f=true→∀ (w0:World) (S:zZd) (n:Dom) (ι:zQE) (a:Act) (w:World),RepS w0 S n s ι a w→∃ vs:Array Value,(execOp a.eval o).run P w=.ok (.enter f vs) w ∧
   ∀ ι2 s2,s2.tm=s.tm→RepS w0 S n s2 ι2 a w→RepAVs w (Seen S w0.heap.size s2.bx ι2) ι2 s2.bx xs vs.toList):zUY P o s (zWm P Γ o.dst f xs):=by
 unfold zWm
 split
 ·rename_i ms pin nnew hm hen
  intro e' he vc v ws hf
  simp only [Option.some.injEq] at he
  subst he
  simp only at hf
  have e1:((zX8 ms xs++nubN (zZ4 ms xs)).map s.bx).take (zX8 ms xs).length=(zX8 ms xs).map s.bx:=by
   rw [List.map_append,List.take_left' (by simp)]
  have e2:((zX8 ms xs++nubN (zZ4 ms xs)).map s.bx).drop (zX8 ms xs).length=(nubN (zZ4 ms xs)).map s.bx:=by
   rw [List.map_append,List.drop_left' (by simp)]
  rw [e1,e2] at hf
  generalize hl2:zVn (nubN (zZ4 ms xs)) ((nubN (zZ4 ms xs)).map s.bx)=l2 at hf
  generalize zWx o.dst (nubN (zZ4 ms xs)++l2) nnew=news at hf
  have e3:((l2++news).map s.bx).take l2.length=l2.map s.bx:=by rw [List.map_append,List.take_left' (by simp)]
  have e4:((l2++news).map s.bx).drop l2.length=news.map s.bx:=by rw [List.map_append,List.drop_left' (by simp)]
  rw [e3,e4,← List.map_append] at hf
  exact jZA (hex hen) (fun b hb=>hb) (fun b hb=>by rw [List.mem_append]; exact .inl (jQ2.2 hb)) hf
 ·exact .none
theorem zW4 {w0:World} {S:zZd} {n:Dom} {a:Act} {w:World} {ι2:zQE} {s2:AS} (ht:s2.tm=s.tm) (hr:RepS w0 S n s2 ι2 a w) (args:List Operand):RepAVs w (Seen S w0.heap.size s2.bx ι2) ι2 s2.bx (args.map s.eval) (args.map a.eval):=by
 have heval:s2.eval=s.eval:=by funext x; cases x <;> simp [AS.eval,ht]
 induction args with
 | nil=>simp only [List.map_nil,RepAVs]
 | cons x xs ih=>
  simp only [List.map_cons,RepAVs]
  exact ⟨by rw [← heval]; exact hr.eval x,ih⟩
theorem zHG {w:World} {V:Nat→Prop} {ι:zQE} {bx:Nat→Bx}:∀ {cs:List Cap} {vs:List Value},zZ8 ι bx w V cs vs→RepAVs w V ι bx (cs.map Cap.av) vs
 | [],[],_=>by simp only [List.map_nil,RepAVs]
 | c::cs,v::vs,h=>by
  simp only [List.map_cons,RepAVs]
  refine ⟨?_,zHG h.2⟩
  cases c <;> simp only [Cap.av,zQu,zQF] <;> exact h.1
 | [],_::_,h=>h.elim
 | _::_,[],h=>h.elim
theorem zUz {w:World} {V:Nat→Prop} {ι:zQE} {bx:Nat→Bx}:∀ {xs:List AV} {us:List Value} {ys:List AV} {vs:List Value},RepAVs w V ι bx xs us→RepAVs w V ι bx ys vs→RepAVs w V ι bx (xs++ys) (us++vs)
 | [],[],_,_,_,h=>h
 | _::_,_::_,_,_,h,h'=>by
  simp only [RepAVs,List.cons_append] at h ⊢
  exact ⟨h.1,zUz h.2 h'⟩
 | [],_::_,_,_,h,_=>by simp only [RepAVs] at h
 | _::_,[],_,_,h,_=>by simp only [RepAVs] at h
theorem zHX {Γ:Gam} (o:Oper) (s:AS):zUY P o s (zKo P Γ o s.eval):=by
 unfold zKo
 split
 ·rename_i c h
  obtain ⟨callee,args,ts⟩:=c
  simp only
  split
  ·rename_i f
   split
   ·exact zYL fun hen w0 S n ι a w hr=>⟨args.map a.eval,zUp h hen w0 S n ι a w hr,fun ι2 s2 ht hr2=>by simpa using zW4 ht hr2 args.toList⟩
   ·exact zGY (zJH o s) (by unfold prep; rw [h])
  ·rename_i t
   split
   ·rename_i f hx
    split
    ·exact zYL fun hen w0 S n ι a w hr=>⟨args.map a.eval,zWe h hx hen w0 S n ι a w hr,fun ι2 s2 ht hr2=>by simpa using zW4 ht hr2 args.toList⟩
    ·exact zGY (zJH o s) (by unfold prep; rw [h]; simp only [hx])
   ·rename_i f cs hx
    refine zYL fun hen w0 S n ι a w hr=>?_
    have hv:=hr.eval (.tmp t)
    rw [hx] at hv
    simp only [zQu,zQF] at hv
    obtain ⟨lb,hv,hc⟩:=hv
    refine ⟨args.map a.eval++lb,?_,fun ι2 s2 ht hr2=>?_⟩
    ·simp [execOp,h,resolve,hv,Deferred.ofValue,invoke,zKL hen]
    ·have hv2:=hr2.eval (.tmp t)
     have hx2:s2.eval (.tmp t)=.one (.clo f cs):=by rw [← hx]; simp [AS.eval,ht]
     rw [hx2,hv] at hv2
     simp only [zQu,zQF] at hv2
     obtain ⟨lb2,e,hc2⟩:=hv2
     injection e with _ _ e
     subst e
     have:=zUz (zW4 ht hr2 args.toList) (zHG hc2)
     simpa using this
   ·exact .none
  ·exact (zJH o s).up
 ·exact (zJH o s).up
theorem jYx {Γ:Gam} {n:Dom} {o:Oper} {s s':AS} {vc:Prop} (h:aop P Γ n o s=some (vc,s')) {w0:World} {S:zZd} {ι:zQE} {a:Act} {w:World} {K:Act→World→Prop} {Q:Exit→Act→World→Prop}
  (hr:RepS w0 S n s ι a w) (hvc:vc) (hK:∀ ι' a' w',RepS w0 S n s' ι' a' w'→K a' w'):o.wp P a w K Q:=by
 unfold aop at h
 split at h
 ·rename_i hd
  split at h
  ·rename_i e he
   split at h
   ·rename_i vc' v ws hf
    simp only [Option.some.injEq,Prod.mk.injEq] at h
    obtain ⟨rfl,rfl⟩:=h
    refine zHX (Γ:=Γ) o s e he vc' v ws hf w0 S n ι a w K Q hr hvc fun ι' u w' h1 h2=>hK ι' _ w' (h1.put (fun k hk=>?_) h2)
    unfold zHC at hd
    rw [hk] at hd
    simpa using hd
   ·cases h
  ·cases h
 ·cases h
theorem jQA {Γ:Gam} {n:Dom} {o:Oper} {s s':AS} {vc:Prop} (h:aop P Γ n o s=some (vc,s')):∀ c,o.op≠.defer c:=by
 intro c hc
 unfold aop zKo prep at h
 rw [hc] at h
 simp at h
end
theorem jZI {P:Program} {Γ:Gam} {o:Oper} {ρ ρ':Operand→AV} (h:∀ x∈o.op.operands,ρ x=ρ' x):prep P Γ o ρ=prep P Γ o ρ':=by
 obtain ⟨dst,op,type,pos,after,guard⟩:=o
 have pairs:∀ ps:Array (Nat × Operand),(∀ x∈(ps.toList.map (·.2)),ρ x=ρ' x)→(ps.toList.map fun p=>(p.1,ρ p.2))=ps.toList.map fun p=>(p.1,ρ' p.2):=fun ps hp=>
  List.map_congr_left fun p hm=>by
   simp only [hp p.2 (List.mem_map.2 ⟨p,hm,rfl⟩)]
 have bnd:∀ (o:Option Operand) d,(∀ x,o=some x→ρ x=ρ' x)→zYw ρ o d=zYw ρ' o d:=fun o d ho=>by
  cases o with
  | none=>rfl
  | some x=>simp only [zYw,ho x rfl]
 cases op <;> simp only [Op.operands] at h <;> simp only [prep]
 case move x=>rw [h x (by simp)]
 case assign x=>rw [h x (by simp)]
 case pick c a b=>simp only [zHe,h c (by simp),h a (by simp),h b (by simp)]
 case box t x=>simp only [jY3,h x (by simp)]
 case build t ps=>simp only [zGi,pairs ps (fun x hx=>h x (by simpa using hx))]
 case buildSlice t n ps=>simp only [zYm,pairs ps (fun x hx=>h x (by simpa using hx))]
 case load t x=>simp only [jQU,h x (by simp)]
 case store t x y=>simp only [zGb,h x (by simp),h y (by simp)]
 case nilCheck x=>simp only [zJL,h x (by simp)]
 case binOp op t x y t'=>simp only [jY4,h x (by simp),h y (by simp)]
 case unOp op t x=>simp only [opUn,h x (by simp)]
 case convert s d x=>simp only [jQV,zGg,zGf,h x (by simp)]
 case makeSlice t l c=>simp only [zYO,h l (by simp),h c (by simp)]
 case slice t x lo hi mx=>
  have e0:zJK P ρ t x lo hi mx=zJK P ρ' t x lo hi mx:=by
   simp only [zJK,h x (by simp),bnd lo _ (fun y e=>h y (by subst e; simp)),bnd hi _ (fun y e=>h y (by subst e; simp))]
  have e1:∀ b n,zJJ P ρ t b n lo hi mx=zJJ P ρ' t b n lo hi mx:=fun b n=>by
   simp only [zJJ,bnd hi _ (fun y e=>h y (by subst e; simp))]
  simp only [zGc,h x (by simp),e0,e1]
 case fieldAddr t x f=>simp only [zYQ,h x (by simp)]
 case field t x f=>simp only [zGe,h x (by simp)]
 case indexAddr t x y=>simp only [zYP,h x (by simp),h y (by simp)]
 case index t x y=>simp only [zGd,h x (by simp),h y (by simp)]
 case extract x i=>simp only [zKS,h x (by simp)]
 case makeFunc fn fs cs=>
  have h1:fs.toList.map ρ=fs.toList.map ρ':=List.map_congr_left fun x hx=>h x (by simp; left; simpa using hx)
  have h2:cs.toList.map ρ=cs.toList.map ρ':=List.map_congr_left fun x hx=>h x (by simp; right; simpa using hx)
  simp only [h1,h2]
 case call c=>
  obtain ⟨callee,args,ts⟩:=c
  have hargs:∀ x∈args.toList,ρ x=ρ' x:=fun x hx=>h x (by simp [Call.operands]; right; simpa using hx)
  have hm:args.toList.map ρ=args.toList.map ρ':=List.map_congr_left hargs
  cases callee with
  | value f=>
   cases f with
   | tmp t=>simp only [hm,h (.tmp t) (by simp [Call.operands])]
   | const v=>rfl
   | global g=>rfl
   | func f=>simp only [hm]
  | invoke r m=>rfl
  | builtin b=>
   simp only
   generalize args.toList=l at hargs
   match b,l with
   | .len,[x]=>simp only [hargs x (by simp)]
   | .max,[x,y]=>simp only [hargs x (by simp),hargs y (by simp)]
   | .min,[x,y]=>simp only [hargs x (by simp),hargs y (by simp)]
   | .append,[x,y]=>simp only [hargs x (by simp),hargs y (by simp)]
   | b,[]=>cases b <;> rfl
   | b,[x]=>cases b <;> first | rfl | simp only [hargs x (by simp)]
   | b,[x,y]=>cases b <;> first | rfl | simp only [hargs x (by simp),hargs y (by simp)]
   | b,_::_::_::_=>cases b <;> rfl
theorem jQb {P:Program} {Γ:Gam} {o:Oper} {ρ ρ':Operand→AV} (h:∀ x∈o.op.operands,ρ x=ρ' x):zKo P Γ o ρ=zKo P Γ o ρ':=by
 have h1:=jZI (P:=P) (Γ:=Γ) h
 unfold zKo
 rw [h1]
 cases hop:o.op with
 | call c=>
  obtain ⟨callee,args,ts⟩:=c
  rw [hop] at h
  simp only [Op.operands] at h
  have hargs:∀ x∈args.toList,ρ x=ρ' x:=fun x hx=>h x (by simp [Call.operands]; right; simpa using hx)
  have hm:args.toList.map ρ=args.toList.map ρ':=List.map_congr_left hargs
  cases callee with
  | value x=>
   cases x with
   | func f=>simp only [hm]
   | tmp t=>simp only [hm,h (.tmp t) (by simp [Call.operands])]
   | const v=>rfl
   | global g=>rfl
  | invoke r m=>rfl
  | builtin b=>rfl
 | _=>rfl
def Wide (F:Fence):Prop:=F=Fence.wide∨∃ l,F=Fence.wide.inRound l
theorem Wide.fn {F:Fence} (h:Wide F) (f:FuncId):F.fn f:=by
 rcases h with rfl | ⟨l,rfl⟩ <;> trivial
theorem Wide.depth {F:Fence} (h:Wide F):F.depth=none:=by
 rcases h with rfl | ⟨l,rfl⟩ <;> rfl
theorem Wide.room {F:Fence} (h:Wide F) (n:Nat):F.room n:=fun d hd=>by rw [h.depth] at hd; cases hd
theorem Wide.calls {F:Fence} (h:Wide F) {n:Nat} {P:Program} {f:FuncId} {args:Array Value} {w:World} {R:Ending→World→Prop} (hc:Calls P f args w R):CallsIn F n P f args w R:=by
 have h1:CallsIn Fence.wide n P f args w R:=callsIn_wide.2 hc
 rcases h with rfl | ⟨l,rfl⟩
 ·exact h1
 ·exact h1
theorem Wide.rows {F:Fence} (h:Wide F) {n:Nat} {P:Program} {row:String} {args:Array Value} {w:World} {R:Value→World→Prop} (hc:Rows P row args w R):RowsIn F n P row args w R:=by
 have h1:RowsIn Fence.wide n P row args w R:=fun c cs _=>by
  obtain ⟨v,w',r,st⟩:=hc c cs
  exact ⟨v,w',r,stepsIn_wide.2 st⟩
 rcases h with rfl | ⟨l,rfl⟩
 ·exact h1
 ·exact h1
theorem Oper.wpIn_of_wp {F:Fence} (hF:Wide F) {m:Nat} {P:Program} {o:Oper} (hd:∀ c,o.op≠.defer c) {a:Act} {w:World} {K:Act→World→Prop} {Q:Exit→Act→World→Prop} (h:o.wp P a w K Q):o.wpIn F m P a w K Q:=by
 refine ⟨fun f _=>hF.fn f,?_⟩
 rw [Oper.semAt_eq _ _ _ hd]
 unfold Oper.wp at h
 revert h
 generalize (execOp a.eval o).run P w=r
 intro h
 cases r with
 | ok nx w'=>
  cases nx with
  | value v=>exact h
  | skip=>exact h
  | defer d=>exact h
  | enter f args=>exact ⟨fun hx=>by (rw [hF.depth] at hx; cases hx),hF.calls h⟩
  | row row args=>exact ⟨fun hx=>by (rw [hF.depth] at hx; cases hx),hF.rows h⟩
  | _=>exact h.elim
 | halt s w'=>
  cases s with
  | panic v=>exact h
  | _=>exact h.elim
section
variable (P:Program) (Γ:Gam) (n:Dom) (ops:Array Oper)
def gv (s:AS) (o:Oper):Option Bool:=
 match o.guard with
 | none=>some true
 | some (j,want)=>match (ops[j]?).bind (·.dst) with
  | none=>none
  | some t=>match s.tm t with
   | .tup []=>some false
   | x=>x.bool?.map (·==want)
def zKx (i:Nat) (s:AS):Option (Prop × AS):=
 match ops[i]? with
 | none=>none
 | some o=>match gv ops s o with
  | none=>none
  | some true=>aop P Γ n o s
  | some false=>if zHC n o then some (True,s.put o.dst (.tup [])) else none
def touch (i:Nat) (s:AS):List Nat × List Nat:=
 match ops[i]? with
 | none=>([],[])
 | some o=>match gv ops s o with
  | some true=>match zKo P Γ o s.eval with
   | some e=>e.touch s.bx
   | none=>([],[])
  | _=>([],[])
def Runs (τ:Nat→List Nat × List Nat):List Nat→AS→AS→Prop
 | [],s,s'=>s=s'
 | i::R,s,s'=>∃ vc s1,zKx P Γ n ops i s=some (vc,s1)∧vc∧touch P Γ ops i s=τ i∧Runs τ R s1 s'
def jJ5 (x y:List Nat × List Nat):Bool:=
 (x.2.all fun b=>!y.1.contains b && !y.2.contains b) && (y.2.all fun b=>!x.1.contains b)
def jXY (τ:Nat→List Nat × List Nat) (i j:Nat):Bool:=
 match ops[i]?,ops[j]? with
 | some x,some y=>x.apart ops y && jJ5 (τ i) (τ j)
 | _,_=>false
end
section
variable {P:Program} {Γ:Gam} {n:Dom} {ops:Array Oper}
theorem zWl (s:AS) (d:Option Nat) (v:AV) (t:Nat) (h:d≠some t):(s.put d v).tm t=s.tm t:=by
 cases d with
 | none=>rfl
 | some d=>simp only [AS.put]; rw [if_neg (fun e=>h (by rw [e]))]
theorem zVx (s:AS) (d:Option Nat) (v:AV):(s.put d v).bx=s.bx:=by cases d <;> rfl
theorem zZG:∀ (bs:List Nat) (Bs:List Bx) (s:AS) (b:Nat),b ∉ bs→(s.setBs bs Bs).bx b=s.bx b
 | [],_,_,_,_=>by simp [AS.setBs]
 | _::_,[],_,_,_=>by simp [AS.setBs]
 | x::bs,B::Bs,s,b,h=>by
  rw [AS.setBs,zZG bs Bs _ b (fun e=>h (by simp [e]))]
  simp only [AS.setB]
  rw [if_neg (fun e=>h (by simp [e]))]
theorem zXO:∀ (bs:List Nat) (Bs:List Bx) (s s':AS) (b:Nat),(b ∉ bs→s.bx b=s'.bx b)→(Bs.length < bs.length→s.bx b=s'.bx b)→(s.setBs bs Bs).bx b=(s'.setBs bs Bs).bx b
 | [],_,_,_,_,h,_=>by simpa [AS.setBs] using h (by simp)
 | _::_,[],_,_,_,_,h=>by simpa [AS.setBs] using h (by simp)
 | x::bs,B::Bs,s,s',b,h,h'=>by
  rw [AS.setBs,AS.setBs]
  by_cases e:b=x
  ·refine zXO bs Bs _ _ b (fun _=>by simp [AS.setB,e]) (fun _=>by simp [AS.setB,e])
  ·refine zXO bs Bs _ _ b (fun hb=>?_) (fun hl=>?_)
   ·simp only [AS.setB,if_neg e]; exact h (by simp [e,hb])
   ·simp only [AS.setB,if_neg e]; exact h' (by simpa using hl)
theorem jZ3 {i:Nat} {s s1:AS} {vc:Prop} (h:zKx P Γ n ops i s=some (vc,s1)):∃ o v wrs bs,ops[i]?=some o∧wrs=(touch P Γ ops i s).2∧s1=(s.setBs wrs bs).put o.dst v:=by
 unfold zKx at h
 split at h
 ·cases h
 ·rename_i o ho
  split at h
  ·cases h
  ·rename_i hg
   unfold aop at h
   split at h
   ·split at h
    ·rename_i e he
     split at h
     ·rename_i vc' v ws hf
      simp only [Option.some.injEq,Prod.mk.injEq] at h
      obtain ⟨rfl,rfl⟩:=h
      exact ⟨o,v,ws.map (·.1),ws.map (·.2),ho,by simp [touch,ho,hg,he,Eff2.touch,hf],rfl⟩
     ·cases h
    ·cases h
   ·cases h
  ·rename_i hg
   split at h
   ·simp only [Option.some.injEq,Prod.mk.injEq] at h
    obtain ⟨rfl,rfl⟩:=h
    exact ⟨o,.tup [],[],[],ho,by simp [touch,ho,hg],by simp [AS.setBs]⟩
   ·cases h
theorem zW3 {i:Nat} {o:Oper} (ho:ops[i]?=some o) {s s':AS} (htm:∀ t∈o.looksAt ops,s.tm t=s'.tm t) :
  (∀ b∈(touch P Γ ops i s).1,s.bx b=s'.bx b)→touch P Γ ops i s=touch P Γ ops i s'∧(∀ vc s1,zKx P Γ n ops i s=some (vc,s1) →
   ∃ v bs,s1=(s.setBs (touch P Γ ops i s).2 bs).put o.dst v∧zKx P Γ n ops i s'=some (vc,(s'.setBs (touch P Γ ops i s).2 bs).put o.dst v)):=by
 have hgv:gv ops s o=gv ops s' o:=by
  unfold gv
  cases hg:o.guard with
  | none=>rfl
  | some jw=>
   obtain ⟨j,want⟩:=jw
   simp only
   cases ht:(ops[j]?).bind (·.dst) with
   | none=>rfl
   | some t=>
    have:s.tm t=s'.tm t:=htm t (by simp [Oper.looksAt,hg,ht])
    simp only [this]
 have hev:∀ x∈o.op.operands,s.eval x=s'.eval x:=fun x hx=>by
  cases x with
  | tmp t=>exact htm t (by simp only [Oper.looksAt,List.mem_append,List.mem_filterMap]; exact .inl ⟨_,by simpa using hx,rfl⟩)
  | const v=>rfl
  | global g=>rfl
  | func f=>rfl
 have hprep:zKo P Γ o s.eval=zKo P Γ o s'.eval:=jQb hev
 intro hbx
 have htouch:touch P Γ ops i s=touch P Γ ops i s':=by
  simp only [touch,ho,← hgv,← hprep] at hbx ⊢
  cases hg:gv ops s o with
  | none=>rfl
  | some g=>
   cases g with
   | false=>rfl
   | true=>
    rw [hg] at hbx
    cases he:zKo P Γ o s.eval with
    | none=>rfl
    | some e=>
     rw [he] at hbx
     simp only at hbx ⊢
     exact e.touch_congr hbx
 refine ⟨htouch,fun vc s1 h=>?_⟩
 unfold zKx at h ⊢
 simp only [ho] at h ⊢
 rw [← hgv]
 cases hg:gv ops s o with
 | none=>rw [hg] at h; cases h
 | some g=>
  rw [hg] at h
  cases g with
  | false=>
   simp only at h ⊢
   split at h
   ·rename_i hd
    simp only [Option.some.injEq,Prod.mk.injEq] at h
    obtain ⟨rfl,rfl⟩:=h
    have ht:(touch P Γ ops i s).2=[]:=by simp [touch,ho,hg]
    exact ⟨.tup [],[],by rw [ht]; simp [AS.setBs],by rw [ht,if_pos hd]; simp [AS.setBs]⟩
   ·cases h
  | true=>
   simp only at h ⊢
   unfold aop at h ⊢
   split at h
   ·rename_i hd
    rw [if_pos hd,← hprep]
    cases he:zKo P Γ o s.eval with
    | none=>rw [he] at h; cases h
    | some e=>
     rw [he] at h
     simp only at h ⊢
     have ht:touch P Γ ops i s=e.touch s.bx:=by simp [touch,ho,hg,he]
     rw [ht] at hbx
     obtain ⟨m1,m2⟩:=e.agree hbx
     rw [← m1] at m2 ⊢
     rw [← m2]
     cases hf:e.f (e.rds.map s.bx) ((e.more (e.rds.map s.bx)).map s.bx) with
     | none=>rw [hf] at h; cases h
     | some r=>
      obtain ⟨vc',v,ws⟩:=r
      rw [hf] at h
      simp only [Option.some.injEq,Prod.mk.injEq] at h ⊢
      obtain ⟨rfl,rfl⟩:=h
      have ht2:(touch P Γ ops i s).2=ws.map (·.1):=by rw [ht]; simp [Eff2.touch,hf]
      exact ⟨v,ws.map (·.2),by rw [ht2]; rfl,rfl,by rw [ht2]; rfl⟩
   ·cases h
theorem swap {τ:Nat→List Nat × List Nat} {i j:Nat} (hi:jXY ops τ j i=true) {s s1 s2:AS} {v1 v2:Prop}
  (h1:zKx P Γ n ops j s=some (v1,s1)) (t1:touch P Γ ops j s=τ j) (h2:zKx P Γ n ops i s1=some (v2,s2)) (t2:touch P Γ ops i s1=τ i) :
  ∃ s1',zKx P Γ n ops i s=some (v2,s1')∧touch P Γ ops i s=τ i∧zKx P Γ n ops j s1'=some (v1,s2)∧touch P Γ ops j s1'=τ j:=by
 unfold jXY at hi
 split at hi
 ·rename_i oj oi hoj hoi
  simp only [Bool.and_eq_true] at hi
  obtain ⟨hap,hb⟩:=hi
  obtain ⟨a1,a2,a3⟩:=Oper.apart_spec hap
  simp only [jJ5,Bool.and_eq_true,List.all_eq_true,Bool.not_eq_true'] at hb
  obtain ⟨b1,b2⟩:=hb
  obtain ⟨o',v,wrs,bs,ho',hw,hs1⟩:=jZ3 h1
  rw [hoj] at ho'
  injection ho' with ho'
  subst ho'
  rw [t1] at hw
  have htm1:∀ t∈oi.looksAt ops,s1.tm t=s.tm t:=fun t ht=>by
   rw [hs1,zWl _ _ _ _ (fun e=>a1 t e ht),zZx]
  have hbx1:∀ b,b ∉ (τ j).2→s1.bx b=s.bx b:=fun b hb=>by
   rw [hs1,zVx,zZG _ _ _ _ (by rw [hw]; exact hb)]
  obtain ⟨c1,c2⟩:=zW3 (P:=P) (Γ:=Γ) (n:=n) hoi htm1 (by
   rw [t2]
   exact fun b hb=>hbx1 b (fun hm=>by
    have:=b1 b hm
    simp only [List.contains_eq_mem,decide_eq_false_iff_not] at this
    exact this.1 hb))
  rw [t2] at c1 c2
  obtain ⟨v',bs',e1,e2⟩:=c2 _ _ h2
  have htm2:∀ t∈oj.looksAt ops,s.tm t=((s.setBs (τ i).2 bs').put oi.dst v').tm t:=fun t ht=>by
   rw [zWl _ _ _ _ (fun e=>a3 t e ht),zZx]
  obtain ⟨d1,d2⟩:=zW3 (P:=P) (Γ:=Γ) (n:=n) hoj htm2 (by
   rw [t1]
   intro b hb
   rw [zVx,zZG]
   intro hm
   have:=b2 b hm
   simp only [List.contains_eq_mem,decide_eq_false_iff_not] at this
   exact this hb)
  rw [t1] at d1 d2
  obtain ⟨v'',bs'',f1,f2⟩:=d2 _ _ h1
  refine ⟨_,e2,c1.symm,?_,d1.symm⟩
  rw [f2]
  congr 1
  congr 1
  rw [e1,f1]
  apply AS.ext'
  ·funext t
   have q:∀ (s:AS) (d:Option Nat) (x:AV) (bs:List Nat) (Bs:List Bx),((s.setBs bs Bs).put d x).tm=(s.put d x).tm:=fun s d x bs Bs=>by
    cases d with
    | none=>simp [AS.put,zZx]
    | some d=>simp [AS.put,zZx]
   by_cases g1:oj.dst=some t
   ·have g2:oi.dst≠some t:=a2 t g1
    rw [zWl _ oi.dst _ _ g2,zZx,g1]
    simp [AS.put]
   ·rw [zWl _ oj.dst _ _ g1,zZx]
    by_cases g2:oi.dst=some t
    ·rw [g2]; simp [AS.put]
    ·rw [zWl _ oi.dst _ _ g2,zWl _ oi.dst _ _ g2,zZx,zZx,zWl _ oj.dst _ _ g1,zZx]
  ·funext b
   rw [zVx,zVx]
   by_cases g1:b∈(τ j).2
   ·have hni:b ∉ (τ i).2:=fun hm=>by
     have:=b1 b g1
     simp only [List.contains_eq_mem,decide_eq_false_iff_not] at this
     exact this.2 hm
    rw [zZG (τ i).2 bs' _ b hni,zVx]
    refine zXO _ _ _ _ _ (fun h=>absurd g1 h) (fun _=>?_)
    rw [zVx,zZG _ _ _ _ hni]
   ·rw [zZG (τ j).2 bs'' _ b g1,zVx]
    refine zXO _ _ _ _ _ (fun _=>?_) (fun _=>?_) <;> rw [zVx,zZG _ _ _ _ g1]
 ·cases hi
theorem jVs {τ:Nat→List Nat × List Nat} {i:Nat} {B:List Nat} {s':AS}:∀ {A:List Nat} {s:AS},(∀ j∈A,jXY ops τ j i=true)→Runs P Γ n ops τ (A++i::B) s s' →
  ∃ vc s1,zKx P Γ n ops i s=some (vc,s1)∧vc∧touch P Γ ops i s=τ i∧Runs P Γ n ops τ (A++B) s1 s'
 | [],s,_,h=>h
 | j::A,s,hA,h=>by
  obtain ⟨vj,sj,h1,h2,h3,h4⟩:=h
  obtain ⟨vi,si,g1,g2,g3,g4⟩:=jVs (fun k hk=>hA k (by simp [hk])) h4
  obtain ⟨s1',e1,e2,e3,e4⟩:=swap (hA j (by simp)) h1 h3 g1 g3
  exact ⟨vi,s1',e1,g2,e2,vj,si,e3,h2,e4,g4⟩
end
section
variable (ops:Array Oper)
def jQi (k:Nat) (t:List Nat):List Edge→Nat
 | []=>0
 | e::es=>match Region.binds .any e && decide (e.on < k) with
  | true=>(2 ^ e.on ||| t.getD e.on 0) ||| jQi k t es
  | false=>jQi k t es
def zJq:Nat→List Nat
 | 0=>[]
 | k+1=>zJq k++[match ops[k]? with
  | some o=>jQi k (zJq k) o.after.toList
  | none=>0]
def zV0 (j i:Nat):Bool:=((zJq ops ops.size).getD i 0).testBit j
def jYz (listed:Array Bool):Prop:=∀ i o,ops[i]?=some o→listed.getD i true=true→i < listed.size→∀ e∈o.after.toList,Region.binds .any e=true→listed.getD e.on false=true
theorem zYR:∀ k,(zJq ops k).length=k
 | 0=>rfl
 | k+1=>by simp [zJq,zYR k]
theorem zJM:∀ {n k:Nat},k < n→(zJq ops n).getD k 0=match ops[k]? with
  | some o=>jQi k (zJq ops k) o.after.toList
  | none=>0
 | n+1,k,h=>by
  simp only [zJq,List.getD_eq_getElem?_getD]
  by_cases e:k < n
  ·rw [List.getElem?_append_left (by rw [zYR]; exact e)]
   have:=zJM (n:=n) e
   rwa [List.getD_eq_getElem?_getD] at this
  ·have:k=n:=by omega
   subst this
   rw [List.getElem?_append_right (by rw [zYR]; omega),zYR]
   simp
theorem zWz {k j:Nat} {t:List Nat}:∀ {es:List Edge},(jQi k t es).testBit j=true→∃ e∈es,Region.binds .any e=true∧e.on < k∧(e.on=j∨(t.getD e.on 0).testBit j=true)
 | [],h=>by simp [jQi] at h
 | e::es,h=>by
  simp only [jQi] at h
  cases hb:Region.binds .any e && decide (e.on < k) with
  | false=>
   rw [hb] at h
   obtain ⟨e',h1,h2⟩:=zWz h
   exact ⟨e',by simp [h1],h2⟩
  | true=>
   rw [hb] at h
   simp only [Nat.testBit_or,Bool.or_eq_true,Nat.testBit_two_pow] at h
   simp only [Bool.and_eq_true,decide_eq_true_eq] at hb
   rcases h with (h | h) | h
   ·exact ⟨e,by simp,hb.1,hb.2,.inl (by simpa using h)⟩
   ·exact ⟨e,by simp,hb.1,hb.2,.inr h⟩
   ·obtain ⟨e',h1,h2⟩:=zWz h
    exact ⟨e',by simp [h1],h2⟩
theorem zGC {listed:Array Bool} (hc:jYz ops listed) (hsz:listed.size=ops.size):∀ (i j:Nat) (o:Oper),ops[i]?=some o→(∀ e∈o.after.toList,Region.binds .any e=true→listed.getD e.on false=true)→zV0 ops j i=true→listed.getD j false=true:=by
 intro i
 induction i using Nat.strongRecOn with
 | ind i ih=>
  intro j o ho haft hb
  have hi:i < ops.size:=(Array.getElem?_eq_some_iff.1 ho).1
  unfold zV0 at hb
  rw [zJM ops hi,ho] at hb
  obtain ⟨e,h1,h2,h3,h4⟩:=zWz hb
  have hl:=haft e h1 h2
  rcases h4 with rfl | h4
  ·exact hl
  ·have he:e.on < ops.size:=by omega
   refine ih e.on h3 j ops[e.on] (Array.getElem?_eq_getElem he) ?_ ?_
   ·refine hc e.on _ (Array.getElem?_eq_getElem he) ?_ (by omega)
    have:e.on < listed.size:=by omega
    simp [Array.getD,this] at hl ⊢
    exact hl
   ·unfold zV0
    rw [zJM ops he]
    rw [zJM ops h3] at h4
    exact h4
def jYK (τ:Nat→List Nat × List Nat):Bool:=
 (List.range ops.size).all fun i=>((ops[i]?).any fun o=>o.after.all fun e=>!Region.binds .any e || decide (e.on < i)) && (List.range i).all fun j=>zV0 ops j i || jXY ops τ j i
end
section
variable {P:Program} {Γ:Gam} {n:Dom} {ops:Array Oper}
theorem zHt {w0:World} {S:zZd} {s:AS} {ι:zQE} {a:Act} {w:World} (h:RepS w0 S n s ι a w) {o:Oper} {g:Bool} (hg:gv ops s o=some g):Region.wanted o (yielded ops a.tmps)=g:=by
 unfold gv at hg
 unfold Region.wanted
 cases ho:o.guard with
 | none=>rw [ho] at hg; simp only [Option.some.injEq] at hg; exact hg
 | some jw=>
  obtain ⟨j,want⟩:=jw
  rw [ho] at hg
  simp only at hg ⊢
  cases ht:(ops[j]?).bind (·.dst) with
  | none=>rw [ht] at hg; cases hg
  | some t=>
   rw [ht] at hg
   simp only at hg
   have hr:=h.tm t
   unfold yielded
   rw [ht]
   simp only [Option.bind_some]
   split at hg
   ·rename_i hs
    rw [hs] at hr
    simp only [zQu] at hr
    obtain ⟨cur,e,hc⟩:=hr
    have hcur:cur=#[]:=by
     cases hcl:cur.toList with
     | nil=>exact Array.toList_eq_nil_iff.1 hcl
     | cons _ _=>rw [hcl] at hc; simp only [RepAVs] at hc
    subst hcur
    simp only [Option.some.injEq] at hg
    subst hg
    rw [Array.getD_eq_getD_getElem?] at e
    cases hx:a.tmps[t]? with
    | none=>rfl
    | some x=>
     rw [hx] at e
     simp only [Option.getD_some] at e
     subst e
     rfl
   ·cases hb:(s.tm t).bool? with
    | none=>rw [hb] at hg; cases hg
    | some b=>
     rw [hb] at hg
     simp only [Option.map_some,Option.some.injEq] at hg
     subst hg
     have e:=zYM hr hb
     rw [Array.getD_eq_getD_getElem?] at e
     cases hx:a.tmps[t]? with
     | none=>rw [hx] at e; simp [undef] at e
     | some x=>
      rw [hx] at e
      simp only [Option.getD_some] at e
      subst e
      simp only
      cases b <;> cases want <;> rfl
theorem zW2 {F:Fence} {m:Nat} (hF:Wide F) {w0:World} {S:zZd} {s s1:AS} {ι:zQE} {a:Act} {w:World} {i:Nat} {vc:Prop} (h:zKx P Γ n ops i s=some (vc,s1)) (hr:RepS w0 S n s ι a w) (hvc:vc) {K:Act→World→Prop} {Q:Exit→Act→World→Prop}
  (hK:∀ ι' a' w',RepS w0 S n s1 ι' a' w'→K a' w'):wpOpIn F m P ops Q i K a w:=by
 unfold zKx at h
 unfold Go.wpOpIn
 split at h
 ·cases h
 ·rename_i o ho
  simp only [ho]
  split at h
  ·cases h
  ·rename_i hg
   rw [if_pos (zHt hr hg)]
   exact Oper.wpIn_of_wp hF (jQA h) (jYx h hr hvc hK)
  ·rename_i hg
   rw [zHt hr hg,if_neg (by simp)]
   split at h
   ·rename_i hd
    simp only [Option.some.injEq,Prod.mk.injEq] at h
    obtain ⟨rfl,rfl⟩:=h
    refine ⟨fun _ _=>hF.fn _,hK ι _ w (hr.put (fun k hk=>?_) (by simp only [zQu]; exact ⟨_,rfl,by simp only [RepAVs]⟩))⟩
    unfold zHC at hd
    rw [hk] at hd
    simpa using hd
   ·cases h
theorem zUo {F:Fence} {m:Nat} (hF:Wide F) {τ:Nat→List Nat × List Nat} {w0:World} {S:zZd} {Q:Exit→Act→World→Prop} {s':AS}:∀ {R:List Nat} {s:AS} {ι:zQE} {a:Act} {w:World},Runs P Γ n ops τ R s s'→RepS w0 S n s ι a w →
  (∀ ι' a' w',RepS w0 S n s' ι' a' w'→Q .normal a' w')→wpOpsIn F m P ops Q R a w
 | [],s,ι,a,w,h,hr,hQ=>by
  have h:s=s':=h
  subst h; exact hQ ι a w hr
 | i::R,s,ι,a,w,⟨vc,s1,h1,h2,_,h4⟩,hr,hQ=>by
  rw [wpOpsIn_cons]
  exact zW2 hF h1 hr h2 fun ι' a' w' hr'=>zUo hF h4 hr' hQ
def left (ops:Array Oper) (listed:Array Bool):List Nat:=(List.range ops.size).filter fun i=>!listed.getD i true
theorem jYF {F:Fence} {m:Nat} (hF:Wide F) {τ:Nat→List Nat × List Nat} (hok:jYK ops τ=true) {w0:World} {S:zZd} {Q:Exit→Act→World→Prop} {s':AS} (hQ:∀ ι' a' w',RepS w0 S n s' ι' a' w'→Q .normal a' w') :
  ∀ (fuel:Nat) (listed:Array Bool) (s:AS) (ι:zQE) (a:Act) (w:World),jYz ops listed→listed.size=ops.size→(left ops listed).length≤fuel→Runs P Γ n ops τ (left ops listed) s s'→RepS w0 S n s ι a w→wpAnyIn F m P .any ops Q fuel listed a w:=by
 simp only [jYK,List.all_eq_true,Bool.and_eq_true] at hok
 have hready:∀ (listed:Array Bool) i,i∈Region.ready .any ops listed↔i < ops.size∧listed.getD i true=false∧((ops[i]?).map (·.after.all fun e=>!Region.binds .any e || listed.getD e.on false)).getD false=true:=by
  intro listed i
  simp [Region.ready,List.mem_filter]
 have hempty:∀ listed:Array Bool,listed.size=ops.size→Region.ready .any ops listed=[]→left ops listed=[]:=by
  intro listed hsz hr
  cases hl:left ops listed with
  | nil=>rfl
  | cons i R=>
   exfalso
   have hi:i∈left ops listed:=by rw [hl]; simp
   simp only [left,List.mem_filter,List.mem_range,Bool.not_eq_true'] at hi
   have hsorted:∀ j,j < i→listed.getD j true=true:=by
    intro j hj
    cases hjv:listed.getD j true with
    | true=>rfl
    | false=>
     exfalso
     have hjm:j∈left ops listed:=by
      simp only [left,List.mem_filter,List.mem_range,Bool.not_eq_true']
      exact ⟨by omega,hjv⟩
     have hp:(left ops listed).Pairwise (· < ·):=List.Pairwise.filter _ List.pairwise_lt_range
     rw [hl] at hjm hp
     rcases List.mem_cons.1 hjm with e | hm
     ·omega
     ·have:=(List.pairwise_cons.1 hp).1 j hm
      omega
   have:i∈Region.ready .any ops listed:=by
    rw [hready]
    refine ⟨hi.1,hi.2,?_⟩
    have h1:=(hok i (List.mem_range.2 hi.1)).1
    cases ho:ops[i]? with
    | none=>rw [ho] at h1; simp at h1
    | some o=>
     rw [ho] at h1
     simp only [Option.any_some,Option.map_some,Option.getD_some] at h1 ⊢
     rw [Array.all_eq_true_iff_forall_mem] at h1 ⊢
     intro e he
     have h2:=h1 e he
     simp only [Bool.or_eq_true,Bool.not_eq_true',decide_eq_true_eq] at h2 ⊢
     rcases h2 with h2 | h2
     ·exact .inl h2
     ·right
      have h3:=hsorted e.on h2
      have hlt:e.on < listed.size:=by omega
      simp [Array.getD,hlt] at h3 ⊢
      exact h3
   rw [hr] at this
   simp at this
 intro fuel
 induction fuel with
 | zero=>
  intro listed s ι a w hcl hsz hl hruns hr
  have h0:left ops listed=[]:=List.eq_nil_of_length_eq_zero (by omega)
  rw [h0] at hruns
  have hs:s=s':=hruns
  subst hs
  refine ⟨?_,hQ ι a w hr⟩
  cases hre:Region.ready .any ops listed with
  | nil=>rfl
  | cons i R=>
   exfalso
   have:i∈Region.ready .any ops listed:=by rw [hre]; simp
   rw [hready] at this
   have hm:i∈left ops listed:=by
    simp only [left,List.mem_filter,List.mem_range,Bool.not_eq_true']
    exact ⟨this.1,this.2.1⟩
   rw [h0] at hm
   simp at hm
 | succ fuel ih=>
  intro listed s ι a w hcl hsz hl hruns hr
  refine ⟨fun he=>?_,fun i hi=>?_⟩
  ·have h0:=hempty listed hsz he
   rw [h0] at hruns
   have hs:s=s':=hruns
   subst hs
   exact hQ ι a w hr
  ·rw [hready] at hi
   obtain ⟨hlt,hnl,haft⟩:=hi
   have hm:i∈left ops listed:=by
    simp only [left,List.mem_filter,List.mem_range,Bool.not_eq_true']
    exact ⟨hlt,hnl⟩
   obtain ⟨A,B,hAB⟩:=List.append_of_mem hm
   have hp:(left ops listed).Pairwise (· < ·):=List.Pairwise.filter _ List.pairwise_lt_range
   rw [hAB] at hp
   have hA:∀ j∈A,j < i∧listed.getD j true=false:=fun j hj=>by
    refine ⟨(List.pairwise_append.1 hp).2.2 j hj i (by simp),?_⟩
    have:j∈left ops listed:=by rw [hAB]; simp [hj]
    simp only [left,List.mem_filter,List.mem_range,Bool.not_eq_true'] at this
    exact this.2
   have hind:∀ j∈A,jXY ops τ j i=true:=fun j hj=>by
    obtain ⟨h1,h2⟩:=hA j hj
    have h3:=(hok i (List.mem_range.2 hlt)).2 j (List.mem_range.2 h1)
    simp only [Bool.or_eq_true] at h3
    rcases h3 with h3 | h3
    ·exfalso
     cases ho:ops[i]? with
     | none=>rw [ho] at haft; simp at haft
     | some o=>
      rw [ho] at haft
      simp only [Option.map_some,Option.getD_some] at haft
      have h4:=zGC ops hcl hsz i j o ho (fun e he hb=>by
       have:=Array.all_eq_true_iff_forall_mem.1 haft e (Array.mem_toList_iff.1 he)
       simpa [hb] using this) h3
      by_cases hlt':j < listed.size
      ·simp [Array.getD,hlt'] at h2 h4
       rw [h2] at h4; cases h4
      ·simp [Array.getD,hlt'] at h2
    ·exact h3
   rw [hAB] at hruns
   obtain ⟨vc,s1,g1,g2,_,g4⟩:=jVs hind hruns
   have hleft:left ops (listed.setIfInBounds i true)=A++B:=by
    have hnodup:(left ops listed).Nodup:=(List.nodup_range).filter _
    have e1:left ops (listed.setIfInBounds i true)=(left ops listed).filter fun k=>decide (k≠i):=by
     simp only [left,List.filter_filter]
     apply List.filter_congr
     intro k hk
     have hk':k < ops.size:=List.mem_range.1 hk
     by_cases e:k=i
     ·subst e
      simp [Array.getD,hsz,hlt]
     ·have:(listed.setIfInBounds i true).getD k true=listed.getD k true:=by
       simp only [Array.getD_eq_getD_getElem?,Array.getElem?_setIfInBounds_ne (Ne.symm e)]
      rw [this]; simp [e]
    rw [e1,hAB,List.filter_append,List.filter_cons]
    rw [hAB] at hnodup
    have hn:=List.nodup_append.1 hnodup
    have hA':A.filter (fun k=>decide (k≠i))=A:=List.filter_eq_self.2 fun k hk=>by
     have:=(hA k hk).1
     simp; omega
    have hB':B.filter (fun k=>decide (k≠i))=B:=List.filter_eq_self.2 fun k hk=>by
     have:i≠k:=fun e=>by
      have:=(List.nodup_cons.1 hn.2.1).1
      exact this (by rw [e]; exact hk)
     simp; exact Ne.symm this
    rw [hA',hB']
    simp
   refine zW2 hF g1 hr g2 fun ι' a' w' hr'=>?_
   have hcl2:jYz ops (listed.setIfInBounds i true):=by
    intro k ok hk hkl hks e he hb
    have hmono:∀ q,listed.getD q false=true→(listed.setIfInBounds i true).getD q false=true:=fun q hq=>by
     by_cases e':q=i
     ·subst e'
      simp [Array.getD,hsz,hlt]
     ·simp only [Array.getD_eq_getD_getElem?,Array.getElem?_setIfInBounds_ne (Ne.symm e')] at hq ⊢
      exact hq
    refine hmono _ ?_
    by_cases e':k=i
    ·subst e'
     rw [hk] at haft
     simp only [Option.map_some,Option.getD_some] at haft
     have:=Array.all_eq_true_iff_forall_mem.1 haft e (Array.mem_toList_iff.1 he)
     simpa [hb] using this
    ·have hkl':listed.getD k true=true:=by
      simp only [Array.getD_eq_getD_getElem?,Array.getElem?_setIfInBounds_ne (Ne.symm e')] at hkl ⊢
      exact hkl
     exact hcl k ok hk hkl' (by simpa using hks) e he hb
   refine ih _ s1 ι' a' w' hcl2 (by simpa using hsz) ?_ (by rw [hleft]; exact g4) hr'
   rw [hleft]
   have:(left ops listed).length=(A++B).length+1:=by rw [hAB]; simp; omega
   omega
end
abbrev Kn:=Nat→Option Bool
def kx (kn:Kn):Operand→Option Bool
 | .const (.bool b)=>some b
 | .tmp t=>kn t
 | _=>none
def knOf (kn:Kn):Op→Option Bool
 | .move x | .assign x=>kx kn x
 | .pick c x y=>match kx kn c with
  | some true=>kx kn x
  | some false=>kx kn y
  | none=>none
 | .unOp .not _ x=>(kx kn x).map (!·)
 | _=>none
def zY9 (kn:Kn) (d:Option Nat) (b:Option Bool):Kn:=
 match d with
 | some d=>fun t=>if t=d then b else kn t
 | none=>kn
def jXp (x:AV) (b:Bool):AV:=
 match x with
 | .one (.d (.bool _))=>.one (.d (.bool b))
 | .one (.lit (.bool _))=>.one (.lit (.bool b))
 | x=>x
def AS.fix (s:AS) (t:Nat) (b:Bool):AS:=s.put (some t) (jXp (s.tm t) b)
def KnOK (kn:Kn) (s:AS):Prop:=∀ t b,kn t=some b→(s.tm t).bool?=some b
inductive Gd where
  | stuck
  | yes
  | no
  | ask (t:Nat) (b want:Bool)
def gd (ops:Array Oper) (kn:Kn) (s:AS) (o:Oper):Gd:=
 match o.guard with
 | none=>.yes
 | some (j,want)=>match (ops[j]?).bind (·.dst) with
  | none=>.stuck
  | some t=>match kn t with
   | some b=>if b=want then .yes else .no
   | none=>match s.tm t with
    | .tup []=>.no
    | .one (.d (.bool b))=>.ask t b want
    | .one (.lit (.bool b))=>.ask t b want
    | _=>.stuck
section
variable (P:Program) (Γ:Gam) (n:Dom)
def aopT (o:Oper) (s:AS):Option (Prop × AS × (List Nat × List Nat)):=
 if zHC n o then
  match zKo P Γ o s.eval with
  | some e=>match e.f (e.rds.map s.bx) ((e.more (e.rds.map s.bx)).map s.bx) with
   | some (vc,v,ws)=>some (vc,(s.setL ws).put o.dst v,(e.rds++e.more (e.rds.map s.bx),ws.map (·.1)))
   | none=>none
  | none=>none
 else none
def zYy (ops:Array Oper):List Nat→Kn→AS→List (List Nat × List Nat)→(Kn→AS→List (List Nat × List Nat)→Prop)→Prop
 | [],kn,s,acc,Q=>Q kn s acc
 | i::R,kn,s,acc,Q=>
  match ops[i]? with
  | none=>False
  | some o=>match gd ops kn s o with
   | .stuck=>False
   | .yes=>match aopT P Γ n o s with
    | some (vc,s',t)=>vc∧zYy ops R (zY9 kn o.dst (knOf kn o.op)) s' (t::acc) Q
    | none=>False
   | .no=>match zHC n o with
    | true=>zYy ops R (zY9 kn o.dst none) (s.put o.dst (.tup [])) (([],[])::acc) Q
    | false=>False
   | .ask t b want=>
    (b=want→match aopT P Γ n o (s.fix t want) with
     | some (vc,s',th)=>vc∧zYy ops R (zY9 (zY9 kn (some t) (some want)) o.dst (knOf (zY9 kn (some t) (some want)) o.op)) s' (th::acc) Q
     | none=>False) ∧
    (b=(!want)→match zHC n o with
     | true=>zYy ops R (zY9 (zY9 kn (some t) (some (!want))) o.dst none) ((s.fix t (!want)).put o.dst (.tup [])) (([],[])::acc) Q
     | false=>False)
end
theorem jZ1 {x:AV} {b:Bool} (h:x.bool?=some b):jXp x b=x:=by
 unfold AV.bool? at h
 split at h
 ·injection h with h; subst h; rfl
 ·injection h with h; subst h; rfl
 ·cases h
theorem jZh {s:AS} {t:Nat} {b:Bool} (h:(s.tm t).bool?=some b):s.fix t b=s:=by
 unfold AS.fix
 rw [jZ1 h]
 apply AS.ext'
 ·funext t'
  simp only [AS.put]
  split
  ·rename_i e; rw [e]
  ·rfl
 ·rfl
theorem zGq {kn:Kn} {s:AS} (h:KnOK kn s) {x:Operand} {b:Bool} (hx:kx kn x=some b):(s.eval x).bool?=some b:=by
 unfold kx at hx
 split at hx
 ·injection hx with hx; subst hx; rfl
 ·exact h _ _ hx
 ·cases hx
section
variable {P:Program} {Γ:Gam} {n:Dom} {ops:Array Oper}
theorem jJz {o:Oper} {s s':AS} {vc:Prop} {t:List Nat × List Nat} (h:aopT P Γ n o s=some (vc,s',t)):aop P Γ n o s=some (vc,s')∧∃ e,zKo P Γ o s.eval=some e∧t=e.touch s.bx:=by
 unfold aopT at h
 unfold aop
 split at h
 ·rename_i hd
  rw [if_pos hd]
  split at h
  ·rename_i e he
   split at h
   ·rename_i vc' v ws hf
    simp only [Option.some.injEq,Prod.mk.injEq] at h
    obtain ⟨rfl,rfl,rfl⟩:=h
    refine ⟨?_,e,he,by simp [Eff2.touch,hf]⟩
    try rw [he]
    simp only [hf]
   ·cases h
  ·cases h
 ·cases h
theorem jVf {kn:Kn} {s s':AS} (h:KnOK kn s) {o:Oper} {vc:Prop} (ha:aop P Γ n o s=some (vc,s')):KnOK (zY9 kn o.dst (knOf kn o.op)) s':=by
 unfold aop at ha
 split at ha
 ·split at ha
  ·rename_i e he
   split at ha
   ·rename_i vc' v bs hf
    simp only [Option.some.injEq,Prod.mk.injEq] at ha
    obtain ⟨rfl,rfl⟩:=ha
    intro t b hb
    cases hd:o.dst with
    | none=>
     rw [hd] at hb
     have hb:kn t=some b:=hb
     show ((s.setL bs).tm t).bool?=some b
     rw [AS.setL,zZx]
     exact h t b hb
    | some d=>
     rw [hd] at hb
     simp only [zY9] at hb
     by_cases e1:t=d
     ·rw [if_pos e1] at hb
      simp only [AS.put,if_pos e1]
      unfold knOf at hb
      unfold zKo at he
      have he':(prep P Γ o s.eval).map Eff.up=some e:=by
       split at he
       ·rename_i c hc
        rw [hc] at hb
        cases hb
       ·exact he
      clear he
      obtain ⟨e0,he,rfl⟩:=Option.map_eq_some_iff.1 he'
      clear he'
      simp only [Eff.up] at hf
      obtain ⟨⟨vc0,v0,bs0⟩,hf2,hf'⟩:=Option.map_eq_some_iff.1 hf
      clear hf
      have hf:=hf2
      clear hf2
      simp only [Prod.mk.injEq] at hf'
      obtain ⟨rfl,rfl,rfl⟩:=hf'
      unfold prep at he
      split at hb
      ·rename_i x hop
       rw [hop] at he
       simp only [Option.some.injEq] at he
       subst he
       simp only [Eff.val,Option.some.injEq,Prod.mk.injEq] at hf
       rw [← hf.2.1]; exact zGq h hb
      ·rename_i x hop
       rw [hop] at he
       simp only [Option.some.injEq] at he
       subst he
       simp only [Eff.val,Option.some.injEq,Prod.mk.injEq] at hf
       rw [← hf.2.1]; exact zGq h hb
      ·rename_i c x y hop
       rw [hop] at he
       simp only [zHe] at he
       split at hb
       ·rename_i hc
        rw [zGq h hc] at he
        simp only [Option.some.injEq] at he
        subst he
        simp only [Eff.val,Option.some.injEq,Prod.mk.injEq] at hf
        rw [← hf.2.1]; exact zGq h hb
       ·rename_i hc
        rw [zGq h hc] at he
        simp only [Option.some.injEq] at he
        subst he
        simp only [Eff.val,Option.some.injEq,Prod.mk.injEq] at hf
        rw [← hf.2.1]; exact zGq h hb
       ·cases hb
      ·rename_i t' x hop
       rw [hop] at he
       simp only [opUn] at he
       cases hx:kx kn x with
       | none=>rw [hx] at hb; cases hb
       | some bx=>
        rw [hx] at hb
        simp only [Option.map_some,Option.some.injEq] at hb
        have:=zGq h hx
        unfold AV.bool? at this
        split at this
        ·rename_i b' hs
         rw [hs] at he
         simp only [Option.some.injEq] at this he
         subst this he
         simp only [Eff.val,Option.some.injEq,Prod.mk.injEq] at hf
         rw [← hf.2.1,← hb]; rfl
        ·rename_i b' hs
         rw [hs] at he
         simp only [Option.some.injEq] at this he
         subst this he
         simp only [Eff.val,Option.some.injEq,Prod.mk.injEq] at hf
         rw [← hf.2.1,← hb]; rfl
        ·cases this
      ·cases hb
     ·rw [if_neg e1] at hb
      simp only [AS.put,if_neg e1]
      rw [AS.setL,zZx]
      exact h t b hb
   ·cases ha
  ·cases ha
 ·cases ha
theorem jJS {kn:Kn} {s:AS} (h:KnOK kn s) {t:Nat} {b:Bool} (ht:(s.tm t).bool?=some b):KnOK (zY9 kn (some t) (some b)) s:=by
 intro t' b' hb
 simp only [zY9] at hb
 by_cases e:t'=t
 ·rw [if_pos e] at hb; injection hb with hb; subst hb; rw [e]; exact ht
 ·rw [if_neg e] at hb; exact h _ _ hb
theorem jKC {kn:Kn} {s:AS} (h:KnOK kn s) (d:Option Nat):KnOK (zY9 kn d none) (s.put d (.tup [])):=by
 intro t b hb
 cases d with
 | none=>exact h t b hb
 | some d=>
  simp only [zY9] at hb
  by_cases e:t=d
  ·rw [if_pos e] at hb; cases hb
  ·rw [if_neg e] at hb
   simp only [AS.put,if_neg e]
   exact h t b hb
def Ran (P:Program) (Γ:Gam) (n:Dom) (ops:Array Oper) (R:List Nat) (s:AS) (acc:List (List Nat × List Nat)) (Q:Kn→AS→List (List Nat × List Nat)→Prop):Prop:=
 ∃ (kn':Kn) (s':AS) (ts:List (List Nat × List Nat)),Q kn' s' (ts.reverse++acc)∧KnOK kn' s'∧ts.length=R.length∧∀ τ:Nat→List Nat × List Nat,(∀ (k:Nat) (i:Nat),R[k]?=some i→τ i=ts.getD k ([],[]))→Runs P Γ n ops τ R s s'
theorem zK9:∀ {R:List Nat} {kn:Kn} {s:AS} {acc:List (List Nat × List Nat)} {Q:Kn→AS→List (List Nat × List Nat)→Prop},zYy P Γ n ops R kn s acc Q→KnOK kn s →
  Ran P Γ n ops R s acc Q
 | [],kn,s,acc,Q,h,hk=>⟨kn,s,[],h,hk,rfl,fun τ _=>rfl⟩
 | i::R,kn,s,acc,Q,h,hk=>by
  have yes:∀ {o:Oper} {kn1:Kn},ops[i]?=some o→gv ops s o=some true→KnOK kn1 s→(match aopT P Γ n o s with
    | some (vc,s',t)=>vc∧zYy P Γ n ops R (zY9 kn1 o.dst (knOf kn1 o.op)) s' (t::acc) Q
    | none=>False)→Ran P Γ n ops (i::R) s acc Q:=by
   intro o kn1 ho hg hk1 h
   split at h
   ·rename_i vc s1 t ha
    obtain ⟨hvc,h⟩:=h
    obtain ⟨h1,e,he,rfl⟩:=jJz ha
    obtain ⟨kn',s',ts,g1,g2,g3,g4⟩:=zK9 h (jVf hk1 h1)
    refine ⟨kn',s',e.touch s.bx::ts,by simpa using g1,g2,by simp [g3],fun τ hτ=>⟨vc,s1,by simp [zKx,ho,hg,h1],hvc,?_,g4 τ fun k j hj=>by simpa using hτ (k+1) j (by simpa using hj)⟩⟩
    have:=hτ 0 i rfl
    rw [this]
    simp [touch,ho,hg,he]
   ·exact h.elim
  have no:∀ {o:Oper} {kn1:Kn},ops[i]?=some o→gv ops s o=some false→KnOK kn1 s→(match zHC n o with
    | true=>zYy P Γ n ops R (zY9 kn1 o.dst none) (s.put o.dst (.tup [])) (([],[])::acc) Q
    | false=>False)→Ran P Γ n ops (i::R) s acc Q:=by
   intro o kn1 ho hg hk1 h
   split at h
   ·rename_i hd
    obtain ⟨kn',s',ts,g1,g2,g3,g4⟩:=zK9 h (jKC hk1 o.dst)
    refine ⟨kn',s',([],[])::ts,by simpa using g1,g2,by simp [g3],fun τ hτ=>⟨True,_,by simp only [zKx,ho,hg,hd,if_true],trivial,?_,g4 τ fun k j hj=>by simpa using hτ (k+1) j (by simpa using hj)⟩⟩
    have:=hτ 0 i rfl
    rw [this]
    simp [touch,ho,hg]
   ·exact h.elim
  unfold zYy at h
  split at h
  ·exact h.elim
  ·rename_i o ho
   split at h
   ·exact h.elim
   ·rename_i hg
    have hgv:gv ops s o=some true:=by
     unfold gd at hg
     unfold gv
     cases hgu:o.guard with
     | none=>rfl
     | some jw=>
      obtain ⟨j,want⟩:=jw
      rw [hgu] at hg
      simp only at hg ⊢
      cases ht:(ops[j]?).bind (·.dst) with
      | none=>rw [ht] at hg; cases hg
      | some t=>
       rw [ht] at hg
       simp only at hg ⊢
       cases hkt:kn t with
       | some b=>
        rw [hkt] at hg
        simp only at hg
        split at hg
        ·rename_i hbw
         subst hbw
         have hb:=hk t b hkt
         split
         ·rename_i hs; rw [hs] at hb; simp [AV.bool?] at hb
         ·rw [hb]; simp
        ·cases hg
       | none=>
        rw [hkt] at hg
        simp only at hg
        split at hg <;> cases hg
    exact yes ho hgv hk h
   ·rename_i hg
    have hgv:gv ops s o=some false:=by
     unfold gd at hg
     unfold gv
     cases hgu:o.guard with
     | none=>rw [hgu] at hg; cases hg
     | some jw=>
      obtain ⟨j,want⟩:=jw
      rw [hgu] at hg
      simp only at hg ⊢
      cases ht:(ops[j]?).bind (·.dst) with
      | none=>rw [ht] at hg; cases hg
      | some t=>
       rw [ht] at hg
       simp only at hg ⊢
       cases hkt:kn t with
       | some b=>
        rw [hkt] at hg
        simp only at hg
        split at hg
        ·cases hg
        ·rename_i hbw
         have hb:=hk t b hkt
         split
         ·rfl
         ·rw [hb]; simp [hbw]
       | none=>
        rw [hkt] at hg
        simp only at hg
        split at hg
        ·rename_i hs; simp [hs]
        ·cases hg
        ·cases hg
        ·cases hg
    exact no ho hgv hk h
   ·rename_i t b want hg
    have hgt:∃ j,o.guard=some (j,want)∧(ops[j]?).bind (·.dst)=some t∧(s.tm t).bool?=some b:=by
     unfold gd at hg
     cases hgu:o.guard with
     | none=>rw [hgu] at hg; cases hg
     | some jw=>
      obtain ⟨j,want'⟩:=jw
      rw [hgu] at hg
      simp only at hg
      cases ht:(ops[j]?).bind (·.dst) with
      | none=>rw [ht] at hg; cases hg
      | some t'=>
       rw [ht] at hg
       simp only at hg
       cases hkt:kn t' with
       | some b'=>rw [hkt] at hg; simp only at hg; split at hg <;> cases hg
       | none=>
        rw [hkt] at hg
        simp only at hg
        split at hg
        ·cases hg
        ·rename_i b' hs
         simp only [Gd.ask.injEq] at hg
         obtain ⟨rfl,rfl,rfl⟩:=hg
         exact ⟨j,rfl,ht,by rw [hs]; rfl⟩
        ·rename_i b' hs
         simp only [Gd.ask.injEq] at hg
         obtain ⟨rfl,rfl,rfl⟩:=hg
         exact ⟨j,rfl,ht,by rw [hs]; rfl⟩
        ·cases hg
    obtain ⟨j,h1,h2,h3⟩:=hgt
    have hgv:gv ops s o=some (b==want):=by
     unfold gv
     rw [h1]
     simp only [h2]
     split
     ·rename_i hs; rw [hs] at h3; simp [AV.bool?] at h3
     ·rw [h3]; simp
    by_cases hbw:b=want
    ·subst hbw
     rw [jZh h3] at h
     exact yes ho (hgv.trans (by simp)) (jJS hk h3) (h.1 rfl)
    ·have hbn:b=!want:=by cases b <;> cases want <;> simp_all
     subst hbn
     rw [jZh h3] at h
     exact no ho (hgv.trans (by cases want <;> rfl)) (jJS hk h3) (h.2 rfl)
end
def jZv (w:World):Bool × List DV→Value→Prop
 |(false,ds),v=>∃ d,ds=[d]∧d.plain=some v
 |(true,ds),v=>∃ g,v=.pointer (some ⟨g,0,none⟩)∧∀ i d,ds[i]?=some d→∃ u,d.plain=some u∧w.cell? ⟨g,i,none⟩=some u
def zHO (w:World):List (Bool × List DV)→List Value→Prop
 | [],[]=>True
 | c::cs,v::vs=>jZv w c v∧zHO w cs vs
 | _,_=>False
def zWW (ds:List DV):Array Value:=(ds.map fun d=>d.plain.getD undef).toArray
def AnsI (P:Program) (g:FuncId) (caps:List (Bool × List DV)) (N:Nat) (item:Nat→List DV):Prop:=
 ∀ (lb:Array Value) (l m:Nat) (J:Nat→World→Prop) (Jx:World→Prop),
  (∀ k W,J k W→zHO W caps lb.toList) →
  (∀ k W d,J k W→J k { W with drawn:=d })→(∀ W d,Jx W→Jx { W with drawn:=d }) →
  (∀ k W,k < N→J k W→YieldAt Fence.wide m P l (zWW (item k)) W fun e W'=>(e=.returned (.bool true)∧J (k+1) W')∨(e=.returned (.bool false)∧Jx W')) →
  ∀ W,J 0 W→CallsIn Fence.wide m P g (#[.func (.yield l) #[] #[]]++lb) W fun e W'=>(∃ v,e=.returned v)∧(J N W'∨Jx W')
def jYG (I:World→Prop) (Ix:Code→World→Prop) (W:World):Exit→Act→World→Prop
 | .normal,_,W'=>KeepsOthers W W'∧I W'
 | .ret,_,W'=>KeepsOthers W W'∧Ix .ret W'
 | .exit id,_,W'=>KeepsOthers W W'∧Ix (.exit id) W'
 | _,_,_=>False
def zVG (B:Nat) (I:World→Prop):Prop:=
 ∀ W W' row,I W→W.grownBy W' row→(∀ r,row=some r→B≤r∧∃ o:Obj,W.heap[r]?=some o∧o.isCells=false)→I W'
theorem zVG.put {B:Nat} {I:World→Prop} (h:zVG B I) {W:World} {l:Nat} {o:Obj} (o':Obj) (hs:I W) (hB:B≤l) (hl:W.heap[l]?=some o) (ho:o.isCells=false):I (W.putObj l o'):=
 h W _ (some l) hs (grownBy_putObj' W l o') (fun r e=>by cases e; exact ⟨hB,o,hl,ho⟩)
theorem zVG.new_ {B:Nat} {I:World→Prop} (h:zVG B I) {W:World} (o:Obj) (hs:I W):I (W.alloc o):=
 h W _ none hs (World.grownBy_alloc W o none) (fun r e=>by cases e)
theorem zVG.drawn {B:Nat} {I:World→Prop} (h:zVG B I) {W:World} (d:Nat) (hs:I W):I { W with drawn:=d }:=
 h W _ none hs ⟨rfl,rfl,rfl,Nat.le_refl _,fun _ _ _=>rfl⟩ (fun r e=>by cases e)
theorem jXx {P:Program} {g:Operand} {ps:Array Tmp} {assign body:Code} {Q:Exit→Act→World→Prop} {a:Act} {w:World} {m gf:Nat} {lb:Array Value}
  (hg:a.eval g=.func (.func gf) #[] lb) (eg:∀ args w,(callFunc gf args).run P w=.ok (.enter gf args) w)
  {caps:List (Bool × List DV)} {N:Nat} {item:Nat→List DV} (hseq:AnsI P gf caps N item) (hps:∀ k,k < N→(item k).length=ps.size)
  (I:Nat→World→Prop) (Ix:Code→World→Prop) (hI:∀ k,zVG w.heap.size (I k)) (hIx:∀ c,zVG w.heap.size (Ix c))
  (hcaps:∀ k W,I k W→zHO W caps lb.toList) (h0:I 0 w)
  (hround:∀ l k W,k < N→I k W →
   assign.wpIn (Fence.wide.inRound l) m P (Exit.then (fun a1 W1=>KeepsOthers W W1∧∀ W2,W1.grownBy W2 (some l)→w.heap.size≤l→(∃ r:Loop,W1.heap[l]?=some (.loop r)) →
    body.wpIn (Fence.wide.inRound l) m P (jYG (I (k+1)) Ix W2) a1 W2) (fun _ _ _=>False))
    { tmps:=(ps.zip (zWW (item k))).foldl (fun t (p,v)=>t.setIfInBounds p v) a.tmps,defers:=[] } W)
  (hdone:∀ (D:Nat) (W:World),w.heap.size≤D→I N W→W.heap[D]?=some (.deferred (some []))→Q .normal { a with defers:={ target:=.collected D,args:=#[] }::a.defers } W)
  (hstop:∀ (D:Nat) (c:Code) (W:World),w.heap.size≤D→Ix c W→W.heap[D]?=some (.deferred (some []))→c.wpIn Fence.wide m P Q { a with defers:={ target:=.collected D,args:=#[] }::a.defers } W) :
  (Code.rangeFunc g ps assign body).wpIn Fence.wide m P Q a w:=by
 refine wpIn_rangeFunc ?_
 intro fn hfn
 show ∃ (l:Nat) (mark:List Deferred) (w₁:World) (d:Deferred) (w₁':World) (f:FuncId) (args:Array Value) (w₂:World),(Instr.enterLoop fn a.tmps ps assign body none).run P w=_∧_
 obtain ⟨rec,hrec⟩:∃ rec:LoopState→Option Code→Loop,rec=fun st pe=>{ state:=st,pending:=pe,fn,tmps:=a.tmps,params:=ps,assign,body,defers:=w.heap.size }:=⟨_,rfl⟩
 obtain ⟨W1,hW1⟩:∃ W1,(w.alloc (.deferred (some []))).alloc (.loop (rec .ready none))=W1:=⟨_,rfl⟩
 have hL1:W1.heap[w.heap.size+1]?=some (.loop (rec .ready none)):=by
  rw [← hW1]; have:=World.alloc_heap_new (w.alloc (.deferred (some []))) (.loop (rec .ready none)); rwa [World.size_alloc] at this
 have hK1:W1.heap[w.heap.size]?=some (.deferred (some [])):=by
  rw [← hW1]; exact (Below.heap_alloc _ _ _ (by simp)).trans (World.alloc_heap_new w _)
 have hI1:I 0 W1:=by rw [← hW1]; exact (hI 0).new_ _ ((hI 0).new_ _ h0)
 refine ⟨w.heap.size+1,[{ target:=.collected w.heap.size,args:=#[] }],W1,{ target:=.fn (.func gf) lb,args:=#[.func (.yield (w.heap.size+1)) #[] #[]] },W1,gf,
  #[.func (.yield (w.heap.size+1)) #[] #[]]++lb,W1,?_,?_,?_,?_,fun h=>by (cases h),?_⟩
 ·rw [← hW1,hrec]; exact run_enterLoop_outer _ _ _ _ _
 ·simp only [resolve,hg]
  simp [go_sem]
 ·intro f' hf'; trivial
 ·simp [invoke,go_sem,eg]
 ·refine CallsIn.mono (hseq lb (w.heap.size+1) (m - 1)
   (fun k W=>I k W∧W.heap[w.heap.size+1]?=some (.loop (rec .ready none))∧W.heap[w.heap.size]?=some (.deferred (some [])))
   (fun W=>∃ c,Ix c W∧W.heap[w.heap.size+1]?=some (.loop (rec .done (some c)))∧W.heap[w.heap.size]?=some (.deferred (some [])))
   (fun k W h=>hcaps k W h.1) (fun k W d h=>⟨(hI k).drawn d h.1,h.2.1,h.2.2⟩) (fun W d ⟨c,h1,h2,h3⟩=>⟨c,(hIx c).drawn d h1,h2,h3⟩) ?_ W1 ⟨hI1,hL1,hK1⟩) ?_
  ·
   rintro k W hk ⟨hi,hl,hkd⟩
   have hy:=run_yield (P:=P) (args:=zWW (item k)) hl (by rw [hrec]; simp only [zWW,List.size_toArray,List.length_map]; exact hps k hk)
   rw [hrec] at hy
   refine ⟨fn,_,assign,body,hy,roundIn_of_wpIn trivial ?_⟩
   have hr:=hround (w.heap.size+1) k W hk hi
   have hr:assign.wpIn (Fence.wide.inRound (w.heap.size+1)) (m - 1) P _ _ W:=fun b k cs h1 h2 _=>hr b k cs h1 h2 (Wide.room (.inr ⟨_,rfl⟩) _)
   refine wpIn_mono hr ?_
   intro e a1 Wa hq
   cases e with
   | normal=>
    obtain ⟨hka,hq⟩:=hq
    have hla:=hka.same _ _ hl rfl
    have hda:=hka.same _ _ hkd rfl
    have hbr:=run_beginRound (P:=P) hla (by rw [hrec])
    refine ⟨_,hbr,?_⟩
    have hlt:w.heap.size+1 < Wa.heap.size:=(Array.getElem?_eq_some_iff.1 hla).1
    have hl2:(Wa.putObj (w.heap.size+1) (.loop { rec .ready none with state:=.busy })).heap[w.heap.size+1]?=some (.loop { rec .ready none with state:=.busy }):=World.putObj_heap_same hlt
    have hk2:(Wa.putObj (w.heap.size+1) (.loop { rec .ready none with state:=.busy })).heap[w.heap.size]?=some (.deferred (some [])):=(World.putObj_heap_other (by omega)).trans hda
    have hb:=hq _ (grownBy_putObj' Wa (w.heap.size+1) (.loop { rec .ready none with state:=.busy })) (by omega) ⟨_,hla⟩
    have hb:body.wpIn (Fence.wide.inRound (w.heap.size+1)) (m - 1) P _ a1 _:=fun b k cs h1 h2 _=>hb b k cs h1 h2 (Wide.room (.inr ⟨_,rfl⟩) _)
    refine wpIn_mono hb ?_
    have fin:∀ (jump:Option Code) (W3:World),KeepsOthers (Wa.putObj (w.heap.size+1) (.loop { rec .ready none with state:=.busy })) W3 →
      (Instr.endRound (w.heap.size+1) jump).run P W3=.ok (.bool jump.isNone) (W3.putObj (w.heap.size+1) (.loop (rec (if jump.isNone then .ready else .done) jump))) ∧
      W3.heap[w.heap.size+1]?=some (.loop { rec .ready none with state:=.busy }) ∧
      (W3.putObj (w.heap.size+1) (.loop (rec (if jump.isNone then .ready else .done) jump))).heap[w.heap.size+1]?=some (.loop (rec (if jump.isNone then .ready else .done) jump)) ∧
      (W3.putObj (w.heap.size+1) (.loop (rec (if jump.isNone then .ready else .done) jump))).heap[w.heap.size]?=some (.deferred (some [])):=fun jump W3 hk3=>by
     have hl3:=hk3.same _ _ hl2 rfl
     have:=run_endRound (P:=P) jump hl3
     rw [hrec] at this ⊢
     exact ⟨this,by rw [hrec] at hl3; exact hl3,World.putObj_heap_same (Array.getElem?_eq_some_iff.1 hl3).1,(World.putObj_heap_other (by omega)).trans (hk3.same _ _ hk2 rfl)⟩
    intro e3 a3 W3 hp
    cases e3 with
    | normal=>
     obtain ⟨hk3,hi3⟩:=hp
     obtain ⟨hr,hl3,hl4,hk4⟩:=fin none W3 hk3
     exact ⟨_,_,hr,.inl ⟨rfl,(hI _).put _ hi3 (by omega) hl3 rfl,hl4,hk4⟩⟩
    | ret=>
     obtain ⟨hk3,hi3⟩:=hp
     obtain ⟨hr,hl3,hl4,hk4⟩:=fin (some .ret) W3 hk3
     exact ⟨_,_,hr,.inr ⟨rfl,.ret,(hIx _).put _ hi3 (by omega) hl3 rfl,hl4,hk4⟩⟩
    | exit id=>
     obtain ⟨hk3,hi3⟩:=hp
     obtain ⟨hr,hl3,hl4,hk4⟩:=fin (some (.exit id)) W3 hk3
     exact ⟨_,_,hr,.inr ⟨rfl,.exit id,(hIx _).put _ hi3 (by omega) hl3 rfl,hl4,hk4⟩⟩
    | goto t=>exact hp.elim
    | panic ch=>exact hp.elim
    | outgrown=>exact hp.elim
   | ret=>exact hq.elim
   | exit id=>exact hq.elim
   | goto t=>exact hq.elim
   | panic ch=>exact hq.elim
   | outgrown=>exact hq.elim
  ·
   rintro e W2 ⟨⟨v,rfl⟩,(⟨hi,hl,hk⟩ | ⟨c,hi,hl,hk⟩)⟩
   ·exact ⟨none,_,by have:=run_endLoop (P:=P) hl (by rw [hrec]; simp); rw [hrec] at this; exact this,hdone _ _ (Nat.le_refl _) ((hI _).put _ hi (by omega) hl rfl) ((World.putObj_heap_other (by omega)).trans hk)⟩
   ·exact ⟨some c,_,by have:=run_endLoop (P:=P) hl (by rw [hrec]; simp); rw [hrec] at this; exact this,hstop _ c _ (Nat.le_refl _) ((hIx c).put _ hi (by omega) hl rfl) ((World.putObj_heap_other (by omega)).trans hk)⟩
structure Snap where
  tm:List (Nat × AV)
  bx:List (Nat × Bx)
def jZO:List (Nat × AV)→Nat→AV
 | [],_=>.one .dead
 |(t',v)::r,t=>if t=t' then v else jZO r t
def zXL:List (Nat × Bx)→Nat→Bx
 | [],_=>.fresh
 |(t',v)::r,t=>if t=t' then v else zXL r t
def Snap.as (sn:Snap):AS:=⟨jZO sn.tm,zXL sn.bx⟩
abbrev Ren:=List (Nat × Option Nat)
def zKn:Ren→Nat→Option (Option Nat)
 | [],_=>none
 |(b',x)::r,b=>if b=b' then some x else zKn r b
def jZl:Cap→Cap→Option (Prop × Ren)
 | .d v,.d v'=>some (v'=v,[])
 | .ptr b off,.ptr b' off'=>some (off'=off,[(b,some b')])
 | _,_=>none
def zWU:List Cap→List Cap→Option (Prop × Ren)
 | [],[]=>some (True,[])
 | c::cs,c'::cs'=>match jZl c c',zWU cs cs' with
  | some (p,r),some (q,r')=>some (p∧q,r++r')
  | _,_=>none
 | _,_=>none
def jZW:Cl→Cl→Option (Prop × Ren)
 | .dead,_=>some (True,[])
 | .d v,.d v'=>some (v'=v,[])
 | .d v,.lit (.bool b)=>some (DV.bool b=v,[])
 | .d v,.nil=>some (DV.sl 0 []=v,[])
 | .lit u,.lit u'=>some (u'=u,[])
 | .nil,.nil=>some (True,[])
 | .ptr b off,.ptr b' off'=>some (off'=off,[(b,some b')])
 | .vp cs off,.vp cs' off'=>some (cs'=cs∧off'=off,[])
 | .ref b n,.ref b' n'=>some (n'=n,[(b,some b')])
 | .ref b n,.nil=>some (0=n,[(b,none)])
 | .clo f cs,.clo f' cs'=>if f'=f then zWU cs cs' else none
 | _,_=>none
def zKs:List Cl→List Cl→Option (Prop × Ren)
 | [],[]=>some (True,[])
 | c::cs,c'::cs'=>match jZW c c',zKs cs cs' with
  | some (p,r),some (q,r')=>some (p∧q,r++r')
  | _,_=>none
 | _,_=>none
def zWY:List Cl→Option (List DV)
 | []=>some []
 | .d v::cs=>match zWY cs with
  | some vs=>some (v::vs)
  | none=>none
 | _::_=>none
def zUS (cs cs':List Cl):Option (Prop × Ren):=match zWY cs,dvs cs' with
 | some xs,some ys=>some (ys=xs,[])
 | _,_=>zKs cs cs'
mutual
def zKt:AV→AV→Option (Prop × Ren)
 | .one c,.one c'=>jZW c c'
 | .one .dead,_=>some (True,[])
 | .agg cs,.agg cs'=>zUS cs cs'
 | .tup vs,.tup vs'=>fitAVs vs vs'
 | _,_=>none
def fitAVs:List AV→List AV→Option (Prop × Ren)
 | [],[]=>some (True,[])
 | x::xs,y::ys=>match zKt x y,fitAVs xs ys with
  | some (p,r),some (q,r')=>some (p∧q,r++r')
  | _,_=>none
 | _,_=>none
end
def jYd (s:AS):List (Nat × AV)→Option (Prop × Ren)
 | []=>some (True,[])
 |(t,v)::l=>match zKt v (s.tm t),jYd s l with
  | some (p,r),some (q,r')=>some (p∧q,r++r')
  | _,_=>none
def jZY:Bx→Bx→Option (Prop × Ren)
 | .cells cs,.cells cs'=>zUS cs cs'
 | .row e size xs,.row e' size' xs'=>if e'=e∧size'=size then some (xs'=xs,[]) else none
 | .ice xs,.ice xs'=>some (xs'=xs,[])
 | .gone,.gone=>some (True,[])
 | _,_=>none
def zVE (s:AS):List (Nat × Bx)→Ren→Option (Prop × Ren)
 | [],r=>some (True,r)
 |(b,B)::l,r=>match zKn r b with
  | some (some b')=>match jZY B (s.bx b') with
   | some (p,r')=>match zVE s l (r++r') with
    | some (q,r'')=>some (p∧q,r'')
    | none=>none
   | none=>none
  | some none=>match B with
   | .row _ _ xs=>match zVE s l r with
    | some (q,r'')=>some ([]=xs∧q,r'')
    | none=>none
   | _=>none
  | none=>none
def jK7 (bx:List (Nat × Bx)) (r:Ren):Bool:=
 (r.all fun p=>(zKn r p.1==some p.2) && bx.any fun q=>q.1==p.1) &&
 (r.all fun p=>r.all fun q=>p.1==q.1 || p.2==none || p.2 != q.2) && decide ((bx.map (·.1)).Nodup)
def pins (l:List Nat):Ren:=l.map fun j=>(j,some j)
def jKS (n:Dom) (s:AS) (sn:Snap):Prop:=
 match jYd s sn.tm with
 | some (p,r)=>match zVE s sn.bx (r++pins n.pin) with
  | some (q,r')=>match jK7 sn.bx r' with
   | true=>p∧q
   | false=>False
  | none=>False
 | none=>False
def AS.melt1 (s:AS) (t:Nat):AS:=match s.tm t with
 | .one (.ref b n)=>match zZ5 (s.bx b) with
  | some xs=>⟨fun t'=>if t'=t then .one (.d (.sl n xs)) else s.tm t',fun b'=>if b'=b then (s.bx b).freeze else s.bx b'⟩
  | none=>s
 | _=>s
def meltFor:List (Nat × AV)→AS→AS
 | [],s=>s
 |(t,.one (.d _))::l,s=>meltFor l (s.melt1 t)
 | _::l,s=>meltFor l s
def fits (n:Dom) (s:AS) (sn:Snap):Prop:=jKS n (meltFor sn.tm s) sn
structure Inv where
  α:Type
  ok:α→Prop
  st:α→Snap
  μ:α→Nat
inductive Ann:Type 1 where
  | leaf
  | seq (a b:Ann)
  | loop (I:Inv) (a:I.α→Ann)
  | cut (I:Inv) (a:Ann) (b:I.α→Ann)
  | link (I:Inv) (a:I.α→Ann) (next:Ann)
  | split (a:Ann) (t:Nat) (bs:Ann)
  | opt (v:Int) (b:Ann) (next:Ann)
  | sure (b:Bool) (a:Ann)
  | ice (bs ts:List Nat) (a b:Ann)
  | splitAt (i t:Nat) (vs:List Int)
  | range (I:Inv) (T:List Nat) (a b:I.α→Ann)
def Ann.l:Ann→Ann
 | .seq a _=>a
 | _=>.leaf
def Ann.r:Ann→Ann
 | .seq _ b=>b
 | _=>.leaf
inductive zYj where
  | normal
  | exit (id:Nat)
  | ret
def kn0:Kn:=fun _=>none
def jQ4 (n:Dom):Ann→AS→Prop
 | .link I _ _,s=>∃ z,I.ok z∧fits n s (I.st z)
 | _,_=>False
def zHl (n:Dom) (f:Ann→Kn→AS→(zYj→Kn→AS→Prop)→Prop) (Q:zYj→Kn→AS→Prop):Ann→Prop
 | .link I a next=>(∀ z,I.ok z→f (a z) kn0 (I.st z).as fun e kn' s'=>match e with
   | .normal=>jQ4 n next s'
   | e=>Q e kn' s')∧zHl n f Q next
 | _=>True
def jYW (e:Int):Ann→Prop
 | .opt v _ next=>e=v∨jYW e next
 | _=>False
def jQS (f:Ann→Kn→AS→(zYj→Kn→AS→Prop)→Prop) (k:IntKind) (e:Int) (kn:Kn) (s:AS) (t:Nat) (Q:zYj→Kn→AS→Prop):Ann→Prop
 | .opt v b next=>(e=v→f b (zY9 kn (some t) none) (s.put (some t) (.one (.d (.int k v)))) Q)∧jQS f k e kn s t Q next
 | _=>True
def jVc (f:Ann→Kn→AS→(zYj→Kn→AS→Prop)→Prop) (kn:Kn) (s:AS) (t:Nat) (bs:Ann) (Q:zYj→Kn→AS→Prop):Prop:=
 match s.tm t with
 | .one (.d (.int k e))=>jYW e bs∧jQS f k e kn s t Q bs
 | _=>False
def zGz (bx:Nat→Bx):Cap→Option (Bool × List DV)
 | .d v=>if v.plain.isSome then some (false,[v]) else none
 | .ptr b off=>if off=0 then match bx b with
  | .cells cs=>match dvs cs with
   | some ds=>if ds.all (fun d=>d.plain.isSome) then some (true,ds) else none
   | none=>none
  | _=>none else none
def zYW (bx:Nat→Bx):List Cap→Option (List (Bool × List DV))
 | []=>some []
 | c::cs=>match zGz bx c,zYW bx cs with
  | some x,some xs=>some (x::xs)
  | _,_=>none
def AS.only (T:List Nat) (s:AS):AS:=⟨fun t=>if T.contains t then s.tm t else .one .dead,s.bx⟩
def AS.putAll:AS→List Nat→List DV→AS
 | s,p::ps,d::ds=>(s.put (some p) (.one (.d d))).putAll ps ds
 | s,_,_=>s
def Dom.pinned (n:Dom) (names:List Nat):Dom:=⟨n.n,n.keep,n.pin++names,n.round⟩
def Dom.inner (n:Dom) (T names:List Nat):Dom:=⟨n.n,fun t=>n.keep t || T.contains t,n.pin++names,true⟩
def jXC:DV→Prop
 | .int k n=>k.min≤n∧n≤k.max
 | .bool _=>True
 | .str s=>s.size≤maxLen
 | _=>False
def zJI:List DV→Prop
 | []=>True
 | d::ds=>jXC d∧zJI ds
def psOK (ps T:List Nat) (n:Dom):Bool:=(ps.all fun p=>decide (p < n.n) && !T.contains p && !n.keep p) && decide ps.Nodup
abbrev VCF:=Dom→Ann→Kn→AS→(zYj→Kn→AS→Prop)→Prop
def zH8 (P:Program) (Γ:Gam) (n:Dom) (fA fB:VCF) (g:Operand) (ps:List Nat) (I:Inv) (T:List Nat) (a b:I.α→Ann) (s:AS) (Q:zYj→Kn→AS→Prop):Prop:=
 match s.eval g with
 | .one (.clo f cs)=>match zYW s.bx cs,enters P f && !n.round && psOK ps T n with
  | some caps,true=>match Γ.iter f caps with
   | some (N,item)=>
    AnsI P f caps N item∧(∀ k,k < N→(item k).length=ps.length∧zJI (item k)) ∧
    (∃ z,I.ok z∧I.μ z=0∧fits (n.pinned (cs.flatMap Cap.names)) s (I.st z)) ∧
    (∀ z,I.ok z→zYW (zXL (I.st z).bx) cs=some caps ∧
     (I.μ z < N→fA (n.inner T (cs.flatMap Cap.names)) (a z) kn0 (((I.st z).as.only T).putAll ps (item (I.μ z))) fun e kn' s'=>match e with
      | .normal=>fB (n.inner T (cs.flatMap Cap.names)) (b z) kn' s' fun e kn' s'=>match e with
       | .normal=>∃ y,I.ok y∧I.μ y=I.μ z+1∧fits (n.inner T (cs.flatMap Cap.names)) s' (I.st y)
       | e=>Q e kn0 (s'.only T)
      | _=>False) ∧
     (I.μ z=N→Q .normal kn0 ((I.st z).as.only T)))
   | none=>False
  | _,_=>False
 | _=>False
def melts:AS→List Nat→AS
 | s,[]=>s
 | s,t::ts=>melts (s.melt1 t) ts
def orIs (e:Int):List Int→Prop
 | []=>False
 | v::vs=>e=v∨orIs e vs
def jJA (e:Int) (k:IntKind) (t:Nat) (s:AS) (K:AS→Prop):List Int→Prop
 | []=>True
 | v::vs=>(e=v→K (s.put (some t) (.one (.d (.int k v)))))∧jJA e k t s K vs
def zHT (vs:List Int) (t:Nat) (s:AS) (K:AS→Prop):Prop:=
 match s.tm t with
 | .one (.d (.int k e))=>orIs e vs∧jJA e k t s K vs
 | _=>False
def jJ7 (P:Program) (Γ:Gam) (n:Dom) (ops:Array Oper) (ann:Ann) (kn:Kn) (s:AS) (K:Kn→AS→List (List Nat × List Nat)→Prop):Prop:=
 match ann with
 | .splitAt i t vs=>zYy P Γ n ops ((List.range ops.size).take (i+1)) kn s [] fun kn' s' acc=>zHT vs t s' fun s2=>zYy P Γ n ops ((List.range ops.size).drop (i+1)) kn' s2 acc K
 | _=>zYy P Γ n ops (List.range ops.size) kn s [] K
def vcg (P:Program) (Γ:Gam):Dom→Code→Ann→Kn→AS→(zYj→Kn→AS→Prop)→Prop
 | _,.skip,_,kn,s,Q=>Q .normal kn s
 | _,.label _,_,kn,s,Q=>Q .normal kn s
 | _,.exit id,_,kn,s,Q=>Q (.exit id) kn s
 | _,.ret,_,kn,s,Q=>Q .ret kn s
 | n,.region _ ops draw,ann,kn,s,Q=>jJ7 P Γ n ops ann kn s fun kn' s' acc=>match draw with
  | true=>jYK ops (fun i=>acc.reverse.getD i ([],[]))=true∧Q .normal kn' s'
  | false=>Q .normal kn' s'
 | n,.seq x y,ann,kn,s,Q=>match ann with
  | .cut I a b=>vcg P Γ n x a kn s (fun e kn' s'=>match e with
    | .normal=>∃ z,I.ok z∧fits n s' (I.st z)
    | e=>Q e kn' s')∧∀ z,I.ok z→vcg P Γ n y (b z) kn0 (I.st z).as Q
  | .ice bs ts a b=>vcg P Γ n x a kn s fun e kn' s'=>match e with
    | .normal=>vcg P Γ n y b kn' (melts (ices s' bs) ts) Q
    | e=>Q e kn' s'
  | .split a t bs=>vcg P Γ n x a kn s fun e kn' s'=>match e with
    | .normal=>jVc (vcg P Γ n y) kn' s' t bs Q
    | e=>Q e kn' s'
  | ann=>vcg P Γ n x ann.l kn s fun e kn' s'=>match e with
    | .normal=>vcg P Γ n y ann.r kn' s' Q
    | e=>Q e kn' s'
 | n,.cond c x y,ann,kn,s,Q=>match ann with
  | .sure b a=>match (s.eval c).bool? with
   | some b'=>b'=b∧match b with
    | true=>vcg P Γ n x a kn s Q
    | false=>vcg P Γ n y a kn s Q
   | none=>False
  | ann=>match kx kn c with
   | some true=>vcg P Γ n x ann.l kn s Q
   | some false=>vcg P Γ n y ann.r kn s Q
   | none=>match (s.eval c).bool? with
    | some b=>(b=true→vcg P Γ n x ann.l kn s Q)∧(b=false→vcg P Γ n y ann.r kn s Q)
    | none=>False
 | n,.block id c,ann,kn,s,Q=>vcg P Γ n c ann kn s fun e kn' s'=>match e with
  | .exit id'=>match decide (id'=id) with
   | true=>Q .normal kn' s'
   | false=>Q (.exit id') kn' s'
  | e=>Q e kn' s'
 | n,.loop c,ann,kn,s,Q=>match ann with
  | .loop I a=>(∃ z,I.ok z∧fits n s (I.st z))∧∀ z,I.ok z→vcg P Γ n c (a z) kn0 (I.st z).as fun e kn' s'=>match e with
    | .normal=>∃ y,I.ok y∧I.μ y < I.μ z∧fits n s' (I.st y)
    | e=>Q e kn' s'
  | .link I a next=>jQ4 n (.link I a next) s∧zHl n (vcg P Γ n c) Q (.link I a next)
  | _=>False
 | n,.rangeFunc g ps x y,ann,kn,s,Q=>match ann with
  | .range I T a b=>zH8 P Γ n (fun n'=>vcg P Γ n' x) (fun n'=>vcg P Γ n' y) g ps.toList I T a b s Q
  | _=>False
 | _,_,_,_,_,_=>False
section
variable {w:World} {V:Nat→Prop} {ι:zQE} {bx:Nat→Bx}
def nm (ι:zQE) (r:Ren):zQE:=fun b=>match zKn r b with
 | some (some b')=>ι b'
 | _=>none
theorem jZX {ι':zQE} {bx':Nat→Bx} {c c':Cap} {v:Value} {p:Prop} {r r':Ren} (hf:jZl c c'=some (p,r)) (hp:p) (hr:∀ q∈r,zKn r' q.1=some q.2∧(bx' q.1).known=true) (hι:∀ b,ι' b=nm ι r' b)
  (h:zKb ι bx w V c' v):zKb ι' bx' w V c v:=by
 unfold jZl at hf
 split at hf <;> first
  |(injection hf with hf; injection hf with hf1 hf2; subst hf1 hf2)
  | cases hf
 ·subst hp; exact h
 ·obtain ⟨h1,g,c,h2,h3⟩:=h
  subst hp
  obtain ⟨e1,e2⟩:=hr _ (List.mem_singleton.2 rfl)
  simp only at e1 e2
  exact ⟨e2,g,c,by rw [hι]; simp only [nm,e1]; exact h2,h3⟩
theorem zWT {ι':zQE} {bx':Nat→Bx} {r':Ren} (hι:∀ b,ι' b=nm ι r' b):∀ {cs cs':List Cap} {vs:List Value} {p:Prop} {r:Ren},zWU cs cs'=some (p,r)→p→(∀ q∈r,zKn r' q.1=some q.2∧(bx' q.1).known=true) →
  zZ8 ι bx w V cs' vs→zZ8 ι' bx' w V cs vs
 | [],[],[],_,_,_,_,_,_=>trivial
 | [],[],_::_,_,_,_,_,_,h=>h.elim
 | c::cs,c'::cs',[],_,_,_,_,_,h=>h.elim
 | c::cs,c'::cs',v::vs,p,r,hf,hp,hr,h=>by
  simp only [zWU] at hf
  cases h1:jZl c c' with
  | none=>rw [h1] at hf; cases hf
  | some x=>
   cases h2:zWU cs cs' with
   | none=>rw [h1,h2] at hf; cases hf
   | some y=>
    rw [h1,h2] at hf
    simp only [Option.some.injEq,Prod.mk.injEq] at hf
    obtain ⟨rfl,rfl⟩:=hf
    exact ⟨jZX h1 hp.1 (fun q hq=>hr q (by simp [hq])) hι h.1,zWT hι h2 hp.2 (fun q hq=>hr q (by simp [hq])) h.2⟩
 | [],_::_,_,_,_,hf,_,_,_=>by cases hf
 | _::_,[],_,_,_,hf,_,_,_=>by cases hf
theorem zHz {ι':zQE} {bx':Nat→Bx} {c c':Cl} {v:Value} {p:Prop} {r r':Ren} (hf:jZW c c'=some (p,r)) (hp:p) (hr:∀ q∈r,zKn r' q.1=some q.2∧(bx' q.1).known=true) (hι:∀ b,ι' b=nm ι r' b)
  (h:zQF w V ι bx c' v):zQF w V ι' bx' c v:=by
 unfold jZW at hf
 split at hf <;> first
  |(injection hf with hf; injection hf with hf1 hf2; subst hf1 hf2)
  | cases hf
  | skip
 ·trivial
 ·subst hp; exact h
 ·subst hp; exact zXx (d:=.bool _) h rfl
 ·subst hp; exact zXx (d:=.sl 0 []) h rfl
 ·subst hp; exact h
 ·exact h
 ·obtain ⟨h1,g,c,h2,h3⟩:=h
  subst hp
  obtain ⟨e1,e2⟩:=hr _ (List.mem_singleton.2 rfl)
  simp only at e1 e2
  exact ⟨e2,g,c,by rw [hι]; simp only [nm,e1]; exact h2,h3⟩
 ·obtain ⟨rfl,rfl⟩:=hp; exact h
 ·obtain ⟨h1,h2⟩:=h
  subst hp
  obtain ⟨e1,e2⟩:=hr _ (List.mem_singleton.2 rfl)
  simp only at e1 e2
  exact ⟨e2,by rw [hι]; simp only [nm,e1]; exact h2⟩
 ·subst hp
  obtain ⟨e1,e2⟩:=hr _ (List.mem_singleton.2 rfl)
  simp only at e1 e2
  exact ⟨e2,.inl ⟨by rw [hι]; simp only [nm,e1],rfl,h⟩⟩
 ·split at hf
  ·rename_i e
   subst e
   obtain ⟨lb,h1,h2⟩:=h
   exact ⟨lb,h1,zWT hι hf hp hr h2⟩
  ·cases hf
theorem zWS {ι':zQE} {bx':Nat→Bx} {r':Ren} (hι:∀ b,ι' b=nm ι r' b):∀ {cs cs':List Cl} {vs:List Value} {p:Prop} {r:Ren},zKs cs cs'=some (p,r)→p→(∀ q∈r,zKn r' q.1=some q.2∧(bx' q.1).known=true) →
  zQW w V ι bx cs' vs→zQW w V ι' bx' cs vs
 | [],[],[],_,_,_,_,_,_=>trivial
 | [],[],_::_,_,_,_,_,_,h=>h.elim
 | c::cs,c'::cs',[],_,_,_,_,_,h=>h.elim
 | c::cs,c'::cs',v::vs,p,r,hf,hp,hr,h=>by
  simp only [zKs] at hf
  cases h1:jZW c c' with
  | none=>rw [h1] at hf; cases hf
  | some x=>
   cases h2:zKs cs cs' with
   | none=>rw [h1,h2] at hf; cases hf
   | some y=>
    rw [h1,h2] at hf
    simp only [Option.some.injEq,Prod.mk.injEq] at hf
    obtain ⟨rfl,rfl⟩:=hf
    exact ⟨zHz h1 hp.1 (fun q hq=>hr q (by simp [hq])) hι h.1,zWS hι h2 hp.2 (fun q hq=>hr q (by simp [hq])) h.2⟩
 | [],_::_,_,_,_,hf,_,_,_=>by cases hf
 | _::_,[],_,_,_,hf,_,_,_=>by cases hf
theorem zUu {w:World} {V:Nat→Prop} {ι:zQE} {bx:Nat→Bx}:∀ {cs:List Cl} {vs:List Value} {ds:List DV},zWY cs=some ds→zZb w V ds vs→zQW w V ι bx cs vs
 | [],[],_,_,_=>trivial
 | [],_::_,ds,hd,h=>by simp only [zWY,Option.some.injEq] at hd; subst hd; exact h.elim
 | c::cs,vs,ds,hd,h=>by
  cases c <;> simp only [zWY,reduceCtorEq] at hd
  rename_i v
  cases h2:zWY cs with
  | none=>rw [h2] at hd; cases hd
  | some ds'=>
   rw [h2] at hd
   simp only [Option.some.injEq] at hd
   subst hd
   cases vs with
   | nil=>exact h.elim
   | cons u vs=>exact ⟨h.1,zUu h2 h.2⟩
theorem jKA {c:Cl} (h:nilC c=true):c=.lit (.pointer none):=by
 unfold nilC at h
 split at h
 ·rfl
 ·cases h
theorem jQw {cs cs':List Cl} {p:Prop} {r:Ren} (hf:zUS cs cs'=some (p,r)) (hp:p) (hn:zJp cs=true):zJp cs'=true:=by
 cases cs with
 | nil=>cases hn
 | cons c0 tl=>
  obtain rfl:=jKA hn
  have h0:zWY (Cl.lit (.pointer none)::tl)=none:=rfl
  unfold zUS at hf
  rw [h0] at hf
  simp only at hf
  cases cs' with
  | nil=>simp [zKs] at hf
  | cons c cs'=>
   simp only [zKs] at hf
   split at hf
   ·rename_i p1 r1 q1 r2 h1 h2
    cases c <;> simp only [jZW,reduceCtorEq] at h1
    rename_i u
    simp only [Option.some.injEq,Prod.mk.injEq] at h1 hf
    obtain ⟨rfl,rfl⟩:=h1
    obtain ⟨rfl,rfl⟩:=hf
    obtain ⟨rfl,_⟩:=hp
    rfl
   ·cases hf
theorem zUR {ι':zQE} {bx':Nat→Bx} {r':Ren} (hι:∀ b,ι' b=nm ι r' b) {cs cs':List Cl} {vs:List Value} {p:Prop} {r:Ren} (hf:zUS cs cs'=some (p,r)) (hp:p) (hr:∀ q∈r,zKn r' q.1=some q.2∧(bx' q.1).known=true)
  (h:zQW w V ι bx cs' vs):zQW w V ι' bx' cs vs:=by
 unfold zUS at hf
 split at hf
 ·rename_i xs ys h1 h2
  simp only [Option.some.injEq,Prod.mk.injEq] at hf
  obtain ⟨rfl,rfl⟩:=hf
  subst hp
  exact zUu h1 (zKm h h2)
 ·exact zWS hι hf hp hr h
mutual
theorem zHA {ι':zQE} {bx':Nat→Bx} {r':Ren} (hι:∀ b,ι' b=nm ι r' b):∀ {x y:AV} {v:Value} {p:Prop} {r:Ren},zKt x y=some (p,r)→p→(∀ q∈r,zKn r' q.1=some q.2∧(bx' q.1).known=true) →
  zQu w V ι bx y v→zQu w V ι' bx' x v
 | .one c,.one c',v,p,r,hf,hp,hr,h=>by
  simp only [zKt] at hf
  simp only [zQu] at h ⊢
  exact zHz hf hp hr hι h
 | .one c,.agg cs',v,p,r,hf,hp,hr,h=>by
  cases c <;> simp only [zKt,reduceCtorEq] at hf
  simp only [zQu,zQF]
 | .one c,.tup vs',v,p,r,hf,hp,hr,h=>by
  cases c <;> simp only [zKt,reduceCtorEq] at hf
  simp only [zQu,zQF]
 | .agg cs,.agg cs',v,p,r,hf,hp,hr,h=>by
  simp only [zKt] at hf
  simp only [zQu] at h ⊢
  obtain ⟨cur,e,h⟩:=h
  exact ⟨cur,e,zUR hι hf hp hr h⟩
 | .tup vs,.tup vs',v,p,r,hf,hp,hr,h=>by
  simp only [zKt] at hf
  simp only [zQu] at h ⊢
  obtain ⟨cur,e,h⟩:=h
  exact ⟨cur,e,fitAVs_rep hι hf hp hr h⟩
 | .agg _,.one _,_,_,_,hf,_,_,_=>by simp [zKt] at hf
 | .agg _,.tup _,_,_,_,hf,_,_,_=>by simp [zKt] at hf
 | .tup _,.one _,_,_,_,hf,_,_,_=>by simp [zKt] at hf
 | .tup _,.agg _,_,_,_,hf,_,_,_=>by simp [zKt] at hf
theorem fitAVs_rep {ι':zQE} {bx':Nat→Bx} {r':Ren} (hι:∀ b,ι' b=nm ι r' b):∀ {xs ys:List AV} {vs:List Value} {p:Prop} {r:Ren},fitAVs xs ys=some (p,r)→p→(∀ q∈r,zKn r' q.1=some q.2∧(bx' q.1).known=true) →
  RepAVs w V ι bx ys vs→RepAVs w V ι' bx' xs vs
 | [],[],vs,_,_,_,_,_,h=>by
  cases vs with
  | nil=>simp only [RepAVs]
  | cons _ _=>simp only [RepAVs] at h
 | x::xs,y::ys,[],_,_,_,_,_,h=>by simp only [RepAVs] at h
 | x::xs,y::ys,v::vs,p,r,hf,hp,hr,h=>by
  simp only [fitAVs] at hf
  cases h1:zKt x y with
  | none=>rw [h1] at hf; cases hf
  | some a=>
   cases h2:fitAVs xs ys with
   | none=>rw [h1,h2] at hf; cases hf
   | some b=>
    rw [h1,h2] at hf
    simp only [Option.some.injEq,Prod.mk.injEq] at hf
    obtain ⟨rfl,rfl⟩:=hf
    simp only [RepAVs] at h ⊢
    exact ⟨zHA hι h1 hp.1 (fun q hq=>hr q (by simp [hq])) h.1,fitAVs_rep hι h2 hp.2 (fun q hq=>hr q (by simp [hq])) h.2⟩
 | [],_::_,_,_,_,hf,_,_,_=>by simp [fitAVs] at hf
 | _::_,[],_,_,_,hf,_,_,_=>by simp [fitAVs] at hf
end
end
theorem jZi {s:AS}:∀ {l:List (Nat × AV)} {p:Prop} {r:Ren},jYd s l=some (p,r)→p→∀ t,jZO l t=.one .dead∨∃ q r1,zKt (jZO l t) (s.tm t)=some (q,r1)∧q∧∀ x∈r1,x∈r
 | [],_,_,_,_,t=>.inl rfl
 |(t',v)::l,p,r,hf,hp,t=>by
  simp only [jYd] at hf
  cases h1:zKt v (s.tm t') with
  | none=>rw [h1] at hf; cases hf
  | some a=>
   cases h2:jYd s l with
   | none=>rw [h1,h2] at hf; cases hf
   | some b=>
    rw [h1,h2] at hf
    simp only [Option.some.injEq,Prod.mk.injEq] at hf
    obtain ⟨rfl,rfl⟩:=hf
    simp only [jZO]
    by_cases e:t=t'
    ·subst e
     rw [if_pos rfl]
     exact .inr ⟨a.1,a.2,h1,hp.1,fun x hx=>by simp [hx]⟩
    ·rw [if_neg e]
     rcases jZi h2 hp.2 t with h3 | ⟨q,r1,h3,h4,h5⟩
     ·exact .inl h3
     ·exact .inr ⟨q,r1,h3,h4,fun x hx=>by simp [h5 x hx]⟩
theorem zXl {s:AS}:∀ {l:List (Nat × Bx)} {r r':Ren} {p:Prop},zVE s l r=some (p,r')→∀ x∈r,x∈r'
 | [],r,r',p,h,x,hx=>by simp only [zVE,Option.some.injEq,Prod.mk.injEq] at h; rw [← h.2]; exact hx
 |(b,B)::l,r,r',p,h,x,hx=>by
  simp only [zVE] at h
  split at h
  ·split at h
   ·split at h
    ·rename_i h3
     simp only [Option.some.injEq,Prod.mk.injEq] at h
     rw [← h.2]
     exact zXl h3 x (by simp [hx])
    ·cases h
   ·cases h
  ·split at h
   ·split at h
    ·rename_i h3
     simp only [Option.some.injEq,Prod.mk.injEq] at h
     rw [← h.2]
     exact zXl h3 x hx
    ·cases h
   ·cases h
  ·cases h
theorem zWk:∀ {r:Ren} {b:Nat} {x:Option Nat},zKn r b=some x→(b,x)∈r
 | [],_,_,h=>by cases h
 |(b',y)::r,b,x,h=>by
  simp only [zKn] at h
  split at h
  ·rename_i e; injection h with h; subst e h; simp
  ·simp [zWk h]
theorem zK4 {s:AS}:∀ {l:List (Nat × Bx)} {r r':Ren} {p:Prop},zVE s l r=some (p,r')→p→(l.map (·.1)).Nodup→∀ b B,(b,B)∈l →
  (∃ b' q r1,(b,some b')∈r'∧jZY B (s.bx b')=some (q,r1)∧q∧∀ x∈r1,x∈r')∨((b,none)∈r'∧∃ e size,B=.row e size [])
 |(b0,B0)::l,r,r',p,h,hp,hn,b,B,hm=>by
  simp only [List.map_cons,List.nodup_cons] at hn
  simp only [zVE] at h
  split at h
  ·rename_i b' hren
   split at h
   ·rename_i q r1 h2
    split at h
    ·rename_i q2 r2 h3
     simp only [Option.some.injEq,Prod.mk.injEq] at h
     obtain ⟨rfl,rfl⟩:=h
     rcases List.mem_cons.1 hm with e | hm
     ·injection e with e1 e2
      subst e1 e2
      exact .inl ⟨b',q,r1,zXl h3 _ (by simp [zWk hren]),h2,hp.1,fun x hx=>zXl h3 x (by simp [hx])⟩
     ·exact zK4 h3 hp.2 hn.2 b B hm
    ·cases h
   ·cases h
  ·rename_i hren
   split at h
   ·rename_i e size xs
    split at h
    ·rename_i q2 r2 h3
     simp only [Option.some.injEq,Prod.mk.injEq] at h
     obtain ⟨rfl,rfl⟩:=h
     rcases List.mem_cons.1 hm with e' | hm
     ·injection e' with e1 e2
      subst e1 e2
      exact .inr ⟨zXl h3 _ (zWk hren),e,size,by rw [← hp.1]⟩
     ·exact zK4 h3 hp.2 hn.2 b B hm
    ·cases h
   ·cases h
  ·cases h
theorem zHk:∀ {l:List (Nat × Bx)} {b:Nat},(zXL l b).known=true→(b,zXL l b)∈l
 | [],_,h=>by simp [zXL,Bx.known] at h
 |(b',B)::l,b,h=>by
  simp only [zXL] at h ⊢
  by_cases e:b=b'
  ·subst e; simp
  ·rw [if_neg e] at h ⊢; simp [zHk h]
theorem zVA:∀ {l:List (Nat × Bx)} {b:Nat} {B:Bx},(l.map (·.1)).Nodup→(b,B)∈l→zXL l b=B
 |(b',B')::l,b,B,hn,h=>by
  simp only [List.map_cons,List.nodup_cons] at hn
  rcases List.mem_cons.1 h with e | h
  ·injection e with e1 e2; subst e1 e2; simp [zXL]
  ·have:b≠b':=fun e=>hn.1 (by rw [← e]; exact List.mem_map.2 ⟨_,h,rfl⟩)
   simp only [zXL,if_neg this]
   exact zVA hn.2 h
theorem RepS.fit0 {w0:World} {S:zZd} {n:Dom} {s:AS} {ι:zQE} {a:Act} {w:World} (h:RepS w0 S n s ι a w) {sn:Snap} (hf:jKS n s sn):∃ ι',RepS w0 S n sn.as ι' a w:=by
 unfold jKS at hf
 split at hf
 ·rename_i p r h1
  split at hf
  ·rename_i q r' h2
   split at hf
   ·rename_i hok
    obtain ⟨hp,hq⟩:=hf
    simp only [jK7,Bool.and_eq_true,List.all_eq_true,decide_eq_true_eq] at hok
    obtain ⟨⟨o1,o2⟩,o3⟩:=hok
    have hren:∀ x∈r',zKn r' x.1=some x.2:=fun x hx=>by
     have:=(o1 x hx).1
     exact eq_of_beq this
    have hinj:∀ b1 b2 b',(b1,some b')∈r'→(b2,some b')∈r'→b1=b2:=fun b1 b2 b' m1 m2=>by
     have:=o2 _ m1 _ m2
     simpa using this
    have hat:∀ b,(zXL sn.bx b).known=true→(∃ b' q r1,(b,some b')∈r'∧jZY (zXL sn.bx b) (s.bx b')=some (q,r1)∧q∧∀ x∈r1,x∈r')∨((b,none)∈r'∧∃ e size,zXL sn.bx b=.row e size []):=
     fun b hk=>zK4 h2 hq o3 b _ (zHk hk)
    have hbxk:∀ x∈r',(sn.as.bx x.1).known=true:=fun x hx=>by
     have:=(o1 x hx).2
     rw [List.any_eq_true] at this
     obtain ⟨y,hy,e⟩:=this
     have e:y.1=x.1:=eq_of_beq e
     have hy':(x.1,y.2)∈sn.bx:=by rw [← e]; exact hy
     have hl:=zVA o3 hy'
     show (zXL sn.bx x.1).known=true
     rw [hl]
     have hno:∀ B,(x.1,B)∈sn.bx→B.known=true:=fun B hB=>by
      rcases zK4 h2 hq o3 x.1 B hB with ⟨b',q,r1,_,hfb,_⟩ | ⟨_,e',size,rfl⟩
      ·cases B <;> simp_all [jZY,Bx.known]
      ·rfl
     exact hno _ hy'
    have hknown:∀ x∈r',zKn r' x.1=some x.2∧(sn.as.bx x.1).known=true:=fun x hx=>⟨hren x hx,hbxk x hx⟩
    have hlive:∀ b,(sn.as.bx b).live=true→(∃ b',(b,some b')∈r'∧(s.bx b').live=true∧nm ι r' b=ι b')∨nm ι r' b=none:=fun b hl=>by
     have hk:(zXL sn.bx b).known=true:=by
      have hl':(zXL sn.bx b).live=true:=hl
      cases hB:zXL sn.bx b <;> rw [hB] at hl' <;> first | rfl | cases hl'
     rcases hat b hk with ⟨b',q,r1,m,hfb,_⟩ | ⟨m,_⟩
     ·left
      refine ⟨b',m,?_,by simp only [nm,hren _ m]⟩
      have hl':(zXL sn.bx b).live=true:=hl
      cases hB:zXL sn.bx b <;> cases hB':s.bx b' <;> rw [hB,hB'] at hfb <;> simp only [jZY,reduceCtorEq] at hfb <;> first | rfl | (rw [hB] at hl'; cases hl')
     ·right; simp only [nm,hren _ m]
    have hkeep:zZy w (Seen S w0.heap.size s.bx ι) w (Seen S w0.heap.size sn.as.bx (nm ι r')):=fun g off u hV hu=>⟨⟨hV.1,fun b c hl e=>by
     rcases hlive b hl with ⟨b',_,hl',e'⟩ | e'
     ·exact hV.2 b' c hl' (by rw [← e']; exact e)
     ·rw [e'] at e; cases e⟩,hu⟩
    have hVmono:∀ {x:AV} {v:Value},zQu w (Seen S w0.heap.size s.bx ι) ι s.bx x v→zQu w (Seen S w0.heap.size sn.as.bx (nm ι r')) ι s.bx x v:=fun hx=>hx.keep (fun b hb=>⟨hb,rfl⟩) hkeep
    refine ⟨nm ι r',h.bel,h.marks,h.oth,h.size,h.fix,fun b hb=>?_,fun t=>?_,fun b=>?_,fun b g c hl e=>?_,fun b1 b2 g c c' hl hl' hne e=>?_,h.glob.keep hkeep⟩
    ·have hm:(b,some b)∈r':=zXl h2 _ (by simp only [pins,List.mem_append,List.mem_map]; exact .inr ⟨b,hb,rfl⟩)
     exact ⟨by simp only [nm,hren _ hm]; exact (h.pin b hb).1,hbxk _ hm⟩
    ·rcases jZi h1 hp t with hd | ⟨q,r1,g1,g2,g3⟩
     ·show zQu _ _ _ _ (jZO sn.tm t) _
      rw [hd]; simp only [zQu,zQF]
     ·exact zHA (fun _=>rfl) g1 g2 (fun x hx=>hknown x (zXl h2 x (by simp [g3 x hx]))) (hVmono (h.tm t))
    ·show zXf _ _ _ _ b (zXL sn.bx b)
     cases hk:(zXL sn.bx b).known with
     | false=>cases hB:zXL sn.bx b <;> rw [hB] at hk <;> first | trivial | cases hk
     | true=>
      rcases hat b hk with ⟨b',q,r1,m,hfb,hq1,hr1⟩ | ⟨m,e,size,hB⟩
      ·have hnm:nm ι r' b=ι b':=by simp only [nm,hren _ m]
       have hrb:=h.bx b'
       cases hB:zXL sn.bx b <;> cases hB':s.bx b' <;> rw [hB,hB'] at hfb <;> simp only [jZY,reduceCtorEq] at hfb <;> rw [hB'] at hrb
       ·trivial
       ·obtain ⟨g,c,cur,T,g1,g2,g0,g3⟩:=hrb
        refine ⟨g,c,cur,T,by rw [hnm]; exact g1,g2,zWM g0 (jQw hfb hq1),?_⟩
        exact zUR (fun _=>rfl) hfb hq1 (fun x hx=>hknown x (hr1 x hx)) (g3.keep (fun b hb=>⟨hb,rfl⟩) hkeep)
       ·split at hfb
        ·rename_i hes
         simp only [Option.some.injEq,Prod.mk.injEq] at hfb
         obtain ⟨rfl,rfl⟩:=hfb
         subst hq1
         obtain ⟨rfl,rfl⟩:=hes
         rcases hrb with ⟨g1,g2⟩ | ⟨g,cap,cur,g1,g2,g3,g4,g5⟩
         ·exact .inl ⟨by rw [hnm]; exact g1,g2⟩
         ·exact .inr ⟨g,cap,cur,by rw [hnm]; exact g1,g2,g3,g4,g5.keep hkeep⟩
        ·cases hfb
       ·simp only [Option.some.injEq,Prod.mk.injEq] at hfb
        obtain ⟨rfl,rfl⟩:=hfb
        subst hq1
        rcases hrb with ⟨g1,g2⟩ | ⟨g,cap,g1,g2,g3⟩
        ·exact .inl ⟨by rw [hnm]; exact g1,g2⟩
        ·exact .inr ⟨g,cap,by rw [hnm]; exact g1,g2.keep hkeep,g3⟩
      ·rw [hB]
       exact .inl ⟨by simp only [nm,hren _ m],rfl⟩
    ·rcases hlive b hl with ⟨b',_,hl',e'⟩ | e'
     ·exact h.own b' g c hl' (by rw [← e']; exact e)
     ·rw [e'] at e; cases e
    ·rcases hlive b1 hl with ⟨b1',m1,hl1,e1⟩ | e1
     ·rcases hlive b2 hl' with ⟨b2',m2,hl2,e2⟩ | e2
      ·rw [e1] at e
       rw [e2]
       refine h.dist b1' b2' g c c' hl1 hl2 (fun e'=>hne ?_) e
       subst e'
       exact hinj _ _ _ m1 m2
      ·rw [e2]; simp
     ·rw [e1] at e; cases e
   ·exact hf.elim
  ·exact hf.elim
 ·exact hf.elim
theorem RepS.melt1 {w0:World} {S:zZd} {n:Dom} {s:AS} {ι:zQE} {a:Act} {w:World} (h:RepS w0 S n s ι a w) (t:Nat):RepS w0 S n (s.melt1 t) ι a w:=by
 unfold AS.melt1
 split
 ·rename_i b m ht
  split
  ·rename_i xs hin
   have h2:=h.freeze b
   refine ⟨h2.bel,h2.marks,h2.oth,h2.size,h2.fix,h2.pin,fun t'=>?_,h2.bx,h2.own,h2.dist,h2.glob⟩
   by_cases e:t'=t
   ·subst e
    have hv:=h2.tm t'
    have hb:=h2.bx b
    have e1:(s.setB b (s.bx b).freeze).bx b=.ice xs:=by
     simp only [AS.setB,if_true]
     revert hin
     cases s.bx b <;> intro hin <;> simp only [zZ5,Option.some.injEq,reduceCtorEq] at hin <;> subst hin <;> rfl
    have e2:(s.setB b (s.bx b).freeze).tm t'=.one (.ref b m):=ht
    rw [e2] at hv
    rw [e1] at hb
    show zQu _ _ _ _ (if t'=t' then .one (.d (.sl m xs)) else s.tm t') _
    rw [if_pos rfl]
    simp only [zQu,zQF] at hv ⊢
    simp only [RepD]
    obtain ⟨_,hv⟩:=hv
    rcases hb with ⟨g1,g2⟩ | ⟨g,cap,g1,g2,g3⟩
    ·subst g2
     rcases hv with ⟨_,q1,q2⟩ | ⟨g',cap',q1,_⟩
     ·exact ⟨none,0,by rw [q1]; exact q2,by omega,Nat.zero_le _,fun hne=>absurd rfl hne⟩
     ·rw [g1] at q1; cases q1
    ·rcases hv with ⟨q1,_⟩ | ⟨g',cap',q1,q2,q3⟩
     ·rw [g1] at q1; cases q1
     ·rw [g1] at q1
      simp only [Option.some.injEq,Prod.mk.injEq] at q1
      obtain ⟨rfl,rfl⟩:=q1
      exact ⟨_,cap,q2,q3,g3,fun hne=>⟨g,0,rfl,g2 hne⟩⟩
   ·have:=h2.tm t'
    show zQu _ _ _ _ (if t'=t then .one (.d (.sl m xs)) else s.tm t') _
    rw [if_neg e]
    exact this
  ·exact h
 ·exact h
theorem RepS.meltFor {w0:World} {S:zZd} {n:Dom} {ι:zQE} {a:Act} {w:World}:∀ (l:List (Nat × AV)) {s:AS},RepS w0 S n s ι a w→RepS w0 S n (meltFor l s) ι a w
 | [],_,h=>h
 |(t,v)::l,s,h=>by
  unfold Go.Proofs.YtheidkkebdhmkaaGreatDoor.meltFor
  split
  ·rename_i e; cases e
  ·rename_i t' d l' e
   injection e with e1 e2
   injection e1 with e3 e4
   subst e2 e3
   exact RepS.meltFor _ (h.melt1 _)
  ·rename_i p l' _ e
   injection e with e1 e2
   subst e2
   exact RepS.meltFor _ h
theorem RepS.fit {w0:World} {S:zZd} {n:Dom} {s:AS} {ι:zQE} {a:Act} {w:World} (h:RepS w0 S n s ι a w) {sn:Snap} (hf:fits n s sn):∃ ι',RepS w0 S n sn.as ι' a w:=
 (h.meltFor sn.tm).fit0 hf
def zYj.exit_:zYj→Exit
 | .normal=>.normal
 | .exit id=>.exit id
 | .ret=>.ret
section
variable {P:Program} {Γ:Gam}
theorem zVC (s:AS):KnOK kn0 s:=fun _ _ h=>by cases h
theorem RepS.turn {w0:World} {S:zZd} {n:Dom} {s:AS} {ι:zQE} {a:Act} {w w':World} (h:RepS w0 S n s ι a w) {row:Option Nat} (hg:w.grownBy w' row)
  (hr:∀ r,row=some r→w0.heap.size≤r∧∃ o:Obj,w.heap[r]?=some o∧o.isCells=false) {ds:List Deferred} (hm:zUm w0 ds w') {ref:World} (ho:KeepsOthers ref w') :
  RepS w0 { S with ref:=ref } n s ι { a with defers:=ds } w':=by
 have hk:zZy w (Seen S w0.heap.size s.bx ι) w' (Seen { S with ref:=ref } w0.heap.size s.bx ι):=fun g off u hV hu=>⟨hV,cell_kept hu hg fun r e=>(hr r e).2⟩
 have hl:∀ b g c,(s.bx b).live=true→ι b=some (g,c)→w'.heap[g]?=w.heap[g]?:=fun b g c hb hι=>by
  refine hg.block g (h.own b g c hb hι).2 fun e=>?_
  obtain ⟨o,h1,h2⟩:=(hr g e.symm).2
  obtain ⟨cur,T,i,h3⟩:=h.live_cells hb hι
  rw [h3] at h1
  injection h1 with h1
  subst h1
  cases h2
 refine ⟨⟨hg.os.trans h.bel.os,hg.tape.trans h.bel.tape,hg.output.trans h.bel.output,Nat.le_trans h.bel.size hg.size,fun g h1 h2=>?_⟩,hm,ho,h.size,h.fix,h.pin,fun t=>(h.tm t).keep (fun b hb=>⟨hb,rfl⟩) hk,fun b=>?_,
  fun b g c hb hι=>⟨(h.own b g c hb hι).1,Nat.lt_of_lt_of_le (h.own b g c hb hι).2 hg.size⟩,h.dist,h.glob.keep hk⟩
 ·refine (hg.block g (Nat.lt_of_lt_of_le h1 h.bel.size) fun e=>?_).trans (h.bel.block g h1 h2)
  have:=(hr g e.symm).1
  omega
 ·cases hkn:(s.bx b).known with
  | true=>exact zXf.keep (fun b hb=>⟨hb,rfl⟩) hk hkn hkn (fun hb g c hι=>hl b g c hb hι) (h.bx b)
  | false=>cases hB:s.bx b <;> rw [hB] at hkn <;> first | trivial | (simp [Bx.known] at hkn)
theorem zVm {ref w w':World} {row:Option Nat} {B:Nat} (h:KeepsOthers ref w) (hg:w.grownBy w' row) (hr:∀ r,row=some r→B≤r) (hB:ref.heap.size≤B):KeepsOthers ref w':=
 ⟨Nat.le_trans h.size hg.size,fun k o hk ho=>by
  have hlt:k < ref.heap.size:=(Array.getElem?_eq_some_iff.1 hk).1
  refine (hg.block k (Nat.lt_of_lt_of_le hlt h.size) fun e=>?_).trans (h.same k o hk ho)
  have:=hr k e.symm
  omega⟩
theorem zUE {w0 w w':World} {ds:List Deferred} {row:Option Nat} {B:Nat} (h:zUm w0 ds w) (hg:w.grownBy w' row) (hr:∀ r,row=some r→B≤r) (hB:∀ d∈ds,∀ D,d={ target:=.collected D,args:=#[] }→D < B):zUm w0 ds w':=
 ⟨h.1,fun d hd=>by
  obtain ⟨D,e,h1,h2⟩:=h.2 d hd
  refine ⟨D,e,h1,(hg.block D (Array.getElem?_eq_some_iff.1 h2).1 fun e'=>?_).trans h2⟩
  have:=hr D e'.symm
  have:=hB d hd D e
  omega⟩
theorem jYA {n:Dom} {F:Fence} (hF:Wide F) {m id:Nat} {ops:Array Oper} {draw:Bool} {kn:Kn} {s:AS} {Q:zYj→Kn→AS→Prop} (hm:P.follows .mixedOrders=true) (h:zYy P Γ n ops (List.range ops.size) kn s [] fun kn' s' acc=>match draw with
  | true=>jYK ops (fun i=>acc.reverse.getD i ([],[]))=true∧Q .normal kn' s'
  | false=>Q .normal kn' s') (hk:KnOK kn s) {w0:World} {S:zZd} {ι:zQE} {a:Act} {w:World} (hr:RepS w0 S n s ι a w) {Q':Exit→Act→World→Prop}
  (hQ:∀ e kn' s' ι' a' w',Q e kn' s'→KnOK kn' s'→RepS w0 S n s' ι' a' w'→Q' e.exit_ a' w'):(Code.region id ops draw).wpIn F m P Q' a w:=by
 obtain ⟨kn',s',ts,h1,h2,h3,h4⟩:=zK9 h hk
 have hτ:∀ (k i:Nat),(List.range ops.size)[k]?=some i→(fun i=>(ts.reverse++[]).reverse.getD i ([],[])) i=ts.getD k ([],[]):=fun k i hi=>by
  have:k=i:=by
   have hlt:=(List.getElem?_eq_some_iff.1 hi).1
   simp at hlt
   simp [hlt] at hi
   exact hi
  subst this
  simp
 have hruns:=h4 _ hτ
 cases draw with
 | false=>
  simp only at h1
  exact wpIn_region (zUo hF hruns hr fun ι' a' w' hr'=>hQ .normal kn' s' ι' a' w' h1 h2 hr')
 | true=>
  simp only at h1
  obtain ⟨hok,h1⟩:=h1
  refine wpIn_region_any hm ?_
  have hleft:left ops (Array.replicate ops.size false)=List.range ops.size:=by
   unfold left
   rw [List.filter_eq_self]
   intro i hi
   have:i < ops.size:=List.mem_range.1 hi
   simp [Array.getD,this]
  have hr1:RepS w0 S n s ι a { w with drawn:=w.drawn+1 }:=hr.quiet ⟨hr.bel.os,hr.bel.tape,hr.bel.output,hr.bel.size,hr.bel.block⟩ rfl
  exact jYF hF hok (fun ι' a' w' hr'=>hQ .normal kn' s' ι' a' w' h1 h2 hr') ops.size _ s ι a _ (fun i o ho hl hs=>by
   have:i < ops.size:=by simpa using hs
   simp [Array.getD,this] at hl) (by simp) (by rw [hleft]; simp) (by rw [hleft]; exact hruns) hr1
theorem jJa {kn:Kn} {s:AS} {t:Nat} (h:KnOK kn s):KnOK kn (s.melt1 t):=fun t' b hb=>by
 have h1:=h t' b hb
 unfold AS.melt1
 split
 ·rename_i b' m ht
  split
  ·simp only
   split
   ·rename_i e
    subst e
    rw [ht] at h1
    cases h1
   ·exact h1
  ·exact h1
 ·exact h1
theorem jQ3 {kn:Kn}:∀ (ts:List Nat) {s:AS},KnOK kn s→KnOK kn (melts s ts)
 | [],_,h=>h
 | _::ts,_,h=>jQ3 ts (jJa h)
theorem RepS.melts {w0:World} {S:zZd} {n:Dom} {ι:zQE} {a:Act} {w:World}:∀ (ts:List Nat) {s:AS},RepS w0 S n s ι a w→RepS w0 S n (melts s ts) ι a w
 | [],_,h=>h
 | t::ts,_,h=>RepS.melts ts (h.melt1 t)
theorem zYx {n:Dom} {ops:Array Oper}:∀ {R:List Nat} {kn:Kn} {s:AS} {acc:List (List Nat × List Nat)} {Q Q':Kn→AS→List (List Nat × List Nat)→Prop},(∀ kn s acc,Q kn s acc→Q' kn s acc)→zYy P Γ n ops R kn s acc Q→zYy P Γ n ops R kn s acc Q'
 | [],kn,s,acc,Q,Q',hQ,h=>hQ _ _ _ h
 | i::R,kn,s,acc,Q,Q',hQ,h=>by
  unfold zYy at h ⊢
  split at h
  ·exact h.elim
  ·split at h
   ·exact h.elim
   ·split at h
    ·exact ⟨h.1,zYx hQ h.2⟩
    ·exact h.elim
   ·split at h
    ·exact zYx hQ h
    ·exact h.elim
   ·refine ⟨fun e=>?_,fun e=>?_⟩
    ·have h:=h.1 e
     split at h
     ·exact ⟨h.1,zYx hQ h.2⟩
     ·exact h.elim
    ·have h:=h.2 e
     split at h
     ·exact zYx hQ h
     ·exact h.elim
theorem zXU {n:Dom} {ops:Array Oper} {B:List Nat} {Q:Kn→AS→List (List Nat × List Nat)→Prop}:∀ {A:List Nat} {kn:Kn} {s:AS} {acc:List (List Nat × List Nat)},zYy P Γ n ops A kn s acc (fun kn' s' acc'=>zYy P Γ n ops B kn' s' acc' Q)→zYy P Γ n ops (A++B) kn s acc Q
 | [],kn,s,acc,h=>h
 | i::A,kn,s,acc,h=>by
  rw [List.cons_append]
  unfold zYy at h ⊢
  split at h
  ·exact h.elim
  ·split at h
   ·exact h.elim
   ·split at h
    ·exact ⟨h.1,zXU h.2⟩
    ·exact h.elim
   ·split at h
    ·exact zXU h
    ·exact h.elim
   ·refine ⟨fun e=>?_,fun e=>?_⟩
    ·have h:=h.1 e
     split at h
     ·exact ⟨h.1,zXU h.2⟩
     ·exact h.elim
    ·have h:=h.2 e
     split at h
     ·exact zXU h
     ·exact h.elim
theorem zUX {e:Int} {k:IntKind} {t:Nat} {s:AS} {K:AS→Prop}:∀ {vs:List Int},orIs e vs→jJA e k t s K vs→K (s.put (some t) (.one (.d (.int k e))))
 | v::vs,h1,h2=>by
  simp only [orIs] at h1
  simp only [jJA] at h2
  rcases h1 with rfl | h1
  ·exact h2.1 rfl
  ·exact zUX h1 h2.2
 | [],h1,_=>h1.elim
theorem zGS {vs:List Int} {t:Nat} {s:AS} {K:AS→Prop} (h:zHT vs t s K):K s:=by
 unfold zHT at h
 split at h
 ·rename_i k e ht
  have:=zUX h.1 h.2
  have hs:s.put (some t) (.one (.d (.int k e)))=s:=by
   refine AS.ext' ?_ rfl
   funext t'
   simp only [AS.put]
   split
   ·rename_i e'; rw [e',ht]
   ·rfl
  rwa [hs] at this
 ·exact h.elim
theorem jZ6 {n:Dom} {ops:Array Oper} {ann:Ann} {kn:Kn} {s:AS} {K:Kn→AS→List (List Nat × List Nat)→Prop} (h:jJ7 P Γ n ops ann kn s K):zYy P Γ n ops (List.range ops.size) kn s [] K:=by
 unfold jJ7 at h
 split at h
 ·rename_i i t vs
  have h2:=zXU (zYx (fun _ _ _ h=>zGS h) h)
  rwa [List.take_append_drop] at h2
 ·exact h
def jZt (P:Program) (f:VCF) (c:Code):Prop:=
 ∀ (n:Dom) (ann:Ann) (kn:Kn) (s:AS) (Q:zYj→Kn→AS→Prop),f n ann kn s Q→KnOK kn s→∀ (F:Fence),Wide F→(n.round=false→F=Fence.wide) →
  ∀ (w0:World) (S:zZd) (ι:zQE) (a:Act) (w:World),RepS w0 S n s ι a w→∀ (m:Nat) (Q':Exit→Act→World→Prop),
  (∀ e kn' s' ι' a' w',Q e kn' s'→KnOK kn' s'→RepS w0 S n s' ι' a' w'→Q' e.exit_ a' w')→c.wpIn F m P Q' a w
def zWA:Ann→Nat
 | .link _ _ next=>zWA next+1
 | _=>0
theorem jZP {f:VCF} {c:Code} (ih:jZt P f c) {n:Dom} {ann:Ann} {s:AS} {Q:zYj→Kn→AS→Prop} (h1:jQ4 n ann s) (h2:zHl n (f n) Q ann) {F:Fence} (hF:Wide F) (hR:n.round=false→F=Fence.wide)
  {w0:World} {S:zZd} {ι:zQE} {a:Act} {w:World} (hr:RepS w0 S n s ι a w) {m:Nat} {Q':Exit→Act→World→Prop}
  (hQ:∀ e kn' s' ι' a' w',Q e kn' s'→KnOK kn' s'→RepS w0 S n s' ι' a' w'→Q' e.exit_ a' w'):(Code.loop c).wpIn F m P Q' a w:=by
 refine wpIn_loop_ghost (fun k a w=>∃ ann s ι,zWA ann=k∧jQ4 n ann s∧zHl n (f n) Q ann∧RepS w0 S n s ι a w) (zWA ann) ⟨ann,s,ι,rfl,h1,h2,hr⟩ fun k a w hI=>?_
 obtain ⟨ann,s,ι,rfl,h1,h2,hr⟩:=hI
 cases ann <;> first | exact h1.elim | skip
 rename_i I b next
 obtain ⟨z,hz,hf⟩:=h1
 obtain ⟨ι2,hr2⟩:=hr.fit hf
 simp only [zHl] at h2
 refine ih n (b z) kn0 _ _ (h2.1 z hz) (zVC _) F hF hR w0 S ι2 a w hr2 m _ fun e kn' s' ι' a' w' hq hk' hr'=>?_
 cases e with
 | normal=>exact ⟨zWA next,by simp [zWA],next,s',ι',rfl,hq,h2.2,hr'⟩
 | exit id=>exact hQ (.exit id) kn' s' ι' a' w' hq hk' hr'
 | ret=>exact hQ .ret kn' s' ι' a' w' hq hk' hr'
theorem jQR {f:Ann→Kn→AS→(zYj→Kn→AS→Prop)→Prop} {kn:Kn} {s:AS} {t:Nat} {Q:zYj→Kn→AS→Prop} {k:IntKind} {e:Int} (ht:s.tm t=.one (.d (.int k e))) :
  ∀ {bs:Ann},jYW e bs→jQS f k e kn s t Q bs→∃ b,f b (zY9 kn (some t) none) s Q
 | .opt v b next,h1,h2=>by
  simp only [jYW] at h1
  simp only [jQS] at h2
  rcases h1 with h1 | h1
  ·have hs:s.put (some t) (.one (.d (.int k v)))=s:=by
    refine AS.ext' ?_ rfl
    funext t'
    simp only [AS.put]
    split
    ·rename_i e'; rw [e',ht,h1]
    ·rfl
   have:=h2.1 h1
   rw [hs] at this
   exact ⟨b,this⟩
  ·exact jQR ht h1 h2.2
 | .leaf,h1,_=>h1.elim
 | .seq _ _,h1,_=>h1.elim
 | .loop _ _,h1,_=>h1.elim
 | .cut _ _ _,h1,_=>h1.elim
 | .link _ _ _,h1,_=>h1.elim
 | .split _ _ _,h1,_=>h1.elim
 | .range _ _ _ _,h1,_=>h1.elim
 | .sure _ _,h1,_=>h1.elim
 | .ice _ _ _ _,h1,_=>h1.elim
 | .splitAt _ _ _,h1,_=>h1.elim
theorem jX1:∀ (bs:List Nat) (s:AS),(ices s bs).tm=s.tm
 | [],_=>rfl
 | b::bs,s=>by simp only [ices]; rw [jX1 bs]; rfl
theorem RepS.ices {w0:World} {S:zZd} {n:Dom} {ι:zQE} {a:Act} {w:World}:∀ (bs:List Nat) {s:AS},RepS w0 S n s ι a w→RepS w0 S n (ices s bs) ι a w
 | [],_,h=>h
 | b::bs,s,h=>RepS.ices bs (h.freeze b)
theorem RepS.only {w0:World} {S:zZd} {n:Dom} {s:AS} {ι:zQE} {a:Act} {w:World} (h:RepS w0 S n s ι a w) (T:List Nat):RepS w0 S n (s.only T) ι a w:=by
 refine ⟨h.bel,h.marks,h.oth,h.size,h.fix,h.pin,fun t=>?_,h.bx,h.own,h.dist,h.glob⟩
 show zQu _ _ _ _ (if T.contains t then s.tm t else .one .dead) _
 split
 ·exact h.tm t
 ·simp only [zQu,zQF]
theorem jQc {d:DV} (h:jXC d):∃ u,d.plain=some u∧∀ (w:World) (V:Nat→Prop),RepD w V d u:=by
 cases d with
 | int k n=>exact ⟨_,rfl,fun w V=>by simp only [RepD,true_and]; exact (zXB _ _).2 h⟩
 | bool b=>exact ⟨_,rfl,fun w V=>by simp only [RepD]⟩
 | str s=>exact ⟨_,rfl,fun w V=>by simp only [RepD,true_and]; exact h⟩
 | sl n cs=>exact h.elim
 | fn f=>exact h.elim
theorem RepS.putAll {w0:World} {S:zZd} {n:Dom} {ι:zQE} {w:World}:∀ {ps:List Nat} {ds:List DV} {s:AS} {a:Act},ds.length=ps.length→zJI ds→(∀ p∈ps,p < n.n∧n.keep p=false)→RepS w0 S n s ι a w →
  RepS w0 S n (s.putAll ps ds) ι { a with tmps:=(ps.zip (ds.map fun d=>d.plain.getD undef)).foldl (fun t (p,v)=>t.setIfInBounds p v) a.tmps } w
 | [],[],_,_,_,_,_,h=>h
 | p::ps,d::ds,s,a,hl,hd,hp,h=>by
  obtain ⟨u,h1,h2⟩:=jQc hd.1
  have:=h.put (d:=some p) (x:=.one (.d d)) (v:=u) (fun k hk=>by cases hk; exact hp p (by simp)) (by simp only [zQu,zQF]; exact h2 _ _)
  have:=RepS.putAll (ps:=ps) (ds:=ds) (by simpa using hl) hd.2 (fun q hq=>hp q (by simp [hq])) this
  simpa [AS.putAll,h1,Act.put] using this
 | [],_::_,_,_,hl,_,_,_=>by simp at hl
 | _::_,[],_,_,hl,_,_,_=>by simp at hl
theorem zHH {w0:World} {S:zZd} {n:Dom} {s:AS} {ι:zQE} {a:Act} {w:World} (h:RepS w0 S n s ι a w) {ι0:zQE} {bx0:Nat→Bx} {w1:World} {V1:Nat→Prop}:∀ {cs:List Cap} {lb:List Value} {caps:List (Bool × List DV)},zZ8 ι0 bx0 w1 V1 cs lb →
  (∀ b∈cs.flatMap Cap.names,ι b=ι0 b)→zYW s.bx cs=some caps→zHO w caps lb
 | [],[],caps,_,_,hc=>by simp only [zYW,Option.some.injEq] at hc; subst hc; trivial
 | c::cs,v::lb,caps,hr,hn,hc=>by
  simp only [zYW] at hc
  cases h1:zGz s.bx c with
  | none=>rw [h1] at hc; cases hc
  | some x=>
   cases h2:zYW s.bx cs with
   | none=>rw [h1,h2] at hc; cases hc
   | some xs=>
    rw [h1,h2] at hc
    simp only [Option.some.injEq] at hc
    subst hc
    refine ⟨?_,zHH h hr.2 (fun b hb=>hn b (by rw [List.flatMap_cons,List.mem_append]; exact .inr hb)) h2⟩
    have hv:=hr.1
    cases c with
    | d x=>
     simp only [zGz] at h1
     split at h1
     ·rename_i hp
      simp only [Option.some.injEq] at h1
      subst h1
      obtain ⟨u,hu⟩:=Option.isSome_iff_exists.1 hp
      exact ⟨x,rfl,by rw [RepD.plain hv hu]; exact hu⟩
     ·cases h1
    | ptr b off=>
     simp only [zGz] at h1
     split at h1
     ·rename_i ho
      subst ho
      split at h1
      ·rename_i cells hB
       split at h1
       ·rename_i ds hds
        split at h1
        ·rename_i hall
         simp only [Option.some.injEq] at h1
         subst h1
         obtain ⟨_,g,c,e1,e2⟩:=hv
         have hb:=h.bx b
         rw [hB] at hb
         obtain ⟨g',c',cur,T,q1,q2,_,q3⟩:=hb
         rw [hn b (by simp [Cap.names]),e1] at q1
         simp only [Option.some.injEq,Prod.mk.injEq] at q1
         obtain ⟨rfl,rfl⟩:=q1
         have q4:=zKm q3 hds
         refine ⟨g,e2,fun i d hi=>?_⟩
         obtain ⟨u,hu,hd⟩:=zYE q4 i d hi
         have hp:d.plain.isSome=true:=(List.all_eq_true.1 hall) d (List.mem_of_getElem? hi)
         obtain ⟨u',hu'⟩:=Option.isSome_iff_exists.1 hp
         refine ⟨u',hu',?_⟩
         rw [cell_of_row w g i cur T (0,0) q2,← RepD.plain hd hu']
         simpa using hu
        ·cases h1
       ·cases h1
      ·cases h1
     ·cases h1
 | [],_::_,_,h,_,_=>h.elim
 | _::_,[],_,h,_,_=>h.elim
theorem zUT {w:World} {V:Nat→Prop} {ι:zQE} {bx:Nat→Bx}:∀ {cs:List Cap} {lb:List Value},zZ8 ι bx w V cs lb→∀ b∈cs.flatMap Cap.names,(bx b).known=true
 | [],[],_,b,hb=>by simp at hb
 | c::cs,v::lb,h,b,hb=>by
  rw [List.flatMap_cons,List.mem_append] at hb
  rcases hb with hb | hb
  ·cases c with
   | d x=>simp [Cap.names] at hb
   | ptr b' off=>simp only [Cap.names,List.mem_singleton] at hb; subst hb; exact h.1.1
  ·exact zUT h.2 b hb
 | [],_::_,h,_,_=>h.elim
 | _::_,[],h,_,_=>h.elim
def zGv:zYj→Option Code
 | .normal=>none
 | .exit id=>some (.exit id)
 | .ret=>some .ret
theorem zH7 {fA fB:VCF} {x y:Code} (ihA:jZt P fA x) (ihB:jZt P fB y) {n:Dom} {g:Operand} {ps:Array Tmp} {I:Inv} {T:List Nat} {aa bb:I.α→Ann} {s:AS} {Q:zYj→Kn→AS→Prop}
  (h:zH8 P Γ n fA fB g ps.toList I T aa bb s Q) {F:Fence} (hR:n.round=false→F=Fence.wide)
  {w0:World} {S:zZd} {ι:zQE} {a:Act} {w:World} (hr:RepS w0 S n s ι a w) {m:Nat} {Q':Exit→Act→World→Prop}
  (hQ:∀ e kn' s' ι' a' w',Q e kn' s'→KnOK kn' s'→RepS w0 S n s' ι' a' w'→Q' e.exit_ a' w'):(Code.rangeFunc g ps x y).wpIn F m P Q' a w:=by
 unfold zH8 at h
 split at h
 ·rename_i f cs hs
  split at h
  ·rename_i caps hcaps hflags
   split at h
   ·rename_i N item hit
    obtain ⟨hans,hitems,⟨z0,hz0,hμ0,hf0⟩,hrounds⟩:=h
    simp only [Bool.and_eq_true,Bool.not_eq_true'] at hflags
    obtain ⟨⟨hen,hrd⟩,hps⟩:=hflags
    have hFw:=hR hrd
    subst hFw
    simp only [psOK,Bool.and_eq_true,List.all_eq_true,decide_eq_true_eq,Bool.not_eq_true'] at hps
    obtain ⟨hps1,hps2⟩:=hps
    have hv:=hr.eval g
    rw [hs] at hv
    simp only [zQu,zQF] at hv
    obtain ⟨lb,hv,hlb⟩:=hv
    have hr1:RepS w0 { S with nm:=ι } (n.pinned (cs.flatMap Cap.names)) s ι a w:=
     ⟨hr.bel,hr.marks,hr.oth,hr.size,hr.fix,fun b hb=>⟨rfl,by
      simp only [Dom.pinned,List.mem_append] at hb
      rcases hb with hb | hb
      ·exact (hr.pin b hb).2
      ·exact zUT hlb b hb⟩,hr.tm,hr.bx,hr.own,hr.dist,hr.glob⟩
    obtain ⟨ι1,hr2⟩:=hr1.fit hf0
    have hmk:∀ d∈a.defers,∀ D,d={ target:=.collected D,args:=#[] }→D < w.heap.size:=fun d hd D e=>by
     obtain ⟨D',e',_,h2⟩:=hr.marks.2 d hd
     rw [e'] at e
     simp only [Deferred.mk.injEq,Target.collected.injEq,and_true] at e
     subst e
     exact (Array.getElem?_eq_some_iff.1 h2).1
    have hturn:∀ {s':AS} {n':Dom} {S':zZd} {ι':zQE} {W W':World} {row:Option Nat},S'.ref.heap.size≤w.heap.size→RepS w0 S' n' s' ι' a W→W.grownBy W' row→(∀ r,row=some r→w.heap.size≤r∧∃ o:Obj,W.heap[r]?=some o∧o.isCells=false)→RepS w0 S' n' s' ι' a W':=by
     intro s' n' S' ι' W W' row hs' h' hg hr'
     exact h'.turn hg (fun r e=>⟨Nat.le_trans hr.bel.size (hr' r e).1,(hr' r e).2⟩) (zUE h'.marks hg (fun r e=>(hr' r e).1) hmk) (zVm h'.oth hg (fun r e=>(hr' r e).1) hs')
    have hkeepT:∀ t,(T.contains t=true∨n.keep t=true)→t ∉ ps.toList:=fun t ht hm=>by
     obtain ⟨⟨_,h2⟩,h3⟩:=hps1 t hm
     rcases ht with ht | ht
     ·rw [ht] at h2; cases h2
     ·rw [ht] at h3; cases h3
    have hback:∀ {s':AS} {ι':zQE} {a3:Act} {W W3 ref:World},zUm w0 a.defers W→KeepsOthers S.ref W→KeepsOthers W W3→RepS w0 { S with nm:=ι,ref:=ref,base:=fun t=>a.tmps.getD t undef } (n.inner T (cs.flatMap Cap.names)) s' ι' a3 W3 →
      RepS w0 { S with nm:=ι } (n.pinned (cs.flatMap Cap.names)) (s'.only T) ι' a W3:=by
     intro s' ι' a3 W W3 ref hm1 ho1 hk h3
     refine ⟨h3.bel,hm1.keep hk,ho1.trans hk,hr.size,hr.fix,h3.pin,fun t=>?_,h3.bx,h3.own,h3.dist,h3.glob⟩
     show zQu _ _ _ _ (if T.contains t then s'.tm t else .one .dead) _
     split
     ·rename_i ht
      have hfx:=h3.fix t (by show (n.keep t || T.contains t)=true; rw [ht,Bool.or_true])
      have:=h3.tm t
      rw [hfx] at this
      exact this
     ·simp only [zQu,zQF]
    have hout:∀ {s':AS} {ι':zQE} {W:World},RepS w0 { S with nm:=ι } (n.pinned (cs.flatMap Cap.names)) s' ι' a W→RepS w0 S n s' ι' a W:=fun h'=>
     ⟨h'.bel,h'.marks,h'.oth,h'.size,h'.fix,fun b hb=>by
      have:=h'.pin b (by simp [Dom.pinned,hb])
      exact ⟨this.1.trans (hr.pin b hb).1,this.2⟩,h'.tm,h'.bx,h'.own,h'.dist,h'.glob⟩
    have hmark:∀ {s':AS} {ι':zQE} {W:World} {D:Nat},w.heap.size≤D→W.heap[D]?=some (.deferred (some []))→RepS w0 S n s' ι' a W→RepS w0 S n s' ι' { a with defers:={ target:=.collected D,args:=#[] }::a.defers } W:=fun hD hW h'=>
     ⟨h'.bel,⟨List.pairwise_cons.2 ⟨fun d hd e=>by
       have:=hmk d hd _ e.symm
       omega,h'.marks.1⟩,fun d hd=>by
      rcases List.mem_cons.1 hd with rfl | hd
      ·exact ⟨_,rfl,Nat.le_trans hr.bel.size hD,hW⟩
      ·exact h'.marks.2 d hd⟩,h'.oth,h'.size,h'.fix,h'.pin,h'.tm,h'.bx,h'.own,h'.dist,h'.glob⟩
    refine jXx hv (zKL hen) hans (fun k hk=>by rw [(hitems k hk).1]; simp)
     (fun k W=>∃ z ι',I.ok z∧I.μ z=k∧RepS w0 { S with nm:=ι } (n.pinned (cs.flatMap Cap.names)) ((I.st z).as.only T) ι' a W)
     (fun c W=>∃ e kn' s' ι',zGv e=some c∧Q e kn' s'∧KnOK kn' s'∧RepS w0 { S with nm:=ι } (n.pinned (cs.flatMap Cap.names)) s' ι' a W)
     (fun k W W' row ⟨z,ι',h1,h2,h3⟩ hg hrr=>⟨z,ι',h1,h2,hturn hr.oth.size h3 hg hrr⟩)
     (fun c W W' row ⟨e,kn',s',ι',h1,h2,h3,h4⟩ hg hrr=>⟨e,kn',s',ι',h1,h2,h3,hturn hr.oth.size h4 hg hrr⟩)
     (fun k W ⟨z,ι',h1,h2,h3⟩=>zHH h3 hlb (fun b hb=>(h3.pin b (by simp only [Dom.pinned,List.mem_append]; exact .inr hb)).1) (hrounds z h1).1)
     ⟨z0,ι1,hz0,hμ0,hr2.only T⟩ ?_ ?_ ?_
    ·
     rintro l k W hk ⟨z,ι',hz,rfl,h3⟩
     have hit:=hitems (I.μ z) hk
     have hin:RepS w0 { S with nm:=ι,ref:=W,base:=fun t=>a.tmps.getD t undef } (n.inner T (cs.flatMap Cap.names)) ((I.st z).as.only T) ι' { tmps:=a.tmps,defers:=[] } W:=
      ⟨h3.bel,⟨List.Pairwise.nil,fun d hd=>by simp at hd⟩,KeepsOthers.refl W,h3.size,fun t _=>rfl,h3.pin,h3.tm,h3.bx,h3.own,h3.dist,h3.glob⟩
     have hin2:=hin.putAll (ps:=ps.toList) (ds:=item (I.μ z)) hit.1 hit.2 (fun p hp=>by
      obtain ⟨⟨h1,h2⟩,h4⟩:=hps1 p hp
      refine ⟨h1,?_⟩
      simp only [Dom.inner,h2,h4,Bool.or_self])
     have hloop:∀ (f:Array Value→Tmp × Value→Array Value) (t0:Array Value) (vs:List Value),(ps.zip vs.toArray).foldl f t0=(ps.toList.zip vs).foldl f t0:=fun f t0 vs=>by
      rw [← Array.foldl_toList,Array.toList_zip]
     show x.wpIn _ m P _ { tmps:=(ps.zip (zWW (item (I.μ z)))).foldl (fun t (p,v)=>t.setIfInBounds p v) a.tmps,defers:=[] } W
     rw [zWW,hloop]
     refine ihA _ (aa z) kn0 _ _ ((hrounds z hz).2.1 hk) (zVC _) _ (.inr ⟨l,rfl⟩) (fun h=>by cases h) w0 _ ι' _ W hin2 m _ fun e kn' s' ι2 a1 W1 hq hk' h4=>?_
     cases e with
     | ret=>exact hq.elim
     | exit id=>exact hq.elim
     | normal=>
      refine ⟨h4.oth,fun W2 hg hl hcell=>?_⟩
      obtain ⟨lr,hlr⟩:=hcell
      have h5:=h4.turn hg (fun r e=>by cases e; exact ⟨Nat.le_trans hr.bel.size hl,_,hlr,rfl⟩) (ds:=a1.defers) ⟨h4.marks.1,fun d hd=>by
       obtain ⟨D,e1,e2,e3⟩:=h4.marks.2 d hd
       refine ⟨D,e1,e2,(hg.block D (Array.getElem?_eq_some_iff.1 e3).1 fun e'=>?_).trans e3⟩
       injection e' with e'
       subst e'
       rw [hlr] at e3
       injection e3 with e3
       cases e3⟩ (KeepsOthers.refl W2)
      have hm1:zUm w0 a.defers W:=h3.marks
      have hm2:zUm w0 a.defers W2:=zUE (hm1.keep h4.oth) hg (fun r e=>by cases e; exact hl) hmk
      have ho2:KeepsOthers S.ref W2:=zVm (h3.oth.trans h4.oth) hg (fun r e=>by cases e; exact hl) hr.oth.size
      refine ihB _ (bb z) kn' _ _ hq hk' _ (.inr ⟨l,rfl⟩) (fun h=>by cases h) w0 _ ι2 a1 W2 h5 m _ fun e kn2 s2 ι3 a3 W3 hq2 hk2 h6=>?_
      cases e with
      | normal=>
       obtain ⟨y,hy,hμ,hf⟩:=hq2
       obtain ⟨ι4,h7⟩:=h6.fit hf
       exact ⟨h6.oth,y,ι4,hy,hμ,hback hm2 ho2 h6.oth h7⟩
      | ret=>exact ⟨h6.oth,.ret,kn0,s2.only T,ι3,rfl,hq2,zVC _,hback hm2 ho2 h6.oth h6⟩
      | exit id=>exact ⟨h6.oth,.exit id,kn0,s2.only T,ι3,rfl,hq2,zVC _,hback hm2 ho2 h6.oth h6⟩
    ·
     rintro Dk W hD ⟨z,ι',hz,hμ,h3⟩ hW
     exact hQ .normal kn0 _ ι' _ W ((hrounds z hz).2.2 hμ) (zVC _) (hmark hD hW (hout h3))
    ·rintro Dk c W hD ⟨e,kn',s',ι',he,hq,hk',h3⟩ hW
     cases e with
     | normal=>cases he
     | ret=>
      simp only [zGv,Option.some.injEq] at he
      subst he
      exact wpIn_ret (hQ .ret kn' s' ι' _ W hq hk' (hmark hD hW (hout h3)))
     | exit id=>
      simp only [zGv,Option.some.injEq] at he
      subst he
      exact wpIn_exit (hQ (.exit id) kn' s' ι' _ W hq hk' (hmark hD hW (hout h3)))
   ·exact h.elim
  ·exact h.elim
 ·exact h.elim
theorem zQ7 (hm:P.follows .mixedOrders=true):∀ (c:Code),jZt P (fun n=>vcg P Γ n c) c
 | .skip,n,_,kn,s,Q,h,hk,F,hF,hR,w0,S,ι,a,w,hr,m,Q',hQ=>wpIn_skip (hQ .normal kn s ι a w h hk hr)
 | .label _,n,_,kn,s,Q,h,hk,F,hF,hR,w0,S,ι,a,w,hr,m,Q',hQ=>wpIn_label (hQ .normal kn s ι a w h hk hr)
 | .exit id,n,_,kn,s,Q,h,hk,F,hF,hR,w0,S,ι,a,w,hr,m,Q',hQ=>wpIn_exit (hQ (.exit id) kn s ι a w h hk hr)
 | .ret,n,_,kn,s,Q,h,hk,F,hF,hR,w0,S,ι,a,w,hr,m,Q',hQ=>wpIn_ret (hQ .ret kn s ι a w h hk hr)
 | .region id ops draw,n,_,kn,s,Q,h,hk,F,hF,hR,w0,S,ι,a,w,hr,m,Q',hQ=>jYA hF hm (jZ6 h) hk hr hQ
 | .seq x y,n,ann,kn,s,Q,h,hk,F,hF,hR,w0,S,ι,a,w,hr,m,Q',hQ=>by
  simp only [vcg] at h
  refine wpIn_seq ?_
  split at h
  ·rename_i I a' b
   obtain ⟨h1,h2⟩:=h
   refine zQ7 hm x n a' kn s _ h1 hk F hF hR w0 S ι a w hr m _ fun e kn' s' ι' a' w' hq hk' hr'=>?_
   cases e with
   | normal=>
    obtain ⟨z,hz,hf⟩:=hq
    obtain ⟨ι2,hr2⟩:=hr'.fit hf
    exact zQ7 hm y n (b z) kn0 _ Q (h2 z hz) (zVC _) F hF hR w0 S ι2 a' w' hr2 m Q' hQ
   | exit id=>exact hQ (.exit id) kn' s' ι' a' w' hq hk' hr'
   | ret=>exact hQ .ret kn' s' ι' a' w' hq hk' hr'
  ·rename_i bs ts a' b
   refine zQ7 hm x n a' kn s _ h hk F hF hR w0 S ι a w hr m _ fun e kn' s' ι' a' w' hq hk' hr'=>?_
   cases e with
   | normal=>exact zQ7 hm y n b kn' (Go.Proofs.YtheidkkebdhmkaaGreatDoor.melts (Go.Proofs.YtheidkkebdhmkaaGreatDoor.ices s' bs) ts) Q hq (jQ3 ts fun t b hb=>by rw [jX1]; exact hk' t b hb) F hF hR w0 S ι' a' w' ((hr'.ices bs).melts ts) m Q' hQ
   | exit id=>exact hQ (.exit id) kn' s' ι' a' w' hq hk' hr'
   | ret=>exact hQ .ret kn' s' ι' a' w' hq hk' hr'
  ·rename_i a' t bs
   refine zQ7 hm x n a' kn s _ h hk F hF hR w0 S ι a w hr m _ fun e kn' s' ι' a' w' hq hk' hr'=>?_
   cases e with
   | normal=>
    simp only at hq
    unfold jVc at hq
    split at hq
    ·rename_i k e ht
     obtain ⟨b,hb⟩:=jQR ht hq.1 hq.2
     refine zQ7 hm y n b _ s' Q hb (fun t' b' hb'=>?_) F hF hR w0 S ι' a' w' hr' m Q' hQ
     simp only [zY9] at hb'
     split at hb'
     ·cases hb'
     ·exact hk' _ _ hb'
    ·exact hq.elim
   | exit id=>exact hQ (.exit id) kn' s' ι' a' w' hq hk' hr'
   | ret=>exact hQ .ret kn' s' ι' a' w' hq hk' hr'
  ·refine zQ7 hm x n ann.l kn s _ h hk F hF hR w0 S ι a w hr m _ fun e kn' s' ι' a' w' hq hk' hr'=>?_
   cases e with
   | normal=>exact zQ7 hm y n ann.r kn' s' Q hq hk' F hF hR w0 S ι' a' w' hr' m Q' hQ
   | exit id=>exact hQ (.exit id) kn' s' ι' a' w' hq hk' hr'
   | ret=>exact hQ .ret kn' s' ι' a' w' hq hk' hr'
 | .cond c x y,n,ann,kn,s,Q,h,hk,F,hF,hR,w0,S,ι,a,w,hr,m,Q',hQ=>by
  simp only [vcg] at h
  split at h
  ·rename_i b a'
   split at h
   ·rename_i b' hc
    obtain ⟨rfl,h⟩:=h
    cases b' with
    | true=>exact wpIn_cond_true (zYM (hr.eval c) hc) (zQ7 hm x n a' kn s Q h hk F hF hR w0 S ι a w hr m Q' hQ)
    | false=>exact wpIn_cond_false (zYM (hr.eval c) hc) (zQ7 hm y n a' kn s Q h hk F hF hR w0 S ι a w hr m Q' hQ)
   ·exact h.elim
  split at h
  ·rename_i hc
   exact wpIn_cond_true (zYM (hr.eval c) (zGq hk hc)) (zQ7 hm x n ann.l kn s Q h hk F hF hR w0 S ι a w hr m Q' hQ)
  ·rename_i hc
   exact wpIn_cond_false (zYM (hr.eval c) (zGq hk hc)) (zQ7 hm y n ann.r kn s Q h hk F hF hR w0 S ι a w hr m Q' hQ)
  ·split at h
   ·rename_i b hc
    exact wpIn_cond_split (zYM (hr.eval c) hc) (fun hb=>zQ7 hm x n ann.l kn s Q (h.1 hb) hk F hF hR w0 S ι a w hr m Q' hQ) (fun hb=>zQ7 hm y n ann.r kn s Q (h.2 hb) hk F hF hR w0 S ι a w hr m Q' hQ)
   ·exact h.elim
 | .block id c,n,ann,kn,s,Q,h,hk,F,hF,hR,w0,S,ι,a,w,hr,m,Q',hQ=>by
  simp only [vcg] at h
  refine wpIn_block (zQ7 hm c n ann kn s _ h hk F hF hR w0 S ι a w hr m _ fun e kn' s' ι' a' w' hq hk' hr'=>?_)
  cases e with
  | normal=>exact hQ .normal kn' s' ι' a' w' hq hk' hr'
  | exit id'=>
   simp only at hq
   simp only [zYj.exit_,Exit.inBlock]
   by_cases e:id'=id
   ·rw [if_pos e]
    simp only [e,decide_true] at hq
    exact hQ .normal kn' s' ι' a' w' hq hk' hr'
   ·rw [if_neg e]
    simp only [e,decide_false] at hq
    exact hQ (.exit id') kn' s' ι' a' w' hq hk' hr'
  | ret=>exact hQ .ret kn' s' ι' a' w' hq hk' hr'
 | .loop c,n,ann,kn,s,Q,h,hk,F,hF,hR,w0,S,ι,a,w,hr,m,Q',hQ=>by
  simp only [vcg] at h
  split at h
  ·rename_i I a'
   obtain ⟨⟨z,hz,hf⟩,h2⟩:=h
   obtain ⟨ι2,hr2⟩:=hr.fit hf
   refine wpIn_loop_ghost (fun m a w=>∃ z ι,I.ok z∧I.μ z=m∧RepS w0 S n (I.st z).as ι a w) (I.μ z) ⟨z,ι2,hz,rfl,hr2⟩ fun k a w hI=>?_
   obtain ⟨z,ι,hz,rfl,hr⟩:=hI
   refine zQ7 hm c n (a' z) kn0 _ _ (h2 z hz) (zVC _) F hF hR w0 S ι a w hr m _ fun e kn' s' ι' a' w' hq hk' hr'=>?_
   cases e with
   | normal=>
    obtain ⟨y,hy,hlt,hf⟩:=hq
    obtain ⟨ι3,hr3⟩:=hr'.fit hf
    exact ⟨I.μ y,hlt,y,ι3,hy,rfl,hr3⟩
   | exit id=>exact hQ (.exit id) kn' s' ι' a' w' hq hk' hr'
   | ret=>exact hQ .ret kn' s' ι' a' w' hq hk' hr'
  ·exact jZP (f:=fun n=>vcg P Γ n c) (zQ7 hm c) h.1 h.2 hF hR hr hQ
  ·exact h.elim
 | .rangeFunc g ps x y,n,ann,kn,s,Q,h,hk,F,hF,hR,w0,S,ι,a,w,hr,m,Q',hQ=>by
  simp only [vcg] at h
  split at h
  ·exact zH7 (zQ7 hm x) (zQ7 hm y) h hR hr hQ
  ·exact h.elim
 | .scope _,_,_,_,_,_,h,_,_,_,_,_,_,_,_,_,_,_,_,_=>by simp only [vcg] at h
 | .goto _,_,_,_,_,_,h,_,_,_,_,_,_,_,_,_,_,_,_,_=>by simp only [vcg] at h
 | .refuse _,_,_,_,_,_,h,_,_,_,_,_,_,_,_,_,_,_,_,_=>by simp only [vcg] at h
end
def jYI (P:Program) (s:AS):ResultVar→Option AV
 | .tmp t=>some (s.tm t)
 | .cell t ty=>match s.tm t with
  | .one (.ptr b off)=>match s.bx b,zYo P ty with
   | .cells cs,some (g,k)=>if off+k≤cs.length then zKy g ((cs.drop off).take k) else none
   | _,_=>none
  | _=>none
def zVw (P:Program) (s:AS):List ResultVar→Option (List AV)
 | []=>some []
 | r::rs=>match jYI P s r,zVw P s rs with
  | some v,some vs=>some (v::vs)
  | _,_=>none
def jKh (P:Program) (s:AS) (rs:List ResultVar):Option RV:=
 match zVw P s rs with
 | some xs=>if xs.all AV.flat then match AV.rvs (fun b=>zZ5 (s.bx b)) xs with
  | some [r]=>some r
  | some l=>some (.tup l)
  | none=>none else none
 | none=>none
def post (P:Program) (rs:List ResultVar) (R:RV→Prop):zYj→Kn→AS→Prop
 | .exit _,_,_=>False
 | _,_,s=>match jKh P s rs with
  | some r=>R r
  | none=>False
def zVK (args:List RV):AS:=⟨fun t=>match args[t]? with
 | some r=>r.av
 | none=>.tup [],fun _=>.fresh⟩
mutual
def DV.wf:DV→Prop
 | .int k n=>k.min≤n∧n≤k.max
 | .bool _=>True
 | .str s=>s.size≤maxLen
 | .sl n xs=>n≤maxLen∧DV.wfs xs
 | .fn _=>True
def DV.wfs:List DV→Prop
 | []=>True
 | x::xs=>x.wf∧DV.wfs xs
end
mutual
def RV.wf:RV→Prop
 | .d x=>x.wf
 | .agg xs=>DV.wfs xs
 | .tup xs=>RV.wfs xs
def RV.wfs:List RV→Prop
 | []=>True
 | x::xs=>x.wf∧RV.wfs xs
end
section
variable {w:World} {V:Nat→Prop}
mutual
theorem RepD.wf:∀ {d:DV} {v:Value},RepD w V d v→d.wf
 | .int k n,v,h=>by simp only [RepD] at h; simp only [DV.wf]; exact (zXB _ _).1 h.2
 | .bool _,_,_=>by simp only [DV.wf]
 | .str s,v,h=>by simp only [RepD] at h; simp only [DV.wf]; exact h.2
 | .fn _,_,_=>by simp only [DV.wf]
 | .sl n xs,v,h=>by
  simp only [RepD] at h
  obtain ⟨A,cap,_,h1,h2,h3⟩:=h
  simp only [DV.wf]
  refine ⟨Nat.le_trans h1 h2,?_⟩
  cases xs with
  | nil=>simp only [DV.wfs]
  | cons d ds=>
   obtain ⟨g,off,_,_,hc⟩:=h3 (by simp)
   exact RepCells.wf hc
theorem RepCells.wf:∀ {xs:List DV} {g off:Nat},RepCells w V xs g off→DV.wfs xs
 | [],_,_,_=>by simp only [DV.wfs]
 | d::ds,g,off,h=>by
  simp only [RepCells] at h
  obtain ⟨⟨u,_,hd⟩,hr⟩:=h
  simp only [DV.wfs]
  exact ⟨RepD.wf hd,RepCells.wf hr⟩
end
theorem zZb.wf:∀ {ds:List DV} {vs:List Value},zZb w V ds vs→DV.wfs ds
 | [],[],_=>by simp only [DV.wfs]
 | _::_,_::_,h=>by simp only [DV.wfs]; exact ⟨h.1.wf,zZb.wf h.2⟩
 | [],_::_,h=>h.elim
 | _::_,[],h=>h.elim
mutual
theorem RepR.wf:∀ {r:RV} {v:Value},RepR w V r v→r.wf
 | .d x,v,h=>by simp only [RepR] at h; simp only [RV.wf]; exact h.wf
 | .agg xs,v,h=>by simp only [RepR] at h; obtain ⟨cs,_,h⟩:=h; simp only [RV.wf]; exact h.wf
 | .tup xs,v,h=>by simp only [RepR] at h; obtain ⟨vs,_,h⟩:=h; simp only [RV.wf]; exact RepRs.wf h
theorem RepRs.wf:∀ {rs:List RV} {vs:List Value},RepRs w V rs vs→RV.wfs rs
 | [],[],_=>by simp only [RV.wfs]
 | _::_,_::_,h=>by simp only [RepRs] at h; simp only [RV.wfs]; exact ⟨RepR.wf h.1,RepRs.wf h.2⟩
 | [],_::_,h=>by simp only [RepRs] at h
 | _::_,[],h=>by simp only [RepRs] at h
end
end
theorem zWj {w:World} {V:Nat→Prop}:∀ {rs:List RV} {vs:List Value},RepRs w V rs vs→rs.length=vs.length
 | [],[],_=>rfl
 | _::_,_::_,h=>by simp only [RepRs] at h; simp [zWj h.2]
 | [],_::_,h=>by simp only [RepRs] at h
 | _::_,[],h=>by simp only [RepRs] at h
theorem zVu {P:Program} {α β:Type} (f:α→Sem β) (w:World):∀ (l:List α) (us:List β),l.length=us.length→(∀ (i:Nat) x u,l[i]?=some x→us[i]?=some u→(f x).run P w=.ok u w)→(l.mapM f).run P w=.ok us w
 | [],[],_,_=>by simp
 | x::l,u::us,hl,h=>by
  rw [List.mapM_cons]
  simp only [Sem.run_bind,h 0 x u rfl rfl,Result.andThen_ok,zVu f w l us (by simpa using hl) (fun i x' u' h1 h2=>h (i+1) x' u' (by simpa using h1) (by simpa using h2)),Sem.run_pure]
 | [],_::_,hl,_=>by simp at hl
 | _::_,[],hl,_=>by simp at hl
def zG2 (tmps:Array Value):ResultVar→Sem Value
 | .tmp t=>pure (tmps.getD t undef)
 | .cell c t=>do loadVar t (← asAddr (tmps.getD c undef))
theorem jZF (fn:Func) (tmps:Array Value):results fn tmps=(do let vs ← fn.results.mapM (zG2 tmps); pure (if h:vs.size=1 then vs[0] else .tuple vs)):=by
 unfold results
 refine congrArg (fun f:ResultVar→Sem Value=>(do let vs ← fn.results.mapM f; pure (if h:vs.size=1 then vs[0] else .tuple vs):Sem Value)) ?_
 funext x
 cases x <;> rfl
theorem jQI {P:Program} {fn:Func} {w0:World} {S:zZd} {n:Dom} {s:AS} {ι:zQE} {a:Act} {w:World} (h:RepS w0 S n s ι a w) {xs:List AV} (hxs:zVw P s fn.results.toList=some xs) :
  ∃ us:List Value,(results fn a.tmps).run P w=.ok (if h:us.toArray.size=1 then us.toArray[0] else .tuple us.toArray) w∧RepAVs w (Seen S w0.heap.size s.bx ι) ι s.bx xs us:=by
 have key:∀ (rs:List ResultVar) (xs:List AV),zVw P s rs=some xs→∃ us:List Value,rs.length=us.length∧(∀ (i:Nat) x u,rs[i]?=some x→us[i]?=some u→(zG2 a.tmps x).run P w=.ok u w) ∧
   RepAVs w (Seen S w0.heap.size s.bx ι) ι s.bx xs us:=by
  intro rs
  induction rs with
  | nil=>intro xs h; simp only [zVw,Option.some.injEq] at h; subst h; exact ⟨[],rfl,fun i x u h=>by simp at h,by simp only [RepAVs]⟩
  | cons rv rs ih=>
   intro xs hx
   simp only [zVw] at hx
   cases h1:jYI P s rv with
   | none=>rw [h1] at hx; cases hx
   | some v=>
    cases h2:zVw P s rs with
    | none=>rw [h1,h2] at hx; cases hx
    | some vs=>
     rw [h1,h2] at hx
     simp only [Option.some.injEq] at hx
     subst hx
     obtain ⟨us,l1,l2,l3⟩:=ih vs h2
     have h0:∃ u,(zG2 a.tmps rv).run P w=.ok u w∧zQu w (Seen S w0.heap.size s.bx ι) ι s.bx v u:=by
      cases rv with
      | tmp t=>
       simp only [jYI,Option.some.injEq] at h1
       subst h1
       exact ⟨_,rfl,h.tm t⟩
      | cell c ty=>
       simp only [jYI] at h1
       split at h1
       ·rename_i b off hc
        split at h1
        ·rename_i cs g k hB hk
         split at h1
         ·rename_i hle
          have hv:=h.tm c
          rw [hc] at hv
          obtain ⟨_,g',c',hι,ev⟩:=zJO hv
          have hb:=h.bx b
          rw [hB] at hb
          obtain ⟨g2,c2,cur,T,e1,e2,_,e3⟩:=hb
          rw [e1] at hι
          simp only [Option.some.injEq,Prod.mk.injEq] at hι
          obtain ⟨rfl,rfl⟩:=hι
          have hp:=zYg (zJl e3 off k) h1
          have hlen:=zZu e3
          have hk':zYo P ty=some (g,((cur.toList.drop off).take k).length):=by
           rw [hk]; congr 2; simp at hlen ⊢; omega
          have hrun:=zXb (P:=P) hk' (w:=w) (b:=g2) (o:=off) (fun j u hj=>by
           rw [cell_of_row w g2 (off+j) cur T (0,0) e2]
           rw [List.getElem?_take] at hj
           split at hj
           ·simpa using hj
           ·cases hj)
          refine ⟨_,?_,hp.1⟩
          simp only [zG2,ev,asAddr,Sem.run_bind,Sem.run_pure,Result.andThen_ok,hrun]
         ·cases h1
        ·cases h1
       ·cases h1
     obtain ⟨u,hu1,hu2⟩:=h0
     refine ⟨u::us,by simp [l1],fun i x u' hx hu'=>?_,by simp only [RepAVs]; exact ⟨hu2,l3⟩⟩
     cases i with
     | zero=>simp at hx hu'; subst hx hu'; exact hu1
     | succ i=>exact l2 i x u' (by simpa using hx) (by simpa using hu')
 obtain ⟨us,l1,l2,l3⟩:=key _ _ hxs
 have hmap:=zVu (P:=P) (zG2 a.tmps) w fn.results.toList us l1 l2
 refine ⟨us,?_,l3⟩
 rw [jZF,Sem.run_bind,Array.mapM_eq_mapM_toList,Sem.run_map,hmap]
 simp only [Result.andThen_ok,Sem.run_pure]
theorem jKg {P:Program} {fn:Func} {w0:World} {S:zZd} {n:Dom} {s:AS} {ι:zQE} {a:Act} {w:World} (h:RepS w0 S n s ι a w) {r:RV} (hr:jKh P s fn.results.toList=some r) :
  ∃ v,(results fn a.tmps).run P w=.ok v w∧RepR w (fun g=>S.see g∨w0.heap.size≤g∨S.lent g) r v:=by
 unfold jKh at hr
 split at hr
 ·rename_i xs hxs
  split at hr
  ·rename_i hflat
   obtain ⟨us,hrun,l3⟩:=jQI h hxs
   have hseen:zZy w (Seen S w0.heap.size s.bx ι) w (fun g=>S.see g∨w0.heap.size≤g∨S.lent g):=fun g off u hV hu=>⟨hV.1,hu⟩
   have hlook:∀ x∈xs,∀ b∈x.refs,∀ ys,(fun b=>zZ5 (s.bx b)) b=some ys→zUj w (fun g=>S.see g∨w0.heap.size≤g∨S.lent g) ι b ys∧(ι b=none→ys=[]):=by
    intro x hx b hb ys hys
    simp only at hys
    have hb':=h.bx b
    cases hB:s.bx b <;> rw [hB] at hys hb' <;> simp only [zZ5,Option.some.injEq,reduceCtorEq] at hys <;> subst hys
    ·rcases hb' with ⟨g1,g2⟩ | ⟨g,cap,cur,g1,g2,g3,g4,g5⟩
     ·exact ⟨fun g c e=>(by rw [g1] at e; cases e),fun _=>g2⟩
     ·refine ⟨fun g' c e=>?_,fun e=>(by rw [g1] at e; cases e)⟩
      rw [g1] at e
      simp only [Option.some.injEq,Prod.mk.injEq] at e
      obtain ⟨rfl,rfl⟩:=e
      exact ⟨g3,fun _=>⟨.inr (h.own b g cap (by rw [hB]; rfl) g1).1,RepCells.of_row g2 (g5.keep hseen)⟩⟩
    ·rcases hb' with ⟨g1,g2⟩ | ⟨g,cap,g1,g2,g3⟩
     ·exact ⟨fun g c e=>(by rw [g1] at e; cases e),fun _=>g2⟩
     ·refine ⟨fun g' c e=>?_,fun e=>(by rw [g1] at e; cases e)⟩
      rw [g1] at e
      simp only [Option.some.injEq,Prod.mk.injEq] at e
      obtain ⟨rfl,rfl⟩:=e
      exact ⟨g3,g2.keep hseen⟩
   cases hrv:AV.rvs (fun b=>zZ5 (s.bx b)) xs with
   | none=>rw [hrv] at hr; cases hr
   | some rvs=>
    rw [hrv] at hr
    have hall:=zGX hseen hflat l3 hlook hrv
    refine ⟨_,hrun,?_⟩
    have hlen:=zWj hall
    match rvs,us,hall,hlen,hr with
    | [r'],[u],hall,_,hr=>
     simp only [Option.some.injEq] at hr
     subst hr
     simp only [RepRs] at hall
     simpa using hall.1
    | [],[],hall,_,hr=>
     simp only [Option.some.injEq] at hr
     subst hr
     simp only [List.size_toArray,List.length_nil,Nat.zero_ne_one,dite_false,RepR]
     exact ⟨_,rfl,hall⟩
    | r1::r2::rs,u1::u2::us,hall,_,hr=>
     simp only [Option.some.injEq] at hr
     subst hr
     simp only [RepR]
     refine ⟨(u1::u2::us).toArray,by simp,hall⟩
    | [_],[],_,hl,_=>simp at hl
    | [],_::_,_,hl,_=>simp at hl
    | [_],_::_::_,_,hl,_=>simp at hl
    | _::_::_,[],_,hl,_=>simp at hl
    | _::_::_,[_],_,hl,_=>simp at hl
  ·cases hr
 ·cases hr
theorem zHn {F:Fence} {m:Nat} {P:Program} {fn:Func} {R:Ending→World→Prop} {w0:World} {n:Dom} {s:AS} {ι:zQE} {tmps:Array Value}:∀ (ds:List Deferred) (S:zZd) (w:World),RepS w0 S n s ι { tmps:=tmps,defers:=ds } w→S.ref.heap.size≤w0.heap.size →
  (∀ w',RepS w0 S n s ι { tmps:=tmps,defers:=[] } w'→∃ v,(results fn tmps).run P w'=.ok v w'∧R (.returned v) w')→LeavesInM F m P fn tmps R ds .returning w
 | [],S,w,h,_,hR=>hR w h
 | d::ds,S,w,h,href,hR=>by
  obtain ⟨D,rfl,h1,h2⟩:=h.marks.2 d (by simp)
  have hlt:D < w.heap.size:=(Array.getElem?_eq_some_iff.1 h2).1
  refine ⟨by simp,.inl ⟨D,w.putObj D (.deferred none),rfl,run_takeDeferred h2,zHn ds S _ ?_ href hR⟩⟩
  have hg:=grownBy_putObj' w D (.deferred none)
  refine h.turn hg (fun r e=>by cases e; exact ⟨h1,_,h2,rfl⟩) (ds:=ds) ⟨(List.pairwise_cons.1 h.marks.1).2,fun d' hd'=>?_⟩ (ref:=S.ref) (zVm h.oth hg (fun r e=>by cases e; exact h1) href)
  obtain ⟨D',rfl,q1,q2⟩:=h.marks.2 d' (by simp [hd'])
  have hne:D'≠D:=fun e=>(List.pairwise_cons.1 h.marks.1).1 _ hd' (by rw [e])
  exact ⟨D',rfl,q1,(World.putObj_heap_other hne).trans q2⟩
def zVF (fn:Func):Code:=fn.body.getD .skip
theorem jYq {fn:Func} (hb:fn.body.isSome=true):fn.body=some (zVF fn):=by
 unfold zVF
 cases h:fn.body with
 | none=>rw [h] at hb; cases hb
 | some c=>rfl
theorem zJy {P:Program} {Γ:Gam} {f:FuncId} {fn:Func} (ann:Ann) (hm:P.follows .mixedOrders=true) (hf:P.funcs[f]?=some fn) (hb:fn.body.isSome=true) {n:Dom} (hn:n.round=false) {s:AS} {Q:zYj→Kn→AS→Prop}
  (h:vcg P Γ n (zVF fn) ann kn0 s Q) {w:World} {S:zZd} {ι:zQE} {vs:Array Value} {R:Ending→World→Prop} (hr:RepS w S n s ι { tmps:=vs++Array.replicate (fn.ntmps - vs.size) undef,defers:=[] } w) (href:S.ref=w)
  (hend:∀ e kn' s' ι' tmps w',Q e kn' s'→RepS w S n s' ι' { tmps:=tmps,defers:=[] } w'→(∀ id,e≠.exit id)∧∃ v,(results fn tmps).run P w'=.ok v w'∧R (.returned v) w')
  (hex:∀ id kn' s',¬ Q (.exit id) kn' s'):Calls P f vs w R:=by
 refine callsIn_wide.1 (callsIn_of_wp_marks (F:=Fence.wide) (n:=1) hf (jYq hb) trivial ?_)
 refine zQ7 hm (zVF fn) n ann kn0 s Q h (zVC _) Fence.wide (.inl rfl) (fun _=>rfl) w S ι _ w hr 1 _ fun e kn' s' ι' a' w' hq hk' hr'=>?_
 have done:LeavesInM Fence.wide 1 P fn a'.tmps R a'.defers .returning w':=
  zHn a'.defers S w' hr' (by rw [href]; exact Nat.le_refl _) fun w'' h''=>(hend e kn' s' ι' a'.tmps w'' hq h'').2
 cases e with
 | normal=>exact done
 | ret=>exact done
 | exit id=>exact (hex id kn' s' hq).elim
theorem zU1 {w:World} {V:Nat→Prop} {ι:zQE} {bx:Nat→Bx} {k:Nat}:∀ {xs:List AV} {vs:List Value},RepAVs w V ι bx xs vs→∀ t,zQu w V ι bx ((xs[t]?).getD (.tup [])) ((vs++List.replicate k undef).getD t undef)
 | [],[],_,t=>by
  simp only [List.getElem?_nil,Option.getD_none,zQu,List.nil_append]
  refine ⟨#[],?_,by simp only [RepAVs]⟩
  rw [List.getD_eq_getElem?_getD,List.getElem?_replicate]
  split <;> rfl
 | x::xs,v::vs,h,0=>by simp only [RepAVs] at h; simpa using h.1
 | x::xs,v::vs,h,t+1=>by simp only [RepAVs] at h; simpa using zU1 h.2 t
 | [],_::_,h,_=>by simp only [RepAVs] at h
 | _::_,[],h,_=>by simp only [RepAVs] at h
theorem jZr (vs:Array Value) (k t:Nat):(vs++Array.replicate k undef).getD t undef=(vs.toList++List.replicate k undef).getD t undef:=by
 rw [Array.getD_eq_getD_getElem?,List.getD_eq_getElem?_getD,← Array.getElem?_toList]
 simp
theorem zG3 {w:World} {S:Nat→Prop} {fn:Func} {args:List RV} {vs:Array Value} (hl:args.length≤fn.ntmps) (hgl:zXF w S) (hvs:RepRs w S args vs.toList) :
  RepS w { see:=S,ref:=w } fn.ntmps (zVK args) (fun _=>none) { tmps:=vs++Array.replicate (fn.ntmps - vs.size) undef,defers:=[] } w:=by
 have hlen:=zWj hvs
 refine ⟨Bel.refl _ _,⟨List.Pairwise.nil,fun d hd=>by simp at hd⟩,KeepsOthers.refl w,?_,fun t h=>by (cases h),fun b h=>by (cases h),fun t=>?_,fun b=>trivial,fun b g c hl=>by simp [zVK,Bx.live] at hl,fun b b' g c c' hl=>by simp [zVK,Bx.live] at hl,hgl.keep fun g off u hV hu=>⟨⟨.inl hV,fun b c hl=>by simp [zVK,Bx.live] at hl⟩,hu⟩⟩
 ·show (vs++Array.replicate (fn.ntmps - vs.size) undef).size=fn.ntmps
  simp at hlen ⊢; omega
 ·have hk:zZy w S w (Seen { see:=S,ref:=w } w.heap.size (zVK args).bx fun _=>none):=fun g off u hV hu=>⟨⟨.inl hV,fun b c hl=>by simp [zVK,Bx.live] at hl⟩,hu⟩
  have h1:=rep_avs (ι:=fun _=>none) (bx:=(zVK args).bx) (RepRs.keep hk hvs)
  have h2:=zU1 (k:=fn.ntmps - vs.size) h1 t
  rw [← jZr] at h2
  have e:(zVK args).tm t=((RV.avs args)[t]?).getD (.tup []):=by
   have:∀ (l:List RV) (t:Nat),(RV.avs l)[t]?=(l[t]?).map RV.av:=by
    intro l
    induction l with
    | nil=>intro t; simp [RV.avs]
    | cons x l ih=>intro t; cases t <;> simp [RV.avs,ih]
   rw [this]
   simp only [zVK]
   cases args[t]? <;> rfl
  rw [e]
  exact h2
theorem zQm {P:Program} {Γ:Gam} {f:FuncId} {fn:Func} {args:List RV} {res:RV} (ann:Ann) (hm:P.follows .mixedOrders=true) (hf:P.funcs[f]?=some fn) (hb:fn.body.isSome=true) (hl:args.length≤fn.ntmps)
  (h:RV.wfs args→vcg P Γ fn.ntmps (zVF fn) ann kn0 (zVK args) (post P fn.results.toList (·=res))):Ans P f args res:=by
 intro w S vs hgl hvs
 refine zJy ann hm hf hb (n:=fn.ntmps) rfl (h (RepRs.wf hvs)) (zG3 hl hgl hvs) rfl (fun e kn' s' ι' tmps w' hq hr'=>?_) (fun id kn' s' hq=>hq)
 have done:post P fn.results.toList (·=res) .ret kn' s'→∃ v,(results fn tmps).run P w'=.ok v w'∧(∃ u,Ending.returned v=.returned u∧RepR w' (fun g=>S g∨w.heap.size≤g) res u∧Below w.heap.size w w'):=by
  intro hq
  simp only [post] at hq
  split at hq
  ·rename_i r hres
   subst hq
   obtain ⟨v,h1,h2⟩:=jKg hr' hres
   have hsee:∀ g,(S g∨w.heap.size≤g∨False)→(S g∨w.heap.size≤g):=fun g hV=>hV.imp id fun h=>h.resolve_right id
   exact ⟨v,h1,v,rfl,h2.keep (fun g off u hV hu=>⟨hsee g hV,hu⟩),hr'.bel.below fun g h=>h⟩
  ·exact hq.elim
 cases e with
 | normal=>exact ⟨fun _ e=>by (cases e),done hq⟩
 | ret=>exact ⟨fun _ e=>by (cases e),done hq⟩
 | exit id=>exact hq.elim
def jKp (t e size n:Nat) (ys:List DV):zYj→Kn→AS→Prop
 | .exit _,_,_=>False
 | _,_,s=>match s.tm t with
  | .one (.ref b m)=>match s.bx b with
   | .row e' size' zs=>(e'=e∧size'=size)∧ys.length=n*size∧m=n∧zs=ys
   | _=>False
  | .one .nil=>n=0∧ys=[]
  | _=>False
theorem jKs {w0 w:World} {S:zZd} {n:Dom} {s:AS} {ι:zQE} {a:Act} (h:RepS w0 S n s ι a w) (hl:∀ g,¬ S.lent g) {b e size m:Nat} {v:Value} {us:List Value} (hb:(s.bx b).live=true) (ho:zKD w 0 e size v m us) (hn:∀ g,v.ownBlock=some g→∃ c,ι b=some (g,c)):zKD w w0.heap.size e size v m us:=by
 refine ⟨ho.1,?_⟩
 rcases ho.2 with h1 | ⟨g,cap,cur,e1,h1,h2,h3⟩
 ·exact .inl h1
 ·refine .inr ⟨g,cap,cur,e1,?_,h2,h3⟩
  obtain ⟨c,hc⟩:=hn g (by rw [e1]; rfl)
  exact (h.own b g c hb hc).1.resolve_right (hl g)
theorem zKa {P:Program} {Γ:Gam} {f:FuncId} {fn:Func} {args:List RV} {t e size n:Nat} {ys:List DV} (ann:Ann) (hm:P.follows .mixedOrders=true) (hf:P.funcs[f]?=some fn) (hb:fn.body.isSome=true) (hl:args.length≤fn.ntmps) (hres:fn.results=#[.tmp t])
  (h:RV.wfs args→vcg P Γ fn.ntmps (zVF fn) ann kn0 (zVK args) (jKp t e size n ys)):AnsO P f args e size n ys:=by
 intro w S vs hgl hvs
 refine zJy ann hm hf hb (n:=fn.ntmps) rfl (h (RepRs.wf hvs)) (zG3 hl hgl hvs) rfl (fun ex kn' s' ι' tmps w' hq hr'=>?_) (fun id kn' s' hq=>hq)
 have hbel:Below w.heap.size w w':=hr'.bel.below fun g h=>h
 have done:jKp t e size n ys .ret kn' s'→∃ v,(results fn tmps).run P w'=.ok v w'∧(∃ v2 us,Ending.returned v=.returned v2∧zKD w' w.heap.size e size v2 n us∧zZb w' (fun g=>(S g∨w.heap.size≤g)∧v2.ownBlock≠some g) ys us∧ys.length=n*size∧Below w.heap.size w w'):=by
  intro hq
  have hsee:∀ g,(S g∨w.heap.size≤g∨False)→(S g∨w.heap.size≤g):=fun g hV=>hV.imp id fun h=>h.resolve_right id
  refine ⟨_,results_tmp hres _ _ _,?_⟩
  have hv:=hr'.tm t
  simp only [jKp] at hq
  split at hq
  ·rename_i b m htm
   rw [htm] at hv
   split at hq
   ·rename_i e' size' zs hbx
    obtain ⟨⟨rfl,rfl⟩,hlen,rfl,rfl⟩:=hq
    obtain ⟨us,o1,o2,o3⟩:=zVk hr' hbx hlen hv
    refine ⟨_,us,rfl,jKs hr' (fun g h=>h) (by rw [hbx]; rfl) o1 o3,o2.keep fun g off u hV hu=>⟨⟨hsee g hV.1,fun e=>?_⟩,hu⟩,hlen,hbel⟩
    obtain ⟨c,hc⟩:=o3 g e
    exact hV.2 b c (by rw [hbx]; rfl) hc
   ·exact hq.elim
  ·rename_i htm
   rw [htm] at hv
   simp only [zQu,zQF] at hv
   obtain ⟨rfl,rfl⟩:=hq
   exact ⟨_,[],rfl,by rw [hv]; exact zJn _ _ _ _,trivial,by simp,hbel⟩
  ·exact hq.elim
 cases ex with
 | normal=>exact ⟨fun _ e=>by (cases e),done hq⟩
 | ret=>exact ⟨fun _ e=>by (cases e),done hq⟩
 | exit id=>exact hq.elim
mutual
def AV.wf:AV→Prop
 | .one c=>match c with
  | .d v=>v.wf
  | _=>True
 | .agg cs=>Cl.wfs cs
 | .tup _=>True
def Cl.wfs:List Cl→Prop
 | []=>True
 | c::cs=>(match c with
  | .d v=>v.wf
  | _=>True)∧Cl.wfs cs
end
def AV.wfL:List AV→Prop
 | []=>True
 | x::xs=>x.wf∧AV.wfL xs
def Bx.wf:Bx→Prop
 | .cells cs=>Cl.wfs cs
 | .row _ _ xs=>DV.wfs xs
 | .ice xs=>DV.wfs xs
 | _=>True
def Bx.wfL:List Bx→Prop
 | []=>True
 | x::xs=>x.wf∧Bx.wfL xs
section
variable {w:World} {V:Nat→Prop} {ι:zQE} {bx:Nat→Bx}
theorem zQW.wf:∀ {cs:List Cl} {vs:List Value},zQW w V ι bx cs vs→Cl.wfs cs
 | [],[],_=>by simp only [Cl.wfs]
 | c::cs,v::vs,h=>by
  simp only [Cl.wfs]
  refine ⟨?_,zQW.wf h.2⟩
  cases c <;> first | exact RepD.wf h.1 | trivial
 | [],_::_,h=>h.elim
 | _::_,[],h=>h.elim
theorem zQu.wf {x:AV} {v:Value} (h:zQu w V ι bx x v):x.wf:=by
 cases x with
 | one c=>simp only [zQu] at h; cases c <;> simp only [AV.wf] <;> first | exact RepD.wf h | trivial
 | agg cs=>simp only [zQu] at h; obtain ⟨cur,_,h⟩:=h; simp only [AV.wf]; exact h.wf
 | tup vs=>simp only [AV.wf]
theorem RepAVs.wf:∀ {xs:List AV} {vs:List Value},RepAVs w V ι bx xs vs→AV.wfL xs
 | [],[],_=>trivial
 | _::_,_::_,h=>by simp only [RepAVs] at h; exact ⟨h.1.wf,RepAVs.wf h.2⟩
 | [],_::_,h=>by simp only [RepAVs] at h
 | _::_,[],h=>by simp only [RepAVs] at h
theorem zXf.wf {b:Nat} {B:Bx} (h:zXf w V ι bx b B):B.wf:=by
 cases B with
 | fresh=>trivial
 | gone=>trivial
 | cells cs=>obtain ⟨_,_,_,_,_,_,_,h⟩:=h; exact h.wf
 | row e size xs=>
  rcases h with ⟨_,rfl⟩ | ⟨_,_,_,_,_,_,_,h⟩
  ·simp only [Bx.wf,DV.wfs]
  ·exact h.wf
 | ice xs=>
  rcases h with ⟨_,rfl⟩ | ⟨_,_,_,h,_⟩
  ·simp only [Bx.wf,DV.wfs]
  ·exact h.cells.wf
end
def jJE (args:List AV) (ins:List Bx):AS:=⟨fun t=>(args[t]?).getD (.tup []),zQJ ins⟩
def zipN {α:Type}:Nat→List α→List (Nat × α)
 | _,[]=>[]
 | n,x::xs=>(n,x)::zipN (n+1) xs
def Cl.flatV:Cl→Prop
 | .d v=>v.flat=true
 | .vp _ _=>False
 | .clo _ _=>False
 | _=>True
def zUQ:List Cl→Prop
 | []=>True
 | c::cs=>c.flatV∧zUQ cs
mutual
def AV.flatV:AV→Prop
 | .one c=>c.flatV
 | .agg cs=>zUQ cs
 | .tup vs=>AV.flatVL vs
def AV.flatVL:List AV→Prop
 | []=>True
 | x::xs=>x.flatV∧AV.flatVL xs
end
def Bx.flatV:Bx→Prop
 | .cells cs=>zUQ cs
 | .row _ _ xs=>∀ d∈xs,d.flat=true
 | .ice _=>False
 | _=>True
def Bx.flatVL:List Bx→Prop
 | []=>True
 | x::xs=>x.flatV∧Bx.flatVL xs
def zQl (r:Ret):Prop:=match r.fresh with
 | true=>r.res.flatV∧Bx.flatVL r.outs
 | false=>True
def jZN:List AV→AV
 | [x]=>x
 | xs=>.tup xs
def jJK (x:AV) (bx:Nat→Bx):AS:=⟨fun t=>if t=0 then x else .one .dead,bx⟩
def jKq (P:Program) (n:Dom) (rs:List ResultVar) (r:Ret):zYj→Kn→AS→Prop
 | .exit _,_,_=>False
 | _,_,s=>match zVw P s rs with
  | some xs=>fits ⟨1,fun _=>false,n.pin,false⟩ (jJK (jZN xs) s.bx) ⟨[(0,r.res)],zipN 0 r.outs⟩∧zQl r
  | none=>False
section
variable {w:World} {V V':Nat→Prop} {ι:zQE} {bx:Nat→Bx}
theorem jYb {c:Cl} {v:Value} (hf:c.flatV) (h:zQF w V ι bx c v):zQF w V' ι bx c v:=by
 cases c with
 | d x=>exact RepD.of_flat hf h
 | vp _ _=>exact hf.elim
 | clo _ _=>exact hf.elim
 | lit u=>exact h
 | nil=>exact h
 | ptr b off=>exact h
 | ref b n=>exact h
 | dead=>trivial
theorem zGu:∀ {cs:List Cl} {vs:List Value},zUQ cs→zQW w V ι bx cs vs→zQW w V' ι bx cs vs
 | [],[],_,_=>trivial
 | _::_,_::_,hf,h=>⟨jYb hf.1 h.1,zGu hf.2 h.2⟩
 | [],_::_,_,h=>h.elim
 | _::_,[],_,h=>h.elim
mutual
theorem jYc:∀ {x:AV} {v:Value},x.flatV→zQu w V ι bx x v→zQu w V' ι bx x v
 | .one c,v,hf,h=>by simp only [zQu,AV.flatV] at h hf ⊢; exact jYb hf h
 | .agg cs,v,hf,h=>by
  simp only [zQu,AV.flatV] at h hf ⊢
  obtain ⟨cur,e,h⟩:=h
  exact ⟨cur,e,zGu hf h⟩
 | .tup vs,v,hf,h=>by
  simp only [zQu,AV.flatV] at h hf ⊢
  obtain ⟨cur,e,h⟩:=h
  exact ⟨cur,e,flat_avs hf h⟩
theorem flat_avs:∀ {xs:List AV} {vs:List Value},AV.flatVL xs→RepAVs w V ι bx xs vs→RepAVs w V' ι bx xs vs
 | [],[],_,_=>by simp only [RepAVs]
 | _::_,_::_,hf,h=>by simp only [RepAVs,AV.flatVL] at h hf ⊢; exact ⟨jYc hf.1 h.1,flat_avs hf.2 h.2⟩
 | [],_::_,_,h=>by simp only [RepAVs] at h
 | _::_,[],_,h=>by simp only [RepAVs] at h
end
theorem jKO {b:Nat} {B:Bx} (hf:B.flatV) (h:zXf w V ι bx b B):zXf w V' ι bx b B:=by
 cases B with
 | fresh=>trivial
 | gone=>trivial
 | cells cs=>obtain ⟨g,c,cur,T,h1,h2,h0,h3⟩:=h; exact ⟨g,c,cur,T,h1,h2,h0,zGu hf h3⟩
 | row e size xs=>
  rcases h with h | ⟨g,cap,cur,h1,h2,h3,h4,h5⟩
  ·exact .inl h
  ·exact .inr ⟨g,cap,cur,h1,h2,h3,h4,zZb.of_flat (List.all_eq_true.2 hf) h5⟩
 | ice xs=>exact hf.elim
theorem zHx:∀ {l:List Bx} {b:Nat},Bx.flatVL l→(zQJ l b).flatV
 | [],b,_=>by simp [zQJ,Bx.flatV]
 | x::l,0,h=>h.1
 | x::l,b+1,h=>zHx (b:=b) h.2
end
theorem zUF:∀ {l:List Bx} {k b:Nat},zXL (zipN k l) (k+b)=zQJ l b
 | [],_,_=>rfl
 | x::l,k,0=>by simp [zipN,zXL,zQJ]
 | x::l,k,b+1=>by
  have:=zUF (l:=l) (k:=k+1) (b:=b)
  simp only [zipN,zXL]
  rw [if_neg (by omega),show k+(b+1)=k+1+b from by omega,this]
  rfl
theorem jJD:∀ {l:List Bx},(∀ b,(zQJ l b).wf)→Bx.wfL l
 | [],_=>trivial
 | x::l,h=>⟨h 0,jJD fun b=>h (b+1)⟩
theorem zVg {w:World} {V:Nat→Prop} {ι:zQE} {bx:Nat→Bx}:∀ {xs:List AV} {vs:List Value},RepAVs w V ι bx xs vs→xs.length=vs.length
 | [],[],_=>rfl
 | _::_,_::_,h=>by simp only [RepAVs] at h; simp [zVg h.2]
 | [],_::_,h=>by simp only [RepAVs] at h
 | _::_,[],h=>by simp only [RepAVs] at h
theorem jZz {fn:Func} {pin:Nat} {args:List AV} {ins:List Bx} (hl:args.length≤fn.ntmps) (hp:(List.range pin).all (fun b=>(zQJ ins b).known)=true)
  {w:World} {S:Nat→Prop} {ι:zQE} {vs:Array Value} (hgl:zXF w S) (hh:zJD w S ι args ins vs.toList) :
  RepS w { see:=S,lent:=OwnB (zQJ ins) ι,ref:=w,nm:=ι } ⟨fn.ntmps,fun _=>false,List.range pin,false⟩ (jJE args ins) ι { tmps:=vs++Array.replicate (fn.ntmps - vs.size) undef,defers:=[] } w:=by
 have hargs:=hh.args
 have hlen:=zVg hargs
 have hk:zZy w S w (Seen { see:=S,lent:=OwnB (zQJ ins) ι,ref:=w,nm:=ι } w.heap.size (zQJ ins) ι):=fun g off u hV hu=>⟨⟨.inl hV,fun b c hl e=>(hh.own b g c hl e).1 hV⟩,hu⟩
 refine ⟨Bel.refl _ _,⟨List.Pairwise.nil,fun d hd=>by simp at hd⟩,KeepsOthers.refl w,?_,fun t h=>by (cases h),fun b hb=>⟨rfl,(List.all_eq_true.1 hp) b hb⟩,fun t=>?_,fun b=>(hh.bx b).seen hk,fun b g c hl e=>⟨.inr ⟨b,c,hl,e⟩,(hh.own b g c hl e).2⟩,hh.dist,hgl.keep hk⟩
 ·show (vs++Array.replicate (fn.ntmps - vs.size) undef).size=fn.ntmps
  simp at hlen ⊢; omega
 ·have h1:RepAVs w (Seen { see:=S,lent:=OwnB (zQJ ins) ι,ref:=w,nm:=ι } w.heap.size (zQJ ins) ι) ι (zQJ ins) args vs.toList:=hargs.keep (fun b hb=>⟨hb,rfl⟩) hk
  have h2:=zU1 (k:=fn.ntmps - vs.size) h1 t
  rw [← jZr] at h2
  exact h2
theorem zUs {P:Program} {fn:Func} {pin:Nat} {ins:List Bx} {r:Ret} {kn':Kn} {s':AS} {ι':zQE} {w w':World} {S:Nat→Prop} {ι:zQE} {tmps:Array Value}
  (hr':RepS w { see:=S,lent:=OwnB (zQJ ins) ι,ref:=w,nm:=ι } ⟨fn.ntmps,fun _=>false,List.range pin,false⟩ s' ι' { tmps:=tmps,defers:=[] } w') :
  jKq P ⟨fn.ntmps,fun _=>false,List.range pin,false⟩ fn.results.toList r .ret kn' s'→∃ v,(results fn tmps).run P w'=.ok v w'∧∃ v2 ι',Ending.returned v=.returned v2∧jJC w S ι pin ins r w' ι' v2:=by
 intro hq
 simp only [jKq] at hq
 split at hq
 ·rename_i xs hxs
  obtain ⟨hfit,hfresh⟩:=hq
  obtain ⟨us,hrun,hus⟩:=jQI hr' hxs
  have hul:=zVg hus
  refine ⟨_,hrun,?_⟩
  have hx:zQu w' (Seen { see:=S,lent:=OwnB (zQJ ins) ι,ref:=w,nm:=ι } w.heap.size s'.bx ι') ι' s'.bx (jZN xs) (if h:us.toArray.size=1 then us.toArray[0] else .tuple us.toArray):=by
   match xs,us,hus,hul with
   | [x],[u],hus,_=>simp only [RepAVs] at hus; simpa [jZN] using hus.1
   | [],[],hus,_=>simp only [jZN,zQu]; exact ⟨_,rfl,hus⟩
   | x1::x2::xs,u1::u2::us,hus,_=>simp only [jZN,zQu]; exact ⟨(u1::u2::us).toArray,by simp,hus⟩
   | [_],[],_,hl=>simp at hl
   | [],_::_,_,hl=>simp at hl
   | [_],_::_::_,_,hl=>simp at hl
   | _::_::_,[],_,hl=>simp at hl
   | _::_::_,[_],_,hl=>simp at hl
  generalize (if h:us.toArray.size=1 then us.toArray[0] else .tuple us.toArray)=v at hx
  generalize jZN xs=x at hx hfit
  have h1:RepS w { see:=S,lent:=OwnB (zQJ ins) ι,ref:=w,nm:=ι } ⟨1,fun _=>false,List.range pin,false⟩ (jJK x s'.bx) ι' { tmps:=#[v],defers:=[] } w':=
   ⟨hr'.bel,⟨List.Pairwise.nil,fun d hd=>by simp at hd⟩,hr'.oth,rfl,fun t h=>by (cases h),hr'.pin,fun t=>by
    show zQu _ _ _ _ (if t=0 then x else .one .dead) _
    split
    ·rename_i e; subst e; exact hx
    ·simp only [zQu,zQF],hr'.bx,hr'.own,hr'.dist,hr'.glob⟩
  obtain ⟨ι2,h2⟩:=h1.fit hfit
  have hbx:zXL (zipN 0 r.outs)=zQJ r.outs:=by
   funext b
   have:=zUF (l:=r.outs) (k:=0) (b:=b)
   rwa [Nat.zero_add] at this
  have htm:zQu w' (Seen { see:=S,lent:=OwnB (zQJ ins) ι,ref:=w,nm:=ι } w.heap.size (zQJ r.outs) ι2) ι2 (zQJ r.outs) r.res v:=by
   have:=h2.tm 0
   rw [← hbx]
   exact this
  have hb2:∀ b,zXf w' (Seen { see:=S,lent:=OwnB (zQJ ins) ι,ref:=w,nm:=ι } w.heap.size (zQJ r.outs) ι2) ι2 (zQJ r.outs) b (zQJ r.outs b):=fun b=>by
   have:=h2.bx b
   rw [← hbx]
   exact this
  have hown:∀ b g c,(zQJ r.outs b).live=true→ι2 b=some (g,c)→(w.heap.size≤g∨OwnB (zQJ ins) ι g)∧g < w'.heap.size:=fun b g c hl e=>h2.own b g c (by rw [← hbx] at hl; exact hl) e
  have hdist:∀ b b' g c c',(zQJ r.outs b).live=true→(zQJ r.outs b').live=true→b≠b'→ι2 b=some (g,c)→ι2 b'≠some (g,c'):=fun b b' g c c' hl hl'=>h2.dist b b' g c c' (by rw [← hbx] at hl; exact hl) (by rw [← hbx] at hl'; exact hl')
  have hpin:∀ b,b < pin→ι2 b=ι b:=fun b hb=>(h2.pin b (List.mem_range.2 hb)).1
  refine ⟨v,ι2,rfl,?_⟩
  cases hfr:r.fresh with
  | true=>
   unfold zQl at hfresh
   rw [hfr] at hfresh
   exact ⟨jYc hfresh.1 htm,fun b=>jKO (zHx hfresh.2) (hb2 b),hown,hdist,hpin,h2.bel⟩
  | false=>
   have hk2:zZy w' (Seen { see:=S,lent:=OwnB (zQJ ins) ι,ref:=w,nm:=ι } w.heap.size (zQJ r.outs) ι2) w' (zY7 w S ι ins r ι2):=fun g off u hV hu=>⟨⟨by
    rcases hV.1 with h | h | h
    ·exact .inl ⟨hfr,h⟩
    ·exact .inr (.inl h)
    ·exact .inr (.inr h),fun ⟨b,c,hl,e⟩=>hV.2 b c hl e⟩,hu⟩
   exact ⟨htm.keep (fun b hb=>⟨hb,rfl⟩) hk2,fun b=>(hb2 b).seen hk2,hown,hdist,hpin,h2.bel⟩
 ·exact hq.elim
theorem zQx {P:Program} {Γ:Gam} {f:FuncId} {fn:Func} {pin:Nat} {args:List AV} {ins:List Bx} {r:Ret} (ann:Ann) (hm:P.follows .mixedOrders=true) (hf:P.funcs[f]?=some fn) (hb:fn.body.isSome=true) (hl:args.length≤fn.ntmps)
  (hp:(List.range pin).all (fun b=>(zQJ ins b).known)=true)
  (h:AV.wfL args→Bx.wfL ins→vcg P Γ ⟨fn.ntmps,fun _=>false,List.range pin,false⟩ (zVF fn) ann kn0 (jJE args ins) (jKq P ⟨fn.ntmps,fun _=>false,List.range pin,false⟩ fn.results.toList r)):AnsG P f pin args ins r:=by
 intro w S ι vs hgl hh
 have hv:=h hh.args.wf (jJD fun b=>(hh.bx b).wf)
 refine zJy ann hm hf hb (n:=⟨fn.ntmps,fun _=>false,List.range pin,false⟩) rfl hv (jZz hl hp hgl hh) rfl (fun e kn' s' ι' tmps w' hq hr'=>?_) (fun id kn' s' hq=>hq)
 cases e with
 | normal=>exact ⟨fun _ e=>by (cases e),zUs (kn':=kn') hr' hq⟩
 | ret=>exact ⟨fun _ e=>by (cases e),zUs (kn':=kn') hr' hq⟩
 | exit id=>exact hq.elim
theorem jJQ {x y M:Int} (h1:0≤x) (h2:x≤M) (h3:0≤y) (h4:y≤M):0≤x*y∧x*y≤M*M:=
 ⟨Int.mul_nonneg h1 h3,Int.mul_le_mul h2 h4 h3 (by omega)⟩
def modS (n k:Int):Int:=if k < 1 then 0 else (IntKind.wrap .i64 (n.tmod k+k)).tmod k
theorem jXS {n k:Int} (hk:1≤k) (hk':k≤4611686018427387904):modS n k=n % k:=by
 unfold modS
 rw [if_neg (by omega)]
 have a:=Int.tmod_lt_of_pos n (show 0 < k by omega)
 have b : -k < n.tmod k:=by
  rcases Int.le_total 0 n with h | h
  ·have:=Int.tmod_nonneg k h; omega
  ·have:=Int.tmod_lt_of_pos (-n) (show 0 < k by omega)
   rw [Int.neg_tmod] at this
   omega
 rw [IntWalk.i64_in _ ⟨by omega,by omega⟩,Int.tmod_eq_emod_of_nonneg (by omega),Int.add_emod_right,Int.tmod_def]
 rw [show n - k*n.tdiv k=n+k*(-(n.tdiv k)) from by rw [Int.mul_neg]; omega,Int.add_mul_emod_self_left]
structure Rc where
  a:Int
  b:Int
  c:Int
  d:Int
deriving DecidableEq
def okC (v:Int):Bool:=decide (-1073741824≤v) && decide (v≤1073741824)
def Rc.valid (r:Rc):Bool:=okC r.a && okC r.b && okC r.c && okC r.d
def Rc.empty (r:Rc):Bool:=!r.valid || decide (r.c≤r.a) || decide (r.d≤r.b)
def Rc.zero:Rc:=⟨0,0,0,0⟩
def Rc.clean (r:Rc):Rc:=if r.empty then Rc.zero else r
def Rc.area (r:Rc):Int:=if r.empty then 0 else (r.c - r.a)*(r.d - r.b)
def Rc.has (r:Rc) (x y:Int):Bool:=!r.empty && decide (r.a≤x) && decide (x < r.c) && decide (r.b≤y) && decide (y < r.d)
def Rc.inter (r q:Rc):Rc:=if r.empty || q.empty then Rc.zero else Rc.clean ⟨max r.a q.a,max r.b q.b,min r.c q.c,min r.d q.d⟩
def Rc.move (r:Rc) (x y:Int):Rc:=if r.empty || decide (x < -2147483648) || decide (2147483648 < x) || decide (y < -2147483648) || decide (2147483648 < y) then Rc.zero else Rc.clean ⟨r.a+x,r.b+y,r.c+x,r.d+y⟩
theorem Rc.empty_false {r:Rc} (h:r.empty=false) :
  -1073741824≤r.a∧r.a < r.c∧r.c≤1073741824 ∧ -1073741824≤r.b∧r.b < r.d∧r.d≤1073741824:=by
 simp [Rc.empty,Rc.valid,okC] at h
 omega
theorem Rc.empty_iff (r:Rc):r.empty=false ↔ -1073741824≤r.a∧r.a < r.c∧r.c≤1073741824 ∧ -1073741824≤r.b∧r.b < r.d∧r.d≤1073741824:=by
 refine ⟨Rc.empty_false,fun h=>?_⟩
 simp [Rc.empty,Rc.valid,okC]
 omega
theorem Rc.clean_of {r:Rc} (h:r.empty=false):r.clean=r:=by simp [Rc.clean,h]
def is (l:List Int):List DV:=l.map (.int .i64)
def ints (l:List DV):List Int:=l.map fun | .int _ n=>n | _=>0
theorem zQM (l:List Int):ints (is l)=l:=by simp [ints,is,Function.comp_def]
def Rc.cells (r:Rc):List DV:=[.int .i64 r.a,.int .i64 r.b,.int .i64 r.c,.int .i64 r.d]
def rcs (l:List Rc):List DV:=l.flatMap Rc.cells
def nOf:DV→Int
 | .int _ n=>n
 | _=>0
def jJ9:List DV→List Rc
 | a::b::c::d::r=>⟨nOf a,nOf b,nOf c,nOf d⟩::jJ9 r
 | _=>[]
def jVv (n:Nat) (xs:List DV):Prop:=xs=rcs (jJ9 xs)∧n=(jJ9 xs).length
theorem jVv.of {n:Nat} {xs:List DV} (h:jVv n xs):∃ l:List Rc,xs=rcs l∧n=l.length:=⟨_,h.1,h.2⟩
def Rc.pieces (r i:Rc):List Rc:=[⟨r.a,r.b,r.c,i.b⟩,⟨r.a,i.d,r.c,r.d⟩,⟨r.a,i.b,i.a,i.d⟩,⟨i.c,i.b,r.c,i.d⟩]
def filt (l:List Rc):List Rc:=l.filter fun p=>!p.empty
def Rc.sub (r q:Rc):List Rc:=if r.empty then [] else if (r.inter q).empty then [r] else filt (Rc.pieces r (r.inter q))
theorem zXe (l:List Int):(is l).length=l.length:=by simp [is]
theorem jKF {l:List Int} {k:Nat} (h:k < l.length):(is l)[k]?=some (.int .i64 l[k]):=by simp [is,h]
theorem jJP {l:List Int} {k:Nat} (h:k < l.length):nAt (is l) k=l[k]:=by simp [nAt,jKF h]
def atS (l:List Int) (i:Int):Int:=if i < 0 then 0 else (l[i.toNat]?).getD 0
def upto (n:Nat):List Int:=(List.range n).map Int.ofNat
theorem jYB (n:Nat):(upto n).length=n:=by simp [upto]
def stp (l:List Int) (n:Nat):Nat→List Int × List Int
 | 0=>(upto n,[])
 | i+1=>
  let s:=stp l n i
  let k:=(modS (atS l i) s.1.length).toNat
  (s.1.take k++s.1.drop (k+1),s.2++[(s.1[k]?).getD 0])
def jXE (l:List Int) (n:Int):List Int:=if l.length=0∨64 < n then [] else (stp l n.toNat n.toNat).2
theorem jXR {v:Int} {m:Nat} (hm:1≤m) (hm':m≤1000000):0≤modS v m∧(modS v m).toNat < m:=by
 rw [jXS (by omega) (by omega)]
 have:=Int.emod_nonneg v (show (m:Int)≠0 by omega)
 have:=Int.emod_lt_of_pos v (show 0 < (m:Int) by omega)
 omega
theorem zU0 (l:List Int) {n:Nat} (hn:n≤64):∀ i,i≤n→(stp l n i).1.length=n - i∧(stp l n i).2.length=i
 | 0,_=>by simp [stp,jYB]
 | i+1,h=>by
  obtain ⟨h1,h2⟩:=zU0 l hn i (by omega)
  have hk:=jXR (v:=atS l i) (m:=(stp l n i).1.length) (by omega) (by omega)
  simp only [stp,List.length_append,List.length_take,List.length_drop,List.length_cons,List.length_nil]
  omega
theorem jQF (l:List Int) {n:Nat} (hn:n≤64):∀ i,i≤n→((stp l n i).2++(stp l n i).1).Perm (upto n)
 | 0,_=>by simp [stp]
 | i+1,h=>by
  obtain ⟨h1,h2⟩:=zU0 l hn i (by omega)
  have hk:=jXR (v:=atS l i) (m:=(stp l n i).1.length) (by omega) (by omega)
  have ih:=jQF l hn i (by omega)
  simp only [stp]
  generalize (stp l n i).1=r at *
  generalize (stp l n i).2=o at *
  generalize (modS (atS l i) r.length).toNat=k at *
  have e:r=r.take k++r[k]::r.drop (k+1):=by rw [← List.drop_eq_getElem_cons hk.2,List.take_append_drop]
  rw [List.getElem?_eq_getElem hk.2,Option.getD_some,List.append_assoc]
  refine List.Perm.trans ?_ ih
  refine List.Perm.append_left o ?_
  conv=>rhs; rw [e]
  simp only [List.singleton_append]
  exact List.perm_middle.symm
theorem jZJ {l:List Int} {n:Int} (h:l.length≠0) (hn:n≤64):(jXE l n).Perm (upto n.toNat):=by
 have h1:=jQF l (n:=n.toNat) (by omega) n.toNat (Nat.le_refl _)
 have h2:=zU0 l (n:=n.toNat) (by omega) n.toNat (Nat.le_refl _)
 have e:(stp l n.toNat n.toNat).1=[]:=List.eq_nil_of_length_eq_zero (by omega)
 rw [e,List.append_nil] at h1
 unfold jXE
 rw [if_neg (by omega)]
 exact h1
def seqL (l:List Int) (n:Int):List Int:=if l.length=0 then upto n.toNat else l
def jKM (s:List Int) (n:Int):Prop:=(∀ v∈s,0≤v∧v < n)∧s.Nodup
instance (s:List Int) (n:Int):Decidable (jKM s n):=by unfold jKM; infer_instance
def jKt (l:List Int) (n:Int):Bool:=decide (0≤n) && decide (n≤16777216) && (decide (l.length=0) || decide ((l.length:Int)=n)) && decide (jKM (seqL l n) n)
theorem jJn {l l':List Int} (he:l.length=l'.length) (hm:l.length≤2 ^ 63 - 1) {B:Bool} (hB:B=decide (l=l')) :
  (∃ k,(k≤l.length∧List.take k l=List.take k l')∧(0:Int)=(k:Int)) ∧
    ∀ (k:Nat),
     k≤l.length∧List.take k l=List.take k l' →
      ((k:Int) < (l.length:Int) →
        (0≤(k:Int)∧(k:Int) < (l.length:Int)∧k*1 < l.length) ∧
         (is l)[k*1]?=some (DV.int IntKind.i64 (nAt (is l) (k*1))) ∧
          (0≤(k:Int)∧(k:Int) < (l'.length:Int)∧k*1 < l'.length) ∧
           (is l')[k*1]?=some (DV.int IntKind.i64 (nAt (is l') (k*1))) ∧
            ((nAt (is l) (k*1) != nAt (is l') (k*1))=true→false=B) ∧
             ((nAt (is l) (k*1) != nAt (is l') (k*1))=false →
              ∃ k':Nat,
               (k'≤l.length∧List.take k' l=List.take k' l') ∧
                l.length - k' < l.length - k∧IntKind.i64.wrap ((k:Int)+1)=(k':Int))) ∧
       (¬(k:Int) < (l.length:Int)→true=B):=by
 subst hB
 refine ⟨⟨0,⟨by omega,rfl⟩,rfl⟩,fun k hk=>⟨fun hlt=>?_,fun hge=>?_⟩⟩
 ·have h:k < l.length:=by omega
  have h':k < l'.length:=by omega
  have hw:IntKind.wrap .i64 ((k:Int)+1)=((k+1:Nat):Int):=by rw [IntWalk.i64_in _ ⟨by omega,by omega⟩]; omega
  simp only [Nat.mul_one,jJP h,jJP h']
  refine ⟨by omega,jKF h,by omega,jKF h',fun hd=>?_,fun hd=>?_⟩
  ·have:l≠l':=fun e=>by subst e; simp at hd
   simp [this]
  ·refine ⟨k+1,⟨by omega,?_⟩,by omega,hw⟩
   have hr:l[k]=l'[k]:=by simpa using hd
   rw [List.take_add_one,List.take_add_one,hk.2,List.getElem?_eq_getElem h,List.getElem?_eq_getElem h',hr]
 ·have hkl:k=l.length:=by omega
  have:=hk.2
  rw [List.take_of_length_le (by omega),List.take_of_length_le (by omega)] at this
  simp [this]
theorem jVi {n:Nat} {xs:List DV} (hn:xs.length=n) (hx:∀ (j:Nat) d,xs[j]?=some d→∃ v,d=.int .i64 v):xs=is (ints xs)∧n=xs.length:=by
 refine ⟨?_,hn.symm⟩
 clear hn
 induction xs with
 | nil=>rfl
 | cons x xs ih=>
  obtain ⟨v,rfl⟩:=hx 0 _ rfl
  have:=ih fun j d hj=>hx (j+1) d hj
  simp only [is,ints,List.map_cons] at this ⊢
  rw [← this]
structure Oq where
  kind:Int
  image:Int
  x:Int
  y:Int
  mask:Int
  mx:Int
  my:Int
  opac:Int
  oper:Int
  mode:Int
  iso:Bool
  kno:Bool
deriving DecidableEq
def popO:Oq:=⟨3,0,0,0,0,0,0,0,0,0,false,false⟩
def Oq.fields (o:Oq):Bool:=
 if o.kind=3 then decide (o=popO)
 else !(decide (o.kind=1) && (o.iso || o.kno)) && !(decide (o.kind=2) && decide (o.image≠0∨o.x≠0∨o.y≠0)) && decide (o.mask≠0∨o.mx=0∧o.my=0)
def zUg (v:Int):Bool:=decide (-1048576≤v∧v≤1048576)
def Oq.cells (o:Oq):List DV:=[.int .i64 o.kind,.int .i64 o.image,.int .i64 o.x,.int .i64 o.y,.int .i64 o.mask,.int .i64 o.mx,.int .i64 o.my,.int .u16 o.opac,.int .i64 o.oper,.int .i64 o.mode,.bool o.iso,.bool o.kno]
def oqAt (xs:List DV) (i:Nat):Oq:=⟨nAt xs i,nAt xs (i+1),nAt xs (i+2),nAt xs (i+3),nAt xs (i+4),nAt xs (i+5),nAt xs (i+6),nAt xs (i+7),nAt xs (i+8),nAt xs (i+9),bAt xs (i+10),bAt xs (i+11)⟩
def ops (l:List Oq):List DV:=l.flatMap Oq.cells
theorem zZp (l:List Oq):(ops l).length=l.length*12:=by
 induction l with
 | nil=>rfl
 | cons o l ih=>simp only [ops,List.flatMap_cons,List.length_append,List.length_cons] at ih ⊢; rw [ih]; simp [Oq.cells]; omega
theorem jXK {l:List Oq} {k:Nat} (h:k < l.length) (j:Nat) (hj:j < 12):(ops l)[k*12+j]?=l[k].cells[j]?:=by
 induction l generalizing k with
 | nil=>simp at h
 | cons o l ih=>
  have e:ops (o::l)=o.cells++ops l:=by simp [ops]
  rw [e]
  cases k with
  | zero=>simp only [List.getElem_cons_zero]; rw [List.getElem?_append_left (by simp [Oq.cells]; omega)]; simp
  | succ k=>
   rw [List.getElem?_append_right (by simp [Oq.cells]; omega)]
   have:=ih (k:=k) (by simpa using h)
   simp only [List.getElem_cons_succ]
   rw [← this]
   congr 1
   simp [Oq.cells]; omega
theorem zVy {l:List Oq} {k:Nat} (h:k < l.length):(ops l)[k*12]?=some (.int .i64 l[k].kind)∧(ops l)[k*12+1]?=some (.int .i64 l[k].image)∧(ops l)[k*12+1+1]?=some (.int .i64 l[k].x)∧(ops l)[k*12+1+1+1]?=some (.int .i64 l[k].y)∧(ops l)[k*12+1+1+1+1]?=some (.int .i64 l[k].mask)∧(ops l)[k*12+1+1+1+1+1]?=some (.int .i64 l[k].mx)∧(ops l)[k*12+1+1+1+1+1+1]?=some (.int .i64 l[k].my)∧(ops l)[k*12+1+1+1+1+1+1+1]?=some (.int .u16 l[k].opac)∧(ops l)[k*12+1+1+1+1+1+1+1+1]?=some (.int .i64 l[k].oper)∧(ops l)[k*12+1+1+1+1+1+1+1+1+1]?=some (.int .i64 l[k].mode)∧(ops l)[k*12+1+1+1+1+1+1+1+1+1+1]?=some (.bool l[k].iso)∧(ops l)[k*12+1+1+1+1+1+1+1+1+1+1+1]?=some (.bool l[k].kno):=by
 have g:=fun j hj=>jXK h j hj
 refine ⟨g 0 (by omega),g 1 (by omega),g 2 (by omega),g 3 (by omega),g 4 (by omega),g 5 (by omega),g 6 (by omega),g 7 (by omega),g 8 (by omega),g 9 (by omega),g 10 (by omega),g 11 (by omega)⟩
theorem zVz {l:List Oq} {k:Nat} (h:k < l.length):nAt (ops l) (k*12)=l[k].kind∧nAt (ops l) (k*12+1)=l[k].image∧nAt (ops l) (k*12+1+1)=l[k].x∧nAt (ops l) (k*12+1+1+1)=l[k].y∧nAt (ops l) (k*12+1+1+1+1)=l[k].mask∧nAt (ops l) (k*12+1+1+1+1+1)=l[k].mx∧nAt (ops l) (k*12+1+1+1+1+1+1)=l[k].my∧nAt (ops l) (k*12+1+1+1+1+1+1+1)=l[k].opac∧nAt (ops l) (k*12+1+1+1+1+1+1+1+1)=l[k].oper∧nAt (ops l) (k*12+1+1+1+1+1+1+1+1+1)=l[k].mode∧bAt (ops l) (k*12+1+1+1+1+1+1+1+1+1+1)=l[k].iso∧bAt (ops l) (k*12+1+1+1+1+1+1+1+1+1+1+1)=l[k].kno:=by
 obtain ⟨e0,e1,e2,e3,e4,e5,e6,e7,e8,e9,e10,e11⟩:=zVy h
 simp only [nAt,bAt,e0,e1,e2,e3,e4,e5,e6,e7,e8,e9,e10,e11,and_self]
theorem jYV {l:List Oq} {k:Nat} (h:k < l.length):oqAt (ops l) (k*12)=l[k]:=by
 obtain ⟨e0,e1,e2,e3,e4,e5,e6,e7,e8,e9,e10,e11⟩:=zVz h
 simp only [oqAt,show k*12+2=k*12+1+1 from rfl,show k*12+3=k*12+1+1+1 from rfl,show k*12+4=k*12+1+1+1+1 from rfl,show k*12+5=k*12+1+1+1+1+1 from rfl,show k*12+6=k*12+1+1+1+1+1+1 from rfl,show k*12+7=k*12+1+1+1+1+1+1+1 from rfl,show k*12+8=k*12+1+1+1+1+1+1+1+1 from rfl,show k*12+9=k*12+1+1+1+1+1+1+1+1+1 from rfl,show k*12+10=k*12+1+1+1+1+1+1+1+1+1+1 from rfl,show k*12+11=k*12+1+1+1+1+1+1+1+1+1+1+1 from rfl,e0,e1,e2,e3,e4,e5,e6,e7,e8,e9,e10,e11]
def zQG (xs:List DV):List Oq:=(List.range (xs.length / 12)).map fun k=>oqAt xs (k*12)
theorem zQU (l:List Oq):zQG (ops l)=l:=by
 have e:(ops l).length / 12=l.length:=by rw [zZp]; omega
 unfold zQG
 rw [e]
 refine List.ext_getElem (by simp) fun i h1 h2=>?_
 simp only [List.getElem_map,List.getElem_range]
 exact jYV h2
def ctxB (l:List Oq):Bool:=match l.getLast? with
 | none=>true
 | some o=>o.iso && !o.kno
section
open Go.Lib
def toS (l:Lb):ByteArray:=⟨l.toArray⟩
def ofS (s:ByteArray):Lb:=s.data.toList
theorem zQL (l:Lb):ofS (toS l)=l:=rfl
theorem zKg (s:ByteArray):toS (ofS s)=s:=by
 unfold toS ofS
 exact Go.WideShapes.bytes_inj (by simp)
theorem zYq (l:Lb):(toS l).data.toList=l:=rfl
theorem zQY (l:Lb):(toS l).size=l.length:=by simp [toS,ByteArray.size]
theorem zGx (l:Lb) (a b:Nat):(toS l).extract a b=toS ((l.drop a).take (b - a)):=Go.WideShapes.bytes_inj (by simp [toS,List.extract_eq_take_drop])
theorem zXn (l m:Lb):((toS l).toList==(toS m).toList)=decide (l=m):=by
 rw [ByteArray.toList_eq,ByteArray.toList_eq,zYq,zYq]
 exact Bool.eq_iff_iff.2 (by simp)
theorem jJW {l m:Lb} (h:l=m):toS l=toS m:=by rw [h]
def strs (l:List Lb):List DV:=l.map fun w=>.str (toS w)
def zQb (xs:List DV):List Lb:=xs.map fun d=>match d with | .str s=>ofS s | _=>[]
theorem zQv (l:List Lb):zQb (strs l)=l:=by
 unfold zQb strs
 rw [List.map_map]
 conv=>rhs; rw [← List.map_id l]
 exact List.map_congr_left fun w _=>rfl
theorem zQ5 (l:List Lb):(strs l).length=l.length:=by simp [strs]
theorem zV6 {l:List Lb} {k:Nat} (h:k < l.length):(strs l)[k]?=some (.str (toS l[k]))∧sAt (strs l) k=toS l[k]:=by
 have e:(strs l)[k]?=some (.str (toS l[k])):=by simp [strs,h]
 exact ⟨e,by simp only [sAt,e]⟩
theorem zVT (l m:List Lb):strs (l++m)=strs l++strs m:=by simp [strs]
theorem wrap_u64 (n:Int) (h0:0≤n) (h1:n < 18446744073709551616):IntKind.wrap .u64 n=n:=by
 simp [IntKind.wrap,IntKind.bits,IntKind.signed]
 omega
end
open Go.Proofs.Tryz (prog)
theorem zQB:prog.follows .mixedOrders=true:=by kernel_rfl
def gamM:Gam where
 pure:=fun f xs=>
  if f=14 then (match xs with | [.d (.int _ n),.d (.int _ k)]=>some (rJ (modS n k)) | _=>none) else
  none
 modes:=fun f=>
  none
 proc:=fun f xs bs=>
  none
 iter:=fun f cs=>
  none
theorem zQT (n k:Int):Ans prog 14 [rJ (n),rJ (k)] (rJ ((modS n k))):=
 zQm (Γ:=gamM) Ann.leaf zQB Tryz.func14 rfl (Nat.le_of_ble_eq_true rfl) fun hwf=>by
  refine Eq.mpr (by kernel_rfl:_=(True∧True∧True∧(((decide (k < 1))=true→True∧rJ (0:Int)=rJ (modS n k))∧((decide (k < 1))=false→True∧True∧(k≠0)∧True∧True∧True∧(k≠0)∧True∧rJ (Int.tmod (wK ((Int.tmod n k)+k)) k)=rJ (modS n k))))) ?_
  delta wK rJ
  simp only [true_and,and_true,RV.d.injEq,DV.int.injEq,forall_const,Bool.not_false,Bool.not_true]
  unfold modS; grind
section
attribute [local irreducible] Ans AnsO AnsG AnsN AnsI
def zQo (op:Int):ByteArray:=if 1≤op∧op < 13 then sAt zQa (op.toNat*4) else ⟨#[]⟩
def zKM (op:Int) (i:Nat):Int:=if 1≤op∧op < 13 then nAt zQa (op.toNat*4+i) else 0
def zQg (op:Int):ByteArray:=if 1≤op∧op < 13 then sAt zQk op.toNat else ⟨#[]⟩
theorem zYl {op:Int} (h:1≤op∧op < 13):op=1∨op=2∨op=3∨op=4∨op=5∨op=6∨op=7∨op=8∨op=9∨op=10∨op=11∨op=12:=by omega
def gZ0 (xs:List RV):Option RV:=match xs with | [.d (.int _ op)]=>some (RV.d (DV.str (zQo op))) | _=>none
def gZ1 (xs:List RV):Option RV:=match xs with | [.d (.int _ op)]=>some (RV.d (dQ (decide (1≤op∧op < 13)))) | _=>none
def gZ2 (xs:List RV):Option RV:=match xs with | [.d (.int _ op)]=>some (RV.d (DV.str (zQg op))) | _=>none
def jZU:Gam where
 pure:=fun f xs=>
  if f=95 then (match xs with | [.d (.int _ op)]=>some (RV.tup [RV.agg [DV.str (zQo op),dJ (zKM op 1),dJ (zKM op 2),dJ (zKM op 3)],RV.d (dQ (decide (1≤op∧op < 13)))]) | _=>none) else
  if f=55 then gZ0 xs else
  if f=96 then gZ1 xs else
  if f=56 then gZ2 xs else
  if f=68 then gZ0 xs else
  if f=69 then gZ2 xs else
  none
 modes:=fun f=>
  none
 proc:=fun f xs bs=>
  none
 iter:=fun f cs=>
  none
theorem zZM (op:Int):Ans prog 95 [rJ (op)] (RV.tup [RV.agg [DV.str (zQo op),dJ (zKM op 1),dJ (zKM op 2),dJ (zKM op 3)],RV.d (dQ (decide (1≤op∧op < 13)))]):=
 zQm (Γ:=jZU) Ann.leaf zQB Tryz.func95 rfl (Nat.le_of_ble_eq_true rfl) fun hwf=>by
  refine Eq.mpr (by kernel_rfl:_=(let b:=(sAt zQa (0+op.toNat*4)); let c:=(nAt zQa (0+op.toNat*4+1)); let d:=(nAt zQa (0+op.toNat*4+1+1)); let e:=(nAt zQa (0+op.toNat*4+1+1+1)); let f:=[RV.agg [DV.str (⟨#[]⟩:ByteArray),dJ 0,dJ 0,dJ 0],RV.d (dQ false)]; let a:=[RV.agg [DV.str (zQo op),dJ (zKM op 1),dJ (zKM op 2),dJ (zKM op 3)],RV.d (dQ (decide (1≤op∧op < 13)))]; tU5 (((decide (op < 1))=false→tU3 (((decide (op≥13))=true→tU3 (RV.tup f=RV.tup a))∧((decide (op≥13))=false→True∧(0≤op∧op < ((13:Nat):Int))∧((zQa[0+op.toNat*4]?=some (DV.str b))∧(zQa[0+op.toNat*4+1]?=some (dJ c))∧(zQa[0+op.toNat*4+1+1]?=some (dJ d))∧(zQa[0+op.toNat*4+1+1+1]?=some (dJ e))∧True)∧tU2 (RV.tup [RV.agg [DV.str b,dJ c,dJ d,dJ e],RV.d (dQ true)]=RV.tup a))))∧((decide (op < 1))=(!false)→tU4 (RV.tup f=RV.tup a))))) ?_
  delta tU2 tU3 tU4 tU5 dJ dQ
  simp only [sS]
  refine ⟨fun h1=>⟨fun h2=>?_,fun h2=>⟨⟨by omega,by omega⟩,?_⟩⟩,fun h1=>?_⟩
  ·have h:¬ (1≤op∧op < 13):=by omega
   simp [zQo,zKM,h]
  ·have h:1≤op∧op < 13:=by omega
   clear h1 h2
   rcases zYl h with rfl | rfl | rfl | rfl | rfl | rfl | rfl | rfl | rfl | rfl | rfl | rfl <;> exact ⟨⟨rfl,rfl,rfl,rfl⟩,⟨rfl,rfl,rfl,rfl⟩,rfl⟩
  ·have h:¬ (1≤op∧op < 13):=by omega
   simp [zQo,zKM,h]
theorem zZq (op:Int):Ans prog 55 [rJ (op)] (RV.d (DV.str (zQo op))):=
 zQm (Γ:=jZU) Ann.leaf zQB Tryz.func55 rfl (Nat.le_of_ble_eq_true rfl) fun hwf=>by
  refine Eq.mpr (by kernel_rfl:_=(tU2 ((Ans prog 95 [rJ op] (RV.tup [RV.agg [DV.str (zQo op),dJ (zKM op 1),dJ (zKM op 2),dJ (zKM op 3)],RV.d (dQ (decide (1≤op∧op < 13)))]))∧True∧tU8 (RV.d (DV.str (zQo op))=RV.d (DV.str (zQo op)))))) ?_
  delta tU2 tU8 dJ dQ rJ
  simp only [sS,zZM]
theorem zXD (op:Int):Ans prog 96 [rJ (op)] (RV.d (dQ (decide (1≤op∧op < 13)))):=
 zQm (Γ:=jZU) Ann.leaf zQB Tryz.func96 rfl (Nat.le_of_ble_eq_true rfl) fun hwf=>by
  refine Eq.mpr (by kernel_rfl:_=(let a:=(dQ (decide (1≤op∧op < 13))); tU4 (((decide (op≥1))=true→tU4 (RV.d (dQ (decide (op≤12)))=RV.d a))∧((decide (op≥1))=(!true)→tU2 (RV.d (dQ false)=RV.d a))))) ?_
  delta tU2 tU4 dQ
  simp only [sS,zZM,zZq]
  by_cases h:op≥1 <;> simp [h] <;> omega
theorem zXS (op:Int):Ans prog 56 [rJ (op)] (RV.d (DV.str (zQg op))):=
 zQm (Γ:=jZU) Ann.leaf zQB Tryz.func56 rfl (Nat.le_of_ble_eq_true rfl) fun hwf=>by
  refine Eq.mpr (by kernel_rfl:_=(let a:=(DV.str (sAt zQk (0+op.toNat*1))); tU2 ((Ans prog 96 [rJ op] (RV.d (dQ (decide (1≤op∧op < 13)))))∧True∧(((!(decide (1≤op∧op < 13)))=true→True∧RV.d (DV.str (⟨#[]⟩:ByteArray))=RV.d (DV.str (zQg op)))∧((!(decide (1≤op∧op < 13)))=false→True∧(0≤op∧op < ((13:Nat):Int))∧((zQk[0+op.toNat*1]?=some a)∧True)∧True∧RV.d a=RV.d (DV.str (zQg op))))))) ?_
  delta tU2 dQ rJ
  simp only [sS,zZM,zZq,zXD]
  refine ⟨fun h=>by simp [zQg,h],fun h=>⟨⟨by omega,by omega⟩,?_⟩⟩
  rcases zYl h with rfl | rfl | rfl | rfl | rfl | rfl | rfl | rfl | rfl | rfl | rfl | rfl <;> exact ⟨rfl,rfl⟩
theorem zKd (op:Int):Ans prog 68 [rJ (op)] (RV.d (DV.str (zQo op))):=
 zQm (Γ:=jZU) Ann.leaf zQB Tryz.func68 rfl (Nat.le_of_ble_eq_true rfl) fun hwf=>by
  refine Eq.mpr (by kernel_rfl:_=(let a:=(DV.str (zQo op)); let b:=(DV.str (⟨#[]⟩:ByteArray)); let c:=(DV.str (sAt ([DV.str (⟨#[]⟩:ByteArray),DV.str (⟨#[99,108,101,97,114]⟩:ByteArray),DV.str (⟨#[115,114,99]⟩:ByteArray),DV.str (⟨#[100,115,116]⟩:ByteArray),DV.str (⟨#[115,114,99,45,111,118,101,114]⟩:ByteArray),DV.str (⟨#[100,115,116,45,111,118,101,114]⟩:ByteArray),DV.str (⟨#[115,114,99,45,105,110]⟩:ByteArray),DV.str (⟨#[100,115,116,45,105,110]⟩:ByteArray),DV.str (⟨#[115,114,99,45,111,117,116]⟩:ByteArray),DV.str (⟨#[100,115,116,45,111,117,116]⟩:ByteArray),DV.str (⟨#[115,114,99,45,97,116,111,112]⟩:ByteArray),DV.str (⟨#[100,115,116,45,97,116,111,112]⟩:ByteArray),DV.str (⟨#[120,111,114]⟩:ByteArray)]) (op.toNat*1))); tU6 (((decide (op < 1))=false→tU2 ((13≤maxLen)∧tU2 (((decide (op≥((13:Nat):Int)))=true→True∧RV.d b=RV.d a)∧((decide (op≥((13:Nat):Int)))=false→tU2 ((0≤op∧op < ((13:Nat):Int))∧((([DV.str (⟨#[]⟩:ByteArray),DV.str (⟨#[99,108,101,97,114]⟩:ByteArray),DV.str (⟨#[115,114,99]⟩:ByteArray),DV.str (⟨#[100,115,116]⟩:ByteArray),DV.str (⟨#[115,114,99,45,111,118,101,114]⟩:ByteArray),DV.str (⟨#[100,115,116,45,111,118,101,114]⟩:ByteArray),DV.str (⟨#[115,114,99,45,105,110]⟩:ByteArray),DV.str (⟨#[100,115,116,45,105,110]⟩:ByteArray),DV.str (⟨#[115,114,99,45,111,117,116]⟩:ByteArray),DV.str (⟨#[100,115,116,45,111,117,116]⟩:ByteArray),DV.str (⟨#[115,114,99,45,97,116,111,112]⟩:ByteArray),DV.str (⟨#[100,115,116,45,97,116,111,112]⟩:ByteArray),DV.str (⟨#[120,111,114]⟩:ByteArray)])[op.toNat*1]?=some c)∧True)∧True∧RV.d c=RV.d a)))))∧((decide (op < 1))=(!false)→tU2 (RV.d b=RV.d a))))) ?_
  delta tU2 tU6
  simp only [sS,zZM,zZq,zXD,zXS]
  refine ⟨fun h1=>⟨by decide,fun h2=>?_,fun h2=>⟨⟨by omega,by omega⟩,?_⟩⟩,fun h1=>?_⟩
  ·have h:¬ (1≤op∧op < 13):=by omega
   simp [zQo,h]
  ·have h:1≤op∧op < 13:=by omega
   clear h1 h2
   rcases zYl h with rfl | rfl | rfl | rfl | rfl | rfl | rfl | rfl | rfl | rfl | rfl | rfl <;> exact ⟨rfl,rfl⟩
  ·have h:¬ (1≤op∧op < 13):=by omega
   simp [zQo,h]
theorem zVS (op:Int):Ans prog 69 [rJ (op)] (RV.d (DV.str (zQg op))):=
 zQm (Γ:=jZU) Ann.leaf zQB Tryz.func69 rfl (Nat.le_of_ble_eq_true rfl) fun hwf=>by
  refine Eq.mpr (by kernel_rfl:_=(let a:=(DV.str (zQg op)); let b:=(DV.str (⟨#[]⟩:ByteArray)); let c:=(DV.str (sAt ([DV.str (⟨#[]⟩:ByteArray),DV.str (⟨#[110,111,114,109,97,108]⟩:ByteArray),DV.str (⟨#[109,117,108,116,105,112,108,121]⟩:ByteArray),DV.str (⟨#[115,99,114,101,101,110]⟩:ByteArray),DV.str (⟨#[111,118,101,114,108,97,121]⟩:ByteArray),DV.str (⟨#[100,97,114,107,101,110]⟩:ByteArray),DV.str (⟨#[108,105,103,104,116,101,110]⟩:ByteArray),DV.str (⟨#[99,111,108,111,114,45,100,111,100,103,101]⟩:ByteArray),DV.str (⟨#[99,111,108,111,114,45,98,117,114,110]⟩:ByteArray),DV.str (⟨#[104,97,114,100,45,108,105,103,104,116]⟩:ByteArray),DV.str (⟨#[115,111,102,116,45,108,105,103,104,116]⟩:ByteArray),DV.str (⟨#[100,105,102,102,101,114,101,110,99,101]⟩:ByteArray),DV.str (⟨#[101,120,99,108,117,115,105,111,110]⟩:ByteArray)]) (op.toNat*1))); tU6 (((decide (op < 1))=false→tU2 ((13≤maxLen)∧tU2 (((decide (op≥((13:Nat):Int)))=true→True∧RV.d b=RV.d a)∧((decide (op≥((13:Nat):Int)))=false→tU2 ((0≤op∧op < ((13:Nat):Int))∧((([DV.str (⟨#[]⟩:ByteArray),DV.str (⟨#[110,111,114,109,97,108]⟩:ByteArray),DV.str (⟨#[109,117,108,116,105,112,108,121]⟩:ByteArray),DV.str (⟨#[115,99,114,101,101,110]⟩:ByteArray),DV.str (⟨#[111,118,101,114,108,97,121]⟩:ByteArray),DV.str (⟨#[100,97,114,107,101,110]⟩:ByteArray),DV.str (⟨#[108,105,103,104,116,101,110]⟩:ByteArray),DV.str (⟨#[99,111,108,111,114,45,100,111,100,103,101]⟩:ByteArray),DV.str (⟨#[99,111,108,111,114,45,98,117,114,110]⟩:ByteArray),DV.str (⟨#[104,97,114,100,45,108,105,103,104,116]⟩:ByteArray),DV.str (⟨#[115,111,102,116,45,108,105,103,104,116]⟩:ByteArray),DV.str (⟨#[100,105,102,102,101,114,101,110,99,101]⟩:ByteArray),DV.str (⟨#[101,120,99,108,117,115,105,111,110]⟩:ByteArray)])[op.toNat*1]?=some c)∧True)∧True∧RV.d c=RV.d a)))))∧((decide (op < 1))=(!false)→tU2 (RV.d b=RV.d a))))) ?_
  delta tU2 tU6
  simp only [sS,zZM,zZq,zXD,zXS,zKd]
  refine ⟨fun h1=>⟨by decide,fun h2=>?_,fun h2=>⟨⟨by omega,by omega⟩,?_⟩⟩,fun h1=>?_⟩
  ·have h:¬ (1≤op∧op < 13):=by omega
   simp [zQg,h]
  ·have h:1≤op∧op < 13:=by omega
   clear h1 h2
   rcases zYl h with rfl | rfl | rfl | rfl | rfl | rfl | rfl | rfl | rfl | rfl | rfl | rfl <;> exact ⟨rfl,rfl⟩
  ·have h:¬ (1≤op∧op < 13):=by omega
   simp [zQg,h]
end
def cnt (l:List Rc) (x y:Int):Int:=(l.map fun r=>if r.has x y then (1:Int) else 0).sum
def areas (l:List Rc):Int:=(l.map Rc.area).sum
def us (l:List Int):List DV:=l.map (.int .u16)
theorem jKG (l:List Int):ints (us l)=l:=by simp [ints,us,Function.comp_def]
theorem zJd (l:List Int):(us l).length=l.length:=by simp [us]
theorem jK1 {l:List Int} {k:Nat} (h:k < l.length):(us l)[k]?=some (.int .u16 l[k]):=by simp [us,h]
theorem jZ7 {l:List Int} {k:Nat} (h:k < l.length):nAt (us l) k=l[k]:=by simp [nAt,jK1 h]
theorem jZ8 (l m:List Int):us l++us m=us (l++m):=by simp [us]
def IsU (n:Nat) (xs:List DV):Prop:=xs=us (ints xs)∧n=xs.length
theorem IsU.of {n:Nat} {xs:List DV} (h:IsU n xs):∃ l:List Int,xs=us l∧n=l.length:=by
 refine ⟨ints xs,h.1,?_⟩
 rw [h.2,h.1,zJd,jKG]
theorem jJT {n:Nat} {xs:List DV} (hn:xs.length=n) (hx:∀ (j:Nat) d,xs[j]?=some d→∃ v,d=.int .u16 v):IsU n xs:=by
 refine ⟨?_,hn.symm⟩
 clear hn
 induction xs with
 | nil=>rfl
 | cons x xs ih=>
  obtain ⟨v,rfl⟩:=hx 0 _ rfl
  have:=ih fun j d hj=>hx (j+1) d hj
  simp only [us,ints,List.map_cons] at this ⊢
  rw [← this]
def zQZ (w h:Int):Bool:=decide (1≤w) && decide (1≤h) && decide (w*h≤16777216)
def lenW (w h s:Int):Int:=IntKind.wrap .i64 (IntKind.wrap .i64 (IntKind.wrap .i64 (h - 1)*s)+w)
def zQV (w h s:Int) (n:Nat):Bool:=zQZ w h && decide (w≤s) && decide (s≤16777216) && decide (lenW w h s≤n)
structure Pl where (w h s:Int) (n:Nat) (xs:List DV)
def Pl.none:Pl:=⟨0,0,0,0,[]⟩
def jVz (w h s:Int) (n:Nat) (xs:List DV) (w' h' s':Int) (n':Nat) (xs':List DV):Bool:=decide (w=w') && decide (h=h') && decide (s=s') && decide (n=n') && decide (ints xs=ints xs')
theorem zV9 {w h:Int} (h1:1≤w) (h2:1≤h):(w≤IntKind.wrap .i64 (Int.tdiv 16777216 h))↔w*h≤16777216:=by
 have hd:Int.tdiv 16777216 h=16777216 / h:=Int.tdiv_eq_ediv_of_nonneg (by omega)
 have h3:(0:Int)≤16777216 / h:=Int.ediv_nonneg (by omega) (by omega)
 have h4:(16777216:Int) / h≤16777216:=Int.ediv_le_self _ (by omega)
 rw [hd,IntWalk.i64_in _ ⟨by omega,by omega⟩,Int.le_ediv_iff_mul_le (by omega)]
theorem zZ7 {w h:Int} (hf:zQZ w h=true):1≤w∧1≤h∧w≤16777216∧h≤16777216∧w*h≤16777216:=by
 simp only [zQZ,Bool.and_eq_true,decide_eq_true_eq] at hf
 obtain ⟨⟨h1,h2⟩,h3⟩:=hf
 have e1:w*1≤w*h:=Int.mul_le_mul_of_nonneg_left h2 (by omega)
 have e2:1*h≤w*h:=Int.mul_le_mul_of_nonneg_right h1 (by omega)
 omega
theorem jQj {w h s:Int} (hf:zQZ w h=true) (h1:w≤s) (h2:s≤16777216):lenW w h s=(h - 1)*s+w∧1≤lenW w h s∧lenW w h s≤562949953421312∧0≤(h - 1)*s:=by
 obtain ⟨a,b,c,d,_⟩:=zZ7 hf
 have e:=jJQ (x:=h - 1) (y:=s) (M:=16777216) (by omega) (by omega) (by omega) (by omega)
 unfold lenW
 rw [IntWalk.i64_in (h - 1) ⟨by omega,by omega⟩,IntWalk.i64_in ((h - 1)*s) ⟨by omega,by omega⟩,IntWalk.i64_in _ ⟨by omega,by omega⟩]
 omega
theorem zKf {w h s:Int} {n:Nat} (hv:zQV w h s n=true):1≤w∧1≤h∧w≤16777216∧h≤16777216∧w*h≤16777216∧w≤s∧s≤16777216∧(h - 1)*s+w≤n∧0≤(h - 1)*s:=by
 simp only [zQV,Bool.and_eq_true,decide_eq_true_eq] at hv
 obtain ⟨⟨⟨h1,h2⟩,h3⟩,h4⟩:=hv
 obtain ⟨e1,_,_,e4⟩:=jQj h1 h2 h3
 obtain ⟨a,b,c,d,e⟩:=zZ7 h1
 rw [e1] at h4
 exact ⟨a,b,c,d,e,h2,h3,h4,e4⟩
theorem place {w h s:Int} {n:Nat} {x y:Int} (hv:zQV w h s n=true) (h1:0≤x) (h2:x < w) (h3:0≤y) (h4:y < h):0≤y*s∧y*s+x < n∧y*s+w≤n∧y*s≤281474976710656∧IntKind.wrap .i64 (y*s)=y*s∧IntKind.wrap .i64 (y*s+x)=y*s+x:=by
 obtain ⟨a,b,c,d,e,f,g,i,j⟩:=zKf hv
 have e1:=jJQ (x:=y) (y:=s) (M:=16777216) (by omega) (by omega) (by omega) (by omega)
 have e2:y*s≤(h - 1)*s:=Int.mul_le_mul_of_nonneg_right (by omega) (by omega)
 refine ⟨by omega,by omega,by omega,by omega,IntWalk.i64_in _ ⟨by omega,by omega⟩,IntWalk.i64_in _ ⟨by omega,by omega⟩⟩
theorem idx {s:Int} {y x:Nat} (hs:0≤s):((y:Int)*s+(x:Int)).toNat=y*s.toNat+x:=by
 have e1:((y*s.toNat:Nat):Int)=(y:Int)*s:=by rw [Int.natCast_mul,Int.toNat_of_nonneg hs]
 omega
theorem zJc {k:Nat} (h:k≤9223372036854775806):IntKind.wrap .i64 ((k:Int)+1)=((k+1:Nat):Int):=by rw [IntWalk.i64_in _ ⟨by omega,by omega⟩]; omega
theorem w1_:IntKind.wrap .i64 0=0∧IntKind.wrap .i64 1=1∧IntKind.wrap .i64 2=2∧IntKind.wrap .i64 3=3∧IntKind.wrap .i64 4=4∧IntKind.wrap .i64 5=5∧IntKind.wrap .i64 6=6:=by decide
structure Px where
  a:Int
  b:Int
  c:Int
  al:Int
  f:Int
deriving DecidableEq
def Px.zero:Px:=⟨0,0,0,0,0⟩
def Px.ds (p:Px):List DV:=[.int .u16 p.a,.int .u16 p.b,.int .u16 p.c,.int .u16 p.al,.int .u16 p.f]
def pxs (l:List Px):List DV:=l.flatMap Px.ds
def dI:DV→Int
 | .int _ n=>n
 | _=>0
def zQc:List DV→List Px
 | a::b::c::d::e::r=>⟨dI a,dI b,dI c,dI d,dI e⟩::zQc r
 | _=>[]
theorem zQR:∀ l:List Px,zQc (pxs l)=l
 | []=>rfl
 | p::l=>by
  show zQc (Px.ds p++pxs l)=_
  simp [Px.ds,zQc,dI,zQR l]
theorem zZU (l:List Px):(pxs l).length=l.length*5:=by
 induction l with
 | nil=>rfl
 | cons p l ih=>simp [pxs,Px.ds] at ih ⊢; omega
theorem jQL (p:Px) (l:List Px):pxs (p::l)=Px.ds p++pxs l:=rfl
theorem jZH (l m:List Px):pxs l++pxs m=pxs (l++m):=by simp [pxs]
theorem zUA:∀ {l:List Px} {k:Nat} (h:k < l.length),(pxs l)[k*5]?=some (.int .u16 l[k].a)∧(pxs l)[k*5+1]?=some (.int .u16 l[k].b)∧(pxs l)[k*5+2]?=some (.int .u16 l[k].c)∧(pxs l)[k*5+3]?=some (.int .u16 l[k].al)∧(pxs l)[k*5+4]?=some (.int .u16 l[k].f)
 | p::l,0,_=>by simp [jQL,Px.ds]
 | p::l,k+1,h=>by
  have:=zUA (l:=l) (k:=k) (by simpa using h)
  have e:∀ j,(pxs (p::l))[(k+1)*5+j]?=(pxs l)[k*5+j]?:=fun j=>by
   rw [jQL,List.getElem?_append_right (by simp [Px.ds]; omega)]
   congr 1
   simp [Px.ds]; omega
  have e0:=e 0
  simp only [Nat.add_zero] at e0
  simp only [e,e0,List.getElem_cons_succ]
  exact this
theorem zZm {l:List Px} {k:Nat} (h:k < l.length):nAt (pxs l) (k*5)=l[k].a∧nAt (pxs l) (k*5+1)=l[k].b∧nAt (pxs l) (k*5+2)=l[k].c∧nAt (pxs l) (k*5+3)=l[k].al∧nAt (pxs l) (k*5+4)=l[k].f:=by
 obtain ⟨h1,h2,h3,h4,h5⟩:=zUA h
 simp [nAt,h1,h2,h3,h4,h5]
def zGN (n:Nat) (xs:List DV):Prop:=xs=pxs (zQc xs)∧n=(zQc xs).length
theorem zGN.of {n:Nat} {xs:List DV} (h:zGN n xs):∃ l:List Px,xs=pxs l∧n=l.length:=⟨zQc xs,h.1,h.2⟩
theorem zKW (l:List Px):zGN l.length (pxs l):=⟨by rw [zQR],by rw [zQR]⟩
structure Im where
  w:Int
  h:Int
  so:Bool
  c:Px
  p0:Pl
  p1:Pl
  p2:Pl
  p3:Pl
  p4:Pl
def Im.zero:Im:=⟨0,0,false,.zero,.none,.none,.none,.none,.none⟩
def Pl.isU (p:Pl):Prop:=IsU p.n p.xs
def Im.isU (m:Im):Prop:=m.p0.isU∧m.p1.isU∧m.p2.isU∧m.p3.isU∧m.p4.isU
def zY1 (p:Pl):Bool:=decide (p.w=0) && decide (p.h=0) && decide (p.s=0) && decide (p.n=0)
def okPl (so:Bool) (w h:Int) (p:Pl):Bool:=if so then zY1 p else zQV p.w p.h p.s p.n && decide (p.w=w) && decide (p.h=h)
def Im.inner (m:Im):Bool:=(m.so || decide (m.c=Px.zero)) && (okPl m.so m.w m.h m.p0 && (okPl m.so m.w m.h m.p1 && (okPl m.so m.w m.h m.p2 && (okPl m.so m.w m.h m.p3 && okPl m.so m.w m.h m.p4))))
def Im.formed (m:Im):Bool:=zQZ m.w m.h && m.inner
def Pl.at_ (p:Pl) (x y:Int):Int:=nAt p.xs (y*p.s+x).toNat
def Im.px (m:Im) (x y:Int):Px:=if m.so then m.c else ⟨m.p0.at_ x y,m.p1.at_ x y,m.p2.at_ x y,m.p3.at_ x y,m.p4.at_ x y⟩
def Px.ok (p:Px) (most:Int):Bool:=decide (p.a≤p.al) && (decide (p.b≤p.al) && (decide (p.c≤p.al) && (decide (p.al≤p.f) && decide (p.f≤most))))
def Im.nth (m:Im) (k:Nat):Px:=m.px ((k % m.w.toNat:Nat):Int) ((k / m.w.toNat:Nat):Int)
def Im.count (m:Im):Nat:=m.w.toNat*m.h.toNat
def Im.okTo (m:Im) (most:Int) (k:Nat):Bool:=(List.range k).all fun i=>(m.nth i).ok most
def Im.valid (m:Im) (most:Int):Int:=
 if zQZ m.w m.h=false then 6 else if m.inner=false then 7 else if m.so then (if m.c.ok most then 0 else 8) else if m.okTo most m.count then 0 else 8
def Im.shape (m:Im):Int:=if zQZ m.w m.h=false then 6 else if m.inner=false then 7 else 0
def Im.list (m:Im) (k:Nat):List Px:=(List.range k).map m.nth
def Im.pixels (m:Im):List Px:=if m.formed then m.list m.count else []
def Im.at_ (m:Im) (x y:Int):Px:=if m.formed && decide (0≤x) && decide (x < m.w) && decide (0≤y) && decide (y < m.h) then m.px x y else .zero
def zQf (w h:Int) (c:Px):Im:=⟨w,h,true,c,.none,.none,.none,.none,.none⟩
def chan (l:List Px) (g:Px→Int):List DV:=us (l.map g)
def ofIm (w h:Int) (l:List Px):Im:=
 let q (g:Px→Int):Pl:=⟨w,h,w,l.length,chan l g⟩
 ⟨w,h,false,.zero,q Px.a,q Px.b,q Px.c,q Px.al,q Px.f⟩
def ofOk (w h:Int) (n:Nat):Bool:=zQZ w h && decide ((n:Int)=w*h)
def imOf (w h:Int) (l:List Px):Im:=if ofOk w h l.length then ofIm w h l else .zero
def Im.equal (m n:Im):Bool:=m.formed && n.formed && decide (m.w=n.w) && decide (m.h=n.h) && decide (m.pixels=n.pixels)
theorem zXP {w h s:Int} {n:Nat} {xs:List DV} (hu:IsU n xs) (hv:zQV w h s n=true) {x y:Int} (hx:0≤x∧x < w) (hy:0≤y∧y < h) :
  IntKind.wrap .i64 (IntKind.wrap .i64 (y*s)+x)=y*s+x∧(0≤y*s+x∧y*s+x < n∧(y*s+x).toNat*1 < xs.length)∧xs[(y*s+x).toNat*1]?=some (.int .u16 (nAt xs ((y*s+x).toNat*1))):=by
 obtain ⟨l,rfl,rfl⟩:=hu.of
 have hp:=place hv hx.1 hx.2 hy.1 hy.2
 have hf:=zKf hv
 have h1:0≤y*s:=hp.1
 have h2:y*s+x < l.length:=by exact_mod_cast hp.2.1
 have hy16:y≤16777216:=by omega
 have hs16:s≤16777216:=by omega
 have hb:y*s≤281474976710656:=by
  have:=Int.mul_le_mul hy16 hs16 (by omega) (by omega)
  omega
 have w1:IntKind.wrap .i64 (y*s)=y*s:=IntWalk.i64_in _ ⟨by omega,by omega⟩
 have w2:IntKind.wrap .i64 (y*s+x)=y*s+x:=IntWalk.i64_in _ ⟨by omega,by omega⟩
 rw [w1,w2]
 have hk:(y*s+x).toNat*1 < l.length:=by omega
 refine ⟨rfl,⟨by omega,h2,by rw [zJd]; exact hk⟩,?_⟩
 rw [jK1 hk,jZ7 hk]
theorem Im.inner_planes {m:Im} (h:m.inner=true) (hs:m.so=false):m.c=Px.zero∧(zQV m.p0.w m.p0.h m.p0.s m.p0.n=true∧m.p0.w=m.w∧m.p0.h=m.h)∧(zQV m.p1.w m.p1.h m.p1.s m.p1.n=true∧m.p1.w=m.w∧m.p1.h=m.h) ∧
  (zQV m.p2.w m.p2.h m.p2.s m.p2.n=true∧m.p2.w=m.w∧m.p2.h=m.h)∧(zQV m.p3.w m.p3.h m.p3.s m.p3.n=true∧m.p3.w=m.w∧m.p3.h=m.h)∧(zQV m.p4.w m.p4.h m.p4.s m.p4.n=true∧m.p4.w=m.w∧m.p4.h=m.h):=by
 simp [Im.inner,okPl,hs] at h
 grind
theorem Im.okTo_succ (m:Im) (most:Int) (k:Nat):m.okTo most (k+1)=(m.okTo most k && (m.nth k).ok most):=by
 simp [Im.okTo,List.range_succ,List.all_append]
theorem Im.okTo_le {m:Im} {most:Int} {k n:Nat} (h:k≤n) (hn:m.okTo most n=true):m.okTo most k=true:=by
 simp only [Im.okTo,List.all_eq_true,List.mem_range] at hn ⊢
 exact fun i hi=>hn i (by omega)
theorem Im.shape_zero {m:Im} (h:m.shape=0):zQZ m.w m.h=true∧m.inner=true:=by
 unfold Im.shape at h
 split at h
 ·cases h
 ·split at h
  ·cases h
  ·simp_all
theorem Im.valid_shape {m:Im} (most:Int) (h:m.shape≠0):m.valid most=m.shape:=by
 unfold Im.shape at h ⊢
 unfold Im.valid
 split
 ·rfl
 ·rename_i h1
  rw [if_neg h1] at h
  split
  ·rfl
  ·rename_i h2
   rw [if_neg h2] at h
   exact absurd rfl h
theorem Im.valid_solid {m:Im} {most:Int} (h:m.shape=0) (hs:m.so=true):m.valid most=if m.c.ok most then 0 else 8:=by
 obtain ⟨h1,h2⟩:=Im.shape_zero h
 simp [Im.valid,h1,h2,hs]
theorem Im.valid_planes {m:Im} {most:Int} (h:m.shape=0) (hs:m.so=false):m.valid most=if m.okTo most (m.w.toNat*m.h.toNat) then 0 else 8:=by
 obtain ⟨h1,h2⟩:=Im.shape_zero h
 unfold Im.valid Im.count
 rw [if_neg (by simp [h1]),if_neg (by simp [h2]),if_neg (by simp [hs])]
theorem Im.nth_in {m:Im} (hf:zQZ m.w m.h=true) {k:Nat} (hk:k < m.w.toNat*m.h.toNat):(0≤(((k % m.w.toNat:Nat)):Int)∧(((k % m.w.toNat:Nat)):Int) < m.w)∧(0≤(((k / m.w.toNat:Nat)):Int)∧(((k / m.w.toNat:Nat)):Int) < m.h):=by
 obtain ⟨a,b,c,d,e⟩:=zZ7 hf
 have h1:=Nat.mod_lt k (show 0 < m.w.toNat by omega)
 have h2:k / m.w.toNat < m.h.toNat:=Nat.div_lt_of_lt_mul hk
 generalize k % m.w.toNat=q at *
 generalize k / m.w.toNat=r at *
 omega
theorem Im.count_le {m:Im} (hf:zQZ m.w m.h=true):m.w.toNat*m.h.toNat≤16777216∧((m.w.toNat*m.h.toNat:Nat):Int)=m.w*m.h:=by
 obtain ⟨a,b,c,d,e⟩:=zZ7 hf
 have:((m.w.toNat*m.h.toNat:Nat):Int)=m.w*m.h:=by
  rw [Int.natCast_mul,Int.toNat_of_nonneg (by omega),Int.toNat_of_nonneg (by omega)]
 exact ⟨by omega,this⟩
theorem jQ6 {w h:Int} (hf:zQZ w h=true) (k:Nat) (hk:k < w.toNat*h.toNat):[DV.int .i64 ((k % w.toNat:Nat):Int),DV.int .i64 ((k / w.toNat:Nat):Int)].length=2∧zJI [DV.int .i64 ((k % w.toNat:Nat):Int),DV.int .i64 ((k / w.toNat:Nat):Int)]:=by
 obtain ⟨a,b,c,d,e⟩:=zZ7 hf
 obtain ⟨⟨h1,h2⟩,h3,h4⟩:=Im.nth_in (m:=⟨w,h,true,.zero,.none,.none,.none,.none,.none⟩) hf hk
 have m1:IntKind.min .i64 = -9223372036854775808:=rfl
 have m2:IntKind.max .i64=9223372036854775807:=rfl
 simp only at h1 h2 h3 h4
 generalize k % w.toNat=q at *
 generalize k / w.toNat=r at *
 refine ⟨rfl,⟨?_,?_⟩,⟨?_,?_⟩,trivial⟩ <;> (first | rw [m1] | rw [m2]) <;> omega
theorem Im.list_succ (m:Im) (k:Nat):m.list (k+1)=m.list k++[m.nth k]:=by simp [Im.list,List.range_succ]
theorem Im.list_len (m:Im) (k:Nat):(m.list k).length=k:=by simp [Im.list]
theorem Im.pxs_succ (m:Im) (k:Nat):pxs (m.list k)++Px.ds (m.nth k)=pxs (m.list (k+1)):=by rw [Im.list_succ,← jZH]; simp [pxs]
theorem Im.formed_of {m:Im} (h:m.formed=true):zQZ m.w m.h=true∧m.inner=true:=by simpa [Im.formed] using h
theorem Im.pixels_of {m:Im} (h:m.formed=true):m.pixels=m.list (m.w.toNat*m.h.toNat):=by simp [Im.pixels,h,Im.count]
theorem Im.nth_at {m:Im} {x y:Nat} (hx:x < m.w.toNat):m.nth (y*m.w.toNat+x)=m.px x y:=by
 have hW:0 < m.w.toNat:=by omega
 have e1:(y*m.w.toNat+x) % m.w.toNat=x:=by rw [Nat.add_comm,Nat.add_mul_mod_self_right,Nat.mod_eq_of_lt hx]
 have e2:(y*m.w.toNat+x) / m.w.toNat=y:=by rw [Nat.add_comm,Nat.add_mul_div_right _ _ hW,Nat.div_eq_of_lt hx,Nat.zero_add]
 rw [Im.nth,e1,e2]
theorem jKI {w h x y:Nat} (hx:x < w) (hy:y < h):y*w+x < w*h:=by
 have h1:(y+1)*w≤h*w:=Nat.mul_le_mul_right _ (by omega)
 rw [Nat.mul_comm w,Nat.add_mul] at *
 omega
section
open Go.Lib
def zZa (w:Lb) (l:List Int):Lb:=l.foldl (fun w n=>(if w=[] then [] else w++[32])++itoa n) w
theorem zGr (n:Int) (h : -9223372036854775808≤n∧n≤9223372036854775807):(itoa n).length≤21:=itoa_length_le n h.1 h.2
def zJ0 (p:Lb):List Lb→List Lb
 | w::ws=>(p++w)::ws
 | []=>[p]
def zQn:Lb→List Lb
 | []=>[[]]
 | c::l=>if c=32 then []::zQn l else zJ0 [c] (zQn l)
theorem zYA (l:Lb):zQn l≠[]:=by
 cases l with
 | nil=>simp [zQn]
 | cons c l=>
  rw [zQn]
  split
  ·simp
  ·cases h:zQn l with
   | nil=>simp [zJ0]
   | cons w ws=>simp [zJ0]
theorem jYn (p q:Lb) (ws:List Lb) (h:ws≠[]):zJ0 p (zJ0 q ws)=zJ0 (p++q) ws:=by
 cases ws with
 | nil=>exact absurd rfl h
 | cons w ws=>simp [zJ0]
theorem zHD (ws:List Lb) (h:ws≠[]):zJ0 [] ws=ws:=by
 cases ws with
 | nil=>exact absurd rfl h
 | cons w ws=>rfl
theorem jJv (p:Lb) (ws:List Lb):zJ0 p ([]::ws)=p::ws:=by simp [zJ0]
theorem zJF (l:Lb):(zQn l).length≤l.length+1:=by
 induction l with
 | nil=>simp [zQn]
 | cons c l ih=>
  rw [zQn]
  split
  ·simp; omega
  ·cases h:zQn l with
   | nil=>simp [zJ0]
   | cons w ws=>rw [h] at ih; simp [zJ0] at *; omega
def okN (lo hi:Int) (w:Lb):Bool:=zXZ w && decide (lo≤numV w) && decide (numV w≤hi)
def numR (w:Lb) (lo hi:Int):Int × Bool:=(if zXZ w then numV w else 0,okN lo hi w)
def zZr (ws:List Lb) (lo hi:Int):List Int × Bool:=if ws.all (okN lo hi) then (ws.map numV,true) else ([],false)
def pixW (ws:List Lb):Px × Bool:=
 if ws.all (okN 0 65535) then (match ws.map numV with
  | [a,b,c,d,e]=>(⟨a,b,c,d,e⟩,true)
  | _=>(.zero,false)) else (.zero,false)
def nmR (f:Int→ByteArray) (w:Lb):Int × Bool:=match (List.range 12).find? (fun (j:Nat)=>decide (ofS (f ((j:Int)+1))=w)) with
 | some j=>((j:Int)+1,true)
 | none=>(0,false)
theorem jYj {l:Lb} {k:Nat} (h:k < l.length):dval (l.take (k+1))=dval (l.take k)*10+(l[k].toNat - 48):=by
 rw [List.take_add_one,List.getElem?_eq_getElem h,Option.toList_some,zGw]
 rfl
theorem jKX {l:Lb} {k:Nat} (h:k < l.length):(((((toS l).data.toList[k]?).getD 0).toNat:Nat):Int)=((l[k].toNat:Nat):Int):=by
 rw [zYq,List.getElem?_eq_getElem h]; rfl
theorem jX2 {l:Lb} (h:0 < l.length) (c:UInt8):(((((l[0]?).getD 0).toNat:Nat):Int)==(c.toNat:Int))=decide (l.head?=some c):=by
 cases l with
 | nil=>simp at h
 | cons a l=>
  rw [Bool.eq_iff_iff]
  simp only [List.getElem?_cons_zero,Option.getD_some,beq_iff_eq,List.head?_cons,Option.some.injEq,decide_eq_true_eq]
  constructor
  ·intro e; exact UInt8.toNat_inj.1 (by omega)
  ·intro e; rw [e]
theorem jZ9 (w:Lb):(unsg w).length < w.length↔zYT w=true:=by
 constructor
 ·intro h
  by_cases hn:zYT w=true
  ·exact hn
  ·rw [zUB (by simpa using hn)] at h; omega
 ·intro h
  have:=congrArg List.length (zHh h)
  rw [List.length_cons] at this
  omega
theorem zGm {w:Lb} {lo hi:Int} (h:zXZ w=false):0=(numR w lo hi).1∧false=(numR w lo hi).2:=by simp [numR,okN,h]
theorem jQh {w:Lb} {lo hi:Int} (h:zXZ w=true):numR w lo hi=(numV w,decide (lo≤numV w) && decide (numV w≤hi)):=by simp [numR,okN,h]
theorem jYo {w:Lb} {k:Nat} (h:k < (unsg w).length) (hd:zXG (unsg w)[k]=false):zXZ w=false:=by
 by_cases e:zXZ w=true
 ·obtain ⟨_,_,_,_,h5⟩:=zJT.1 e
  have:=List.all_eq_true.1 h5 _ (List.getElem_mem h)
  rw [hd] at this; cases this
 ·simpa using e
theorem zGB (s:ByteArray) (w:Lb):(s.toList==(toS w).toList)=decide (ofS s=w):=by
 have:=zXn (ofS s) w
 rwa [zKg] at this
theorem zZn {ws:List Lb} {lo hi:Int} (h:ws.all (okN lo hi)=true):zZr ws lo hi=(ws.map numV,true):=by unfold zZr; rw [if_pos h]
theorem zZB {ws:List Lb} {lo hi:Int} (h:ws.all (okN lo hi)=false):zZr ws lo hi=([],false):=by unfold zZr; rw [if_neg (by rw [h]; decide)]
theorem zJ8 {lo hi:Int} {w:Lb} (h:okN lo hi w=true):lo≤numV w∧numV w≤hi:=by
 unfold okN at h
 simp only [Bool.and_eq_true,decide_eq_true_eq] at h
 exact ⟨h.1.2,h.2⟩
theorem zVX {f:Int→ByteArray} {w:Lb} {k:Nat} (h:k < 12) (hk:ofS (f ((k:Int)+1))=w) (hb:∀ j:Nat,j < k→ofS (f ((j:Int)+1))≠w):nmR f w=((k:Int)+1,true):=by
 have:(List.range 12).find? (fun (j:Nat)=>decide (ofS (f ((j:Int)+1))=w))=some k:=by
  rw [List.find?_range_eq_some]
  exact ⟨decide_eq_true hk,List.mem_range.2 h,fun j hj=>by simpa using hb j hj⟩
 unfold nmR
 rw [this]
theorem zVY {f:Int→ByteArray} {w:Lb} (hb:∀ j:Nat,j < 12→ofS (f ((j:Int)+1))≠w):nmR f w=(0,false):=by
 have:(List.range 12).find? (fun (j:Nat)=>decide (ofS (f ((j:Int)+1))=w))=none:=by
  rw [List.find?_range_eq_none]
  intro j hj
  simpa using hb j hj
 unfold nmR
 rw [this]
theorem zWq {a b c d e:Lb} (h:[a,b,c,d,e].all (okN 0 65535)=true):pixW [a,b,c,d,e]=(⟨numV a,numV b,numV c,numV d,numV e⟩,true):=by unfold pixW; rw [if_pos h]; rfl
theorem zVV {ws:List Lb} (h:¬(ws.all (okN 0 65535)=true∧ws.length=5)):pixW ws=(.zero,false):=by
 unfold pixW
 split
 ·rename_i hh
  match ws,h with
  | [],_ | [_],_ | [_,_],_ | [_,_,_],_ | [_,_,_,_],_=>rfl
  | [_,_,_,_,_],h=>exact absurd ⟨hh,rfl⟩ h
  | _::_::_::_::_::_::_,_=>rfl
 ·rfl
end
section
attribute [local irreducible] Ans AnsO AnsG AnsN AnsI
open Go.Lib
theorem jVh {l:List Int} {k:Nat} (h:k < l.length):(is l)[k]?=some (.int .i64 l[k])∧nAt (is l) k=l[k]:=by
 have:(is l)[k]?=some (.int .i64 l[k]):=by simp [is,List.getElem?_eq_getElem h]
 exact ⟨this,by simp [nAt,this]⟩
def jVE:Gam where
 pure:=fun f xs=>
  none
 modes:=fun f=>
  none
 proc:=fun f xs bs=>
  none
 iter:=fun f cs=>
  none
theorem zGG (w:Lb) (hw:w.length≤1099511627776):Ans prog 81 [RV.d (DV.str (toS w))] (RV.d (dS ((zQn (ofS (toS w))).length) (strs (zQn (ofS (toS w)))))):=
 zQm (Γ:=jVE) (Ann.seq Ann.leaf (Ann.seq Ann.leaf (Ann.seq Ann.leaf (Ann.seq (Ann.seq Ann.leaf (Ann.loop ⟨Nat × Nat × List Lb,fun z:Nat × Nat × List Lb=>z.1≤w.length+1∧z.2.1≤z.1∧z.2.2.length≤z.1∧(z.1≤w.length→z.2.2++zJ0 ((w.drop z.2.1).take (z.1 - z.2.1)) (zQn (w.drop z.1))=zQn w)∧(z.1=w.length+1→z.2.2=zQn w),fun z:Nat × Nat × List Lb=>⟨[(0,AV.one (Cl.d (DV.str (toS w)))),(3,AV.one (Cl.ref 9003 z.2.2.length)),(4,aJ (z.2.1:Int)),(5,aJ (z.1:Int))],[(9003,Bx.row 9 1 (strs z.2.2))]⟩,fun z:Nat × Nat × List Lb=>w.length+1 - z.1⟩ fun z=>Ann.leaf)) Ann.leaf)))) zQB Tryz.func81 rfl (Nat.le_of_ble_eq_true rfl) fun hwf=>by
  refine Eq.mpr (by kernel_rfl:_=(let a:=(((toS w).size:Nat):Int); let e:=fun (z:Nat × Nat × List Lb)=>(z.1≤w.length+1∧z.2.1≤z.1∧z.2.2.length≤z.1∧(z.1≤w.length→z.2.2++zJ0 ((w.drop z.2.1).take (z.1 - z.2.1)) (zQn (w.drop z.1))=zQn w)∧(z.1=w.length+1→z.2.2=zQn w)); let b:=(DV.str (toS w)=DV.str (toS w)); let f:=fun (z:Nat × Nat × List Lb)=>(0≤(z.2.1:Int)∧(z.2.1:Int)≤(z.1:Int)∧(z.1:Int)≤a); let c:=fun (z':Nat × Nat × List Lb)=>(z'.1≤w.length+1∧z'.2.1≤z'.1∧z'.2.2.length≤z'.1∧(z'.1≤w.length→z'.2.2++zJ0 ((w.drop z'.2.1).take (z'.1 - z'.2.1)) (zQn (w.drop z'.1))=zQn w)∧(z'.1=w.length+1→z'.2.2=zQn w)); let d:=fun (z:Nat × Nat × List Lb)=>fun (z':Nat × Nat × List Lb)=>(w.length+1 - z'.1 < w.length+1 - z.1); let g:=fun (z:Nat × Nat × List Lb)=>fun (z':Nat × Nat × List Lb)=>(dJ (wK ((z.1:Int)+1))=dJ (z'.1:Int)); let h:=fun (z:Nat × Nat × List Lb)=>fun (z':Nat × Nat × List Lb)=>((b∧(z.2.2.length+1=z'.2.2.length)∧(dJ (wK ((z.1:Int)+1))=dJ (z'.2.1:Int))∧(g z z')∧True)∧(((strs z.2.2)++([DV.str (ByteArray.extract (toS w) (z.2.1:Int).toNat (z.1:Int).toNat)])=strs z'.2.2)∧True)); tU4 ((∃ z:Nat × Nat × List Lb,(e z)∧((b∧(0=z.2.2.length)∧(dJ 0=dJ (z.2.1:Int))∧(dJ 0=dJ (z.1:Int))∧True)∧(([]=strs z.2.2)∧True)))∧∀ z:Nat × Nat × List Lb,let i:=(decide ((z.1:Int)≤a)); let j:=(((((toS w).data.toList[(z.1:Int).toNat]?.getD 0).toNat:Nat):Int)==32); let k:=(zZW 1 16 z.2.2.length 1 (strs z.2.2) ([DV.str (ByteArray.extract (toS w) (z.2.1:Int).toNat (z.1:Int).toNat)])); (e z)→tU4 ((i=true→tU5 ((((z.1:Int)==a)=false→tU2 ((0≤(z.1:Int)∧(z.1:Int) < a)∧tU2 ((j=true→tU4 ((f z)∧True∧k∧tU7 (∃ z':Nat × Nat × List Lb,(c z')∧(d z z')∧(h z z'))))∧(j=false→tU3 (∃ z':Nat × Nat × List Lb,(c z')∧(d z z')∧((b∧(z.2.2.length=z'.2.2.length)∧(dJ (z.2.1:Int)=dJ (z'.2.1:Int))∧(g z z')∧True)∧((strs z.2.2=strs z'.2.2)∧True)))))))∧(((z.1:Int)==a)=(!false)→tU5 ((f z)∧True∧k∧tU7 (∃ z':Nat × Nat × List Lb,(c z')∧(d z z')∧(h z z'))))))∧(i=false→tU2 (RV.d (dS z.2.2.length (strs z.2.2))=RV.d (dS (zQn (ofS (toS w))).length (strs (zQn (ofS (toS w))))))))))) ?_
  delta tU2 tU3 tU4 tU5 tU7 dJ wK dS
  simp only [sS]
  clear hwf
  have hM:∀ k:Nat,k≤1099511627800→k≤maxLen:=fun k h=>by unfold maxLen; omega
  simp only [zQL,DV.str.injEq,zQY]
  have cut:∀ a b:Nat,(toS w).extract a b=toS ((w.drop a).take (b - a)):=fun a b=>zGx w a b
  have w1:∀ k:Nat,k≤1099511627780→IntKind.wrap .i64 ((k:Int)+1)=((k+1:Nat):Int):=fun k h=>by rw [IntWalk.i64_in _ ⟨by omega,by omega⟩]; omega
  refine ⟨⟨(0,0,[]),⟨Nat.zero_le _,Nat.le_refl _,Nat.le_refl _,fun _=>?_,fun h=>absurd h (by simp)⟩,⟨rfl,rfl,rfl⟩,rfl⟩,fun z hz=>⟨fun hle=>⟨fun h1=>?_,fun h1=>?_⟩,fun hgt=>?_⟩⟩
  ·simp only [List.drop_zero,Nat.sub_self,List.take_zero,List.nil_append]
   exact zHD _ (zYA w)
  ·obtain ⟨i,fr,out⟩:=z
   obtain ⟨z1,z2,z3,z4,z5⟩:=hz
   simp only at *
   have hi:i < w.length:=by
    have h1:¬ (i:Int)=(w.length:Int):=by simpa using h1
    omega
   have hd:=z4 (by omega)
   rw [List.drop_eq_getElem_cons hi,zQn] at hd
   have hc:(((toS w).data.toList[i]?.getD 0).toNat:Int)=((w[i].toNat:Nat):Int):=jKX hi
   have c32:(((w[i].toNat:Nat):Int)==32)=decide (w[i]=32):=by
    rw [Bool.eq_iff_iff]
    simp only [beq_iff_eq,decide_eq_true_eq]
    constructor
    ·intro h; exact UInt8.toNat_inj.1 (by have:(32:UInt8).toNat=32:=rfl; omega)
    ·intro h; rw [h]; rfl
   simp only [hc,c32,w1 i (by omega),cut,Int.toNat_natCast]
   refine ⟨⟨by omega,by omega⟩,fun h2=>?_,fun h2=>?_⟩
   ·have h2:w[i]=32:=by simpa using h2
    rw [if_pos h2,jJv] at hd
    refine ⟨⟨by omega,by omega,by omega⟩,⟨by rw [zQ5]; omega,rfl,hM _ (by omega),by omega⟩,(i+1,i+1,out++[(w.drop fr).take (i - fr)]),⟨by simp only; omega,Nat.le_refl _,by simp only [List.length_append,List.length_cons,List.length_nil]; omega,fun h=>?_,fun h=>absurd h (by simp only; omega)⟩,by simp only; omega,⟨by simp,rfl,rfl⟩,by rw [zVT]; rfl⟩
    simp only [Nat.sub_self,List.take_zero]
    rw [zHD _ (zYA _),List.append_assoc]
    exact hd
   ·have h2:¬ w[i]=32:=by simpa using h2
    rw [if_neg h2,jYn _ _ _ (zYA _)] at hd
    refine ⟨(i+1,fr,out),⟨by simp only; omega,by simp only; omega,by simp only; omega,fun h=>?_,fun h=>absurd h (by simp only; omega)⟩,by simp only; omega,⟨rfl,rfl,rfl⟩,rfl⟩
    simp only
    have e:(w.drop fr).take (i+1 - fr)=(w.drop fr).take (i - fr)++[w[i]]:=by
     rw [show i+1 - fr=(i - fr)+1 by omega,List.take_add_one,List.getElem?_drop,show fr+(i - fr)=i by omega,List.getElem?_eq_getElem hi]
     rfl
    rw [e]; exact hd
  ·obtain ⟨i,fr,out⟩:=z
   obtain ⟨z1,z2,z3,z4,z5⟩:=hz
   simp only at *
   have hi:i=w.length:=by
    have h1:(i:Int)=(w.length:Int):=by simpa using h1
    omega
   subst hi
   have hd:=z4 (Nat.le_refl _)
   rw [List.drop_length,zQn,zJ0,List.append_nil] at hd
   simp only [w1 w.length (by omega),cut,Int.toNat_natCast]
   refine ⟨⟨by omega,by omega,by omega⟩,⟨by rw [zQ5]; omega,rfl,hM _ (by omega),by omega⟩,(w.length+1,w.length+1,out++[(w.drop fr).take (w.length - fr)]),⟨Nat.le_refl _,Nat.le_refl _,by simp only [List.length_append,List.length_cons,List.length_nil]; omega,fun h=>absurd h (by simp only; omega),fun _=>hd⟩,by simp only; omega,⟨by simp,rfl,rfl⟩,by rw [zVT]; rfl⟩
  ·obtain ⟨i,fr,out⟩:=z
   obtain ⟨z1,z2,z3,z4,z5⟩:=hz
   simp only at *
   rw [z5 (by omega)]
   exact ⟨rfl,rfl⟩
def gZ3 (xs:List RV):Option RV:=match xs with | [.d (.str s),.d (.int _ lo),.d (.int _ hi)]=>some (RV.tup [rJ (numR (ofS s) lo hi).1,RV.d (dQ (numR (ofS s) lo hi).2)]) | _=>none
def gZ4 (xs:List RV):Option RV:=match xs with | [.d (.sl wn wxs),.d (.int _ lo),.d (.int _ hi)]=>let a:=(zZr (zQb wxs) lo hi); some (RV.tup [RV.d (dS a.1.length (is a.1)),RV.d (dQ a.2)]) | _=>none
def jQq:Gam where
 pure:=fun f xs=>
  if f=118 then gZ3 xs else
  if f=117 then gZ4 xs else
  if f=68 then gZ0 xs else
  if f=69 then gZ2 xs else
  none
 modes:=fun f=>
  none
 proc:=fun f xs bs=>
  none
 iter:=fun f cs=>
  none
theorem zXT (w:Lb) (lo hi:Int):Ans prog 118 [RV.d (DV.str (toS w)),rJ (lo),rJ (hi)] (RV.tup [rJ (((numR (ofS (toS w)) lo hi).1)),RV.d (dQ ((numR (ofS (toS w)) lo hi).2))]):=
 zQm (Γ:=jQq) (let a:=(0,AV.one (Cl.d (DV.str (toS w)))); let b:=(1,aJ lo); let c:=(2,aJ hi); let d:=(8,AV.one (Cl.d (DV.str (toS (unsg w))))); (Ann.seq Ann.leaf (Ann.seq Ann.leaf (Ann.cut ⟨Nat,fun u=>u=0,fun u=>⟨[a,b,c,d],[]⟩,fun u=>0⟩ Ann.leaf fun u=>(Ann.cut ⟨Nat,fun v=>v=0∧unsg w≠[]∧(unsg w).length≤10∧¬(1 < (unsg w).length∧(unsg w).head?=some 48)∧w≠[45,48],fun v=>⟨[a,b,c,d],[]⟩,fun v=>0⟩ Ann.leaf fun v=>(Ann.seq Ann.leaf (Ann.seq (Ann.seq Ann.leaf (Ann.loop ⟨Nat,fun k=>k≤(unsg w).length∧((unsg w).take k).all zXG=true,fun k=>⟨[a,b,c,d,(9,aJ ((dval ((unsg w).take k):Nat):Int)),(10,aJ (k:Int))],[]⟩,fun k=>(unsg w).length - k⟩ fun k=>Ann.leaf)) Ann.leaf))))))) zQB Tryz.func118 rfl (Nat.le_of_ble_eq_true rfl) fun hwf=>by
  refine Eq.mpr (by kernel_rfl:_=(let q:=(((((toS w).data.toList[(0:Int).toNat]?.getD 0).toNat:Nat):Int)==45); let c:=(toS (unsg w)); let r:=((((c.data.toList[(0:Int).toNat]?.getD 0).toNat:Nat):Int)==48); let b:=(((toS w).size:Nat):Int); let a:=((c.size:Nat):Int); let s:=(decide (a < b)); let m:=((toS w).toList==(⟨#[45,48]⟩:ByteArray).toList); let f:=(DV.str (toS w)=DV.str (toS w)); let g:=(dJ lo=dJ lo); let h:=(dJ hi=dJ hi); let t:=((f∧g∧h∧(DV.str (toS w)=DV.str c)∧True)∧True); let A:=[rJ 0,RV.d (dQ false)]; let i:=[rJ (numR (ofS (toS w)) lo hi).1,RV.d (dQ (numR (ofS (toS w)) lo hi).2)]; let d:=(RV.tup A=RV.tup i); let n:=fun (v:Nat)=>(v=0∧unsg w≠[]∧(unsg w).length≤10∧¬(1 < (unsg w).length∧(unsg w).head?=some 48)∧w≠[45,48]); let o:=(DV.str c=DV.str c); let x:=((f∧g∧h∧o∧True)∧True); let y:=fun (k:Nat)=>(k≤(unsg w).length∧((unsg w).take k).all zXG=true); let p:=fun (k:Nat)=>(0≤(k:Int)∧(k:Int) < a); tU4 ((tU4 (((decide (b > 0))=true→True∧(0≤(0:Int)∧(0:Int) < b)∧tU2 ((q=true→True∧(0≤(1:Int)∧(1:Int)≤b∧b≤b)∧True∧∃ u:Nat,(u=0)∧((f∧g∧h∧(DV.str (ByteArray.extract (toS w) (1:Int).toNat b.toNat)=DV.str c)∧True)∧True))∧(q=false→∃ u:Nat,(u=0)∧t)))∧((decide (b > 0))=(!true)→True∧∃ u:Nat,(u=0)∧t)))∧∀ u:Nat,(u=0)→(tU4 (((decide (a < 1))=false→tU5 (((decide (a > 10))=false→tU4 (((decide (a > 1))=true→True∧(0≤(0:Int)∧(0:Int) < a)∧tU4 ((r=false→tU3 ((m=true→tU2 d)∧(m=false→∃ v:Nat,(n v)∧x)))∧(r=(!false)→tU3 d)))∧((decide (a > 1))=(!true)→tU6 ((m=true→tU2 d)∧(m=false→∃ v:Nat,(n v)∧x)))))∧((decide (a > 10))=(!false)→tU5 d)))∧((decide (a < 1))=(!false)→tU7 d)))∧∀ v:Nat,(n v)→tU2 ((∃ k:Nat,(y k)∧((f∧g∧h∧o∧(dJ 0=dJ ((dval ((unsg w).take k):Nat):Int))∧(dJ 0=dJ (k:Int))∧True)∧True))∧∀ k:Nat,let z:=(decide ((k:Int) < a)); let j:=(((c.data.toList[(k:Int).toNat]?.getD 0).toNat:Nat):Int); let e:=((dval ((unsg w).take k):Nat):Int); let l:=(wK (0 - e)); (y k)→tU4 ((z=true→tU2 ((p k)∧tU2 (((decide (j < 48))=false→tU2 ((p k)∧tU2 (((decide (j > 57))=true→tU2 d)∧((decide (j > 57))=false→tU4 ((p k)∧tU7 (∃ k':Nat,(k'≤(unsg w).length∧((unsg w).take k').all zXG=true)∧((unsg w).length - k' < (unsg w).length - k)∧((f∧g∧h∧o∧(dJ (wK ((wK (e*10))+(wK (IntKind.wrap .u8 (j - 48)))))=dJ ((dval ((unsg w).take k'):Nat):Int))∧(dJ (wK ((k:Int)+1))=dJ (k':Int))∧True)∧True)))))))∧((decide (j < 48))=(!false)→tU3 d))))∧(z=false→tU5 ((s=true→tU8 (((decide (l≥lo))=true→tU6 (RV.tup [rJ l,RV.d (dQ (decide (l≤hi)))]=RV.tup i))∧((decide (l≥lo))=(!true)→tU3 (RV.tup [rJ l,RV.d (dQ false)]=RV.tup i))))∧(s=false→tU5 (((decide (e≥lo))=true→tU6 (RV.tup [rJ e,RV.d (dQ (decide (e≤hi)))]=RV.tup i))∧((decide (e≥lo))=(!true)→tU3 (RV.tup [rJ e,RV.d (dQ false)]=RV.tup i))))))))))) ?_
  delta tU2 tU3 tU4 tU5 tU6 tU7 tU8 dJ dQ wK rJ
  simp only [sS]
  clear hwf
  have cn:=zJT (w:=w)
  have nb:¬(unsg w≠[]∧(unsg w).length≤10∧¬(1 < (unsg w).length∧(unsg w).head?=some 48)∧w≠[45,48]∧(unsg w).all zXG=true)→0=(numR w lo hi).1∧false=(numR w lo hi).2:=fun h=>zGm (by
   by_cases e:zXZ w=true
   ·exact absurd (cn.1 e) h
   ·simpa using e)
  have lw:(⟨#[45,48]⟩:ByteArray)=toS [45,48]:=rfl
  have h45:∀ l:Lb,0 < l.length→(((((l[0]?).getD 0).toNat:Nat):Int)==45)=decide (l.head?=some 45):=fun l h=>jX2 h 45
  have h48:∀ l:Lb,0 < l.length→(((((l[0]?).getD 0).toNat:Nat):Int)==48)=decide (l.head?=some 48):=fun l h=>jX2 h 48
  have cut:(toS w).extract 1 w.length=toS (w.drop 1):=by rw [zGx,List.take_of_length_le (by simp)]
  have t0:Int.toNat 0=0:=rfl
  have t1:Int.toNat 1=1:=rfl
  simp only [zQL,zQY,DV.str.injEq,lw,zXn,zYq,t0,t1,cut]
  refine ⟨⟨fun h0=>⟨⟨by omega,by omega⟩,fun h1=>⟨⟨by omega,by omega,by omega⟩,0,rfl,?_⟩,fun h1=>⟨0,rfl,?_⟩⟩,fun h0=>⟨0,rfl,?_⟩⟩,fun u _=>⟨⟨fun g1=>⟨fun g2=>⟨fun g3=>⟨⟨by omega,by omega⟩,fun g4=>⟨fun g5=>?_,fun g5=>⟨0,rfl,?_⟩⟩,fun g4=>?_⟩,fun g3=>⟨fun g5=>?_,fun g5=>⟨0,rfl,?_⟩⟩⟩,fun g2=>?_⟩,fun g1=>?_⟩,fun v hv=>?_⟩⟩
  ·rw [h45 w (by omega)] at h1
   have hn:zYT w=true:=h1
   refine jJW ?_
   have e:=zHh hn
   conv=>lhs; rw [e]
   rfl
  ·rw [h45 w (by omega)] at h1
   exact jJW (zUB (show zYT w=false from h1)).symm
  ·have:w=[]:=List.length_eq_zero_iff.1 (by omega)
   subst this; rfl
  ·exact nb fun h=>h.2.2.2.1 (by simpa using g5)
  ·rw [h48 _ (by omega)] at g4
   exact ⟨fun e=>by rw [e] at g1; simp at g1,by omega,fun h=>by simp [h.2] at g4,by simpa using g5⟩
  ·rw [h48 _ (by omega)] at g4
   exact nb fun h=>h.2.2.1 ⟨by omega,by simpa using g4⟩
  ·exact nb fun h=>h.2.2.2.1 (by simpa using g5)
  ·exact ⟨fun e=>by rw [e] at g1; simp at g1,by omega,fun h=>by omega,by simpa using g5⟩
  ·exact nb fun h=>by omega
  ·exact nb fun h=>by
    have:=List.length_pos_iff.2 h.1
    omega
  ·obtain ⟨_,v1,v2,v3,v4⟩:=hv
   refine ⟨⟨0,⟨Nat.zero_le _,by simp⟩,by simp [dval],rfl⟩,fun k hk=>⟨fun hlt=>?_,fun hge=>?_⟩⟩
   ·obtain ⟨k1,k2⟩:=hk
    have hkl:k < (unsg w).length:=by omega
    have w1:IntKind.wrap .i64 ((k:Int)+1)=((k+1:Nat):Int):=by rw [IntWalk.i64_in _ ⟨by omega,by omega⟩]; omega
    have hb:((unsg w)[k]?).getD 0=(unsg w)[k]:=by rw [List.getElem?_eq_getElem hkl]; rfl
    have hbd:=(unsg w)[k].toNat_lt
    have hdv:=zWX (l:=(unsg w).take k) k2 (by rw [List.length_take]; omega)
    have hdt:=jYj hkl
    have hcd:=jYo hkl
    have htk:((unsg w).take (k+1)).all zXG=(((unsg w).take k).all zXG && zXG (unsg w)[k]):=by
     rw [List.take_add_one,List.getElem?_eq_getElem hkl,Option.toList_some,List.all_append]
     simp
    simp only [hb,w1]
    generalize (unsg w)[k]=c at *
    refine ⟨⟨by omega,by omega⟩,fun g1=>⟨⟨by omega,by omega⟩,fun g2=>?_,fun g2=>⟨⟨by omega,by omega⟩,k+1,⟨by omega,?_⟩,by omega,?_,rfl⟩⟩,fun g1=>?_⟩
    ·exact zGm (hcd (by unfold zXG; simp; omega))
    ·rw [htk,k2]; unfold zXG; simp; omega
    ·have e8:IntKind.wrap .u8 ((c.toNat:Int) - 48)=((c.toNat - 48:Nat):Int):=by
      simp [IntKind.wrap,IntKind.bits,IntKind.signed]; omega
     rw [e8,hdt,IntWalk.i64_in (((c.toNat - 48:Nat):Int)) ⟨by omega,by omega⟩,IntWalk.i64_in (((dval ((unsg w).take k):Nat):Int)*10) ⟨by omega,by omega⟩,IntWalk.i64_in _ ⟨by omega,by omega⟩]
     omega
    ·exact zGm (hcd (by unfold zXG; simp; omega))
   ·obtain ⟨k1,k2⟩:=hk
    have hkl:k=(unsg w).length:=by omega
    subst hkl
    rw [List.take_length] at k2 ⊢
    have hcn:=cn.2 ⟨v1,v2,v3,v4,k2⟩
    have hdv:=zWX k2 v2
    have hnv:numV w=if zYT w=true then -((dval (unsg w):Nat):Int) else ((dval (unsg w):Nat):Int):=rfl
    have hus:=jZ9 w
    rw [jQh hcn,IntWalk.i64_in (0 - ((dval (unsg w):Nat):Int)) ⟨by omega,by omega⟩]
    refine ⟨fun g=>?_,fun g=>?_⟩
    ·rw [if_pos (hus.1 (by omega))] at hnv
     rw [hnv]
     refine ⟨fun h=>⟨by omega,?_⟩,fun h=>⟨by omega,?_⟩⟩
     ·rw [decide_eq_true (by omega:lo ≤ -((dval (unsg w):Nat):Int)),Bool.true_and,Int.zero_sub]
     ·rw [decide_eq_false (by omega:¬ lo ≤ -((dval (unsg w):Nat):Int)),Bool.false_and]
    ·rw [if_neg (fun h=>g (by have:=hus.2 h; omega))] at hnv
     rw [hnv]
     refine ⟨fun h=>⟨rfl,?_⟩,fun h=>⟨rfl,?_⟩⟩
     ·rw [decide_eq_true (by omega:lo≤((dval (unsg w):Nat):Int)),Bool.true_and]
     ·rw [decide_eq_false (by omega:¬ lo≤((dval (unsg w):Nat):Int)),Bool.false_and]
theorem zZP (ws:List Lb) (lo hi:Int) (hl:ws.length≤68719476736):Ans prog 117 [RV.d (dS ws.length (strs ws)),rJ (lo),rJ (hi)] (RV.tup [RV.d (dS ((zZr (zQb (strs ws)) lo hi).1.length) (is (zZr (zQb (strs ws)) lo hi).1)),RV.d (dQ ((zZr (zQb (strs ws)) lo hi).2))]):=
 zQm (Γ:=jQq) (Ann.seq Ann.leaf (Ann.seq Ann.leaf (Ann.seq (Ann.seq Ann.leaf (Ann.loop ⟨Nat,fun k=>k≤ws.length∧(ws.take k).all (okN lo hi)=true,fun k=>⟨[(0,AV.one (Cl.d (dS ws.length (strs ws)))),(1,aJ lo),(2,aJ hi),(8,AV.one (Cl.ref 9008 ((ws.take k).map numV).length)),(9,aJ (k:Int))],[(9008,Bx.row 3 1 (is ((ws.take k).map numV)))]⟩,fun k=>ws.length - k⟩ fun k=>Ann.leaf)) Ann.leaf))) zQB Tryz.func117 rfl (Nat.le_of_ble_eq_true rfl) fun hwf=>by
  refine Eq.mpr (by kernel_rfl:_=(let c:=(zZr (zQb (strs ws)) lo hi); let e:=fun (k:Nat)=>(k≤ws.length∧(ws.take k).all (okN lo hi)=true); let f:=(dS ws.length (strs ws)=dS ws.length (strs ws)); let g:=(dJ lo=dJ lo); let h:=(dJ hi=dJ hi); let i:=[RV.d (dS c.1.length (is c.1)),RV.d (dQ c.2)]; tU4 ((∃ k:Nat,(e k)∧((f∧g∧h∧(0=((ws.take k).map numV).length)∧(dJ 0=dJ (k:Int))∧True)∧(([]=is ((ws.take k).map numV))∧True)))∧∀ k:Nat,let j:=(decide ((k:Int) < (ws.length:Int))); let a:=((ws.take k).map numV); let d:=(sAt (strs ws) ((k:Int).toNat*1)); let b:=(numR (ofS d) lo hi); (e k)→tU4 ((j=true→tU2 ((0≤(k:Int)∧(k:Int) < (ws.length:Int)∧(k:Int).toNat*1 < (strs ws).length)∧(((strs ws)[(k:Int).toNat*1]?=some (DV.str d))∧True)∧tU2 ((Ans prog 118 [RV.d (DV.str d),rJ lo,rJ hi] (RV.tup [rJ b.1,RV.d (dQ b.2)]))∧tU7 (((!b.2)=true→tU2 (RV.tup [RV.d (dS 0 ([])),RV.d (dQ false)]=RV.tup i))∧((!b.2)=false→tU3 ((zZW 1 8 a.length 1 (is a) ([dJ b.1]))∧tU4 (∃ k':Nat,(k'≤ws.length∧(ws.take k').all (okN lo hi)=true)∧(ws.length - k' < ws.length - k)∧((f∧g∧h∧(a.length+1=((ws.take k').map numV).length)∧(dJ (wK ((k:Int)+1))=dJ (k':Int))∧True)∧(((is a)++([dJ b.1])=is ((ws.take k').map numV))∧True)))))))))∧(j=false→tU3 (RV.tup [RV.d (dS a.length (is a)),RV.d (dQ true)]=RV.tup i)))))) ?_
  delta tU2 tU3 tU4 tU7 dJ dQ wK dS rJ
  simp only [sS]
  have hM:∀ k:Nat,k≤1099511627776→k≤maxLen:=fun k h=>by unfold maxLen; omega
  clear hwf
  simp only [zQv]
  refine ⟨⟨0,⟨Nat.zero_le _,rfl⟩,⟨rfl,rfl⟩,rfl⟩,fun k hk=>⟨fun hlt=>?_,fun hge=>?_⟩⟩
  ·obtain ⟨k1,k2⟩:=hk
   have hkl:k < ws.length:=by omega
   obtain ⟨q1,q2⟩:=zV6 hkl
   have aN:=zXT ws[k] lo hi
   have w1:IntKind.wrap .i64 ((k:Int)+1)=((k+1:Nat):Int):=by rw [IntWalk.i64_in _ ⟨by omega,by omega⟩]; omega
   have h2:(numR ws[k] lo hi).2=okN lo hi ws[k]:=rfl
   have hml:((ws.take k).map numV).length=k:=by rw [List.length_map,List.length_take]; omega
   have htk:ws.take (k+1)=ws.take k++[ws[k]]:=by rw [List.take_add_one,List.getElem?_eq_getElem hkl]; rfl
   simp only [Nat.mul_one,q2,zQL,w1,h2] at aN ⊢
   refine ⟨⟨by omega,by omega,by rw [zQ5]; omega⟩,q1,aN,fun h=>?_,fun h=>⟨⟨by rw [zXe,Nat.mul_one],rfl,hM _ (by omega),by omega⟩,k+1,⟨by omega,?_⟩,by omega,⟨?_,rfl⟩,?_⟩⟩
   ·rw [zZB]
    ·exact ⟨⟨rfl,rfl⟩,rfl⟩
    ·rw [List.all_eq_false]
     exact ⟨_,List.getElem_mem hkl,by rw [h]; decide⟩
   ·rw [htk,List.all_append,k2]; simp [h]
   ·rw [htk,List.map_append,List.length_append]; rfl
   ·have hc:zXZ ws[k]=true:=by
     unfold okN at h
     simp only [Bool.and_eq_true] at h
     exact h.1.1
    rw [htk,jQh hc,List.map_append]
    unfold is
    rw [List.map_append]
    rfl
  ·obtain ⟨k1,k2⟩:=hk
   have hkl:k=ws.length:=by omega
   subst hkl
   rw [List.take_length] at k2 ⊢
   rw [zZn k2]
   exact ⟨⟨rfl,rfl⟩,rfl⟩
theorem zX1 (ws:List Lb) (hl:ws.length≤68719476736):Ans prog 119 [RV.d (dS ws.length (strs ws))] (RV.tup [RV.d (dS ((zZr (zQb (strs ws)) (-2147483648) 2147483647).1.length) (is (zZr (zQb (strs ws)) (-2147483648) 2147483647).1)),RV.d (dQ ((zZr (zQb (strs ws)) (-2147483648) 2147483647).2))]):=
 zQm (Γ:=jQq) Ann.leaf zQB Tryz.func119 rfl (Nat.le_of_ble_eq_true rfl) fun hwf=>by
  refine Eq.mpr (by kernel_rfl:_=(let a:=(zZr (zQb (strs ws)) (-2147483648) 2147483647); let b:=(zZr (zQb (strs ws)) (-2147483648:Int) (2147483647:Int)); let c:=[RV.d (dS b.1.length (is b.1)),RV.d (dQ b.2)]; tU3 ((Ans prog 117 [RV.d (dS ws.length (strs ws)),rJ (-2147483648:Int),rJ 2147483647] (RV.tup c))∧tU4 (RV.tup c=RV.tup [RV.d (dS a.1.length (is a.1)),RV.d (dQ a.2)])))) ?_
  delta tU3 tU4 dQ dS rJ
  simp only [sS]
  exact zZP ws _ _ hl
theorem zYs (ws:List Lb) (hl:ws.length≤68719476736):Ans prog 84 [RV.d (dS ws.length (strs ws))] (RV.tup [RV.d (dS ((zZr (zQb (strs ws)) 0 4294967295).1.length) (is (zZr (zQb (strs ws)) 0 4294967295).1)),RV.d (dQ ((zZr (zQb (strs ws)) 0 4294967295).2))]):=
 zQm (Γ:=jQq) Ann.leaf zQB Tryz.func84 rfl (Nat.le_of_ble_eq_true rfl) fun hwf=>by
  refine Eq.mpr (by kernel_rfl:_=(let a:=(zZr (zQb (strs ws)) 0 4294967295); let b:=(zZr (zQb (strs ws)) (0:Int) (4294967295:Int)); let c:=[RV.d (dS b.1.length (is b.1)),RV.d (dQ b.2)]; tU3 ((Ans prog 117 [RV.d (dS ws.length (strs ws)),rJ 0,rJ 4294967295] (RV.tup c))∧tU4 (RV.tup c=RV.tup [RV.d (dS a.1.length (is a.1)),RV.d (dQ a.2)])))) ?_
  delta tU3 tU4 dQ dS rJ
  simp only [sS]
  exact zZP ws _ _ hl
theorem zJC (ws:List Lb) (hl:ws.length≤68719476736):Ans prog 82 [RV.d (dS ws.length (strs ws))] (RV.tup [RV.agg [dK ((pixW (zQb (strs ws))).1.a),dK ((pixW (zQb (strs ws))).1.b),dK ((pixW (zQb (strs ws))).1.c),dK ((pixW (zQb (strs ws))).1.al),dK ((pixW (zQb (strs ws))).1.f)],RV.d (dQ ((pixW (zQb (strs ws))).2))]):=
 zQm (Γ:=jQq) Ann.leaf zQB Tryz.func82 rfl (Nat.le_of_ble_eq_true rfl) fun hwf=>by
  refine Eq.mpr (by kernel_rfl:_=(let c:=(pixW (zQb (strs ws))); let a:=(zZr (zQb (strs ws)) (0:Int) (65535:Int)); let b:=(a.1.length:Int); let e:=[RV.agg [dK 0,dK 0,dK 0,dK 0,dK 0],RV.d (dQ false)]; let d:=[RV.agg [dK c.1.a,dK c.1.b,dK c.1.c,dK c.1.al,dK c.1.f],RV.d (dQ c.2)]; tU3 ((Ans prog 117 [RV.d (dS ws.length (strs ws)),rJ 0,rJ 65535] (RV.tup [RV.d (dS a.1.length (is a.1)),RV.d (dQ a.2)]))∧tU8 (((!a.2)=false→tU4 (((b != 5)=true→tU3 (RV.tup e=RV.tup d))∧((b != 5)=false→True∧(0≤(0:Int)∧(0:Int) < b∧0 < (is a.1).length)∧(((is a.1)[0]?=some (dJ (nAt (is a.1) 0)))∧True)∧tU2 ((0≤(1:Int)∧(1:Int) < b∧1 < (is a.1).length)∧(((is a.1)[1]?=some (dJ (nAt (is a.1) 1)))∧True)∧tU2 ((0≤(2:Int)∧(2:Int) < b∧2 < (is a.1).length)∧(((is a.1)[2]?=some (dJ (nAt (is a.1) 2)))∧True)∧tU3 ((0≤(3:Int)∧(3:Int) < b∧3 < (is a.1).length)∧(((is a.1)[3]?=some (dJ (nAt (is a.1) 3)))∧True)∧tU2 ((0≤(4:Int)∧(4:Int) < b∧4 < (is a.1).length)∧(((is a.1)[4]?=some (dJ (nAt (is a.1) 4)))∧True)∧tU4 ((true=true)∧RV.tup [RV.agg [dK (IntKind.wrap .u16 (nAt (is a.1) 0)),dK (IntKind.wrap .u16 (nAt (is a.1) 1)),dK (IntKind.wrap .u16 (nAt (is a.1) 2)),dK (IntKind.wrap .u16 (nAt (is a.1) 3)),dK (IntKind.wrap .u16 (nAt (is a.1) 4))],RV.d (dQ true)]=RV.tup d))))))))∧((!a.2)=(!false)→tU4 (RV.tup e=RV.tup d)))))) ?_
  delta tU2 tU3 tU4 tU8 dJ dK dQ dS rJ
  simp only [sS]
  have aN:=zZP ws 0 65535 hl
  clear hwf
  simp only [zQv] at aN ⊢
  refine ⟨aN,?_⟩
  by_cases hall:ws.all (okN 0 65535)=true
  ·rw [zZn hall]
   refine ⟨fun _=>⟨fun h5=>?_,fun h5=>?_⟩,fun h=>by cases h⟩
   ·have h5:¬ ws.length=5:=by simp at h5; omega
    rw [zVV fun h=>h5 h.2]
    exact ⟨⟨rfl,rfl,rfl,rfl,rfl⟩,rfl⟩
   ·have h5:ws.length=5:=by simp at h5; omega
    match ws,h5 with
    | [a,b,c,d,e],_=>
     rw [zWq hall]
     simp only [List.all_cons,List.all_nil,Bool.and_true,Bool.and_eq_true] at hall
     obtain ⟨ha,hb,hc,hd,he⟩:=hall
     have wr:∀ {x:Lb},okN 0 65535 x=true→IntKind.wrap .u16 (numV x)=numV x:=fun h=>by
      have:=zJ8 h
      simp [IntKind.wrap,IntKind.bits,IntKind.signed]; omega
     have n0:nAt (is [numV a,numV b,numV c,numV d,numV e]) 0=numV a:=rfl
     have n1:nAt (is [numV a,numV b,numV c,numV d,numV e]) 1=numV b:=rfl
     have n2:nAt (is [numV a,numV b,numV c,numV d,numV e]) 2=numV c:=rfl
     have n3:nAt (is [numV a,numV b,numV c,numV d,numV e]) 3=numV d:=rfl
     have n4:nAt (is [numV a,numV b,numV c,numV d,numV e]) 4=numV e:=rfl
     simp only [List.map_cons,List.map_nil,n0,n1,n2,n3,n4,wr ha,wr hb,wr hc,wr hd,wr he,List.length_cons,List.length_nil,zXe]
     refine ⟨⟨by omega,by omega,by omega⟩,rfl,⟨by omega,by omega,by omega⟩,rfl,⟨by omega,by omega,by omega⟩,rfl,⟨by omega,by omega,by omega⟩,rfl,⟨by omega,by omega,by omega⟩,rfl,?_⟩
     simp only [and_self]
  ·have hall:ws.all (okN 0 65535)=false:=by simpa using hall
   rw [zZB hall,zVV fun h=>by rw [hall] at h; exact absurd h.1 (by decide)]
   exact ⟨fun h=>absurd h (by decide),fun _=>⟨⟨rfl,rfl,rfl,rfl,rfl⟩,rfl⟩⟩
theorem zUa (w:Lb):Ans prog 143 [RV.d (DV.str (toS w))] (RV.tup [rJ (((nmR zQo (ofS (toS w))).1)),RV.d (dQ ((nmR zQo (ofS (toS w))).2))]):=
 zQm (Γ:=jQq) (Ann.seq Ann.leaf (Ann.seq (Ann.seq Ann.leaf (Ann.loop ⟨Nat,fun k=>k≤12∧∀ j:Nat,j < k→ofS (zQo ((j:Int)+1))≠w,fun k=>⟨[(0,AV.one (Cl.d (DV.str (toS w)))),(4,aJ ((k:Int)+1))],[]⟩,fun k=>12 - k⟩ fun k=>Ann.leaf)) Ann.leaf)) zQB Tryz.func143 rfl (Nat.le_of_ble_eq_true rfl) fun hwf=>by
  refine Eq.mpr (by kernel_rfl:_=(let a:=(DV.str (toS w)=DV.str (toS w)); let b:=[rJ (nmR zQo (ofS (toS w))).1,RV.d (dQ (nmR zQo (ofS (toS w))).2)]; tU3 ((∃ k:Nat,(k≤12∧∀ j:Nat,j < k→ofS (zQo ((j:Int)+1))≠w)∧((a∧(dJ 1=dJ ((k:Int)+1))∧True)∧True))∧∀ k:Nat,let c:=((zQo ((k:Int)+1)).toList==(toS w).toList); (k≤12∧∀ j:Nat,j < k→ofS (zQo ((j:Int)+1))≠w)→tU2 (((decide (((k:Int)+1)≤12))=true→True∧(Ans prog 68 [rJ ((k:Int)+1)] (RV.d (DV.str (zQo ((k:Int)+1)))))∧tU2 ((c=true→tU3 (RV.tup [rJ ((k:Int)+1),RV.d (dQ true)]=RV.tup b))∧(c=false→tU3 (∃ k':Nat,(k'≤12∧∀ j:Nat,j < k'→ofS (zQo ((j:Int)+1))≠w)∧(12 - k' < 12 - k)∧((a∧(dJ (wK (((k:Int)+1)+1))=dJ ((k':Int)+1))∧True)∧True)))))∧((decide (((k:Int)+1)≤12))=false→tU2 (RV.tup [rJ 0,RV.d (dQ false)]=RV.tup b)))))) ?_
  delta tU2 tU3 dJ dQ wK rJ
  simp only [sS]
  clear hwf
  simp only [zQL,zGB]
  refine ⟨⟨0,⟨Nat.zero_le _,fun j h=>absurd h (Nat.not_lt_zero j)⟩,rfl⟩,fun k hk=>⟨fun hle=>⟨zKd _,fun h=>?_,fun h=>⟨k+1,⟨by omega,fun j hj=>?_⟩,by omega,?_⟩⟩,fun hgt=>?_⟩⟩
  ·rw [zVX (f:=zQo) (by omega) (of_decide_eq_true h) hk.2]
   exact ⟨rfl,rfl⟩
  ·rcases Nat.lt_or_ge j k with h1 | h1
   ·exact hk.2 j h1
   ·have:j=k:=by omega
    subst this
    exact of_decide_eq_false h
  ·rw [IntWalk.i64_in _ ⟨by omega,by omega⟩]; omega
  ·rw [zVY (f:=zQo) fun j hj=>hk.2 j (by omega)]
   exact ⟨rfl,rfl⟩
theorem zVr (w:Lb):Ans prog 144 [RV.d (DV.str (toS w))] (RV.tup [rJ (((nmR zQg (ofS (toS w))).1)),RV.d (dQ ((nmR zQg (ofS (toS w))).2))]):=
 zQm (Γ:=jQq) (Ann.seq Ann.leaf (Ann.seq (Ann.seq Ann.leaf (Ann.loop ⟨Nat,fun k=>k≤12∧∀ j:Nat,j < k→ofS (zQg ((j:Int)+1))≠w,fun k=>⟨[(0,AV.one (Cl.d (DV.str (toS w)))),(4,aJ ((k:Int)+1))],[]⟩,fun k=>12 - k⟩ fun k=>Ann.leaf)) Ann.leaf)) zQB Tryz.func144 rfl (Nat.le_of_ble_eq_true rfl) fun hwf=>by
  refine Eq.mpr (by kernel_rfl:_=(let a:=(nmR zQg (ofS (toS w))); let b:=(DV.str (toS w)=DV.str (toS w)); let c:=[rJ a.1,RV.d (dQ a.2)]; tU3 ((∃ k:Nat,(k≤12∧∀ j:Nat,j < k→ofS (zQg ((j:Int)+1))≠w)∧((b∧(dJ 1=dJ ((k:Int)+1))∧True)∧True))∧∀ k:Nat,let d:=((zQg ((k:Int)+1)).toList==(toS w).toList); (k≤12∧∀ j:Nat,j < k→ofS (zQg ((j:Int)+1))≠w)→tU2 (((decide (((k:Int)+1)≤12))=true→True∧(Ans prog 69 [rJ ((k:Int)+1)] (RV.d (DV.str (zQg ((k:Int)+1)))))∧tU2 ((d=true→tU3 (RV.tup [rJ ((k:Int)+1),RV.d (dQ true)]=RV.tup c))∧(d=false→tU3 (∃ k':Nat,(k'≤12∧∀ j:Nat,j < k'→ofS (zQg ((j:Int)+1))≠w)∧(12 - k' < 12 - k)∧((b∧(dJ (wK (((k:Int)+1)+1))=dJ ((k':Int)+1))∧True)∧True)))))∧((decide (((k:Int)+1)≤12))=false→tU2 (RV.tup [rJ 0,RV.d (dQ false)]=RV.tup c)))))) ?_
  delta tU2 tU3 dJ dQ wK rJ
  simp only [sS]
  clear hwf
  simp only [zQL,zGB]
  refine ⟨⟨0,⟨Nat.zero_le _,fun j h=>absurd h (Nat.not_lt_zero j)⟩,rfl⟩,fun k hk=>⟨fun hle=>⟨zVS _,fun h=>?_,fun h=>⟨k+1,⟨by omega,fun j hj=>?_⟩,by omega,?_⟩⟩,fun hgt=>?_⟩⟩
  ·rw [zVX (f:=zQg) (by omega) (of_decide_eq_true h) hk.2]
   exact ⟨rfl,rfl⟩
  ·rcases Nat.lt_or_ge j k with h1 | h1
   ·exact hk.2 j h1
   ·have:j=k:=by omega
    subst this
    exact of_decide_eq_false h
  ·rw [IntWalk.i64_in _ ⟨by omega,by omega⟩]; omega
  ·rw [zVY (f:=zQg) fun j hj=>hk.2 j (by omega)]
   exact ⟨rfl,rfl⟩
end
set_option maxHeartbeats 4000000
section
attribute [local irreducible] Ans AnsO AnsG AnsN AnsI
open Go.Lib
def wAt (ws:List Lb) (i:Nat):Lb:=(ws[i]?).getD []
def zZi (o:Oq) (a b c:Lb):Oq:={ o with opac:=IntKind.wrap .u16 (numR a 0 65535).1,oper:=(nmR zQo b).1,mode:=(nmR zQg c).1 }
def zY8 (a b c:Lb):Bool:=okN 0 65535 a && (nmR zQo b).2 && (nmR zQg c).2
def nilO:Oq:=⟨0,0,0,0,0,0,0,0,0,0,false,false⟩
def zZ0:Lb:=[100,114,97,119]
def zZ1:Lb:=[112,117,115,104]
def sPop:Lb:=[112,111,112]
def opR (ws:List Lb):Oq × Bool:=match ws with
 | [k,i,x,y,m,mx,my,a,b,c]=>if k=zZ0∧[i,m].all (okN 0 255)=true∧[x,y,mx,my].all (okN (-2147483648) 2147483647)=true then (zZi ⟨1,numV i,numV x,numV y,numV m,numV mx,numV my,0,0,0,false,false⟩ a b c,zY8 a b c) else (nilO,false)
 | [k,m,mx,my,a,b,c,is,kn]=>if k=zZ1∧okN 0 255 m=true∧[mx,my].all (okN (-2147483648) 2147483647)=true∧[is,kn].all (okN 0 1)=true then (zZi ⟨2,0,0,0,numV m,numV mx,numV my,0,0,0,decide (numV is=1),decide (numV kn=1)⟩ a b c,zY8 a b c) else (nilO,false)
 | [k]=>if k=sPop then (popO,true) else (nilO,false)
 | _=>(nilO,false)
theorem jY0 {ws:List Lb} (h10:¬ws.length=10) (h9:¬ws.length=9) (h1:¬ws.length=1):opR ws=(nilO,false):=by
 unfold opR
 split
 ·exact absurd rfl h10
 ·exact absurd rfl h9
 ·exact absurd rfl h1
 ·rfl
def gZ5 (xs:List RV):Option RV:=match xs with | [.d (.sl wn wxs)]=>let a:=(zZr (zQb wxs) (-2147483648) 2147483647); some (RV.tup [RV.d (dS a.1.length (is a.1)),RV.d (dQ a.2)]) | _=>none
def gZ6 (xs:List RV):Option RV:=match xs with | [.d (.str s)]=>some (RV.tup [rJ (nmR zQo (ofS s)).1,RV.d (dQ (nmR zQo (ofS s)).2)]) | _=>none
def gZ7 (xs:List RV):Option RV:=match xs with | [.d (.str s)]=>some (RV.tup [rJ (nmR zQg (ofS s)).1,RV.d (dQ (nmR zQg (ofS s)).2)]) | _=>none
def jVm:Gam where
 pure:=fun f xs=>
  if f=118 then gZ3 xs else
  if f=117 then gZ4 xs else
  if f=119 then gZ5 xs else
  if f=143 then gZ6 xs else
  if f=144 then gZ7 xs else
  none
 modes:=fun f=>
  if f=120 then some ([false,true],1,0) else
  none
 proc:=fun f xs bs=>
  if f=120 then (match xs,bs with | [AV.one (Cl.ptr 0 0),AV.one (Cl.d (DV.sl wn wxs))],[Bx.cells [Cl.d (DV.int _ okind),Cl.d (DV.int _ oimage),Cl.d (DV.int _ ox),Cl.d (DV.int _ oy),Cl.d (DV.int _ omask),Cl.d (DV.int _ omx),Cl.d (DV.int _ omy),Cl.d (DV.int _ oopac),Cl.d (DV.int _ ooper),Cl.d (DV.int _ omode),Cl.d (DV.bool oiso),Cl.d (DV.bool okno)]]=>some ⟨AV.one (Cl.d (dQ (zY8 (wAt (zQb wxs) 0) (wAt (zQb wxs) 1) (wAt (zQb wxs) 2)))),[bC [cJ (zZi (⟨okind,oimage,ox,oy,omask,omx,omy,oopac,ooper,omode,oiso,okno⟩:Oq) (wAt (zQb wxs) 0) (wAt (zQb wxs) 1) (wAt (zQb wxs) 2)).kind,cJ (zZi (⟨okind,oimage,ox,oy,omask,omx,omy,oopac,ooper,omode,oiso,okno⟩:Oq) (wAt (zQb wxs) 0) (wAt (zQb wxs) 1) (wAt (zQb wxs) 2)).image,cJ (zZi (⟨okind,oimage,ox,oy,omask,omx,omy,oopac,ooper,omode,oiso,okno⟩:Oq) (wAt (zQb wxs) 0) (wAt (zQb wxs) 1) (wAt (zQb wxs) 2)).x,cJ (zZi (⟨okind,oimage,ox,oy,omask,omx,omy,oopac,ooper,omode,oiso,okno⟩:Oq) (wAt (zQb wxs) 0) (wAt (zQb wxs) 1) (wAt (zQb wxs) 2)).y,cJ (zZi (⟨okind,oimage,ox,oy,omask,omx,omy,oopac,ooper,omode,oiso,okno⟩:Oq) (wAt (zQb wxs) 0) (wAt (zQb wxs) 1) (wAt (zQb wxs) 2)).mask,cJ (zZi (⟨okind,oimage,ox,oy,omask,omx,omy,oopac,ooper,omode,oiso,okno⟩:Oq) (wAt (zQb wxs) 0) (wAt (zQb wxs) 1) (wAt (zQb wxs) 2)).mx,cJ (zZi (⟨okind,oimage,ox,oy,omask,omx,omy,oopac,ooper,omode,oiso,okno⟩:Oq) (wAt (zQb wxs) 0) (wAt (zQb wxs) 1) (wAt (zQb wxs) 2)).my,cK (zZi (⟨okind,oimage,ox,oy,omask,omx,omy,oopac,ooper,omode,oiso,okno⟩:Oq) (wAt (zQb wxs) 0) (wAt (zQb wxs) 1) (wAt (zQb wxs) 2)).opac,cJ (zZi (⟨okind,oimage,ox,oy,omask,omx,omy,oopac,ooper,omode,oiso,okno⟩:Oq) (wAt (zQb wxs) 0) (wAt (zQb wxs) 1) (wAt (zQb wxs) 2)).oper,cJ (zZi (⟨okind,oimage,ox,oy,omask,omx,omy,oopac,ooper,omode,oiso,okno⟩:Oq) (wAt (zQb wxs) 0) (wAt (zQb wxs) 1) (wAt (zQb wxs) 2)).mode,Cl.d (dQ (zZi (⟨okind,oimage,ox,oy,omask,omx,omy,oopac,ooper,omode,oiso,okno⟩:Oq) (wAt (zQb wxs) 0) (wAt (zQb wxs) 1) (wAt (zQb wxs) 2)).iso),Cl.d (dQ (zZi (⟨okind,oimage,ox,oy,omask,omx,omy,oopac,ooper,omode,oiso,okno⟩:Oq) (wAt (zQb wxs) 0) (wAt (zQb wxs) 1) (wAt (zQb wxs) 2)).kno)]],false⟩ | _,_=>none) else
  none
 iter:=fun f cs=>
  none
theorem zVH (o:Oq) (ws:List Lb) (h3:ws.length=3):AnsG prog 120 1 [aPz,AV.one (Cl.d (dS ws.length (strs ws)))] [bC [cJ (o.kind),cJ (o.image),cJ (o.x),cJ (o.y),cJ (o.mask),cJ (o.mx),cJ (o.my),cK (o.opac),cJ (o.oper),cJ (o.mode),Cl.d (dQ o.iso),Cl.d (dQ o.kno)]] ⟨AV.one (Cl.d (dQ (zY8 (wAt (zQb (strs ws)) 0) (wAt (zQb (strs ws)) 1) (wAt (zQb (strs ws)) 2)))),[bC [cJ (((zZi (⟨o.kind,o.image,o.x,o.y,o.mask,o.mx,o.my,o.opac,o.oper,o.mode,o.iso,o.kno⟩:Oq) (wAt (zQb (strs ws)) 0) (wAt (zQb (strs ws)) 1) (wAt (zQb (strs ws)) 2)).kind)),cJ (((zZi (⟨o.kind,o.image,o.x,o.y,o.mask,o.mx,o.my,o.opac,o.oper,o.mode,o.iso,o.kno⟩:Oq) (wAt (zQb (strs ws)) 0) (wAt (zQb (strs ws)) 1) (wAt (zQb (strs ws)) 2)).image)),cJ (((zZi (⟨o.kind,o.image,o.x,o.y,o.mask,o.mx,o.my,o.opac,o.oper,o.mode,o.iso,o.kno⟩:Oq) (wAt (zQb (strs ws)) 0) (wAt (zQb (strs ws)) 1) (wAt (zQb (strs ws)) 2)).x)),cJ (((zZi (⟨o.kind,o.image,o.x,o.y,o.mask,o.mx,o.my,o.opac,o.oper,o.mode,o.iso,o.kno⟩:Oq) (wAt (zQb (strs ws)) 0) (wAt (zQb (strs ws)) 1) (wAt (zQb (strs ws)) 2)).y)),cJ (((zZi (⟨o.kind,o.image,o.x,o.y,o.mask,o.mx,o.my,o.opac,o.oper,o.mode,o.iso,o.kno⟩:Oq) (wAt (zQb (strs ws)) 0) (wAt (zQb (strs ws)) 1) (wAt (zQb (strs ws)) 2)).mask)),cJ (((zZi (⟨o.kind,o.image,o.x,o.y,o.mask,o.mx,o.my,o.opac,o.oper,o.mode,o.iso,o.kno⟩:Oq) (wAt (zQb (strs ws)) 0) (wAt (zQb (strs ws)) 1) (wAt (zQb (strs ws)) 2)).mx)),cJ (((zZi (⟨o.kind,o.image,o.x,o.y,o.mask,o.mx,o.my,o.opac,o.oper,o.mode,o.iso,o.kno⟩:Oq) (wAt (zQb (strs ws)) 0) (wAt (zQb (strs ws)) 1) (wAt (zQb (strs ws)) 2)).my)),cK (((zZi (⟨o.kind,o.image,o.x,o.y,o.mask,o.mx,o.my,o.opac,o.oper,o.mode,o.iso,o.kno⟩:Oq) (wAt (zQb (strs ws)) 0) (wAt (zQb (strs ws)) 1) (wAt (zQb (strs ws)) 2)).opac)),cJ (((zZi (⟨o.kind,o.image,o.x,o.y,o.mask,o.mx,o.my,o.opac,o.oper,o.mode,o.iso,o.kno⟩:Oq) (wAt (zQb (strs ws)) 0) (wAt (zQb (strs ws)) 1) (wAt (zQb (strs ws)) 2)).oper)),cJ (((zZi (⟨o.kind,o.image,o.x,o.y,o.mask,o.mx,o.my,o.opac,o.oper,o.mode,o.iso,o.kno⟩:Oq) (wAt (zQb (strs ws)) 0) (wAt (zQb (strs ws)) 1) (wAt (zQb (strs ws)) 2)).mode)),Cl.d (dQ ((zZi (⟨o.kind,o.image,o.x,o.y,o.mask,o.mx,o.my,o.opac,o.oper,o.mode,o.iso,o.kno⟩:Oq) (wAt (zQb (strs ws)) 0) (wAt (zQb (strs ws)) 1) (wAt (zQb (strs ws)) 2)).iso)),Cl.d (dQ ((zZi (⟨o.kind,o.image,o.x,o.y,o.mask,o.mx,o.my,o.opac,o.oper,o.mode,o.iso,o.kno⟩:Oq) (wAt (zQb (strs ws)) 0) (wAt (zQb (strs ws)) 1) (wAt (zQb (strs ws)) 2)).kno))]],false⟩:=
 zQx (Γ:=jVm) Ann.leaf zQB Tryz.func120 rfl (Nat.le_of_ble_eq_true rfl) rfl fun hwf hbx=>by
  refine Eq.mpr (by kernel_rfl:_=(let g:=(sAt (strs ws) 1); let h:=(sAt (strs ws) 0); let i:=(sAt (strs ws) 2); let b:=(zQb (strs ws)); let f:=(nmR zQg (ofS i)); let a:=(zZi (⟨o.kind,o.image,o.x,o.y,o.mask,o.mx,o.my,o.opac,o.oper,o.mode,o.iso,o.kno⟩:Oq) (wAt b 0) (wAt b 1) (wAt b 2)); let j:=[bC [cJ a.kind,cJ a.image,cJ a.x,cJ a.y,cJ a.mask,cJ a.mx,cJ a.my,cK a.opac,cJ a.oper,cJ a.mode,Cl.d (dQ a.iso),Cl.d (dQ a.kno)]]; let c:=(zY8 (wAt b 0) (wAt b 1) (wAt b 2)); let d:=(numR (ofS h) (0:Int) (65535:Int)); let e:=(nmR zQo (ofS g)); let k:=(([dJ o.kind,dJ o.image,dJ o.x,dJ o.y,dJ o.mask,dJ o.mx,dJ o.my,dK (IntKind.wrap .u16 d.1),dJ e.1,dJ f.1,dQ o.iso,dQ o.kno]=(Oq.cells a))∧True); let l:=(((dQ false=dQ c)∧True)∧k); tU2 ((0≤(0:Int)∧(0:Int) < (ws.length:Int)∧0 < (strs ws).length)∧(((strs ws)[0]?=some (DV.str h))∧True)∧(Ans prog 118 [RV.d (DV.str h),rJ 0,rJ 65535] (RV.tup [rJ d.1,RV.d (dQ d.2)]))∧tU6 ((0≤(1:Int)∧(1:Int) < (ws.length:Int)∧1 < (strs ws).length)∧(((strs ws)[1]?=some (DV.str g))∧True)∧(Ans prog 143 [RV.d (DV.str g)] (RV.tup [rJ e.1,RV.d (dQ e.2)]))∧tU6 ((0≤(2:Int)∧(2:Int) < (ws.length:Int)∧2 < (strs ws).length)∧(((strs ws)[2]?=some (DV.str i))∧True)∧(Ans prog 144 [RV.d (DV.str i)] (RV.tup [rJ f.1,RV.d (dQ f.2)]))∧tU7 (tU8 (tU8 ((d.2=true→tU3 ((e.2=true→tU3 ((((dQ f.2=dQ c)∧True)∧k)∧zQl ⟨AV.one (Cl.d (dQ c)),j,false⟩))∧(e.2=(!true)→tU2 (l∧zQl ⟨AV.one (Cl.d (dQ c)),j,false⟩))))∧(d.2=(!true)→tU4 (l∧zQl ⟨AV.one (Cl.d (dQ c)),j,false⟩)))))))))) ?_
  delta tU2 tU3 tU4 tU6 tU7 tU8 dJ dK dQ cJ cK rJ bC
  simp only [sS]
  match ws,h3 with
  | [a,b,c],_=>
     have s0:sAt (strs [a,b,c]) 0=toS a:=rfl
     have s1:sAt (strs [a,b,c]) 1=toS b:=rfl
     have s2:sAt (strs [a,b,c]) 2=toS c:=rfl
     have wl:zQb (strs [a,b,c])=[a,b,c]:=zQv _
     have w0:wAt [a,b,c] 0=a:=rfl
     have w1:wAt [a,b,c] 1=b:=rfl
     have w2:wAt [a,b,c] 2=c:=rfl
     have aN:=zXT a 0 65535
     have aO:=zUa b
     have aM:=zVr c
     have h2:(numR a 0 65535).2=okN 0 65535 a:=rfl
     clear hwf hbx
     simp only [s0,s1,s2,wl,w0,w1,w2,zQL,h2,List.length_cons,List.length_nil,zQ5] at aN aO aM ⊢
     refine ⟨⟨by omega,by omega,by omega⟩,rfl,aN,⟨by omega,by omega,by omega⟩,rfl,aO,⟨by omega,by omega,by omega⟩,rfl,aM,fun h1=>⟨fun h2=>⟨⟨?_,rfl⟩,trivial⟩,fun h2=>⟨⟨?_,rfl⟩,trivial⟩⟩,fun h1=>⟨⟨?_,rfl⟩,trivial⟩⟩
     ·unfold zY8; rw [h1,h2]; simp
     ·unfold zY8; rw [h1,h2]; rfl
     ·unfold zY8; rw [h1]; rfl
theorem zHL (ws:List Lb) (hl:ws.length≤68719476736):Ans prog 86 [RV.d (dS ws.length (strs ws))] (RV.tup [RV.agg [dJ ((opR (zQb (strs ws))).1.kind),dJ ((opR (zQb (strs ws))).1.image),dJ ((opR (zQb (strs ws))).1.x),dJ ((opR (zQb (strs ws))).1.y),dJ ((opR (zQb (strs ws))).1.mask),dJ ((opR (zQb (strs ws))).1.mx),dJ ((opR (zQb (strs ws))).1.my),dK ((opR (zQb (strs ws))).1.opac),dJ ((opR (zQb (strs ws))).1.oper),dJ ((opR (zQb (strs ws))).1.mode),dQ ((opR (zQb (strs ws))).1.iso),dQ ((opR (zQb (strs ws))).1.kno)],RV.d (dQ ((opR (zQb (strs ws))).2))]):=
 zQm (Γ:=jVm) Ann.leaf zQB Tryz.func86 rfl (Nat.le_of_ble_eq_true rfl) fun hwf=>by
  refine Eq.mpr (by kernel_rfl:_=(let s:=(sAt (strs ws) 1); let A:=([DV.str s,DV.str (sAt (strs ws) 4)]); let n:=(sAt (strs ws) 0); let B:=([DV.str (sAt (strs ws) 2),DV.str (sAt (strs ws) 3),DV.str (sAt (strs ws) 5),DV.str (sAt (strs ws) 6)]); let b:=(ws.length:Int); let a:=(zZr (zQb B) (-2147483648) 2147483647); let t:=(a.1.length:Int); let d:=(zZr (zQb A) (0:Int) (255:Int)); let C:=(List.take ((b - 7).toNat*1) (List.drop ((7:Int).toNat*1) (strs ws))); let D:=(dS (b - 7).toNat C); let o:=(zQb C); let E:=(dQ (zY8 (wAt o 0) (wAt o 1) (wAt o 2))); let m:=(zZi (⟨(1:Int),(nAt (is d.1) 0),(nAt (is a.1) 0),(nAt (is a.1) 1),(nAt (is d.1) 1),(nAt (is a.1) 2),(nAt (is a.1) 3),(0:Int),(0:Int),(0:Int),false,false⟩:Oq) (wAt o 0) (wAt o 1) (wAt o 2)); let e:=(zZr o (0:Int) (1:Int)); let f:=((nAt (is e.1) 1)==1); let g:=((nAt (is e.1) 0)==1); let c:=(numR (ofS s) (0:Int) (255:Int)); let v:=(0≤(0:Int)∧(0:Int) < b∧0 < (strs ws).length); let w:=(((strs ws)[0]?=some (DV.str n))∧True); let F:=(0≤(1:Int)∧(1:Int) < b∧1 < (strs ws).length); let G:=(((strs ws)[1]?=some (DV.str s))∧True); let X:=[RV.agg [dJ 0,dJ 0,dJ 0,dJ 0,dJ 0,dJ 0,dJ 0,dK 0,dJ 0,dJ 0,dQ false,dQ false],RV.d (dQ false)]; let u:=[RV.agg (Oq.cells (opR (zQb (strs ws))).1),RV.d (dQ (opR (zQb (strs ws))).2)]; let p:=(RV.tup X=RV.tup u); let H:=(dJ (nAt (is d.1) 0)); let I:=(dJ (nAt (is a.1) 0)); let J:=(dJ (nAt (is a.1) 1)); let K:=(dJ (nAt (is d.1) 1)); let L:=(dJ (nAt (is a.1) 2)); let M:=(dJ (nAt (is a.1) 3)); let N:=(0≤(7:Int)∧(7:Int)≤b∧b≤b); let O:=(dJ c.1); let P:=(List.take (((4:Int) - 2).toNat*1) (List.drop ((2:Int).toNat*1) (strs ws))); let r:=(zZr (zQb P) (-2147483648) 2147483647); let Q:=((r.1.length:Nat):Int); let q:=(is r.1); let h:=(nAt q 1); let i:=(nAt q 0); let R:=(dJ i); let S:=(dJ h); let T:=(List.take (((7:Int) - 4).toNat*1) (List.drop ((4:Int).toNat*1) (strs ws))); let z:=(zQb T); let j:=(wAt z 2); let k:=(wAt z 1); let l:=(wAt z 0); let U:=(dQ (zY8 l k j)); let V:=(((b==1)=true→True∧v∧w∧tU3 (((n.toList==(⟨#[112,111,112]⟩:ByteArray).toList)=true→tU3 (RV.tup [RV.agg [dJ 3,dJ 0,dJ 0,dJ 0,dJ 0,dJ 0,dJ 0,dK 0,dJ 0,dJ 0,dQ false,dQ false],RV.d (dQ true)]=RV.tup u))∧((n.toList==(⟨#[112,111,112]⟩:ByteArray).toList)=false→tU3 p)))∧((b==1)=(!true)→tU5 p)); let W:=(((b==9)=true→True∧v∧w∧tU3 (((n.toList==(⟨#[112,117,115,104]⟩:ByteArray).toList)=true→True∧F∧G∧(Ans prog 118 [RV.d (DV.str s),rJ 0,rJ 255] (RV.tup [RV.d O,RV.d (dQ c.2)]))∧tU6 ((0≤(2:Int)∧(2:Int)≤4∧(4:Int)≤b)∧(Ans prog 119 [RV.d (dS ((4:Int) - 2).toNat P)] (RV.tup [RV.d (dS r.1.length q),RV.d (dQ r.2)]))∧tU6 (N∧(Ans prog 117 [RV.d D,rJ 0,rJ 1] (RV.tup [RV.d (dS e.1.length (is e.1)),RV.d (dQ e.2)]))∧tU8 (((!c.2)=false→tU4 (((!r.2)=false→tU3 (((!e.2)=true→tU3 p)∧((!e.2)=false→tU2 ((0≤(0:Int)∧(0:Int) < Q∧0 < q.length)∧((q[0]?=some R)∧True)∧True∧(0≤(1:Int)∧(1:Int) < Q∧1 < q.length)∧((q[1]?=some S)∧True)∧True∧(0≤(0:Int)∧(0:Int) < (e.1.length:Int)∧0 < (is e.1).length)∧(((is e.1)[0]?=some (dJ (nAt (is e.1) 0)))∧True)∧tU2 ((0≤(1:Int)∧(1:Int) < (e.1.length:Int)∧1 < (is e.1).length)∧(((is e.1)[1]?=some (dJ (nAt (is e.1) 1)))∧True)∧tU4 ((true=true)∧True∧(0≤(4:Int)∧(4:Int)≤7∧(7:Int)≤b)∧(AnsG prog 120 1 [aPz,AV.one (Cl.d (dS ((7:Int) - 4).toNat T))] [bC [cJ 2,cJ 0,cJ 0,cJ 0,Cl.d O,Cl.d R,Cl.d S,cK 0,cJ 0,cJ 0,Cl.d (dQ g),Cl.d (dQ f)]] ⟨AV.one (Cl.d U),[bC [cJ (zZi (⟨(2:Int),(0:Int),(0:Int),(0:Int),c.1,i,h,(0:Int),(0:Int),(0:Int),g,f⟩:Oq) l k j).kind,cJ (zZi (⟨(2:Int),(0:Int),(0:Int),(0:Int),c.1,i,h,(0:Int),(0:Int),(0:Int),g,f⟩:Oq) l k j).image,cJ (zZi (⟨(2:Int),(0:Int),(0:Int),(0:Int),c.1,i,h,(0:Int),(0:Int),(0:Int),g,f⟩:Oq) l k j).x,cJ (zZi (⟨(2:Int),(0:Int),(0:Int),(0:Int),c.1,i,h,(0:Int),(0:Int),(0:Int),g,f⟩:Oq) l k j).y,cJ (zZi (⟨(2:Int),(0:Int),(0:Int),(0:Int),c.1,i,h,(0:Int),(0:Int),(0:Int),g,f⟩:Oq) l k j).mask,cJ (zZi (⟨(2:Int),(0:Int),(0:Int),(0:Int),c.1,i,h,(0:Int),(0:Int),(0:Int),g,f⟩:Oq) l k j).mx,cJ (zZi (⟨(2:Int),(0:Int),(0:Int),(0:Int),c.1,i,h,(0:Int),(0:Int),(0:Int),g,f⟩:Oq) l k j).my,cK (zZi (⟨(2:Int),(0:Int),(0:Int),(0:Int),c.1,i,h,(0:Int),(0:Int),(0:Int),g,f⟩:Oq) l k j).opac,cJ (zZi (⟨(2:Int),(0:Int),(0:Int),(0:Int),c.1,i,h,(0:Int),(0:Int),(0:Int),g,f⟩:Oq) l k j).oper,cJ (zZi (⟨(2:Int),(0:Int),(0:Int),(0:Int),c.1,i,h,(0:Int),(0:Int),(0:Int),g,f⟩:Oq) l k j).mode,Cl.d (dQ (zZi (⟨(2:Int),(0:Int),(0:Int),(0:Int),c.1,i,h,(0:Int),(0:Int),(0:Int),g,f⟩:Oq) l k j).iso),Cl.d (dQ (zZi (⟨(2:Int),(0:Int),(0:Int),(0:Int),c.1,i,h,(0:Int),(0:Int),(0:Int),g,f⟩:Oq) l k j).kno)]],false⟩)∧tU5 (RV.tup [RV.agg (Oq.cells (zZi (⟨(2:Int),(0:Int),(0:Int),(0:Int),c.1,i,h,(0:Int),(0:Int),(0:Int),g,f⟩:Oq) l k j)),RV.d U]=RV.tup u)))))))∧((!r.2)=(!false)→tU4 p)))∧((!c.2)=(!false)→tU6 p)))))∧((n.toList==(⟨#[112,117,115,104]⟩:ByteArray).toList)=false→tU4 V)))∧((b==9)=(!true)→tU6 V)); tU6 (((b==10)=true→True∧v∧w∧tU3 (((n.toList==(⟨#[100,114,97,119]⟩:ByteArray).toList)=true→True∧F∧G∧True∧(0≤(4:Int)∧(4:Int) < b∧4 < (strs ws).length)∧(((strs ws)[4]?=some (DV.str (sAt (strs ws) 4)))∧True)∧True∧(Ans prog 117 [RV.d (dS 2 A),rJ 0,rJ 255] (RV.tup [RV.d (dS d.1.length (is d.1)),RV.d (dQ d.2)]))∧tU5 ((true=true)∧True∧(0≤(2:Int)∧(2:Int) < b∧2 < (strs ws).length)∧(((strs ws)[2]?=some (DV.str (sAt (strs ws) 2)))∧True)∧True∧(0≤(3:Int)∧(3:Int) < b∧3 < (strs ws).length)∧(((strs ws)[3]?=some (DV.str (sAt (strs ws) 3)))∧True)∧True∧(0≤(5:Int)∧(5:Int) < b∧5 < (strs ws).length)∧(((strs ws)[5]?=some (DV.str (sAt (strs ws) 5)))∧True)∧True∧(0≤(6:Int)∧(6:Int) < b∧6 < (strs ws).length)∧(((strs ws)[6]?=some (DV.str (sAt (strs ws) 6)))∧True)∧True∧(Ans prog 119 [RV.d (dS 4 B)] (RV.tup [RV.d (dS a.1.length (is a.1)),RV.d (dQ a.2)]))∧tU5 ((true=true)∧tU3 (((!d.2)=false→tU3 (((!a.2)=true→tU3 p)∧((!a.2)=false→True∧(0≤(0:Int)∧(0:Int) < (d.1.length:Int)∧0 < (is d.1).length)∧(((is d.1)[0]?=some H)∧True)∧True∧(0≤(0:Int)∧(0:Int) < t∧0 < (is a.1).length)∧(((is a.1)[0]?=some I)∧True)∧True∧(0≤(1:Int)∧(1:Int) < t∧1 < (is a.1).length)∧(((is a.1)[1]?=some J)∧True)∧True∧(0≤(1:Int)∧(1:Int) < (d.1.length:Int)∧1 < (is d.1).length)∧(((is d.1)[1]?=some K)∧True)∧True∧(0≤(2:Int)∧(2:Int) < t∧2 < (is a.1).length)∧(((is a.1)[2]?=some L)∧True)∧True∧(0≤(3:Int)∧(3:Int) < t∧3 < (is a.1).length)∧(((is a.1)[3]?=some M)∧True)∧tU3 ((true=true)∧True∧N∧(AnsG prog 120 1 [aPz,AV.one (Cl.d D)] [bC [cJ 1,Cl.d H,Cl.d I,Cl.d J,Cl.d K,Cl.d L,Cl.d M,cK 0,cJ 0,cJ 0,Cl.d (dQ false),Cl.d (dQ false)]] ⟨AV.one (Cl.d E),[bC [cJ m.kind,cJ m.image,cJ m.x,cJ m.y,cJ m.mask,cJ m.mx,cJ m.my,cK m.opac,cJ m.oper,cJ m.mode,Cl.d (dQ m.iso),Cl.d (dQ m.kno)]],false⟩)∧tU5 (RV.tup [RV.agg (Oq.cells m),RV.d E]=RV.tup u)))))∧((!d.2)=(!false)→tU4 p)))))∧((n.toList==(⟨#[100,114,97,119]⟩:ByteArray).toList)=false→tU4 W)))∧((b==10)=(!true)→tU6 W)))) ?_
  delta tU2 tU3 tU4 tU5 tU6 tU8 dJ dK dQ cJ cK dS rJ aPz bC
  simp only [sS]
  have bz:∀ {p:Prop},(true=false)→p:=fun h=>by cases h
  have bz2:∀ {p:Prop},(false=true)→p:=fun h=>by cases h
  have lt:(⟨#[100,114,97,119]⟩:ByteArray)=toS zZ0:=rfl
  have lp:(⟨#[112,117,115,104]⟩:ByteArray)=toS zZ1:=rfl
  have lq:(⟨#[112,111,112]⟩:ByteArray)=toS sPop:=rfl
  clear hwf
  by_cases h10:ws.length=10
  ·match ws,h10 with
   | [k,i,x,y,m,mx,my,a,b,c],_=>
     have s0:sAt (strs [k,i,x,y,m,mx,my,a,b,c]) 0=toS k:=rfl
     have s1:sAt (strs [k,i,x,y,m,mx,my,a,b,c]) 1=toS i:=rfl
     have s2:sAt (strs [k,i,x,y,m,mx,my,a,b,c]) 2=toS x:=rfl
     have s3:sAt (strs [k,i,x,y,m,mx,my,a,b,c]) 3=toS y:=rfl
     have s4:sAt (strs [k,i,x,y,m,mx,my,a,b,c]) 4=toS m:=rfl
     have s5:sAt (strs [k,i,x,y,m,mx,my,a,b,c]) 5=toS mx:=rfl
     have s6:sAt (strs [k,i,x,y,m,mx,my,a,b,c]) 6=toS my:=rfl
     have s7:sAt (strs [k,i,x,y,m,mx,my,a,b,c]) 7=toS a:=rfl
     have s8:sAt (strs [k,i,x,y,m,mx,my,a,b,c]) 8=toS b:=rfl
     have s9:sAt (strs [k,i,x,y,m,mx,my,a,b,c]) 9=toS c:=rfl
     have wl:zQb (strs [k,i,x,y,m,mx,my,a,b,c])=[k,i,x,y,m,mx,my,a,b,c]:=zQv _
     have hlen:[k,i,x,y,m,mx,my,a,b,c].length=10:=rfl
     have e1:zQb [DV.str (toS i),DV.str (toS m)]=[i,m]:=rfl
     have e2:zQb [DV.str (toS x),DV.str (toS y),DV.str (toS mx),DV.str (toS my)]=[x,y,mx,my]:=rfl
     have a1:=zZP [i,m] 0 255 (by simp)
     have a2:=zX1 [x,y,mx,my] (by simp)
     have aT:=zVH ⟨1,numV i,numV x,numV y,numV m,numV mx,numV my,0,0,0,false,false⟩ [a,b,c] rfl
     simp only [zQv] at a1 a2
     have hopR:opR [k,i,x,y,m,mx,my,a,b,c]=if k=zZ0∧[i,m].all (okN 0 255)=true∧[x,y,mx,my].all (okN (-2147483648) 2147483647)=true then (zZi ⟨1,numV i,numV x,numV y,numV m,numV mx,numV my,0,0,0,false,false⟩ a b c,zY8 a b c) else (nilO,false):=rfl
     have d7:List.take ([a,b,c].length*1) (List.drop (Int.toNat 7*1) (strs [k,i,x,y,m,mx,my,a,b,c]))=strs [a,b,c]:=rfl
     have d7l:(((10:Nat):Int) - 7).toNat=[a,b,c].length:=rfl
     have l1:([i,m].map numV).length=2:=rfl
     have l2:([x,y,mx,my].map numV).length=4:=rfl
     have n10:nAt (is ([i,m].map numV)) 0=numV i:=rfl
     have n11:nAt (is ([i,m].map numV)) 1=numV m:=rfl
     have n20:nAt (is ([x,y,mx,my].map numV)) 0=numV x:=rfl
     have n21:nAt (is ([x,y,mx,my].map numV)) 1=numV y:=rfl
     have n22:nAt (is ([x,y,mx,my].map numV)) 2=numV mx:=rfl
     have n23:nAt (is ([x,y,mx,my].map numV)) 3=numV my:=rfl
     have h109:((((10:Nat):Int))==9)=false:=rfl
     have h101:((((10:Nat):Int))==1)=false:=rfl
     have h1010:((((10:Nat):Int))==10)=true:=rfl
     simp only [s0,s1,s2,s3,s4,s5,s6,s7,s8,s9,wl,e1,e2,lt,zXn,hlen,zQ5,hopR,d7,d7l,h1010,h109,h101,Bool.false_eq_true,Bool.true_eq_false,false_implies,true_implies,true_and,and_true] at a1 a2 ⊢
     by_cases hk:k=zZ0
     ·by_cases h1:[i,m].all (okN 0 255)=true
      ·by_cases h2:[x,y,mx,my].all (okN (-2147483648) 2147483647)=true
       ·rw [zZn h1] at a1 ⊢
        rw [zZn h2] at a2 ⊢
        simp only [hk,h1,h2,and_self,if_true,decide_true,Bool.true_eq_false,Bool.false_eq_true,false_implies,true_implies,and_true,true_and,n10,n11,n20,n21,n22,n23,l1,l2,zXe]
        (repeat' (first | apply And.intro | intro _)) <;> first | exact trivial | (rename_i h; first | exact bz h | exact bz2 h) | (clear aT a1 a2; omega) | exact a1 | exact a2 | exact aT | rfl | (exfalso; clear aT a1 a2; simp_all; done)
       ·have h2':[x,y,mx,my].all (okN (-2147483648) 2147483647)=false:=by simpa using h2
        rw [zZn h1] at a1 ⊢
        rw [zZB h2'] at a2 ⊢
        simp only [hk,h1,h2',and_false,Bool.false_eq_true,Bool.true_eq_false,false_implies,true_implies,and_true,true_and,if_false,decide_true]
        (repeat' (first | apply And.intro | intro _)) <;> first | exact trivial | (rename_i h; first | exact bz h | exact bz2 h) | (clear aT a1 a2; omega) | exact a1 | exact a2 | exact aT | rfl | (exfalso; clear aT a1 a2; simp_all; done)
      ·have h1':[i,m].all (okN 0 255)=false:=by simpa using h1
       rw [zZB h1'] at a1 ⊢
       simp only [hk,h1',false_and,and_false,Bool.false_eq_true,Bool.true_eq_false,false_implies,true_implies,and_true,true_and,if_false,decide_true]
       (repeat' (first | apply And.intro | intro _)) <;> first | exact trivial | (rename_i h; first | exact bz h | exact bz2 h) | (clear aT a1 a2; omega) | exact a1 | exact a2 | exact aT | rfl | (exfalso; clear aT a1 a2; simp_all; done)
     ·have hkf:decide (k=zZ0)=false:=decide_eq_false hk
      simp only [hkf,hk,decide_false,false_and,if_false,Bool.true_eq_false,Bool.false_eq_true,false_implies,true_implies,and_true,true_and]
      (repeat' (first | apply And.intro | intro _)) <;> first | exact trivial | (rename_i h; first | exact bz h | exact bz2 h) | (clear aT a1 a2; omega) | exact a1 | exact a2 | exact aT | rfl | (exfalso; clear aT a1 a2; simp_all; done)
  ·by_cases h9:ws.length=9
   ·match ws,h9 with
    | [k,m,mx,my,a,b,c,is_,kn],_=>
     have s0:sAt (strs [k,m,mx,my,a,b,c,is_,kn]) 0=toS k:=rfl
     have s1:sAt (strs [k,m,mx,my,a,b,c,is_,kn]) 1=toS m:=rfl
     have s2:sAt (strs [k,m,mx,my,a,b,c,is_,kn]) 2=toS mx:=rfl
     have s3:sAt (strs [k,m,mx,my,a,b,c,is_,kn]) 3=toS my:=rfl
     have s4:sAt (strs [k,m,mx,my,a,b,c,is_,kn]) 4=toS a:=rfl
     have s5:sAt (strs [k,m,mx,my,a,b,c,is_,kn]) 5=toS b:=rfl
     have s6:sAt (strs [k,m,mx,my,a,b,c,is_,kn]) 6=toS c:=rfl
     have s7:sAt (strs [k,m,mx,my,a,b,c,is_,kn]) 7=toS is_:=rfl
     have s8:sAt (strs [k,m,mx,my,a,b,c,is_,kn]) 8=toS kn:=rfl
     have wl:zQb (strs [k,m,mx,my,a,b,c,is_,kn])=[k,m,mx,my,a,b,c,is_,kn]:=zQv _
     have hlen:[k,m,mx,my,a,b,c,is_,kn].length=9:=rfl
     have a1:=zXT m 0 255
     have a2:=zX1 [mx,my] (by simp)
     have a3:=zZP [is_,kn] 0 1 (by simp)
     have aT:=zVH ⟨2,0,0,0,numV m,numV mx,numV my,0,0,0,decide (numV is_=1),decide (numV kn=1)⟩ [a,b,c] rfl
     simp only [zQv,zQL] at a1 a2 a3
     have hopR:opR [k,m,mx,my,a,b,c,is_,kn]=if k=zZ1∧okN 0 255 m=true∧[mx,my].all (okN (-2147483648) 2147483647)=true∧[is_,kn].all (okN 0 1)=true then (zZi ⟨2,0,0,0,numV m,numV mx,numV my,0,0,0,decide (numV is_=1),decide (numV kn=1)⟩ a b c,zY8 a b c) else (nilO,false):=rfl
     have d7:List.take ([is_,kn].length*1) (List.drop (Int.toNat 7*1) (strs [k,m,mx,my,a,b,c,is_,kn]))=strs [is_,kn]:=rfl
     have d7l:(((9:Nat):Int) - 7).toNat=[is_,kn].length:=rfl
     have d2:List.take ([mx,my].length*1) (List.drop (Int.toNat 2*1) (strs [k,m,mx,my,a,b,c,is_,kn]))=strs [mx,my]:=rfl
     have d2l:((4:Int) - 2).toNat=[mx,my].length:=rfl
     have d4:List.take ([a,b,c].length*1) (List.drop (Int.toNat 4*1) (strs [k,m,mx,my,a,b,c,is_,kn]))=strs [a,b,c]:=rfl
     have d4l:((7:Int) - 4).toNat=[a,b,c].length:=rfl
     have l1:([mx,my].map numV).length=2:=rfl
     have l2:([is_,kn].map numV).length=2:=rfl
     have n10:nAt (is ([mx,my].map numV)) 0=numV mx:=rfl
     have n11:nAt (is ([mx,my].map numV)) 1=numV my:=rfl
     have n20:nAt (is ([is_,kn].map numV)) 0=numV is_:=rfl
     have n21:nAt (is ([is_,kn].map numV)) 1=numV kn:=rfl
     have hm2:(numR m 0 255).2=okN 0 255 m:=rfl
     have hb:∀ v:Int,(v==1)=decide (v=1):=fun v=>by rw [Bool.eq_iff_iff]; simp
     have h910:((((9:Nat):Int))==10)=false:=rfl
     have h91:((((9:Nat):Int))==1)=false:=rfl
     have h99:((((9:Nat):Int))==9)=true:=rfl
     simp only [s0,s1,s2,s3,s4,s5,s6,s7,s8,wl,lt,lp,zXn,zQL,hlen,zQ5,hopR,d7,d7l,d2,d2l,d4,d4l,zQv,hm2,hb,h910,h99,h91,Bool.false_eq_true,Bool.true_eq_false,false_implies,true_implies,true_and,and_true] at a1 a2 a3 ⊢
     by_cases hk:k=zZ1
     ·by_cases h1:okN 0 255 m=true
      ·have hc1:(numR m 0 255).1=numV m:=by
        unfold okN at h1
        simp only [Bool.and_eq_true] at h1
        unfold numR; rw [if_pos h1.1.1]
       rw [h1] at a1
       by_cases h2:[mx,my].all (okN (-2147483648) 2147483647)=true
       ·by_cases h3:[is_,kn].all (okN 0 1)=true
        ·rw [zZn h2] at a2 ⊢
         rw [zZn h3] at a3 ⊢
         rw [hc1] at a1
         simp only [hk,h1,h2,h3,hc1,and_self,if_true,decide_true,Bool.true_eq_false,Bool.false_eq_true,false_implies,true_implies,and_true,true_and,n10,n11,n20,n21,l1,l2,zXe]
         (repeat' (first | apply And.intro | intro _)) <;> first | exact trivial | (rename_i h; first | exact bz h | exact bz2 h) | (clear aT a1 a2 a3; omega) | exact a1 | exact a2 | exact a3 | exact aT | rfl | (exfalso; clear aT a1 a2 a3; simp_all; done)
        ·have h3':[is_,kn].all (okN 0 1)=false:=by simpa using h3
         rw [zZn h2] at a2 ⊢
         rw [zZB h3'] at a3 ⊢
         simp only [hk,h1,h2,h3',and_false,Bool.false_eq_true,Bool.true_eq_false,false_implies,true_implies,and_true,true_and,if_false,decide_true]
         (repeat' (first | apply And.intro | intro _)) <;> first | exact trivial | (rename_i h; first | exact bz h | exact bz2 h) | (clear aT a1 a2 a3; omega) | exact a1 | exact a2 | exact a3 | exact aT | rfl | (exfalso; clear aT a1 a2 a3; simp_all; done)
       ·have h2':[mx,my].all (okN (-2147483648) 2147483647)=false:=by simpa using h2
        rw [zZB h2'] at a2 ⊢
        simp only [hk,h1,h2',false_and,and_false,Bool.false_eq_true,Bool.true_eq_false,false_implies,true_implies,and_true,true_and,if_false,decide_true]
        (repeat' (first | apply And.intro | intro _)) <;> first | exact trivial | (rename_i h; first | exact bz h | exact bz2 h) | (clear aT a1 a2 a3; omega) | exact a1 | exact a2 | exact a3 | exact aT | rfl | (exfalso; clear aT a1 a2 a3; simp_all; done)
      ·have h1':okN 0 255 m=false:=by simpa using h1
       rw [h1'] at a1
       simp only [hk,h1',false_and,and_false,Bool.false_eq_true,Bool.true_eq_false,false_implies,true_implies,and_true,true_and,if_false,decide_true]
       (repeat' (first | apply And.intro | intro _)) <;> first | exact trivial | (rename_i h; first | exact bz h | exact bz2 h) | (clear aT a1 a2 a3; omega) | exact a1 | exact a2 | exact a3 | exact aT | rfl | (exfalso; clear aT a1 a2 a3; simp_all; done)
     ·have hkf:decide (k=zZ1)=false:=decide_eq_false hk
      simp only [hkf,hk,decide_false,false_and,if_false,Bool.true_eq_false,Bool.false_eq_true,false_implies,true_implies,and_true,true_and]
      (repeat' (first | apply And.intro | intro _)) <;> first | exact trivial | (rename_i h; first | exact bz h | exact bz2 h) | (clear aT a1 a2 a3; omega) | exact a1 | exact a2 | exact a3 | exact aT | rfl | (exfalso; clear aT a1 a2 a3; simp_all; done)
   ·have h10f:(((ws.length:Int))==10)=false:=by simp; omega
    have h9f:(((ws.length:Int))==9)=false:=by simp; omega
    simp only [h10f,h9f,Bool.false_eq_true,Bool.true_eq_false,false_implies,true_implies,true_and,and_true,zQv]
    by_cases h1:ws.length=1
    ·match ws,h1 with
     | [k],_=>
      have s0:sAt (strs [k]) 0=toS k:=rfl
      have hlen:[k].length=1:=rfl
      have hopR:opR [k]=if k=sPop then (popO,true) else (nilO,false):=rfl
      simp only [s0,hlen,zQ5,lq,zXn,hopR]
      by_cases hk:k=sPop
      ·simp only [hk,if_true,decide_true]
       refine ⟨fun _=>⟨⟨by omega,by omega,by omega⟩,rfl,fun _=>⟨rfl,trivial⟩,fun h=>bz h⟩,fun h=>absurd h (by decide)⟩
      ·simp only [hk,if_false,decide_false]
       refine ⟨fun _=>⟨⟨by omega,by omega,by omega⟩,rfl,fun h=>bz2 h,fun _=>⟨rfl,trivial⟩⟩,fun h=>absurd h (by decide)⟩
    ·have h1f:(((ws.length:Int))==1)=false:=by simp; omega
     simp only [h1f,Bool.false_eq_true,false_implies,true_implies,true_and,and_true]
     rw [jY0 h10 h9 h1]
     exact ⟨rfl,rfl⟩
end
def zGW (p q:Pl):Bool:=jVz p.w p.h p.s p.n p.xs q.w q.h q.s q.n q.xs
def Im.same (m n:Im):Bool:=zGW m.p0 n.p0 && (zGW m.p1 n.p1 && (zGW m.p2 n.p2 && (zGW m.p3 n.p3 && (zGW m.p4 n.p4 && (decide (m.w=n.w) && (decide (m.h=n.h) && ((m.so==n.so) && decide (m.c=n.c))))))))
def zQt (l:List Px) (g:Px→Int) (k:Nat):List DV:=us ((l.take k).map g)++List.replicate (l.length - k) (.int .u16 0)
theorem zJR {l:List Px} {g:Px→Int} {k:Nat} (h:k≤l.length):(zQt l g k).length=l.length:=by
 unfold zQt
 rw [List.length_append,zJd,List.length_map,List.length_take,List.length_replicate]; omega
theorem zXm (l:List Px) (g:Px→Int):zQt l g 0=List.replicate l.length (.int .u16 0):=by simp [zQt,us]
theorem zJS (l:List Px) (g:Px→Int):zQt l g l.length=chan l g:=by simp [zQt,chan]
theorem zYb {l:List Px} {g:Px→Int} {k:Nat} (h:k < l.length) {v:Int} (hv:v=g l[k]):(zQt l g k).set k (.int .u16 v)=zQt l g (k+1):=by
 subst hv
 have hl:(us ((l.take k).map g)).length=k:=by rw [zJd,List.length_map,List.length_take]; omega
 unfold zQt
 rw [List.set_append_right _ _ (by omega),hl,Nat.sub_self,show l.length - k=(l.length - (k+1))+1 by omega,List.replicate_succ,List.set_cons_zero,List.take_add_one,List.getElem?_eq_getElem h,Option.toList_some,List.map_append,← jZ8]
 simp [us]
theorem zYN {l:List Px} {k j:Nat} (h:k < l.length) (hj:j < 5):(pxs l)[k*5+j]?=some (.int .u16 (nAt (pxs l) (k*5+j))):=by
 obtain ⟨a0,a1,a2,a3,a4⟩:=zUA h
 obtain ⟨b0,b1,b2,b3,b4⟩:=zZm h
 match j,hj with
 | 0,_=>rw [Nat.add_zero,a0,b0]
 | 1,_=>rw [a1,b1]
 | 2,_=>rw [a2,b2]
 | 3,_=>rw [a3,b3]
 | 4,_=>rw [a4,b4]
theorem jQK {l:List Px} {k:Nat} (h:k < l.length):(pxs l)[k*5]?=some (.int .u16 (nAt (pxs l) (k*5))):=zYN (j:=0) h (by omega)
theorem zJ9 {l:List Px} {g:Px→Int} {k:Nat} (hlt:(k:Int) < (l.length:Int)) (hb:l.length≤16777216) {v:Int} (hv:∀ h:k < l.length,v=g l[k]) :
  ∃ k':Nat,k'≤l.length∧l.length - k' < l.length - k∧IntKind.wrap .i64 ((k:Int)+1)=(k':Int)∧(zQt l g k).set (k*1) (.int .u16 v)=zQt l g k':=
 have h:k < l.length:=by omega
 ⟨k+1,by omega,by omega,zJc (by omega),by rw [Nat.mul_one]; exact zYb h (hv h)⟩
theorem jXM {l:List Px} {k:Nat} (hlt:(k:Int) < (l.length:Int)) (hb:l.length≤16777216) {v1 v2 v3 v4 v5:Int} (h1:∀ h:k < l.length,v1=l[k].a) (h2:∀ h:k < l.length,v2=l[k].b) (h3:∀ h:k < l.length,v3=l[k].c) (h4:∀ h:k < l.length,v4=l[k].al) (h5:∀ h:k < l.length,v5=l[k].f) :
  ∃ k':Nat,k'≤l.length∧l.length - k' < l.length - k∧IntKind.wrap .i64 ((k:Int)+1)=(k':Int)∧(zQt l Px.a k).set (k*1) (.int .u16 v1)=zQt l Px.a k'∧(zQt l Px.b k).set (k*1) (.int .u16 v2)=zQt l Px.b k'∧(zQt l Px.c k).set (k*1) (.int .u16 v3)=zQt l Px.c k'∧(zQt l Px.al k).set (k*1) (.int .u16 v4)=zQt l Px.al k'∧(zQt l Px.f k).set (k*1) (.int .u16 v5)=zQt l Px.f k':=
 have h:k < l.length:=by omega
 ⟨k+1,by omega,by omega,zJc (by omega),by rw [Nat.mul_one]; exact zYb h (h1 h),by rw [Nat.mul_one]; exact zYb h (h2 h),by rw [Nat.mul_one]; exact zYb h (h3 h),by rw [Nat.mul_one]; exact zYb h (h4 h),by rw [Nat.mul_one]; exact zYb h (h5 h)⟩
theorem jY6 {l:List Px} {g:Px→Int} {k:Nat} (hk:k≤l.length) (hge:¬ (k:Int) < (l.length:Int)):zQt l g k=zQt l g l.length:=by
 rw [show k=l.length by omega]
theorem zV4 (l:List Int):∀ d∈us l,d.flat=true:=by
 intro d hd
 simp only [us,List.mem_map] at hd
 obtain ⟨v,_,rfl⟩:=hd
 rfl
theorem zKq {w h:Int} {l:List Px} (hk:ofOk w h l.length=true):imOf w h l=ofIm w h l:=by simp [imOf,hk]
theorem zWK {w h:Int} {l:List Px} (hk:ofOk w h l.length=false):imOf w h l=Im.zero:=by simp [imOf,hk]
theorem jXZ (w h:Int) (l:List Px):(∀ d∈(imOf w h l).p0.xs,d.flat=true)∧(∀ d∈(imOf w h l).p1.xs,d.flat=true)∧(∀ d∈(imOf w h l).p2.xs,d.flat=true)∧(∀ d∈(imOf w h l).p3.xs,d.flat=true)∧(∀ d∈(imOf w h l).p4.xs,d.flat=true):=by
 cases hk:ofOk w h l.length with
 | true=>rw [zKq hk]; exact ⟨zV4 _,zV4 _,zV4 _,zV4 _,zV4 _⟩
 | false=>rw [zWK hk]; simp [Im.zero,Pl.none]
theorem zUM (w h:Int) (l:List Px):(∀ d∈(imOf w h l).p0.xs,d.flat=true)=True∧(∀ d∈(imOf w h l).p1.xs,d.flat=true)=True∧(∀ d∈(imOf w h l).p2.xs,d.flat=true)=True∧(∀ d∈(imOf w h l).p3.xs,d.flat=true)=True∧(∀ d∈(imOf w h l).p4.xs,d.flat=true)=True:=by
 obtain ⟨a,b,c,d,e⟩:=jXZ w h l
 exact ⟨eq_true a,eq_true b,eq_true c,eq_true d,eq_true e⟩
def gMax (n:Int):Int:=if modS n 3=2 then 65535 else 255
def zXk (n most:Int):Int:=
 if modS n 8=0 then 0
 else if modS n 8=1∨modS n 8=2 then most
 else if modS n 8=3 then IntKind.wrap .u16 (IntKind.wrap .i64 (Int.tdiv (IntKind.wrap .i64 (IntKind.wrap .i64 most+modS (IntKind.wrap .i64 (Int.tdiv n 8)) 2)) 2))
 else if modS n 8=4 then IntKind.wrap .u16 (min (IntKind.wrap .i64 most) (modS (IntKind.wrap .i64 (Int.tdiv n 8)) 4))
 else IntKind.wrap .u16 (modS (IntKind.wrap .i64 (Int.tdiv n 8)) (IntKind.wrap .i64 (IntKind.wrap .i64 most+1)))
def zWQ (n0 n1 n2 n3 n4 most:Int):Px:=
 let f:=zXk n4 most
 let a:=if 0 < modS n3 3 then zXk (IntKind.wrap .i64 (Int.tdiv n3 3)) f else f
 ⟨zXk n0 a,zXk n1 a,zXk n2 a,a,f⟩
def gNum (L:Nat) (xs:List DV) (k j:Nat):Int:=if 0 < L then nAt xs (k % L*5+j) else 0
def gPx1 (L:Nat) (xs:List DV) (most:Int) (k:Nat):Px:=zWQ (gNum L xs k 0) (gNum L xs k 1) (gNum L xs k 2) (gNum L xs k 3) (gNum L xs k 4) most
def gPx (mood:Int) (L:Nat) (xs:List DV) (most:Int) (k:Nat):Px:=
 if modS mood 6=0 then .zero
 else if modS mood 6=1 then let p:=gPx1 L xs most k; ⟨p.a,p.b,p.c,most,most⟩
 else if modS mood 6=2 then gPx1 L xs most 0
 else gPx1 L xs most k
def zKr (mood:Int) (L:Nat) (xs:List DV) (most:Int) (n:Nat):List Px:=(List.range n).map (gPx mood L xs most)
theorem jQt (mood:Int) (L:Nat) (xs:List DV) (most:Int) (n:Nat):(zKr mood L xs most n).length=n:=by simp [zKr]
def Is5 (L:Nat) (xs:List DV):Prop:=xs.length=L*5∧∀ i,i < L*5→xs[i]?=some (.int .i64 (nAt xs i))
end Go.Proofs.YtheidkkebdhmkaaGreatDoor
