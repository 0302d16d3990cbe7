/-
  Part 2 of what TextParseOfDamage rests on.
-/
import Derived.Test.YtheidkkebdhmkaaGreatDoorTextParseOfDamageZ1
import Derived.Test.YtheidkkebdhmkaaGreatDoorProg
namespace Go.Proofs.YtheidkkebdhmkaaGreatDoor
open Go.RowKit
set_option linter.unusedVariables false
set_option linter.unusedSimpArgs false
set_option maxRecDepth 20000
def Cap.av:Cap→AV
 | .d v=>.one (.d v)
 | .ptr b off=>.one (.ptr b off)
def zW2 (dst:Option Nat) (bs:List Nat) (nnew:Nat):List Nat:=
 let base:=match dst with
  | some d=>d
  | none=>maxL bs
 (List.range nnew).map fun i=>base+1000*(i+1)
def zVI (l1:List Nat) (B1:List Bx):List Nat:=(nubN (B1.flatMap Bx.names)).filter fun x=>!l1.contains x
def zWQ (P:Program) (Γ:Gam) (dst:Option Nat) (f:FuncId) (xs:List AV):Option Eff2:=
 match Γ.modes f,enters P f with
 | some (ms,pin,nnew),true=>
  let l0:=zYm ms xs
  let l1:=nubN (zXf ms xs)
  some ⟨l0++l1,fun bs1=>let l2:=zVI l1 (bs1.drop l0.length); l2++zW2 dst (l1++l2) nnew,fun bs1 bs2=>
   let l2:=zVI l1 (bs1.drop l0.length)
   jQ2 P Γ f ms pin nnew xs l0 (l1++l2) (zW2 dst (l1++l2) nnew) (bs1.take l0.length) (bs1.drop l0.length++bs2.take l2.length) (bs2.drop l2.length)⟩
 | _,_=>none
def jXR (Γ:Gam) (f:FuncId) (xs:List AV) (bs:List Bx):Bool:=
 match jJF Γ f with
 | some _=>false
 | none=>match jJS Γ f with
  | true=>true
  | false=>match AV.rvs (zXo (xs.flatMap AV.refs) bs) xs with
   | some rs=>match Γ f rs with
    | some r=>r.flat
    | none=>false
   | none=>false
def zKN:List Nat→List Bx→List Bx→List (Nat × Bx)
 | b::rs,B0::bs,B::ws=>match B0 with
  | .ice _=>zKN rs bs ws
  | _=>(b,B)::zKN rs bs ws
 | _,_,_=>[]
def Eff.upQ (q:List Bx→Bool) (e:Eff):Eff2:=⟨e.rds,fun _=>[],fun bs _=>(e.f bs).map fun r=>(r.1,r.2.1,match q bs with | true=>[] | false=>zKN e.wrs bs r.2.2)⟩
def zZ7:List Bx→List Bx→Prop
 | .ice xs::bs,B::ws=>B=.ice xs∧zZ7 bs ws
 | _::bs,_::ws=>zZ7 bs ws
 | [],[]=>True
 | _,_=>False
theorem zYM:∀ bs:List Bx,zZ7 bs (bs.map Bx.freeze)
 | []=>trivial
 | B::bs=>by
  have:=zYM bs
  cases B <;> simp only [List.map_cons,zZ7,Bx.freeze,true_and] <;> exact this
theorem zYE:∀ bs:List Bx,zZ7 bs bs
 | []=>trivial
 | B::bs=>by
  have:=zYE bs
  cases B <;> simp only [zZ7,true_and] <;> exact this
theorem zXA:∀ (bs ws:List Bx) (B:Bx),zZ7 bs ws→zZ7 (bs++[.fresh]) (ws++[B])
 | [],[],B,_=>by simp [zZ7]
 | .ice xs::bs,W::ws,B,h=>by
  simp only [List.cons_append,zZ7] at h ⊢
  exact ⟨h.1,zXA bs ws B h.2⟩
 | .fresh::bs,W::ws,B,h=>by simp only [List.cons_append,zZ7] at h ⊢; exact zXA bs ws B h
 | .gone::bs,W::ws,B,h=>by simp only [List.cons_append,zZ7] at h ⊢; exact zXA bs ws B h
 | .cells _::bs,W::ws,B,h=>by simp only [List.cons_append,zZ7] at h ⊢; exact zXA bs ws B h
 | .row _ _ _::bs,W::ws,B,h=>by simp only [List.cons_append,zZ7] at h ⊢; exact zXA bs ws B h
 | [],_::_,_,h=>h.elim
 | B0::bs,[],B,h=>by cases B0 <;> exact h.elim
theorem zWF (s0:AS):∀ (rs:List Nat) (ws:List Bx) (s:AS),(∀ b xs,s0.bx b=.ice xs→s.bx b=.ice xs)→zZ7 (rs.map s0.bx) ws→s.setBs ((zKN rs (rs.map s0.bx) ws).map (·.1)) ((zKN rs (rs.map s0.bx) ws).map (·.2))=s.setBs rs ws
 | [],_,s,_,_=>by simp [zKN,AS.setBs]
 | b::rs,[],s,_,h=>by
  simp only [List.map_cons] at h
  cases hB:s0.bx b <;> rw [hB] at h <;> exact h.elim
 | b::rs,W::ws,s,hs,h=>by
  simp only [List.map_cons,zKN,AS.setBs] at h ⊢
  cases hB:s0.bx b with
  | ice xs=>
   rw [hB] at h
   simp only [zZ7] at h
   obtain ⟨rfl,h⟩:=h
   have e:s.setB b (.ice xs)=s:=by
    refine AS.ext' rfl ?_
    funext b'
    simp only [AS.setB]
    split
    ·rename_i e; subst e; exact (hs b' xs hB).symm
    ·rfl
   rw [e]
   exact zWF s0 rs ws s hs h
  | _=>
   rw [hB] at h
   simp only [zZ7] at h
   simp only [List.map_cons,AS.setBs]
   refine zWF s0 rs ws _ (fun b' xs hb'=>?_) h
   simp only [AS.setB]
   rw [if_neg (fun e=>by subst e; rw [hB] at hb'; cases hb')]
   exact hs b' xs hb'
theorem jXB {P:Program} {Γ:Gam} {dst:Option Nat} {f:FuncId} {xs:List AV} {e0:Eff} (he:zVd P Γ dst f xs=some e0) {bs bs':List Bx} {vc:Prop} {v:AV} (hf:e0.f bs=some (vc,v,bs')):zZ7 bs bs'∧e0.wrs=e0.rds:=by
 unfold zVd at he
 cases h1:jJF Γ f with
 | some p=>
  rw [h1] at he
  simp only at he
  split at he
  ·simp only [zGY] at he
   split at he
   ·simp only [Option.some.injEq] at he
    subst he
    simp only at hf ⊢
    split at hf
    ·rename_i hl
     split at hf
     ·split at hf
      ·simp only [Option.some.injEq,Prod.mk.injEq] at hf
       obtain ⟨_,_,rfl⟩:=hf
       refine ⟨?_,trivial⟩
       have:bs=bs.dropLast++[.fresh]:=by
        have hne:bs≠[]:=fun e=>by rw [e] at hl; cases hl
        rw [List.getLast?_eq_some_getLast hne] at hl
        injection hl with hl
        rw [← hl,List.dropLast_concat_getLast]
       have k:=fun B=>zXA _ _ B (zYM bs.dropLast)
       rw [← this] at k
       exact k _
      ·cases hf
     ·cases hf
    ·cases hf
   ·cases he
  ·cases he
 | none=>
  rw [h1] at he
  simp only at he
  cases h2:jJS Γ f with
  | true=>
   rw [h2] at he
   simp only [zWZ] at he
   split at he
   ·simp only [Option.some.injEq] at he
    subst he
    simp only at hf ⊢
    split at hf
    ·split at hf
     ·simp only [Option.some.injEq,Prod.mk.injEq] at hf
      obtain ⟨_,_,rfl⟩:=hf
      exact ⟨zYE _,trivial⟩
     ·cases hf
    ·cases hf
   ·cases he
  | false=>
   rw [h2] at he
   simp only [zWY] at he
   split at he
   ·simp only [Option.some.injEq] at he
    subst he
    simp only at hf ⊢
    split at hf
    ·split at hf
     ·simp only [Option.some.injEq,Prod.mk.injEq] at hf
      obtain ⟨_,_,rfl⟩:=hf
      refine ⟨?_,trivial⟩
      split
      ·exact zYE _
      ·exact zYM _
     ·cases hf
    ·cases hf
   ·split at he
    ·split at he
     ·simp only [Option.some.injEq] at he
      subst he
      simp only [Option.some.injEq,Prod.mk.injEq] at hf
      obtain ⟨_,_,rfl⟩:=hf
      exact ⟨zYE _,rfl⟩
     ·cases he
    ·cases he
theorem jJM {P:Program} {Γ:Gam} {dst:Option Nat} {f:FuncId} {xs:List AV} {e0:Eff} (he:zVd P Γ dst f xs=some e0) {bs bs':List Bx} {vc:Prop} {v:AV} (hq:jXR Γ f xs bs=true) (hf:e0.f bs=some (vc,v,bs')):bs'=bs∧e0.wrs=e0.rds:=by
 unfold jXR at hq
 unfold zVd at he
 cases h1:jJF Γ f with
 | some p=>rw [h1] at hq; cases hq
 | none=>
  rw [h1] at hq he
  simp only at hq he
  cases h2:jJS Γ f with
  | true=>
   rw [h2] at he
   simp only [zWZ] at he
   split at he
   ·simp only [Option.some.injEq] at he
    subst he
    simp only at hf ⊢
    split at hf
    ·split at hf
     ·simp only [Option.some.injEq,Prod.mk.injEq] at hf
      exact ⟨hf.2.2.symm,trivial⟩
     ·cases hf
    ·cases hf
   ·cases he
  | false=>
   rw [h2] at he hq
   simp only [zWY] at he
   split at he
   ·simp only [Option.some.injEq] at he
    subst he
    simp only at hf hq ⊢
    split at hf
    ·rename_i rs hrs
     rw [hrs] at hq
     simp only at hq
     split at hf
     ·rename_i r hr
      rw [hr] at hq
      simp only at hq
      simp only [Option.some.injEq,Prod.mk.injEq,if_pos hq] at hf
      exact ⟨hf.2.2.symm,trivial⟩
     ·cases hf
    ·cases hf
   ·split at he
    ·split at he
     ·simp only [Option.some.injEq] at he
      subst he
      simp only [Option.some.injEq,Prod.mk.injEq] at hf
      exact ⟨hf.2.2.symm,rfl⟩
     ·cases he
    ·cases he
theorem zHL {P:Program} {Γ:Gam} {o:Oper} {s:AS} {f:FuncId} {xs:List AV} (h:zZT P o s (prep P Γ o s.eval)) (hp:prep P Γ o s.eval=zVd P Γ o.dst f xs):zGD P o s ((prep P Γ o s.eval).map (Eff.upQ (jXR Γ f xs))):=by
 intro e' he vc v ws hf
 obtain ⟨e0,he0,rfl⟩:=Option.map_eq_some_iff.1 he
 simp only [Eff.upQ] at hf
 obtain ⟨⟨vc0,v0,bs0⟩,hf1,hf'⟩:=Option.map_eq_some_iff.1 hf
 simp only [Prod.mk.injEq] at hf'
 obtain ⟨rfl,rfl,rfl⟩:=hf'
 have hs:=h e0 he0 vc0 v0 bs0 hf1
 cases hq:jXR Γ f xs (e0.rds.map s.bx) with
 | true=>
  obtain ⟨e1,e2⟩:=jJM (by rw [← hp,he0]) hq hf1
  subst e1
  intro w0 S n ι a w K Q hr hvc hK
  refine hs w0 S n ι a w K Q hr hvc fun ι' u w' h1 h2=>hK ι' u w' ?_ ?_
  ·rw [e2,zJ3] at h1; exact h1
  ·rw [e2,zJ3] at h2; exact h2
 | false=>
  obtain ⟨e1,e2⟩:=jXB (by rw [← hp,he0]) hf1
  rw [← e2] at e1
  have e3:=zWF s e0.wrs bs0 s (fun _ _ h=>h) e1
  intro w0 S n ι a w K Q hr hvc hK
  refine hs w0 S n ι a w K Q hr hvc fun ι' u w' h1 h2=>hK ι' u w' ?_ ?_
  ·simp only; rw [← e2,e3]; exact h1
  ·simp only; rw [← e2,e3]; exact h2
def zKH (P:Program) (Γ:Gam) (o:Oper) (ρ:Operand→AV):Option Eff2:=
 match o.op with
 | .call c=>match c.callee with
  | .value (.func f)=>match Γ.modes f with
   | some _=>zWQ P Γ o.dst f (c.args.toList.map ρ)
   | none=>(prep P Γ o ρ).map (Eff.upQ (jXR Γ f (c.args.toList.map ρ)))
  | .value (.tmp t)=>match ρ (.tmp t) with
   | .one (.d (.fn f))=>match Γ.modes f with
    | some _=>zWQ P Γ o.dst f (c.args.toList.map ρ)
    | none=>(prep P Γ o ρ).map (Eff.upQ (jXR Γ f (c.args.toList.map ρ)))
   | .one (.clo f cs)=>zWQ P Γ o.dst f (c.args.toList.map ρ++cs.map Cap.av)
   | _=>none
  | _=>(prep P Γ o ρ).map Eff.up
 | _=>(prep P Γ o ρ).map Eff.up
def aop (P:Program) (Γ:Gam) (n:Dom) (o:Oper) (s:AS):Option (Prop × AS):=
 if jQr n o then
  match zKH P Γ o s.eval with
  | some e=>match e.f (e.rds.map s.bx) ((e.more (e.rds.map s.bx)).map s.bx) with
   | some (vc,v,ws)=>some (vc,(s.setL ws).put o.dst v)
   | none=>none
  | none=>none
 else none
section
variable {P:Program} {o:Oper} {s:AS}
theorem zY9 {Γ:Gam} {f:FuncId} {xs:List AV}
  (hex:enters P f=true→∀ (w0:World) (S:zZj) (n:Dom) (ι:zQC) (a:Act) (w:World),RepS w0 S n s ι a w→∃ vs:Array Value,(execOp a.eval o).run P w=.ok (.enter f vs) w ∧
   ∀ ι2 s2,s2.tm=s.tm→RepS w0 S n s2 ι2 a w→RepAVs w (Seen S w0.heap.size s2.bx ι2) ι2 s2.bx xs vs.toList):zGD P o s (zWQ P Γ o.dst f xs):=by
 unfold zWQ
 split
 ·rename_i ms pin nnew hm hen
  intro e' he vc v ws hf
  simp only [Option.some.injEq] at he
  subst he
  simp only at hf
  have e1:((zYm ms xs++nubN (zXf ms xs)).map s.bx).take (zYm ms xs).length=(zYm ms xs).map s.bx:=by
   rw [List.map_append,List.take_left' (by simp)]
  have e2:((zYm ms xs++nubN (zXf ms xs)).map s.bx).drop (zYm ms xs).length=(nubN (zXf ms xs)).map s.bx:=by
   rw [List.map_append,List.drop_left' (by simp)]
  rw [e1,e2] at hf
  generalize hl2:zVI (nubN (zXf ms xs)) ((nubN (zXf ms xs)).map s.bx)=l2 at hf
  generalize zW2 o.dst (nubN (zXf ms xs)++l2) nnew=news at hf
  have e3:((l2++news).map s.bx).take l2.length=l2.map s.bx:=by rw [List.map_append,List.take_left' (by simp)]
  have e4:((l2++news).map s.bx).drop l2.length=news.map s.bx:=by rw [List.map_append,List.drop_left' (by simp)]
  rw [e3,e4,← List.map_append] at hf
  exact jXq (hex hen) (fun b hb=>hb) (fun b hb=>by rw [List.mem_append]; exact .inl (jZV.2 hb)) hf
 ·exact .none
theorem zUx {w0:World} {S:zZj} {n:Dom} {a:Act} {w:World} {ι2:zQC} {s2:AS} (ht:s2.tm=s.tm) (hr:RepS w0 S n s2 ι2 a w) (args:List Operand):RepAVs w (Seen S w0.heap.size s2.bx ι2) ι2 s2.bx (args.map s.eval) (args.map a.eval):=by
 have heval:s2.eval=s.eval:=by funext x; cases x <;> simp [AS.eval,ht]
 induction args with
 | nil=>simp only [List.map_nil,RepAVs]
 | cons x xs ih=>
  simp only [List.map_cons,RepAVs]
  exact ⟨by rw [← heval]; exact hr.eval x,ih⟩
theorem jQv {w:World} {V:Nat→Prop} {ι:zQC} {bx:Nat→Bx}:∀ {cs:List Cap} {vs:List Value},zXk ι bx w V cs vs→RepAVs w V ι bx (cs.map Cap.av) vs
 | [],[],_=>by simp only [List.map_nil,RepAVs]
 | c::cs,v::vs,h=>by
  simp only [List.map_cons,RepAVs]
  refine ⟨?_,jQv h.2⟩
  cases c <;> simp only [Cap.av,zQv,zQJ] <;> exact h.1
 | [],_::_,h=>h.elim
 | _::_,[],h=>h.elim
theorem zGb {w:World} {V:Nat→Prop} {ι:zQC} {bx:Nat→Bx}:∀ {xs:List AV} {us:List Value} {ys:List AV} {vs:List Value},RepAVs w V ι bx xs us→RepAVs w V ι bx ys vs→RepAVs w V ι bx (xs++ys) (us++vs)
 | [],[],_,_,_,h=>h
 | _::_,_::_,_,_,h,h'=>by
  simp only [RepAVs,List.cons_append] at h ⊢
  exact ⟨h.1,zGb h.2 h'⟩
 | [],_::_,_,_,h,_=>by simp only [RepAVs] at h
 | _::_,[],_,_,h,_=>by simp only [RepAVs] at h
theorem jQP {Γ:Gam} (o:Oper) (s:AS):zGD P o s (zKH P Γ o s.eval):=by
 unfold zKH
 split
 ·rename_i c h
  obtain ⟨callee,args,ts⟩:=c
  simp only
  split
  ·rename_i f
   split
   ·exact zY9 fun hen w0 S n ι a w hr=>⟨args.map a.eval,zU0 h hen w0 S n ι a w hr,fun ι2 s2 ht hr2=>by simpa using zUx ht hr2 args.toList⟩
   ·exact zHL (zJ4 o s) (by unfold prep; rw [h])
  ·rename_i t
   split
   ·rename_i f hx
    split
    ·exact zY9 fun hen w0 S n ι a w hr=>⟨args.map a.eval,zWH h hx hen w0 S n ι a w hr,fun ι2 s2 ht hr2=>by simpa using zUx ht hr2 args.toList⟩
    ·exact zHL (zJ4 o s) (by unfold prep; rw [h]; simp only [hx])
   ·rename_i f cs hx
    refine zY9 fun hen w0 S n ι a w hr=>?_
    have hv:=hr.eval (.tmp t)
    rw [hx] at hv
    simp only [zQv,zQJ] at hv
    obtain ⟨lb,hv,hc⟩:=hv
    refine ⟨args.map a.eval++lb,?_,fun ι2 s2 ht hr2=>?_⟩
    ·simp [execOp,h,resolve,hv,Deferred.ofValue,invoke,zK5 hen]
    ·have hv2:=hr2.eval (.tmp t)
     have hx2:s2.eval (.tmp t)=.one (.clo f cs):=by rw [← hx]; simp [AS.eval,ht]
     rw [hx2,hv] at hv2
     simp only [zQv,zQJ] at hv2
     obtain ⟨lb2,e,hc2⟩:=hv2
     injection e with _ _ e
     subst e
     have:=zGb (zUx ht hr2 args.toList) (jQv hc2)
     simpa using this
   ·exact .none
  ·exact (zJ4 o s).up
 ·exact (zJ4 o s).up
theorem jJj {Γ:Gam} {n:Dom} {o:Oper} {s s':AS} {vc:Prop} (h:aop P Γ n o s=some (vc,s')) {w0:World} {S:zZj} {ι:zQC} {a:Act} {w:World} {K:Act→World→Prop} {Q:Exit→Act→World→Prop}
  (hr:RepS w0 S n s ι a w) (hvc:vc) (hK:∀ ι' a' w',RepS w0 S n s' ι' a' w'→K a' w'):o.wp P a w K Q:=by
 unfold aop at h
 split at h
 ·rename_i hd
  split at h
  ·rename_i e he
   split at h
   ·rename_i vc' v ws hf
    simp only [Option.some.injEq,Prod.mk.injEq] at h
    obtain ⟨rfl,rfl⟩:=h
    refine jQP (Γ:=Γ) o s e he vc' v ws hf w0 S n ι a w K Q hr hvc fun ι' u w' h1 h2=>hK ι' _ w' (h1.put (fun k hk=>?_) h2)
    unfold jQr at hd
    rw [hk] at hd
    simpa using hd
   ·cases h
  ·cases h
 ·cases h
theorem jZr {Γ:Gam} {n:Dom} {o:Oper} {s s':AS} {vc:Prop} (h:aop P Γ n o s=some (vc,s')):∀ c,o.op≠.defer c:=by
 intro c hc
 unfold aop zKH prep at h
 rw [hc] at h
 simp at h
end
theorem jXy {P:Program} {Γ:Gam} {o:Oper} {ρ ρ':Operand→AV} (h:∀ x∈o.op.operands,ρ x=ρ' x):prep P Γ o ρ=prep P Γ o ρ':=by
 obtain ⟨dst,op,type,pos,after,guard⟩:=o
 have pairs:∀ ps:Array (Nat × Operand),(∀ x∈(ps.toList.map (·.2)),ρ x=ρ' x)→(ps.toList.map fun p=>(p.1,ρ p.2))=ps.toList.map fun p=>(p.1,ρ' p.2):=fun ps hp=>
  List.map_congr_left fun p hm=>by
   simp only [hp p.2 (List.mem_map.2 ⟨p,hm,rfl⟩)]
 have bnd:∀ (o:Option Operand) d,(∀ x,o=some x→ρ x=ρ' x)→zYO ρ o d=zYO ρ' o d:=fun o d ho=>by
  cases o with
  | none=>rfl
  | some x=>simp only [zYO,ho x rfl]
 cases op <;> simp only [Op.operands] at h <;> simp only [prep]
 case move x=>rw [h x (by simp)]
 case assign x=>rw [h x (by simp)]
 case pick c a b=>simp only [zHZ,h c (by simp),h a (by simp),h b (by simp)]
 case box t x=>simp only [jJN,h x (by simp)]
 case build t ps=>simp only [zGZ,pairs ps (fun x hx=>h x (by simpa using hx))]
 case buildSlice t n ps=>simp only [zYB,pairs ps (fun x hx=>h x (by simpa using hx))]
 case load t x=>simp only [jZN,h x (by simp)]
 case store t x y=>simp only [zGS,h x (by simp),h y (by simp)]
 case nilCheck x=>simp only [zJ8,h x (by simp)]
 case binOp op t x y t'=>simp only [jJO,h x (by simp),h y (by simp)]
 case unOp op t x=>simp only [opUn,h x (by simp)]
 case convert s d x=>simp only [jZO,zGX,zGW,h x (by simp)]
 case makeSlice t l c=>simp only [zJb,h l (by simp),h c (by simp)]
 case slice t x lo hi mx=>
  have e0:zJ7 P ρ t x lo hi mx=zJ7 P ρ' t x lo hi mx:=by
   simp only [zJ7,h x (by simp),bnd lo _ (fun y e=>h y (by subst e; simp)),bnd hi _ (fun y e=>h y (by subst e; simp))]
  have e1:∀ b n,zJ6 P ρ t b n lo hi mx=zJ6 P ρ' t b n lo hi mx:=fun b n=>by
   simp only [zJ6,bnd hi _ (fun y e=>h y (by subst e; simp))]
  simp only [zGT,h x (by simp),e0,e1]
 case fieldAddr t x f=>simp only [zJd,h x (by simp)]
 case field t x f=>simp only [zGV,h x (by simp)]
 case indexAddr t x y=>simp only [zJc,h x (by simp),h y (by simp)]
 case index t x y=>simp only [zGU,h x (by simp),h y (by simp)]
 case extract x i=>simp only [zVc,h x (by simp)]
 case makeFunc fn fs cs=>
  have h1:fs.toList.map ρ=fs.toList.map ρ':=List.map_congr_left fun x hx=>h x (by simp; left; simpa using hx)
  have h2:cs.toList.map ρ=cs.toList.map ρ':=List.map_congr_left fun x hx=>h x (by simp; right; simpa using hx)
  simp only [h1,h2]
 case call c=>
  obtain ⟨callee,args,ts⟩:=c
  have hargs:∀ x∈args.toList,ρ x=ρ' x:=fun x hx=>h x (by simp [Call.operands]; right; simpa using hx)
  have hm:args.toList.map ρ=args.toList.map ρ':=List.map_congr_left hargs
  cases callee with
  | value f=>
   cases f with
   | tmp t=>simp only [hm,h (.tmp t) (by simp [Call.operands])]
   | const v=>rfl
   | global g=>rfl
   | func f=>simp only [hm]
  | invoke r m=>rfl
  | builtin b=>
   simp only
   generalize args.toList=l at hargs
   match b,l with
   | .len,[x]=>simp only [hargs x (by simp)]
   | .max,[x,y]=>simp only [hargs x (by simp),hargs y (by simp)]
   | .min,[x,y]=>simp only [hargs x (by simp),hargs y (by simp)]
   | .append,[x,y]=>simp only [hargs x (by simp),hargs y (by simp)]
   | b,[]=>cases b <;> rfl
   | b,[x]=>cases b <;> first | rfl | simp only [hargs x (by simp)]
   | b,[x,y]=>cases b <;> first | rfl | simp only [hargs x (by simp),hargs y (by simp)]
   | b,_::_::_::_=>cases b <;> rfl
theorem jQ3 {P:Program} {Γ:Gam} {o:Oper} {ρ ρ':Operand→AV} (h:∀ x∈o.op.operands,ρ x=ρ' x):zKH P Γ o ρ=zKH P Γ o ρ':=by
 have h1:=jXy (P:=P) (Γ:=Γ) h
 unfold zKH
 rw [h1]
 cases hop:o.op with
 | call c=>
  obtain ⟨callee,args,ts⟩:=c
  rw [hop] at h
  simp only [Op.operands] at h
  have hargs:∀ x∈args.toList,ρ x=ρ' x:=fun x hx=>h x (by simp [Call.operands]; right; simpa using hx)
  have hm:args.toList.map ρ=args.toList.map ρ':=List.map_congr_left hargs
  cases callee with
  | value x=>
   cases x with
   | func f=>simp only [hm]
   | tmp t=>simp only [hm,h (.tmp t) (by simp [Call.operands])]
   | const v=>rfl
   | global g=>rfl
  | invoke r m=>rfl
  | builtin b=>rfl
 | _=>rfl
def Wide (F:Fence):Prop:=F=Fence.wide∨∃ l,F=Fence.wide.inRound l
theorem Wide.fn {F:Fence} (h:Wide F) (f:FuncId):F.fn f:=by
 rcases h with rfl | ⟨l,rfl⟩ <;> trivial
theorem Wide.depth {F:Fence} (h:Wide F):F.depth=none:=by
 rcases h with rfl | ⟨l,rfl⟩ <;> rfl
theorem Wide.room {F:Fence} (h:Wide F) (n:Nat):F.room n:=fun d hd=>by rw [h.depth] at hd; cases hd
theorem Wide.calls {F:Fence} (h:Wide F) {n:Nat} {P:Program} {f:FuncId} {args:Array Value} {w:World} {R:Ending→World→Prop} (hc:Calls P f args w R):CallsIn F n P f args w R:=by
 have h1:CallsIn Fence.wide n P f args w R:=callsIn_wide.2 hc
 rcases h with rfl | ⟨l,rfl⟩
 ·exact h1
 ·exact h1
theorem Wide.rows {F:Fence} (h:Wide F) {n:Nat} {P:Program} {row:String} {args:Array Value} {w:World} {R:Value→World→Prop} (hc:Rows P row args w R):RowsIn F n P row args w R:=by
 have h1:RowsIn Fence.wide n P row args w R:=fun c cs _=>by
  obtain ⟨v,w',r,st⟩:=hc c cs
  exact ⟨v,w',r,stepsIn_wide.2 st⟩
 rcases h with rfl | ⟨l,rfl⟩
 ·exact h1
 ·exact h1
theorem Oper.wpIn_of_wp {F:Fence} (hF:Wide F) {m:Nat} {P:Program} {o:Oper} (hd:∀ c,o.op≠.defer c) {a:Act} {w:World} {K:Act→World→Prop} {Q:Exit→Act→World→Prop} (h:o.wp P a w K Q):o.wpIn F m P a w K Q:=by
 refine ⟨fun f _=>hF.fn f,?_⟩
 rw [Oper.semAt_eq _ _ _ hd]
 unfold Oper.wp at h
 revert h
 generalize (execOp a.eval o).run P w=r
 intro h
 cases r with
 | ok nx w'=>
  cases nx with
  | value v=>exact h
  | skip=>exact h
  | defer d=>exact h
  | enter f args=>exact ⟨fun hx=>by (rw [hF.depth] at hx; cases hx),hF.calls h⟩
  | row row args=>exact ⟨fun hx=>by (rw [hF.depth] at hx; cases hx),hF.rows h⟩
  | _=>exact h.elim
 | halt s w'=>
  cases s with
  | panic v=>exact h
  | _=>exact h.elim
section
variable (P:Program) (Γ:Gam) (n:Dom) (ops:Array Oper)
def gv (s:AS) (o:Oper):Option Bool:=
 match o.guard with
 | none=>some true
 | some (j,want)=>match (ops[j]?).bind (·.dst) with
  | none=>none
  | some t=>match s.tm t with
   | .tup []=>some false
   | x=>x.bool?.map (·==want)
def zKR (i:Nat) (s:AS):Option (Prop × AS):=
 match ops[i]? with
 | none=>none
 | some o=>match gv ops s o with
  | none=>none
  | some true=>aop P Γ n o s
  | some false=>if jQr n o then some (True,s.put o.dst (.tup [])) else none
def touch (i:Nat) (s:AS):List Nat × List Nat:=
 match ops[i]? with
 | none=>([],[])
 | some o=>match gv ops s o with
  | some true=>match zKH P Γ o s.eval with
   | some e=>e.touch s.bx
   | none=>([],[])
  | _=>([],[])
def Runs (τ:Nat→List Nat × List Nat):List Nat→AS→AS→Prop
 | [],s,s'=>s=s'
 | i::R,s,s'=>∃ vc s1,zKR P Γ n ops i s=some (vc,s1)∧vc∧touch P Γ ops i s=τ i∧Runs τ R s1 s'
def jKN (x y:List Nat × List Nat):Bool:=
 (x.2.all fun b=>!y.1.contains b && !y.2.contains b) && (y.2.all fun b=>!x.1.contains b)
def jYM (τ:Nat→List Nat × List Nat) (i j:Nat):Bool:=
 match ops[i]?,ops[j]? with
 | some x,some y=>x.apart ops y && jKN (τ i) (τ j)
 | _,_=>false
end
section
variable {P:Program} {Γ:Gam} {n:Dom} {ops:Array Oper}
theorem zWP (s:AS) (d:Option Nat) (v:AV) (t:Nat) (h:d≠some t):(s.put d v).tm t=s.tm t:=by
 cases d with
 | none=>rfl
 | some d=>simp only [AS.put]; rw [if_neg (fun e=>h (by rw [e]))]
theorem zVU (s:AS) (d:Option Nat) (v:AV):(s.put d v).bx=s.bx:=by cases d <;> rfl
theorem zZR:∀ (bs:List Nat) (Bs:List Bx) (s:AS) (b:Nat),b ∉ bs→(s.setBs bs Bs).bx b=s.bx b
 | [],_,_,_,_=>by simp [AS.setBs]
 | _::_,[],_,_,_=>by simp [AS.setBs]
 | x::bs,B::Bs,s,b,h=>by
  rw [AS.setBs,zZR bs Bs _ b (fun e=>h (by simp [e]))]
  simp only [AS.setB]
  rw [if_neg (fun e=>h (by simp [e]))]
theorem zXY:∀ (bs:List Nat) (Bs:List Bx) (s s':AS) (b:Nat),(b ∉ bs→s.bx b=s'.bx b)→(Bs.length < bs.length→s.bx b=s'.bx b)→(s.setBs bs Bs).bx b=(s'.setBs bs Bs).bx b
 | [],_,_,_,_,h,_=>by simpa [AS.setBs] using h (by simp)
 | _::_,[],_,_,_,_,h=>by simpa [AS.setBs] using h (by simp)
 | x::bs,B::Bs,s,s',b,h,h'=>by
  rw [AS.setBs,AS.setBs]
  by_cases e:b=x
  ·refine zXY bs Bs _ _ b (fun _=>by simp [AS.setB,e]) (fun _=>by simp [AS.setB,e])
  ·refine zXY bs Bs _ _ b (fun hb=>?_) (fun hl=>?_)
   ·simp only [AS.setB,if_neg e]; exact h (by simp [e,hb])
   ·simp only [AS.setB,if_neg e]; exact h' (by simpa using hl)
theorem jXU {i:Nat} {s s1:AS} {vc:Prop} (h:zKR P Γ n ops i s=some (vc,s1)):∃ o v wrs bs,ops[i]?=some o∧wrs=(touch P Γ ops i s).2∧s1=(s.setBs wrs bs).put o.dst v:=by
 unfold zKR at h
 split at h
 ·cases h
 ·rename_i o ho
  split at h
  ·cases h
  ·rename_i hg
   unfold aop at h
   split at h
   ·split at h
    ·rename_i e he
     split at h
     ·rename_i vc' v ws hf
      simp only [Option.some.injEq,Prod.mk.injEq] at h
      obtain ⟨rfl,rfl⟩:=h
      exact ⟨o,v,ws.map (·.1),ws.map (·.2),ho,by simp [touch,ho,hg,he,Eff2.touch,hf],rfl⟩
     ·cases h
    ·cases h
   ·cases h
  ·rename_i hg
   split at h
   ·simp only [Option.some.injEq,Prod.mk.injEq] at h
    obtain ⟨rfl,rfl⟩:=h
    exact ⟨o,.tup [],[],[],ho,by simp [touch,ho,hg],by simp [AS.setBs]⟩
   ·cases h
theorem zUw {i:Nat} {o:Oper} (ho:ops[i]?=some o) {s s':AS} (htm:∀ t∈o.looksAt ops,s.tm t=s'.tm t) :
  (∀ b∈(touch P Γ ops i s).1,s.bx b=s'.bx b)→touch P Γ ops i s=touch P Γ ops i s'∧(∀ vc s1,zKR P Γ n ops i s=some (vc,s1) →
   ∃ v bs,s1=(s.setBs (touch P Γ ops i s).2 bs).put o.dst v∧zKR P Γ n ops i s'=some (vc,(s'.setBs (touch P Γ ops i s).2 bs).put o.dst v)):=by
 have hgv:gv ops s o=gv ops s' o:=by
  unfold gv
  cases hg:o.guard with
  | none=>rfl
  | some jw=>
   obtain ⟨j,want⟩:=jw
   simp only
   cases ht:(ops[j]?).bind (·.dst) with
   | none=>rfl
   | some t=>
    have:s.tm t=s'.tm t:=htm t (by simp [Oper.looksAt,hg,ht])
    simp only [this]
 have hev:∀ x∈o.op.operands,s.eval x=s'.eval x:=fun x hx=>by
  cases x with
  | tmp t=>exact htm t (by simp only [Oper.looksAt,List.mem_append,List.mem_filterMap]; exact .inl ⟨_,by simpa using hx,rfl⟩)
  | const v=>rfl
  | global g=>rfl
  | func f=>rfl
 have hprep:zKH P Γ o s.eval=zKH P Γ o s'.eval:=jQ3 hev
 intro hbx
 have htouch:touch P Γ ops i s=touch P Γ ops i s':=by
  simp only [touch,ho,← hgv,← hprep] at hbx ⊢
  cases hg:gv ops s o with
  | none=>rfl
  | some g=>
   cases g with
   | false=>rfl
   | true=>
    rw [hg] at hbx
    cases he:zKH P Γ o s.eval with
    | none=>rfl
    | some e=>
     rw [he] at hbx
     simp only at hbx ⊢
     exact e.touch_congr hbx
 refine ⟨htouch,fun vc s1 h=>?_⟩
 unfold zKR at h ⊢
 simp only [ho] at h ⊢
 rw [← hgv]
 cases hg:gv ops s o with
 | none=>rw [hg] at h; cases h
 | some g=>
  rw [hg] at h
  cases g with
  | false=>
   simp only at h ⊢
   split at h
   ·rename_i hd
    simp only [Option.some.injEq,Prod.mk.injEq] at h
    obtain ⟨rfl,rfl⟩:=h
    have ht:(touch P Γ ops i s).2=[]:=by simp [touch,ho,hg]
    exact ⟨.tup [],[],by rw [ht]; simp [AS.setBs],by rw [ht,if_pos hd]; simp [AS.setBs]⟩
   ·cases h
  | true=>
   simp only at h ⊢
   unfold aop at h ⊢
   split at h
   ·rename_i hd
    rw [if_pos hd,← hprep]
    cases he:zKH P Γ o s.eval with
    | none=>rw [he] at h; cases h
    | some e=>
     rw [he] at h
     simp only at h ⊢
     have ht:touch P Γ ops i s=e.touch s.bx:=by simp [touch,ho,hg,he]
     rw [ht] at hbx
     obtain ⟨m1,m2⟩:=e.agree hbx
     rw [← m1] at m2 ⊢
     rw [← m2]
     cases hf:e.f (e.rds.map s.bx) ((e.more (e.rds.map s.bx)).map s.bx) with
     | none=>rw [hf] at h; cases h
     | some r=>
      obtain ⟨vc',v,ws⟩:=r
      rw [hf] at h
      simp only [Option.some.injEq,Prod.mk.injEq] at h ⊢
      obtain ⟨rfl,rfl⟩:=h
      have ht2:(touch P Γ ops i s).2=ws.map (·.1):=by rw [ht]; simp [Eff2.touch,hf]
      exact ⟨v,ws.map (·.2),by rw [ht2]; rfl,rfl,by rw [ht2]; rfl⟩
   ·cases h
theorem swap {τ:Nat→List Nat × List Nat} {i j:Nat} (hi:jYM ops τ j i=true) {s s1 s2:AS} {v1 v2:Prop}
  (h1:zKR P Γ n ops j s=some (v1,s1)) (t1:touch P Γ ops j s=τ j) (h2:zKR P Γ n ops i s1=some (v2,s2)) (t2:touch P Γ ops i s1=τ i) :
  ∃ s1',zKR P Γ n ops i s=some (v2,s1')∧touch P Γ ops i s=τ i∧zKR P Γ n ops j s1'=some (v1,s2)∧touch P Γ ops j s1'=τ j:=by
 unfold jYM at hi
 split at hi
 ·rename_i oj oi hoj hoi
  simp only [Bool.and_eq_true] at hi
  obtain ⟨hap,hb⟩:=hi
  obtain ⟨a1,a2,a3⟩:=Oper.apart_spec hap
  simp only [jKN,Bool.and_eq_true,List.all_eq_true,Bool.not_eq_true'] at hb
  obtain ⟨b1,b2⟩:=hb
  obtain ⟨o',v,wrs,bs,ho',hw,hs1⟩:=jXU h1
  rw [hoj] at ho'
  injection ho' with ho'
  subst ho'
  rw [t1] at hw
  have htm1:∀ t∈oi.looksAt ops,s1.tm t=s.tm t:=fun t ht=>by
   rw [hs1,zWP _ _ _ _ (fun e=>a1 t e ht),zZI]
  have hbx1:∀ b,b ∉ (τ j).2→s1.bx b=s.bx b:=fun b hb=>by
   rw [hs1,zVU,zZR _ _ _ _ (by rw [hw]; exact hb)]
  obtain ⟨c1,c2⟩:=zUw (P:=P) (Γ:=Γ) (n:=n) hoi htm1 (by
   rw [t2]
   exact fun b hb=>hbx1 b (fun hm=>by
    have:=b1 b hm
    simp only [List.contains_eq_mem,decide_eq_false_iff_not] at this
    exact this.1 hb))
  rw [t2] at c1 c2
  obtain ⟨v',bs',e1,e2⟩:=c2 _ _ h2
  have htm2:∀ t∈oj.looksAt ops,s.tm t=((s.setBs (τ i).2 bs').put oi.dst v').tm t:=fun t ht=>by
   rw [zWP _ _ _ _ (fun e=>a3 t e ht),zZI]
  obtain ⟨d1,d2⟩:=zUw (P:=P) (Γ:=Γ) (n:=n) hoj htm2 (by
   rw [t1]
   intro b hb
   rw [zVU,zZR]
   intro hm
   have:=b2 b hm
   simp only [List.contains_eq_mem,decide_eq_false_iff_not] at this
   exact this hb)
  rw [t1] at d1 d2
  obtain ⟨v'',bs'',f1,f2⟩:=d2 _ _ h1
  refine ⟨_,e2,c1.symm,?_,d1.symm⟩
  rw [f2]
  congr 1
  congr 1
  rw [e1,f1]
  apply AS.ext'
  ·funext t
   have q:∀ (s:AS) (d:Option Nat) (x:AV) (bs:List Nat) (Bs:List Bx),((s.setBs bs Bs).put d x).tm=(s.put d x).tm:=fun s d x bs Bs=>by
    cases d with
    | none=>simp [AS.put,zZI]
    | some d=>simp [AS.put,zZI]
   by_cases g1:oj.dst=some t
   ·have g2:oi.dst≠some t:=a2 t g1
    rw [zWP _ oi.dst _ _ g2,zZI,g1]
    simp [AS.put]
   ·rw [zWP _ oj.dst _ _ g1,zZI]
    by_cases g2:oi.dst=some t
    ·rw [g2]; simp [AS.put]
    ·rw [zWP _ oi.dst _ _ g2,zWP _ oi.dst _ _ g2,zZI,zZI,zWP _ oj.dst _ _ g1,zZI]
  ·funext b
   rw [zVU,zVU]
   by_cases g1:b∈(τ j).2
   ·have hni:b ∉ (τ i).2:=fun hm=>by
     have:=b1 b g1
     simp only [List.contains_eq_mem,decide_eq_false_iff_not] at this
     exact this.2 hm
    rw [zZR (τ i).2 bs' _ b hni,zVU]
    refine zXY _ _ _ _ _ (fun h=>absurd g1 h) (fun _=>?_)
    rw [zVU,zZR _ _ _ _ hni]
   ·rw [zZR (τ j).2 bs'' _ b g1,zVU]
    refine zXY _ _ _ _ _ (fun _=>?_) (fun _=>?_) <;> rw [zVU,zZR _ _ _ _ g1]
 ·cases hi
theorem jWk {τ:Nat→List Nat × List Nat} {i:Nat} {B:List Nat} {s':AS}:∀ {A:List Nat} {s:AS},(∀ j∈A,jYM ops τ j i=true)→Runs P Γ n ops τ (A++i::B) s s' →
  ∃ vc s1,zKR P Γ n ops i s=some (vc,s1)∧vc∧touch P Γ ops i s=τ i∧Runs P Γ n ops τ (A++B) s1 s'
 | [],s,_,h=>h
 | j::A,s,hA,h=>by
  obtain ⟨vj,sj,h1,h2,h3,h4⟩:=h
  obtain ⟨vi,si,g1,g2,g3,g4⟩:=jWk (fun k hk=>hA k (by simp [hk])) h4
  obtain ⟨s1',e1,e2,e3,e4⟩:=swap (hA j (by simp)) h1 h3 g1 g3
  exact ⟨vi,s1',e1,g2,e2,vj,si,e3,h2,e4,g4⟩
end
section
variable (ops:Array Oper)
def jZb (k:Nat) (t:List Nat):List Edge→Nat
 | []=>0
 | e::es=>match Region.binds .any e && decide (e.on < k) with
  | true=>(2 ^ e.on ||| t.getD e.on 0) ||| jZb k t es
  | false=>jZb k t es
def zJM:Nat→List Nat
 | 0=>[]
 | k+1=>zJM k++[match ops[k]? with
  | some o=>jZb k (zJM k) o.after.toList
  | none=>0]
def zWs (j i:Nat):Bool:=((zJM ops ops.size).getD i 0).testBit j
def jJl (listed:Array Bool):Prop:=∀ i o,ops[i]?=some o→listed.getD i true=true→i < listed.size→∀ e∈o.after.toList,Region.binds .any e=true→listed.getD e.on false=true
theorem zJe:∀ k,(zJM ops k).length=k
 | 0=>rfl
 | k+1=>by simp [zJM,zJe k]
theorem zJ9:∀ {n k:Nat},k < n→(zJM ops n).getD k 0=match ops[k]? with
  | some o=>jZb k (zJM ops k) o.after.toList
  | none=>0
 | n+1,k,h=>by
  simp only [zJM,List.getD_eq_getElem?_getD]
  by_cases e:k < n
  ·rw [List.getElem?_append_left (by rw [zJe]; exact e)]
   have:=zJ9 (n:=n) e
   rwa [List.getD_eq_getElem?_getD] at this
  ·have:k=n:=by omega
   subst this
   rw [List.getElem?_append_right (by rw [zJe]; omega),zJe]
   simp
theorem zW4 {k j:Nat} {t:List Nat}:∀ {es:List Edge},(jZb k t es).testBit j=true→∃ e∈es,Region.binds .any e=true∧e.on < k∧(e.on=j∨(t.getD e.on 0).testBit j=true)
 | [],h=>by simp [jZb] at h
 | e::es,h=>by
  simp only [jZb] at h
  cases hb:Region.binds .any e && decide (e.on < k) with
  | false=>
   rw [hb] at h
   obtain ⟨e',h1,h2⟩:=zW4 h
   exact ⟨e',by simp [h1],h2⟩
  | true=>
   rw [hb] at h
   simp only [Nat.testBit_or,Bool.or_eq_true,Nat.testBit_two_pow] at h
   simp only [Bool.and_eq_true,decide_eq_true_eq] at hb
   rcases h with (h | h) | h
   ·exact ⟨e,by simp,hb.1,hb.2,.inl (by simpa using h)⟩
   ·exact ⟨e,by simp,hb.1,hb.2,.inr h⟩
   ·obtain ⟨e',h1,h2⟩:=zW4 h
    exact ⟨e',by simp [h1],h2⟩
theorem zHo {listed:Array Bool} (hc:jJl ops listed) (hsz:listed.size=ops.size):∀ (i j:Nat) (o:Oper),ops[i]?=some o→(∀ e∈o.after.toList,Region.binds .any e=true→listed.getD e.on false=true)→zWs ops j i=true→listed.getD j false=true:=by
 intro i
 induction i using Nat.strongRecOn with
 | ind i ih=>
  intro j o ho haft hb
  have hi:i < ops.size:=(Array.getElem?_eq_some_iff.1 ho).1
  unfold zWs at hb
  rw [zJ9 ops hi,ho] at hb
  obtain ⟨e,h1,h2,h3,h4⟩:=zW4 hb
  have hl:=haft e h1 h2
  rcases h4 with rfl | h4
  ·exact hl
  ·have he:e.on < ops.size:=by omega
   refine ih e.on h3 j ops[e.on] (Array.getElem?_eq_getElem he) ?_ ?_
   ·refine hc e.on _ (Array.getElem?_eq_getElem he) ?_ (by omega)
    have:e.on < listed.size:=by omega
    simp [Array.getD,this] at hl ⊢
    exact hl
   ·unfold zWs
    rw [zJ9 ops he]
    rw [zJ9 ops h3] at h4
    exact h4
def jJv (τ:Nat→List Nat × List Nat):Bool:=
 (List.range ops.size).all fun i=>((ops[i]?).any fun o=>o.after.all fun e=>!Region.binds .any e || decide (e.on < i)) && (List.range i).all fun j=>zWs ops j i || jYM ops τ j i
end
section
variable {P:Program} {Γ:Gam} {n:Dom} {ops:Array Oper}
theorem jQe {w0:World} {S:zZj} {s:AS} {ι:zQC} {a:Act} {w:World} (h:RepS w0 S n s ι a w) {o:Oper} {g:Bool} (hg:gv ops s o=some g):Region.wanted o (yielded ops a.tmps)=g:=by
 unfold gv at hg
 unfold Region.wanted
 cases ho:o.guard with
 | none=>rw [ho] at hg; simp only [Option.some.injEq] at hg; exact hg
 | some jw=>
  obtain ⟨j,want⟩:=jw
  rw [ho] at hg
  simp only at hg ⊢
  cases ht:(ops[j]?).bind (·.dst) with
  | none=>rw [ht] at hg; cases hg
  | some t=>
   rw [ht] at hg
   simp only at hg
   have hr:=h.tm t
   unfold yielded
   rw [ht]
   simp only [Option.bind_some]
   split at hg
   ·rename_i hs
    rw [hs] at hr
    simp only [zQv] at hr
    obtain ⟨cur,e,hc⟩:=hr
    have hcur:cur=#[]:=by
     cases hcl:cur.toList with
     | nil=>exact Array.toList_eq_nil_iff.1 hcl
     | cons _ _=>rw [hcl] at hc; simp only [RepAVs] at hc
    subst hcur
    simp only [Option.some.injEq] at hg
    subst hg
    rw [Array.getD_eq_getD_getElem?] at e
    cases hx:a.tmps[t]? with
    | none=>rfl
    | some x=>
     rw [hx] at e
     simp only [Option.getD_some] at e
     subst e
     rfl
   ·cases hb:(s.tm t).bool? with
    | none=>rw [hb] at hg; cases hg
    | some b=>
     rw [hb] at hg
     simp only [Option.map_some,Option.some.injEq] at hg
     subst hg
     have e:=zJa hr hb
     rw [Array.getD_eq_getD_getElem?] at e
     cases hx:a.tmps[t]? with
     | none=>rw [hx] at e; simp [undef] at e
     | some x=>
      rw [hx] at e
      simp only [Option.getD_some] at e
      subst e
      simp only
      cases b <;> cases want <;> rfl
theorem zUv {F:Fence} {m:Nat} (hF:Wide F) {w0:World} {S:zZj} {s s1:AS} {ι:zQC} {a:Act} {w:World} {i:Nat} {vc:Prop} (h:zKR P Γ n ops i s=some (vc,s1)) (hr:RepS w0 S n s ι a w) (hvc:vc) {K:Act→World→Prop} {Q:Exit→Act→World→Prop}
  (hK:∀ ι' a' w',RepS w0 S n s1 ι' a' w'→K a' w'):wpOpIn F m P ops Q i K a w:=by
 unfold zKR at h
 unfold Go.wpOpIn
 split at h
 ·cases h
 ·rename_i o ho
  simp only [ho]
  split at h
  ·cases h
  ·rename_i hg
   rw [if_pos (jQe hr hg)]
   exact Oper.wpIn_of_wp hF (jZr h) (jJj h hr hvc hK)
  ·rename_i hg
   rw [jQe hr hg,if_neg (by simp)]
   split at h
   ·rename_i hd
    simp only [Option.some.injEq,Prod.mk.injEq] at h
    obtain ⟨rfl,rfl⟩:=h
    refine ⟨fun _ _=>hF.fn _,hK ι _ w (hr.put (fun k hk=>?_) (by simp only [zQv]; exact ⟨_,rfl,by simp only [RepAVs]⟩))⟩
    unfold jQr at hd
    rw [hk] at hd
    simpa using hd
   ·cases h
theorem zUZ {F:Fence} {m:Nat} (hF:Wide F) {τ:Nat→List Nat × List Nat} {w0:World} {S:zZj} {Q:Exit→Act→World→Prop} {s':AS}:∀ {R:List Nat} {s:AS} {ι:zQC} {a:Act} {w:World},Runs P Γ n ops τ R s s'→RepS w0 S n s ι a w →
  (∀ ι' a' w',RepS w0 S n s' ι' a' w'→Q .normal a' w')→wpOpsIn F m P ops Q R a w
 | [],s,ι,a,w,h,hr,hQ=>by
  have h:s=s':=h
  subst h; exact hQ ι a w hr
 | i::R,s,ι,a,w,⟨vc,s1,h1,h2,_,h4⟩,hr,hQ=>by
  rw [wpOpsIn_cons]
  exact zUv hF h1 hr h2 fun ι' a' w' hr'=>zUZ hF h4 hr' hQ
def left (ops:Array Oper) (listed:Array Bool):List Nat:=(List.range ops.size).filter fun i=>!listed.getD i true
theorem jJq {F:Fence} {m:Nat} (hF:Wide F) {τ:Nat→List Nat × List Nat} (hok:jJv ops τ=true) {w0:World} {S:zZj} {Q:Exit→Act→World→Prop} {s':AS} (hQ:∀ ι' a' w',RepS w0 S n s' ι' a' w'→Q .normal a' w') :
  ∀ (fuel:Nat) (listed:Array Bool) (s:AS) (ι:zQC) (a:Act) (w:World),jJl ops listed→listed.size=ops.size→(left ops listed).length≤fuel→Runs P Γ n ops τ (left ops listed) s s'→RepS w0 S n s ι a w→wpAnyIn F m P .any ops Q fuel listed a w:=by
 simp only [jJv,List.all_eq_true,Bool.and_eq_true] at hok
 have hready:∀ (listed:Array Bool) i,i∈Region.ready .any ops listed↔i < ops.size∧listed.getD i true=false∧((ops[i]?).map (·.after.all fun e=>!Region.binds .any e || listed.getD e.on false)).getD false=true:=by
  intro listed i
  simp [Region.ready,List.mem_filter]
 have hempty:∀ listed:Array Bool,listed.size=ops.size→Region.ready .any ops listed=[]→left ops listed=[]:=by
  intro listed hsz hr
  cases hl:left ops listed with
  | nil=>rfl
  | cons i R=>
   exfalso
   have hi:i∈left ops listed:=by rw [hl]; simp
   simp only [left,List.mem_filter,List.mem_range,Bool.not_eq_true'] at hi
   have hsorted:∀ j,j < i→listed.getD j true=true:=by
    intro j hj
    cases hjv:listed.getD j true with
    | true=>rfl
    | false=>
     exfalso
     have hjm:j∈left ops listed:=by
      simp only [left,List.mem_filter,List.mem_range,Bool.not_eq_true']
      exact ⟨by omega,hjv⟩
     have hp:(left ops listed).Pairwise (· < ·):=List.Pairwise.filter _ List.pairwise_lt_range
     rw [hl] at hjm hp
     rcases List.mem_cons.1 hjm with e | hm
     ·omega
     ·have:=(List.pairwise_cons.1 hp).1 j hm
      omega
   have:i∈Region.ready .any ops listed:=by
    rw [hready]
    refine ⟨hi.1,hi.2,?_⟩
    have h1:=(hok i (List.mem_range.2 hi.1)).1
    cases ho:ops[i]? with
    | none=>rw [ho] at h1; simp at h1
    | some o=>
     rw [ho] at h1
     simp only [Option.any_some,Option.map_some,Option.getD_some] at h1 ⊢
     rw [Array.all_eq_true_iff_forall_mem] at h1 ⊢
     intro e he
     have h2:=h1 e he
     simp only [Bool.or_eq_true,Bool.not_eq_true',decide_eq_true_eq] at h2 ⊢
     rcases h2 with h2 | h2
     ·exact .inl h2
     ·right
      have h3:=hsorted e.on h2
      have hlt:e.on < listed.size:=by omega
      simp [Array.getD,hlt] at h3 ⊢
      exact h3
   rw [hr] at this
   simp at this
 intro fuel
 induction fuel with
 | zero=>
  intro listed s ι a w hcl hsz hl hruns hr
  have h0:left ops listed=[]:=List.eq_nil_of_length_eq_zero (by omega)
  rw [h0] at hruns
  have hs:s=s':=hruns
  subst hs
  refine ⟨?_,hQ ι a w hr⟩
  cases hre:Region.ready .any ops listed with
  | nil=>rfl
  | cons i R=>
   exfalso
   have:i∈Region.ready .any ops listed:=by rw [hre]; simp
   rw [hready] at this
   have hm:i∈left ops listed:=by
    simp only [left,List.mem_filter,List.mem_range,Bool.not_eq_true']
    exact ⟨this.1,this.2.1⟩
   rw [h0] at hm
   simp at hm
 | succ fuel ih=>
  intro listed s ι a w hcl hsz hl hruns hr
  refine ⟨fun he=>?_,fun i hi=>?_⟩
  ·have h0:=hempty listed hsz he
   rw [h0] at hruns
   have hs:s=s':=hruns
   subst hs
   exact hQ ι a w hr
  ·rw [hready] at hi
   obtain ⟨hlt,hnl,haft⟩:=hi
   have hm:i∈left ops listed:=by
    simp only [left,List.mem_filter,List.mem_range,Bool.not_eq_true']
    exact ⟨hlt,hnl⟩
   obtain ⟨A,B,hAB⟩:=List.append_of_mem hm
   have hp:(left ops listed).Pairwise (· < ·):=List.Pairwise.filter _ List.pairwise_lt_range
   rw [hAB] at hp
   have hA:∀ j∈A,j < i∧listed.getD j true=false:=fun j hj=>by
    refine ⟨(List.pairwise_append.1 hp).2.2 j hj i (by simp),?_⟩
    have:j∈left ops listed:=by rw [hAB]; simp [hj]
    simp only [left,List.mem_filter,List.mem_range,Bool.not_eq_true'] at this
    exact this.2
   have hind:∀ j∈A,jYM ops τ j i=true:=fun j hj=>by
    obtain ⟨h1,h2⟩:=hA j hj
    have h3:=(hok i (List.mem_range.2 hlt)).2 j (List.mem_range.2 h1)
    simp only [Bool.or_eq_true] at h3
    rcases h3 with h3 | h3
    ·exfalso
     cases ho:ops[i]? with
     | none=>rw [ho] at haft; simp at haft
     | some o=>
      rw [ho] at haft
      simp only [Option.map_some,Option.getD_some] at haft
      have h4:=zHo ops hcl hsz i j o ho (fun e he hb=>by
       have:=Array.all_eq_true_iff_forall_mem.1 haft e (Array.mem_toList_iff.1 he)
       simpa [hb] using this) h3
      by_cases hlt':j < listed.size
      ·simp [Array.getD,hlt'] at h2 h4
       rw [h2] at h4; cases h4
      ·simp [Array.getD,hlt'] at h2
    ·exact h3
   rw [hAB] at hruns
   obtain ⟨vc,s1,g1,g2,_,g4⟩:=jWk hind hruns
   have hleft:left ops (listed.setIfInBounds i true)=A++B:=by
    have hnodup:(left ops listed).Nodup:=(List.nodup_range).filter _
    have e1:left ops (listed.setIfInBounds i true)=(left ops listed).filter fun k=>decide (k≠i):=by
     simp only [left,List.filter_filter]
     apply List.filter_congr
     intro k hk
     have hk':k < ops.size:=List.mem_range.1 hk
     by_cases e:k=i
     ·subst e
      simp [Array.getD,hsz,hlt]
     ·have:(listed.setIfInBounds i true).getD k true=listed.getD k true:=by
       simp only [Array.getD_eq_getD_getElem?,Array.getElem?_setIfInBounds_ne (Ne.symm e)]
      rw [this]; simp [e]
    rw [e1,hAB,List.filter_append,List.filter_cons]
    rw [hAB] at hnodup
    have hn:=List.nodup_append.1 hnodup
    have hA':A.filter (fun k=>decide (k≠i))=A:=List.filter_eq_self.2 fun k hk=>by
     have:=(hA k hk).1
     simp; omega
    have hB':B.filter (fun k=>decide (k≠i))=B:=List.filter_eq_self.2 fun k hk=>by
     have:i≠k:=fun e=>by
      have:=(List.nodup_cons.1 hn.2.1).1
      exact this (by rw [e]; exact hk)
     simp; exact Ne.symm this
    rw [hA',hB']
    simp
   refine zUv hF g1 hr g2 fun ι' a' w' hr'=>?_
   have hcl2:jJl ops (listed.setIfInBounds i true):=by
    intro k ok hk hkl hks e he hb
    have hmono:∀ q,listed.getD q false=true→(listed.setIfInBounds i true).getD q false=true:=fun q hq=>by
     by_cases e':q=i
     ·subst e'
      simp [Array.getD,hsz,hlt]
     ·simp only [Array.getD_eq_getD_getElem?,Array.getElem?_setIfInBounds_ne (Ne.symm e')] at hq ⊢
      exact hq
    refine hmono _ ?_
    by_cases e':k=i
    ·subst e'
     rw [hk] at haft
     simp only [Option.map_some,Option.getD_some] at haft
     have:=Array.all_eq_true_iff_forall_mem.1 haft e (Array.mem_toList_iff.1 he)
     simpa [hb] using this
    ·have hkl':listed.getD k true=true:=by
      simp only [Array.getD_eq_getD_getElem?,Array.getElem?_setIfInBounds_ne (Ne.symm e')] at hkl ⊢
      exact hkl
     exact hcl k ok hk hkl' (by simpa using hks) e he hb
   refine ih _ s1 ι' a' w' hcl2 (by simpa using hsz) ?_ (by rw [hleft]; exact g4) hr'
   rw [hleft]
   have:(left ops listed).length=(A++B).length+1:=by rw [hAB]; simp; omega
   omega
end
abbrev Kn:=Nat→Option Bool
def kx (kn:Kn):Operand→Option Bool
 | .const (.bool b)=>some b
 | .tmp t=>kn t
 | _=>none
def knOf (kn:Kn):Op→Option Bool
 | .move x | .assign x=>kx kn x
 | .pick c x y=>match kx kn c with
  | some true=>kx kn x
  | some false=>kx kn y
  | none=>none
 | .unOp .not _ x=>(kx kn x).map (!·)
 | _=>none
def zJv (kn:Kn) (d:Option Nat) (b:Option Bool):Kn:=
 match d with
 | some d=>fun t=>if t=d then b else kn t
 | none=>kn
def jYg (x:AV) (b:Bool):AV:=
 match x with
 | .one (.d (.bool _))=>.one (.d (.bool b))
 | .one (.lit (.bool _))=>.one (.lit (.bool b))
 | x=>x
def AS.fix (s:AS) (t:Nat) (b:Bool):AS:=s.put (some t) (jYg (s.tm t) b)
def KnOK (kn:Kn) (s:AS):Prop:=∀ t b,kn t=some b→(s.tm t).bool?=some b
inductive Gd where
  | stuck
  | yes
  | no
  | ask (t:Nat) (b want:Bool)
def gd (ops:Array Oper) (kn:Kn) (s:AS) (o:Oper):Gd:=
 match o.guard with
 | none=>.yes
 | some (j,want)=>match (ops[j]?).bind (·.dst) with
  | none=>.stuck
  | some t=>match kn t with
   | some b=>if b=want then .yes else .no
   | none=>match s.tm t with
    | .tup []=>.no
    | .one (.d (.bool b))=>.ask t b want
    | .one (.lit (.bool b))=>.ask t b want
    | _=>.stuck
section
variable (P:Program) (Γ:Gam) (n:Dom)
def aopT (o:Oper) (s:AS):Option (Prop × AS × (List Nat × List Nat)):=
 if jQr n o then
  match zKH P Γ o s.eval with
  | some e=>match e.f (e.rds.map s.bx) ((e.more (e.rds.map s.bx)).map s.bx) with
   | some (vc,v,ws)=>some (vc,(s.setL ws).put o.dst v,(e.rds++e.more (e.rds.map s.bx),ws.map (·.1)))
   | none=>none
  | none=>none
 else none
def zYT (ops:Array Oper):List Nat→Kn→AS→List (List Nat × List Nat)→(Kn→AS→List (List Nat × List Nat)→Prop)→Prop
 | [],kn,s,acc,Q=>Q kn s acc
 | i::R,kn,s,acc,Q=>
  match ops[i]? with
  | none=>False
  | some o=>match gd ops kn s o with
   | .stuck=>False
   | .yes=>match aopT P Γ n o s with
    | some (vc,s',t)=>vc∧zYT ops R (zJv kn o.dst (knOf kn o.op)) s' (t::acc) Q
    | none=>False
   | .no=>match jQr n o with
    | true=>zYT ops R (zJv kn o.dst none) (s.put o.dst (.tup [])) (([],[])::acc) Q
    | false=>False
   | .ask t b want=>
    (b=want→match aopT P Γ n o (s.fix t want) with
     | some (vc,s',th)=>vc∧zYT ops R (zJv (zJv kn (some t) (some want)) o.dst (knOf (zJv kn (some t) (some want)) o.op)) s' (th::acc) Q
     | none=>False) ∧
    (b=(!want)→match jQr n o with
     | true=>zYT ops R (zJv (zJv kn (some t) (some (!want))) o.dst none) ((s.fix t (!want)).put o.dst (.tup [])) (([],[])::acc) Q
     | false=>False)
end
theorem jXS {x:AV} {b:Bool} (h:x.bool?=some b):jYg x b=x:=by
 unfold AV.bool? at h
 split at h
 ·injection h with h; subst h; rfl
 ·injection h with h; subst h; rfl
 ·cases h
theorem jZ9 {s:AS} {t:Nat} {b:Bool} (h:(s.tm t).bool?=some b):s.fix t b=s:=by
 unfold AS.fix
 rw [jXS h]
 apply AS.ext'
 ·funext t'
  simp only [AS.put]
  split
  ·rename_i e; rw [e]
  ·rfl
 ·rfl
theorem zG8 {kn:Kn} {s:AS} (h:KnOK kn s) {x:Operand} {b:Bool} (hx:kx kn x=some b):(s.eval x).bool?=some b:=by
 unfold kx at hx
 split at hx
 ·injection hx with hx; subst hx; rfl
 ·exact h _ _ hx
 ·cases hx
section
variable {P:Program} {Γ:Gam} {n:Dom} {ops:Array Oper}
theorem jKh {o:Oper} {s s':AS} {vc:Prop} {t:List Nat × List Nat} (h:aopT P Γ n o s=some (vc,s',t)):aop P Γ n o s=some (vc,s')∧∃ e,zKH P Γ o s.eval=some e∧t=e.touch s.bx:=by
 unfold aopT at h
 unfold aop
 split at h
 ·rename_i hd
  rw [if_pos hd]
  split at h
  ·rename_i e he
   split at h
   ·rename_i vc' v ws hf
    simp only [Option.some.injEq,Prod.mk.injEq] at h
    obtain ⟨rfl,rfl,rfl⟩:=h
    refine ⟨?_,e,he,by simp [Eff2.touch,hf]⟩
    try rw [he]
    simp only [hf]
   ·cases h
  ·cases h
 ·cases h
theorem jV7 {kn:Kn} {s s':AS} (h:KnOK kn s) {o:Oper} {vc:Prop} (ha:aop P Γ n o s=some (vc,s')):KnOK (zJv kn o.dst (knOf kn o.op)) s':=by
 unfold aop at ha
 split at ha
 ·split at ha
  ·rename_i e he
   split at ha
   ·rename_i vc' v bs hf
    simp only [Option.some.injEq,Prod.mk.injEq] at ha
    obtain ⟨rfl,rfl⟩:=ha
    intro t b hb
    cases hd:o.dst with
    | none=>
     rw [hd] at hb
     have hb:kn t=some b:=hb
     show ((s.setL bs).tm t).bool?=some b
     rw [AS.setL,zZI]
     exact h t b hb
    | some d=>
     rw [hd] at hb
     simp only [zJv] at hb
     by_cases e1:t=d
     ·rw [if_pos e1] at hb
      simp only [AS.put,if_pos e1]
      unfold knOf at hb
      unfold zKH at he
      have he':(prep P Γ o s.eval).map Eff.up=some e:=by
       split at he
       ·rename_i c hc
        rw [hc] at hb
        cases hb
       ·exact he
      clear he
      obtain ⟨e0,he,rfl⟩:=Option.map_eq_some_iff.1 he'
      clear he'
      simp only [Eff.up] at hf
      obtain ⟨⟨vc0,v0,bs0⟩,hf2,hf'⟩:=Option.map_eq_some_iff.1 hf
      clear hf
      have hf:=hf2
      clear hf2
      simp only [Prod.mk.injEq] at hf'
      obtain ⟨rfl,rfl,rfl⟩:=hf'
      unfold prep at he
      split at hb
      ·rename_i x hop
       rw [hop] at he
       simp only [Option.some.injEq] at he
       subst he
       simp only [Eff.val,Option.some.injEq,Prod.mk.injEq] at hf
       rw [← hf.2.1]; exact zG8 h hb
      ·rename_i x hop
       rw [hop] at he
       simp only [Option.some.injEq] at he
       subst he
       simp only [Eff.val,Option.some.injEq,Prod.mk.injEq] at hf
       rw [← hf.2.1]; exact zG8 h hb
      ·rename_i c x y hop
       rw [hop] at he
       simp only [zHZ] at he
       split at hb
       ·rename_i hc
        rw [zG8 h hc] at he
        simp only [Option.some.injEq] at he
        subst he
        simp only [Eff.val,Option.some.injEq,Prod.mk.injEq] at hf
        rw [← hf.2.1]; exact zG8 h hb
       ·rename_i hc
        rw [zG8 h hc] at he
        simp only [Option.some.injEq] at he
        subst he
        simp only [Eff.val,Option.some.injEq,Prod.mk.injEq] at hf
        rw [← hf.2.1]; exact zG8 h hb
       ·cases hb
      ·rename_i t' x hop
       rw [hop] at he
       simp only [opUn] at he
       cases hx:kx kn x with
       | none=>rw [hx] at hb; cases hb
       | some bx=>
        rw [hx] at hb
        simp only [Option.map_some,Option.some.injEq] at hb
        have:=zG8 h hx
        unfold AV.bool? at this
        split at this
        ·rename_i b' hs
         rw [hs] at he
         simp only [Option.some.injEq] at this he
         subst this he
         simp only [Eff.val,Option.some.injEq,Prod.mk.injEq] at hf
         rw [← hf.2.1,← hb]; rfl
        ·rename_i b' hs
         rw [hs] at he
         simp only [Option.some.injEq] at this he
         subst this he
         simp only [Eff.val,Option.some.injEq,Prod.mk.injEq] at hf
         rw [← hf.2.1,← hb]; rfl
        ·cases this
      ·cases hb
     ·rw [if_neg e1] at hb
      simp only [AS.put,if_neg e1]
      rw [AS.setL,zZI]
      exact h t b hb
   ·cases ha
  ·cases ha
 ·cases ha
theorem jKA {kn:Kn} {s:AS} (h:KnOK kn s) {t:Nat} {b:Bool} (ht:(s.tm t).bool?=some b):KnOK (zJv kn (some t) (some b)) s:=by
 intro t' b' hb
 simp only [zJv] at hb
 by_cases e:t'=t
 ·rw [if_pos e] at hb; injection hb with hb; subst hb; rw [e]; exact ht
 ·rw [if_neg e] at hb; exact h _ _ hb
theorem jVl {kn:Kn} {s:AS} (h:KnOK kn s) (d:Option Nat):KnOK (zJv kn d none) (s.put d (.tup [])):=by
 intro t b hb
 cases d with
 | none=>exact h t b hb
 | some d=>
  simp only [zJv] at hb
  by_cases e:t=d
  ·rw [if_pos e] at hb; cases hb
  ·rw [if_neg e] at hb
   simp only [AS.put,if_neg e]
   exact h t b hb
def Ran (P:Program) (Γ:Gam) (n:Dom) (ops:Array Oper) (R:List Nat) (s:AS) (acc:List (List Nat × List Nat)) (Q:Kn→AS→List (List Nat × List Nat)→Prop):Prop:=
 ∃ (kn':Kn) (s':AS) (ts:List (List Nat × List Nat)),Q kn' s' (ts.reverse++acc)∧KnOK kn' s'∧ts.length=R.length∧∀ τ:Nat→List Nat × List Nat,(∀ (k:Nat) (i:Nat),R[k]?=some i→τ i=ts.getD k ([],[]))→Runs P Γ n ops τ R s s'
theorem zVv:∀ {R:List Nat} {kn:Kn} {s:AS} {acc:List (List Nat × List Nat)} {Q:Kn→AS→List (List Nat × List Nat)→Prop},zYT P Γ n ops R kn s acc Q→KnOK kn s →
  Ran P Γ n ops R s acc Q
 | [],kn,s,acc,Q,h,hk=>⟨kn,s,[],h,hk,rfl,fun τ _=>rfl⟩
 | i::R,kn,s,acc,Q,h,hk=>by
  have yes:∀ {o:Oper} {kn1:Kn},ops[i]?=some o→gv ops s o=some true→KnOK kn1 s→(match aopT P Γ n o s with
    | some (vc,s',t)=>vc∧zYT P Γ n ops R (zJv kn1 o.dst (knOf kn1 o.op)) s' (t::acc) Q
    | none=>False)→Ran P Γ n ops (i::R) s acc Q:=by
   intro o kn1 ho hg hk1 h
   split at h
   ·rename_i vc s1 t ha
    obtain ⟨hvc,h⟩:=h
    obtain ⟨h1,e,he,rfl⟩:=jKh ha
    obtain ⟨kn',s',ts,g1,g2,g3,g4⟩:=zVv h (jV7 hk1 h1)
    refine ⟨kn',s',e.touch s.bx::ts,by simpa using g1,g2,by simp [g3],fun τ hτ=>⟨vc,s1,by simp [zKR,ho,hg,h1],hvc,?_,g4 τ fun k j hj=>by simpa using hτ (k+1) j (by simpa using hj)⟩⟩
    have:=hτ 0 i rfl
    rw [this]
    simp [touch,ho,hg,he]
   ·exact h.elim
  have no:∀ {o:Oper} {kn1:Kn},ops[i]?=some o→gv ops s o=some false→KnOK kn1 s→(match jQr n o with
    | true=>zYT P Γ n ops R (zJv kn1 o.dst none) (s.put o.dst (.tup [])) (([],[])::acc) Q
    | false=>False)→Ran P Γ n ops (i::R) s acc Q:=by
   intro o kn1 ho hg hk1 h
   split at h
   ·rename_i hd
    obtain ⟨kn',s',ts,g1,g2,g3,g4⟩:=zVv h (jVl hk1 o.dst)
    refine ⟨kn',s',([],[])::ts,by simpa using g1,g2,by simp [g3],fun τ hτ=>⟨True,_,by simp only [zKR,ho,hg,hd,if_true],trivial,?_,g4 τ fun k j hj=>by simpa using hτ (k+1) j (by simpa using hj)⟩⟩
    have:=hτ 0 i rfl
    rw [this]
    simp [touch,ho,hg]
   ·exact h.elim
  unfold zYT at h
  split at h
  ·exact h.elim
  ·rename_i o ho
   split at h
   ·exact h.elim
   ·rename_i hg
    have hgv:gv ops s o=some true:=by
     unfold gd at hg
     unfold gv
     cases hgu:o.guard with
     | none=>rfl
     | some jw=>
      obtain ⟨j,want⟩:=jw
      rw [hgu] at hg
      simp only at hg ⊢
      cases ht:(ops[j]?).bind (·.dst) with
      | none=>rw [ht] at hg; cases hg
      | some t=>
       rw [ht] at hg
       simp only at hg ⊢
       cases hkt:kn t with
       | some b=>
        rw [hkt] at hg
        simp only at hg
        split at hg
        ·rename_i hbw
         subst hbw
         have hb:=hk t b hkt
         split
         ·rename_i hs; rw [hs] at hb; simp [AV.bool?] at hb
         ·rw [hb]; simp
        ·cases hg
       | none=>
        rw [hkt] at hg
        simp only at hg
        split at hg <;> cases hg
    exact yes ho hgv hk h
   ·rename_i hg
    have hgv:gv ops s o=some false:=by
     unfold gd at hg
     unfold gv
     cases hgu:o.guard with
     | none=>rw [hgu] at hg; cases hg
     | some jw=>
      obtain ⟨j,want⟩:=jw
      rw [hgu] at hg
      simp only at hg ⊢
      cases ht:(ops[j]?).bind (·.dst) with
      | none=>rw [ht] at hg; cases hg
      | some t=>
       rw [ht] at hg
       simp only at hg ⊢
       cases hkt:kn t with
       | some b=>
        rw [hkt] at hg
        simp only at hg
        split at hg
        ·cases hg
        ·rename_i hbw
         have hb:=hk t b hkt
         split
         ·rfl
         ·rw [hb]; simp [hbw]
       | none=>
        rw [hkt] at hg
        simp only at hg
        split at hg
        ·rename_i hs; simp [hs]
        ·cases hg
        ·cases hg
        ·cases hg
    exact no ho hgv hk h
   ·rename_i t b want hg
    have hgt:∃ j,o.guard=some (j,want)∧(ops[j]?).bind (·.dst)=some t∧(s.tm t).bool?=some b:=by
     unfold gd at hg
     cases hgu:o.guard with
     | none=>rw [hgu] at hg; cases hg
     | some jw=>
      obtain ⟨j,want'⟩:=jw
      rw [hgu] at hg
      simp only at hg
      cases ht:(ops[j]?).bind (·.dst) with
      | none=>rw [ht] at hg; cases hg
      | some t'=>
       rw [ht] at hg
       simp only at hg
       cases hkt:kn t' with
       | some b'=>rw [hkt] at hg; simp only at hg; split at hg <;> cases hg
       | none=>
        rw [hkt] at hg
        simp only at hg
        split at hg
        ·cases hg
        ·rename_i b' hs
         simp only [Gd.ask.injEq] at hg
         obtain ⟨rfl,rfl,rfl⟩:=hg
         exact ⟨j,rfl,ht,by rw [hs]; rfl⟩
        ·rename_i b' hs
         simp only [Gd.ask.injEq] at hg
         obtain ⟨rfl,rfl,rfl⟩:=hg
         exact ⟨j,rfl,ht,by rw [hs]; rfl⟩
        ·cases hg
    obtain ⟨j,h1,h2,h3⟩:=hgt
    have hgv:gv ops s o=some (b==want):=by
     unfold gv
     rw [h1]
     simp only [h2]
     split
     ·rename_i hs; rw [hs] at h3; simp [AV.bool?] at h3
     ·rw [h3]; simp
    by_cases hbw:b=want
    ·subst hbw
     rw [jZ9 h3] at h
     exact yes ho (hgv.trans (by simp)) (jKA hk h3) (h.1 rfl)
    ·have hbn:b=!want:=by cases b <;> cases want <;> simp_all
     subst hbn
     rw [jZ9 h3] at h
     exact no ho (hgv.trans (by cases want <;> rfl)) (jKA hk h3) (h.2 rfl)
end
def jXm (w:World):Bool × List DV→Value→Prop
 |(false,ds),v=>∃ d,ds=[d]∧d.plain=some v
 |(true,ds),v=>∃ g,v=.pointer (some ⟨g,0,none⟩)∧∀ i d,ds[i]?=some d→∃ u,d.plain=some u∧w.cell? ⟨g,i,none⟩=some u
def jQD (w:World):List (Bool × List DV)→List Value→Prop
 | [],[]=>True
 | c::cs,v::vs=>jXm w c v∧jQD w cs vs
 | _,_=>False
def zUp (ds:List DV):Array Value:=(ds.map fun d=>d.plain.getD undef).toArray
def AnsI (P:Program) (g:FuncId) (caps:List (Bool × List DV)) (N:Nat) (item:Nat→List DV):Prop:=
 ∀ (lb:Array Value) (l m:Nat) (J:Nat→World→Prop) (Jx:World→Prop),
  (∀ k W,J k W→jQD W caps lb.toList) →
  (∀ k W d,J k W→J k { W with drawn:=d })→(∀ W d,Jx W→Jx { W with drawn:=d }) →
  (∀ k W,k < N→J k W→YieldAt Fence.wide m P l (zUp (item k)) W fun e W'=>(e=.returned (.bool true)∧J (k+1) W')∨(e=.returned (.bool false)∧Jx W')) →
  ∀ W,J 0 W→CallsIn Fence.wide m P g (#[.func (.yield l) #[] #[]]++lb) W fun e W'=>(∃ v,e=.returned v)∧(J N W'∨Jx W')
def jJr (I:World→Prop) (Ix:Code→World→Prop) (W:World):Exit→Act→World→Prop
 | .normal,_,W'=>KeepsOthers W W'∧I W'
 | .ret,_,W'=>KeepsOthers W W'∧Ix .ret W'
 | .exit id,_,W'=>KeepsOthers W W'∧Ix (.exit id) W'
 | _,_,_=>False
def zV5 (B:Nat) (I:World→Prop):Prop:=
 ∀ W W' row,I W→W.grownBy W' row→(∀ r,row=some r→B≤r∧∃ o:Obj,W.heap[r]?=some o∧o.isCells=false)→I W'
theorem zV5.put {B:Nat} {I:World→Prop} (h:zV5 B I) {W:World} {l:Nat} {o:Obj} (o':Obj) (hs:I W) (hB:B≤l) (hl:W.heap[l]?=some o) (ho:o.isCells=false):I (W.putObj l o'):=
 h W _ (some l) hs (grownBy_putObj' W l o') (fun r e=>by cases e; exact ⟨hB,o,hl,ho⟩)
theorem zV5.new_ {B:Nat} {I:World→Prop} (h:zV5 B I) {W:World} (o:Obj) (hs:I W):I (W.alloc o):=
 h W _ none hs (World.grownBy_alloc W o none) (fun r e=>by cases e)
theorem zV5.drawn {B:Nat} {I:World→Prop} (h:zV5 B I) {W:World} (d:Nat) (hs:I W):I { W with drawn:=d }:=
 h W _ none hs ⟨rfl,rfl,rfl,Nat.le_refl _,fun _ _ _=>rfl⟩ (fun r e=>by cases e)
theorem jYo {P:Program} {g:Operand} {ps:Array Tmp} {assign body:Code} {Q:Exit→Act→World→Prop} {a:Act} {w:World} {m gf:Nat} {lb:Array Value}
  (hg:a.eval g=.func (.func gf) #[] lb) (eg:∀ args w,(callFunc gf args).run P w=.ok (.enter gf args) w)
  {caps:List (Bool × List DV)} {N:Nat} {item:Nat→List DV} (hseq:AnsI P gf caps N item) (hps:∀ k,k < N→(item k).length=ps.size)
  (I:Nat→World→Prop) (Ix:Code→World→Prop) (hI:∀ k,zV5 w.heap.size (I k)) (hIx:∀ c,zV5 w.heap.size (Ix c))
  (hcaps:∀ k W,I k W→jQD W caps lb.toList) (h0:I 0 w)
  (hround:∀ l k W,k < N→I k W →
   assign.wpIn (Fence.wide.inRound l) m P (Exit.then (fun a1 W1=>KeepsOthers W W1∧∀ W2,W1.grownBy W2 (some l)→w.heap.size≤l→(∃ r:Loop,W1.heap[l]?=some (.loop r)) →
    body.wpIn (Fence.wide.inRound l) m P (jJr (I (k+1)) Ix W2) a1 W2) (fun _ _ _=>False))
    { tmps:=(ps.zip (zUp (item k))).foldl (fun t (p,v)=>t.setIfInBounds p v) a.tmps,defers:=[] } W)
  (hdone:∀ (D:Nat) (W:World),w.heap.size≤D→I N W→W.heap[D]?=some (.deferred (some []))→Q .normal { a with defers:={ target:=.collected D,args:=#[] }::a.defers } W)
  (hstop:∀ (D:Nat) (c:Code) (W:World),w.heap.size≤D→Ix c W→W.heap[D]?=some (.deferred (some []))→c.wpIn Fence.wide m P Q { a with defers:={ target:=.collected D,args:=#[] }::a.defers } W) :
  (Code.rangeFunc g ps assign body).wpIn Fence.wide m P Q a w:=by
 refine wpIn_rangeFunc ?_
 intro fn hfn
 show ∃ (l:Nat) (mark:List Deferred) (w₁:World) (d:Deferred) (w₁':World) (f:FuncId) (args:Array Value) (w₂:World),(Instr.enterLoop fn a.tmps ps assign body none).run P w=_∧_
 obtain ⟨rec,hrec⟩:∃ rec:LoopState→Option Code→Loop,rec=fun st pe=>{ state:=st,pending:=pe,fn,tmps:=a.tmps,params:=ps,assign,body,defers:=w.heap.size }:=⟨_,rfl⟩
 obtain ⟨W1,hW1⟩:∃ W1,(w.alloc (.deferred (some []))).alloc (.loop (rec .ready none))=W1:=⟨_,rfl⟩
 have hL1:W1.heap[w.heap.size+1]?=some (.loop (rec .ready none)):=by
  rw [← hW1]; have:=World.alloc_heap_new (w.alloc (.deferred (some []))) (.loop (rec .ready none)); rwa [World.size_alloc] at this
 have hK1:W1.heap[w.heap.size]?=some (.deferred (some [])):=by
  rw [← hW1]; exact (Below.heap_alloc _ _ _ (by simp)).trans (World.alloc_heap_new w _)
 have hI1:I 0 W1:=by rw [← hW1]; exact (hI 0).new_ _ ((hI 0).new_ _ h0)
 refine ⟨w.heap.size+1,[{ target:=.collected w.heap.size,args:=#[] }],W1,{ target:=.fn (.func gf) lb,args:=#[.func (.yield (w.heap.size+1)) #[] #[]] },W1,gf,
  #[.func (.yield (w.heap.size+1)) #[] #[]]++lb,W1,?_,?_,?_,?_,fun h=>by (cases h),?_⟩
 ·rw [← hW1,hrec]; exact run_enterLoop_outer _ _ _ _ _
 ·simp only [resolve,hg]
  simp [go_sem]
 ·intro f' hf'; trivial
 ·simp [invoke,go_sem,eg]
 ·refine CallsIn.mono (hseq lb (w.heap.size+1) (m - 1)
   (fun k W=>I k W∧W.heap[w.heap.size+1]?=some (.loop (rec .ready none))∧W.heap[w.heap.size]?=some (.deferred (some [])))
   (fun W=>∃ c,Ix c W∧W.heap[w.heap.size+1]?=some (.loop (rec .done (some c)))∧W.heap[w.heap.size]?=some (.deferred (some [])))
   (fun k W h=>hcaps k W h.1) (fun k W d h=>⟨(hI k).drawn d h.1,h.2.1,h.2.2⟩) (fun W d ⟨c,h1,h2,h3⟩=>⟨c,(hIx c).drawn d h1,h2,h3⟩) ?_ W1 ⟨hI1,hL1,hK1⟩) ?_
  ·
   rintro k W hk ⟨hi,hl,hkd⟩
   have hy:=run_yield (P:=P) (args:=zUp (item k)) hl (by rw [hrec]; simp only [zUp,List.size_toArray,List.length_map]; exact hps k hk)
   rw [hrec] at hy
   refine ⟨fn,_,assign,body,hy,roundIn_of_wpIn trivial ?_⟩
   have hr:=hround (w.heap.size+1) k W hk hi
   have hr:assign.wpIn (Fence.wide.inRound (w.heap.size+1)) (m - 1) P _ _ W:=fun b k cs h1 h2 _=>hr b k cs h1 h2 (Wide.room (.inr ⟨_,rfl⟩) _)
   refine wpIn_mono hr ?_
   intro e a1 Wa hq
   cases e with
   | normal=>
    obtain ⟨hka,hq⟩:=hq
    have hla:=hka.same _ _ hl rfl
    have hda:=hka.same _ _ hkd rfl
    have hbr:=run_beginRound (P:=P) hla (by rw [hrec])
    refine ⟨_,hbr,?_⟩
    have hlt:w.heap.size+1 < Wa.heap.size:=(Array.getElem?_eq_some_iff.1 hla).1
    have hl2:(Wa.putObj (w.heap.size+1) (.loop { rec .ready none with state:=.busy })).heap[w.heap.size+1]?=some (.loop { rec .ready none with state:=.busy }):=World.putObj_heap_same hlt
    have hk2:(Wa.putObj (w.heap.size+1) (.loop { rec .ready none with state:=.busy })).heap[w.heap.size]?=some (.deferred (some [])):=(World.putObj_heap_other (by omega)).trans hda
    have hb:=hq _ (grownBy_putObj' Wa (w.heap.size+1) (.loop { rec .ready none with state:=.busy })) (by omega) ⟨_,hla⟩
    have hb:body.wpIn (Fence.wide.inRound (w.heap.size+1)) (m - 1) P _ a1 _:=fun b k cs h1 h2 _=>hb b k cs h1 h2 (Wide.room (.inr ⟨_,rfl⟩) _)
    refine wpIn_mono hb ?_
    have fin:∀ (jump:Option Code) (W3:World),KeepsOthers (Wa.putObj (w.heap.size+1) (.loop { rec .ready none with state:=.busy })) W3 →
      (Instr.endRound (w.heap.size+1) jump).run P W3=.ok (.bool jump.isNone) (W3.putObj (w.heap.size+1) (.loop (rec (if jump.isNone then .ready else .done) jump))) ∧
      W3.heap[w.heap.size+1]?=some (.loop { rec .ready none with state:=.busy }) ∧
      (W3.putObj (w.heap.size+1) (.loop (rec (if jump.isNone then .ready else .done) jump))).heap[w.heap.size+1]?=some (.loop (rec (if jump.isNone then .ready else .done) jump)) ∧
      (W3.putObj (w.heap.size+1) (.loop (rec (if jump.isNone then .ready else .done) jump))).heap[w.heap.size]?=some (.deferred (some [])):=fun jump W3 hk3=>by
     have hl3:=hk3.same _ _ hl2 rfl
     have:=run_endRound (P:=P) jump hl3
     rw [hrec] at this ⊢
     exact ⟨this,by rw [hrec] at hl3; exact hl3,World.putObj_heap_same (Array.getElem?_eq_some_iff.1 hl3).1,(World.putObj_heap_other (by omega)).trans (hk3.same _ _ hk2 rfl)⟩
    intro e3 a3 W3 hp
    cases e3 with
    | normal=>
     obtain ⟨hk3,hi3⟩:=hp
     obtain ⟨hr,hl3,hl4,hk4⟩:=fin none W3 hk3
     exact ⟨_,_,hr,.inl ⟨rfl,(hI _).put _ hi3 (by omega) hl3 rfl,hl4,hk4⟩⟩
    | ret=>
     obtain ⟨hk3,hi3⟩:=hp
     obtain ⟨hr,hl3,hl4,hk4⟩:=fin (some .ret) W3 hk3
     exact ⟨_,_,hr,.inr ⟨rfl,.ret,(hIx _).put _ hi3 (by omega) hl3 rfl,hl4,hk4⟩⟩
    | exit id=>
     obtain ⟨hk3,hi3⟩:=hp
     obtain ⟨hr,hl3,hl4,hk4⟩:=fin (some (.exit id)) W3 hk3
     exact ⟨_,_,hr,.inr ⟨rfl,.exit id,(hIx _).put _ hi3 (by omega) hl3 rfl,hl4,hk4⟩⟩
    | goto t=>exact hp.elim
    | panic ch=>exact hp.elim
    | outgrown=>exact hp.elim
   | ret=>exact hq.elim
   | exit id=>exact hq.elim
   | goto t=>exact hq.elim
   | panic ch=>exact hq.elim
   | outgrown=>exact hq.elim
  ·
   rintro e W2 ⟨⟨v,rfl⟩,(⟨hi,hl,hk⟩ | ⟨c,hi,hl,hk⟩)⟩
   ·exact ⟨none,_,by have:=run_endLoop (P:=P) hl (by rw [hrec]; simp); rw [hrec] at this; exact this,hdone _ _ (Nat.le_refl _) ((hI _).put _ hi (by omega) hl rfl) ((World.putObj_heap_other (by omega)).trans hk)⟩
   ·exact ⟨some c,_,by have:=run_endLoop (P:=P) hl (by rw [hrec]; simp); rw [hrec] at this; exact this,hstop _ c _ (Nat.le_refl _) ((hIx c).put _ hi (by omega) hl rfl) ((World.putObj_heap_other (by omega)).trans hk)⟩
structure Snap where
  tm:List (Nat × AV)
  bx:List (Nat × Bx)
def jXD:List (Nat × AV)→Nat→AV
 | [],_=>.one .dead
 |(t',v)::r,t=>if t=t' then v else jXD r t
def zXV:List (Nat × Bx)→Nat→Bx
 | [],_=>.fresh
 |(t',v)::r,t=>if t=t' then v else zXV r t
def Snap.as (sn:Snap):AS:=⟨jXD sn.tm,zXV sn.bx⟩
abbrev Ren:=List (Nat × Option Nat)
def zKG:Ren→Nat→Option (Option Nat)
 | [],_=>none
 |(b',x)::r,b=>if b=b' then some x else zKG r b
def jXd:Cap→Cap→Option (Prop × Ren)
 | .d v,.d v'=>some (v'=v,[])
 | .ptr b off,.ptr b' off'=>some (off'=off,[(b,some b')])
 | _,_=>none
def zUn:List Cap→List Cap→Option (Prop × Ren)
 | [],[]=>some (True,[])
 | c::cs,c'::cs'=>match jXd c c',zUn cs cs' with
  | some (p,r),some (q,r')=>some (p∧q,r++r')
  | _,_=>none
 | _,_=>none
def jXN:Cl→Cl→Option (Prop × Ren)
 | .dead,_=>some (True,[])
 | .d v,.d v'=>some (v'=v,[])
 | .d v,.lit (.bool b)=>some (DV.bool b=v,[])
 | .d v,.nil=>some (DV.sl 0 []=v,[])
 | .lit u,.lit u'=>some (u'=u,[])
 | .nil,.nil=>some (True,[])
 | .ptr b off,.ptr b' off'=>some (off'=off,[(b,some b')])
 | .vp cs off,.vp cs' off'=>some (cs'=cs∧off'=off,[])
 | .ref b n,.ref b' n'=>some (n'=n,[(b,some b')])
 | .ref b n,.nil=>some (0=n,[(b,none)])
 | .clo f cs,.clo f' cs'=>if f'=f then zUn cs cs' else none
 | _,_=>none
def zKL:List Cl→List Cl→Option (Prop × Ren)
 | [],[]=>some (True,[])
 | c::cs,c'::cs'=>match jXN c c',zKL cs cs' with
  | some (p,r),some (q,r')=>some (p∧q,r++r')
  | _,_=>none
 | _,_=>none
def zUr:List Cl→Option (List DV)
 | []=>some []
 | .d v::cs=>match zUr cs with
  | some vs=>some (v::vs)
  | none=>none
 | _::_=>none
def zGx (cs cs':List Cl):Option (Prop × Ren):=match zUr cs,dvs cs' with
 | some xs,some ys=>some (ys=xs,[])
 | _,_=>zKL cs cs'
mutual
def zKM:AV→AV→Option (Prop × Ren)
 | .one c,.one c'=>jXN c c'
 | .one .dead,_=>some (True,[])
 | .agg cs,.agg cs'=>zGx cs cs'
 | .tup vs,.tup vs'=>fitAVs vs vs'
 | _,_=>none
def fitAVs:List AV→List AV→Option (Prop × Ren)
 | [],[]=>some (True,[])
 | x::xs,y::ys=>match zKM x y,fitAVs xs ys with
  | some (p,r),some (q,r')=>some (p∧q,r++r')
  | _,_=>none
 | _,_=>none
end
def jYZ (s:AS):List (Nat × AV)→Option (Prop × Ren)
 | []=>some (True,[])
 |(t,v)::l=>match zKM v (s.tm t),jYZ s l with
  | some (p,r),some (q,r')=>some (p∧q,r++r')
  | _,_=>none
def jXP:Bx→Bx→Option (Prop × Ren)
 | .cells cs,.cells cs'=>zGx cs cs'
 | .row e size xs,.row e' size' xs'=>if e'=e∧size'=size then some (xs'=xs,[]) else none
 | .ice xs,.ice xs'=>some (xs'=xs,[])
 | .gone,.gone=>some (True,[])
 | _,_=>none
def zV3 (s:AS):List (Nat × Bx)→Ren→Option (Prop × Ren)
 | [],r=>some (True,r)
 |(b,B)::l,r=>match zKG r b with
  | some (some b')=>match jXP B (s.bx b') with
   | some (p,r')=>match zV3 s l (r++r') with
    | some (q,r'')=>some (p∧q,r'')
    | none=>none
   | none=>none
  | some none=>match B with
   | .row _ _ xs=>match zV3 s l r with
    | some (q,r'')=>some ([]=xs∧q,r'')
    | none=>none
   | _=>none
  | none=>none
def jVZ (bx:List (Nat × Bx)) (r:Ren):Bool:=
 (r.all fun p=>(zKG r p.1==some p.2) && bx.any fun q=>q.1==p.1) &&
 (r.all fun p=>r.all fun q=>p.1==q.1 || p.2==none || p.2 != q.2) && decide ((bx.map (·.1)).Nodup)
def pins (l:List Nat):Ren:=l.map fun j=>(j,some j)
def jVI (n:Dom) (s:AS) (sn:Snap):Prop:=
 match jYZ s sn.tm with
 | some (p,r)=>match zV3 s sn.bx (r++pins n.pin) with
  | some (q,r')=>match jVZ sn.bx r' with
   | true=>p∧q
   | false=>False
  | none=>False
 | none=>False
def AS.melt1 (s:AS) (t:Nat):AS:=match s.tm t with
 | .one (.ref b n)=>match zXg (s.bx b) with
  | some xs=>⟨fun t'=>if t'=t then .one (.d (.sl n xs)) else s.tm t',fun b'=>if b'=b then (s.bx b).freeze else s.bx b'⟩
  | none=>s
 | _=>s
def meltFor:List (Nat × AV)→AS→AS
 | [],s=>s
 |(t,.one (.d _))::l,s=>meltFor l (s.melt1 t)
 | _::l,s=>meltFor l s
def fits (n:Dom) (s:AS) (sn:Snap):Prop:=jVI n (meltFor sn.tm s) sn
structure Inv where
  α:Type
  ok:α→Prop
  st:α→Snap
  μ:α→Nat
inductive Ann:Type 1 where
  | leaf
  | seq (a b:Ann)
  | loop (I:Inv) (a:I.α→Ann)
  | cut (I:Inv) (a:Ann) (b:I.α→Ann)
  | link (I:Inv) (a:I.α→Ann) (next:Ann)
  | split (a:Ann) (t:Nat) (bs:Ann)
  | opt (v:Int) (b:Ann) (next:Ann)
  | sure (b:Bool) (a:Ann)
  | ice (bs ts:List Nat) (a b:Ann)
  | splitAt (i t:Nat) (vs:List Int)
  | range (I:Inv) (T:List Nat) (a b:I.α→Ann)
def Ann.l:Ann→Ann
 | .seq a _=>a
 | _=>.leaf
def Ann.r:Ann→Ann
 | .seq _ b=>b
 | _=>.leaf
inductive zYy where
  | normal
  | exit (id:Nat)
  | ret
def kn0:Kn:=fun _=>none
def jZX (n:Dom):Ann→AS→Prop
 | .link I _ _,s=>∃ z,I.ok z∧fits n s (I.st z)
 | _,_=>False
def zH7 (n:Dom) (f:Ann→Kn→AS→(zYy→Kn→AS→Prop)→Prop) (Q:zYy→Kn→AS→Prop):Ann→Prop
 | .link I a next=>(∀ z,I.ok z→f (a z) kn0 (I.st z).as fun e kn' s'=>match e with
   | .normal=>jZX n next s'
   | e=>Q e kn' s')∧zH7 n f Q next
 | _=>True
def jJH (e:Int):Ann→Prop
 | .opt v _ next=>e=v∨jJH e next
 | _=>False
def jZK (f:Ann→Kn→AS→(zYy→Kn→AS→Prop)→Prop) (k:IntKind) (e:Int) (kn:Kn) (s:AS) (t:Nat) (Q:zYy→Kn→AS→Prop):Ann→Prop
 | .opt v b next=>(e=v→f b (zJv kn (some t) none) (s.put (some t) (.one (.d (.int k v)))) Q)∧jZK f k e kn s t Q next
 | _=>True
def jV4 (f:Ann→Kn→AS→(zYy→Kn→AS→Prop)→Prop) (kn:Kn) (s:AS) (t:Nat) (bs:Ann) (Q:zYy→Kn→AS→Prop):Prop:=
 match s.tm t with
 | .one (.d (.int k e))=>jJH e bs∧jZK f k e kn s t Q bs
 | _=>False
def zHk (bx:Nat→Bx):Cap→Option (Bool × List DV)
 | .d v=>if v.plain.isSome then some (false,[v]) else none
 | .ptr b off=>if off=0 then match bx b with
  | .cells cs=>match dvs cs with
   | some ds=>if ds.all (fun d=>d.plain.isSome) then some (true,ds) else none
   | none=>none
  | _=>none else none
def zJj (bx:Nat→Bx):List Cap→Option (List (Bool × List DV))
 | []=>some []
 | c::cs=>match zHk bx c,zJj bx cs with
  | some x,some xs=>some (x::xs)
  | _,_=>none
def AS.only (T:List Nat) (s:AS):AS:=⟨fun t=>if T.contains t then s.tm t else .one .dead,s.bx⟩
def AS.putAll:AS→List Nat→List DV→AS
 | s,p::ps,d::ds=>(s.put (some p) (.one (.d d))).putAll ps ds
 | s,_,_=>s
def Dom.pinned (n:Dom) (names:List Nat):Dom:=⟨n.n,n.keep,n.pin++names,n.round⟩
def Dom.inner (n:Dom) (T names:List Nat):Dom:=⟨n.n,fun t=>n.keep t || T.contains t,n.pin++names,true⟩
def jYt:DV→Prop
 | .int k n=>k.min≤n∧n≤k.max
 | .bool _=>True
 | .str s=>s.size≤maxLen
 | _=>False
def zJ5:List DV→Prop
 | []=>True
 | d::ds=>jYt d∧zJ5 ds
def psOK (ps T:List Nat) (n:Dom):Bool:=(ps.all fun p=>decide (p < n.n) && !T.contains p && !n.keep p) && decide ps.Nodup
abbrev VCF:=Dom→Ann→Kn→AS→(zYy→Kn→AS→Prop)→Prop
def jQ0 (P:Program) (Γ:Gam) (n:Dom) (fA fB:VCF) (g:Operand) (ps:List Nat) (I:Inv) (T:List Nat) (a b:I.α→Ann) (s:AS) (Q:zYy→Kn→AS→Prop):Prop:=
 match s.eval g with
 | .one (.clo f cs)=>match zJj s.bx cs,enters P f && !n.round && psOK ps T n with
  | some caps,true=>match Γ.iter f caps with
   | some (N,item)=>
    AnsI P f caps N item∧(∀ k,k < N→(item k).length=ps.length∧zJ5 (item k)) ∧
    (∃ z,I.ok z∧I.μ z=0∧fits (n.pinned (cs.flatMap Cap.names)) s (I.st z)) ∧
    (∀ z,I.ok z→zJj (zXV (I.st z).bx) cs=some caps ∧
     (I.μ z < N→fA (n.inner T (cs.flatMap Cap.names)) (a z) kn0 (((I.st z).as.only T).putAll ps (item (I.μ z))) fun e kn' s'=>match e with
      | .normal=>fB (n.inner T (cs.flatMap Cap.names)) (b z) kn' s' fun e kn' s'=>match e with
       | .normal=>∃ y,I.ok y∧I.μ y=I.μ z+1∧fits (n.inner T (cs.flatMap Cap.names)) s' (I.st y)
       | e=>Q e kn0 (s'.only T)
      | _=>False) ∧
     (I.μ z=N→Q .normal kn0 ((I.st z).as.only T)))
   | none=>False
  | _,_=>False
 | _=>False
def melts:AS→List Nat→AS
 | s,[]=>s
 | s,t::ts=>melts (s.melt1 t) ts
def orIs (e:Int):List Int→Prop
 | []=>False
 | v::vs=>e=v∨orIs e vs
def jKi (e:Int) (k:IntKind) (t:Nat) (s:AS) (K:AS→Prop):List Int→Prop
 | []=>True
 | v::vs=>(e=v→K (s.put (some t) (.one (.d (.int k v)))))∧jKi e k t s K vs
def jQK (vs:List Int) (t:Nat) (s:AS) (K:AS→Prop):Prop:=
 match s.tm t with
 | .one (.d (.int k e))=>orIs e vs∧jKi e k t s K vs
 | _=>False
def jKP (P:Program) (Γ:Gam) (n:Dom) (ops:Array Oper) (ann:Ann) (kn:Kn) (s:AS) (K:Kn→AS→List (List Nat × List Nat)→Prop):Prop:=
 match ann with
 | .splitAt i t vs=>zYT P Γ n ops ((List.range ops.size).take (i+1)) kn s [] fun kn' s' acc=>jQK vs t s' fun s2=>zYT P Γ n ops ((List.range ops.size).drop (i+1)) kn' s2 acc K
 | _=>zYT P Γ n ops (List.range ops.size) kn s [] K
def vcg (P:Program) (Γ:Gam):Dom→Code→Ann→Kn→AS→(zYy→Kn→AS→Prop)→Prop
 | _,.skip,_,kn,s,Q=>Q .normal kn s
 | _,.label _,_,kn,s,Q=>Q .normal kn s
 | _,.exit id,_,kn,s,Q=>Q (.exit id) kn s
 | _,.ret,_,kn,s,Q=>Q .ret kn s
 | n,.region _ ops draw,ann,kn,s,Q=>jKP P Γ n ops ann kn s fun kn' s' acc=>match draw with
  | true=>jJv ops (fun i=>acc.reverse.getD i ([],[]))=true∧Q .normal kn' s'
  | false=>Q .normal kn' s'
 | n,.seq x y,ann,kn,s,Q=>match ann with
  | .cut I a b=>vcg P Γ n x a kn s (fun e kn' s'=>match e with
    | .normal=>∃ z,I.ok z∧fits n s' (I.st z)
    | e=>Q e kn' s')∧∀ z,I.ok z→vcg P Γ n y (b z) kn0 (I.st z).as Q
  | .ice bs ts a b=>vcg P Γ n x a kn s fun e kn' s'=>match e with
    | .normal=>vcg P Γ n y b kn' (melts (ices s' bs) ts) Q
    | e=>Q e kn' s'
  | .split a t bs=>vcg P Γ n x a kn s fun e kn' s'=>match e with
    | .normal=>jV4 (vcg P Γ n y) kn' s' t bs Q
    | e=>Q e kn' s'
  | ann=>vcg P Γ n x ann.l kn s fun e kn' s'=>match e with
    | .normal=>vcg P Γ n y ann.r kn' s' Q
    | e=>Q e kn' s'
 | n,.cond c x y,ann,kn,s,Q=>match ann with
  | .sure b a=>match (s.eval c).bool? with
   | some b'=>b'=b∧match b with
    | true=>vcg P Γ n x a kn s Q
    | false=>vcg P Γ n y a kn s Q
   | none=>False
  | ann=>match kx kn c with
   | some true=>vcg P Γ n x ann.l kn s Q
   | some false=>vcg P Γ n y ann.r kn s Q
   | none=>match (s.eval c).bool? with
    | some b=>(b=true→vcg P Γ n x ann.l kn s Q)∧(b=false→vcg P Γ n y ann.r kn s Q)
    | none=>False
 | n,.block id c,ann,kn,s,Q=>vcg P Γ n c ann kn s fun e kn' s'=>match e with
  | .exit id'=>match decide (id'=id) with
   | true=>Q .normal kn' s'
   | false=>Q (.exit id') kn' s'
  | e=>Q e kn' s'
 | n,.loop c,ann,kn,s,Q=>match ann with
  | .loop I a=>(∃ z,I.ok z∧fits n s (I.st z))∧∀ z,I.ok z→vcg P Γ n c (a z) kn0 (I.st z).as fun e kn' s'=>match e with
    | .normal=>∃ y,I.ok y∧I.μ y < I.μ z∧fits n s' (I.st y)
    | e=>Q e kn' s'
  | .link I a next=>jZX n (.link I a next) s∧zH7 n (vcg P Γ n c) Q (.link I a next)
  | _=>False
 | n,.rangeFunc g ps x y,ann,kn,s,Q=>match ann with
  | .range I T a b=>jQ0 P Γ n (fun n'=>vcg P Γ n' x) (fun n'=>vcg P Γ n' y) g ps.toList I T a b s Q
  | _=>False
 | _,_,_,_,_,_=>False
section
variable {w:World} {V:Nat→Prop} {ι:zQC} {bx:Nat→Bx}
def nm (ι:zQC) (r:Ren):zQC:=fun b=>match zKG r b with
 | some (some b')=>ι b'
 | _=>none
theorem jXO {ι':zQC} {bx':Nat→Bx} {c c':Cap} {v:Value} {p:Prop} {r r':Ren} (hf:jXd c c'=some (p,r)) (hp:p) (hr:∀ q∈r,zKG r' q.1=some q.2∧(bx' q.1).known=true) (hι:∀ b,ι' b=nm ι r' b)
  (h:zKy ι bx w V c' v):zKy ι' bx' w V c v:=by
 unfold jXd at hf
 split at hf <;> first
  |(injection hf with hf; injection hf with hf1 hf2; subst hf1 hf2)
  | cases hf
 ·subst hp; exact h
 ·obtain ⟨h1,g,c,h2,h3⟩:=h
  subst hp
  obtain ⟨e1,e2⟩:=hr _ (List.mem_singleton.2 rfl)
  simp only at e1 e2
  exact ⟨e2,g,c,by rw [hι]; simp only [nm,e1]; exact h2,h3⟩
theorem zUm {ι':zQC} {bx':Nat→Bx} {r':Ren} (hι:∀ b,ι' b=nm ι r' b):∀ {cs cs':List Cap} {vs:List Value} {p:Prop} {r:Ren},zUn cs cs'=some (p,r)→p→(∀ q∈r,zKG r' q.1=some q.2∧(bx' q.1).known=true) →
  zXk ι bx w V cs' vs→zXk ι' bx' w V cs vs
 | [],[],[],_,_,_,_,_,_=>trivial
 | [],[],_::_,_,_,_,_,_,h=>h.elim
 | c::cs,c'::cs',[],_,_,_,_,_,h=>h.elim
 | c::cs,c'::cs',v::vs,p,r,hf,hp,hr,h=>by
  simp only [zUn] at hf
  cases h1:jXd c c' with
  | none=>rw [h1] at hf; cases hf
  | some x=>
   cases h2:zUn cs cs' with
   | none=>rw [h1,h2] at hf; cases hf
   | some y=>
    rw [h1,h2] at hf
    simp only [Option.some.injEq,Prod.mk.injEq] at hf
    obtain ⟨rfl,rfl⟩:=hf
    exact ⟨jXO h1 hp.1 (fun q hq=>hr q (by simp [hq])) hι h.1,zUm hι h2 hp.2 (fun q hq=>hr q (by simp [hq])) h.2⟩
 | [],_::_,_,_,_,hf,_,_,_=>by cases hf
 | _::_,[],_,_,_,hf,_,_,_=>by cases hf
theorem jQo {ι':zQC} {bx':Nat→Bx} {c c':Cl} {v:Value} {p:Prop} {r r':Ren} (hf:jXN c c'=some (p,r)) (hp:p) (hr:∀ q∈r,zKG r' q.1=some q.2∧(bx' q.1).known=true) (hι:∀ b,ι' b=nm ι r' b)
  (h:zQJ w V ι bx c' v):zQJ w V ι' bx' c v:=by
 unfold jXN at hf
 split at hf <;> first
  |(injection hf with hf; injection hf with hf1 hf2; subst hf1 hf2)
  | cases hf
  | skip
 ·trivial
 ·subst hp; exact h
 ·subst hp; exact zXJ (d:=.bool _) h rfl
 ·subst hp; exact zXJ (d:=.sl 0 []) h rfl
 ·subst hp; exact h
 ·exact h
 ·obtain ⟨h1,g,c,h2,h3⟩:=h
  subst hp
  obtain ⟨e1,e2⟩:=hr _ (List.mem_singleton.2 rfl)
  simp only at e1 e2
  exact ⟨e2,g,c,by rw [hι]; simp only [nm,e1]; exact h2,h3⟩
 ·obtain ⟨rfl,rfl⟩:=hp; exact h
 ·obtain ⟨h1,h2⟩:=h
  subst hp
  obtain ⟨e1,e2⟩:=hr _ (List.mem_singleton.2 rfl)
  simp only at e1 e2
  exact ⟨e2,by rw [hι]; simp only [nm,e1]; exact h2⟩
 ·subst hp
  obtain ⟨e1,e2⟩:=hr _ (List.mem_singleton.2 rfl)
  simp only at e1 e2
  exact ⟨e2,.inl ⟨by rw [hι]; simp only [nm,e1],rfl,h⟩⟩
 ·split at hf
  ·rename_i e
   subst e
   obtain ⟨lb,h1,h2⟩:=h
   exact ⟨lb,h1,zUm hι hf hp hr h2⟩
  ·cases hf
theorem zUl {ι':zQC} {bx':Nat→Bx} {r':Ren} (hι:∀ b,ι' b=nm ι r' b):∀ {cs cs':List Cl} {vs:List Value} {p:Prop} {r:Ren},zKL cs cs'=some (p,r)→p→(∀ q∈r,zKG r' q.1=some q.2∧(bx' q.1).known=true) →
  zQ1 w V ι bx cs' vs→zQ1 w V ι' bx' cs vs
 | [],[],[],_,_,_,_,_,_=>trivial
 | [],[],_::_,_,_,_,_,_,h=>h.elim
 | c::cs,c'::cs',[],_,_,_,_,_,h=>h.elim
 | c::cs,c'::cs',v::vs,p,r,hf,hp,hr,h=>by
  simp only [zKL] at hf
  cases h1:jXN c c' with
  | none=>rw [h1] at hf; cases hf
  | some x=>
   cases h2:zKL cs cs' with
   | none=>rw [h1,h2] at hf; cases hf
   | some y=>
    rw [h1,h2] at hf
    simp only [Option.some.injEq,Prod.mk.injEq] at hf
    obtain ⟨rfl,rfl⟩:=hf
    exact ⟨jQo h1 hp.1 (fun q hq=>hr q (by simp [hq])) hι h.1,zUl hι h2 hp.2 (fun q hq=>hr q (by simp [hq])) h.2⟩
 | [],_::_,_,_,_,hf,_,_,_=>by cases hf
 | _::_,[],_,_,_,hf,_,_,_=>by cases hf
theorem zU5 {w:World} {V:Nat→Prop} {ι:zQC} {bx:Nat→Bx}:∀ {cs:List Cl} {vs:List Value} {ds:List DV},zUr cs=some ds→zZk w V ds vs→zQ1 w V ι bx cs vs
 | [],[],_,_,_=>trivial
 | [],_::_,ds,hd,h=>by simp only [zUr,Option.some.injEq] at hd; subst hd; exact h.elim
 | c::cs,vs,ds,hd,h=>by
  cases c <;> simp only [zUr,reduceCtorEq] at hd
  rename_i v
  cases h2:zUr cs with
  | none=>rw [h2] at hd; cases hd
  | some ds'=>
   rw [h2] at hd
   simp only [Option.some.injEq] at hd
   subst hd
   cases vs with
   | nil=>exact h.elim
   | cons u vs=>exact ⟨h.1,zU5 h2 h.2⟩
theorem jVj {c:Cl} (h:nilC c=true):c=.lit (.pointer none):=by
 unfold nilC at h
 split at h
 ·rfl
 ·cases h
theorem jZn {cs cs':List Cl} {p:Prop} {r:Ren} (hf:zGx cs cs'=some (p,r)) (hp:p) (hn:zJL cs=true):zJL cs'=true:=by
 cases cs with
 | nil=>cases hn
 | cons c0 tl=>
  obtain rfl:=jVj hn
  have h0:zUr (Cl.lit (.pointer none)::tl)=none:=rfl
  unfold zGx at hf
  rw [h0] at hf
  simp only at hf
  cases cs' with
  | nil=>simp [zKL] at hf
  | cons c cs'=>
   simp only [zKL] at hf
   split at hf
   ·rename_i p1 r1 q1 r2 h1 h2
    cases c <;> simp only [jXN,reduceCtorEq] at h1
    rename_i u
    simp only [Option.some.injEq,Prod.mk.injEq] at h1 hf
    obtain ⟨rfl,rfl⟩:=h1
    obtain ⟨rfl,rfl⟩:=hf
    obtain ⟨rfl,_⟩:=hp
    rfl
   ·cases hf
theorem zGw {ι':zQC} {bx':Nat→Bx} {r':Ren} (hι:∀ b,ι' b=nm ι r' b) {cs cs':List Cl} {vs:List Value} {p:Prop} {r:Ren} (hf:zGx cs cs'=some (p,r)) (hp:p) (hr:∀ q∈r,zKG r' q.1=some q.2∧(bx' q.1).known=true)
  (h:zQ1 w V ι bx cs' vs):zQ1 w V ι' bx' cs vs:=by
 unfold zGx at hf
 split at hf
 ·rename_i xs ys h1 h2
  simp only [Option.some.injEq,Prod.mk.injEq] at hf
  obtain ⟨rfl,rfl⟩:=hf
  subst hp
  exact zU5 h1 (zKF h h2)
 ·exact zUl hι hf hp hr h
mutual
theorem jQp {ι':zQC} {bx':Nat→Bx} {r':Ren} (hι:∀ b,ι' b=nm ι r' b):∀ {x y:AV} {v:Value} {p:Prop} {r:Ren},zKM x y=some (p,r)→p→(∀ q∈r,zKG r' q.1=some q.2∧(bx' q.1).known=true) →
  zQv w V ι bx y v→zQv w V ι' bx' x v
 | .one c,.one c',v,p,r,hf,hp,hr,h=>by
  simp only [zKM] at hf
  simp only [zQv] at h ⊢
  exact jQo hf hp hr hι h
 | .one c,.agg cs',v,p,r,hf,hp,hr,h=>by
  cases c <;> simp only [zKM,reduceCtorEq] at hf
  simp only [zQv,zQJ]
 | .one c,.tup vs',v,p,r,hf,hp,hr,h=>by
  cases c <;> simp only [zKM,reduceCtorEq] at hf
  simp only [zQv,zQJ]
 | .agg cs,.agg cs',v,p,r,hf,hp,hr,h=>by
  simp only [zKM] at hf
  simp only [zQv] at h ⊢
  obtain ⟨cur,e,h⟩:=h
  exact ⟨cur,e,zGw hι hf hp hr h⟩
 | .tup vs,.tup vs',v,p,r,hf,hp,hr,h=>by
  simp only [zKM] at hf
  simp only [zQv] at h ⊢
  obtain ⟨cur,e,h⟩:=h
  exact ⟨cur,e,fitAVs_rep hι hf hp hr h⟩
 | .agg _,.one _,_,_,_,hf,_,_,_=>by simp [zKM] at hf
 | .agg _,.tup _,_,_,_,hf,_,_,_=>by simp [zKM] at hf
 | .tup _,.one _,_,_,_,hf,_,_,_=>by simp [zKM] at hf
 | .tup _,.agg _,_,_,_,hf,_,_,_=>by simp [zKM] at hf
theorem fitAVs_rep {ι':zQC} {bx':Nat→Bx} {r':Ren} (hι:∀ b,ι' b=nm ι r' b):∀ {xs ys:List AV} {vs:List Value} {p:Prop} {r:Ren},fitAVs xs ys=some (p,r)→p→(∀ q∈r,zKG r' q.1=some q.2∧(bx' q.1).known=true) →
  RepAVs w V ι bx ys vs→RepAVs w V ι' bx' xs vs
 | [],[],vs,_,_,_,_,_,h=>by
  cases vs with
  | nil=>simp only [RepAVs]
  | cons _ _=>simp only [RepAVs] at h
 | x::xs,y::ys,[],_,_,_,_,_,h=>by simp only [RepAVs] at h
 | x::xs,y::ys,v::vs,p,r,hf,hp,hr,h=>by
  simp only [fitAVs] at hf
  cases h1:zKM x y with
  | none=>rw [h1] at hf; cases hf
  | some a=>
   cases h2:fitAVs xs ys with
   | none=>rw [h1,h2] at hf; cases hf
   | some b=>
    rw [h1,h2] at hf
    simp only [Option.some.injEq,Prod.mk.injEq] at hf
    obtain ⟨rfl,rfl⟩:=hf
    simp only [RepAVs] at h ⊢
    exact ⟨jQp hι h1 hp.1 (fun q hq=>hr q (by simp [hq])) h.1,fitAVs_rep hι h2 hp.2 (fun q hq=>hr q (by simp [hq])) h.2⟩
 | [],_::_,_,_,_,hf,_,_,_=>by simp [fitAVs] at hf
 | _::_,[],_,_,_,hf,_,_,_=>by simp [fitAVs] at hf
end
end
theorem jXa {s:AS}:∀ {l:List (Nat × AV)} {p:Prop} {r:Ren},jYZ s l=some (p,r)→p→∀ t,jXD l t=.one .dead∨∃ q r1,zKM (jXD l t) (s.tm t)=some (q,r1)∧q∧∀ x∈r1,x∈r
 | [],_,_,_,_,t=>.inl rfl
 |(t',v)::l,p,r,hf,hp,t=>by
  simp only [jYZ] at hf
  cases h1:zKM v (s.tm t') with
  | none=>rw [h1] at hf; cases hf
  | some a=>
   cases h2:jYZ s l with
   | none=>rw [h1,h2] at hf; cases hf
   | some b=>
    rw [h1,h2] at hf
    simp only [Option.some.injEq,Prod.mk.injEq] at hf
    obtain ⟨rfl,rfl⟩:=hf
    simp only [jXD]
    by_cases e:t=t'
    ·subst e
     rw [if_pos rfl]
     exact .inr ⟨a.1,a.2,h1,hp.1,fun x hx=>by simp [hx]⟩
    ·rw [if_neg e]
     rcases jXa h2 hp.2 t with h3 | ⟨q,r1,h3,h4,h5⟩
     ·exact .inl h3
     ·exact .inr ⟨q,r1,h3,h4,fun x hx=>by simp [h5 x hx]⟩
theorem zXw {s:AS}:∀ {l:List (Nat × Bx)} {r r':Ren} {p:Prop},zV3 s l r=some (p,r')→∀ x∈r,x∈r'
 | [],r,r',p,h,x,hx=>by simp only [zV3,Option.some.injEq,Prod.mk.injEq] at h; rw [← h.2]; exact hx
 |(b,B)::l,r,r',p,h,x,hx=>by
  simp only [zV3] at h
  split at h
  ·split at h
   ·split at h
    ·rename_i h3
     simp only [Option.some.injEq,Prod.mk.injEq] at h
     rw [← h.2]
     exact zXw h3 x (by simp [hx])
    ·cases h
   ·cases h
  ·split at h
   ·split at h
    ·rename_i h3
     simp only [Option.some.injEq,Prod.mk.injEq] at h
     rw [← h.2]
     exact zXw h3 x hx
    ·cases h
   ·cases h
  ·cases h
theorem zWN:∀ {r:Ren} {b:Nat} {x:Option Nat},zKG r b=some x→(b,x)∈r
 | [],_,_,h=>by cases h
 |(b',y)::r,b,x,h=>by
  simp only [zKG] at h
  split at h
  ·rename_i e; injection h with h; subst e h; simp
  ·simp [zWN h]
theorem zVo {s:AS}:∀ {l:List (Nat × Bx)} {r r':Ren} {p:Prop},zV3 s l r=some (p,r')→p→(l.map (·.1)).Nodup→∀ b B,(b,B)∈l →
  (∃ b' q r1,(b,some b')∈r'∧jXP B (s.bx b')=some (q,r1)∧q∧∀ x∈r1,x∈r')∨((b,none)∈r'∧∃ e size,B=.row e size [])
 |(b0,B0)::l,r,r',p,h,hp,hn,b,B,hm=>by
  simp only [List.map_cons,List.nodup_cons] at hn
  simp only [zV3] at h
  split at h
  ·rename_i b' hren
   split at h
   ·rename_i q r1 h2
    split at h
    ·rename_i q2 r2 h3
     simp only [Option.some.injEq,Prod.mk.injEq] at h
     obtain ⟨rfl,rfl⟩:=h
     rcases List.mem_cons.1 hm with e | hm
     ·injection e with e1 e2
      subst e1 e2
      exact .inl ⟨b',q,r1,zXw h3 _ (by simp [zWN hren]),h2,hp.1,fun x hx=>zXw h3 x (by simp [hx])⟩
     ·exact zVo h3 hp.2 hn.2 b B hm
    ·cases h
   ·cases h
  ·rename_i hren
   split at h
   ·rename_i e size xs
    split at h
    ·rename_i q2 r2 h3
     simp only [Option.some.injEq,Prod.mk.injEq] at h
     obtain ⟨rfl,rfl⟩:=h
     rcases List.mem_cons.1 hm with e' | hm
     ·injection e' with e1 e2
      subst e1 e2
      exact .inr ⟨zXw h3 _ (zWN hren),e,size,by rw [← hp.1]⟩
     ·exact zVo h3 hp.2 hn.2 b B hm
    ·cases h
   ·cases h
  ·cases h
theorem zH6:∀ {l:List (Nat × Bx)} {b:Nat},(zXV l b).known=true→(b,zXV l b)∈l
 | [],_,h=>by simp [zXV,Bx.known] at h
 |(b',B)::l,b,h=>by
  simp only [zXV] at h ⊢
  by_cases e:b=b'
  ·subst e; simp
  ·rw [if_neg e] at h ⊢; simp [zH6 h]
theorem zVW:∀ {l:List (Nat × Bx)} {b:Nat} {B:Bx},(l.map (·.1)).Nodup→(b,B)∈l→zXV l b=B
 |(b',B')::l,b,B,hn,h=>by
  simp only [List.map_cons,List.nodup_cons] at hn
  rcases List.mem_cons.1 h with e | h
  ·injection e with e1 e2; subst e1 e2; simp [zXV]
  ·have:b≠b':=fun e=>hn.1 (by rw [← e]; exact List.mem_map.2 ⟨_,h,rfl⟩)
   simp only [zXV,if_neg this]
   exact zVW hn.2 h
theorem RepS.fit0 {w0:World} {S:zZj} {n:Dom} {s:AS} {ι:zQC} {a:Act} {w:World} (h:RepS w0 S n s ι a w) {sn:Snap} (hf:jVI n s sn):∃ ι',RepS w0 S n sn.as ι' a w:=by
 unfold jVI at hf
 split at hf
 ·rename_i p r h1
  split at hf
  ·rename_i q r' h2
   split at hf
   ·rename_i hok
    obtain ⟨hp,hq⟩:=hf
    simp only [jVZ,Bool.and_eq_true,List.all_eq_true,decide_eq_true_eq] at hok
    obtain ⟨⟨o1,o2⟩,o3⟩:=hok
    have hren:∀ x∈r',zKG r' x.1=some x.2:=fun x hx=>by
     have:=(o1 x hx).1
     exact eq_of_beq this
    have hinj:∀ b1 b2 b',(b1,some b')∈r'→(b2,some b')∈r'→b1=b2:=fun b1 b2 b' m1 m2=>by
     have:=o2 _ m1 _ m2
     simpa using this
    have hat:∀ b,(zXV sn.bx b).known=true→(∃ b' q r1,(b,some b')∈r'∧jXP (zXV sn.bx b) (s.bx b')=some (q,r1)∧q∧∀ x∈r1,x∈r')∨((b,none)∈r'∧∃ e size,zXV sn.bx b=.row e size []):=
     fun b hk=>zVo h2 hq o3 b _ (zH6 hk)
    have hbxk:∀ x∈r',(sn.as.bx x.1).known=true:=fun x hx=>by
     have:=(o1 x hx).2
     rw [List.any_eq_true] at this
     obtain ⟨y,hy,e⟩:=this
     have e:y.1=x.1:=eq_of_beq e
     have hy':(x.1,y.2)∈sn.bx:=by rw [← e]; exact hy
     have hl:=zVW o3 hy'
     show (zXV sn.bx x.1).known=true
     rw [hl]
     have hno:∀ B,(x.1,B)∈sn.bx→B.known=true:=fun B hB=>by
      rcases zVo h2 hq o3 x.1 B hB with ⟨b',q,r1,_,hfb,_⟩ | ⟨_,e',size,rfl⟩
      ·cases B <;> simp_all [jXP,Bx.known]
      ·rfl
     exact hno _ hy'
    have hknown:∀ x∈r',zKG r' x.1=some x.2∧(sn.as.bx x.1).known=true:=fun x hx=>⟨hren x hx,hbxk x hx⟩
    have hlive:∀ b,(sn.as.bx b).live=true→(∃ b',(b,some b')∈r'∧(s.bx b').live=true∧nm ι r' b=ι b')∨nm ι r' b=none:=fun b hl=>by
     have hk:(zXV sn.bx b).known=true:=by
      have hl':(zXV sn.bx b).live=true:=hl
      cases hB:zXV sn.bx b <;> rw [hB] at hl' <;> first | rfl | cases hl'
     rcases hat b hk with ⟨b',q,r1,m,hfb,_⟩ | ⟨m,_⟩
     ·left
      refine ⟨b',m,?_,by simp only [nm,hren _ m]⟩
      have hl':(zXV sn.bx b).live=true:=hl
      cases hB:zXV sn.bx b <;> cases hB':s.bx b' <;> rw [hB,hB'] at hfb <;> simp only [jXP,reduceCtorEq] at hfb <;> first | rfl | (rw [hB] at hl'; cases hl')
     ·right; simp only [nm,hren _ m]
    have hkeep:zZH w (Seen S w0.heap.size s.bx ι) w (Seen S w0.heap.size sn.as.bx (nm ι r')):=fun g off u hV hu=>⟨⟨hV.1,fun b c hl e=>by
     rcases hlive b hl with ⟨b',_,hl',e'⟩ | e'
     ·exact hV.2 b' c hl' (by rw [← e']; exact e)
     ·rw [e'] at e; cases e⟩,hu⟩
    have hVmono:∀ {x:AV} {v:Value},zQv w (Seen S w0.heap.size s.bx ι) ι s.bx x v→zQv w (Seen S w0.heap.size sn.as.bx (nm ι r')) ι s.bx x v:=fun hx=>hx.keep (fun b hb=>⟨hb,rfl⟩) hkeep
    refine ⟨nm ι r',h.bel,h.marks,h.oth,h.size,h.fix,fun b hb=>?_,fun t=>?_,fun b=>?_,fun b g c hl e=>?_,fun b1 b2 g c c' hl hl' hne e=>?_,h.glob.keep hkeep⟩
    ·have hm:(b,some b)∈r':=zXw h2 _ (by simp only [pins,List.mem_append,List.mem_map]; exact .inr ⟨b,hb,rfl⟩)
     exact ⟨by simp only [nm,hren _ hm]; exact (h.pin b hb).1,hbxk _ hm⟩
    ·rcases jXa h1 hp t with hd | ⟨q,r1,g1,g2,g3⟩
     ·show zQv _ _ _ _ (jXD sn.tm t) _
      rw [hd]; simp only [zQv,zQJ]
     ·exact jQp (fun _=>rfl) g1 g2 (fun x hx=>hknown x (zXw h2 x (by simp [g3 x hx]))) (hVmono (h.tm t))
    ·show zXp _ _ _ _ b (zXV sn.bx b)
     cases hk:(zXV sn.bx b).known with
     | false=>cases hB:zXV sn.bx b <;> rw [hB] at hk <;> first | trivial | cases hk
     | true=>
      rcases hat b hk with ⟨b',q,r1,m,hfb,hq1,hr1⟩ | ⟨m,e,size,hB⟩
      ·have hnm:nm ι r' b=ι b':=by simp only [nm,hren _ m]
       have hrb:=h.bx b'
       cases hB:zXV sn.bx b <;> cases hB':s.bx b' <;> rw [hB,hB'] at hfb <;> simp only [jXP,reduceCtorEq] at hfb <;> rw [hB'] at hrb
       ·trivial
       ·obtain ⟨g,c,cur,T,g1,g2,g0,g3⟩:=hrb
        refine ⟨g,c,cur,T,by rw [hnm]; exact g1,g2,zUg g0 (jZn hfb hq1),?_⟩
        exact zGw (fun _=>rfl) hfb hq1 (fun x hx=>hknown x (hr1 x hx)) (g3.keep (fun b hb=>⟨hb,rfl⟩) hkeep)
       ·split at hfb
        ·rename_i hes
         simp only [Option.some.injEq,Prod.mk.injEq] at hfb
         obtain ⟨rfl,rfl⟩:=hfb
         subst hq1
         obtain ⟨rfl,rfl⟩:=hes
         rcases hrb with ⟨g1,g2⟩ | ⟨g,cap,cur,g1,g2,g3,g4,g5⟩
         ·exact .inl ⟨by rw [hnm]; exact g1,g2⟩
         ·exact .inr ⟨g,cap,cur,by rw [hnm]; exact g1,g2,g3,g4,g5.keep hkeep⟩
        ·cases hfb
       ·simp only [Option.some.injEq,Prod.mk.injEq] at hfb
        obtain ⟨rfl,rfl⟩:=hfb
        subst hq1
        rcases hrb with ⟨g1,g2⟩ | ⟨g,cap,g1,g2,g3⟩
        ·exact .inl ⟨by rw [hnm]; exact g1,g2⟩
        ·exact .inr ⟨g,cap,by rw [hnm]; exact g1,g2.keep hkeep,g3⟩
      ·rw [hB]
       exact .inl ⟨by simp only [nm,hren _ m],rfl⟩
    ·rcases hlive b hl with ⟨b',_,hl',e'⟩ | e'
     ·exact h.own b' g c hl' (by rw [← e']; exact e)
     ·rw [e'] at e; cases e
    ·rcases hlive b1 hl with ⟨b1',m1,hl1,e1⟩ | e1
     ·rcases hlive b2 hl' with ⟨b2',m2,hl2,e2⟩ | e2
      ·rw [e1] at e
       rw [e2]
       refine h.dist b1' b2' g c c' hl1 hl2 (fun e'=>hne ?_) e
       subst e'
       exact hinj _ _ _ m1 m2
      ·rw [e2]; simp
     ·rw [e1] at e; cases e
   ·exact hf.elim
  ·exact hf.elim
 ·exact hf.elim
theorem RepS.melt1 {w0:World} {S:zZj} {n:Dom} {s:AS} {ι:zQC} {a:Act} {w:World} (h:RepS w0 S n s ι a w) (t:Nat):RepS w0 S n (s.melt1 t) ι a w:=by
 unfold AS.melt1
 split
 ·rename_i b m ht
  split
  ·rename_i xs hin
   have h2:=h.freeze b
   refine ⟨h2.bel,h2.marks,h2.oth,h2.size,h2.fix,h2.pin,fun t'=>?_,h2.bx,h2.own,h2.dist,h2.glob⟩
   by_cases e:t'=t
   ·subst e
    have hv:=h2.tm t'
    have hb:=h2.bx b
    have e1:(s.setB b (s.bx b).freeze).bx b=.ice xs:=by
     simp only [AS.setB,if_true]
     revert hin
     cases s.bx b <;> intro hin <;> simp only [zXg,Option.some.injEq,reduceCtorEq] at hin <;> subst hin <;> rfl
    have e2:(s.setB b (s.bx b).freeze).tm t'=.one (.ref b m):=ht
    rw [e2] at hv
    rw [e1] at hb
    show zQv _ _ _ _ (if t'=t' then .one (.d (.sl m xs)) else s.tm t') _
    rw [if_pos rfl]
    simp only [zQv,zQJ] at hv ⊢
    simp only [RepD]
    obtain ⟨_,hv⟩:=hv
    rcases hb with ⟨g1,g2⟩ | ⟨g,cap,g1,g2,g3⟩
    ·subst g2
     rcases hv with ⟨_,q1,q2⟩ | ⟨g',cap',q1,_⟩
     ·exact ⟨none,0,by rw [q1]; exact q2,by omega,Nat.zero_le _,fun hne=>absurd rfl hne⟩
     ·rw [g1] at q1; cases q1
    ·rcases hv with ⟨q1,_⟩ | ⟨g',cap',q1,q2,q3⟩
     ·rw [g1] at q1; cases q1
     ·rw [g1] at q1
      simp only [Option.some.injEq,Prod.mk.injEq] at q1
      obtain ⟨rfl,rfl⟩:=q1
      exact ⟨_,cap,q2,q3,g3,fun hne=>⟨g,0,rfl,g2 hne⟩⟩
   ·have:=h2.tm t'
    show zQv _ _ _ _ (if t'=t then .one (.d (.sl m xs)) else s.tm t') _
    rw [if_neg e]
    exact this
  ·exact h
 ·exact h
theorem RepS.meltFor {w0:World} {S:zZj} {n:Dom} {ι:zQC} {a:Act} {w:World}:∀ (l:List (Nat × AV)) {s:AS},RepS w0 S n s ι a w→RepS w0 S n (meltFor l s) ι a w
 | [],_,h=>h
 |(t,v)::l,s,h=>by
  unfold Go.Proofs.YtheidkkebdhmkaaGreatDoor.meltFor
  split
  ·rename_i e; cases e
  ·rename_i t' d l' e
   injection e with e1 e2
   injection e1 with e3 e4
   subst e2 e3
   exact RepS.meltFor _ (h.melt1 _)
  ·rename_i p l' _ e
   injection e with e1 e2
   subst e2
   exact RepS.meltFor _ h
theorem RepS.fit {w0:World} {S:zZj} {n:Dom} {s:AS} {ι:zQC} {a:Act} {w:World} (h:RepS w0 S n s ι a w) {sn:Snap} (hf:fits n s sn):∃ ι',RepS w0 S n sn.as ι' a w:=
 (h.meltFor sn.tm).fit0 hf
def zYy.exit_:zYy→Exit
 | .normal=>.normal
 | .exit id=>.exit id
 | .ret=>.ret
section
variable {P:Program} {Γ:Gam}
theorem zVY (s:AS):KnOK kn0 s:=fun _ _ h=>by cases h
theorem RepS.turn {w0:World} {S:zZj} {n:Dom} {s:AS} {ι:zQC} {a:Act} {w w':World} (h:RepS w0 S n s ι a w) {row:Option Nat} (hg:w.grownBy w' row)
  (hr:∀ r,row=some r→w0.heap.size≤r∧∃ o:Obj,w.heap[r]?=some o∧o.isCells=false) {ds:List Deferred} (hm:zUV w0 ds w') {ref:World} (ho:KeepsOthers ref w') :
  RepS w0 { S with ref:=ref } n s ι { a with defers:=ds } w':=by
 have hk:zZH w (Seen S w0.heap.size s.bx ι) w' (Seen { S with ref:=ref } w0.heap.size s.bx ι):=fun g off u hV hu=>⟨hV,cell_kept hu hg fun r e=>(hr r e).2⟩
 have hl:∀ b g c,(s.bx b).live=true→ι b=some (g,c)→w'.heap[g]?=w.heap[g]?:=fun b g c hb hι=>by
  refine hg.block g (h.own b g c hb hι).2 fun e=>?_
  obtain ⟨o,h1,h2⟩:=(hr g e.symm).2
  obtain ⟨cur,T,i,h3⟩:=h.live_cells hb hι
  rw [h3] at h1
  injection h1 with h1
  subst h1
  cases h2
 refine ⟨⟨hg.os.trans h.bel.os,hg.tape.trans h.bel.tape,hg.output.trans h.bel.output,Nat.le_trans h.bel.size hg.size,fun g h1 h2=>?_⟩,hm,ho,h.size,h.fix,h.pin,fun t=>(h.tm t).keep (fun b hb=>⟨hb,rfl⟩) hk,fun b=>?_,
  fun b g c hb hι=>⟨(h.own b g c hb hι).1,Nat.lt_of_lt_of_le (h.own b g c hb hι).2 hg.size⟩,h.dist,h.glob.keep hk⟩
 ·refine (hg.block g (Nat.lt_of_lt_of_le h1 h.bel.size) fun e=>?_).trans (h.bel.block g h1 h2)
  have:=(hr g e.symm).1
  omega
 ·cases hkn:(s.bx b).known with
  | true=>exact zXp.keep (fun b hb=>⟨hb,rfl⟩) hk hkn hkn (fun hb g c hι=>hl b g c hb hι) (h.bx b)
  | false=>cases hB:s.bx b <;> rw [hB] at hkn <;> first | trivial | (simp [Bx.known] at hkn)
theorem zVH {ref w w':World} {row:Option Nat} {B:Nat} (h:KeepsOthers ref w) (hg:w.grownBy w' row) (hr:∀ r,row=some r→B≤r) (hB:ref.heap.size≤B):KeepsOthers ref w':=
 ⟨Nat.le_trans h.size hg.size,fun k o hk ho=>by
  have hlt:k < ref.heap.size:=(Array.getElem?_eq_some_iff.1 hk).1
  refine (hg.block k (Nat.lt_of_lt_of_le hlt h.size) fun e=>?_).trans (h.same k o hk ho)
  have:=hr k e.symm
  omega⟩
theorem zGh {w0 w w':World} {ds:List Deferred} {row:Option Nat} {B:Nat} (h:zUV w0 ds w) (hg:w.grownBy w' row) (hr:∀ r,row=some r→B≤r) (hB:∀ d∈ds,∀ D,d={ target:=.collected D,args:=#[] }→D < B):zUV w0 ds w':=
 ⟨h.1,fun d hd=>by
  obtain ⟨D,e,h1,h2⟩:=h.2 d hd
  refine ⟨D,e,h1,(hg.block D (Array.getElem?_eq_some_iff.1 h2).1 fun e'=>?_).trans h2⟩
  have:=hr D e'.symm
  have:=hB d hd D e
  omega⟩
theorem jJm {n:Dom} {F:Fence} (hF:Wide F) {m id:Nat} {ops:Array Oper} {draw:Bool} {kn:Kn} {s:AS} {Q:zYy→Kn→AS→Prop} (hm:P.follows .mixedOrders=true) (h:zYT P Γ n ops (List.range ops.size) kn s [] fun kn' s' acc=>match draw with
  | true=>jJv ops (fun i=>acc.reverse.getD i ([],[]))=true∧Q .normal kn' s'
  | false=>Q .normal kn' s') (hk:KnOK kn s) {w0:World} {S:zZj} {ι:zQC} {a:Act} {w:World} (hr:RepS w0 S n s ι a w) {Q':Exit→Act→World→Prop}
  (hQ:∀ e kn' s' ι' a' w',Q e kn' s'→KnOK kn' s'→RepS w0 S n s' ι' a' w'→Q' e.exit_ a' w'):(Code.region id ops draw).wpIn F m P Q' a w:=by
 obtain ⟨kn',s',ts,h1,h2,h3,h4⟩:=zVv h hk
 have hτ:∀ (k i:Nat),(List.range ops.size)[k]?=some i→(fun i=>(ts.reverse++[]).reverse.getD i ([],[])) i=ts.getD k ([],[]):=fun k i hi=>by
  have:k=i:=by
   have hlt:=(List.getElem?_eq_some_iff.1 hi).1
   simp at hlt
   simp [hlt] at hi
   exact hi
  subst this
  simp
 have hruns:=h4 _ hτ
 cases draw with
 | false=>
  simp only at h1
  exact wpIn_region (zUZ hF hruns hr fun ι' a' w' hr'=>hQ .normal kn' s' ι' a' w' h1 h2 hr')
 | true=>
  simp only at h1
  obtain ⟨hok,h1⟩:=h1
  refine wpIn_region_any hm ?_
  have hleft:left ops (Array.replicate ops.size false)=List.range ops.size:=by
   unfold left
   rw [List.filter_eq_self]
   intro i hi
   have:i < ops.size:=List.mem_range.1 hi
   simp [Array.getD,this]
  have hr1:RepS w0 S n s ι a { w with drawn:=w.drawn+1 }:=hr.quiet ⟨hr.bel.os,hr.bel.tape,hr.bel.output,hr.bel.size,hr.bel.block⟩ rfl
  exact jJq hF hok (fun ι' a' w' hr'=>hQ .normal kn' s' ι' a' w' h1 h2 hr') ops.size _ s ι a _ (fun i o ho hl hs=>by
   have:i < ops.size:=by simpa using hs
   simp [Array.getD,this] at hl) (by simp) (by rw [hleft]; simp) (by rw [hleft]; exact hruns) hr1
theorem jJU {kn:Kn} {s:AS} {t:Nat} (h:KnOK kn s):KnOK kn (s.melt1 t):=fun t' b hb=>by
 have h1:=h t' b hb
 unfold AS.melt1
 split
 ·rename_i b' m ht
  split
  ·simp only
   split
   ·rename_i e
    subst e
    rw [ht] at h1
    cases h1
   ·exact h1
  ·exact h1
 ·exact h1
theorem jZW {kn:Kn}:∀ (ts:List Nat) {s:AS},KnOK kn s→KnOK kn (melts s ts)
 | [],_,h=>h
 | _::ts,_,h=>jZW ts (jJU h)
theorem RepS.melts {w0:World} {S:zZj} {n:Dom} {ι:zQC} {a:Act} {w:World}:∀ (ts:List Nat) {s:AS},RepS w0 S n s ι a w→RepS w0 S n (melts s ts) ι a w
 | [],_,h=>h
 | t::ts,_,h=>RepS.melts ts (h.melt1 t)
theorem zYS {n:Dom} {ops:Array Oper}:∀ {R:List Nat} {kn:Kn} {s:AS} {acc:List (List Nat × List Nat)} {Q Q':Kn→AS→List (List Nat × List Nat)→Prop},(∀ kn s acc,Q kn s acc→Q' kn s acc)→zYT P Γ n ops R kn s acc Q→zYT P Γ n ops R kn s acc Q'
 | [],kn,s,acc,Q,Q',hQ,h=>hQ _ _ _ h
 | i::R,kn,s,acc,Q,Q',hQ,h=>by
  unfold zYT at h ⊢
  split at h
  ·exact h.elim
  ·split at h
   ·exact h.elim
   ·split at h
    ·exact ⟨h.1,zYS hQ h.2⟩
    ·exact h.elim
   ·split at h
    ·exact zYS hQ h
    ·exact h.elim
   ·refine ⟨fun e=>?_,fun e=>?_⟩
    ·have h:=h.1 e
     split at h
     ·exact ⟨h.1,zYS hQ h.2⟩
     ·exact h.elim
    ·have h:=h.2 e
     split at h
     ·exact zYS hQ h
     ·exact h.elim
theorem zX5 {n:Dom} {ops:Array Oper} {B:List Nat} {Q:Kn→AS→List (List Nat × List Nat)→Prop}:∀ {A:List Nat} {kn:Kn} {s:AS} {acc:List (List Nat × List Nat)},zYT P Γ n ops A kn s acc (fun kn' s' acc'=>zYT P Γ n ops B kn' s' acc' Q)→zYT P Γ n ops (A++B) kn s acc Q
 | [],kn,s,acc,h=>h
 | i::A,kn,s,acc,h=>by
  rw [List.cons_append]
  unfold zYT at h ⊢
  split at h
  ·exact h.elim
  ·split at h
   ·exact h.elim
   ·split at h
    ·exact ⟨h.1,zX5 h.2⟩
    ·exact h.elim
   ·split at h
    ·exact zX5 h
    ·exact h.elim
   ·refine ⟨fun e=>?_,fun e=>?_⟩
    ·have h:=h.1 e
     split at h
     ·exact ⟨h.1,zX5 h.2⟩
     ·exact h.elim
    ·have h:=h.2 e
     split at h
     ·exact zX5 h
     ·exact h.elim
theorem zGC {e:Int} {k:IntKind} {t:Nat} {s:AS} {K:AS→Prop}:∀ {vs:List Int},orIs e vs→jKi e k t s K vs→K (s.put (some t) (.one (.d (.int k e))))
 | v::vs,h1,h2=>by
  simp only [orIs] at h1
  simp only [jKi] at h2
  rcases h1 with rfl | h1
  ·exact h2.1 rfl
  ·exact zGC h1 h2.2
 | [],h1,_=>h1.elim
theorem zHG {vs:List Int} {t:Nat} {s:AS} {K:AS→Prop} (h:jQK vs t s K):K s:=by
 unfold jQK at h
 split at h
 ·rename_i k e ht
  have:=zGC h.1 h.2
  have hs:s.put (some t) (.one (.d (.int k e)))=s:=by
   refine AS.ext' ?_ rfl
   funext t'
   simp only [AS.put]
   split
   ·rename_i e'; rw [e',ht]
   ·rfl
  rwa [hs] at this
 ·exact h.elim
theorem jXW {n:Dom} {ops:Array Oper} {ann:Ann} {kn:Kn} {s:AS} {K:Kn→AS→List (List Nat × List Nat)→Prop} (h:jKP P Γ n ops ann kn s K):zYT P Γ n ops (List.range ops.size) kn s [] K:=by
 unfold jKP at h
 split at h
 ·rename_i i t vs
  have h2:=zX5 (zYS (fun _ _ _ h=>zHG h) h)
  rwa [List.take_append_drop] at h2
 ·exact h
def jXl (P:Program) (f:VCF) (c:Code):Prop:=
 ∀ (n:Dom) (ann:Ann) (kn:Kn) (s:AS) (Q:zYy→Kn→AS→Prop),f n ann kn s Q→KnOK kn s→∀ (F:Fence),Wide F→(n.round=false→F=Fence.wide) →
  ∀ (w0:World) (S:zZj) (ι:zQC) (a:Act) (w:World),RepS w0 S n s ι a w→∀ (m:Nat) (Q':Exit→Act→World→Prop),
  (∀ e kn' s' ι' a' w',Q e kn' s'→KnOK kn' s'→RepS w0 S n s' ι' a' w'→Q' e.exit_ a' w')→c.wpIn F m P Q' a w
def zW5:Ann→Nat
 | .link _ _ next=>zW5 next+1
 | _=>0
theorem jXE {f:VCF} {c:Code} (ih:jXl P f c) {n:Dom} {ann:Ann} {s:AS} {Q:zYy→Kn→AS→Prop} (h1:jZX n ann s) (h2:zH7 n (f n) Q ann) {F:Fence} (hF:Wide F) (hR:n.round=false→F=Fence.wide)
  {w0:World} {S:zZj} {ι:zQC} {a:Act} {w:World} (hr:RepS w0 S n s ι a w) {m:Nat} {Q':Exit→Act→World→Prop}
  (hQ:∀ e kn' s' ι' a' w',Q e kn' s'→KnOK kn' s'→RepS w0 S n s' ι' a' w'→Q' e.exit_ a' w'):(Code.loop c).wpIn F m P Q' a w:=by
 refine wpIn_loop_ghost (fun k a w=>∃ ann s ι,zW5 ann=k∧jZX n ann s∧zH7 n (f n) Q ann∧RepS w0 S n s ι a w) (zW5 ann) ⟨ann,s,ι,rfl,h1,h2,hr⟩ fun k a w hI=>?_
 obtain ⟨ann,s,ι,rfl,h1,h2,hr⟩:=hI
 cases ann <;> first | exact h1.elim | skip
 rename_i I b next
 obtain ⟨z,hz,hf⟩:=h1
 obtain ⟨ι2,hr2⟩:=hr.fit hf
 simp only [zH7] at h2
 refine ih n (b z) kn0 _ _ (h2.1 z hz) (zVY _) F hF hR w0 S ι2 a w hr2 m _ fun e kn' s' ι' a' w' hq hk' hr'=>?_
 cases e with
 | normal=>exact ⟨zW5 next,by simp [zW5],next,s',ι',rfl,hq,h2.2,hr'⟩
 | exit id=>exact hQ (.exit id) kn' s' ι' a' w' hq hk' hr'
 | ret=>exact hQ .ret kn' s' ι' a' w' hq hk' hr'
theorem jZJ {f:Ann→Kn→AS→(zYy→Kn→AS→Prop)→Prop} {kn:Kn} {s:AS} {t:Nat} {Q:zYy→Kn→AS→Prop} {k:IntKind} {e:Int} (ht:s.tm t=.one (.d (.int k e))) :
  ∀ {bs:Ann},jJH e bs→jZK f k e kn s t Q bs→∃ b,f b (zJv kn (some t) none) s Q
 | .opt v b next,h1,h2=>by
  simp only [jJH] at h1
  simp only [jZK] at h2
  rcases h1 with h1 | h1
  ·have hs:s.put (some t) (.one (.d (.int k v)))=s:=by
    refine AS.ext' ?_ rfl
    funext t'
    simp only [AS.put]
    split
    ·rename_i e'; rw [e',ht,h1]
    ·rfl
   have:=h2.1 h1
   rw [hs] at this
   exact ⟨b,this⟩
  ·exact jZJ ht h1 h2.2
 | .leaf,h1,_=>h1.elim
 | .seq _ _,h1,_=>h1.elim
 | .loop _ _,h1,_=>h1.elim
 | .cut _ _ _,h1,_=>h1.elim
 | .link _ _ _,h1,_=>h1.elim
 | .split _ _ _,h1,_=>h1.elim
 | .range _ _ _ _,h1,_=>h1.elim
 | .sure _ _,h1,_=>h1.elim
 | .ice _ _ _ _,h1,_=>h1.elim
 | .splitAt _ _ _,h1,_=>h1.elim
theorem jYP:∀ (bs:List Nat) (s:AS),(ices s bs).tm=s.tm
 | [],_=>rfl
 | b::bs,s=>by simp only [ices]; rw [jYP bs]; rfl
theorem RepS.ices {w0:World} {S:zZj} {n:Dom} {ι:zQC} {a:Act} {w:World}:∀ (bs:List Nat) {s:AS},RepS w0 S n s ι a w→RepS w0 S n (ices s bs) ι a w
 | [],_,h=>h
 | b::bs,s,h=>RepS.ices bs (h.freeze b)
theorem RepS.only {w0:World} {S:zZj} {n:Dom} {s:AS} {ι:zQC} {a:Act} {w:World} (h:RepS w0 S n s ι a w) (T:List Nat):RepS w0 S n (s.only T) ι a w:=by
 refine ⟨h.bel,h.marks,h.oth,h.size,h.fix,h.pin,fun t=>?_,h.bx,h.own,h.dist,h.glob⟩
 show zQv _ _ _ _ (if T.contains t then s.tm t else .one .dead) _
 split
 ·exact h.tm t
 ·simp only [zQv,zQJ]
theorem jQ4 {d:DV} (h:jYt d):∃ u,d.plain=some u∧∀ (w:World) (V:Nat→Prop),RepD w V d u:=by
 cases d with
 | int k n=>exact ⟨_,rfl,fun w V=>by simp only [RepD,true_and]; exact (zXN _ _).2 h⟩
 | bool b=>exact ⟨_,rfl,fun w V=>by simp only [RepD]⟩
 | str s=>exact ⟨_,rfl,fun w V=>by simp only [RepD,true_and]; exact h⟩
 | sl n cs=>exact h.elim
 | fn f=>exact h.elim
theorem RepS.putAll {w0:World} {S:zZj} {n:Dom} {ι:zQC} {w:World}:∀ {ps:List Nat} {ds:List DV} {s:AS} {a:Act},ds.length=ps.length→zJ5 ds→(∀ p∈ps,p < n.n∧n.keep p=false)→RepS w0 S n s ι a w →
  RepS w0 S n (s.putAll ps ds) ι { a with tmps:=(ps.zip (ds.map fun d=>d.plain.getD undef)).foldl (fun t (p,v)=>t.setIfInBounds p v) a.tmps } w
 | [],[],_,_,_,_,_,h=>h
 | p::ps,d::ds,s,a,hl,hd,hp,h=>by
  obtain ⟨u,h1,h2⟩:=jQ4 hd.1
  have:=h.put (d:=some p) (x:=.one (.d d)) (v:=u) (fun k hk=>by cases hk; exact hp p (by simp)) (by simp only [zQv,zQJ]; exact h2 _ _)
  have:=RepS.putAll (ps:=ps) (ds:=ds) (by simpa using hl) hd.2 (fun q hq=>hp q (by simp [hq])) this
  simpa [AS.putAll,h1,Act.put] using this
 | [],_::_,_,_,hl,_,_,_=>by simp at hl
 | _::_,[],_,_,hl,_,_,_=>by simp at hl
theorem jQw {w0:World} {S:zZj} {n:Dom} {s:AS} {ι:zQC} {a:Act} {w:World} (h:RepS w0 S n s ι a w) {ι0:zQC} {bx0:Nat→Bx} {w1:World} {V1:Nat→Prop}:∀ {cs:List Cap} {lb:List Value} {caps:List (Bool × List DV)},zXk ι0 bx0 w1 V1 cs lb →
  (∀ b∈cs.flatMap Cap.names,ι b=ι0 b)→zJj s.bx cs=some caps→jQD w caps lb
 | [],[],caps,_,_,hc=>by simp only [zJj,Option.some.injEq] at hc; subst hc; trivial
 | c::cs,v::lb,caps,hr,hn,hc=>by
  simp only [zJj] at hc
  cases h1:zHk s.bx c with
  | none=>rw [h1] at hc; cases hc
  | some x=>
   cases h2:zJj s.bx cs with
   | none=>rw [h1,h2] at hc; cases hc
   | some xs=>
    rw [h1,h2] at hc
    simp only [Option.some.injEq] at hc
    subst hc
    refine ⟨?_,jQw h hr.2 (fun b hb=>hn b (by rw [List.flatMap_cons,List.mem_append]; exact .inr hb)) h2⟩
    have hv:=hr.1
    cases c with
    | d x=>
     simp only [zHk] at h1
     split at h1
     ·rename_i hp
      simp only [Option.some.injEq] at h1
      subst h1
      obtain ⟨u,hu⟩:=Option.isSome_iff_exists.1 hp
      exact ⟨x,rfl,by rw [RepD.plain hv hu]; exact hu⟩
     ·cases h1
    | ptr b off=>
     simp only [zHk] at h1
     split at h1
     ·rename_i ho
      subst ho
      split at h1
      ·rename_i cells hB
       split at h1
       ·rename_i ds hds
        split at h1
        ·rename_i hall
         simp only [Option.some.injEq] at h1
         subst h1
         obtain ⟨_,g,c,e1,e2⟩:=hv
         have hb:=h.bx b
         rw [hB] at hb
         obtain ⟨g',c',cur,T,q1,q2,_,q3⟩:=hb
         rw [hn b (by simp [Cap.names]),e1] at q1
         simp only [Option.some.injEq,Prod.mk.injEq] at q1
         obtain ⟨rfl,rfl⟩:=q1
         have q4:=zKF q3 hds
         refine ⟨g,e2,fun i d hi=>?_⟩
         obtain ⟨u,hu,hd⟩:=zYZ q4 i d hi
         have hp:d.plain.isSome=true:=(List.all_eq_true.1 hall) d (List.mem_of_getElem? hi)
         obtain ⟨u',hu'⟩:=Option.isSome_iff_exists.1 hp
         refine ⟨u',hu',?_⟩
         rw [cell_of_row w g i cur T (0,0) q2,← RepD.plain hd hu']
         simpa using hu
        ·cases h1
       ·cases h1
      ·cases h1
     ·cases h1
 | [],_::_,_,h,_,_=>h.elim
 | _::_,[],_,h,_,_=>h.elim
theorem zGy {w:World} {V:Nat→Prop} {ι:zQC} {bx:Nat→Bx}:∀ {cs:List Cap} {lb:List Value},zXk ι bx w V cs lb→∀ b∈cs.flatMap Cap.names,(bx b).known=true
 | [],[],_,b,hb=>by simp at hb
 | c::cs,v::lb,h,b,hb=>by
  rw [List.flatMap_cons,List.mem_append] at hb
  rcases hb with hb | hb
  ·cases c with
   | d x=>simp [Cap.names] at hb
   | ptr b' off=>simp only [Cap.names,List.mem_singleton] at hb; subst hb; exact h.1.1
  ·exact zGy h.2 b hb
 | [],_::_,h,_,_=>h.elim
 | _::_,[],h,_,_=>h.elim
def zHg:zYy→Option Code
 | .normal=>none
 | .exit id=>some (.exit id)
 | .ret=>some .ret
theorem jQZ {fA fB:VCF} {x y:Code} (ihA:jXl P fA x) (ihB:jXl P fB y) {n:Dom} {g:Operand} {ps:Array Tmp} {I:Inv} {T:List Nat} {aa bb:I.α→Ann} {s:AS} {Q:zYy→Kn→AS→Prop}
  (h:jQ0 P Γ n fA fB g ps.toList I T aa bb s Q) {F:Fence} (hR:n.round=false→F=Fence.wide)
  {w0:World} {S:zZj} {ι:zQC} {a:Act} {w:World} (hr:RepS w0 S n s ι a w) {m:Nat} {Q':Exit→Act→World→Prop}
  (hQ:∀ e kn' s' ι' a' w',Q e kn' s'→KnOK kn' s'→RepS w0 S n s' ι' a' w'→Q' e.exit_ a' w'):(Code.rangeFunc g ps x y).wpIn F m P Q' a w:=by
 unfold jQ0 at h
 split at h
 ·rename_i f cs hs
  split at h
  ·rename_i caps hcaps hflags
   split at h
   ·rename_i N item hit
    obtain ⟨hans,hitems,⟨z0,hz0,hμ0,hf0⟩,hrounds⟩:=h
    simp only [Bool.and_eq_true,Bool.not_eq_true'] at hflags
    obtain ⟨⟨hen,hrd⟩,hps⟩:=hflags
    have hFw:=hR hrd
    subst hFw
    simp only [psOK,Bool.and_eq_true,List.all_eq_true,decide_eq_true_eq,Bool.not_eq_true'] at hps
    obtain ⟨hps1,hps2⟩:=hps
    have hv:=hr.eval g
    rw [hs] at hv
    simp only [zQv,zQJ] at hv
    obtain ⟨lb,hv,hlb⟩:=hv
    have hr1:RepS w0 { S with nm:=ι } (n.pinned (cs.flatMap Cap.names)) s ι a w:=
     ⟨hr.bel,hr.marks,hr.oth,hr.size,hr.fix,fun b hb=>⟨rfl,by
      simp only [Dom.pinned,List.mem_append] at hb
      rcases hb with hb | hb
      ·exact (hr.pin b hb).2
      ·exact zGy hlb b hb⟩,hr.tm,hr.bx,hr.own,hr.dist,hr.glob⟩
    obtain ⟨ι1,hr2⟩:=hr1.fit hf0
    have hmk:∀ d∈a.defers,∀ D,d={ target:=.collected D,args:=#[] }→D < w.heap.size:=fun d hd D e=>by
     obtain ⟨D',e',_,h2⟩:=hr.marks.2 d hd
     rw [e'] at e
     simp only [Deferred.mk.injEq,Target.collected.injEq,and_true] at e
     subst e
     exact (Array.getElem?_eq_some_iff.1 h2).1
    have hturn:∀ {s':AS} {n':Dom} {S':zZj} {ι':zQC} {W W':World} {row:Option Nat},S'.ref.heap.size≤w.heap.size→RepS w0 S' n' s' ι' a W→W.grownBy W' row→(∀ r,row=some r→w.heap.size≤r∧∃ o:Obj,W.heap[r]?=some o∧o.isCells=false)→RepS w0 S' n' s' ι' a W':=by
     intro s' n' S' ι' W W' row hs' h' hg hr'
     exact h'.turn hg (fun r e=>⟨Nat.le_trans hr.bel.size (hr' r e).1,(hr' r e).2⟩) (zGh h'.marks hg (fun r e=>(hr' r e).1) hmk) (zVH h'.oth hg (fun r e=>(hr' r e).1) hs')
    have hkeepT:∀ t,(T.contains t=true∨n.keep t=true)→t ∉ ps.toList:=fun t ht hm=>by
     obtain ⟨⟨_,h2⟩,h3⟩:=hps1 t hm
     rcases ht with ht | ht
     ·rw [ht] at h2; cases h2
     ·rw [ht] at h3; cases h3
    have hback:∀ {s':AS} {ι':zQC} {a3:Act} {W W3 ref:World},zUV w0 a.defers W→KeepsOthers S.ref W→KeepsOthers W W3→RepS w0 { S with nm:=ι,ref:=ref,base:=fun t=>a.tmps.getD t undef } (n.inner T (cs.flatMap Cap.names)) s' ι' a3 W3 →
      RepS w0 { S with nm:=ι } (n.pinned (cs.flatMap Cap.names)) (s'.only T) ι' a W3:=by
     intro s' ι' a3 W W3 ref hm1 ho1 hk h3
     refine ⟨h3.bel,hm1.keep hk,ho1.trans hk,hr.size,hr.fix,h3.pin,fun t=>?_,h3.bx,h3.own,h3.dist,h3.glob⟩
     show zQv _ _ _ _ (if T.contains t then s'.tm t else .one .dead) _
     split
     ·rename_i ht
      have hfx:=h3.fix t (by show (n.keep t || T.contains t)=true; rw [ht,Bool.or_true])
      have:=h3.tm t
      rw [hfx] at this
      exact this
     ·simp only [zQv,zQJ]
    have hout:∀ {s':AS} {ι':zQC} {W:World},RepS w0 { S with nm:=ι } (n.pinned (cs.flatMap Cap.names)) s' ι' a W→RepS w0 S n s' ι' a W:=fun h'=>
     ⟨h'.bel,h'.marks,h'.oth,h'.size,h'.fix,fun b hb=>by
      have:=h'.pin b (by simp [Dom.pinned,hb])
      exact ⟨this.1.trans (hr.pin b hb).1,this.2⟩,h'.tm,h'.bx,h'.own,h'.dist,h'.glob⟩
    have hmark:∀ {s':AS} {ι':zQC} {W:World} {D:Nat},w.heap.size≤D→W.heap[D]?=some (.deferred (some []))→RepS w0 S n s' ι' a W→RepS w0 S n s' ι' { a with defers:={ target:=.collected D,args:=#[] }::a.defers } W:=fun hD hW h'=>
     ⟨h'.bel,⟨List.pairwise_cons.2 ⟨fun d hd e=>by
       have:=hmk d hd _ e.symm
       omega,h'.marks.1⟩,fun d hd=>by
      rcases List.mem_cons.1 hd with rfl | hd
      ·exact ⟨_,rfl,Nat.le_trans hr.bel.size hD,hW⟩
      ·exact h'.marks.2 d hd⟩,h'.oth,h'.size,h'.fix,h'.pin,h'.tm,h'.bx,h'.own,h'.dist,h'.glob⟩
    refine jYo hv (zK5 hen) hans (fun k hk=>by rw [(hitems k hk).1]; simp)
     (fun k W=>∃ z ι',I.ok z∧I.μ z=k∧RepS w0 { S with nm:=ι } (n.pinned (cs.flatMap Cap.names)) ((I.st z).as.only T) ι' a W)
     (fun c W=>∃ e kn' s' ι',zHg e=some c∧Q e kn' s'∧KnOK kn' s'∧RepS w0 { S with nm:=ι } (n.pinned (cs.flatMap Cap.names)) s' ι' a W)
     (fun k W W' row ⟨z,ι',h1,h2,h3⟩ hg hrr=>⟨z,ι',h1,h2,hturn hr.oth.size h3 hg hrr⟩)
     (fun c W W' row ⟨e,kn',s',ι',h1,h2,h3,h4⟩ hg hrr=>⟨e,kn',s',ι',h1,h2,h3,hturn hr.oth.size h4 hg hrr⟩)
     (fun k W ⟨z,ι',h1,h2,h3⟩=>jQw h3 hlb (fun b hb=>(h3.pin b (by simp only [Dom.pinned,List.mem_append]; exact .inr hb)).1) (hrounds z h1).1)
     ⟨z0,ι1,hz0,hμ0,hr2.only T⟩ ?_ ?_ ?_
    ·
     rintro l k W hk ⟨z,ι',hz,rfl,h3⟩
     have hit:=hitems (I.μ z) hk
     have hin:RepS w0 { S with nm:=ι,ref:=W,base:=fun t=>a.tmps.getD t undef } (n.inner T (cs.flatMap Cap.names)) ((I.st z).as.only T) ι' { tmps:=a.tmps,defers:=[] } W:=
      ⟨h3.bel,⟨List.Pairwise.nil,fun d hd=>by simp at hd⟩,KeepsOthers.refl W,h3.size,fun t _=>rfl,h3.pin,h3.tm,h3.bx,h3.own,h3.dist,h3.glob⟩
     have hin2:=hin.putAll (ps:=ps.toList) (ds:=item (I.μ z)) hit.1 hit.2 (fun p hp=>by
      obtain ⟨⟨h1,h2⟩,h4⟩:=hps1 p hp
      refine ⟨h1,?_⟩
      simp only [Dom.inner,h2,h4,Bool.or_self])
     have hloop:∀ (f:Array Value→Tmp × Value→Array Value) (t0:Array Value) (vs:List Value),(ps.zip vs.toArray).foldl f t0=(ps.toList.zip vs).foldl f t0:=fun f t0 vs=>by
      rw [← Array.foldl_toList,Array.toList_zip]
     show x.wpIn _ m P _ { tmps:=(ps.zip (zUp (item (I.μ z)))).foldl (fun t (p,v)=>t.setIfInBounds p v) a.tmps,defers:=[] } W
     rw [zUp,hloop]
     refine ihA _ (aa z) kn0 _ _ ((hrounds z hz).2.1 hk) (zVY _) _ (.inr ⟨l,rfl⟩) (fun h=>by cases h) w0 _ ι' _ W hin2 m _ fun e kn' s' ι2 a1 W1 hq hk' h4=>?_
     cases e with
     | ret=>exact hq.elim
     | exit id=>exact hq.elim
     | normal=>
      refine ⟨h4.oth,fun W2 hg hl hcell=>?_⟩
      obtain ⟨lr,hlr⟩:=hcell
      have h5:=h4.turn hg (fun r e=>by cases e; exact ⟨Nat.le_trans hr.bel.size hl,_,hlr,rfl⟩) (ds:=a1.defers) ⟨h4.marks.1,fun d hd=>by
       obtain ⟨D,e1,e2,e3⟩:=h4.marks.2 d hd
       refine ⟨D,e1,e2,(hg.block D (Array.getElem?_eq_some_iff.1 e3).1 fun e'=>?_).trans e3⟩
       injection e' with e'
       subst e'
       rw [hlr] at e3
       injection e3 with e3
       cases e3⟩ (KeepsOthers.refl W2)
      have hm1:zUV w0 a.defers W:=h3.marks
      have hm2:zUV w0 a.defers W2:=zGh (hm1.keep h4.oth) hg (fun r e=>by cases e; exact hl) hmk
      have ho2:KeepsOthers S.ref W2:=zVH (h3.oth.trans h4.oth) hg (fun r e=>by cases e; exact hl) hr.oth.size
      refine ihB _ (bb z) kn' _ _ hq hk' _ (.inr ⟨l,rfl⟩) (fun h=>by cases h) w0 _ ι2 a1 W2 h5 m _ fun e kn2 s2 ι3 a3 W3 hq2 hk2 h6=>?_
      cases e with
      | normal=>
       obtain ⟨y,hy,hμ,hf⟩:=hq2
       obtain ⟨ι4,h7⟩:=h6.fit hf
       exact ⟨h6.oth,y,ι4,hy,hμ,hback hm2 ho2 h6.oth h7⟩
      | ret=>exact ⟨h6.oth,.ret,kn0,s2.only T,ι3,rfl,hq2,zVY _,hback hm2 ho2 h6.oth h6⟩
      | exit id=>exact ⟨h6.oth,.exit id,kn0,s2.only T,ι3,rfl,hq2,zVY _,hback hm2 ho2 h6.oth h6⟩
    ·
     rintro Dk W hD ⟨z,ι',hz,hμ,h3⟩ hW
     exact hQ .normal kn0 _ ι' _ W ((hrounds z hz).2.2 hμ) (zVY _) (hmark hD hW (hout h3))
    ·rintro Dk c W hD ⟨e,kn',s',ι',he,hq,hk',h3⟩ hW
     cases e with
     | normal=>cases he
     | ret=>
      simp only [zHg,Option.some.injEq] at he
      subst he
      exact wpIn_ret (hQ .ret kn' s' ι' _ W hq hk' (hmark hD hW (hout h3)))
     | exit id=>
      simp only [zHg,Option.some.injEq] at he
      subst he
      exact wpIn_exit (hQ (.exit id) kn' s' ι' _ W hq hk' (hmark hD hW (hout h3)))
   ·exact h.elim
  ·exact h.elim
 ·exact h.elim
theorem zZg (hm:P.follows .mixedOrders=true):∀ (c:Code),jXl P (fun n=>vcg P Γ n c) c
 | .skip,n,_,kn,s,Q,h,hk,F,hF,hR,w0,S,ι,a,w,hr,m,Q',hQ=>wpIn_skip (hQ .normal kn s ι a w h hk hr)
 | .label _,n,_,kn,s,Q,h,hk,F,hF,hR,w0,S,ι,a,w,hr,m,Q',hQ=>wpIn_label (hQ .normal kn s ι a w h hk hr)
 | .exit id,n,_,kn,s,Q,h,hk,F,hF,hR,w0,S,ι,a,w,hr,m,Q',hQ=>wpIn_exit (hQ (.exit id) kn s ι a w h hk hr)
 | .ret,n,_,kn,s,Q,h,hk,F,hF,hR,w0,S,ι,a,w,hr,m,Q',hQ=>wpIn_ret (hQ .ret kn s ι a w h hk hr)
 | .region id ops draw,n,_,kn,s,Q,h,hk,F,hF,hR,w0,S,ι,a,w,hr,m,Q',hQ=>jJm hF hm (jXW h) hk hr hQ
 | .seq x y,n,ann,kn,s,Q,h,hk,F,hF,hR,w0,S,ι,a,w,hr,m,Q',hQ=>by
  simp only [vcg] at h
  refine wpIn_seq ?_
  split at h
  ·rename_i I a' b
   obtain ⟨h1,h2⟩:=h
   refine zZg hm x n a' kn s _ h1 hk F hF hR w0 S ι a w hr m _ fun e kn' s' ι' a' w' hq hk' hr'=>?_
   cases e with
   | normal=>
    obtain ⟨z,hz,hf⟩:=hq
    obtain ⟨ι2,hr2⟩:=hr'.fit hf
    exact zZg hm y n (b z) kn0 _ Q (h2 z hz) (zVY _) F hF hR w0 S ι2 a' w' hr2 m Q' hQ
   | exit id=>exact hQ (.exit id) kn' s' ι' a' w' hq hk' hr'
   | ret=>exact hQ .ret kn' s' ι' a' w' hq hk' hr'
  ·rename_i bs ts a' b
   refine zZg hm x n a' kn s _ h hk F hF hR w0 S ι a w hr m _ fun e kn' s' ι' a' w' hq hk' hr'=>?_
   cases e with
   | normal=>exact zZg hm y n b kn' (Go.Proofs.YtheidkkebdhmkaaGreatDoor.melts (Go.Proofs.YtheidkkebdhmkaaGreatDoor.ices s' bs) ts) Q hq (jZW ts fun t b hb=>by rw [jYP]; exact hk' t b hb) F hF hR w0 S ι' a' w' ((hr'.ices bs).melts ts) m Q' hQ
   | exit id=>exact hQ (.exit id) kn' s' ι' a' w' hq hk' hr'
   | ret=>exact hQ .ret kn' s' ι' a' w' hq hk' hr'
  ·rename_i a' t bs
   refine zZg hm x n a' kn s _ h hk F hF hR w0 S ι a w hr m _ fun e kn' s' ι' a' w' hq hk' hr'=>?_
   cases e with
   | normal=>
    simp only at hq
    unfold jV4 at hq
    split at hq
    ·rename_i k e ht
     obtain ⟨b,hb⟩:=jZJ ht hq.1 hq.2
     refine zZg hm y n b _ s' Q hb (fun t' b' hb'=>?_) F hF hR w0 S ι' a' w' hr' m Q' hQ
     simp only [zJv] at hb'
     split at hb'
     ·cases hb'
     ·exact hk' _ _ hb'
    ·exact hq.elim
   | exit id=>exact hQ (.exit id) kn' s' ι' a' w' hq hk' hr'
   | ret=>exact hQ .ret kn' s' ι' a' w' hq hk' hr'
  ·refine zZg hm x n ann.l kn s _ h hk F hF hR w0 S ι a w hr m _ fun e kn' s' ι' a' w' hq hk' hr'=>?_
   cases e with
   | normal=>exact zZg hm y n ann.r kn' s' Q hq hk' F hF hR w0 S ι' a' w' hr' m Q' hQ
   | exit id=>exact hQ (.exit id) kn' s' ι' a' w' hq hk' hr'
   | ret=>exact hQ .ret kn' s' ι' a' w' hq hk' hr'
 | .cond c x y,n,ann,kn,s,Q,h,hk,F,hF,hR,w0,S,ι,a,w,hr,m,Q',hQ=>by
  simp only [vcg] at h
  split at h
  ·rename_i b a'
   split at h
   ·rename_i b' hc
    obtain ⟨rfl,h⟩:=h
    cases b' with
    | true=>exact wpIn_cond_true (zJa (hr.eval c) hc) (zZg hm x n a' kn s Q h hk F hF hR w0 S ι a w hr m Q' hQ)
    | false=>exact wpIn_cond_false (zJa (hr.eval c) hc) (zZg hm y n a' kn s Q h hk F hF hR w0 S ι a w hr m Q' hQ)
   ·exact h.elim
  split at h
  ·rename_i hc
   exact wpIn_cond_true (zJa (hr.eval c) (zG8 hk hc)) (zZg hm x n ann.l kn s Q h hk F hF hR w0 S ι a w hr m Q' hQ)
  ·rename_i hc
   exact wpIn_cond_false (zJa (hr.eval c) (zG8 hk hc)) (zZg hm y n ann.r kn s Q h hk F hF hR w0 S ι a w hr m Q' hQ)
  ·split at h
   ·rename_i b hc
    exact wpIn_cond_split (zJa (hr.eval c) hc) (fun hb=>zZg hm x n ann.l kn s Q (h.1 hb) hk F hF hR w0 S ι a w hr m Q' hQ) (fun hb=>zZg hm y n ann.r kn s Q (h.2 hb) hk F hF hR w0 S ι a w hr m Q' hQ)
   ·exact h.elim
 | .block id c,n,ann,kn,s,Q,h,hk,F,hF,hR,w0,S,ι,a,w,hr,m,Q',hQ=>by
  simp only [vcg] at h
  refine wpIn_block (zZg hm c n ann kn s _ h hk F hF hR w0 S ι a w hr m _ fun e kn' s' ι' a' w' hq hk' hr'=>?_)
  cases e with
  | normal=>exact hQ .normal kn' s' ι' a' w' hq hk' hr'
  | exit id'=>
   simp only at hq
   simp only [zYy.exit_,Exit.inBlock]
   by_cases e:id'=id
   ·rw [if_pos e]
    simp only [e,decide_true] at hq
    exact hQ .normal kn' s' ι' a' w' hq hk' hr'
   ·rw [if_neg e]
    simp only [e,decide_false] at hq
    exact hQ (.exit id') kn' s' ι' a' w' hq hk' hr'
  | ret=>exact hQ .ret kn' s' ι' a' w' hq hk' hr'
 | .loop c,n,ann,kn,s,Q,h,hk,F,hF,hR,w0,S,ι,a,w,hr,m,Q',hQ=>by
  simp only [vcg] at h
  split at h
  ·rename_i I a'
   obtain ⟨⟨z,hz,hf⟩,h2⟩:=h
   obtain ⟨ι2,hr2⟩:=hr.fit hf
   refine wpIn_loop_ghost (fun m a w=>∃ z ι,I.ok z∧I.μ z=m∧RepS w0 S n (I.st z).as ι a w) (I.μ z) ⟨z,ι2,hz,rfl,hr2⟩ fun k a w hI=>?_
   obtain ⟨z,ι,hz,rfl,hr⟩:=hI
   refine zZg hm c n (a' z) kn0 _ _ (h2 z hz) (zVY _) F hF hR w0 S ι a w hr m _ fun e kn' s' ι' a' w' hq hk' hr'=>?_
   cases e with
   | normal=>
    obtain ⟨y,hy,hlt,hf⟩:=hq
    obtain ⟨ι3,hr3⟩:=hr'.fit hf
    exact ⟨I.μ y,hlt,y,ι3,hy,rfl,hr3⟩
   | exit id=>exact hQ (.exit id) kn' s' ι' a' w' hq hk' hr'
   | ret=>exact hQ .ret kn' s' ι' a' w' hq hk' hr'
  ·exact jXE (f:=fun n=>vcg P Γ n c) (zZg hm c) h.1 h.2 hF hR hr hQ
  ·exact h.elim
 | .rangeFunc g ps x y,n,ann,kn,s,Q,h,hk,F,hF,hR,w0,S,ι,a,w,hr,m,Q',hQ=>by
  simp only [vcg] at h
  split at h
  ·exact jQZ (zZg hm x) (zZg hm y) h hR hr hQ
  ·exact h.elim
 | .scope _,_,_,_,_,_,h,_,_,_,_,_,_,_,_,_,_,_,_,_=>by simp only [vcg] at h
 | .goto _,_,_,_,_,_,h,_,_,_,_,_,_,_,_,_,_,_,_,_=>by simp only [vcg] at h
 | .refuse _,_,_,_,_,_,h,_,_,_,_,_,_,_,_,_,_,_,_,_=>by simp only [vcg] at h
end
def jJt (P:Program) (s:AS):ResultVar→Option AV
 | .tmp t=>some (s.tm t)
 | .cell t ty=>match s.tm t with
  | .one (.ptr b off)=>match s.bx b,zYD P ty with
   | .cells cs,some (g,k)=>if off+k≤cs.length then zKS g ((cs.drop off).take k) else none
   | _,_=>none
  | _=>none
def zVT (P:Program) (s:AS):List ResultVar→Option (List AV)
 | []=>some []
 | r::rs=>match jJt P s r,zVT P s rs with
  | some v,some vs=>some (v::vs)
  | _,_=>none
def jK0 (P:Program) (s:AS) (rs:List ResultVar):Option RV:=
 match zVT P s rs with
 | some xs=>if xs.all AV.flat then match AV.rvs (fun b=>zXg (s.bx b)) xs with
  | some [r]=>some r
  | some l=>some (.tup l)
  | none=>none else none
 | none=>none
def post (P:Program) (rs:List ResultVar) (R:RV→Prop):zYy→Kn→AS→Prop
 | .exit _,_,_=>False
 | _,_,s=>match jK0 P s rs with
  | some r=>R r
  | none=>False
def zWc (args:List RV):AS:=⟨fun t=>match args[t]? with
 | some r=>r.av
 | none=>.tup [],fun _=>.fresh⟩
mutual
def DV.wf:DV→Prop
 | .int k n=>k.min≤n∧n≤k.max
 | .bool _=>True
 | .str s=>s.size≤maxLen
 | .sl n xs=>n≤maxLen∧DV.wfs xs
 | .fn _=>True
def DV.wfs:List DV→Prop
 | []=>True
 | x::xs=>x.wf∧DV.wfs xs
end
mutual
def RV.wf:RV→Prop
 | .d x=>x.wf
 | .agg xs=>DV.wfs xs
 | .tup xs=>RV.wfs xs
def RV.wfs:List RV→Prop
 | []=>True
 | x::xs=>x.wf∧RV.wfs xs
end
section
variable {w:World} {V:Nat→Prop}
mutual
theorem RepD.wf:∀ {d:DV} {v:Value},RepD w V d v→d.wf
 | .int k n,v,h=>by simp only [RepD] at h; simp only [DV.wf]; exact (zXN _ _).1 h.2
 | .bool _,_,_=>by simp only [DV.wf]
 | .str s,v,h=>by simp only [RepD] at h; simp only [DV.wf]; exact h.2
 | .fn _,_,_=>by simp only [DV.wf]
 | .sl n xs,v,h=>by
  simp only [RepD] at h
  obtain ⟨A,cap,_,h1,h2,h3⟩:=h
  simp only [DV.wf]
  refine ⟨Nat.le_trans h1 h2,?_⟩
  cases xs with
  | nil=>simp only [DV.wfs]
  | cons d ds=>
   obtain ⟨g,off,_,_,hc⟩:=h3 (by simp)
   exact RepCells.wf hc
theorem RepCells.wf:∀ {xs:List DV} {g off:Nat},RepCells w V xs g off→DV.wfs xs
 | [],_,_,_=>by simp only [DV.wfs]
 | d::ds,g,off,h=>by
  simp only [RepCells] at h
  obtain ⟨⟨u,_,hd⟩,hr⟩:=h
  simp only [DV.wfs]
  exact ⟨RepD.wf hd,RepCells.wf hr⟩
end
theorem zZk.wf:∀ {ds:List DV} {vs:List Value},zZk w V ds vs→DV.wfs ds
 | [],[],_=>by simp only [DV.wfs]
 | _::_,_::_,h=>by simp only [DV.wfs]; exact ⟨h.1.wf,zZk.wf h.2⟩
 | [],_::_,h=>h.elim
 | _::_,[],h=>h.elim
mutual
theorem RepR.wf:∀ {r:RV} {v:Value},RepR w V r v→r.wf
 | .d x,v,h=>by simp only [RepR] at h; simp only [RV.wf]; exact h.wf
 | .agg xs,v,h=>by simp only [RepR] at h; obtain ⟨cs,_,h⟩:=h; simp only [RV.wf]; exact h.wf
 | .tup xs,v,h=>by simp only [RepR] at h; obtain ⟨vs,_,h⟩:=h; simp only [RV.wf]; exact RepRs.wf h
theorem RepRs.wf:∀ {rs:List RV} {vs:List Value},RepRs w V rs vs→RV.wfs rs
 | [],[],_=>by simp only [RV.wfs]
 | _::_,_::_,h=>by simp only [RepRs] at h; simp only [RV.wfs]; exact ⟨RepR.wf h.1,RepRs.wf h.2⟩
 | [],_::_,h=>by simp only [RepRs] at h
 | _::_,[],h=>by simp only [RepRs] at h
end
end
theorem zWM {w:World} {V:Nat→Prop}:∀ {rs:List RV} {vs:List Value},RepRs w V rs vs→rs.length=vs.length
 | [],[],_=>rfl
 | _::_,_::_,h=>by simp only [RepRs] at h; simp [zWM h.2]
 | [],_::_,h=>by simp only [RepRs] at h
 | _::_,[],h=>by simp only [RepRs] at h
theorem zVR {P:Program} {α β:Type} (f:α→Sem β) (w:World):∀ (l:List α) (us:List β),l.length=us.length→(∀ (i:Nat) x u,l[i]?=some x→us[i]?=some u→(f x).run P w=.ok u w)→(l.mapM f).run P w=.ok us w
 | [],[],_,_=>by simp
 | x::l,u::us,hl,h=>by
  rw [List.mapM_cons]
  simp only [Sem.run_bind,h 0 x u rfl rfl,Result.andThen_ok,zVR f w l us (by simpa using hl) (fun i x' u' h1 h2=>h (i+1) x' u' (by simpa using h1) (by simpa using h2)),Sem.run_pure]
 | [],_::_,hl,_=>by simp at hl
 | _::_,[],hl,_=>by simp at hl
def zHP (tmps:Array Value):ResultVar→Sem Value
 | .tmp t=>pure (tmps.getD t undef)
 | .cell c t=>do loadVar t (← asAddr (tmps.getD c undef))
theorem jXv (fn:Func) (tmps:Array Value):results fn tmps=(do let vs ← fn.results.mapM (zHP tmps); pure (if h:vs.size=1 then vs[0] else .tuple vs)):=by
 unfold results
 refine congrArg (fun f:ResultVar→Sem Value=>(do let vs ← fn.results.mapM f; pure (if h:vs.size=1 then vs[0] else .tuple vs):Sem Value)) ?_
 funext x
 cases x <;> rfl
theorem jZz {P:Program} {fn:Func} {w0:World} {S:zZj} {n:Dom} {s:AS} {ι:zQC} {a:Act} {w:World} (h:RepS w0 S n s ι a w) {xs:List AV} (hxs:zVT P s fn.results.toList=some xs) :
  ∃ us:List Value,(results fn a.tmps).run P w=.ok (if h:us.toArray.size=1 then us.toArray[0] else .tuple us.toArray) w∧RepAVs w (Seen S w0.heap.size s.bx ι) ι s.bx xs us:=by
 have key:∀ (rs:List ResultVar) (xs:List AV),zVT P s rs=some xs→∃ us:List Value,rs.length=us.length∧(∀ (i:Nat) x u,rs[i]?=some x→us[i]?=some u→(zHP a.tmps x).run P w=.ok u w) ∧
   RepAVs w (Seen S w0.heap.size s.bx ι) ι s.bx xs us:=by
  intro rs
  induction rs with
  | nil=>intro xs h; simp only [zVT,Option.some.injEq] at h; subst h; exact ⟨[],rfl,fun i x u h=>by simp at h,by simp only [RepAVs]⟩
  | cons rv rs ih=>
   intro xs hx
   simp only [zVT] at hx
   cases h1:jJt P s rv with
   | none=>rw [h1] at hx; cases hx
   | some v=>
    cases h2:zVT P s rs with
    | none=>rw [h1,h2] at hx; cases hx
    | some vs=>
     rw [h1,h2] at hx
     simp only [Option.some.injEq] at hx
     subst hx
     obtain ⟨us,l1,l2,l3⟩:=ih vs h2
     have h0:∃ u,(zHP a.tmps rv).run P w=.ok u w∧zQv w (Seen S w0.heap.size s.bx ι) ι s.bx v u:=by
      cases rv with
      | tmp t=>
       simp only [jJt,Option.some.injEq] at h1
       subst h1
       exact ⟨_,rfl,h.tm t⟩
      | cell c ty=>
       simp only [jJt] at h1
       split at h1
       ·rename_i b off hc
        split at h1
        ·rename_i cs g k hB hk
         split at h1
         ·rename_i hle
          have hv:=h.tm c
          rw [hc] at hv
          obtain ⟨_,g',c',hι,ev⟩:=zKb hv
          have hb:=h.bx b
          rw [hB] at hb
          obtain ⟨g2,c2,cur,T,e1,e2,_,e3⟩:=hb
          rw [e1] at hι
          simp only [Option.some.injEq,Prod.mk.injEq] at hι
          obtain ⟨rfl,rfl⟩:=hι
          have hp:=zYu (zJG e3 off k) h1
          have hlen:=zZF e3
          have hk':zYD P ty=some (g,((cur.toList.drop off).take k).length):=by
           rw [hk]; congr 2; simp at hlen ⊢; omega
          have hrun:=zXm (P:=P) hk' (w:=w) (b:=g2) (o:=off) (fun j u hj=>by
           rw [cell_of_row w g2 (off+j) cur T (0,0) e2]
           rw [List.getElem?_take] at hj
           split at hj
           ·simpa using hj
           ·cases hj)
          refine ⟨_,?_,hp.1⟩
          simp only [zHP,ev,asAddr,Sem.run_bind,Sem.run_pure,Result.andThen_ok,hrun]
         ·cases h1
        ·cases h1
       ·cases h1
     obtain ⟨u,hu1,hu2⟩:=h0
     refine ⟨u::us,by simp [l1],fun i x u' hx hu'=>?_,by simp only [RepAVs]; exact ⟨hu2,l3⟩⟩
     cases i with
     | zero=>simp at hx hu'; subst hx hu'; exact hu1
     | succ i=>exact l2 i x u' (by simpa using hx) (by simpa using hu')
 obtain ⟨us,l1,l2,l3⟩:=key _ _ hxs
 have hmap:=zVR (P:=P) (zHP a.tmps) w fn.results.toList us l1 l2
 refine ⟨us,?_,l3⟩
 rw [jXv,Sem.run_bind,Array.mapM_eq_mapM_toList,Sem.run_map,hmap]
 simp only [Result.andThen_ok,Sem.run_pure]
theorem jKZ {P:Program} {fn:Func} {w0:World} {S:zZj} {n:Dom} {s:AS} {ι:zQC} {a:Act} {w:World} (h:RepS w0 S n s ι a w) {r:RV} (hr:jK0 P s fn.results.toList=some r) :
  ∃ v,(results fn a.tmps).run P w=.ok v w∧RepR w (fun g=>S.see g∨w0.heap.size≤g∨S.lent g) r v:=by
 unfold jK0 at hr
 split at hr
 ·rename_i xs hxs
  split at hr
  ·rename_i hflat
   obtain ⟨us,hrun,l3⟩:=jZz h hxs
   have hseen:zZH w (Seen S w0.heap.size s.bx ι) w (fun g=>S.see g∨w0.heap.size≤g∨S.lent g):=fun g off u hV hu=>⟨hV.1,hu⟩
   have hlook:∀ x∈xs,∀ b∈x.refs,∀ ys,(fun b=>zXg (s.bx b)) b=some ys→zUQ w (fun g=>S.see g∨w0.heap.size≤g∨S.lent g) ι b ys∧(ι b=none→ys=[]):=by
    intro x hx b hb ys hys
    simp only at hys
    have hb':=h.bx b
    cases hB:s.bx b <;> rw [hB] at hys hb' <;> simp only [zXg,Option.some.injEq,reduceCtorEq] at hys <;> subst hys
    ·rcases hb' with ⟨g1,g2⟩ | ⟨g,cap,cur,g1,g2,g3,g4,g5⟩
     ·exact ⟨fun g c e=>(by rw [g1] at e; cases e),fun _=>g2⟩
     ·refine ⟨fun g' c e=>?_,fun e=>(by rw [g1] at e; cases e)⟩
      rw [g1] at e
      simp only [Option.some.injEq,Prod.mk.injEq] at e
      obtain ⟨rfl,rfl⟩:=e
      exact ⟨g3,fun _=>⟨.inr (h.own b g cap (by rw [hB]; rfl) g1).1,RepCells.of_row g2 (g5.keep hseen)⟩⟩
    ·rcases hb' with ⟨g1,g2⟩ | ⟨g,cap,g1,g2,g3⟩
     ·exact ⟨fun g c e=>(by rw [g1] at e; cases e),fun _=>g2⟩
     ·refine ⟨fun g' c e=>?_,fun e=>(by rw [g1] at e; cases e)⟩
      rw [g1] at e
      simp only [Option.some.injEq,Prod.mk.injEq] at e
      obtain ⟨rfl,rfl⟩:=e
      exact ⟨g3,g2.keep hseen⟩
   cases hrv:AV.rvs (fun b=>zXg (s.bx b)) xs with
   | none=>rw [hrv] at hr; cases hr
   | some rvs=>
    rw [hrv] at hr
    have hall:=zUY hseen hflat l3 hlook hrv
    refine ⟨_,hrun,?_⟩
    have hlen:=zWM hall
    match rvs,us,hall,hlen,hr with
    | [r'],[u],hall,_,hr=>
     simp only [Option.some.injEq] at hr
     subst hr
     simp only [RepRs] at hall
     simpa using hall.1
    | [],[],hall,_,hr=>
     simp only [Option.some.injEq] at hr
     subst hr
     simp only [List.size_toArray,List.length_nil,Nat.zero_ne_one,dite_false,RepR]
     exact ⟨_,rfl,hall⟩
    | r1::r2::rs,u1::u2::us,hall,_,hr=>
     simp only [Option.some.injEq] at hr
     subst hr
     simp only [RepR]
     refine ⟨(u1::u2::us).toArray,by simp,hall⟩
    | [_],[],_,hl,_=>simp at hl
    | [],_::_,_,hl,_=>simp at hl
    | [_],_::_::_,_,hl,_=>simp at hl
    | _::_::_,[],_,hl,_=>simp at hl
    | _::_::_,[_],_,hl,_=>simp at hl
  ·cases hr
 ·cases hr
theorem zH9 {F:Fence} {m:Nat} {P:Program} {fn:Func} {R:Ending→World→Prop} {w0:World} {n:Dom} {s:AS} {ι:zQC} {tmps:Array Value}:∀ (ds:List Deferred) (S:zZj) (w:World),RepS w0 S n s ι { tmps:=tmps,defers:=ds } w→S.ref.heap.size≤w0.heap.size →
  (∀ w',RepS w0 S n s ι { tmps:=tmps,defers:=[] } w'→∃ v,(results fn tmps).run P w'=.ok v w'∧R (.returned v) w')→LeavesInM F m P fn tmps R ds .returning w
 | [],S,w,h,_,hR=>hR w h
 | d::ds,S,w,h,href,hR=>by
  obtain ⟨D,rfl,h1,h2⟩:=h.marks.2 d (by simp)
  have hlt:D < w.heap.size:=(Array.getElem?_eq_some_iff.1 h2).1
  refine ⟨by simp,.inl ⟨D,w.putObj D (.deferred none),rfl,run_takeDeferred h2,zH9 ds S _ ?_ href hR⟩⟩
  have hg:=grownBy_putObj' w D (.deferred none)
  refine h.turn hg (fun r e=>by cases e; exact ⟨h1,_,h2,rfl⟩) (ds:=ds) ⟨(List.pairwise_cons.1 h.marks.1).2,fun d' hd'=>?_⟩ (ref:=S.ref) (zVH h.oth hg (fun r e=>by cases e; exact h1) href)
  obtain ⟨D',rfl,q1,q2⟩:=h.marks.2 d' (by simp [hd'])
  have hne:D'≠D:=fun e=>(List.pairwise_cons.1 h.marks.1).1 _ hd' (by rw [e])
  exact ⟨D',rfl,q1,(World.putObj_heap_other hne).trans q2⟩
def zV4 (fn:Func):Code:=fn.body.getD .skip
theorem jJd {fn:Func} (hb:fn.body.isSome=true):fn.body=some (zV4 fn):=by
 unfold zV4
 cases h:fn.body with
 | none=>rw [h] at hb; cases hb
 | some c=>rfl
theorem zJU {P:Program} {Γ:Gam} {f:FuncId} {fn:Func} (ann:Ann) (hm:P.follows .mixedOrders=true) (hf:P.funcs[f]?=some fn) (hb:fn.body.isSome=true) {n:Dom} (hn:n.round=false) {s:AS} {Q:zYy→Kn→AS→Prop}
  (h:vcg P Γ n (zV4 fn) ann kn0 s Q) {w:World} {S:zZj} {ι:zQC} {vs:Array Value} {R:Ending→World→Prop} (hr:RepS w S n s ι { tmps:=vs++Array.replicate (fn.ntmps - vs.size) undef,defers:=[] } w) (href:S.ref=w)
  (hend:∀ e kn' s' ι' tmps w',Q e kn' s'→RepS w S n s' ι' { tmps:=tmps,defers:=[] } w'→(∀ id,e≠.exit id)∧∃ v,(results fn tmps).run P w'=.ok v w'∧R (.returned v) w')
  (hex:∀ id kn' s',¬ Q (.exit id) kn' s'):Calls P f vs w R:=by
 refine callsIn_wide.1 (callsIn_of_wp_marks (F:=Fence.wide) (n:=1) hf (jJd hb) trivial ?_)
 refine zZg hm (zV4 fn) n ann kn0 s Q h (zVY _) Fence.wide (.inl rfl) (fun _=>rfl) w S ι _ w hr 1 _ fun e kn' s' ι' a' w' hq hk' hr'=>?_
 have done:LeavesInM Fence.wide 1 P fn a'.tmps R a'.defers .returning w':=
  zH9 a'.defers S w' hr' (by rw [href]; exact Nat.le_refl _) fun w'' h''=>(hend e kn' s' ι' a'.tmps w'' hq h'').2
 cases e with
 | normal=>exact done
 | ret=>exact done
 | exit id=>exact (hex id kn' s' hq).elim
theorem zGG {w:World} {V:Nat→Prop} {ι:zQC} {bx:Nat→Bx} {k:Nat}:∀ {xs:List AV} {vs:List Value},RepAVs w V ι bx xs vs→∀ t,zQv w V ι bx ((xs[t]?).getD (.tup [])) ((vs++List.replicate k undef).getD t undef)
 | [],[],_,t=>by
  simp only [List.getElem?_nil,Option.getD_none,zQv,List.nil_append]
  refine ⟨#[],?_,by simp only [RepAVs]⟩
  rw [List.getD_eq_getElem?_getD,List.getElem?_replicate]
  split <;> rfl
 | x::xs,v::vs,h,0=>by simp only [RepAVs] at h; simpa using h.1
 | x::xs,v::vs,h,t+1=>by simp only [RepAVs] at h; simpa using zGG h.2 t
 | [],_::_,h,_=>by simp only [RepAVs] at h
 | _::_,[],h,_=>by simp only [RepAVs] at h
theorem jXj (vs:Array Value) (k t:Nat):(vs++Array.replicate k undef).getD t undef=(vs.toList++List.replicate k undef).getD t undef:=by
 rw [Array.getD_eq_getD_getElem?,List.getD_eq_getElem?_getD,← Array.getElem?_toList]
 simp
theorem zHQ {w:World} {S:Nat→Prop} {fn:Func} {args:List RV} {vs:Array Value} (hl:args.length≤fn.ntmps) (hgl:zXS w S) (hvs:RepRs w S args vs.toList) :
  RepS w { see:=S,ref:=w } fn.ntmps (zWc args) (fun _=>none) { tmps:=vs++Array.replicate (fn.ntmps - vs.size) undef,defers:=[] } w:=by
 have hlen:=zWM hvs
 refine ⟨Bel.refl _ _,⟨List.Pairwise.nil,fun d hd=>by simp at hd⟩,KeepsOthers.refl w,?_,fun t h=>by (cases h),fun b h=>by (cases h),fun t=>?_,fun b=>trivial,fun b g c hl=>by simp [zWc,Bx.live] at hl,fun b b' g c c' hl=>by simp [zWc,Bx.live] at hl,hgl.keep fun g off u hV hu=>⟨⟨.inl hV,fun b c hl=>by simp [zWc,Bx.live] at hl⟩,hu⟩⟩
 ·show (vs++Array.replicate (fn.ntmps - vs.size) undef).size=fn.ntmps
  simp at hlen ⊢; omega
 ·have hk:zZH w S w (Seen { see:=S,ref:=w } w.heap.size (zWc args).bx fun _=>none):=fun g off u hV hu=>⟨⟨.inl hV,fun b c hl=>by simp [zWc,Bx.live] at hl⟩,hu⟩
  have h1:=rep_avs (ι:=fun _=>none) (bx:=(zWc args).bx) (RepRs.keep hk hvs)
  have h2:=zGG (k:=fn.ntmps - vs.size) h1 t
  rw [← jXj] at h2
  have e:(zWc args).tm t=((RV.avs args)[t]?).getD (.tup []):=by
   have:∀ (l:List RV) (t:Nat),(RV.avs l)[t]?=(l[t]?).map RV.av:=by
    intro l
    induction l with
    | nil=>intro t; simp [RV.avs]
    | cons x l ih=>intro t; cases t <;> simp [RV.avs,ih]
   rw [this]
   simp only [zWc]
   cases args[t]? <;> rfl
  rw [e]
  exact h2
theorem zQj {P:Program} {Γ:Gam} {f:FuncId} {fn:Func} {args:List RV} {res:RV} (ann:Ann) (hm:P.follows .mixedOrders=true) (hf:P.funcs[f]?=some fn) (hb:fn.body.isSome=true) (hl:args.length≤fn.ntmps)
  (h:RV.wfs args→vcg P Γ fn.ntmps (zV4 fn) ann kn0 (zWc args) (post P fn.results.toList (·=res))):Ans P f args res:=by
 intro w S vs hgl hvs
 refine zJU ann hm hf hb (n:=fn.ntmps) rfl (h (RepRs.wf hvs)) (zHQ hl hgl hvs) rfl (fun e kn' s' ι' tmps w' hq hr'=>?_) (fun id kn' s' hq=>hq)
 have done:post P fn.results.toList (·=res) .ret kn' s'→∃ v,(results fn tmps).run P w'=.ok v w'∧(∃ u,Ending.returned v=.returned u∧RepR w' (fun g=>S g∨w.heap.size≤g) res u∧Below w.heap.size w w'):=by
  intro hq
  simp only [post] at hq
  split at hq
  ·rename_i r hres
   subst hq
   obtain ⟨v,h1,h2⟩:=jKZ hr' hres
   have hsee:∀ g,(S g∨w.heap.size≤g∨False)→(S g∨w.heap.size≤g):=fun g hV=>hV.imp id fun h=>h.resolve_right id
   exact ⟨v,h1,v,rfl,h2.keep (fun g off u hV hu=>⟨hsee g hV,hu⟩),hr'.bel.below fun g h=>h⟩
  ·exact hq.elim
 cases e with
 | normal=>exact ⟨fun _ e=>by (cases e),done hq⟩
 | ret=>exact ⟨fun _ e=>by (cases e),done hq⟩
 | exit id=>exact hq.elim
def jK8 (t e size n:Nat) (ys:List DV):zYy→Kn→AS→Prop
 | .exit _,_,_=>False
 | _,_,s=>match s.tm t with
  | .one (.ref b m)=>match s.bx b with
   | .row e' size' zs=>(e'=e∧size'=size)∧ys.length=n*size∧m=n∧zs=ys
   | _=>False
  | .one .nil=>n=0∧ys=[]
  | _=>False
theorem jVb {w0 w:World} {S:zZj} {n:Dom} {s:AS} {ι:zQC} {a:Act} (h:RepS w0 S n s ι a w) (hl:∀ g,¬ S.lent g) {b e size m:Nat} {v:Value} {us:List Value} (hb:(s.bx b).live=true) (ho:zKX w 0 e size v m us) (hn:∀ g,v.ownBlock=some g→∃ c,ι b=some (g,c)):zKX w w0.heap.size e size v m us:=by
 refine ⟨ho.1,?_⟩
 rcases ho.2 with h1 | ⟨g,cap,cur,e1,h1,h2,h3⟩
 ·exact .inl h1
 ·refine .inr ⟨g,cap,cur,e1,?_,h2,h3⟩
  obtain ⟨c,hc⟩:=hn g (by rw [e1]; rfl)
  exact (h.own b g c hb hc).1.resolve_right (hl g)
theorem zX3 {P:Program} {Γ:Gam} {f:FuncId} {fn:Func} {args:List RV} {t e size n:Nat} {ys:List DV} (ann:Ann) (hm:P.follows .mixedOrders=true) (hf:P.funcs[f]?=some fn) (hb:fn.body.isSome=true) (hl:args.length≤fn.ntmps) (hres:fn.results=#[.tmp t])
  (h:RV.wfs args→vcg P Γ fn.ntmps (zV4 fn) ann kn0 (zWc args) (jK8 t e size n ys)):AnsO P f args e size n ys:=by
 intro w S vs hgl hvs
 refine zJU ann hm hf hb (n:=fn.ntmps) rfl (h (RepRs.wf hvs)) (zHQ hl hgl hvs) rfl (fun ex kn' s' ι' tmps w' hq hr'=>?_) (fun id kn' s' hq=>hq)
 have hbel:Below w.heap.size w w':=hr'.bel.below fun g h=>h
 have done:jK8 t e size n ys .ret kn' s'→∃ v,(results fn tmps).run P w'=.ok v w'∧(∃ v2 us,Ending.returned v=.returned v2∧zKX w' w.heap.size e size v2 n us∧zZk w' (fun g=>(S g∨w.heap.size≤g)∧v2.ownBlock≠some g) ys us∧ys.length=n*size∧Below w.heap.size w w'):=by
  intro hq
  have hsee:∀ g,(S g∨w.heap.size≤g∨False)→(S g∨w.heap.size≤g):=fun g hV=>hV.imp id fun h=>h.resolve_right id
  refine ⟨_,results_tmp hres _ _ _,?_⟩
  have hv:=hr'.tm t
  simp only [jK8] at hq
  split at hq
  ·rename_i b m htm
   rw [htm] at hv
   split at hq
   ·rename_i e' size' zs hbx
    obtain ⟨⟨rfl,rfl⟩,hlen,rfl,rfl⟩:=hq
    obtain ⟨us,o1,o2,o3⟩:=zVF hr' hbx hlen hv
    refine ⟨_,us,rfl,jVb hr' (fun g h=>h) (by rw [hbx]; rfl) o1 o3,o2.keep fun g off u hV hu=>⟨⟨hsee g hV.1,fun e=>?_⟩,hu⟩,hlen,hbel⟩
    obtain ⟨c,hc⟩:=o3 g e
    exact hV.2 b c (by rw [hbx]; rfl) hc
   ·exact hq.elim
  ·rename_i htm
   rw [htm] at hv
   simp only [zQv,zQJ] at hv
   obtain ⟨rfl,rfl⟩:=hq
   exact ⟨_,[],rfl,by rw [hv]; exact zJJ _ _ _ _,trivial,by simp,hbel⟩
  ·exact hq.elim
 cases ex with
 | normal=>exact ⟨fun _ e=>by (cases e),done hq⟩
 | ret=>exact ⟨fun _ e=>by (cases e),done hq⟩
 | exit id=>exact hq.elim
mutual
def AV.wf:AV→Prop
 | .one c=>match c with
  | .d v=>v.wf
  | _=>True
 | .agg cs=>Cl.wfs cs
 | .tup _=>True
def Cl.wfs:List Cl→Prop
 | []=>True
 | c::cs=>(match c with
  | .d v=>v.wf
  | _=>True)∧Cl.wfs cs
end
def AV.wfL:List AV→Prop
 | []=>True
 | x::xs=>x.wf∧AV.wfL xs
def Bx.wf:Bx→Prop
 | .cells cs=>Cl.wfs cs
 | .row _ _ xs=>DV.wfs xs
 | .ice xs=>DV.wfs xs
 | _=>True
def Bx.wfL:List Bx→Prop
 | []=>True
 | x::xs=>x.wf∧Bx.wfL xs
section
variable {w:World} {V:Nat→Prop} {ι:zQC} {bx:Nat→Bx}
theorem zQ1.wf:∀ {cs:List Cl} {vs:List Value},zQ1 w V ι bx cs vs→Cl.wfs cs
 | [],[],_=>by simp only [Cl.wfs]
 | c::cs,v::vs,h=>by
  simp only [Cl.wfs]
  refine ⟨?_,zQ1.wf h.2⟩
  cases c <;> first | exact RepD.wf h.1 | trivial
 | [],_::_,h=>h.elim
 | _::_,[],h=>h.elim
theorem zQv.wf {x:AV} {v:Value} (h:zQv w V ι bx x v):x.wf:=by
 cases x with
 | one c=>simp only [zQv] at h; cases c <;> simp only [AV.wf] <;> first | exact RepD.wf h | trivial
 | agg cs=>simp only [zQv] at h; obtain ⟨cur,_,h⟩:=h; simp only [AV.wf]; exact h.wf
 | tup vs=>simp only [AV.wf]
theorem RepAVs.wf:∀ {xs:List AV} {vs:List Value},RepAVs w V ι bx xs vs→AV.wfL xs
 | [],[],_=>trivial
 | _::_,_::_,h=>by simp only [RepAVs] at h; exact ⟨h.1.wf,RepAVs.wf h.2⟩
 | [],_::_,h=>by simp only [RepAVs] at h
 | _::_,[],h=>by simp only [RepAVs] at h
theorem zXp.wf {b:Nat} {B:Bx} (h:zXp w V ι bx b B):B.wf:=by
 cases B with
 | fresh=>trivial
 | gone=>trivial
 | cells cs=>obtain ⟨_,_,_,_,_,_,_,h⟩:=h; exact h.wf
 | row e size xs=>
  rcases h with ⟨_,rfl⟩ | ⟨_,_,_,_,_,_,_,h⟩
  ·simp only [Bx.wf,DV.wfs]
  ·exact h.wf
 | ice xs=>
  rcases h with ⟨_,rfl⟩ | ⟨_,_,_,h,_⟩
  ·simp only [Bx.wf,DV.wfs]
  ·exact h.cells.wf
end
def jKo (args:List AV) (ins:List Bx):AS:=⟨fun t=>(args[t]?).getD (.tup []),zQP ins⟩
def zipN {α:Type}:Nat→List α→List (Nat × α)
 | _,[]=>[]
 | n,x::xs=>(n,x)::zipN (n+1) xs
def Cl.flatV:Cl→Prop
 | .d v=>v.flat=true
 | .vp _ _=>False
 | .clo _ _=>False
 | _=>True
def zGv:List Cl→Prop
 | []=>True
 | c::cs=>c.flatV∧zGv cs
mutual
def AV.flatV:AV→Prop
 | .one c=>c.flatV
 | .agg cs=>zGv cs
 | .tup vs=>AV.flatVL vs
def AV.flatVL:List AV→Prop
 | []=>True
 | x::xs=>x.flatV∧AV.flatVL xs
end
def Bx.flatV:Bx→Prop
 | .cells cs=>zGv cs
 | .row _ _ xs=>∀ d∈xs,d.flat=true
 | .ice _=>False
 | _=>True
def Bx.flatVL:List Bx→Prop
 | []=>True
 | x::xs=>x.flatV∧Bx.flatVL xs
def zQm (r:Ret):Prop:=match r.fresh with
 | true=>r.res.flatV∧Bx.flatVL r.outs
 | false=>True
def jXC:List AV→AV
 | [x]=>x
 | xs=>.tup xs
def jKt (x:AV) (bx:Nat→Bx):AS:=⟨fun t=>if t=0 then x else .one .dead,bx⟩
def jK9 (P:Program) (n:Dom) (rs:List ResultVar) (r:Ret):zYy→Kn→AS→Prop
 | .exit _,_,_=>False
 | _,_,s=>match zVT P s rs with
  | some xs=>fits ⟨1,fun _=>false,n.pin,false⟩ (jKt (jXC xs) s.bx) ⟨[(0,r.res)],zipN 0 r.outs⟩∧zQm r
  | none=>False
section
variable {w:World} {V V':Nat→Prop} {ι:zQC} {bx:Nat→Bx}
theorem jYX {c:Cl} {v:Value} (hf:c.flatV) (h:zQJ w V ι bx c v):zQJ w V' ι bx c v:=by
 cases c with
 | d x=>exact RepD.of_flat hf h
 | vp _ _=>exact hf.elim
 | clo _ _=>exact hf.elim
 | lit u=>exact h
 | nil=>exact h
 | ptr b off=>exact h
 | ref b n=>exact h
 | dead=>trivial
theorem zHf:∀ {cs:List Cl} {vs:List Value},zGv cs→zQ1 w V ι bx cs vs→zQ1 w V' ι bx cs vs
 | [],[],_,_=>trivial
 | _::_,_::_,hf,h=>⟨jYX hf.1 h.1,zHf hf.2 h.2⟩
 | [],_::_,_,h=>h.elim
 | _::_,[],_,h=>h.elim
mutual
theorem jYY:∀ {x:AV} {v:Value},x.flatV→zQv w V ι bx x v→zQv w V' ι bx x v
 | .one c,v,hf,h=>by simp only [zQv,AV.flatV] at h hf ⊢; exact jYX hf h
 | .agg cs,v,hf,h=>by
  simp only [zQv,AV.flatV] at h hf ⊢
  obtain ⟨cur,e,h⟩:=h
  exact ⟨cur,e,zHf hf h⟩
 | .tup vs,v,hf,h=>by
  simp only [zQv,AV.flatV] at h hf ⊢
  obtain ⟨cur,e,h⟩:=h
  exact ⟨cur,e,flat_avs hf h⟩
theorem flat_avs:∀ {xs:List AV} {vs:List Value},AV.flatVL xs→RepAVs w V ι bx xs vs→RepAVs w V' ι bx xs vs
 | [],[],_,_=>by simp only [RepAVs]
 | _::_,_::_,hf,h=>by simp only [RepAVs,AV.flatVL] at h hf ⊢; exact ⟨jYY hf.1 h.1,flat_avs hf.2 h.2⟩
 | [],_::_,_,h=>by simp only [RepAVs] at h
 | _::_,[],_,h=>by simp only [RepAVs] at h
end
theorem jVE {b:Nat} {B:Bx} (hf:B.flatV) (h:zXp w V ι bx b B):zXp w V' ι bx b B:=by
 cases B with
 | fresh=>trivial
 | gone=>trivial
 | cells cs=>obtain ⟨g,c,cur,T,h1,h2,h0,h3⟩:=h; exact ⟨g,c,cur,T,h1,h2,h0,zHf hf h3⟩
 | row e size xs=>
  rcases h with h | ⟨g,cap,cur,h1,h2,h3,h4,h5⟩
  ·exact .inl h
  ·exact .inr ⟨g,cap,cur,h1,h2,h3,h4,zZk.of_flat (List.all_eq_true.2 hf) h5⟩
 | ice xs=>exact hf.elim
theorem jQm:∀ {l:List Bx} {b:Nat},Bx.flatVL l→(zQP l b).flatV
 | [],b,_=>by simp [zQP,Bx.flatV]
 | x::l,0,h=>h.1
 | x::l,b+1,h=>jQm (b:=b) h.2
end
theorem zGi:∀ {l:List Bx} {k b:Nat},zXV (zipN k l) (k+b)=zQP l b
 | [],_,_=>rfl
 | x::l,k,0=>by simp [zipN,zXV,zQP]
 | x::l,k,b+1=>by
  have:=zGi (l:=l) (k:=k+1) (b:=b)
  simp only [zipN,zXV]
  rw [if_neg (by omega),show k+(b+1)=k+1+b from by omega,this]
  rfl
theorem jKn:∀ {l:List Bx},(∀ b,(zQP l b).wf)→Bx.wfL l
 | [],_=>trivial
 | x::l,h=>⟨h 0,jKn fun b=>h (b+1)⟩
theorem zVD {w:World} {V:Nat→Prop} {ι:zQC} {bx:Nat→Bx}:∀ {xs:List AV} {vs:List Value},RepAVs w V ι bx xs vs→xs.length=vs.length
 | [],[],_=>rfl
 | _::_,_::_,h=>by simp only [RepAVs] at h; simp [zVD h.2]
 | [],_::_,h=>by simp only [RepAVs] at h
 | _::_,[],h=>by simp only [RepAVs] at h
theorem jXp {fn:Func} {pin:Nat} {args:List AV} {ins:List Bx} (hl:args.length≤fn.ntmps) (hp:(List.range pin).all (fun b=>(zQP ins b).known)=true)
  {w:World} {S:Nat→Prop} {ι:zQC} {vs:Array Value} (hgl:zXS w S) (hh:zJ0 w S ι args ins vs.toList) :
  RepS w { see:=S,lent:=OwnB (zQP ins) ι,ref:=w,nm:=ι } ⟨fn.ntmps,fun _=>false,List.range pin,false⟩ (jKo args ins) ι { tmps:=vs++Array.replicate (fn.ntmps - vs.size) undef,defers:=[] } w:=by
 have hargs:=hh.args
 have hlen:=zVD hargs
 have hk:zZH w S w (Seen { see:=S,lent:=OwnB (zQP ins) ι,ref:=w,nm:=ι } w.heap.size (zQP ins) ι):=fun g off u hV hu=>⟨⟨.inl hV,fun b c hl e=>(hh.own b g c hl e).1 hV⟩,hu⟩
 refine ⟨Bel.refl _ _,⟨List.Pairwise.nil,fun d hd=>by simp at hd⟩,KeepsOthers.refl w,?_,fun t h=>by (cases h),fun b hb=>⟨rfl,(List.all_eq_true.1 hp) b hb⟩,fun t=>?_,fun b=>(hh.bx b).seen hk,fun b g c hl e=>⟨.inr ⟨b,c,hl,e⟩,(hh.own b g c hl e).2⟩,hh.dist,hgl.keep hk⟩
 ·show (vs++Array.replicate (fn.ntmps - vs.size) undef).size=fn.ntmps
  simp at hlen ⊢; omega
 ·have h1:RepAVs w (Seen { see:=S,lent:=OwnB (zQP ins) ι,ref:=w,nm:=ι } w.heap.size (zQP ins) ι) ι (zQP ins) args vs.toList:=hargs.keep (fun b hb=>⟨hb,rfl⟩) hk
  have h2:=zGG (k:=fn.ntmps - vs.size) h1 t
  rw [← jXj] at h2
  exact h2
theorem zU3 {P:Program} {fn:Func} {pin:Nat} {ins:List Bx} {r:Ret} {kn':Kn} {s':AS} {ι':zQC} {w w':World} {S:Nat→Prop} {ι:zQC} {tmps:Array Value}
  (hr':RepS w { see:=S,lent:=OwnB (zQP ins) ι,ref:=w,nm:=ι } ⟨fn.ntmps,fun _=>false,List.range pin,false⟩ s' ι' { tmps:=tmps,defers:=[] } w') :
  jK9 P ⟨fn.ntmps,fun _=>false,List.range pin,false⟩ fn.results.toList r .ret kn' s'→∃ v,(results fn tmps).run P w'=.ok v w'∧∃ v2 ι',Ending.returned v=.returned v2∧jKm w S ι pin ins r w' ι' v2:=by
 intro hq
 simp only [jK9] at hq
 split at hq
 ·rename_i xs hxs
  obtain ⟨hfit,hfresh⟩:=hq
  obtain ⟨us,hrun,hus⟩:=jZz hr' hxs
  have hul:=zVD hus
  refine ⟨_,hrun,?_⟩
  have hx:zQv w' (Seen { see:=S,lent:=OwnB (zQP ins) ι,ref:=w,nm:=ι } w.heap.size s'.bx ι') ι' s'.bx (jXC xs) (if h:us.toArray.size=1 then us.toArray[0] else .tuple us.toArray):=by
   match xs,us,hus,hul with
   | [x],[u],hus,_=>simp only [RepAVs] at hus; simpa [jXC] using hus.1
   | [],[],hus,_=>simp only [jXC,zQv]; exact ⟨_,rfl,hus⟩
   | x1::x2::xs,u1::u2::us,hus,_=>simp only [jXC,zQv]; exact ⟨(u1::u2::us).toArray,by simp,hus⟩
   | [_],[],_,hl=>simp at hl
   | [],_::_,_,hl=>simp at hl
   | [_],_::_::_,_,hl=>simp at hl
   | _::_::_,[],_,hl=>simp at hl
   | _::_::_,[_],_,hl=>simp at hl
  generalize (if h:us.toArray.size=1 then us.toArray[0] else .tuple us.toArray)=v at hx
  generalize jXC xs=x at hx hfit
  have h1:RepS w { see:=S,lent:=OwnB (zQP ins) ι,ref:=w,nm:=ι } ⟨1,fun _=>false,List.range pin,false⟩ (jKt x s'.bx) ι' { tmps:=#[v],defers:=[] } w':=
   ⟨hr'.bel,⟨List.Pairwise.nil,fun d hd=>by simp at hd⟩,hr'.oth,rfl,fun t h=>by (cases h),hr'.pin,fun t=>by
    show zQv _ _ _ _ (if t=0 then x else .one .dead) _
    split
    ·rename_i e; subst e; exact hx
    ·simp only [zQv,zQJ],hr'.bx,hr'.own,hr'.dist,hr'.glob⟩
  obtain ⟨ι2,h2⟩:=h1.fit hfit
  have hbx:zXV (zipN 0 r.outs)=zQP r.outs:=by
   funext b
   have:=zGi (l:=r.outs) (k:=0) (b:=b)
   rwa [Nat.zero_add] at this
  have htm:zQv w' (Seen { see:=S,lent:=OwnB (zQP ins) ι,ref:=w,nm:=ι } w.heap.size (zQP r.outs) ι2) ι2 (zQP r.outs) r.res v:=by
   have:=h2.tm 0
   rw [← hbx]
   exact this
  have hb2:∀ b,zXp w' (Seen { see:=S,lent:=OwnB (zQP ins) ι,ref:=w,nm:=ι } w.heap.size (zQP r.outs) ι2) ι2 (zQP r.outs) b (zQP r.outs b):=fun b=>by
   have:=h2.bx b
   rw [← hbx]
   exact this
  have hown:∀ b g c,(zQP r.outs b).live=true→ι2 b=some (g,c)→(w.heap.size≤g∨OwnB (zQP ins) ι g)∧g < w'.heap.size:=fun b g c hl e=>h2.own b g c (by rw [← hbx] at hl; exact hl) e
  have hdist:∀ b b' g c c',(zQP r.outs b).live=true→(zQP r.outs b').live=true→b≠b'→ι2 b=some (g,c)→ι2 b'≠some (g,c'):=fun b b' g c c' hl hl'=>h2.dist b b' g c c' (by rw [← hbx] at hl; exact hl) (by rw [← hbx] at hl'; exact hl')
  have hpin:∀ b,b < pin→ι2 b=ι b:=fun b hb=>(h2.pin b (List.mem_range.2 hb)).1
  refine ⟨v,ι2,rfl,?_⟩
  cases hfr:r.fresh with
  | true=>
   unfold zQm at hfresh
   rw [hfr] at hfresh
   exact ⟨jYY hfresh.1 htm,fun b=>jVE (jQm hfresh.2) (hb2 b),hown,hdist,hpin,h2.bel⟩
  | false=>
   have hk2:zZH w' (Seen { see:=S,lent:=OwnB (zQP ins) ι,ref:=w,nm:=ι } w.heap.size (zQP r.outs) ι2) w' (zJt w S ι ins r ι2):=fun g off u hV hu=>⟨⟨by
    rcases hV.1 with h | h | h
    ·exact .inl ⟨hfr,h⟩
    ·exact .inr (.inl h)
    ·exact .inr (.inr h),fun ⟨b,c,hl,e⟩=>hV.2 b c hl e⟩,hu⟩
   exact ⟨htm.keep (fun b hb=>⟨hb,rfl⟩) hk2,fun b=>(hb2 b).seen hk2,hown,hdist,hpin,h2.bel⟩
 ·exact hq.elim
theorem zQy {P:Program} {Γ:Gam} {f:FuncId} {fn:Func} {pin:Nat} {args:List AV} {ins:List Bx} {r:Ret} (ann:Ann) (hm:P.follows .mixedOrders=true) (hf:P.funcs[f]?=some fn) (hb:fn.body.isSome=true) (hl:args.length≤fn.ntmps)
  (hp:(List.range pin).all (fun b=>(zQP ins b).known)=true)
  (h:AV.wfL args→Bx.wfL ins→vcg P Γ ⟨fn.ntmps,fun _=>false,List.range pin,false⟩ (zV4 fn) ann kn0 (jKo args ins) (jK9 P ⟨fn.ntmps,fun _=>false,List.range pin,false⟩ fn.results.toList r)):AnsG P f pin args ins r:=by
 intro w S ι vs hgl hh
 have hv:=h hh.args.wf (jKn fun b=>(hh.bx b).wf)
 refine zJU ann hm hf hb (n:=⟨fn.ntmps,fun _=>false,List.range pin,false⟩) rfl hv (jXp hl hp hgl hh) rfl (fun e kn' s' ι' tmps w' hq hr'=>?_) (fun id kn' s' hq=>hq)
 cases e with
 | normal=>exact ⟨fun _ e=>by (cases e),zU3 (kn':=kn') hr' hq⟩
 | ret=>exact ⟨fun _ e=>by (cases e),zU3 (kn':=kn') hr' hq⟩
 | exit id=>exact hq.elim
theorem jKy {x y M:Int} (h1:0≤x) (h2:x≤M) (h3:0≤y) (h4:y≤M):0≤x*y∧x*y≤M*M:=
 ⟨Int.mul_nonneg h1 h3,Int.mul_le_mul h2 h4 h3 (by omega)⟩
def modS (n k:Int):Int:=if k < 1 then 0 else (IntKind.wrap .i64 (n.tmod k+k)).tmod k
theorem jYG {n k:Int} (hk:1≤k) (hk':k≤4611686018427387904):modS n k=n % k:=by
 unfold modS
 rw [if_neg (by omega)]
 have a:=Int.tmod_lt_of_pos n (show 0 < k by omega)
 have b : -k < n.tmod k:=by
  rcases Int.le_total 0 n with h | h
  ·have:=Int.tmod_nonneg k h; omega
  ·have:=Int.tmod_lt_of_pos (-n) (show 0 < k by omega)
   rw [Int.neg_tmod] at this
   omega
 rw [IntWalk.i64_in _ ⟨by omega,by omega⟩,Int.tmod_eq_emod_of_nonneg (by omega),Int.add_emod_right,Int.tmod_def]
 rw [show n - k*n.tdiv k=n+k*(-(n.tdiv k)) from by rw [Int.mul_neg]; omega,Int.add_mul_emod_self_left]
structure Rc where
  a:Int
  b:Int
  c:Int
  d:Int
deriving DecidableEq
def okC (v:Int):Bool:=decide (-1073741824≤v) && decide (v≤1073741824)
def Rc.valid (r:Rc):Bool:=okC r.a && okC r.b && okC r.c && okC r.d
def Rc.empty (r:Rc):Bool:=!r.valid || decide (r.c≤r.a) || decide (r.d≤r.b)
def Rc.zero:Rc:=⟨0,0,0,0⟩
def Rc.clean (r:Rc):Rc:=if r.empty then Rc.zero else r
def Rc.area (r:Rc):Int:=if r.empty then 0 else (r.c - r.a)*(r.d - r.b)
def Rc.has (r:Rc) (x y:Int):Bool:=!r.empty && decide (r.a≤x) && decide (x < r.c) && decide (r.b≤y) && decide (y < r.d)
def Rc.inter (r q:Rc):Rc:=if r.empty || q.empty then Rc.zero else Rc.clean ⟨max r.a q.a,max r.b q.b,min r.c q.c,min r.d q.d⟩
def Rc.move (r:Rc) (x y:Int):Rc:=if r.empty || decide (x < -2147483648) || decide (2147483648 < x) || decide (y < -2147483648) || decide (2147483648 < y) then Rc.zero else Rc.clean ⟨r.a+x,r.b+y,r.c+x,r.d+y⟩
theorem Rc.empty_false {r:Rc} (h:r.empty=false) :
  -1073741824≤r.a∧r.a < r.c∧r.c≤1073741824 ∧ -1073741824≤r.b∧r.b < r.d∧r.d≤1073741824:=by
 simp [Rc.empty,Rc.valid,okC] at h
 omega
theorem Rc.empty_iff (r:Rc):r.empty=false ↔ -1073741824≤r.a∧r.a < r.c∧r.c≤1073741824 ∧ -1073741824≤r.b∧r.b < r.d∧r.d≤1073741824:=by
 refine ⟨Rc.empty_false,fun h=>?_⟩
 simp [Rc.empty,Rc.valid,okC]
 omega
theorem Rc.clean_of {r:Rc} (h:r.empty=false):r.clean=r:=by simp [Rc.clean,h]
def is (l:List Int):List DV:=l.map (.int .i64)
def ints (l:List DV):List Int:=l.map fun | .int _ n=>n | _=>0
theorem zQO (l:List Int):ints (is l)=l:=by simp [ints,is,Function.comp_def]
def Rc.cells (r:Rc):List DV:=[.int .i64 r.a,.int .i64 r.b,.int .i64 r.c,.int .i64 r.d]
def rcs (l:List Rc):List DV:=l.flatMap Rc.cells
def nOf:DV→Int
 | .int _ n=>n
 | _=>0
def jKS:List DV→List Rc
 | a::b::c::d::r=>⟨nOf a,nOf b,nOf c,nOf d⟩::jKS r
 | _=>[]
def jWo (n:Nat) (xs:List DV):Prop:=xs=rcs (jKS xs)∧n=(jKS xs).length
theorem jWo.of {n:Nat} {xs:List DV} (h:jWo n xs):∃ l:List Rc,xs=rcs l∧n=l.length:=⟨_,h.1,h.2⟩
def Rc.pieces (r i:Rc):List Rc:=[⟨r.a,r.b,r.c,i.b⟩,⟨r.a,i.d,r.c,r.d⟩,⟨r.a,i.b,i.a,i.d⟩,⟨i.c,i.b,r.c,i.d⟩]
def filt (l:List Rc):List Rc:=l.filter fun p=>!p.empty
def Rc.sub (r q:Rc):List Rc:=if r.empty then [] else if (r.inter q).empty then [r] else filt (Rc.pieces r (r.inter q))
theorem zZc (l:List Int):(is l).length=l.length:=by simp [is]
theorem jYK {l:List Int} {k:Nat} (h:k < l.length):(is l)[k]?=some (.int .i64 l[k]):=by simp [is,h]
theorem zH4 {l:List Int} {k:Nat} (h:k < l.length):nAt (is l) k=l[k]:=by simp [nAt,jYK h]
def atS (l:List Int) (i:Int):Int:=if i < 0 then 0 else (l[i.toNat]?).getD 0
def upto (n:Nat):List Int:=(List.range n).map Int.ofNat
theorem zGE (n:Nat):(upto n).length=n:=by simp [upto]
theorem jXZ (n:Nat):upto (n+1)=upto n++[(n:Int)]:=by simp [upto,List.range_succ]
def stp (l:List Int) (n:Nat):Nat→List Int × List Int
 | 0=>(upto n,[])
 | i+1=>
  let s:=stp l n i
  let k:=(modS (atS l i) s.1.length).toNat
  (s.1.take k++s.1.drop (k+1),s.2++[(s.1[k]?).getD 0])
theorem jVo (l:List Int) (k:Nat):(is l).take k=is (l.take k):=by simp [is,List.map_take]
theorem jVq (l:List Int) (k:Nat):(is l).drop k=is (l.drop k):=by simp [is,List.map_drop]
theorem zUa (l m:List Int):is l++is m=is (l++m):=by simp [is]
theorem jY1 {k N:Nat} (h:k < N):(is (upto k)++List.replicate (N - k) (DV.int .i64 0)).set k (.int .i64 k)=is (upto (k+1))++List.replicate (N - (k+1)) (DV.int .i64 0):=by
 have hl:(is (upto k)).length=k:=by rw [zZc,zGE]
 rw [List.set_append_right _ _ (by omega),hl,Nat.sub_self,show N - k=(N - (k+1))+1 by omega,List.replicate_succ,List.set_cons_zero,jXZ,← zUa]
 simp [is]
def zJI (l:List Int) (n:Int):List Int:=if l.length=0∨64 < n then [] else (stp l n.toNat n.toNat).2
theorem jZa {v:Int} {m:Nat} (hm:1≤m) (hm':m≤1000000):0≤modS v m∧(modS v m).toNat < m:=by
 rw [jYG (by omega) (by omega)]
 have:=Int.emod_nonneg v (show (m:Int)≠0 by omega)
 have:=Int.emod_lt_of_pos v (show 0 < (m:Int) by omega)
 omega
theorem zVw (l:List Int) {n:Nat} (hn:n≤64):∀ i,i≤n→(stp l n i).1.length=n - i∧(stp l n i).2.length=i
 | 0,_=>by simp [stp,zGE]
 | i+1,h=>by
  obtain ⟨h1,h2⟩:=zVw l hn i (by omega)
  have hk:=jZa (v:=atS l i) (m:=(stp l n i).1.length) (by omega) (by omega)
  simp only [stp,List.length_append,List.length_take,List.length_drop,List.length_cons,List.length_nil]
  omega
theorem jZw (l:List Int) {n:Nat} (hn:n≤64):∀ i,i≤n→((stp l n i).2++(stp l n i).1).Perm (upto n)
 | 0,_=>by simp [stp]
 | i+1,h=>by
  obtain ⟨h1,h2⟩:=zVw l hn i (by omega)
  have hk:=jZa (v:=atS l i) (m:=(stp l n i).1.length) (by omega) (by omega)
  have ih:=jZw l hn i (by omega)
  simp only [stp]
  generalize (stp l n i).1=r at *
  generalize (stp l n i).2=o at *
  generalize (modS (atS l i) r.length).toNat=k at *
  have e:r=r.take k++r[k]::r.drop (k+1):=by rw [← List.drop_eq_getElem_cons hk.2,List.take_append_drop]
  rw [List.getElem?_eq_getElem hk.2,Option.getD_some,List.append_assoc]
  refine List.Perm.trans ?_ ih
  refine List.Perm.append_left o ?_
  conv=>rhs; rw [e]
  simp only [List.singleton_append]
  exact List.perm_middle.symm
theorem jXz {l:List Int} {n:Int} (h:l.length≠0) (hn:n≤64):(zJI l n).Perm (upto n.toNat):=by
 have h1:=jZw l (n:=n.toNat) (by omega) n.toNat (Nat.le_refl _)
 have h2:=zVw l (n:=n.toNat) (by omega) n.toNat (Nat.le_refl _)
 have e:(stp l n.toNat n.toNat).1=[]:=List.eq_nil_of_length_eq_zero (by omega)
 rw [e,List.append_nil] at h1
 unfold zJI
 rw [if_neg (by omega)]
 exact h1
def seqL (l:List Int) (n:Int):List Int:=if l.length=0 then upto n.toNat else l
def jVz (s:List Int) (n:Int):Prop:=(∀ v∈s,0≤v∧v < n)∧s.Nodup
instance (s:List Int) (n:Int):Decidable (jVz s n):=by unfold jVz; infer_instance
def jVc (l:List Int) (n:Int):Bool:=decide (0≤n) && decide (n≤16777216) && (decide (l.length=0) || decide ((l.length:Int)=n)) && decide (jVz (seqL l n) n)
theorem jJ5 {l l':List Int} (he:l.length=l'.length) (hm:l.length≤2 ^ 63 - 1) {B:Bool} (hB:B=decide (l=l')) :
  (∃ k,(k≤l.length∧List.take k l=List.take k l')∧(0:Int)=(k:Int)) ∧
    ∀ (k:Nat),
     k≤l.length∧List.take k l=List.take k l' →
      ((k:Int) < (l.length:Int) →
        (0≤(k:Int)∧(k:Int) < (l.length:Int)∧k*1 < l.length) ∧
         (is l)[k*1]?=some (DV.int IntKind.i64 (nAt (is l) (k*1))) ∧
          (0≤(k:Int)∧(k:Int) < (l'.length:Int)∧k*1 < l'.length) ∧
           (is l')[k*1]?=some (DV.int IntKind.i64 (nAt (is l') (k*1))) ∧
            ((nAt (is l) (k*1) != nAt (is l') (k*1))=true→false=B) ∧
             ((nAt (is l) (k*1) != nAt (is l') (k*1))=false →
              ∃ k':Nat,
               (k'≤l.length∧List.take k' l=List.take k' l') ∧
                l.length - k' < l.length - k∧IntKind.i64.wrap ((k:Int)+1)=(k':Int))) ∧
       (¬(k:Int) < (l.length:Int)→true=B):=by
 subst hB
 refine ⟨⟨0,⟨by omega,rfl⟩,rfl⟩,fun k hk=>⟨fun hlt=>?_,fun hge=>?_⟩⟩
 ·have h:k < l.length:=by omega
  have h':k < l'.length:=by omega
  have hw:IntKind.wrap .i64 ((k:Int)+1)=((k+1:Nat):Int):=by rw [IntWalk.i64_in _ ⟨by omega,by omega⟩]; omega
  simp only [Nat.mul_one,zH4 h,zH4 h']
  refine ⟨by omega,jYK h,by omega,jYK h',fun hd=>?_,fun hd=>?_⟩
  ·have:l≠l':=fun e=>by subst e; simp at hd
   simp [this]
  ·refine ⟨k+1,⟨by omega,?_⟩,by omega,hw⟩
   have hr:l[k]=l'[k]:=by simpa using hd
   rw [List.take_add_one,List.take_add_one,hk.2,List.getElem?_eq_getElem h,List.getElem?_eq_getElem h',hr]
 ·have hkl:k=l.length:=by omega
  have:=hk.2
  rw [List.take_of_length_le (by omega),List.take_of_length_le (by omega)] at this
  simp [this]
theorem jKC {n:Nat} {xs:List DV} (hn:xs.length=n) (hx:∀ (j:Nat) d,xs[j]?=some d→∃ v,d=.int .i64 v):xs=is (ints xs)∧n=xs.length:=by
 refine ⟨?_,hn.symm⟩
 clear hn
 induction xs with
 | nil=>rfl
 | cons x xs ih=>
  obtain ⟨v,rfl⟩:=hx 0 _ rfl
  have:=ih fun j d hj=>hx (j+1) d hj
  simp only [is,ints,List.map_cons] at this ⊢
  rw [← this]
structure Oq where
  kind:Int
  image:Int
  x:Int
  y:Int
  mask:Int
  mx:Int
  my:Int
  opac:Int
  oper:Int
  mode:Int
  iso:Bool
  kno:Bool
deriving DecidableEq
def popO:Oq:=⟨3,0,0,0,0,0,0,0,0,0,false,false⟩
def Oq.fields (o:Oq):Bool:=
 if o.kind=3 then decide (o=popO)
 else !(decide (o.kind=1) && (o.iso || o.kno)) && !(decide (o.kind=2) && decide (o.image≠0∨o.x≠0∨o.y≠0)) && decide (o.mask≠0∨o.mx=0∧o.my=0)
def zUM (v:Int):Bool:=decide (-1048576≤v∧v≤1048576)
def Oq.cells (o:Oq):List DV:=[.int .i64 o.kind,.int .i64 o.image,.int .i64 o.x,.int .i64 o.y,.int .i64 o.mask,.int .i64 o.mx,.int .i64 o.my,.int .u16 o.opac,.int .i64 o.oper,.int .i64 o.mode,.bool o.iso,.bool o.kno]
def oqAt (xs:List DV) (i:Nat):Oq:=⟨nAt xs i,nAt xs (i+1),nAt xs (i+2),nAt xs (i+3),nAt xs (i+4),nAt xs (i+5),nAt xs (i+6),nAt xs (i+7),nAt xs (i+8),nAt xs (i+9),bAt xs (i+10),bAt xs (i+11)⟩
def ops (l:List Oq):List DV:=l.flatMap Oq.cells
theorem zQ6 (l:List Oq):(ops l).length=l.length*12:=by
 induction l with
 | nil=>rfl
 | cons o l ih=>simp only [ops,List.flatMap_cons,List.length_append,List.length_cons] at ih ⊢; rw [ih]; simp [Oq.cells]; omega
theorem zY3 (l m:List Oq):ops (l++m)=ops l++ops m:=by simp [ops]
theorem zGQ {l:List Oq} {k:Nat} (h:k < l.length) (j:Nat) (hj:j < 12):(ops l)[k*12+j]?=l[k].cells[j]?:=by
 induction l generalizing k with
 | nil=>simp at h
 | cons o l ih=>
  have e:ops (o::l)=o.cells++ops l:=by simp [ops]
  rw [e]
  cases k with
  | zero=>simp only [List.getElem_cons_zero]; rw [List.getElem?_append_left (by simp [Oq.cells]; omega)]; simp
  | succ k=>
   rw [List.getElem?_append_right (by simp [Oq.cells]; omega)]
   have:=ih (k:=k) (by simpa using h)
   simp only [List.getElem_cons_succ]
   rw [← this]
   congr 1
   simp [Oq.cells]; omega
theorem zKu {l:List Oq} {k:Nat} (h:k < l.length):(ops l)[k*12]?=some (.int .i64 l[k].kind)∧(ops l)[k*12+1]?=some (.int .i64 l[k].image)∧(ops l)[k*12+1+1]?=some (.int .i64 l[k].x)∧(ops l)[k*12+1+1+1]?=some (.int .i64 l[k].y)∧(ops l)[k*12+1+1+1+1]?=some (.int .i64 l[k].mask)∧(ops l)[k*12+1+1+1+1+1]?=some (.int .i64 l[k].mx)∧(ops l)[k*12+1+1+1+1+1+1]?=some (.int .i64 l[k].my)∧(ops l)[k*12+1+1+1+1+1+1+1]?=some (.int .u16 l[k].opac)∧(ops l)[k*12+1+1+1+1+1+1+1+1]?=some (.int .i64 l[k].oper)∧(ops l)[k*12+1+1+1+1+1+1+1+1+1]?=some (.int .i64 l[k].mode)∧(ops l)[k*12+1+1+1+1+1+1+1+1+1+1]?=some (.bool l[k].iso)∧(ops l)[k*12+1+1+1+1+1+1+1+1+1+1+1]?=some (.bool l[k].kno):=by
 have g:=fun j hj=>zGQ h j hj
 refine ⟨g 0 (by omega),g 1 (by omega),g 2 (by omega),g 3 (by omega),g 4 (by omega),g 5 (by omega),g 6 (by omega),g 7 (by omega),g 8 (by omega),g 9 (by omega),g 10 (by omega),g 11 (by omega)⟩
theorem zKv {l:List Oq} {k:Nat} (h:k < l.length):nAt (ops l) (k*12)=l[k].kind∧nAt (ops l) (k*12+1)=l[k].image∧nAt (ops l) (k*12+1+1)=l[k].x∧nAt (ops l) (k*12+1+1+1)=l[k].y∧nAt (ops l) (k*12+1+1+1+1)=l[k].mask∧nAt (ops l) (k*12+1+1+1+1+1)=l[k].mx∧nAt (ops l) (k*12+1+1+1+1+1+1)=l[k].my∧nAt (ops l) (k*12+1+1+1+1+1+1+1)=l[k].opac∧nAt (ops l) (k*12+1+1+1+1+1+1+1+1)=l[k].oper∧nAt (ops l) (k*12+1+1+1+1+1+1+1+1+1)=l[k].mode∧bAt (ops l) (k*12+1+1+1+1+1+1+1+1+1+1)=l[k].iso∧bAt (ops l) (k*12+1+1+1+1+1+1+1+1+1+1+1)=l[k].kno:=by
 obtain ⟨e0,e1,e2,e3,e4,e5,e6,e7,e8,e9,e10,e11⟩:=zKu h
 simp only [nAt,bAt,e0,e1,e2,e3,e4,e5,e6,e7,e8,e9,e10,e11,and_self]
theorem jJG {l:List Oq} {k:Nat} (h:k < l.length):oqAt (ops l) (k*12)=l[k]:=by
 obtain ⟨e0,e1,e2,e3,e4,e5,e6,e7,e8,e9,e10,e11⟩:=zKv h
 simp only [oqAt,show k*12+2=k*12+1+1 from rfl,show k*12+3=k*12+1+1+1 from rfl,show k*12+4=k*12+1+1+1+1 from rfl,show k*12+5=k*12+1+1+1+1+1 from rfl,show k*12+6=k*12+1+1+1+1+1+1 from rfl,show k*12+7=k*12+1+1+1+1+1+1+1 from rfl,show k*12+8=k*12+1+1+1+1+1+1+1+1 from rfl,show k*12+9=k*12+1+1+1+1+1+1+1+1+1 from rfl,show k*12+10=k*12+1+1+1+1+1+1+1+1+1+1 from rfl,show k*12+11=k*12+1+1+1+1+1+1+1+1+1+1+1 from rfl,e0,e1,e2,e3,e4,e5,e6,e7,e8,e9,e10,e11]
def zQK (xs:List DV):List Oq:=(List.range (xs.length / 12)).map fun k=>oqAt xs (k*12)
theorem zQU (l:List Oq):zQK (ops l)=l:=by
 have e:(ops l).length / 12=l.length:=by rw [zQ6]; omega
 unfold zQK
 rw [e]
 refine List.ext_getElem (by simp) fun i h1 h2=>?_
 simp only [List.getElem_map,List.getElem_range]
 exact jJG h2
def ctxB (l:List Oq):Bool:=match l.getLast? with
 | none=>true
 | some o=>o.iso && !o.kno
section
open Go.Lib
def toS (l:Lb):ByteArray:=⟨l.toArray⟩
def ofS (s:ByteArray):Lb:=s.data.toList
theorem zQN (l:Lb):ofS (toS l)=l:=rfl
theorem zY7 (s:ByteArray):toS (ofS s)=s:=by
 unfold toS ofS
 exact Go.WideShapes.bytes_inj (by simp)
theorem zYG (l:Lb):(toS l).data.toList=l:=rfl
theorem zQF (l:Lb):(toS l).size=l.length:=by simp [toS,ByteArray.size]
theorem zYw (l m:Lb):toS l++toS m=toS (l++m):=Go.WideShapes.bytes_inj (by simp [toS])
theorem zKO (l:Lb) (a b:Nat):(toS l).extract a b=toS ((l.drop a).take (b - a)):=Go.WideShapes.bytes_inj (by simp [toS,List.extract_eq_take_drop])
theorem zXj (l m:Lb):((toS l).toList==(toS m).toList)=decide (l=m):=by
 rw [ByteArray.toList_eq,ByteArray.toList_eq,zYG,zYG]
 exact Bool.eq_iff_iff.2 (by simp)
theorem zYa {l m:Lb} (h:l=m):toS l=toS m:=by rw [h]
def strs (l:List Lb):List DV:=l.map fun w=>.str (toS w)
def zQb (xs:List DV):List Lb:=xs.map fun d=>match d with | .str s=>ofS s | _=>[]
theorem zQw (l:List Lb):zQb (strs l)=l:=by
 unfold zQb strs
 rw [List.map_map]
 conv=>rhs; rw [← List.map_id l]
 exact List.map_congr_left fun w _=>rfl
theorem zZe (l:List Lb):(strs l).length=l.length:=by simp [strs]
theorem zWz {l:List Lb} {k:Nat} (h:k < l.length):(strs l)[k]?=some (.str (toS l[k]))∧sAt (strs l) k=toS l[k]:=by
 have e:(strs l)[k]?=some (.str (toS l[k])):=by simp [strs,h]
 exact ⟨e,by simp only [sAt,e]⟩
theorem zWk (l m:List Lb):strs (l++m)=strs l++strs m:=by simp [strs]
theorem zHi {d:Nat} (h:d < 10):(toS [48,49,50,51,52,53,54,55,56,57]).extract d (d+1)=toS [UInt8.ofNat (48+d)]:=by
 rw [zKO]
 refine zYa ?_
 have:d=0∨d=1∨d=2∨d=3∨d=4∨d=5∨d=6∨d=7∨d=8∨d=9:=by omega
 rcases this with rfl | rfl | rfl | rfl | rfl | rfl | rfl | rfl | rfl | rfl <;> rfl
theorem wrap_u64 (n:Int) (h0:0≤n) (h1:n < 18446744073709551616):IntKind.wrap .u64 n=n:=by
 simp [IntKind.wrap,IntKind.bits,IntKind.signed]
 omega
theorem jVL (n:Nat) (h:n < 18446744073709551616):(decDigits n).length≤20:=by
 rw [decDigits_length]; exact nDigits_le20 n h
end
open Go.Proofs.Tryz (prog)
theorem zQs:prog.follows .mixedOrders=true:=by kernel_rfl
def gZ0 (xs:List RV):Option RV:=match xs with | [.d (.int _ n),.d (.int _ k)]=>some (rJ (modS n k)) | _=>none
def gamM:Gam where
 pure:=fun f xs=>
  if f=14 then gZ0 xs else
  none
 modes:=fun f=>
  none
 proc:=fun f xs bs=>
  none
 iter:=fun f cs=>
  none
theorem zQI (n k:Int):Ans prog 14 [rJ (n),rJ (k)] (rJ ((modS n k))):=
 zQj (Γ:=gamM) Ann.leaf zQs Tryz.func14 rfl (nL rfl) fun hwf=>by
  refine Eq.mpr (by kernel_rfl:_=(True∧True∧True∧(((decide (k < 1))=true→True∧rJ (0:Int)=rJ (modS n k))∧((decide (k < 1))=false→True∧True∧(k≠0)∧True∧True∧True∧(k≠0)∧True∧rJ (Int.tmod (wK ((Int.tmod n k)+k)) k)=rJ (modS n k))))) ?_
  delta wK rJ
  simp only [true_and,and_true,RV.d.injEq,DV.int.injEq,forall_const,Bool.not_false,Bool.not_true]
  unfold modS; grind
section
attribute [local irreducible] Ans AnsO AnsG AnsN AnsI
def zQn (op:Int):ByteArray:=if 1≤op∧op < 13 then sAt zQa (op.toNat*4) else ⟨#[]⟩
def zK6 (op:Int) (i:Nat):Int:=if 1≤op∧op < 13 then nAt zQa (op.toNat*4+i) else 0
def zQe (op:Int):ByteArray:=if 1≤op∧op < 13 then sAt zQl op.toNat else ⟨#[]⟩
theorem zX0 {op:Int} (h:1≤op∧op < 13):op=1∨op=2∨op=3∨op=4∨op=5∨op=6∨op=7∨op=8∨op=9∨op=10∨op=11∨op=12:=by omega
theorem zH0 (op:Int):((zQn op).toList==(⟨#[]⟩:ByteArray).toList)=!decide (1≤op∧op < 13):=by
 by_cases h:1≤op∧op < 13
 ·rcases zX0 h with rfl | rfl | rfl | rfl | rfl | rfl | rfl | rfl | rfl | rfl | rfl | rfl <;> decide +kernel
 ·simp [zQn,h]
theorem zUN (op:Int):((zQe op).toList==(⟨#[]⟩:ByteArray).toList)=!decide (1≤op∧op < 13):=by
 by_cases h:1≤op∧op < 13
 ·rcases zX0 h with rfl | rfl | rfl | rfl | rfl | rfl | rfl | rfl | rfl | rfl | rfl | rfl <;> decide +kernel
 ·simp [zQe,h]
def gZ1 (xs:List RV):Option RV:=match xs with | [.d (.int _ op)]=>some (RV.d (DV.str (zQn op))) | _=>none
def gZ2 (xs:List RV):Option RV:=match xs with | [.d (.int _ op)]=>some (RV.d (dQ (decide (1≤op∧op < 13)))) | _=>none
def gZ3 (xs:List RV):Option RV:=match xs with | [.d (.int _ op)]=>some (RV.d (DV.str (zQe op))) | _=>none
def jQg:Gam where
 pure:=fun f xs=>
  if f=95 then (match xs with | [.d (.int _ op)]=>some (RV.tup [RV.agg [DV.str (zQn op),dJ (zK6 op 1),dJ (zK6 op 2),dJ (zK6 op 3)],RV.d (dQ (decide (1≤op∧op < 13)))]) | _=>none) else
  if f=55 then gZ1 xs else
  if f=96 then gZ2 xs else
  if f=56 then gZ3 xs else
  if f=68 then gZ1 xs else
  if f=69 then gZ3 xs else
  if f=63 then gZ2 xs else
  if f=64 then gZ2 xs else
  none
 modes:=fun f=>
  none
 proc:=fun f xs bs=>
  none
 iter:=fun f cs=>
  none
theorem zZm (op:Int):Ans prog 95 [rJ (op)] (RV.tup [RV.agg [DV.str (zQn op),dJ (zK6 op 1),dJ (zK6 op 2),dJ (zK6 op 3)],RV.d (dQ (decide (1≤op∧op < 13)))]):=
 zQj (Γ:=jQg) Ann.leaf zQs Tryz.func95 rfl (nL rfl) fun hwf=>by
  refine Eq.mpr (by kernel_rfl:_=(let b:=(sAt zQa (0+op.toNat*4)); let c:=(nAt zQa (0+op.toNat*4+1)); let d:=(nAt zQa (0+op.toNat*4+1+1)); let e:=(nAt zQa (0+op.toNat*4+1+1+1)); let f:=[RV.agg [DV.str (⟨#[]⟩:ByteArray),dJ 0,dJ 0,dJ 0],RV.d (dQ false)]; let a:=[RV.agg [DV.str (zQn op),dJ (zK6 op 1),dJ (zK6 op 2),dJ (zK6 op 3)],RV.d (dQ (decide (1≤op∧op < 13)))]; tU5 (((decide (op < 1))=false→tU3 (((decide (op≥13))=true→tU3 (RV.tup f=RV.tup a))∧((decide (op≥13))=false→True∧(0≤op∧op < ((13:Nat):Int))∧((zQa[0+op.toNat*4]?=some (DV.str b))∧(zQa[0+op.toNat*4+1]?=some (dJ c))∧(zQa[0+op.toNat*4+1+1]?=some (dJ d))∧(zQa[0+op.toNat*4+1+1+1]?=some (dJ e))∧True)∧tU2 (RV.tup [RV.agg [DV.str b,dJ c,dJ d,dJ e],RV.d (dQ true)]=RV.tup a))))∧((decide (op < 1))=(!false)→tU4 (RV.tup f=RV.tup a))))) ?_
  delta dJ dQ
  simp only [sS]
  refine ⟨fun h1=>⟨fun h2=>?_,fun h2=>⟨⟨by omega,by omega⟩,?_⟩⟩,fun h1=>?_⟩
  ·have h:¬ (1≤op∧op < 13):=by omega
   simp [zQn,zK6,h]
  ·have h:1≤op∧op < 13:=by omega
   clear h1 h2
   rcases zX0 h with rfl | rfl | rfl | rfl | rfl | rfl | rfl | rfl | rfl | rfl | rfl | rfl <;> exact ⟨⟨rfl,rfl,rfl,rfl⟩,⟨rfl,rfl,rfl,rfl⟩,rfl⟩
  ·have h:¬ (1≤op∧op < 13):=by omega
   simp [zQn,zK6,h]
theorem zZh (op:Int):Ans prog 55 [rJ (op)] (RV.d (DV.str (zQn op))):=
 zQj (Γ:=jQg) Ann.leaf zQs Tryz.func55 rfl (nL rfl) fun hwf=>by
  refine Eq.mpr (by kernel_rfl:_=(tU2 ((Ans prog 95 [rJ op] (RV.tup [RV.agg [DV.str (zQn op),dJ (zK6 op 1),dJ (zK6 op 2),dJ (zK6 op 3)],RV.d (dQ (decide (1≤op∧op < 13)))]))∧True∧tU8 (RV.d (DV.str (zQn op))=RV.d (DV.str (zQn op)))))) ?_
  delta dJ dQ rJ
  simp only [sS,zZm]
theorem zZY (op:Int):Ans prog 96 [rJ (op)] (RV.d (dQ (decide (1≤op∧op < 13)))):=
 zQj (Γ:=jQg) Ann.leaf zQs Tryz.func96 rfl (nL rfl) fun hwf=>by
  refine Eq.mpr (by kernel_rfl:_=(let a:=(dQ (decide (1≤op∧op < 13))); tU4 (((decide (op≥1))=true→tU4 (RV.d (dQ (decide (op≤12)))=RV.d a))∧((decide (op≥1))=(!true)→tU2 (RV.d (dQ false)=RV.d a))))) ?_
  delta dQ
  simp only [sS,zZm,zZh]
  by_cases h:op≥1 <;> simp [h] <;> omega
theorem zZ5 (op:Int):Ans prog 56 [rJ (op)] (RV.d (DV.str (zQe op))):=
 zQj (Γ:=jQg) Ann.leaf zQs Tryz.func56 rfl (nL rfl) fun hwf=>by
  refine Eq.mpr (by kernel_rfl:_=(let a:=(DV.str (sAt zQl (0+op.toNat*1))); tU2 ((Ans prog 96 [rJ op] (RV.d (dQ (decide (1≤op∧op < 13)))))∧True∧(((!(decide (1≤op∧op < 13)))=true→True∧RV.d (DV.str (⟨#[]⟩:ByteArray))=RV.d (DV.str (zQe op)))∧((!(decide (1≤op∧op < 13)))=false→True∧(0≤op∧op < ((13:Nat):Int))∧((zQl[0+op.toNat*1]?=some a)∧True)∧True∧RV.d a=RV.d (DV.str (zQe op))))))) ?_
  delta dQ rJ
  simp only [sS,zZm,zZh,zZY]
  refine ⟨fun h=>by simp [zQe,h],fun h=>⟨⟨by omega,by omega⟩,?_⟩⟩
  rcases zX0 h with rfl | rfl | rfl | rfl | rfl | rfl | rfl | rfl | rfl | rfl | rfl | rfl <;> exact ⟨rfl,rfl⟩
theorem zXq (op:Int):Ans prog 68 [rJ (op)] (RV.d (DV.str (zQn op))):=
 zQj (Γ:=jQg) Ann.leaf zQs Tryz.func68 rfl (nL rfl) fun hwf=>by
  refine Eq.mpr (by kernel_rfl:_=(let a:=(DV.str (zQn op)); let b:=(DV.str (⟨#[]⟩:ByteArray)); let c:=(DV.str (sAt ([DV.str (⟨#[]⟩:ByteArray),DV.str (⟨#[99,108,101,97,114]⟩:ByteArray),DV.str (⟨#[115,114,99]⟩:ByteArray),DV.str (⟨#[100,115,116]⟩:ByteArray),DV.str (⟨#[115,114,99,45,111,118,101,114]⟩:ByteArray),DV.str (⟨#[100,115,116,45,111,118,101,114]⟩:ByteArray),DV.str (⟨#[115,114,99,45,105,110]⟩:ByteArray),DV.str (⟨#[100,115,116,45,105,110]⟩:ByteArray),DV.str (⟨#[115,114,99,45,111,117,116]⟩:ByteArray),DV.str (⟨#[100,115,116,45,111,117,116]⟩:ByteArray),DV.str (⟨#[115,114,99,45,97,116,111,112]⟩:ByteArray),DV.str (⟨#[100,115,116,45,97,116,111,112]⟩:ByteArray),DV.str (⟨#[120,111,114]⟩:ByteArray)]) (op.toNat*1))); tU6 (((decide (op < 1))=false→tU2 ((13≤maxLen)∧tU2 (((decide (op≥((13:Nat):Int)))=true→True∧RV.d b=RV.d a)∧((decide (op≥((13:Nat):Int)))=false→tU2 ((0≤op∧op < ((13:Nat):Int))∧((([DV.str (⟨#[]⟩:ByteArray),DV.str (⟨#[99,108,101,97,114]⟩:ByteArray),DV.str (⟨#[115,114,99]⟩:ByteArray),DV.str (⟨#[100,115,116]⟩:ByteArray),DV.str (⟨#[115,114,99,45,111,118,101,114]⟩:ByteArray),DV.str (⟨#[100,115,116,45,111,118,101,114]⟩:ByteArray),DV.str (⟨#[115,114,99,45,105,110]⟩:ByteArray),DV.str (⟨#[100,115,116,45,105,110]⟩:ByteArray),DV.str (⟨#[115,114,99,45,111,117,116]⟩:ByteArray),DV.str (⟨#[100,115,116,45,111,117,116]⟩:ByteArray),DV.str (⟨#[115,114,99,45,97,116,111,112]⟩:ByteArray),DV.str (⟨#[100,115,116,45,97,116,111,112]⟩:ByteArray),DV.str (⟨#[120,111,114]⟩:ByteArray)])[op.toNat*1]?=some c)∧True)∧True∧RV.d c=RV.d a)))))∧((decide (op < 1))=(!false)→tU2 (RV.d b=RV.d a))))) ?_
  simp only [sS,zZm,zZh,zZY,zZ5]
  refine ⟨fun h1=>⟨by decide,fun h2=>?_,fun h2=>⟨⟨by omega,by omega⟩,?_⟩⟩,fun h1=>?_⟩
  ·have h:¬ (1≤op∧op < 13):=by omega
   simp [zQn,h]
  ·have h:1≤op∧op < 13:=by omega
   clear h1 h2
   rcases zX0 h with rfl | rfl | rfl | rfl | rfl | rfl | rfl | rfl | rfl | rfl | rfl | rfl <;> exact ⟨rfl,rfl⟩
  ·have h:¬ (1≤op∧op < 13):=by omega
   simp [zQn,h]
theorem zXu (op:Int):Ans prog 69 [rJ (op)] (RV.d (DV.str (zQe op))):=
 zQj (Γ:=jQg) Ann.leaf zQs Tryz.func69 rfl (nL rfl) fun hwf=>by
  refine Eq.mpr (by kernel_rfl:_=(let a:=(DV.str (zQe op)); let b:=(DV.str (⟨#[]⟩:ByteArray)); let c:=(DV.str (sAt ([DV.str (⟨#[]⟩:ByteArray),DV.str (⟨#[110,111,114,109,97,108]⟩:ByteArray),DV.str (⟨#[109,117,108,116,105,112,108,121]⟩:ByteArray),DV.str (⟨#[115,99,114,101,101,110]⟩:ByteArray),DV.str (⟨#[111,118,101,114,108,97,121]⟩:ByteArray),DV.str (⟨#[100,97,114,107,101,110]⟩:ByteArray),DV.str (⟨#[108,105,103,104,116,101,110]⟩:ByteArray),DV.str (⟨#[99,111,108,111,114,45,100,111,100,103,101]⟩:ByteArray),DV.str (⟨#[99,111,108,111,114,45,98,117,114,110]⟩:ByteArray),DV.str (⟨#[104,97,114,100,45,108,105,103,104,116]⟩:ByteArray),DV.str (⟨#[115,111,102,116,45,108,105,103,104,116]⟩:ByteArray),DV.str (⟨#[100,105,102,102,101,114,101,110,99,101]⟩:ByteArray),DV.str (⟨#[101,120,99,108,117,115,105,111,110]⟩:ByteArray)]) (op.toNat*1))); tU6 (((decide (op < 1))=false→tU2 ((13≤maxLen)∧tU2 (((decide (op≥((13:Nat):Int)))=true→True∧RV.d b=RV.d a)∧((decide (op≥((13:Nat):Int)))=false→tU2 ((0≤op∧op < ((13:Nat):Int))∧((([DV.str (⟨#[]⟩:ByteArray),DV.str (⟨#[110,111,114,109,97,108]⟩:ByteArray),DV.str (⟨#[109,117,108,116,105,112,108,121]⟩:ByteArray),DV.str (⟨#[115,99,114,101,101,110]⟩:ByteArray),DV.str (⟨#[111,118,101,114,108,97,121]⟩:ByteArray),DV.str (⟨#[100,97,114,107,101,110]⟩:ByteArray),DV.str (⟨#[108,105,103,104,116,101,110]⟩:ByteArray),DV.str (⟨#[99,111,108,111,114,45,100,111,100,103,101]⟩:ByteArray),DV.str (⟨#[99,111,108,111,114,45,98,117,114,110]⟩:ByteArray),DV.str (⟨#[104,97,114,100,45,108,105,103,104,116]⟩:ByteArray),DV.str (⟨#[115,111,102,116,45,108,105,103,104,116]⟩:ByteArray),DV.str (⟨#[100,105,102,102,101,114,101,110,99,101]⟩:ByteArray),DV.str (⟨#[101,120,99,108,117,115,105,111,110]⟩:ByteArray)])[op.toNat*1]?=some c)∧True)∧True∧RV.d c=RV.d a)))))∧((decide (op < 1))=(!false)→tU2 (RV.d b=RV.d a))))) ?_
  simp only [sS,zZm,zZh,zZY,zZ5,zXq]
  refine ⟨fun h1=>⟨by decide,fun h2=>?_,fun h2=>⟨⟨by omega,by omega⟩,?_⟩⟩,fun h1=>?_⟩
  ·have h:¬ (1≤op∧op < 13):=by omega
   simp [zQe,h]
  ·have h:1≤op∧op < 13:=by omega
   clear h1 h2
   rcases zX0 h with rfl | rfl | rfl | rfl | rfl | rfl | rfl | rfl | rfl | rfl | rfl | rfl <;> exact ⟨rfl,rfl⟩
  ·have h:¬ (1≤op∧op < 13):=by omega
   simp [zQe,h]
theorem zV8 (op:Int):Ans prog 63 [rJ (op)] (RV.d (dQ (decide (1≤op∧op < 13)))):=
 zQj (Γ:=jQg) Ann.leaf zQs Tryz.func63 rfl (nL rfl) fun hwf=>by
  refine Eq.mpr (by kernel_rfl:_=(tU2 ((Ans prog 68 [rJ op] (RV.d (DV.str (zQn op))))∧tU2 (RV.d (dQ (!((zQn op).toList==(⟨#[]⟩:ByteArray).toList)))=RV.d (dQ (decide (1≤op∧op < 13))))))) ?_
  delta dQ rJ
  simp only [sS,zZm,zZh,zZY,zZ5,zXq,zXu]
  rw [zH0]; simp
theorem zUU (op:Int):Ans prog 64 [rJ (op)] (RV.d (dQ (decide (1≤op∧op < 13)))):=
 zQj (Γ:=jQg) Ann.leaf zQs Tryz.func64 rfl (nL rfl) fun hwf=>by
  refine Eq.mpr (by kernel_rfl:_=(tU2 ((Ans prog 69 [rJ op] (RV.d (DV.str (zQe op))))∧tU2 (RV.d (dQ (!((zQe op).toList==(⟨#[]⟩:ByteArray).toList)))=RV.d (dQ (decide (1≤op∧op < 13))))))) ?_
  delta dQ rJ
  simp only [sS,zZm,zZh,zZY,zZ5,zXq,zXu,zV8]
  rw [zUN]; simp
end
def cnt (l:List Rc) (x y:Int):Int:=(l.map fun r=>if r.has x y then (1:Int) else 0).sum
def areas (l:List Rc):Int:=(l.map Rc.area).sum
def us (l:List Int):List DV:=l.map (.int .u16)
theorem jVr (l:List Int):ints (us l)=l:=by simp [ints,us,Function.comp_def]
theorem zJy (l:List Int):(us l).length=l.length:=by simp [us]
theorem jVT {l:List Int} {k:Nat} (h:k < l.length):(us l)[k]?=some (.int .u16 l[k]):=by simp [us,h]
theorem jXX {l:List Int} {k:Nat} (h:k < l.length):nAt (us l) k=l[k]:=by simp [nAt,jVT h]
theorem jXY (l m:List Int):us l++us m=us (l++m):=by simp [us]
def IsU (n:Nat) (xs:List DV):Prop:=xs=us (ints xs)∧n=xs.length
theorem IsU.of {n:Nat} {xs:List DV} (h:IsU n xs):∃ l:List Int,xs=us l∧n=l.length:=by
 refine ⟨ints xs,h.1,?_⟩
 rw [h.2,h.1,zJy,jVr]
theorem jKB {n:Nat} {xs:List DV} (hn:xs.length=n) (hx:∀ (j:Nat) d,xs[j]?=some d→∃ v,d=.int .u16 v):IsU n xs:=by
 refine ⟨?_,hn.symm⟩
 clear hn
 induction xs with
 | nil=>rfl
 | cons x xs ih=>
  obtain ⟨v,rfl⟩:=hx 0 _ rfl
  have:=ih fun j d hj=>hx (j+1) d hj
  simp only [us,ints,List.map_cons] at this ⊢
  rw [← this]
def zQ8 (w h:Int):Bool:=decide (1≤w) && decide (1≤h) && decide (w*h≤16777216)
def lenW (w h s:Int):Int:=IntKind.wrap .i64 (IntKind.wrap .i64 (IntKind.wrap .i64 (h - 1)*s)+w)
def zQZ (w h s:Int) (n:Nat):Bool:=zQ8 w h && decide (w≤s) && decide (s≤16777216) && decide (lenW w h s≤n)
structure Pl where (w h s:Int) (n:Nat) (xs:List DV)
def Pl.none:Pl:=⟨0,0,0,0,[]⟩
def jWr (w h s:Int) (n:Nat) (xs:List DV) (w' h' s':Int) (n':Nat) (xs':List DV):Bool:=decide (w=w') && decide (h=h') && decide (s=s') && decide (n=n') && decide (ints xs=ints xs')
theorem zWC {w h:Int} (h1:1≤w) (h2:1≤h):(w≤IntKind.wrap .i64 (Int.tdiv 16777216 h))↔w*h≤16777216:=by
 have hd:Int.tdiv 16777216 h=16777216 / h:=Int.tdiv_eq_ediv_of_nonneg (by omega)
 have h3:(0:Int)≤16777216 / h:=Int.ediv_nonneg (by omega) (by omega)
 have h4:(16777216:Int) / h≤16777216:=Int.ediv_le_self _ (by omega)
 rw [hd,IntWalk.i64_in _ ⟨by omega,by omega⟩,Int.le_ediv_iff_mul_le (by omega)]
theorem zXi {w h:Int} (hf:zQ8 w h=true):1≤w∧1≤h∧w≤16777216∧h≤16777216∧w*h≤16777216:=by
 simp only [zQ8,Bool.and_eq_true,decide_eq_true_eq] at hf
 obtain ⟨⟨h1,h2⟩,h3⟩:=hf
 have e1:w*1≤w*h:=Int.mul_le_mul_of_nonneg_left h2 (by omega)
 have e2:1*h≤w*h:=Int.mul_le_mul_of_nonneg_right h1 (by omega)
 omega
theorem jZc {w h s:Int} (hf:zQ8 w h=true) (h1:w≤s) (h2:s≤16777216):lenW w h s=(h - 1)*s+w∧1≤lenW w h s∧lenW w h s≤562949953421312∧0≤(h - 1)*s:=by
 obtain ⟨a,b,c,d,_⟩:=zXi hf
 have e:=jKy (x:=h - 1) (y:=s) (M:=16777216) (by omega) (by omega) (by omega) (by omega)
 unfold lenW
 rw [IntWalk.i64_in (h - 1) ⟨by omega,by omega⟩,IntWalk.i64_in ((h - 1)*s) ⟨by omega,by omega⟩,IntWalk.i64_in _ ⟨by omega,by omega⟩]
 omega
theorem zKA {w h s:Int} {n:Nat} (hv:zQZ w h s n=true):1≤w∧1≤h∧w≤16777216∧h≤16777216∧w*h≤16777216∧w≤s∧s≤16777216∧(h - 1)*s+w≤n∧0≤(h - 1)*s:=by
 simp only [zQZ,Bool.and_eq_true,decide_eq_true_eq] at hv
 obtain ⟨⟨⟨h1,h2⟩,h3⟩,h4⟩:=hv
 obtain ⟨e1,_,_,e4⟩:=jZc h1 h2 h3
 obtain ⟨a,b,c,d,e⟩:=zXi h1
 rw [e1] at h4
 exact ⟨a,b,c,d,e,h2,h3,h4,e4⟩
theorem place {w h s:Int} {n:Nat} {x y:Int} (hv:zQZ w h s n=true) (h1:0≤x) (h2:x < w) (h3:0≤y) (h4:y < h):0≤y*s∧y*s+x < n∧y*s+w≤n∧y*s≤281474976710656∧IntKind.wrap .i64 (y*s)=y*s∧IntKind.wrap .i64 (y*s+x)=y*s+x:=by
 obtain ⟨a,b,c,d,e,f,g,i,j⟩:=zKA hv
 have e1:=jKy (x:=y) (y:=s) (M:=16777216) (by omega) (by omega) (by omega) (by omega)
 have e2:y*s≤(h - 1)*s:=Int.mul_le_mul_of_nonneg_right (by omega) (by omega)
 refine ⟨by omega,by omega,by omega,by omega,IntWalk.i64_in _ ⟨by omega,by omega⟩,IntWalk.i64_in _ ⟨by omega,by omega⟩⟩
theorem idx {s:Int} {y x:Nat} (hs:0≤s):((y:Int)*s+(x:Int)).toNat=y*s.toNat+x:=by
 have e1:((y*s.toNat:Nat):Int)=(y:Int)*s:=by rw [Int.natCast_mul,Int.toNat_of_nonneg hs]
 omega
theorem zXE {k:Nat} (h:k≤9223372036854775806):IntKind.wrap .i64 ((k:Int)+1)=((k+1:Nat):Int):=by rw [IntWalk.i64_in _ ⟨by omega,by omega⟩]; omega
theorem w1_:IntKind.wrap .i64 0=0∧IntKind.wrap .i64 1=1∧IntKind.wrap .i64 2=2∧IntKind.wrap .i64 3=3∧IntKind.wrap .i64 4=4∧IntKind.wrap .i64 5=5∧IntKind.wrap .i64 6=6:=by decide
structure Px where
  a:Int
  b:Int
  c:Int
  al:Int
  f:Int
deriving DecidableEq
def Px.zero:Px:=⟨0,0,0,0,0⟩
def Px.ds (p:Px):List DV:=[.int .u16 p.a,.int .u16 p.b,.int .u16 p.c,.int .u16 p.al,.int .u16 p.f]
def pxs (l:List Px):List DV:=l.flatMap Px.ds
def dI:DV→Int
 | .int _ n=>n
 | _=>0
def zQc:List DV→List Px
 | a::b::c::d::e::r=>⟨dI a,dI b,dI c,dI d,dI e⟩::zQc r
 | _=>[]
theorem zQS:∀ l:List Px,zQc (pxs l)=l
 | []=>rfl
 | p::l=>by
  show zQc (Px.ds p++pxs l)=_
  simp [Px.ds,zQc,dI,zQS l]
theorem zZs (l:List Px):(pxs l).length=l.length*5:=by
 induction l with
 | nil=>rfl
 | cons p l ih=>simp [pxs,Px.ds] at ih ⊢; omega
theorem jZC (p:Px) (l:List Px):pxs (p::l)=Px.ds p++pxs l:=rfl
theorem jXx (l m:List Px):pxs l++pxs m=pxs (l++m):=by simp [pxs]
theorem zWO:∀ {l:List Px} {k:Nat} (h:k < l.length),(pxs l)[k*5]?=some (.int .u16 l[k].a)∧(pxs l)[k*5+1]?=some (.int .u16 l[k].b)∧(pxs l)[k*5+2]?=some (.int .u16 l[k].c)∧(pxs l)[k*5+3]?=some (.int .u16 l[k].al)∧(pxs l)[k*5+4]?=some (.int .u16 l[k].f)
 | p::l,0,_=>by simp [jZC,Px.ds]
 | p::l,k+1,h=>by
  have:=zWO (l:=l) (k:=k) (by simpa using h)
  have e:∀ j,(pxs (p::l))[(k+1)*5+j]?=(pxs l)[k*5+j]?:=fun j=>by
   rw [jZC,List.getElem?_append_right (by simp [Px.ds]; omega)]
   congr 1
   simp [Px.ds]; omega
  have e0:=e 0
  simp only [Nat.add_zero] at e0
  simp only [e,e0,List.getElem_cons_succ]
  exact this
theorem zZr {l:List Px} {k:Nat} (h:k < l.length):nAt (pxs l) (k*5)=l[k].a∧nAt (pxs l) (k*5+1)=l[k].b∧nAt (pxs l) (k*5+2)=l[k].c∧nAt (pxs l) (k*5+3)=l[k].al∧nAt (pxs l) (k*5+4)=l[k].f:=by
 obtain ⟨h1,h2,h3,h4,h5⟩:=zWO h
 simp [nAt,h1,h2,h3,h4,h5]
def zUW (n:Nat) (xs:List DV):Prop:=xs=pxs (zQc xs)∧n=(zQc xs).length
theorem zUW.of {n:Nat} {xs:List DV} (h:zUW n xs):∃ l:List Px,xs=pxs l∧n=l.length:=⟨zQc xs,h.1,h.2⟩
theorem zJP (l:List Px):zUW l.length (pxs l):=⟨by rw [zQS],by rw [zQS]⟩
structure Im where
  w:Int
  h:Int
  so:Bool
  c:Px
  p0:Pl
  p1:Pl
  p2:Pl
  p3:Pl
  p4:Pl
def Im.zero:Im:=⟨0,0,false,.zero,.none,.none,.none,.none,.none⟩
def Pl.isU (p:Pl):Prop:=IsU p.n p.xs
def Im.isU (m:Im):Prop:=m.p0.isU∧m.p1.isU∧m.p2.isU∧m.p3.isU∧m.p4.isU
def zJm (p:Pl):Bool:=decide (p.w=0) && decide (p.h=0) && decide (p.s=0) && decide (p.n=0)
def okPl (so:Bool) (w h:Int) (p:Pl):Bool:=if so then zJm p else zQZ p.w p.h p.s p.n && decide (p.w=w) && decide (p.h=h)
def Im.inner (m:Im):Bool:=(m.so || decide (m.c=Px.zero)) && (okPl m.so m.w m.h m.p0 && (okPl m.so m.w m.h m.p1 && (okPl m.so m.w m.h m.p2 && (okPl m.so m.w m.h m.p3 && okPl m.so m.w m.h m.p4))))
def Im.formed (m:Im):Bool:=zQ8 m.w m.h && m.inner
def Pl.at_ (p:Pl) (x y:Int):Int:=nAt p.xs (y*p.s+x).toNat
def Im.px (m:Im) (x y:Int):Px:=if m.so then m.c else ⟨m.p0.at_ x y,m.p1.at_ x y,m.p2.at_ x y,m.p3.at_ x y,m.p4.at_ x y⟩
def Px.ok (p:Px) (most:Int):Bool:=decide (p.a≤p.al) && (decide (p.b≤p.al) && (decide (p.c≤p.al) && (decide (p.al≤p.f) && decide (p.f≤most))))
def Im.nth (m:Im) (k:Nat):Px:=m.px ((k % m.w.toNat:Nat):Int) ((k / m.w.toNat:Nat):Int)
def Im.count (m:Im):Nat:=m.w.toNat*m.h.toNat
def Im.okTo (m:Im) (most:Int) (k:Nat):Bool:=(List.range k).all fun i=>(m.nth i).ok most
def Im.valid (m:Im) (most:Int):Int:=
 if zQ8 m.w m.h=false then 6 else if m.inner=false then 7 else if m.so then (if m.c.ok most then 0 else 8) else if m.okTo most m.count then 0 else 8
def Im.shape (m:Im):Int:=if zQ8 m.w m.h=false then 6 else if m.inner=false then 7 else 0
def Im.list (m:Im) (k:Nat):List Px:=(List.range k).map m.nth
def Im.pixels (m:Im):List Px:=if m.formed then m.list m.count else []
def Im.at_ (m:Im) (x y:Int):Px:=if m.formed && decide (0≤x) && decide (x < m.w) && decide (0≤y) && decide (y < m.h) then m.px x y else .zero
def zQg (w h:Int) (c:Px):Im:=⟨w,h,true,c,.none,.none,.none,.none,.none⟩
def chan (l:List Px) (g:Px→Int):List DV:=us (l.map g)
def ofIm (w h:Int) (l:List Px):Im:=
 let q (g:Px→Int):Pl:=⟨w,h,w,l.length,chan l g⟩
 ⟨w,h,false,.zero,q Px.a,q Px.b,q Px.c,q Px.al,q Px.f⟩
def ofOk (w h:Int) (n:Nat):Bool:=zQ8 w h && decide ((n:Int)=w*h)
def imOf (w h:Int) (l:List Px):Im:=if ofOk w h l.length then ofIm w h l else .zero
def Im.equal (m n:Im):Bool:=m.formed && n.formed && decide (m.w=n.w) && decide (m.h=n.h) && decide (m.pixels=n.pixels)
theorem zXZ {w h s:Int} {n:Nat} {xs:List DV} (hu:IsU n xs) (hv:zQZ w h s n=true) {x y:Int} (hx:0≤x∧x < w) (hy:0≤y∧y < h) :
  IntKind.wrap .i64 (IntKind.wrap .i64 (y*s)+x)=y*s+x∧(0≤y*s+x∧y*s+x < n∧(y*s+x).toNat*1 < xs.length)∧xs[(y*s+x).toNat*1]?=some (.int .u16 (nAt xs ((y*s+x).toNat*1))):=by
 obtain ⟨l,rfl,rfl⟩:=hu.of
 have hp:=place hv hx.1 hx.2 hy.1 hy.2
 have hf:=zKA hv
 have h1:0≤y*s:=hp.1
 have h2:y*s+x < l.length:=by exact_mod_cast hp.2.1
 have hy16:y≤16777216:=by omega
 have hs16:s≤16777216:=by omega
 have hb:y*s≤281474976710656:=by
  have:=Int.mul_le_mul hy16 hs16 (by omega) (by omega)
  omega
 have w1:IntKind.wrap .i64 (y*s)=y*s:=IntWalk.i64_in _ ⟨by omega,by omega⟩
 have w2:IntKind.wrap .i64 (y*s+x)=y*s+x:=IntWalk.i64_in _ ⟨by omega,by omega⟩
 rw [w1,w2]
 have hk:(y*s+x).toNat*1 < l.length:=by omega
 refine ⟨rfl,⟨by omega,h2,by rw [zJy]; exact hk⟩,?_⟩
 rw [jVT hk,jXX hk]
theorem Im.inner_planes {m:Im} (h:m.inner=true) (hs:m.so=false):m.c=Px.zero∧(zQZ m.p0.w m.p0.h m.p0.s m.p0.n=true∧m.p0.w=m.w∧m.p0.h=m.h)∧(zQZ m.p1.w m.p1.h m.p1.s m.p1.n=true∧m.p1.w=m.w∧m.p1.h=m.h) ∧
  (zQZ m.p2.w m.p2.h m.p2.s m.p2.n=true∧m.p2.w=m.w∧m.p2.h=m.h)∧(zQZ m.p3.w m.p3.h m.p3.s m.p3.n=true∧m.p3.w=m.w∧m.p3.h=m.h)∧(zQZ m.p4.w m.p4.h m.p4.s m.p4.n=true∧m.p4.w=m.w∧m.p4.h=m.h):=by
 simp [Im.inner,okPl,hs] at h
 grind
theorem Im.okTo_succ (m:Im) (most:Int) (k:Nat):m.okTo most (k+1)=(m.okTo most k && (m.nth k).ok most):=by
 simp [Im.okTo,List.range_succ,List.all_append]
theorem Im.okTo_le {m:Im} {most:Int} {k n:Nat} (h:k≤n) (hn:m.okTo most n=true):m.okTo most k=true:=by
 simp only [Im.okTo,List.all_eq_true,List.mem_range] at hn ⊢
 exact fun i hi=>hn i (by omega)
theorem Im.shape_zero {m:Im} (h:m.shape=0):zQ8 m.w m.h=true∧m.inner=true:=by
 unfold Im.shape at h
 split at h
 ·cases h
 ·split at h
  ·cases h
  ·simp_all
theorem Im.valid_shape {m:Im} (most:Int) (h:m.shape≠0):m.valid most=m.shape:=by
 unfold Im.shape at h ⊢
 unfold Im.valid
 split
 ·rfl
 ·rename_i h1
  rw [if_neg h1] at h
  split
  ·rfl
  ·rename_i h2
   rw [if_neg h2] at h
   exact absurd rfl h
theorem Im.valid_solid {m:Im} {most:Int} (h:m.shape=0) (hs:m.so=true):m.valid most=if m.c.ok most then 0 else 8:=by
 obtain ⟨h1,h2⟩:=Im.shape_zero h
 simp [Im.valid,h1,h2,hs]
theorem Im.valid_planes {m:Im} {most:Int} (h:m.shape=0) (hs:m.so=false):m.valid most=if m.okTo most (m.w.toNat*m.h.toNat) then 0 else 8:=by
 obtain ⟨h1,h2⟩:=Im.shape_zero h
 unfold Im.valid Im.count
 rw [if_neg (by simp [h1]),if_neg (by simp [h2]),if_neg (by simp [hs])]
theorem Im.nth_in {m:Im} (hf:zQ8 m.w m.h=true) {k:Nat} (hk:k < m.w.toNat*m.h.toNat):(0≤(((k % m.w.toNat:Nat)):Int)∧(((k % m.w.toNat:Nat)):Int) < m.w)∧(0≤(((k / m.w.toNat:Nat)):Int)∧(((k / m.w.toNat:Nat)):Int) < m.h):=by
 obtain ⟨a,b,c,d,e⟩:=zXi hf
 have h1:=Nat.mod_lt k (show 0 < m.w.toNat by omega)
 have h2:k / m.w.toNat < m.h.toNat:=Nat.div_lt_of_lt_mul hk
 generalize k % m.w.toNat=q at *
 generalize k / m.w.toNat=r at *
 omega
theorem Im.count_le {m:Im} (hf:zQ8 m.w m.h=true):m.w.toNat*m.h.toNat≤16777216∧((m.w.toNat*m.h.toNat:Nat):Int)=m.w*m.h:=by
 obtain ⟨a,b,c,d,e⟩:=zXi hf
 have:((m.w.toNat*m.h.toNat:Nat):Int)=m.w*m.h:=by
  rw [Int.natCast_mul,Int.toNat_of_nonneg (by omega),Int.toNat_of_nonneg (by omega)]
 exact ⟨by omega,this⟩
theorem jZ0 {w h:Int} (hf:zQ8 w h=true) (k:Nat) (hk:k < w.toNat*h.toNat):[DV.int .i64 ((k % w.toNat:Nat):Int),DV.int .i64 ((k / w.toNat:Nat):Int)].length=2∧zJ5 [DV.int .i64 ((k % w.toNat:Nat):Int),DV.int .i64 ((k / w.toNat:Nat):Int)]:=by
 obtain ⟨a,b,c,d,e⟩:=zXi hf
 obtain ⟨⟨h1,h2⟩,h3,h4⟩:=Im.nth_in (m:=⟨w,h,true,.zero,.none,.none,.none,.none,.none⟩) hf hk
 have m1:IntKind.min .i64 = -9223372036854775808:=rfl
 have m2:IntKind.max .i64=9223372036854775807:=rfl
 simp only at h1 h2 h3 h4
 generalize k % w.toNat=q at *
 generalize k / w.toNat=r at *
 refine ⟨rfl,⟨?_,?_⟩,⟨?_,?_⟩,trivial⟩ <;> (first | rw [m1] | rw [m2]) <;> omega
theorem Im.list_succ (m:Im) (k:Nat):m.list (k+1)=m.list k++[m.nth k]:=by simp [Im.list,List.range_succ]
theorem Im.list_len (m:Im) (k:Nat):(m.list k).length=k:=by simp [Im.list]
theorem Im.pxs_succ (m:Im) (k:Nat):pxs (m.list k)++Px.ds (m.nth k)=pxs (m.list (k+1)):=by rw [Im.list_succ,← jXx]; simp [pxs]
theorem Im.formed_of {m:Im} (h:m.formed=true):zQ8 m.w m.h=true∧m.inner=true:=by simpa [Im.formed] using h
theorem Im.pixels_of {m:Im} (h:m.formed=true):m.pixels=m.list (m.w.toNat*m.h.toNat):=by simp [Im.pixels,h,Im.count]
theorem Im.nth_at {m:Im} {x y:Nat} (hx:x < m.w.toNat):m.nth (y*m.w.toNat+x)=m.px x y:=by
 have hW:0 < m.w.toNat:=by omega
 have e1:(y*m.w.toNat+x) % m.w.toNat=x:=by rw [Nat.add_comm,Nat.add_mul_mod_self_right,Nat.mod_eq_of_lt hx]
 have e2:(y*m.w.toNat+x) / m.w.toNat=y:=by rw [Nat.add_comm,Nat.add_mul_div_right _ _ hW,Nat.div_eq_of_lt hx,Nat.zero_add]
 rw [Im.nth,e1,e2]
theorem jVt {w h x y:Nat} (hx:x < w) (hy:y < h):y*w+x < w*h:=by
 have h1:(y+1)*w≤h*w:=Nat.mul_le_mul_right _ (by omega)
 rw [Nat.mul_comm w,Nat.add_mul] at *
 omega
section
open Go.Lib
def zQH (w:Lb) (l:List Int):Lb:=l.foldl (fun w n=>(if w=[] then [] else w++[32])++itoa n) w
theorem zGj {w:Lb} {l:List Int} {k:Nat} (h:k < l.length):zQH w (l.take (k+1))=(if zQH w (l.take k)=[] then [] else zQH w (l.take k)++[32])++itoa l[k]:=by
 unfold zQH
 rw [List.take_add_one,List.getElem?_eq_getElem h,Option.toList_some,List.foldl_append]
 rfl
theorem zVh (n:Int) (h : -9223372036854775808≤n∧n≤9223372036854775807):(itoa n).length≤21:=itoa_length_le n h.1 h.2
def zKn (p:Lb):List Lb→List Lb
 | w::ws=>(p++w)::ws
 | []=>[p]
def zQo:Lb→List Lb
 | []=>[[]]
 | c::l=>if c=32 then []::zQo l else zKn [c] (zQo l)
theorem zYV (l:Lb):zQo l≠[]:=by
 cases l with
 | nil=>simp [zQo]
 | cons c l=>
  rw [zQo]
  split
  ·simp
  ·cases h:zQo l with
   | nil=>simp [zKn]
   | cons w ws=>simp [zKn]
theorem jJb (p q:Lb) (ws:List Lb) (h:ws≠[]):zKn p (zKn q ws)=zKn (p++q) ws:=by
 cases ws with
 | nil=>exact absurd rfl h
 | cons w ws=>simp [zKn]
theorem jQs (ws:List Lb) (h:ws≠[]):zKn [] ws=ws:=by
 cases ws with
 | nil=>exact absurd rfl h
 | cons w ws=>rfl
theorem jKd (p:Lb) (ws:List Lb):zKn p ([]::ws)=p::ws:=by simp [zKn]
theorem zJ2 (l:Lb):(zQo l).length≤l.length+1:=by
 induction l with
 | nil=>simp [zQo]
 | cons c l ih=>
  rw [zQo]
  split
  ·simp; omega
  ·cases h:zQo l with
   | nil=>simp [zKn]
   | cons w ws=>rw [h] at ih; simp [zKn] at *; omega
def okN (lo hi:Int) (w:Lb):Bool:=zYb w && decide (lo≤numV w) && decide (numV w≤hi)
def numR (w:Lb) (lo hi:Int):Int × Bool:=(if zYb w then numV w else 0,okN lo hi w)
def zZB (ws:List Lb) (lo hi:Int):List Int × Bool:=if ws.all (okN lo hi) then (ws.map numV,true) else ([],false)
def pixW (ws:List Lb):Px × Bool:=
 if ws.all (okN 0 65535) then (match ws.map numV with
  | [a,b,c,d,e]=>(⟨a,b,c,d,e⟩,true)
  | _=>(.zero,false)) else (.zero,false)
def nmR (f:Int→ByteArray) (w:Lb):Int × Bool:=match (List.range 12).find? (fun (j:Nat)=>decide (ofS (f ((j:Int)+1))=w)) with
 | some j=>((j:Int)+1,true)
 | none=>(0,false)
theorem jY6 {l:Lb} {k:Nat} (h:k < l.length):dval (l.take (k+1))=dval (l.take k)*10+(l[k].toNat - 48):=by
 rw [List.take_add_one,List.getElem?_eq_getElem h,Option.toList_some,zHh]
 rfl
theorem jVO {l:Lb} {k:Nat} (h:k < l.length):(((((toS l).data.toList[k]?).getD 0).toNat:Nat):Int)=((l[k].toNat:Nat):Int):=by
 rw [zYG,List.getElem?_eq_getElem h]; rfl
theorem jYQ {l:Lb} (h:0 < l.length) (c:UInt8):(((((l[0]?).getD 0).toNat:Nat):Int)==(c.toNat:Int))=decide (l.head?=some c):=by
 cases l with
 | nil=>simp at h
 | cons a l=>
  rw [Bool.eq_iff_iff]
  simp only [List.getElem?_cons_zero,Option.getD_some,beq_iff_eq,List.head?_cons,Option.some.injEq,decide_eq_true_eq]
  constructor
  ·intro e; exact UInt8.toNat_inj.1 (by omega)
  ·intro e; rw [e]
theorem jX0 (w:Lb):(unsg w).length < w.length↔zJg w=true:=by
 constructor
 ·intro h
  by_cases hn:zJg w=true
  ·exact hn
  ·rw [zGc (by simpa using hn)] at h; omega
 ·intro h
  have:=congrArg List.length (zH3 h)
  rw [List.length_cons] at this
  omega
theorem zG3 {w:Lb} {lo hi:Int} (h:zYb w=false):0=(numR w lo hi).1∧false=(numR w lo hi).2:=by simp [numR,okN,h]
theorem jQ9 {w:Lb} {lo hi:Int} (h:zYb w=true):numR w lo hi=(numV w,decide (lo≤numV w) && decide (numV w≤hi)):=by simp [numR,okN,h]
theorem jJc {w:Lb} {k:Nat} (h:k < (unsg w).length) (hd:zXP (unsg w)[k]=false):zYb w=false:=by
 by_cases e:zYb w=true
 ·obtain ⟨_,_,_,_,h5⟩:=zKg.1 e
  have:=List.all_eq_true.1 h5 _ (List.getElem_mem h)
  rw [hd] at this; cases this
 ·simpa using e
theorem zHn (s:ByteArray) (w:Lb):(s.toList==(toS w).toList)=decide (ofS s=w):=by
 have:=zXj (ofS s) w
 rwa [zY7] at this
theorem zZA {ws:List Lb} {lo hi:Int} (h:ws.all (okN lo hi)=true):zZB ws lo hi=(ws.map numV,true):=by unfold zZB; rw [if_pos h]
theorem zZM {ws:List Lb} {lo hi:Int} (h:ws.all (okN lo hi)=false):zZB ws lo hi=([],false):=by unfold zZB; rw [if_neg (by rw [h]; decide)]
theorem zKw {lo hi:Int} {w:Lb} (h:okN lo hi w=true):lo≤numV w∧numV w≤hi:=by
 unfold okN at h
 simp only [Bool.and_eq_true,decide_eq_true_eq] at h
 exact ⟨h.1.2,h.2⟩
theorem zWp {f:Int→ByteArray} {w:Lb} {k:Nat} (h:k < 12) (hk:ofS (f ((k:Int)+1))=w) (hb:∀ j:Nat,j < k→ofS (f ((j:Int)+1))≠w):nmR f w=((k:Int)+1,true):=by
 have:(List.range 12).find? (fun (j:Nat)=>decide (ofS (f ((j:Int)+1))=w))=some k:=by
  rw [List.find?_range_eq_some]
  exact ⟨decide_eq_true hk,List.mem_range.2 h,fun j hj=>by simpa using hb j hj⟩
 unfold nmR
 rw [this]
theorem zWq {f:Int→ByteArray} {w:Lb} (hb:∀ j:Nat,j < 12→ofS (f ((j:Int)+1))≠w):nmR f w=(0,false):=by
 have:(List.range 12).find? (fun (j:Nat)=>decide (ofS (f ((j:Int)+1))=w))=none:=by
  rw [List.find?_range_eq_none]
  intro j hj
  simpa using hb j hj
 unfold nmR
 rw [this]
theorem zWU {a b c d e:Lb} (h:[a,b,c,d,e].all (okN 0 65535)=true):pixW [a,b,c,d,e]=(⟨numV a,numV b,numV c,numV d,numV e⟩,true):=by unfold pixW; rw [if_pos h]; rfl
theorem zWn {ws:List Lb} (h:¬(ws.all (okN 0 65535)=true∧ws.length=5)):pixW ws=(.zero,false):=by
 unfold pixW
 split
 ·rename_i hh
  match ws,h with
  | [],_ | [_],_ | [_,_],_ | [_,_,_],_ | [_,_,_,_],_=>rfl
  | [_,_,_,_,_],h=>exact absurd ⟨hh,rfl⟩ h
  | _::_::_::_::_::_::_,_=>rfl
 ·rfl
end
section
attribute [local irreducible] Ans AnsO AnsG AnsN AnsI
open Go.Lib
theorem jVp {l:List Int} {k:Nat} (h:k < l.length):(is l)[k]?=some (.int .i64 l[k])∧nAt (is l) k=l[k]:=by
 have:(is l)[k]?=some (.int .i64 l[k]):=by simp [is,List.getElem?_eq_getElem h]
 exact ⟨this,by simp [nAt,this]⟩
theorem jWu:∀ {l:List Int},DV.wfs (is l)→∀ n∈l,-9223372036854775808≤n∧n≤9223372036854775807:=by
 intro l
 have h1:IntKind.min .i64 = -9223372036854775808:=by decide
 have h2:IntKind.max .i64=9223372036854775807:=by decide
 induction l with
 | nil=>intro _ n h; cases h
 | cons a l ih=>
  intro h n hn
  simp only [is,List.map_cons,DV.wfs,DV.wf] at h
  rcases List.mem_cons.1 hn with rfl | hn
  ·omega
  ·exact ih h.2 n hn
def gZ4 (xs:List RV):Option RV:=match xs with | [.d (.int _ n)]=>some (RV.d (DV.str (toS (itoa n)))) | _=>none
def jVC:Gam where
 pure:=fun f xs=>
  if f=65 then gZ4 xs else
  none
 modes:=fun f=>
  none
 proc:=fun f xs bs=>
  none
 iter:=fun f cs=>
  none
theorem zUE (n:Int):Ans prog 65 [rJ (n)] (RV.d (DV.str (toS (itoa n)))):=
 zQj (Γ:=jVC) (Ann.seq Ann.leaf (Ann.seq Ann.leaf (Ann.seq Ann.leaf (Ann.seq Ann.leaf (Ann.seq (Ann.loop ⟨Nat × Lb,fun z:Nat × Lb=>z.1 < 18446744073709551616∧z.2.length≤20∧decDigits z.1++z.2=decDigits n.natAbs,fun z:Nat × Lb=>⟨[(3,AV.one (Cl.d (DV.int .u64 (z.1:Int)))),(4,AV.one (Cl.d (DV.str (toS (if n < 0 then [45] else []))))),(5,AV.one (Cl.d (DV.str (toS z.2))))],[]⟩,fun z:Nat × Lb=>z.1⟩ fun z=>Ann.leaf) Ann.leaf))))) zQs Tryz.func65 rfl (nL rfl) fun hwf=>by
  refine Eq.mpr (by kernel_rfl:_=(let b:=((10:Int)≠0); let a:=(toS (if n < 0 then [45] else [])); let j:=(DV.str a=DV.str a); let c:=(⟨#[48,49,50,51,52,53,54,55,56,57]⟩:ByteArray); let d:=(c.size:Int); let e:=fun (z:Nat × Lb)=>(z.1 < 18446744073709551616∧z.2.length≤20∧decDigits z.1++z.2=decDigits n.natAbs); let k:=fun (z:Nat × Lb)=>(DV.str (⟨#[]⟩:ByteArray)=DV.str (toS z.2)); tU7 (((decide (n < 0))=true→tU8 ((∃ z:Nat × Lb,(e z)∧(((DV.int .u64 (IntKind.wrap .u64 ((IntKind.wrap .u64 (wK (0 - (wK (n+1)))))+1))=DV.int .u64 (z.1:Int))∧(DV.str (⟨#[45]⟩:ByteArray)=DV.str a)∧(k z)∧True)∧True))∧∀ z:Nat × Lb,let f:=(Int.tmod (z.1:Int) (10:Int)); let l:=(ByteArray.extract c f.toNat (IntKind.wrap .u64 (f+1)).toNat); let h:=(ByteArray.extract c (z.1:Int).toNat (IntKind.wrap .u64 ((z.1:Int)+1)).toNat); (e z)→tU2 (((decide ((z.1:Int) > 9))=true→True∧b∧True∧b∧True∧(0≤Int.tmod (z.1:Int) (10:Int)∧Int.tmod (z.1:Int) (10:Int)≤IntKind.wrap .u64 (f+1)∧IntKind.wrap .u64 (f+1)≤d)∧True∧(l.size+(toS z.2).size≤maxLen)∧tU2 (b∧True∧∃ z':Nat × Lb,(z'.1 < 18446744073709551616∧z'.2.length≤20∧decDigits z'.1++z'.2=decDigits n.natAbs)∧(z'.1 < z.1)∧(((DV.int .u64 (IntKind.wrap .u64 (Int.tdiv (z.1:Int) (10:Int)))=DV.int .u64 (z'.1:Int))∧j∧(DV.str (l++(toS z.2))=DV.str (toS z'.2))∧True)∧True)))∧((decide ((z.1:Int) > 9))=false→tU4 ((0≤(z.1:Int)∧(z.1:Int)≤IntKind.wrap .u64 ((z.1:Int)+1)∧IntKind.wrap .u64 ((z.1:Int)+1)≤d)∧(a.size+h.size≤maxLen)∧True∧((a++h).size+(toS z.2).size≤maxLen)∧True∧RV.d (DV.str ((a++h)++(toS z.2)))=RV.d (DV.str (toS (itoa n))))))))∧((decide (n < 0))=false→True∧((∃ z:Nat × Lb,(e z)∧(((DV.int .u64 (IntKind.wrap .u64 n)=DV.int .u64 (z.1:Int))∧(DV.str (⟨#[]⟩:ByteArray)=DV.str a)∧(k z)∧True)∧True))∧∀ z:Nat × Lb,let g:=(Int.tmod (z.1:Int) (10:Int)); let m:=(ByteArray.extract c g.toNat (IntKind.wrap .u64 (g+1)).toNat); let i:=(ByteArray.extract c (z.1:Int).toNat (IntKind.wrap .u64 ((z.1:Int)+1)).toNat); (e z)→tU2 (((decide ((z.1:Int) > 9))=true→True∧b∧True∧b∧True∧(0≤Int.tmod (z.1:Int) (10:Int)∧Int.tmod (z.1:Int) (10:Int)≤IntKind.wrap .u64 (g+1)∧IntKind.wrap .u64 (g+1)≤d)∧True∧(m.size+(toS z.2).size≤maxLen)∧tU2 (b∧True∧∃ z':Nat × Lb,(z'.1 < 18446744073709551616∧z'.2.length≤20∧decDigits z'.1++z'.2=decDigits n.natAbs)∧(z'.1 < z.1)∧(((DV.int .u64 (IntKind.wrap .u64 (Int.tdiv (z.1:Int) (10:Int)))=DV.int .u64 (z'.1:Int))∧j∧(DV.str (m++(toS z.2))=DV.str (toS z'.2))∧True)∧True)))∧((decide ((z.1:Int) > 9))=false→tU4 ((0≤(z.1:Int)∧(z.1:Int)≤IntKind.wrap .u64 ((z.1:Int)+1)∧IntKind.wrap .u64 ((z.1:Int)+1)≤d)∧(a.size+i.size≤maxLen)∧True∧((a++i).size+(toS z.2).size≤maxLen)∧True∧RV.d (DV.str ((a++i)++(toS z.2)))=RV.d (DV.str (toS (itoa n))))))))))) ?_
  delta wK
  simp only [sS]
  have hn : -9223372036854775808≤n∧n≤9223372036854775807:=by
   simp only [RV.wfs,RV.wf,DV.wf] at hwf
   have h1:IntKind.min .i64 = -9223372036854775808:=by decide
   have h2:IntKind.max .i64=9223372036854775807:=by decide
   omega
  clear hwf
  have hm:∀ u:Nat,((u:Int).tmod 10)=((u % 10:Nat):Int):=fun u=>by rw [Int.tmod_eq_emod_of_nonneg (by omega)]; omega
  have hq:∀ u:Nat,((u:Int).tdiv 10)=((u / 10:Nat):Int):=fun u=>by rw [Int.tdiv_eq_ediv_of_nonneg (by omega)]; omega
  have hw:∀ u:Nat,u < 18446744073709551615→IntKind.wrap .u64 ((u:Int)+1)=((u+1:Nat):Int):=fun u h=>by rw [wrap_u64 _ (by omega) (by omega)]; omega
  have hw0:∀ u:Nat,u < 18446744073709551616→IntKind.wrap .u64 (u:Int)=(u:Int):=fun u h=>wrap_u64 _ (by omega) (by omega)
  have hS:(⟨#[48,49,50,51,52,53,54,55,56,57]⟩:ByteArray)=toS [48,49,50,51,52,53,54,55,56,57]:=rfl
  have hsz:(toS [48,49,50,51,52,53,54,55,56,57]).size=10:=rfl
  have hM:∀ k:Nat,k≤1000→k≤maxLen:=fun k h=>by unfold maxLen; omega
  have hneg:n < 0→itoa n=[45]++decDigits n.natAbs:=fun h=>by unfold itoa; rw [if_pos h]; rfl
  have hpos:¬ n < 0→itoa n=[]++decDigits n.natAbs:=fun h=>by unfold itoa; rw [if_neg h,show n.toNat=n.natAbs by omega]; rfl
  have itr:itoa n=(if n < 0 then [45] else [])++decDigits n.natAbs:=by
   by_cases h:n < 0
   ·rw [if_pos h]; exact hneg h
   ·rw [if_neg h]; exact hpos h
  have hsgn:(if n < 0 then ([45]:Lb) else []).length≤1:=by split <;> simp
  have loop:∀ z:Nat × Lb,z.1 < 18446744073709551616∧z.2.length≤20∧decDigits z.1++z.2=decDigits n.natAbs→9 < z.1→(z.1 / 10 < 18446744073709551616∧(UInt8.ofNat (48+z.1 % 10)::z.2).length≤20∧decDigits (z.1 / 10)++(UInt8.ofNat (48+z.1 % 10)::z.2)=decDigits n.natAbs):=fun z hz h=>by
   obtain ⟨z1,z2,z3⟩:=hz
   have e:decDigits (z.1 / 10)++(UInt8.ofNat (48+z.1 % 10)::z.2)=decDigits n.natAbs:=by
    rw [← z3]
    conv=>rhs; rw [decDigits,dif_neg (by omega)]
    simp
   refine ⟨by omega,?_,e⟩
   have h1:=jVL n.natAbs (by omega)
   rw [← e,List.length_append] at h1
   omega
  have last:∀ z:Nat × Lb,decDigits z.1++z.2=decDigits n.natAbs→z.1≤9→(if n < 0 then ([45]:Lb) else [])++[UInt8.ofNat (48+z.1)]++z.2=itoa n:=fun z hz h=>by
   rw [itr,← hz,decDigits,dif_pos (by omega),List.append_assoc]
  simp only [hS,hsz,DV.str.injEq]
  refine ⟨fun hlt=>⟨⟨(n.natAbs,[]),⟨by simp only; omega,by simp,by simp⟩,?_,by rw [if_pos hlt]; rfl,rfl⟩,fun z hz=>⟨fun h1=>?_,fun h1=>?_⟩⟩,fun hge=>⟨⟨(n.natAbs,[]),⟨by simp only; omega,by simp,by simp⟩,?_,by rw [if_neg hge]; rfl,rfl⟩,fun z hz=>⟨fun h1=>?_,fun h1=>?_⟩⟩⟩
  ·rw [IntWalk.i64_in (n+1) ⟨by omega,by omega⟩,IntWalk.i64_in (0 - (n+1)) ⟨by omega,by omega⟩,wrap_u64 (0 - (n+1)) (by omega) (by omega),wrap_u64 (0 - (n+1)+1) (by omega) (by omega)]
   simp only
   omega
  ·have h9:9 < z.1:=by omega
   have hl:=loop z hz h9
   simp only [hm,hq,Int.toNat_natCast]
   rw [hw _ (by omega),Int.toNat_natCast,zHi (by omega),zQF,zQF,zYw]
   exact ⟨by decide,by decide,⟨by omega,by omega,by omega⟩,hM _ (by simp only [List.length_cons,List.length_nil]; omega),by decide,(z.1 / 10,UInt8.ofNat (48+z.1 % 10)::z.2),hl,by simp only; omega,hw0 _ (by omega),rfl⟩
  ·have h9:z.1≤9:=by omega
   rw [hw _ (by omega),Int.toNat_natCast,zHi (by omega),zYw,zYw,zQF,zQF,zQF,zQF]
   exact ⟨⟨by omega,by omega,by omega⟩,hM _ (by simp only [List.length_cons,List.length_nil]; omega),hM _ (by simp only [List.length_append,List.length_cons,List.length_nil]; omega),zYa (last z hz.2.2 h9)⟩
  ·rw [wrap_u64 _ (by omega) (by omega)]
   simp only
   omega
  ·have h9:9 < z.1:=by omega
   have hl:=loop z hz h9
   simp only [hm,hq,Int.toNat_natCast]
   rw [hw _ (by omega),Int.toNat_natCast,zHi (by omega),zQF,zQF,zYw]
   exact ⟨by decide,by decide,⟨by omega,by omega,by omega⟩,hM _ (by simp only [List.length_cons,List.length_nil]; omega),by decide,(z.1 / 10,UInt8.ofNat (48+z.1 % 10)::z.2),hl,by simp only; omega,hw0 _ (by omega),rfl⟩
  ·have h9:z.1≤9:=by omega
   rw [hw _ (by omega),Int.toNat_natCast,zHi (by omega),zYw,zYw,zQF,zQF,zQF,zQF]
   exact ⟨⟨by omega,by omega,by omega⟩,hM _ (by simp only [List.length_cons,List.length_nil]; omega),hM _ (by simp only [List.length_append,List.length_cons,List.length_nil]; omega),zYa (last z hz.2.2 h9)⟩
theorem jQA (w:Lb) (l:List Int) (hw:w.length≤1000) (hl:l.length≤68719476736):Ans prog 31 [RV.d (DV.str (toS w)),RV.d (dS l.length (is l))] (RV.d (DV.str (toS (zQH (ofS (toS w)) (ints (is l)))))):=
 zQj (Γ:=jVC) (Ann.seq Ann.leaf (Ann.seq (Ann.seq Ann.leaf (Ann.loop ⟨Nat,fun k=>k≤l.length,fun k=>⟨[(0,AV.one (Cl.d (DV.str (toS (zQH w (l.take k)))))),(1,AV.one (Cl.d (dS l.length (is l)))),(5,aJ (k:Int))],[]⟩,fun k=>l.length - k⟩ fun k=>Ann.leaf)) Ann.leaf)) zQs Tryz.func31 rfl (nL rfl) fun hwf=>by
  refine Eq.mpr (by kernel_rfl:_=(let c:=(dS l.length (is l)=dS l.length (is l)); let d:=fun (k:Nat)=>(0≤(k:Int)∧(k:Int) < (l.length:Int)∧(k:Int).toNat*1 < (is l).length); let e:=fun (k:Nat)=>(((is l)[(k:Int).toNat*1]?=some (dJ (nAt (is l) ((k:Int).toNat*1))))∧True); let f:=fun (k:Nat)=>fun (k':Nat)=>(l.length - k' < l.length - k); let g:=fun (k:Nat)=>fun (k':Nat)=>(dJ (wK ((k:Int)+1))=dJ (k':Int)); tU2 ((∃ k:Nat,(k≤l.length)∧(((DV.str (toS w)=DV.str (toS (zQH w (l.take k))))∧c∧(dJ 0=dJ (k:Int))∧True)∧True))∧∀ k:Nat,let h:=(nAt (is l) ((k:Int).toNat*1)); let i:=(decide ((k:Int) < (l.length:Int))); let a:=(toS (zQH w (l.take k))); let b:=(toS (itoa h)); let j:=(Ans prog 65 [rJ h] (RV.d (DV.str b))); (k≤l.length)→tU4 ((i=true→tU2 (((!(a.toList==(⟨#[]⟩:ByteArray).toList))=true→True∧(a.size+(⟨#[32]⟩:ByteArray).size≤maxLen)∧tU4 ((d k)∧(e k)∧j∧((a++(⟨#[32]⟩:ByteArray)).size+b.size≤maxLen)∧tU4 (∃ k':Nat,(k'≤l.length)∧(f k k')∧(((DV.str ((a++(⟨#[32]⟩:ByteArray))++b)=DV.str (toS (zQH w (l.take k'))))∧c∧(g k k')∧True)∧True))))∧((!(a.toList==(⟨#[]⟩:ByteArray).toList))=false→tU3 ((d k)∧(e k)∧j∧(a.size+b.size≤maxLen)∧tU4 (∃ k':Nat,(k'≤l.length)∧(f k k')∧(((DV.str (a++b)=DV.str (toS (zQH w (l.take k'))))∧c∧(g k k')∧True)∧True))))))∧(i=false→tU2 (RV.d (DV.str a)=RV.d (DV.str (toS (zQH (ofS (toS w)) (ints (is l))))))))))) ?_
  delta dJ wK dS rJ
  simp only [sS]
  have hI:∀ k (h:k < l.length),-9223372036854775808≤l[k]∧l[k]≤9223372036854775807:=fun k h=>by
   simp only [RV.wfs,RV.wf,DV.wf] at hwf
   exact jWu hwf.2.1.2 _ (List.getElem_mem h)
  clear hwf
  have hM:∀ k:Nat,k≤10000000000000→k≤maxLen:=fun k h=>by unfold maxLen; omega
  have hlen:∀ k,k≤l.length→(zQH w (l.take k)).length≤1000+22*k:=fun k=>by
   induction k with
   | zero=>intro _; simp only [List.take_zero,zQH,List.foldl_nil]; omega
   | succ k ih=>
    intro h
    have:=ih (by omega)
    have h2:=zVh _ (hI k (by omega))
    rw [zGj (by omega)]
    split <;> simp only [List.length_append,List.length_nil,List.length_cons] <;> omega
  have e0:(⟨#[]⟩:ByteArray)=toS []:=rfl
  have e32:(⟨#[32]⟩:ByteArray)=toS [32]:=rfl
  simp only [zQN,zQO,DV.str.injEq,e0,e32,zXj]
  refine ⟨⟨0,Nat.zero_le _,rfl,rfl⟩,fun k hk=>⟨fun hlt=>?_,fun hge=>?_⟩⟩
  ·have hkl:k < l.length:=by omega
   obtain ⟨q1,q2⟩:=jVp hkl
   have w1:IntKind.wrap .i64 ((k:Int)+1)=((k+1:Nat):Int):=by rw [IntWalk.i64_in _ ⟨by omega,by omega⟩]; omega
   have ht:=zGj (w:=w) hkl
   have h1:=hlen k hk
   have h2:=zVh _ (hI k hkl)
   have aD:=zUE l[k]
   simp only [Nat.mul_one,q2,w1,zYw,zQF]
   refine ⟨fun h=>⟨hM _ (by simp only [List.length_cons,List.length_nil]; omega),⟨by omega,by omega,by rw [zZc]; omega⟩,q1,aD,hM _ (by simp only [List.length_append,List.length_cons,List.length_nil]; omega),k+1,by omega,by omega,?_,rfl⟩,fun h=>⟨⟨by omega,by omega,by rw [zZc]; omega⟩,q1,aD,hM _ (by omega),k+1,by omega,by omega,?_,rfl⟩⟩
   ·rw [ht,if_neg (by simpa using h)]
   ·have h:zQH w (l.take k)=[]:=by simpa using h
    rw [ht,if_pos h,h]
  ·have hkl:k=l.length:=by omega
   subst hkl
   rw [List.take_length]
theorem zHs (w:Lb) (hw:w.length≤1099511627776):Ans prog 81 [RV.d (DV.str (toS w))] (RV.d (dS ((zQo (ofS (toS w))).length) (strs (zQo (ofS (toS w)))))):=
 zQj (Γ:=jVC) (Ann.seq Ann.leaf (Ann.seq Ann.leaf (Ann.seq Ann.leaf (Ann.seq (Ann.seq Ann.leaf (Ann.loop ⟨Nat × Nat × List Lb,fun z:Nat × Nat × List Lb=>z.1≤w.length+1∧z.2.1≤z.1∧z.2.2.length≤z.1∧(z.1≤w.length→z.2.2++zKn ((w.drop z.2.1).take (z.1 - z.2.1)) (zQo (w.drop z.1))=zQo w)∧(z.1=w.length+1→z.2.2=zQo w),fun z:Nat × Nat × List Lb=>⟨[(0,AV.one (Cl.d (DV.str (toS w)))),(3,AV.one (Cl.ref 9003 z.2.2.length)),(4,aJ (z.2.1:Int)),(5,aJ (z.1:Int))],[(9003,Bx.row 9 1 (strs z.2.2))]⟩,fun z:Nat × Nat × List Lb=>w.length+1 - z.1⟩ fun z=>Ann.leaf)) Ann.leaf)))) zQs Tryz.func81 rfl (nL rfl) fun hwf=>by
  refine Eq.mpr (by kernel_rfl:_=(let a:=(((toS w).size:Nat):Int); let e:=fun (z:Nat × Nat × List Lb)=>(z.1≤w.length+1∧z.2.1≤z.1∧z.2.2.length≤z.1∧(z.1≤w.length→z.2.2++zKn ((w.drop z.2.1).take (z.1 - z.2.1)) (zQo (w.drop z.1))=zQo w)∧(z.1=w.length+1→z.2.2=zQo w)); let b:=(DV.str (toS w)=DV.str (toS w)); let f:=fun (z:Nat × Nat × List Lb)=>(0≤(z.2.1:Int)∧(z.2.1:Int)≤(z.1:Int)∧(z.1:Int)≤a); let c:=fun (z':Nat × Nat × List Lb)=>(z'.1≤w.length+1∧z'.2.1≤z'.1∧z'.2.2.length≤z'.1∧(z'.1≤w.length→z'.2.2++zKn ((w.drop z'.2.1).take (z'.1 - z'.2.1)) (zQo (w.drop z'.1))=zQo w)∧(z'.1=w.length+1→z'.2.2=zQo w)); let d:=fun (z:Nat × Nat × List Lb)=>fun (z':Nat × Nat × List Lb)=>(w.length+1 - z'.1 < w.length+1 - z.1); let g:=fun (z:Nat × Nat × List Lb)=>fun (z':Nat × Nat × List Lb)=>(dJ (wK ((z.1:Int)+1))=dJ (z'.1:Int)); let h:=fun (z:Nat × Nat × List Lb)=>fun (z':Nat × Nat × List Lb)=>((b∧(z.2.2.length+1=z'.2.2.length)∧(dJ (wK ((z.1:Int)+1))=dJ (z'.2.1:Int))∧(g z z')∧True)∧(((strs z.2.2)++([DV.str (ByteArray.extract (toS w) (z.2.1:Int).toNat (z.1:Int).toNat)])=strs z'.2.2)∧True)); tU4 ((∃ z:Nat × Nat × List Lb,(e z)∧((b∧(0=z.2.2.length)∧(dJ 0=dJ (z.2.1:Int))∧(dJ 0=dJ (z.1:Int))∧True)∧(([]=strs z.2.2)∧True)))∧∀ z:Nat × Nat × List Lb,let i:=(decide ((z.1:Int)≤a)); let j:=(((((toS w).data.toList[(z.1:Int).toNat]?.getD 0).toNat:Nat):Int)==32); let k:=(zZl 1 16 z.2.2.length 1 (strs z.2.2) ([DV.str (ByteArray.extract (toS w) (z.2.1:Int).toNat (z.1:Int).toNat)])); (e z)→tU4 ((i=true→tU5 ((((z.1:Int)==a)=false→tU2 ((0≤(z.1:Int)∧(z.1:Int) < a)∧tU2 ((j=true→tU4 ((f z)∧True∧k∧tU7 (∃ z':Nat × Nat × List Lb,(c z')∧(d z z')∧(h z z'))))∧(j=false→tU3 (∃ z':Nat × Nat × List Lb,(c z')∧(d z z')∧((b∧(z.2.2.length=z'.2.2.length)∧(dJ (z.2.1:Int)=dJ (z'.2.1:Int))∧(g z z')∧True)∧((strs z.2.2=strs z'.2.2)∧True)))))))∧(((z.1:Int)==a)=(!false)→tU5 ((f z)∧True∧k∧tU7 (∃ z':Nat × Nat × List Lb,(c z')∧(d z z')∧(h z z'))))))∧(i=false→tU2 (RV.d (dS z.2.2.length (strs z.2.2))=RV.d (dS (zQo (ofS (toS w))).length (strs (zQo (ofS (toS w))))))))))) ?_
  delta dJ wK dS
  simp only [sS]
  clear hwf
  have hM:∀ k:Nat,k≤1099511627800→k≤maxLen:=fun k h=>by unfold maxLen; omega
  simp only [zQN,DV.str.injEq,zQF]
  have cut:∀ a b:Nat,(toS w).extract a b=toS ((w.drop a).take (b - a)):=fun a b=>zKO w a b
  have w1:∀ k:Nat,k≤1099511627780→IntKind.wrap .i64 ((k:Int)+1)=((k+1:Nat):Int):=fun k h=>by rw [IntWalk.i64_in _ ⟨by omega,by omega⟩]; omega
  refine ⟨⟨(0,0,[]),⟨Nat.zero_le _,Nat.le_refl _,Nat.le_refl _,fun _=>?_,fun h=>absurd h (by simp)⟩,⟨rfl,rfl,rfl⟩,rfl⟩,fun z hz=>⟨fun hle=>⟨fun h1=>?_,fun h1=>?_⟩,fun hgt=>?_⟩⟩
  ·simp only [List.drop_zero,Nat.sub_self,List.take_zero,List.nil_append]
   exact jQs _ (zYV w)
  ·obtain ⟨i,fr,out⟩:=z
   obtain ⟨z1,z2,z3,z4,z5⟩:=hz
   simp only at *
   have hi:i < w.length:=by
    have h1:¬ (i:Int)=(w.length:Int):=by simpa using h1
    omega
   have hd:=z4 (by omega)
   rw [List.drop_eq_getElem_cons hi,zQo] at hd
   have hc:(((toS w).data.toList[i]?.getD 0).toNat:Int)=((w[i].toNat:Nat):Int):=jVO hi
   have c32:(((w[i].toNat:Nat):Int)==32)=decide (w[i]=32):=by
    rw [Bool.eq_iff_iff]
    simp only [beq_iff_eq,decide_eq_true_eq]
    constructor
    ·intro h; exact UInt8.toNat_inj.1 (by have:(32:UInt8).toNat=32:=rfl; omega)
    ·intro h; rw [h]; rfl
   simp only [hc,c32,w1 i (by omega),cut,Int.toNat_natCast]
   refine ⟨⟨by omega,by omega⟩,fun h2=>?_,fun h2=>?_⟩
   ·have h2:w[i]=32:=by simpa using h2
    rw [if_pos h2,jKd] at hd
    refine ⟨⟨by omega,by omega,by omega⟩,⟨by rw [zZe]; omega,rfl,hM _ (by omega),by omega⟩,(i+1,i+1,out++[(w.drop fr).take (i - fr)]),⟨by simp only; omega,Nat.le_refl _,by simp only [List.length_append,List.length_cons,List.length_nil]; omega,fun h=>?_,fun h=>absurd h (by simp only; omega)⟩,by simp only; omega,⟨by simp,rfl,rfl⟩,by rw [zWk]; rfl⟩
    simp only [Nat.sub_self,List.take_zero]
    rw [jQs _ (zYV _),List.append_assoc]
    exact hd
   ·have h2:¬ w[i]=32:=by simpa using h2
    rw [if_neg h2,jJb _ _ _ (zYV _)] at hd
    refine ⟨(i+1,fr,out),⟨by simp only; omega,by simp only; omega,by simp only; omega,fun h=>?_,fun h=>absurd h (by simp only; omega)⟩,by simp only; omega,⟨rfl,rfl,rfl⟩,rfl⟩
    simp only
    have e:(w.drop fr).take (i+1 - fr)=(w.drop fr).take (i - fr)++[w[i]]:=by
     rw [show i+1 - fr=(i - fr)+1 by omega,List.take_add_one,List.getElem?_drop,show fr+(i - fr)=i by omega,List.getElem?_eq_getElem hi]
     rfl
    rw [e]; exact hd
  ·obtain ⟨i,fr,out⟩:=z
   obtain ⟨z1,z2,z3,z4,z5⟩:=hz
   simp only at *
   have hi:i=w.length:=by
    have h1:(i:Int)=(w.length:Int):=by simpa using h1
    omega
   subst hi
   have hd:=z4 (Nat.le_refl _)
   rw [List.drop_length,zQo,zKn,List.append_nil] at hd
   simp only [w1 w.length (by omega),cut,Int.toNat_natCast]
   refine ⟨⟨by omega,by omega,by omega⟩,⟨by rw [zZe]; omega,rfl,hM _ (by omega),by omega⟩,(w.length+1,w.length+1,out++[(w.drop fr).take (w.length - fr)]),⟨Nat.le_refl _,Nat.le_refl _,by simp only [List.length_append,List.length_cons,List.length_nil]; omega,fun h=>absurd h (by simp only; omega),fun _=>hd⟩,by simp only; omega,⟨by simp,rfl,rfl⟩,by rw [zWk]; rfl⟩
  ·obtain ⟨i,fr,out⟩:=z
   obtain ⟨z1,z2,z3,z4,z5⟩:=hz
   simp only at *
   rw [z5 (by omega)]
   exact ⟨rfl,rfl⟩
def gZ5 (xs:List RV):Option RV:=match xs with | [.d (.str s),.d (.int _ lo),.d (.int _ hi)]=>some (RV.tup [rJ (numR (ofS s) lo hi).1,RV.d (dQ (numR (ofS s) lo hi).2)]) | _=>none
def gZ6 (xs:List RV):Option RV:=match xs with | [.d (.sl wn wxs),.d (.int _ lo),.d (.int _ hi)]=>let a:=(zZB (zQb wxs) lo hi); some (RV.tup [RV.d (dS a.1.length (is a.1)),RV.d (dQ a.2)]) | _=>none
def jZj:Gam where
 pure:=fun f xs=>
  if f=118 then gZ5 xs else
  if f=117 then gZ6 xs else
  if f=68 then gZ1 xs else
  if f=69 then gZ3 xs else
  none
 modes:=fun f=>
  none
 proc:=fun f xs bs=>
  none
 iter:=fun f cs=>
  none
theorem zX4 (w:Lb) (lo hi:Int):Ans prog 118 [RV.d (DV.str (toS w)),rJ (lo),rJ (hi)] (RV.tup [rJ (((numR (ofS (toS w)) lo hi).1)),RV.d (dQ ((numR (ofS (toS w)) lo hi).2))]):=
 zQj (Γ:=jZj) (let a:=(0,AV.one (Cl.d (DV.str (toS w)))); let b:=(1,aJ lo); let c:=(2,aJ hi); let d:=(8,AV.one (Cl.d (DV.str (toS (unsg w))))); (Ann.seq Ann.leaf (Ann.seq Ann.leaf (Ann.cut ⟨Nat,fun u=>u=0,fun u=>⟨[a,b,c,d],[]⟩,fun u=>0⟩ Ann.leaf fun u=>(Ann.cut ⟨Nat,fun v=>v=0∧unsg w≠[]∧(unsg w).length≤10∧¬(1 < (unsg w).length∧(unsg w).head?=some 48)∧w≠[45,48],fun v=>⟨[a,b,c,d],[]⟩,fun v=>0⟩ Ann.leaf fun v=>(Ann.seq Ann.leaf (Ann.seq (Ann.seq Ann.leaf (Ann.loop ⟨Nat,fun k=>k≤(unsg w).length∧((unsg w).take k).all zXP=true,fun k=>⟨[a,b,c,d,(9,aJ ((dval ((unsg w).take k):Nat):Int)),(10,aJ (k:Int))],[]⟩,fun k=>(unsg w).length - k⟩ fun k=>Ann.leaf)) Ann.leaf))))))) zQs Tryz.func118 rfl (nL rfl) fun hwf=>by
  refine Eq.mpr (by kernel_rfl:_=(let q:=(((((toS w).data.toList[(0:Int).toNat]?.getD 0).toNat:Nat):Int)==45); let c:=(toS (unsg w)); let r:=((((c.data.toList[(0:Int).toNat]?.getD 0).toNat:Nat):Int)==48); let b:=(((toS w).size:Nat):Int); let a:=((c.size:Nat):Int); let s:=(decide (a < b)); let m:=((toS w).toList==(⟨#[45,48]⟩:ByteArray).toList); let f:=(DV.str (toS w)=DV.str (toS w)); let g:=(dJ lo=dJ lo); let h:=(dJ hi=dJ hi); let t:=((f∧g∧h∧(DV.str (toS w)=DV.str c)∧True)∧True); let A:=[rJ 0,RV.d (dQ false)]; let i:=[rJ (numR (ofS (toS w)) lo hi).1,RV.d (dQ (numR (ofS (toS w)) lo hi).2)]; let d:=(RV.tup A=RV.tup i); let n:=fun (v:Nat)=>(v=0∧unsg w≠[]∧(unsg w).length≤10∧¬(1 < (unsg w).length∧(unsg w).head?=some 48)∧w≠[45,48]); let o:=(DV.str c=DV.str c); let x:=((f∧g∧h∧o∧True)∧True); let y:=fun (k:Nat)=>(k≤(unsg w).length∧((unsg w).take k).all zXP=true); let p:=fun (k:Nat)=>(0≤(k:Int)∧(k:Int) < a); tU4 ((tU4 (((decide (b > 0))=true→True∧(0≤(0:Int)∧(0:Int) < b)∧tU2 ((q=true→True∧(0≤(1:Int)∧(1:Int)≤b∧b≤b)∧True∧∃ u:Nat,(u=0)∧((f∧g∧h∧(DV.str (ByteArray.extract (toS w) (1:Int).toNat b.toNat)=DV.str c)∧True)∧True))∧(q=false→∃ u:Nat,(u=0)∧t)))∧((decide (b > 0))=(!true)→True∧∃ u:Nat,(u=0)∧t)))∧∀ u:Nat,(u=0)→(tU4 (((decide (a < 1))=false→tU5 (((decide (a > 10))=false→tU4 (((decide (a > 1))=true→True∧(0≤(0:Int)∧(0:Int) < a)∧tU4 ((r=false→tU3 ((m=true→tU2 d)∧(m=false→∃ v:Nat,(n v)∧x)))∧(r=(!false)→tU3 d)))∧((decide (a > 1))=(!true)→tU6 ((m=true→tU2 d)∧(m=false→∃ v:Nat,(n v)∧x)))))∧((decide (a > 10))=(!false)→tU5 d)))∧((decide (a < 1))=(!false)→tU7 d)))∧∀ v:Nat,(n v)→tU2 ((∃ k:Nat,(y k)∧((f∧g∧h∧o∧(dJ 0=dJ ((dval ((unsg w).take k):Nat):Int))∧(dJ 0=dJ (k:Int))∧True)∧True))∧∀ k:Nat,let z:=(decide ((k:Int) < a)); let j:=(((c.data.toList[(k:Int).toNat]?.getD 0).toNat:Nat):Int); let e:=((dval ((unsg w).take k):Nat):Int); let l:=(wK (0 - e)); (y k)→tU4 ((z=true→tU2 ((p k)∧tU2 (((decide (j < 48))=false→tU2 ((p k)∧tU2 (((decide (j > 57))=true→tU2 d)∧((decide (j > 57))=false→tU4 ((p k)∧tU7 (∃ k':Nat,(k'≤(unsg w).length∧((unsg w).take k').all zXP=true)∧((unsg w).length - k' < (unsg w).length - k)∧((f∧g∧h∧o∧(dJ (wK ((wK (e*10))+(wK (IntKind.wrap .u8 (j - 48)))))=dJ ((dval ((unsg w).take k'):Nat):Int))∧(dJ (wK ((k:Int)+1))=dJ (k':Int))∧True)∧True)))))))∧((decide (j < 48))=(!false)→tU3 d))))∧(z=false→tU5 ((s=true→tU8 (((decide (l≥lo))=true→tU6 (RV.tup [rJ l,RV.d (dQ (decide (l≤hi)))]=RV.tup i))∧((decide (l≥lo))=(!true)→tU3 (RV.tup [rJ l,RV.d (dQ false)]=RV.tup i))))∧(s=false→tU5 (((decide (e≥lo))=true→tU6 (RV.tup [rJ e,RV.d (dQ (decide (e≤hi)))]=RV.tup i))∧((decide (e≥lo))=(!true)→tU3 (RV.tup [rJ e,RV.d (dQ false)]=RV.tup i))))))))))) ?_
  delta dJ dQ wK rJ
  simp only [sS]
  clear hwf
  have cn:=zKg (w:=w)
  have nb:¬(unsg w≠[]∧(unsg w).length≤10∧¬(1 < (unsg w).length∧(unsg w).head?=some 48)∧w≠[45,48]∧(unsg w).all zXP=true)→0=(numR w lo hi).1∧false=(numR w lo hi).2:=fun h=>zG3 (by
   by_cases e:zYb w=true
   ·exact absurd (cn.1 e) h
   ·simpa using e)
  have lw:(⟨#[45,48]⟩:ByteArray)=toS [45,48]:=rfl
  have h45:∀ l:Lb,0 < l.length→(((((l[0]?).getD 0).toNat:Nat):Int)==45)=decide (l.head?=some 45):=fun l h=>jYQ h 45
  have h48:∀ l:Lb,0 < l.length→(((((l[0]?).getD 0).toNat:Nat):Int)==48)=decide (l.head?=some 48):=fun l h=>jYQ h 48
  have cut:(toS w).extract 1 w.length=toS (w.drop 1):=by rw [zKO,List.take_of_length_le (by simp)]
  have t0:Int.toNat 0=0:=rfl
  have t1:Int.toNat 1=1:=rfl
  simp only [zQN,zQF,DV.str.injEq,lw,zXj,zYG,t0,t1,cut]
  refine ⟨⟨fun h0=>⟨⟨by omega,by omega⟩,fun h1=>⟨⟨by omega,by omega,by omega⟩,0,rfl,?_⟩,fun h1=>⟨0,rfl,?_⟩⟩,fun h0=>⟨0,rfl,?_⟩⟩,fun u _=>⟨⟨fun g1=>⟨fun g2=>⟨fun g3=>⟨⟨by omega,by omega⟩,fun g4=>⟨fun g5=>?_,fun g5=>⟨0,rfl,?_⟩⟩,fun g4=>?_⟩,fun g3=>⟨fun g5=>?_,fun g5=>⟨0,rfl,?_⟩⟩⟩,fun g2=>?_⟩,fun g1=>?_⟩,fun v hv=>?_⟩⟩
  ·rw [h45 w (by omega)] at h1
   have hn:zJg w=true:=h1
   refine zYa ?_
   have e:=zH3 hn
   conv=>lhs; rw [e]
   rfl
  ·rw [h45 w (by omega)] at h1
   exact zYa (zGc (show zJg w=false from h1)).symm
  ·have:w=[]:=List.length_eq_zero_iff.1 (by omega)
   subst this; rfl
  ·exact nb fun h=>h.2.2.2.1 (by simpa using g5)
  ·rw [h48 _ (by omega)] at g4
   exact ⟨fun e=>by rw [e] at g1; simp at g1,by omega,fun h=>by simp [h.2] at g4,by simpa using g5⟩
  ·rw [h48 _ (by omega)] at g4
   exact nb fun h=>h.2.2.1 ⟨by omega,by simpa using g4⟩
  ·exact nb fun h=>h.2.2.2.1 (by simpa using g5)
  ·exact ⟨fun e=>by rw [e] at g1; simp at g1,by omega,fun h=>by omega,by simpa using g5⟩
  ·exact nb fun h=>by omega
  ·exact nb fun h=>by
    have:=List.length_pos_iff.2 h.1
    omega
  ·obtain ⟨_,v1,v2,v3,v4⟩:=hv
   refine ⟨⟨0,⟨Nat.zero_le _,by simp⟩,by simp [dval],rfl⟩,fun k hk=>⟨fun hlt=>?_,fun hge=>?_⟩⟩
   ·obtain ⟨k1,k2⟩:=hk
    have hkl:k < (unsg w).length:=by omega
    have w1:IntKind.wrap .i64 ((k:Int)+1)=((k+1:Nat):Int):=by rw [IntWalk.i64_in _ ⟨by omega,by omega⟩]; omega
    have hb:((unsg w)[k]?).getD 0=(unsg w)[k]:=by rw [List.getElem?_eq_getElem hkl]; rfl
    have hbd:=(unsg w)[k].toNat_lt
    have hdv:=zUq (l:=(unsg w).take k) k2 (by rw [List.length_take]; omega)
    have hdt:=jY6 hkl
    have hcd:=jJc hkl
    have htk:((unsg w).take (k+1)).all zXP=(((unsg w).take k).all zXP && zXP (unsg w)[k]):=by
     rw [List.take_add_one,List.getElem?_eq_getElem hkl,Option.toList_some,List.all_append]
     simp
    simp only [hb,w1]
    generalize (unsg w)[k]=c at *
    refine ⟨⟨by omega,by omega⟩,fun g1=>⟨⟨by omega,by omega⟩,fun g2=>?_,fun g2=>⟨⟨by omega,by omega⟩,k+1,⟨by omega,?_⟩,by omega,?_,rfl⟩⟩,fun g1=>?_⟩
    ·exact zG3 (hcd (by unfold zXP; simp; omega))
    ·rw [htk,k2]; unfold zXP; simp; omega
    ·have e8:IntKind.wrap .u8 ((c.toNat:Int) - 48)=((c.toNat - 48:Nat):Int):=by
      simp [IntKind.wrap,IntKind.bits,IntKind.signed]; omega
     rw [e8,hdt,IntWalk.i64_in (((c.toNat - 48:Nat):Int)) ⟨by omega,by omega⟩,IntWalk.i64_in (((dval ((unsg w).take k):Nat):Int)*10) ⟨by omega,by omega⟩,IntWalk.i64_in _ ⟨by omega,by omega⟩]
     omega
    ·exact zG3 (hcd (by unfold zXP; simp; omega))
   ·obtain ⟨k1,k2⟩:=hk
    have hkl:k=(unsg w).length:=by omega
    subst hkl
    rw [List.take_length] at k2 ⊢
    have hcn:=cn.2 ⟨v1,v2,v3,v4,k2⟩
    have hdv:=zUq k2 v2
    have hnv:numV w=if zJg w=true then -((dval (unsg w):Nat):Int) else ((dval (unsg w):Nat):Int):=rfl
    have hus:=jX0 w
    rw [jQ9 hcn,IntWalk.i64_in (0 - ((dval (unsg w):Nat):Int)) ⟨by omega,by omega⟩]
    refine ⟨fun g=>?_,fun g=>?_⟩
    ·rw [if_pos (hus.1 (by omega))] at hnv
     rw [hnv]
     refine ⟨fun h=>⟨by omega,?_⟩,fun h=>⟨by omega,?_⟩⟩
     ·rw [decide_eq_true (by omega:lo ≤ -((dval (unsg w):Nat):Int)),Bool.true_and,Int.zero_sub]
     ·rw [decide_eq_false (by omega:¬ lo ≤ -((dval (unsg w):Nat):Int)),Bool.false_and]
    ·rw [if_neg (fun h=>g (by have:=hus.2 h; omega))] at hnv
     rw [hnv]
     refine ⟨fun h=>⟨rfl,?_⟩,fun h=>⟨rfl,?_⟩⟩
     ·rw [decide_eq_true (by omega:lo≤((dval (unsg w):Nat):Int)),Bool.true_and]
     ·rw [decide_eq_false (by omega:¬ lo≤((dval (unsg w):Nat):Int)),Bool.false_and]
theorem zZZ (ws:List Lb) (lo hi:Int) (hl:ws.length≤68719476736):Ans prog 117 [RV.d (dS ws.length (strs ws)),rJ (lo),rJ (hi)] (RV.tup [RV.d (dS ((zZB (zQb (strs ws)) lo hi).1.length) (is (zZB (zQb (strs ws)) lo hi).1)),RV.d (dQ ((zZB (zQb (strs ws)) lo hi).2))]):=
 zQj (Γ:=jZj) (Ann.seq Ann.leaf (Ann.seq Ann.leaf (Ann.seq (Ann.seq Ann.leaf (Ann.loop ⟨Nat,fun k=>k≤ws.length∧(ws.take k).all (okN lo hi)=true,fun k=>⟨[(0,AV.one (Cl.d (dS ws.length (strs ws)))),(1,aJ lo),(2,aJ hi),(8,AV.one (Cl.ref 9008 ((ws.take k).map numV).length)),(9,aJ (k:Int))],[(9008,Bx.row 3 1 (is ((ws.take k).map numV)))]⟩,fun k=>ws.length - k⟩ fun k=>Ann.leaf)) Ann.leaf))) zQs Tryz.func117 rfl (nL rfl) fun hwf=>by
  refine Eq.mpr (by kernel_rfl:_=(let c:=(zZB (zQb (strs ws)) lo hi); let e:=fun (k:Nat)=>(k≤ws.length∧(ws.take k).all (okN lo hi)=true); let f:=(dS ws.length (strs ws)=dS ws.length (strs ws)); let g:=(dJ lo=dJ lo); let h:=(dJ hi=dJ hi); let i:=[RV.d (dS c.1.length (is c.1)),RV.d (dQ c.2)]; tU4 ((∃ k:Nat,(e k)∧((f∧g∧h∧(0=((ws.take k).map numV).length)∧(dJ 0=dJ (k:Int))∧True)∧(([]=is ((ws.take k).map numV))∧True)))∧∀ k:Nat,let j:=(decide ((k:Int) < (ws.length:Int))); let a:=((ws.take k).map numV); let d:=(sAt (strs ws) ((k:Int).toNat*1)); let b:=(numR (ofS d) lo hi); (e k)→tU4 ((j=true→tU2 ((0≤(k:Int)∧(k:Int) < (ws.length:Int)∧(k:Int).toNat*1 < (strs ws).length)∧(((strs ws)[(k:Int).toNat*1]?=some (DV.str d))∧True)∧tU2 ((Ans prog 118 [RV.d (DV.str d),rJ lo,rJ hi] (RV.tup [rJ b.1,RV.d (dQ b.2)]))∧tU7 (((!b.2)=true→tU2 (RV.tup [RV.d (dS 0 ([])),RV.d (dQ false)]=RV.tup i))∧((!b.2)=false→tU3 ((zZl 1 8 a.length 1 (is a) ([dJ b.1]))∧tU4 (∃ k':Nat,(k'≤ws.length∧(ws.take k').all (okN lo hi)=true)∧(ws.length - k' < ws.length - k)∧((f∧g∧h∧(a.length+1=((ws.take k').map numV).length)∧(dJ (wK ((k:Int)+1))=dJ (k':Int))∧True)∧(((is a)++([dJ b.1])=is ((ws.take k').map numV))∧True)))))))))∧(j=false→tU3 (RV.tup [RV.d (dS a.length (is a)),RV.d (dQ true)]=RV.tup i)))))) ?_
  delta dJ dQ wK dS rJ
  simp only [sS]
  have hM:∀ k:Nat,k≤1099511627776→k≤maxLen:=fun k h=>by unfold maxLen; omega
  clear hwf
  simp only [zQw]
  refine ⟨⟨0,⟨Nat.zero_le _,rfl⟩,⟨rfl,rfl⟩,rfl⟩,fun k hk=>⟨fun hlt=>?_,fun hge=>?_⟩⟩
  ·obtain ⟨k1,k2⟩:=hk
   have hkl:k < ws.length:=by omega
   obtain ⟨q1,q2⟩:=zWz hkl
   have aN:=zX4 ws[k] lo hi
   have w1:IntKind.wrap .i64 ((k:Int)+1)=((k+1:Nat):Int):=by rw [IntWalk.i64_in _ ⟨by omega,by omega⟩]; omega
   have h2:(numR ws[k] lo hi).2=okN lo hi ws[k]:=rfl
   have hml:((ws.take k).map numV).length=k:=by rw [List.length_map,List.length_take]; omega
   have htk:ws.take (k+1)=ws.take k++[ws[k]]:=by rw [List.take_add_one,List.getElem?_eq_getElem hkl]; rfl
   simp only [Nat.mul_one,q2,zQN,w1,h2] at aN ⊢
   refine ⟨⟨by omega,by omega,by rw [zZe]; omega⟩,q1,aN,fun h=>?_,fun h=>⟨⟨by rw [zZc,Nat.mul_one],rfl,hM _ (by omega),by omega⟩,k+1,⟨by omega,?_⟩,by omega,⟨?_,rfl⟩,?_⟩⟩
   ·rw [zZM]
    ·exact ⟨⟨rfl,rfl⟩,rfl⟩
    ·rw [List.all_eq_false]
     exact ⟨_,List.getElem_mem hkl,by rw [h]; decide⟩
   ·rw [htk,List.all_append,k2]; simp [h]
   ·rw [htk,List.map_append,List.length_append]; rfl
   ·have hc:zYb ws[k]=true:=by
     unfold okN at h
     simp only [Bool.and_eq_true] at h
     exact h.1.1
    rw [htk,jQ9 hc,List.map_append]
    unfold is
    rw [List.map_append]
    rfl
  ·obtain ⟨k1,k2⟩:=hk
   have hkl:k=ws.length:=by omega
   subst hkl
   rw [List.take_length] at k2 ⊢
   rw [zZA k2]
   exact ⟨⟨rfl,rfl⟩,rfl⟩
theorem zYe (ws:List Lb) (hl:ws.length≤68719476736):Ans prog 119 [RV.d (dS ws.length (strs ws))] (RV.tup [RV.d (dS ((zZB (zQb (strs ws)) (-2147483648) 2147483647).1.length) (is (zZB (zQb (strs ws)) (-2147483648) 2147483647).1)),RV.d (dQ ((zZB (zQb (strs ws)) (-2147483648) 2147483647).2))]):=
 zQj (Γ:=jZj) Ann.leaf zQs Tryz.func119 rfl (nL rfl) fun hwf=>by
  refine Eq.mpr (by kernel_rfl:_=(let a:=(zZB (zQb (strs ws)) (-2147483648) 2147483647); let b:=(zZB (zQb (strs ws)) (-2147483648:Int) (2147483647:Int)); let c:=[RV.d (dS b.1.length (is b.1)),RV.d (dQ b.2)]; tU3 ((Ans prog 117 [RV.d (dS ws.length (strs ws)),rJ (-2147483648:Int),rJ 2147483647] (RV.tup c))∧tU4 (RV.tup c=RV.tup [RV.d (dS a.1.length (is a.1)),RV.d (dQ a.2)])))) ?_
  delta dQ dS rJ
  simp only [sS]
  exact zZZ ws _ _ hl
theorem zYI (ws:List Lb) (hl:ws.length≤68719476736):Ans prog 84 [RV.d (dS ws.length (strs ws))] (RV.tup [RV.d (dS ((zZB (zQb (strs ws)) 0 4294967295).1.length) (is (zZB (zQb (strs ws)) 0 4294967295).1)),RV.d (dQ ((zZB (zQb (strs ws)) 0 4294967295).2))]):=
 zQj (Γ:=jZj) Ann.leaf zQs Tryz.func84 rfl (nL rfl) fun hwf=>by
  refine Eq.mpr (by kernel_rfl:_=(let a:=(zZB (zQb (strs ws)) 0 4294967295); let b:=(zZB (zQb (strs ws)) (0:Int) (4294967295:Int)); let c:=[RV.d (dS b.1.length (is b.1)),RV.d (dQ b.2)]; tU3 ((Ans prog 117 [RV.d (dS ws.length (strs ws)),rJ 0,rJ 4294967295] (RV.tup c))∧tU4 (RV.tup c=RV.tup [RV.d (dS a.1.length (is a.1)),RV.d (dQ a.2)])))) ?_
  delta dQ dS rJ
  simp only [sS]
  exact zZZ ws _ _ hl
theorem zJY (ws:List Lb) (hl:ws.length≤68719476736):Ans prog 82 [RV.d (dS ws.length (strs ws))] (RV.tup [RV.agg [dK ((pixW (zQb (strs ws))).1.a),dK ((pixW (zQb (strs ws))).1.b),dK ((pixW (zQb (strs ws))).1.c),dK ((pixW (zQb (strs ws))).1.al),dK ((pixW (zQb (strs ws))).1.f)],RV.d (dQ ((pixW (zQb (strs ws))).2))]):=
 zQj (Γ:=jZj) Ann.leaf zQs Tryz.func82 rfl (nL rfl) fun hwf=>by
  refine Eq.mpr (by kernel_rfl:_=(let c:=(pixW (zQb (strs ws))); let a:=(zZB (zQb (strs ws)) (0:Int) (65535:Int)); let b:=(a.1.length:Int); let e:=[RV.agg [dK 0,dK 0,dK 0,dK 0,dK 0],RV.d (dQ false)]; let d:=[RV.agg [dK c.1.a,dK c.1.b,dK c.1.c,dK c.1.al,dK c.1.f],RV.d (dQ c.2)]; tU3 ((Ans prog 117 [RV.d (dS ws.length (strs ws)),rJ 0,rJ 65535] (RV.tup [RV.d (dS a.1.length (is a.1)),RV.d (dQ a.2)]))∧tU8 (((!a.2)=false→tU4 (((b != 5)=true→tU3 (RV.tup e=RV.tup d))∧((b != 5)=false→True∧(0≤(0:Int)∧(0:Int) < b∧0 < (is a.1).length)∧(((is a.1)[0]?=some (dJ (nAt (is a.1) 0)))∧True)∧tU2 ((0≤(1:Int)∧(1:Int) < b∧1 < (is a.1).length)∧(((is a.1)[1]?=some (dJ (nAt (is a.1) 1)))∧True)∧tU2 ((0≤(2:Int)∧(2:Int) < b∧2 < (is a.1).length)∧(((is a.1)[2]?=some (dJ (nAt (is a.1) 2)))∧True)∧tU3 ((0≤(3:Int)∧(3:Int) < b∧3 < (is a.1).length)∧(((is a.1)[3]?=some (dJ (nAt (is a.1) 3)))∧True)∧tU2 ((0≤(4:Int)∧(4:Int) < b∧4 < (is a.1).length)∧(((is a.1)[4]?=some (dJ (nAt (is a.1) 4)))∧True)∧tU4 ((true=true)∧RV.tup [RV.agg [dK (IntKind.wrap .u16 (nAt (is a.1) 0)),dK (IntKind.wrap .u16 (nAt (is a.1) 1)),dK (IntKind.wrap .u16 (nAt (is a.1) 2)),dK (IntKind.wrap .u16 (nAt (is a.1) 3)),dK (IntKind.wrap .u16 (nAt (is a.1) 4))],RV.d (dQ true)]=RV.tup d))))))))∧((!a.2)=(!false)→tU4 (RV.tup e=RV.tup d)))))) ?_
  delta dJ dK dQ dS rJ
  simp only [sS]
  have aN:=zZZ ws 0 65535 hl
  clear hwf
  simp only [zQw] at aN ⊢
  refine ⟨aN,?_⟩
  by_cases hall:ws.all (okN 0 65535)=true
  ·rw [zZA hall]
   refine ⟨fun _=>⟨fun h5=>?_,fun h5=>?_⟩,fun h=>by cases h⟩
   ·have h5:¬ ws.length=5:=by simp at h5; omega
    rw [zWn fun h=>h5 h.2]
    exact ⟨⟨rfl,rfl,rfl,rfl,rfl⟩,rfl⟩
   ·have h5:ws.length=5:=by simp at h5; omega
    match ws,h5 with
    | [a,b,c,d,e],_=>
     rw [zWU hall]
     simp only [List.all_cons,List.all_nil,Bool.and_true,Bool.and_eq_true] at hall
     obtain ⟨ha,hb,hc,hd,he⟩:=hall
     have wr:∀ {x:Lb},okN 0 65535 x=true→IntKind.wrap .u16 (numV x)=numV x:=fun h=>by
      have:=zKw h
      simp [IntKind.wrap,IntKind.bits,IntKind.signed]; omega
     have n0:nAt (is [numV a,numV b,numV c,numV d,numV e]) 0=numV a:=rfl
     have n1:nAt (is [numV a,numV b,numV c,numV d,numV e]) 1=numV b:=rfl
     have n2:nAt (is [numV a,numV b,numV c,numV d,numV e]) 2=numV c:=rfl
     have n3:nAt (is [numV a,numV b,numV c,numV d,numV e]) 3=numV d:=rfl
     have n4:nAt (is [numV a,numV b,numV c,numV d,numV e]) 4=numV e:=rfl
     simp only [List.map_cons,List.map_nil,n0,n1,n2,n3,n4,wr ha,wr hb,wr hc,wr hd,wr he,List.length_cons,List.length_nil,zZc]
     refine ⟨⟨by omega,by omega,by omega⟩,rfl,⟨by omega,by omega,by omega⟩,rfl,⟨by omega,by omega,by omega⟩,rfl,⟨by omega,by omega,by omega⟩,rfl,⟨by omega,by omega,by omega⟩,rfl,?_⟩
     simp only [and_self]
  ·have hall:ws.all (okN 0 65535)=false:=by simpa using hall
   rw [zZM hall,zWn fun h=>by rw [hall] at h; exact absurd h.1 (by decide)]
   exact ⟨fun h=>absurd h (by decide),fun _=>⟨⟨rfl,rfl,rfl,rfl,rfl⟩,rfl⟩⟩
theorem zUG (w:Lb):Ans prog 143 [RV.d (DV.str (toS w))] (RV.tup [rJ (((nmR zQn (ofS (toS w))).1)),RV.d (dQ ((nmR zQn (ofS (toS w))).2))]):=
 zQj (Γ:=jZj) (Ann.seq Ann.leaf (Ann.seq (Ann.seq Ann.leaf (Ann.loop ⟨Nat,fun k=>k≤12∧∀ j:Nat,j < k→ofS (zQn ((j:Int)+1))≠w,fun k=>⟨[(0,AV.one (Cl.d (DV.str (toS w)))),(4,aJ ((k:Int)+1))],[]⟩,fun k=>12 - k⟩ fun k=>Ann.leaf)) Ann.leaf)) zQs Tryz.func143 rfl (nL rfl) fun hwf=>by
  refine Eq.mpr (by kernel_rfl:_=(let a:=(DV.str (toS w)=DV.str (toS w)); let b:=[rJ (nmR zQn (ofS (toS w))).1,RV.d (dQ (nmR zQn (ofS (toS w))).2)]; tU3 ((∃ k:Nat,(k≤12∧∀ j:Nat,j < k→ofS (zQn ((j:Int)+1))≠w)∧((a∧(dJ 1=dJ ((k:Int)+1))∧True)∧True))∧∀ k:Nat,let c:=((zQn ((k:Int)+1)).toList==(toS w).toList); (k≤12∧∀ j:Nat,j < k→ofS (zQn ((j:Int)+1))≠w)→tU2 (((decide (((k:Int)+1)≤12))=true→True∧(Ans prog 68 [rJ ((k:Int)+1)] (RV.d (DV.str (zQn ((k:Int)+1)))))∧tU2 ((c=true→tU3 (RV.tup [rJ ((k:Int)+1),RV.d (dQ true)]=RV.tup b))∧(c=false→tU3 (∃ k':Nat,(k'≤12∧∀ j:Nat,j < k'→ofS (zQn ((j:Int)+1))≠w)∧(12 - k' < 12 - k)∧((a∧(dJ (wK (((k:Int)+1)+1))=dJ ((k':Int)+1))∧True)∧True)))))∧((decide (((k:Int)+1)≤12))=false→tU2 (RV.tup [rJ 0,RV.d (dQ false)]=RV.tup b)))))) ?_
  delta dJ dQ wK rJ
  simp only [sS]
  clear hwf
  simp only [zQN,zHn]
  refine ⟨⟨0,⟨Nat.zero_le _,fun j h=>absurd h (Nat.not_lt_zero j)⟩,rfl⟩,fun k hk=>⟨fun hle=>⟨zXq _,fun h=>?_,fun h=>⟨k+1,⟨by omega,fun j hj=>?_⟩,by omega,?_⟩⟩,fun hgt=>?_⟩⟩
  ·rw [zWp (f:=zQn) (by omega) (of_decide_eq_true h) hk.2]
   exact ⟨rfl,rfl⟩
  ·rcases Nat.lt_or_ge j k with h1 | h1
   ·exact hk.2 j h1
   ·have:j=k:=by omega
    subst this
    exact of_decide_eq_false h
  ·rw [IntWalk.i64_in _ ⟨by omega,by omega⟩]; omega
  ·rw [zWq (f:=zQn) fun j hj=>hk.2 j (by omega)]
   exact ⟨rfl,rfl⟩
theorem zVM (w:Lb):Ans prog 144 [RV.d (DV.str (toS w))] (RV.tup [rJ (((nmR zQe (ofS (toS w))).1)),RV.d (dQ ((nmR zQe (ofS (toS w))).2))]):=
 zQj (Γ:=jZj) (Ann.seq Ann.leaf (Ann.seq (Ann.seq Ann.leaf (Ann.loop ⟨Nat,fun k=>k≤12∧∀ j:Nat,j < k→ofS (zQe ((j:Int)+1))≠w,fun k=>⟨[(0,AV.one (Cl.d (DV.str (toS w)))),(4,aJ ((k:Int)+1))],[]⟩,fun k=>12 - k⟩ fun k=>Ann.leaf)) Ann.leaf)) zQs Tryz.func144 rfl (nL rfl) fun hwf=>by
  refine Eq.mpr (by kernel_rfl:_=(let a:=(nmR zQe (ofS (toS w))); let b:=(DV.str (toS w)=DV.str (toS w)); let c:=[rJ a.1,RV.d (dQ a.2)]; tU3 ((∃ k:Nat,(k≤12∧∀ j:Nat,j < k→ofS (zQe ((j:Int)+1))≠w)∧((b∧(dJ 1=dJ ((k:Int)+1))∧True)∧True))∧∀ k:Nat,let d:=((zQe ((k:Int)+1)).toList==(toS w).toList); (k≤12∧∀ j:Nat,j < k→ofS (zQe ((j:Int)+1))≠w)→tU2 (((decide (((k:Int)+1)≤12))=true→True∧(Ans prog 69 [rJ ((k:Int)+1)] (RV.d (DV.str (zQe ((k:Int)+1)))))∧tU2 ((d=true→tU3 (RV.tup [rJ ((k:Int)+1),RV.d (dQ true)]=RV.tup c))∧(d=false→tU3 (∃ k':Nat,(k'≤12∧∀ j:Nat,j < k'→ofS (zQe ((j:Int)+1))≠w)∧(12 - k' < 12 - k)∧((b∧(dJ (wK (((k:Int)+1)+1))=dJ ((k':Int)+1))∧True)∧True)))))∧((decide (((k:Int)+1)≤12))=false→tU2 (RV.tup [rJ 0,RV.d (dQ false)]=RV.tup c)))))) ?_
  delta dJ dQ wK rJ
  simp only [sS]
  clear hwf
  simp only [zQN,zHn]
  refine ⟨⟨0,⟨Nat.zero_le _,fun j h=>absurd h (Nat.not_lt_zero j)⟩,rfl⟩,fun k hk=>⟨fun hle=>⟨zXu _,fun h=>?_,fun h=>⟨k+1,⟨by omega,fun j hj=>?_⟩,by omega,?_⟩⟩,fun hgt=>?_⟩⟩
  ·rw [zWp (f:=zQe) (by omega) (of_decide_eq_true h) hk.2]
   exact ⟨rfl,rfl⟩
  ·rcases Nat.lt_or_ge j k with h1 | h1
   ·exact hk.2 j h1
   ·have:j=k:=by omega
    subst this
    exact of_decide_eq_false h
  ·rw [IntWalk.i64_in _ ⟨by omega,by omega⟩]; omega
  ·rw [zWq (f:=zQe) fun j hj=>hk.2 j (by omega)]
   exact ⟨rfl,rfl⟩
end
end Go.Proofs.YtheidkkebdhmkaaGreatDoor
