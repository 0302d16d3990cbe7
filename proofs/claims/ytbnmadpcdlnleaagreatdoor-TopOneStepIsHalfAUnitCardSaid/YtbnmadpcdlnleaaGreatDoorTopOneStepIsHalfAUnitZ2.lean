/-
  Part 2 of what TopOneStepIsHalfAUnit rests on.
-/
import Derived.Test.YtbnmadpcdlnleaaGreatDoorTopOneStepIsHalfAUnitZ1
import Derived.Test.YtbnmadpcdlnleaaGreatDoorProg
import Derived.ProofKit
namespace Go.Proofs.YtbnmadpcdlnleaaGreatDoor
open Go.IntKind (wrap)
open Go.RowKit
set_option linter.unusedVariables false
set_option linter.unusedSimpArgs false
set_option maxRecDepth 20000
def Cap.av:Cap->AV
 | .d v=>.one (.d v)
 | .ptr b off=>.one (.ptr b off)
def zHg (dst:Option Nat) (bs:List Nat) (nnew:Nat):List Nat:=
 let base:=match dst with
  | some d=>d
  | none=>maxL bs
 (List.range nnew).map λi=>base+1000*(i+1)
def zYm (l1:List Nat) (B1:List Bx):List Nat:=(nubN (B1.flatMap Bx.names)).filter λx=>!l1.contains x
def yQA (bs:List Nat) (Bs:List Bx) (b:Nat):Bx:=Bs.getD (zQK bs b) .gone
def jJc (q:Bool) (l:List Nat) (Bs:List Bx) (r:Option (Prop × AV × List (Nat × Bx))):Option (Prop × AV × List (Nat × Bx)):=
 match q with
 | false=>r
 | true=>match r with
  | some (vc,v,ws)=>match ws.all λp=>l.contains p.1 with
   | true=>some (vc/\ws.map (·.2)=ws.map (λp=>yQA l Bs p.1),v,[])
   | false=>none
  | none=>none
def zG3 (P:Program) (Γ:Gam) (dst:Option Nat) (f:FuncId) (xs:List AV):Option Eff2:=
 match Γ.modes f,enters P f with
 | some (ms,pin,nn),true=>
  let nnew:=nn%1000
  let l0:=zYW ms xs
  let l1:=nubN (zXi ms xs)
  some ⟨l0++l1,λbs1=>zYm l1 (bs1.drop l0.length),λbs1 bs2=>
   let l2:=zYm l1 (bs1.drop l0.length)
   let l:=l2++zYm (l1++l2) (bs2.take l2.length)
   jJc (Nat.ble 1000 nn) (l0++(l1++l)) (bs1++bs2.take l.length) (jJz P Γ f ms pin nnew xs l0 (l1++l) (zHg dst (l1++l) nnew) (bs1.take l0.length) (bs1.drop l0.length++bs2.take l.length) (bs2.drop l.length)),
   λbs1 bs2=>
   let l2:=zYm l1 (bs1.drop l0.length)
   let l3:=zYm (l1++l2) bs2
   l3++zHg dst (l1++(l2++l3)) nnew⟩
 | _,_=>none
def jVT (Γ:Gam) (f:FuncId) (xs:List AV) (bs:List Bx):Bool:=
 match jU8 Γ f with
 | some _=>false
 | none=>match jGh Γ f with
  | true=>true
  | false=>match AV.rvs (zXj (xs.flatMap AV.refs) bs) xs with
   | some rs=>match Γ f rs with
    | some r=>r.flat
    | none=>false
   | none=>false
def zWd:List Nat->List Bx->List Bx->List (Nat × Bx)
 | b::rs,B0::bs,B::ws=>match B0 with
  | .ice _=>zWd rs bs ws
  | _=>(b,B)::zWd rs bs ws
 | _,_,_=>[]
def Eff.upQ (q:List Bx->Bool) (e:Eff):Eff2:=⟨e.rds,λ_=>[],λbs _=>(e.f bs).map λr=>(r.1,r.2.1,match q bs with | true=>[] | false=>zWd e.wrs bs r.2.2),λ_ _=>[]⟩
def zXf:List Bx->List Bx->Prop
 | .ice xs::bs,B::ws=>B=.ice xs/\zXf bs ws
 | _::bs,_::ws=>zXf bs ws
 | [],[]=>True
 | _,_=>False
theorem zJF:∀ bs:List Bx,zXf bs (bs.map Bx.freeze)
 | []=>trivial
 | B::bs=>by
  have:=zJF bs;cases B<;>simp only [wQg,zXf,Bx.freeze,true_and]<;>exact this
theorem zJs:∀ bs:List Bx,zXf bs bs
 | []=>trivial
 | B::bs=>by
  have:=zJs bs;cases B<;>simp only [zXf,true_and]<;>exact this
theorem zX0:∀ (bs ws:List Bx) (B:Bx),zXf bs ws->zXf (bs++[.fresh]) (ws++[B])
 | [],[],B,_=>by simp [zXf]
 | .ice xs::bs,W::ws,B,h=>by
  simp only [List.cons_append,zXf] at h |-;exact ⟨h.1,zX0 bs ws B h.2⟩
 | .fresh::bs,W::ws,B,h=>by simp only [List.cons_append,zXf] at h |-; exact zX0 bs ws B h
 | .gone::bs,W::ws,B,h=>by simp only [List.cons_append,zXf] at h |-; exact zX0 bs ws B h
 | .cells _::bs,W::ws,B,h=>by simp only [List.cons_append,zXf] at h |-; exact zX0 bs ws B h
 | .row _ _ _::bs,W::ws,B,h=>by simp only [List.cons_append,zXf] at h |-; exact zX0 bs ws B h
 | [],_::_,_,h=>h.elim
 | B0::bs,[],B,h=>by cases B0<;>exact h.elim
theorem zGK (s0:AS):∀ (rs:List Nat) (ws:List Bx) (s:AS),(∀ b xs,s0.bx b=.ice xs->s.bx b=.ice xs)->zXf (rs.map s0.bx) ws->s.setBs ((zWd rs (rs.map s0.bx) ws).map (·.1)) ((zWd rs (rs.map s0.bx) ws).map (·.2))=s.setBs rs ws
 | [],_,s,_,_=>by simp [zWd,AS.setBs]
 | b::rs,[],s,_,h=>by
  simp only [wQg] at h;cases hB:s0.bx b<;>rw [hB] at h<;>exact h.elim
 | b::rs,W::ws,s,hs,h=>by
  simp only [wQg,zWd,AS.setBs] at h |-
  cases hB:s0.bx b with
  | ice xs=>
   rw [hB] at h;simp only [zXf] at h;obtain ⟨rfl,h⟩:=h;have e:s.setB b (.ice xs)=s:=by
    refine AS.ext' rfl ?_;funext b';simp only [AS.setB];split
    ·rename_i e; subst e; exact (hs b' xs hB).symm
    ·rfl
   rw [e];exact zGK s0 rs ws s hs h
  | _=>
   rw [hB] at h;simp only [zXf] at h;simp only [wQg,AS.setBs];refine zGK s0 rs ws _ (λb' xs hb'=>?_) h;simp only [AS.setB];rw [if_neg (λe=>by subst e; rw [hB] at hb'; cases hb')];exact hs b' xs hb'
abbrev wYy:=@List.dropLast_concat_getLast
theorem jVA {P:Program} {Γ:Gam} {dst:Option Nat} {f:FuncId} {xs:List AV} {e0:Eff} (he:zWL P Γ dst f xs=some e0) {bs bs':List Bx} {vc:Prop} {v:AV} (hf:e0.f bs=some (vc,v,bs')):zXf bs bs'/\e0.wrs=e0.rds:=by
 unfold zWL at he
 cases h1:jU8 Γ f with
 | some p=>
  rw [h1] at he;simp only at he;split at he
  ·simp only [jZQ] at he;split at he
   ·simp only [wQa] at he;subst he;simp only at hf |-;split at hf
    ·rename_i hl;split at hf
     ·split at hf
      ·simp only [wQa,wQc] at hf;obtain ⟨_,_,rfl⟩:=hf;refine ⟨?_,trivial⟩;have:bs=bs.dropLast++[.fresh]:=by
        have hne:bs≠[]:=λe=>by rw [e] at hl; cases hl
        rw [List.getLast?_eq_some_getLast hne] at hl;injection hl with hl
        rw [<- hl,wYy]
       have k:=λB=>zX0 _ _ B (zJF bs.dropLast);rw [<- this] at k;exact k _
      ·cases hf
     ·cases hf
    ·cases hf
   ·cases he
  ·cases he
 | none=>
  rw [h1] at he;simp only at he
  cases h2:jGh Γ f with
  | true=>
   rw [h2] at he;simp only [zHd] at he;split at he
   ·simp only [wQa] at he;subst he;simp only at hf |-;split at hf
    ·split at hf
     ·simp only [wQa,wQc] at hf;obtain ⟨_,_,rfl⟩:=hf;exact ⟨zJs _,trivial⟩
     ·cases hf
    ·cases hf
   ·cases he
  | false=>
   rw [h2] at he;simp only [zHc] at he;split at he
   ·simp only [wQa] at he;subst he;simp only at hf |-;split at hf
    ·split at hf
     ·simp only [wQa,wQc] at hf;obtain ⟨_,_,rfl⟩:=hf;refine ⟨?_,trivial⟩;split
      ·exact zJs _
      ·exact zJF _
     ·cases hf
    ·cases hf
   ·split at he
    ·split at he
     ·simp only [wQa] at he;subst he;simp only [wQa,wQc] at hf;obtain ⟨_,_,rfl⟩:=hf;exact ⟨zJs _,rfl⟩
     ·cases he
    ·cases he
theorem jGc {P:Program} {Γ:Gam} {dst:Option Nat} {f:FuncId} {xs:List AV} {e0:Eff} (he:zWL P Γ dst f xs=some e0) {bs bs':List Bx} {vc:Prop} {v:AV} (hq:jVT Γ f xs bs=true) (hf:e0.f bs=some (vc,v,bs')):bs'=bs/\e0.wrs=e0.rds:=by
 unfold jVT at hq;unfold zWL at he
 cases h1:jU8 Γ f with
 | some p=>rw [h1] at hq; cases hq
 | none=>
  rw [h1] at hq he;simp only at hq he
  cases h2:jGh Γ f with
  | true=>
   rw [h2] at he;simp only [zHd] at he;split at he
   ·simp only [wQa] at he;subst he;simp only at hf |-;split at hf
    ·split at hf
     ·simp only [wQa,wQc] at hf;exact ⟨hf.2.2.symm,trivial⟩
     ·cases hf
    ·cases hf
   ·cases he
  | false=>
   rw [h2] at he hq;simp only [zHc] at he;split at he
   ·simp only [wQa] at he;subst he;simp only at hf hq |-;split at hf
    ·rename_i rs hrs;rw [hrs] at hq;simp only at hq;split at hf
     ·rename_i r hr;rw [hr] at hq;simp only at hq;simp only [wQa,wQc,if_pos hq] at hf;exact ⟨hf.2.2.symm,trivial⟩
     ·cases hf
    ·cases hf
   ·split at he
    ·split at he
     ·simp only [wQa] at he;subst he;simp only [wQa,wQc] at hf;exact ⟨hf.2.2.symm,rfl⟩
     ·cases he
    ·cases he
theorem jXN {P:Program} {Γ:Gam} {o:Oper} {s:AS} {f:FuncId} {xs:List AV} (h:zZz P o s (prep P Γ o s.eval)) (hp:prep P Γ o s.eval=zWL P Γ o.dst f xs):jZk P o s ((prep P Γ o s.eval).map (Eff.upQ (jVT Γ f xs))):=by
 intro e' he vc v ws hf;obtain ⟨e0,he0,rfl⟩:=wQK.1 he;simp only [Eff.upQ] at hf;obtain ⟨⟨vc0,v0,bs0⟩,hf1,hf'⟩:=wQK.1 hf;simp only [wQc] at hf';obtain ⟨rfl,rfl,rfl⟩:=hf';have hs:=h e0 he0 vc0 v0 bs0 hf1
 cases hq:jVT Γ f xs (e0.rds.map s.bx) with
 | true=>
  obtain ⟨e1,e2⟩:=jGc (by rw [<- hp,he0]) hq hf1;subst e1;intro w0 S n ι a w K Q hr hvc hK;refine hs w0 S n ι a w K Q hr hvc λι' u w' h1 h2=>hK ι' u w' ?_ ?_
  ·rw [e2,zJQ] at h1; exact h1
  ·rw [e2,zJQ] at h2; exact h2
 | false=>
  obtain ⟨e1,e2⟩:=jVA (by rw [<- hp,he0]) hf1;rw [<- e2] at e1;have e3:=zGK s e0.wrs bs0 s (λ_ _ h=>h) e1;intro w0 S n ι a w K Q hr hvc hK;refine hs w0 S n ι a w K Q hr hvc λι' u w' h1 h2=>hK ι' u w' ?_ ?_
  ·simp only; rw [<- e2,e3]; exact h1
  ·simp only; rw [<- e2,e3]; exact h2
def zV7 (P:Program) (Γ:Gam) (o:Oper) (ρ:Operand->AV):Option Eff2:=
 match o.op with
 | .call c=>match c.callee with
  | .value (.func f)=>match Γ.modes f with
   | some _=>zG3 P Γ o.dst f (c.args.toList.map ρ)
   | none=>(prep P Γ o ρ).map (Eff.upQ (jVT Γ f (c.args.toList.map ρ)))
  | .value (.tmp t)=>match ρ (.tmp t) with
   | .one (.d (.fn f))=>match Γ.modes f with
    | some _=>zG3 P Γ o.dst f (c.args.toList.map ρ)
    | none=>(prep P Γ o ρ).map (Eff.upQ (jVT Γ f (c.args.toList.map ρ)))
   | .one (.clo f cs)=>zG3 P Γ o.dst f (c.args.toList.map ρ++cs.map Cap.av)
   | _=>none
  | _=>(prep P Γ o ρ).map Eff.up
 | _=>(prep P Γ o ρ).map Eff.up
def aop (P:Program) (Γ:Gam) (n:Dom) (o:Oper) (s:AS):Option (Prop × AS):=
 if jYO n o then
  match zV7 P Γ o s.eval with
  | some e=>match e.f (e.rds.map s.bx) ((e.all s.bx).map s.bx) with
   | some (vc,v,ws)=>some (vc,(s.setL ws).put o.dst v)
   | none=>none
  | none=>none
 else none
section
variable {P:Program} {o:Oper} {s:AS}
theorem jX1:∀ {l:List Nat} {b:Nat} (f:Nat->Bx),b∈l->(l.map f).getD (zQK l b) .gone=f b
 | x::l,b,f,h=>by
  simp only [zQK,wQg];split
  ·rename_i e; subst e; rfl
  ·rename_i e;have h:b∈l:=by
    rcases wQz.1 h with h | h
    ·exact absurd h e
    ·exact h
   have:=jX1 f h;simpa using this
 | [],_,_,h=>by cases h
theorem jJf {q:Bool} {l:List Nat} {r:Option (Prop × AV × List (Nat × Bx))} {vc:Prop} {v:AV} {ws:List (Nat × Bx)} (h:∀ vc v ws,r=some (vc,v,ws)->zVH P o s vc v (ws.map (·.1)) (ws.map (·.2)))
  (hs:jJc q l (l.map s.bx) r=some (vc,v,ws)):zVH P o s vc v (ws.map (·.1)) (ws.map (·.2)):=by
 unfold jJc at hs;split at hs
 ·exact h _ _ _ hs
 ·split at hs
  ·rename_i vc0 v0 ws0;split at hs
   ·rename_i hall;simp only [wQa,wQc] at hs;obtain ⟨rfl,rfl,rfl⟩:=hs;simp only [List.all_eq_true,wZ2,wQh] at hall;intro w0 S n ι a w K Q hr hvc hK;have e:ws0.map (·.2)=(ws0.map (·.1)).map s.bx:=by
     rw [hvc.2,wQ5];exact List.map_congr_left λp hp=>by
      simp only [yQA,Function.comp_apply];exact jX1 s.bx (hall p hp)
    have e2:s.setBs (ws0.map (·.1)) (ws0.map (·.2))=s:=by rw [e,zJQ]
    refine h _ _ _ rfl w0 S n ι a w K Q hr hvc.1 λι' u w' h1 h2=>hK ι' u w' ?_ ?_
    ·rw [e2] at h1; exact h1
    ·rw [e2] at h2; exact h2
   ·cases hs
  ·cases hs
abbrev wX6:=@List.take_left'
abbrev wQ7:=@List.map_append
theorem zKe {Γ:Gam} {f:FuncId} {xs:List AV}
  (hex:enters P f=true->∀ (w0:World) (S:zQV) (n:Dom) (ι:zQf) (a:Act) (w:World),RepS w0 S n s ι a w->∃ vs:Array Value,(execOp a.eval o).run P w=.ok (.enter f vs) w /\
   ∀ ι2 s2,s2.tm=s.tm->RepS w0 S n s2 ι2 a w->RepAVs w (Seen S w0.heap.size s2.bx ι2) ι2 s2.bx xs vs.toList):jZk P o s (zG3 P Γ o.dst f xs):=by
 unfold zG3;split
 ·rename_i ms pin nnew hm hen;intro e' he vc v ws hf;simp only [wQa] at he;subst he;simp only at hf;have e1:((zYW ms xs++nubN (zXi ms xs)).map s.bx).take (zYW ms xs).length=(zYW ms xs).map s.bx:=by
   rw [wQ7,wX6 (by simp)]
  have e2:((zYW ms xs++nubN (zXi ms xs)).map s.bx).drop (zYW ms xs).length=(nubN (zXi ms xs)).map s.bx:=by
   rw [wQ7,List.drop_left' (by simp)]
  simp only [Eff2.all] at hf;rw [e1,e2] at hf;generalize zYm (nubN (zXi ms xs)) ((nubN (zXi ms xs)).map s.bx)=l2 at hf;have e0:∀ m:List Nat,((l2++m).map s.bx).take l2.length=l2.map s.bx:=λm=>by rw [wQ7,wX6 (by simp)]
  rw [e0] at hf;generalize zYm (nubN (zXi ms xs)++l2) (l2.map s.bx)=l3 at hf;generalize zHg o.dst (nubN (zXi ms xs)++(l2++l3)) (_%1000)=news at hf;rw [show l2++(l3++news)=(l2++l3)++news from (List.append_assoc ..).symm] at hf;clear e0;generalize l2++l3=l2 at hf;have e3:((l2++news).map s.bx).take l2.length=l2.map s.bx:=by rw [wQ7,wX6 (by simp)]
  have e4:((l2++news).map s.bx).drop l2.length=news.map s.bx:=by rw [wQ7,List.drop_left' (by simp)]
  rw [e3,e4,<- wQ7,<- wQ7,List.append_assoc] at hf;refine jJf (λvc v ws hf=>?_) hf;exact jVh (hex hen) (λb hb=>hb) (λb hb=>by rw [List.mem_append]; exact .inl (jKM.2 hb)) hf
 ·exact .none
theorem zHW {w0:World} {S:zQV} {n:Dom} {a:Act} {w:World} {ι2:zQf} {s2:AS} (ht:s2.tm=s.tm) (hr:RepS w0 S n s2 ι2 a w) (args:List Operand):RepAVs w (Seen S w0.heap.size s2.bx ι2) ι2 s2.bx (args.map s.eval) (args.map a.eval):=by
 have heval:s2.eval=s.eval:=by funext x; cases x<;>simp [AS.eval,ht]
 induction args with
 | nil=>simp only [wQk,RepAVs]
 | cons x xs ih=>
  simp only [wQg,RepAVs];exact ⟨by rw [<- heval]; exact hr.eval x,ih⟩
theorem jYQ {w:World} {V:Nat->Prop} {ι:zQf} {bx:Nat->Bx}:∀ {cs:List Cap} {vs:List Value},zXJ ι bx w V cs vs->RepAVs w V ι bx (cs.map Cap.av) vs
 | [],[],_=>by simp only [wQk,RepAVs]
 | c::cs,v::vs,h=>by
  simp only [wQg,RepAVs];refine ⟨?_,jYQ h.2⟩;cases c<;>simp only [Cap.av,zQd,zQk]<;>exact h.1
 | [],_::_,h=>h.elim
 | _::_,[],h=>h.elim
theorem jQS {w:World} {V:Nat->Prop} {ι:zQf} {bx:Nat->Bx}:∀ {xs:List AV} {us:List Value} {ys:List AV} {vs:List Value},RepAVs w V ι bx xs us->RepAVs w V ι bx ys vs->RepAVs w V ι bx (xs++ys) (us++vs)
 | [],[],_,_,_,h=>h
 | _::_,_::_,_,_,h,h'=>by
  simp only [RepAVs,List.cons_append] at h |-;exact ⟨h.1,jQS h.2 h'⟩
 | [],_::_,_,_,h,_=>by simp only [RepAVs] at h
 | _::_,[],_,_,h,_=>by simp only [RepAVs] at h
theorem jJm {Γ:Gam} (o:Oper) (s:AS):jZk P o s (zV7 P Γ o s.eval):=by
 unfold zV7;split
 ·rename_i c h;obtain ⟨callee,args,ts⟩:=c;simp only;split
  ·rename_i f;split
   ·exact zKe λhen w0 S n ι a w hr=>⟨args.map a.eval,jQE h hen w0 S n ι a w hr,λι2 s2 ht hr2=>by simpa using zHW ht hr2 args.toList⟩
   ·exact jXN (zVq o s) (by unfold prep; rw [h])
  ·rename_i t;split
   ·rename_i f hx;split
    ·exact zKe λhen w0 S n ι a w hr=>⟨args.map a.eval,zGP h hx hen w0 S n ι a w hr,λι2 s2 ht hr2=>by simpa using zHW ht hr2 args.toList⟩
    ·exact jXN (zVq o s) (by unfold prep; rw [h]; simp only [hx])
   ·rename_i f cs hx;refine zKe λhen w0 S n ι a w hr=>?_;have hv:=hr.eval (.tmp t);rw [hx] at hv;simp only [zQd,zQk] at hv;obtain ⟨lb,hv,hc⟩:=hv;refine ⟨args.map a.eval++lb,?_,λι2 s2 ht hr2=>?_⟩
    ·simp [execOp,h,resolve,hv,Deferred.ofValue,invoke,zWC hen]
    ·have hv2:=hr2.eval (.tmp t);have hx2:s2.eval (.tmp t)=.one (.clo f cs):=by rw [<- hx]; simp [AS.eval,ht]
     rw [hx2,hv] at hv2;simp only [zQd,zQk] at hv2;obtain ⟨lb2,e,hc2⟩:=hv2;injection e with _ _ e
     subst e;have:=jQS (zHW ht hr2 args.toList) (jYQ hc2);simpa using this
   ·exact .none
  ·exact (zVq o s).up
 ·exact (zVq o s).up
theorem jUI {Γ:Gam} {n:Dom} {o:Oper} {s s':AS} {vc:Prop} (h:aop P Γ n o s=some (vc,s')) {w0:World} {S:zQV} {ι:zQf} {a:Act} {w:World} {K:Act->World->Prop} {Q:Exit->Act->World->Prop}
  (hr:RepS w0 S n s ι a w) (hvc:vc) (hK:∀ ι' a' w',RepS w0 S n s' ι' a' w'->K a' w'):o.wp P a w K Q:=by
 unfold aop at h;split at h
 ·rename_i hd;split at h
  ·rename_i e he;split at h
   ·rename_i vc' v ws hf;simp only [wQa,wQc] at h;obtain ⟨rfl,rfl⟩:=h;refine jJm (Γ:=Γ) o s e he vc' v ws hf w0 S n ι a w K Q hr hvc λι' u w' h1 h2=>hK ι' _ w' (h1.put (λk hk=>?_) h2);unfold jYO at hd;rw [hk] at hd;simpa using hd
   ·cases h
  ·cases h
 ·cases h
theorem jJ6 {Γ:Gam} {n:Dom} {o:Oper} {s s':AS} {vc:Prop} (h:aop P Γ n o s=some (vc,s')):∀ c,o.op≠.defer c:=by
 intro c hc;unfold aop zV7 prep at h;rw [hc] at h;simp at h
end
theorem jVx {P:Program} {Γ:Gam} {o:Oper} {ρ ρ':Operand->AV} (h:∀ x∈o.op.operands,ρ x=ρ' x):prep P Γ o ρ=prep P Γ o ρ':=by
 obtain ⟨dst,op,type,pos,after,guard⟩:=o;have pairs:∀ ps:Array (Nat × Operand),(∀ x∈(ps.toList.map (·.2)),ρ x=ρ' x)->(ps.toList.map λp=>(p.1,ρ p.2))=ps.toList.map λp=>(p.1,ρ' p.2):=λps hp=>
  List.map_congr_left λp hm=>by
   simp only [hp p.2 (wQv.2 ⟨p,hm,rfl⟩)]
 have bnd:∀ (o:Option Operand) d,(∀ x,o=some x->ρ x=ρ' x)->zYo ρ o d=zYo ρ' o d:=λo d ho=>by
  cases o with
  | none=>rfl
  | some x=>simp only [zYo,ho x rfl]
 cases op<;>simp only [Op.operands] at h<;>simp only [prep]
 case move x=>rw [h x (by simp)]
 case assign x=>rw [h x (by simp)]
 case pick c a b=>simp only [jX7,h c (by simp),h a (by simp),h b (by simp)]
 case box t x=>simp only [jGd,h x (by simp)]
 case build t ps=>simp only [jZR,pairs ps (λx hx=>h x (by simpa using hx))]
 case buildSlice t n ps=>simp only [zYU,zJp,pairs ps (λx hx=>h x (by simpa using hx))]
 case load t x=>simp only [jKF,h x (by simp)]
 case store t x y=>simp only [jZK,h x (by simp),h y (by simp)]
 case nilCheck x=>simp only [zVw,h x (by simp)]
 case binOp op t x y t'=>simp only [jGe,h x (by simp),h y (by simp)]
 case unOp op t x=>simp only [opUn,h x (by simp)]
 case convert s d x=>simp only [jKG,jZP,jZO,h x (by simp)]
 case makeSlice t l c=>simp only [zKl,h l (by simp),h c (by simp)]
 case slice t x lo hi mx=>
  have e0:zVv P ρ t x lo hi mx=zVv P ρ' t x lo hi mx:=by
   simp only [zVv,h x (by simp),bnd lo _ (λy e=>h y (by subst e; simp)),bnd hi _ (λy e=>h y (by subst e; simp))]
  have e1:∀ b n,zVs P ρ t b n lo hi mx=zVs P ρ' t b n lo hi mx:=λb n=>by
   simp only [zVs,bnd hi _ (λy e=>h y (by subst e; simp))]
  have e2:∀ b n,zVt P ρ t b n lo hi mx=zVt P ρ' t b n lo hi mx:=λb n=>by
   simp only [zVt,bnd lo _ (λy e=>h y (by subst e; simp)),bnd hi _ (λy e=>h y (by subst e; simp))]
  have e3:zVu P ρ t x lo hi mx=zVu P ρ' t x lo hi mx:=by
   simp only [zVu,h x (by simp),bnd hi _ (λy e=>h y (by subst e; simp))]
  rw [e3];split
  ·rfl
  unfold jZL;rw [h x (by simp),e0];split
  ·cases lo with
   | none=>exact e1 _ _
   | some l=>exact e2 _ _
  ·rfl
 case fieldAddr t x f=>simp only [zKn,h x (by simp)]
 case field t x f=>simp only [jZN,h x (by simp)]
 case indexAddr t x y=>simp only [zKm,h x (by simp),h y (by simp)]
 case index t x y=>simp only [jZM,h x (by simp),h y (by simp)]
 case extract x i=>simp only [zWK,h x (by simp)]
 case makeFunc fn fs cs=>
  have h1:fs.toList.map ρ=fs.toList.map ρ':=List.map_congr_left λx hx=>h x (by simp; left; simpa using hx);have h2:cs.toList.map ρ=cs.toList.map ρ':=List.map_congr_left λx hx=>h x (by simp; right; simpa using hx);simp only [h1,h2]
 case call c=>
  obtain ⟨callee,args,ts⟩:=c;have hargs:∀ x∈args.toList,ρ x=ρ' x:=λx hx=>h x (by simp [Call.operands]; right; simpa using hx);have hm:args.toList.map ρ=args.toList.map ρ':=List.map_congr_left hargs
  cases callee with
  | value f=>
   cases f with
   | tmp t=>simp only [hm,h (.tmp t) (by simp [Call.operands])]
   | const v=>rfl
   | global g=>rfl
   | func f=>simp only [hm]
  | invoke r m=>rfl
  | builtin b=>
   simp only;generalize args.toList=l at hargs
   match b,l with
   | .len,[x]=>simp only [hargs x (by simp)]
   | .max,[x,y]=>simp only [hargs x (by simp),hargs y (by simp)]
   | .min,[x,y]=>simp only [hargs x (by simp),hargs y (by simp)]
   | .append,[x,y]=>simp only [hargs x (by simp),hargs y (by simp)]
   | b,[]=>cases b<;>rfl
   | b,[x]=>cases b<;>first | rfl | simp only [hargs x (by simp)]
   | b,[x,y]=>cases b<;>first | rfl | simp only [hargs x (by simp),hargs y (by simp)]
   | b,[x,y,z]=>cases b<;>first | rfl | simp only [hargs x (by simp),hargs y (by simp),hargs z (by simp)]
   | b,_::_::_::_::_=>cases b<;>rfl
theorem jJA {P:Program} {Γ:Gam} {o:Oper} {ρ ρ':Operand->AV} (h:∀ x∈o.op.operands,ρ x=ρ' x):zV7 P Γ o ρ=zV7 P Γ o ρ':=by
 have h1:=jVx (P:=P) (Γ:=Γ) h;unfold zV7;rw [h1]
 cases hop:o.op with
 | call c=>
  obtain ⟨callee,args,ts⟩:=c;rw [hop] at h;simp only [Op.operands] at h;have hargs:∀ x∈args.toList,ρ x=ρ' x:=λx hx=>h x (by simp [Call.operands]; right; simpa using hx);have hm:args.toList.map ρ=args.toList.map ρ':=List.map_congr_left hargs
  cases callee with
  | value x=>
   cases x with
   | func f=>simp only [hm]
   | tmp t=>simp only [hm,h (.tmp t) (by simp [Call.operands])]
   | const v=>rfl
   | global g=>rfl
  | invoke r m=>rfl
  | builtin b=>rfl
 | _=>rfl
def Wide (F:Fence):Prop:=F=Fence.wide\/∃ l,F=Fence.wide.inRound l
theorem Wide.fn {F:Fence} (h:Wide F) (f:FuncId):F.fn f:=by
 rcases h with rfl | ⟨l,rfl⟩<;>trivial
theorem Wide.depth {F:Fence} (h:Wide F):F.depth=none:=by
 rcases h with rfl | ⟨l,rfl⟩<;>rfl
theorem Wide.room {F:Fence} (h:Wide F) (n:Nat):F.room n:=λd hd=>by rw [h.depth] at hd; cases hd
theorem Wide.calls {F:Fence} (h:Wide F) {n:Nat} {P:Program} {f:FuncId} {args:Array Value} {w:World} {R:Ending->World->Prop} (hc:Calls P f args w R):CallsIn F n P f args w R:=by
 have h1:CallsIn Fence.wide n P f args w R:=callsIn_wide.2 hc
 rcases h with rfl | ⟨l,rfl⟩
 ·exact h1
 ·exact h1
theorem Wide.rows {F:Fence} (h:Wide F) {n:Nat} {P:Program} {row:String} {args:Array Value} {w:World} {R:Value->World->Prop} (hc:Rows P row args w R):RowsIn F n P row args w R:=by
 have h1:RowsIn Fence.wide n P row args w R:=λc cs _=>by
  obtain ⟨v,w',r,st⟩:=hc c cs;exact ⟨v,w',r,stepsIn_wide.2 st⟩
 rcases h with rfl | ⟨l,rfl⟩
 ·exact h1
 ·exact h1
theorem Oper.wpIn_of_wp {F:Fence} (hF:Wide F) {m:Nat} {P:Program} {o:Oper} (hd:∀ c,o.op≠.defer c) {a:Act} {w:World} {K:Act->World->Prop} {Q:Exit->Act->World->Prop} (h:o.wp P a w K Q):o.wpIn F m P a w K Q:=by
 refine ⟨λf _=>hF.fn f,?_⟩;rw [Oper.semAt_eq _ _ _ hd];unfold Oper.wp at h;revert h;generalize (execOp a.eval o).run P w=r;intro h
 cases r with
 | ok nx w'=>
  cases nx with
  | value v=>exact h
  | skip=>exact h
  | defer d=>exact h
  | enter f args=>exact ⟨λhx=>by (rw [hF.depth] at hx; cases hx),hF.calls h⟩
  | row row args=>exact ⟨λhx=>by (rw [hF.depth] at hx; cases hx),hF.rows h⟩
  | _=>exact h.elim
 | halt s w'=>
  cases s with
  | panic v=>exact h
  | _=>exact h.elim
section
variable (P:Program) (Γ:Gam) (n:Dom) (ops:Array Oper)
def gv (s:AS) (o:Oper):Option Bool:=
 match o.guard with
 | none=>some true
 | some (j,want)=>match (ops[j]?).bind (·.dst) with
  | none=>none
  | some t=>match s.tm t with
   | .tup []=>some false
   | x=>x.bool?.map (·==want)
def zWh (i:Nat) (s:AS):Option (Prop × AS):=
 match ops[i]? with
 | none=>none
 | some o=>match gv ops s o with
  | none=>none
  | some true=>aop P Γ n o s
  | some false=>if jYO n o then some (True,s.put o.dst (.tup [])) else none
def touch (i:Nat) (s:AS):List Nat × List Nat:=
 match ops[i]? with
 | none=>([],[])
 | some o=>match gv ops s o with
  | some true=>match zV7 P Γ o s.eval with
   | some e=>e.touch s.bx
   | none=>([],[])
  | _=>([],[])
def Runs (τ:Nat->List Nat × List Nat):List Nat->AS->AS->Prop
 | [],s,s'=>s=s'
 | i::R,s,s'=>∃ vc s1,zWh P Γ n ops i s=some (vc,s1)/\vc/\touch P Γ ops i s=τ i/\Runs τ R s1 s'
def jHh (x y:List Nat × List Nat):Bool:=
 (x.2.all λb=>!y.1.contains b && !y.2.contains b)&&(y.2.all λb=>!x.1.contains b)
def jW7 (τ:Nat->List Nat × List Nat) (i j:Nat):Bool:=
 match ops[i]?,ops[j]? with
 | some x,some y=>x.apart ops y&&jHh (τ i) (τ j)
 | _,_=>false
end
section
variable {P:Program} {Γ:Gam} {n:Dom} {ops:Array Oper}
theorem zG2 (s:AS) (d:Option Nat) (v:AV) (t:Nat) (h:d≠some t):(s.put d v).tm t=s.tm t:=by
 cases d with
 | none=>rfl
 | some d=>simp only [AS.put]; rw [if_neg (λe=>h (by rw [e]))]
theorem zUR (s:AS) (d:Option Nat) (v:AV):(s.put d v).bx=s.bx:=by cases d<;>rfl
theorem zZO:∀ (bs:List Nat) (Bs:List Bx) (s:AS) (b:Nat),b ∉ bs->(s.setBs bs Bs).bx b=s.bx b
 | [],_,_,_,_=>by simp [AS.setBs]
 | _::_,[],_,_,_=>by simp [AS.setBs]
 | x::bs,B::Bs,s,b,h=>by
  rw [AS.setBs,zZO bs Bs _ b (λe=>h (by simp [e]))];simp only [AS.setB];rw [if_neg (λe=>h (by simp [e]))]
theorem zYs:∀ (bs:List Nat) (Bs:List Bx) (s s':AS) (b:Nat),(b ∉ bs->s.bx b=s'.bx b)->(Bs.length<bs.length->s.bx b=s'.bx b)->(s.setBs bs Bs).bx b=(s'.setBs bs Bs).bx b
 | [],_,_,_,_,h,_=>by simpa [AS.setBs] using h (by simp)
 | _::_,[],_,_,_,_,h=>by simpa [AS.setBs] using h (by simp)
 | x::bs,B::Bs,s,s',b,h,h'=>by
  rw [AS.setBs,AS.setBs];by_cases e:b=x
  ·refine zYs bs Bs _ _ b (λ_=>by simp [AS.setB,e]) (λ_=>by simp [AS.setB,e])
  ·refine zYs bs Bs _ _ b (λhb=>?_) (λhl=>?_)
   ·simp only [AS.setB,if_neg e]; exact h (by simp [e,hb])
   ·simp only [AS.setB,if_neg e]; exact h' (by simpa using hl)
theorem jVW {i:Nat} {s s1:AS} {vc:Prop} (h:zWh P Γ n ops i s=some (vc,s1)):∃ o v wrs bs,ops[i]?=some o/\wrs=(touch P Γ ops i s).2/\s1=(s.setBs wrs bs).put o.dst v:=by
 unfold zWh at h;split at h
 ·cases h
 ·rename_i o ho;split at h
  ·cases h
  ·rename_i hg;unfold aop at h;split at h
   ·split at h
    ·rename_i e he;split at h
     ·rename_i vc' v ws hf;simp only [wQa,wQc] at h;obtain ⟨rfl,rfl⟩:=h;exact ⟨o,v,ws.map (·.1),ws.map (·.2),ho,by simp [touch,ho,hg,he,Eff2.touch,hf],rfl⟩
     ·cases h
    ·cases h
   ·cases h
  ·rename_i hg;split at h
   ·simp only [wQa,wQc] at h;obtain ⟨rfl,rfl⟩:=h;exact ⟨o,.tup [],[],[],ho,by simp [touch,ho,hg],by simp [AS.setBs]⟩
   ·cases h
theorem zHV {i:Nat} {o:Oper} (ho:ops[i]?=some o) {s s':AS} (htm:∀ t∈o.looksAt ops,s.tm t=s'.tm t) :
  (∀ b∈(touch P Γ ops i s).1,s.bx b=s'.bx b)->touch P Γ ops i s=touch P Γ ops i s'/\(∀ vc s1,zWh P Γ n ops i s=some (vc,s1) ->
   ∃ v bs,s1=(s.setBs (touch P Γ ops i s).2 bs).put o.dst v/\zWh P Γ n ops i s'=some (vc,(s'.setBs (touch P Γ ops i s).2 bs).put o.dst v)):=by
 have hgv:gv ops s o=gv ops s' o:=by
  unfold gv
  cases hg:o.guard with
  | none=>rfl
  | some jw=>
   obtain ⟨j,want⟩:=jw;simp only
   cases ht:(ops[j]?).bind (·.dst) with
   | none=>rfl
   | some t=>
    have:s.tm t=s'.tm t:=htm t (by simp [Oper.looksAt,hg,ht]);simp only [this]
 have hev:∀ x∈o.op.operands,s.eval x=s'.eval x:=λx hx=>by
  cases x with
  | tmp t=>exact htm t (by simp only [Oper.looksAt,List.mem_append,List.mem_filterMap]; exact .inl ⟨_,by simpa using hx,rfl⟩)
  | const v=>rfl
  | global g=>rfl
  | func f=>rfl
 have hprep:zV7 P Γ o s.eval=zV7 P Γ o s'.eval:=jJA hev;intro hbx;have htouch:touch P Γ ops i s=touch P Γ ops i s':=by
  simp only [touch,ho,<- hgv,<- hprep] at hbx |-
  cases hg:gv ops s o with
  | none=>rfl
  | some g=>
   cases g with
   | false=>rfl
   | true=>
    rw [hg] at hbx
    cases he:zV7 P Γ o s.eval with
    | none=>rfl
    | some e=>
     rw [he] at hbx;simp only at hbx |-;exact e.touch_congr hbx
 refine ⟨htouch,λvc s1 h=>?_⟩;unfold zWh at h |-;simp only [ho] at h |-;rw [<- hgv]
 cases hg:gv ops s o with
 | none=>rw [hg] at h; cases h
 | some g=>
  rw [hg] at h
  cases g with
  | false=>
   simp only at h |-;split at h
   ·rename_i hd;simp only [wQa,wQc] at h;obtain ⟨rfl,rfl⟩:=h;have ht:(touch P Γ ops i s).2=[]:=by simp [touch,ho,hg]
    exact ⟨.tup [],[],by rw [ht]; simp [AS.setBs],by rw [ht,if_pos hd]; simp [AS.setBs]⟩
   ·cases h
  | true=>
   simp only at h |-;unfold aop at h |-;split at h
   ·rename_i hd;rw [if_pos hd,<- hprep]
    cases he:zV7 P Γ o s.eval with
    | none=>rw [he] at h; cases h
    | some e=>
     rw [he] at h;simp only at h |-;have ht:touch P Γ ops i s=e.touch s.bx:=by simp [touch,ho,hg,he]
     rw [ht] at hbx;obtain ⟨m1,_,m2⟩:=e.agree hbx;rw [<- m1,<- m2]
     cases hf:e.f (e.rds.map s.bx) ((e.all s.bx).map s.bx) with
     | none=>rw [hf] at h; cases h
     | some r=>
      obtain ⟨vc',v,ws⟩:=r;rw [hf] at h;simp only [wQa,wQc] at h |-;obtain ⟨rfl,rfl⟩:=h;have ht2:(touch P Γ ops i s).2=ws.map (·.1):=by rw [ht]; simp [Eff2.touch,hf]
      exact ⟨v,ws.map (·.2),by rw [ht2]; rfl,rfl,by rw [ht2]; rfl⟩
   ·cases h
theorem swap {τ:Nat->List Nat × List Nat} {i j:Nat} (hi:jW7 ops τ j i=true) {s s1 s2:AS} {v1 v2:Prop}
  (h1:zWh P Γ n ops j s=some (v1,s1)) (t1:touch P Γ ops j s=τ j) (h2:zWh P Γ n ops i s1=some (v2,s2)) (t2:touch P Γ ops i s1=τ i) :
  ∃ s1',zWh P Γ n ops i s=some (v2,s1')/\touch P Γ ops i s=τ i/\zWh P Γ n ops j s1'=some (v1,s2)/\touch P Γ ops j s1'=τ j:=by
 unfold jW7 at hi;split at hi
 ·rename_i oj oi hoj hoi;simp only [wQf] at hi;obtain ⟨hap,hb⟩:=hi;obtain ⟨a1,a2,a3⟩:=Oper.apart_spec hap;simp only [jHh,wQf,List.all_eq_true,wQq] at hb;obtain ⟨b1,b2⟩:=hb;obtain ⟨o',v,wrs,bs,ho',hw,hs1⟩:=jVW h1;rw [hoj] at ho';injection ho' with ho'
  subst ho';rw [t1] at hw;have htm1:∀ t∈oi.looksAt ops,s1.tm t=s.tm t:=λt ht=>by
   rw [hs1,zG2 _ _ _ _ (λe=>a1 t e ht),zZs]
  have hbx1:∀ b,b ∉ (τ j).2->s1.bx b=s.bx b:=λb hb=>by
   rw [hs1,zUR,zZO _ _ _ _ (by rw [hw]; exact hb)]
  obtain ⟨c1,c2⟩:=zHV (P:=P) (Γ:=Γ) (n:=n) hoi htm1 (by
   rw [t2]
   exact λb hb=>hbx1 b (λhm=>by
    have:=b1 b hm;simp only [wZ2,wZD] at this
    exact this.1 hb))
  rw [t2] at c1 c2;obtain ⟨v',bs',e1,e2⟩:=c2 _ _ h2;have htm2:∀ t∈oj.looksAt ops,s.tm t=((s.setBs (τ i).2 bs').put oi.dst v').tm t:=λt ht=>by
   rw [zG2 _ _ _ _ (λe=>a3 t e ht),zZs]
  obtain ⟨d1,d2⟩:=zHV (P:=P) (Γ:=Γ) (n:=n) hoj htm2 (by
   rw [t1];intro b hb;rw [zUR,zZO];intro hm;have:=b2 b hm;simp only [wZ2,wZD] at this
   exact this hb)
  rw [t1] at d1 d2;obtain ⟨v'',bs'',f1,f2⟩:=d2 _ _ h1;refine ⟨_,e2,c1.symm,?_,d1.symm⟩;rw [f2];congr 1;congr 1;rw [e1,f1];apply AS.ext'
  ·funext t;have q:∀ (s:AS) (d:Option Nat) (x:AV) (bs:List Nat) (Bs:List Bx),((s.setBs bs Bs).put d x).tm=(s.put d x).tm:=λs d x bs Bs=>by
    cases d with
    | none=>simp [AS.put,zZs]
    | some d=>simp [AS.put,zZs]
   by_cases g1:oj.dst=some t
   ·have g2:oi.dst≠some t:=a2 t g1;rw [zG2 _ oi.dst _ _ g2,zZs,g1];simp [AS.put]
   ·rw [zG2 _ oj.dst _ _ g1,zZs];by_cases g2:oi.dst=some t
    ·rw [g2]; simp [AS.put]
    ·rw [zG2 _ oi.dst _ _ g2,zG2 _ oi.dst _ _ g2,zZs,zZs,zG2 _ oj.dst _ _ g1,zZs]
  ·funext b;rw [zUR,zUR];by_cases g1:b∈(τ j).2
   ·have hni:b ∉ (τ i).2:=λhm=>by
     have:=b1 b g1;simp only [wZ2,wZD] at this;exact this.2 hm
    rw [zZO (τ i).2 bs' _ b hni,zUR];refine zYs _ _ _ _ _ (λh=>absurd g1 h) (λ_=>?_);rw [zUR,zZO _ _ _ _ hni]
   ·rw [zZO (τ j).2 bs'' _ b g1,zUR];refine zYs _ _ _ _ _ (λ_=>?_) (λ_=>?_)<;>rw [zUR,zZO _ _ _ _ g1]
 ·cases hi
theorem yQX {τ:Nat->List Nat × List Nat} {i:Nat} {B:List Nat} {s':AS}:∀ {A:List Nat} {s:AS},(∀ j∈A,jW7 ops τ j i=true)->Runs P Γ n ops τ (A++i::B) s s' ->
  ∃ vc s1,zWh P Γ n ops i s=some (vc,s1)/\vc/\touch P Γ ops i s=τ i/\Runs P Γ n ops τ (A++B) s1 s'
 | [],s,_,h=>h
 | j::A,s,hA,h=>by
  obtain ⟨vj,sj,h1,h2,h3,h4⟩:=h;obtain ⟨vi,si,g1,g2,g3,g4⟩:=yQX (λk hk=>hA k (by simp [hk])) h4;obtain ⟨s1',e1,e2,e3,e4⟩:=swap (hA j (by simp)) h1 h3 g1 g3;exact ⟨vi,s1',e1,g2,e2,vj,si,e3,h2,e4,g4⟩
end
section
variable (ops:Array Oper)
def jJJ (k:Nat) (t:List Nat):List Edge->Nat
 | []=>0
 | e::es=>match Region.binds .any e&&decide (e.on<k) with
  | true=>(2 ^ e.on ||| t.getD e.on 0) ||| jJJ k t es
  | false=>jJJ k t es
def zK3:Nat->List Nat
 | 0=>[]
 | k+1=>zK3 k++[match ops[k]? with
  | some o=>jJJ k (zK3 k) o.after.toList
  | none=>0]
def zGv (j i:Nat):Bool:=((zK3 ops ops.size).getD i 0).testBit j
def jUP (listed:Array Bool):Prop:=∀ i o,ops[i]?=some o->listed.getD i true=true->i<listed.size->∀ e∈o.after.toList,Region.binds .any e=true->listed.getD e.on false=true
theorem zKq:∀ k,(zK3 ops k).length=k
 | 0=>rfl
 | k+1=>by simp [zK3,zKq k]
theorem zVx:∀ {n k:Nat},k<n->(zK3 ops n).getD k 0=match ops[k]? with
  | some o=>jJJ k (zK3 ops k) o.after.toList
  | none=>0
 | n+1,k,h=>by
  simp only [zK3,List.getD_eq_getElem?_getD];by_cases e:k<n
  ·rw [wQH (by rw [zKq]; exact e)];have:=zVx (n:=n) e;rwa [List.getD_eq_getElem?_getD] at this
  ·have:k=n:=by omega
   subst this;rw [wQp (by rw [zKq]; omega),zKq];simp
theorem zHi {k j:Nat} {t:List Nat}:∀ {es:List Edge},(jJJ k t es).testBit j=true->∃ e∈es,Region.binds .any e=true/\e.on<k/\(e.on=j\/(t.getD e.on 0).testBit j=true)
 | [],h=>by simp [jJJ] at h
 | e::es,h=>by
  simp only [jJJ] at h
  cases hb:Region.binds .any e&&decide (e.on<k) with
  | false=>
   rw [hb] at h;obtain ⟨e',h1,h2⟩:=zHi h;exact ⟨e',by simp [h1],h2⟩
  | true=>
   rw [hb] at h;simp only [Nat.testBit_or,wZW,Nat.testBit_two_pow] at h;simp only [wQf,wQh] at hb
   rcases h with (h | h) | h
   ·exact ⟨e,by simp,hb.1,hb.2,.inl (by simpa using h)⟩
   ·exact ⟨e,by simp,hb.1,hb.2,.inr h⟩
   ·obtain ⟨e',h1,h2⟩:=zHi h;exact ⟨e',by simp [h1],h2⟩
theorem jXj {listed:Array Bool} (hc:jUP ops listed) (hsz:listed.size=ops.size):∀ (i j:Nat) (o:Oper),ops[i]?=some o->(∀ e∈o.after.toList,Region.binds .any e=true->listed.getD e.on false=true)->zGv ops j i=true->listed.getD j false=true:=by
 intro i
 induction i using Nat.strongRecOn with
 | ind i ih=>
  intro j o ho haft hb;have hi:i<ops.size:=(wQ3.1 ho).1;unfold zGv at hb;rw [zVx ops hi,ho] at hb;obtain ⟨e,h1,h2,h3,h4⟩:=zHi hb;have hl:=haft e h1 h2
  rcases h4 with rfl | h4
  ·exact hl
  ·have he:e.on<ops.size:=by omega
   refine ih e.on h3 j ops[e.on] (wZX he) ?_ ?_
   ·refine hc e.on _ (wZX he) ?_ (by omega);have:e.on<listed.size:=by omega
    simp [Array.getD,this] at hl |-;exact hl
   ·unfold zGv;rw [zVx ops he];rw [zVx ops h3] at h4;exact h4
def jU2 (τ:Nat->List Nat × List Nat):Bool:=
 (List.range ops.size).all λi=>((ops[i]?).any λo=>o.after.all λe=>!Region.binds .any e || decide (e.on<i))&&(List.range i).all λj=>zGv ops j i || jW7 ops τ j i
end
section
variable {P:Program} {Γ:Gam} {n:Dom} {ops:Array Oper}
abbrev wQF:=@Option.getD_some
abbrev wX7:=@Option.bind_some
theorem jYu {w0:World} {S:zQV} {s:AS} {ι:zQf} {a:Act} {w:World} (h:RepS w0 S n s ι a w) {o:Oper} {g:Bool} (hg:gv ops s o=some g):Region.wanted o (yielded ops a.tmps)=g:=by
 unfold gv at hg;unfold Region.wanted
 cases ho:o.guard with
 | none=>rw [ho] at hg; simp only [wQa] at hg; exact hg
 | some jw=>
  obtain ⟨j,want⟩:=jw;rw [ho] at hg;simp only at hg |-
  cases ht:(ops[j]?).bind (·.dst) with
  | none=>rw [ht] at hg; cases hg
  | some t=>
   rw [ht] at hg;simp only at hg;have hr:=h.tm t;unfold yielded;rw [ht];simp only [wX7];split at hg
   ·rename_i hs;rw [hs] at hr;simp only [zQd] at hr;obtain ⟨cur,e,hc⟩:=hr;have hcur:cur=#[]:=by
     cases hcl:cur.toList with
     | nil=>exact Array.toList_eq_nil_iff.1 hcl
     | cons _ _=>rw [hcl] at hc; simp only [RepAVs] at hc
    subst hcur;simp only [wQa] at hg;subst hg;rw [wZC] at e
    cases hx:a.tmps[t]? with
    | none=>rfl
    | some x=>
     rw [hx] at e;simp only [wQF] at e;subst e;rfl
   ·cases hb:(s.tm t).bool? with
    | none=>rw [hb] at hg; cases hg
    | some b=>
     rw [hb] at hg;simp only [wQt,wQa] at hg;subst hg;have e:=zKf hr hb;rw [wZC] at e
     cases hx:a.tmps[t]? with
     | none=>rw [hx] at e; simp [undef] at e
     | some x=>
      rw [hx] at e;simp only [wQF] at e;subst e;simp only;cases b<;>cases want<;>rfl
theorem zHU {F:Fence} {m:Nat} (hF:Wide F) {w0:World} {S:zQV} {s s1:AS} {ι:zQf} {a:Act} {w:World} {i:Nat} {vc:Prop} (h:zWh P Γ n ops i s=some (vc,s1)) (hr:RepS w0 S n s ι a w) (hvc:vc) {K:Act->World->Prop} {Q:Exit->Act->World->Prop}
  (hK:∀ ι' a' w',RepS w0 S n s1 ι' a' w'->K a' w'):wpOpIn F m P ops Q i K a w:=by
 unfold zWh at h;unfold Go.wpOpIn;split at h
 ·cases h
 ·rename_i o ho;simp only [ho];split at h
  ·cases h
  ·rename_i hg;rw [if_pos (jYu hr hg)];exact Oper.wpIn_of_wp hF (jJ6 h) (jUI h hr hvc hK)
  ·rename_i hg;rw [jYu hr hg,if_neg (by simp)];split at h
   ·rename_i hd;simp only [wQa,wQc] at h;obtain ⟨rfl,rfl⟩:=h;refine ⟨λ_ _=>hF.fn _,hK ι _ w (hr.put (λk hk=>?_) (by simp only [zQd]; exact ⟨_,rfl,by simp only [RepAVs]⟩))⟩;unfold jYO at hd;rw [hk] at hd;simpa using hd
   ·cases h
theorem jQD {F:Fence} {m:Nat} (hF:Wide F) {τ:Nat->List Nat × List Nat} {w0:World} {S:zQV} {Q:Exit->Act->World->Prop} {s':AS}:∀ {R:List Nat} {s:AS} {ι:zQf} {a:Act} {w:World},Runs P Γ n ops τ R s s'->RepS w0 S n s ι a w ->
  (∀ ι' a' w',RepS w0 S n s' ι' a' w'->Q .normal a' w')->wpOpsIn F m P ops Q R a w
 | [],s,ι,a,w,h,hr,hQ=>by
  have h:s=s':=h;subst h; exact hQ ι a w hr
 | i::R,s,ι,a,w,⟨vc,s1,h1,h2,_,h4⟩,hr,hQ=>by
  rw [wpOpsIn_cons];exact zHU hF h1 hr h2 λι' a' w' hr'=>jQD hF h4 hr' hQ
def left (ops:Array Oper) (listed:Array Bool):List Nat:=(List.range ops.size).filter λi=>!listed.getD i true
abbrev wX9:=@List.filter_eq_self
abbrev wX8:=@List.nodup_append
abbrev wQw:=@List.mem_range
abbrev wXK:=@List.pairwise_cons
theorem jUW {F:Fence} {m:Nat} (hF:Wide F) {τ:Nat->List Nat × List Nat} (hok:jU2 ops τ=true) {w0:World} {S:zQV} {Q:Exit->Act->World->Prop} {s':AS} (hQ:∀ ι' a' w',RepS w0 S n s' ι' a' w'->Q .normal a' w') :
  ∀ (fuel:Nat) (listed:Array Bool) (s:AS) (ι:zQf) (a:Act) (w:World),jUP ops listed->listed.size=ops.size->(left ops listed).length<=fuel->Runs P Γ n ops τ (left ops listed) s s'->RepS w0 S n s ι a w->wpAnyIn F m P .any ops Q fuel listed a w:=by
 simp only [jU2,List.all_eq_true,wQf] at hok;have hready:∀ (listed:Array Bool) i,i∈Region.ready .any ops listed↔i<ops.size/\listed.getD i true=false/\((ops[i]?).map (·.after.all λe=>!Region.binds .any e || listed.getD e.on false)).getD false=true:=by
  intro listed i;simp [Region.ready,wZN]
 have hempty:∀ listed:Array Bool,listed.size=ops.size->Region.ready .any ops listed=[]->left ops listed=[]:=by
  intro listed hsz hr
  cases hl:left ops listed with
  | nil=>rfl
  | cons i R=>
   exfalso;have hi:i∈left ops listed:=by rw [hl]; simp
   simp only [left,wZN,wQw,wQq] at hi;have hsorted:∀ j,j<i->listed.getD j true=true:=by
    intro j hj
    cases hjv:listed.getD j true with
    | true=>rfl
    | false=>
     exfalso;have hjm:j∈left ops listed:=by
      simp only [left,wZN,wQw,wQq];exact ⟨by omega,hjv⟩
     have hp:(left ops listed).Pairwise (· < ·):=List.Pairwise.filter _ List.pairwise_lt_range;rw [hl] at hjm hp
     rcases wQz.1 hjm with e | hm
     ·omega
     ·have:=(wXK.1 hp).1 j hm;omega
   have:i∈Region.ready .any ops listed:=by
    rw [hready];refine ⟨hi.1,hi.2,?_⟩;have h1:=(hok i (wQw.2 hi.1)).1
    cases ho:ops[i]? with
    | none=>rw [ho] at h1; simp at h1
    | some o=>
     rw [ho] at h1;simp only [Option.any_some,wQt,wQF] at h1 |-;rw [Array.all_eq_true_iff_forall_mem] at h1 |-;intro e he;have h2:=h1 e he;simp only [wZW,wQq,wQh] at h2 |-
     rcases h2 with h2 | h2
     ·exact .inl h2
     ·right;have h3:=hsorted e.on h2;have hlt:e.on<listed.size:=by omega
      simp [Array.getD,hlt] at h3 |-;exact h3
   rw [hr] at this;simp at this
 intro fuel
 induction fuel with
 | zero=>
  intro listed s ι a w hcl hsz hl hruns hr;have h0:left ops listed=[]:=List.eq_nil_of_length_eq_zero (by omega);rw [h0] at hruns;have hs:s=s':=hruns;subst hs;refine ⟨?_,hQ ι a w hr⟩
  cases hre:Region.ready .any ops listed with
  | nil=>rfl
  | cons i R=>
   exfalso;have:i∈Region.ready .any ops listed:=by rw [hre]; simp
   rw [hready] at this;have hm:i∈left ops listed:=by
    simp only [left,wZN,wQw,wQq];exact ⟨this.1,this.2.1⟩
   rw [h0] at hm;simp at hm
 | succ fuel ih=>
  intro listed s ι a w hcl hsz hl hruns hr;refine ⟨λhe=>?_,λi hi=>?_⟩
  ·have h0:=hempty listed hsz he;rw [h0] at hruns;have hs:s=s':=hruns;subst hs;exact hQ ι a w hr
  ·rw [hready] at hi;obtain ⟨hlt,hnl,haft⟩:=hi;have hm:i∈left ops listed:=by
    simp only [left,wZN,wQw,wQq];exact ⟨hlt,hnl⟩
   obtain ⟨A,B,hAB⟩:=List.append_of_mem hm;have hp:(left ops listed).Pairwise (· < ·):=List.Pairwise.filter _ List.pairwise_lt_range;rw [hAB] at hp;have hA:∀ j∈A,j<i/\listed.getD j true=false:=λj hj=>by
    refine ⟨(List.pairwise_append.1 hp).2.2 j hj i (by simp),?_⟩;have:j∈left ops listed:=by rw [hAB]; simp [hj]
    simp only [left,wZN,wQw,wQq] at this;exact this.2
   have hind:∀ j∈A,jW7 ops τ j i=true:=λj hj=>by
    obtain ⟨h1,h2⟩:=hA j hj;have h3:=(hok i (wQw.2 hlt)).2 j (wQw.2 h1);simp only [wZW] at h3
    rcases h3 with h3 | h3
    ·exfalso
     cases ho:ops[i]? with
     | none=>rw [ho] at haft; simp at haft
     | some o=>
      rw [ho] at haft;simp only [wQt,wQF] at haft
      have h4:=jXj ops hcl hsz i j o ho (λe he hb=>by
       have:=Array.all_eq_true_iff_forall_mem.1 haft e (Array.mem_toList_iff.1 he)
       simpa [hb] using this) h3
      by_cases hlt':j<listed.size
      ·simp [Array.getD,hlt'] at h2 h4;rw [h2] at h4; cases h4
      ·simp [Array.getD,hlt'] at h2
    ·exact h3
   rw [hAB] at hruns;obtain ⟨vc,s1,g1,g2,_,g4⟩:=yQX hind hruns;have hleft:left ops (listed.setIfInBounds i true)=A++B:=by
    have hnodup:(left ops listed).Nodup:=(List.nodup_range).filter _;have e1:left ops (listed.setIfInBounds i true)=(left ops listed).filter λk=>decide (k≠i):=by
     simp only [left,List.filter_filter];apply List.filter_congr;intro k hk;have hk':k<ops.size:=wQw.1 hk;by_cases e:k=i
     ·subst e;simp [Array.getD,hsz,hlt]
     ·have:(listed.setIfInBounds i true).getD k true=listed.getD k true:=by
       simp only [wZC,wXe (Ne.symm e)]
      rw [this]; simp [e]
    rw [e1,hAB,List.filter_append,List.filter_cons];rw [hAB] at hnodup;have hn:=wX8.1 hnodup;have hA':A.filter (λk=>decide (k≠i))=A:=wX9.2 λk hk=>by
     have:=(hA k hk).1;simp; omega
    have hB':B.filter (λk=>decide (k≠i))=B:=wX9.2 λk hk=>by
     have:i≠k:=λe=>by
      have:=(wXo.1 hn.2.1).1;exact this (by rw [e]; exact hk)
     simp; exact Ne.symm this
    rw [hA',hB'];simp
   refine zHU hF g1 hr g2 λι' a' w' hr'=>?_;have hcl2:jUP ops (listed.setIfInBounds i true):=by
    intro k ok hk hkl hks e he hb;have hmono:∀ q,listed.getD q false=true->(listed.setIfInBounds i true).getD q false=true:=λq hq=>by
     by_cases e':q=i
     ·subst e';simp [Array.getD,hsz,hlt]
     ·simp only [wZC,wXe (Ne.symm e')] at hq |-;exact hq
    refine hmono _ ?_;by_cases e':k=i
    ·subst e';rw [hk] at haft;simp only [wQt,wQF] at haft;have:=Array.all_eq_true_iff_forall_mem.1 haft e (Array.mem_toList_iff.1 he);simpa [hb] using this
    ·have hkl':listed.getD k true=true:=by
      simp only [wZC,wXe (Ne.symm e')] at hkl |-;exact hkl
     exact hcl k ok hk hkl' (by simpa using hks) e he hb
   refine ih _ s1 ι' a' w' hcl2 (by simpa using hsz) ?_ (by rw [hleft]; exact g4) hr';rw [hleft];have:(left ops listed).length=(A++B).length+1:=by rw [hAB]; simp; omega
   omega
end
abbrev Kn:=Nat->Option Bool
def kx (kn:Kn):Operand->Option Bool
 | .const (.bool b)=>some b
 | .tmp t=>kn t
 | _=>none
def knOf (kn:Kn):Op->Option Bool
 | .move x | .assign x=>kx kn x
 | .pick c x y=>match kx kn c with
  | some true=>kx kn x
  | some false=>kx kn y
  | none=>none
 | .unOp .not _ x=>(kx kn x).map (!·)
 | _=>none
def zKK (kn:Kn) (d:Option Nat) (b:Option Bool):Kn:=
 match d with
 | some d=>λt=>if t=d then b else kn t
 | none=>kn
def jWo (x:AV) (b:Bool):AV:=
 match x with
 | .one (.d (.bool _))=>.one (.d (.bool b))
 | .one (.lit (.bool _))=>.one (.lit (.bool b))
 | x=>x
def AS.fix (s:AS) (t:Nat) (b:Bool):AS:=s.put (some t) (jWo (s.tm t) b)
def KnOK (kn:Kn) (s:AS):Prop:=∀ t b,kn t=some b->(s.tm t).bool?=some b
inductive Gd where
  | stuck
  | yes
  | no
  | ask (t:Nat) (b want:Bool)
def gd (ops:Array Oper) (kn:Kn) (s:AS) (o:Oper):Gd:=
 match o.guard with
 | none=>.yes
 | some (j,want)=>match (ops[j]?).bind (·.dst) with
  | none=>.stuck
  | some t=>match kn t with
   | some b=>if b=want then .yes else .no
   | none=>match s.tm t with
    | .tup []=>.no
    | .one (.d (.bool b))=>.ask t b want
    | .one (.lit (.bool b))=>.ask t b want
    | _=>.stuck
section
variable (P:Program) (Γ:Gam) (n:Dom)
def aopT (o:Oper) (s:AS):Option (Prop × AS × (List Nat × List Nat)):=
 if jYO n o then
  match zV7 P Γ o s.eval with
  | some e=>match e.f (e.rds.map s.bx) ((e.all s.bx).map s.bx) with
   | some (vc,v,ws)=>some (vc,(s.setL ws).put o.dst v,(e.rds++e.all s.bx,ws.map (·.1)))
   | none=>none
  | none=>none
 else none
def zJM (ops:Array Oper):List Nat->Kn->AS->List (List Nat × List Nat)->(Kn->AS->List (List Nat × List Nat)->Prop)->Prop
 | [],kn,s,acc,Q=>Q kn s acc
 | i::R,kn,s,acc,Q=>
  match ops[i]? with
  | none=>False
  | some o=>match gd ops kn s o with
   | .stuck=>False
   | .yes=>match aopT P Γ n o s with
    | some (vc,s',t)=>vc/\zJM ops R (zKK kn o.dst (knOf kn o.op)) s' (t::acc) Q
    | none=>False
   | .no=>match jYO n o with
    | true=>zJM ops R (zKK kn o.dst none) (s.put o.dst (.tup [])) (([],[])::acc) Q
    | false=>False
   | .ask t b want=>
    (b=want->match aopT P Γ n o (s.fix t want) with
     | some (vc,s',th)=>vc/\zJM ops R (zKK (zKK kn (some t) (some want)) o.dst (knOf (zKK kn (some t) (some want)) o.op)) s' (th::acc) Q
     | none=>False) /\
    (b=(!want)->match jYO n o with
     | true=>zJM ops R (zKK (zKK kn (some t) (some (!want))) o.dst none) ((s.fix t (!want)).put o.dst (.tup [])) (([],[])::acc) Q
     | false=>False)
end
theorem jVU {x:AV} {b:Bool} (h:x.bool?=some b):jWo x b=x:=by
 unfold AV.bool? at h;split at h
 ·injection h with h; subst h; rfl
 ·injection h with h; subst h; rfl
 ·cases h
theorem jKY {s:AS} {t:Nat} {b:Bool} (h:(s.tm t).bool?=some b):s.fix t b=s:=by
 unfold AS.fix;rw [jVU h];apply AS.ext'
 ·funext t';simp only [AS.put];split
  ·rename_i e; rw [e]
  ·rfl
 ·rfl
theorem jZY {kn:Kn} {s:AS} (h:KnOK kn s) {x:Operand} {b:Bool} (hx:kx kn x=some b):(s.eval x).bool?=some b:=by
 unfold kx at hx;split at hx
 ·injection hx with hx; subst hx; rfl
 ·exact h _ _ hx
 ·cases hx
section
variable {P:Program} {Γ:Gam} {n:Dom} {ops:Array Oper}
theorem jGR {o:Oper} {s s':AS} {vc:Prop} {t:List Nat × List Nat} (h:aopT P Γ n o s=some (vc,s',t)):aop P Γ n o s=some (vc,s')/\∃ e,zV7 P Γ o s.eval=some e/\t=e.touch s.bx:=by
 unfold aopT at h;unfold aop;split at h
 ·rename_i hd;rw [if_pos hd];split at h
  ·rename_i e he;split at h
   ·rename_i vc' v ws hf;simp only [wQa,wQc] at h;obtain ⟨rfl,rfl,rfl⟩:=h;refine ⟨?_,e,he,by simp [Eff2.touch,hf]⟩
    try rw [he]
    simp only [hf]
   ·cases h
  ·cases h
 ·cases h
theorem yQB {kn:Kn} {s s':AS} (h:KnOK kn s) {o:Oper} {vc:Prop} (ha:aop P Γ n o s=some (vc,s')):KnOK (zKK kn o.dst (knOf kn o.op)) s':=by
 unfold aop at ha;split at ha
 ·split at ha
  ·rename_i e he;split at ha
   ·rename_i vc' v bs hf;simp only [wQa,wQc] at ha;obtain ⟨rfl,rfl⟩:=ha;intro t b hb
    cases hd:o.dst with
    | none=>
     rw [hd] at hb;have hb:kn t=some b:=hb
     show ((s.setL bs).tm t).bool?=some b
     rw [AS.setL,zZs];exact h t b hb
    | some d=>
     rw [hd] at hb;simp only [zKK] at hb;by_cases e1:t=d
     ·rw [if_pos e1] at hb;simp only [AS.put,if_pos e1];unfold knOf at hb;unfold zV7 at he;have he':(prep P Γ o s.eval).map Eff.up=some e:=by
       split at he
       ·rename_i c hc;rw [hc] at hb;cases hb
       ·exact he
      clear he;obtain ⟨e0,he,rfl⟩:=wQK.1 he';clear he';simp only [Eff.up] at hf;obtain ⟨⟨vc0,v0,bs0⟩,hf2,hf'⟩:=wQK.1 hf;clear hf;have hf:=hf2;clear hf2;simp only [wQc] at hf';obtain ⟨rfl,rfl,rfl⟩:=hf';unfold prep at he;split at hb
      ·rename_i x hop;rw [hop] at he;simp only [wQa] at he;subst he;simp only [Eff.val,wQa,wQc] at hf;rw [<- hf.2.1]; exact jZY h hb
      ·rename_i x hop;rw [hop] at he;simp only [wQa] at he;subst he;simp only [Eff.val,wQa,wQc] at hf;rw [<- hf.2.1]; exact jZY h hb
      ·rename_i c x y hop;rw [hop] at he;simp only [jX7] at he;split at hb
       ·rename_i hc;rw [jZY h hc] at he;simp only [wQa] at he;subst he;simp only [Eff.val,wQa,wQc] at hf;rw [<- hf.2.1]; exact jZY h hb
       ·rename_i hc;rw [jZY h hc] at he;simp only [wQa] at he;subst he;simp only [Eff.val,wQa,wQc] at hf;rw [<- hf.2.1]; exact jZY h hb
       ·cases hb
      ·rename_i t' x hop;rw [hop] at he;simp only [opUn] at he
       cases hx:kx kn x with
       | none=>rw [hx] at hb; cases hb
       | some bx=>
        rw [hx] at hb;simp only [wQt,wQa] at hb;have:=jZY h hx;unfold AV.bool? at this;split at this
        ·rename_i b' hs;rw [hs] at he;simp only [wQa] at this he;subst this he;simp only [Eff.val,wQa,wQc] at hf;rw [<- hf.2.1,<- hb]; rfl
        ·rename_i b' hs;rw [hs] at he;simp only [wQa] at this he;subst this he;simp only [Eff.val,wQa,wQc] at hf;rw [<- hf.2.1,<- hb]; rfl
        ·cases this
      ·cases hb
     ·rw [if_neg e1] at hb;simp only [AS.put,if_neg e1];rw [AS.setL,zZs];exact h t b hb
   ·cases ha
  ·cases ha
 ·cases ha
theorem jG9 {kn:Kn} {s:AS} (h:KnOK kn s) {t:Nat} {b:Bool} (ht:(s.tm t).bool?=some b):KnOK (zKK kn (some t) (some b)) s:=by
 intro t' b' hb;simp only [zKK] at hb;by_cases e:t'=t
 ·rw [if_pos e] at hb; injection hb with hb; subst hb; rw [e]; exact ht
 ·rw [if_neg e] at hb; exact h _ _ hb
theorem jHL {kn:Kn} {s:AS} (h:KnOK kn s) (d:Option Nat):KnOK (zKK kn d none) (s.put d (.tup [])):=by
 intro t b hb
 cases d with
 | none=>exact h t b hb
 | some d=>
  simp only [zKK] at hb;by_cases e:t=d
  ·rw [if_pos e] at hb; cases hb
  ·rw [if_neg e] at hb;simp only [AS.put,if_neg e];exact h t b hb
def Ran (P:Program) (Γ:Gam) (n:Dom) (ops:Array Oper) (R:List Nat) (s:AS) (acc:List (List Nat × List Nat)) (Q:Kn->AS->List (List Nat × List Nat)->Prop):Prop:=
 ∃ (kn':Kn) (s':AS) (ts:List (List Nat × List Nat)),Q kn' s' (ts.reverse++acc)/\KnOK kn' s'/\ts.length=R.length/\∀ τ:Nat->List Nat × List Nat,(∀ (k:Nat) (i:Nat),R[k]?=some i->τ i=ts.getD k ([],[]))->Runs P Γ n ops τ R s s'
theorem zUc:∀ {R:List Nat} {kn:Kn} {s:AS} {acc:List (List Nat × List Nat)} {Q:Kn->AS->List (List Nat × List Nat)->Prop},zJM P Γ n ops R kn s acc Q->KnOK kn s ->
  Ran P Γ n ops R s acc Q
 | [],kn,s,acc,Q,h,hk=>⟨kn,s,[],h,hk,rfl,λτ _=>rfl⟩
 | i::R,kn,s,acc,Q,h,hk=>by
  have yes:∀ {o:Oper} {kn1:Kn},ops[i]?=some o->gv ops s o=some true->KnOK kn1 s->(match aopT P Γ n o s with
    | some (vc,s',t)=>vc/\zJM P Γ n ops R (zKK kn1 o.dst (knOf kn1 o.op)) s' (t::acc) Q
    | none=>False)->Ran P Γ n ops (i::R) s acc Q:=by
   intro o kn1 ho hg hk1 h;split at h
   ·rename_i vc s1 t ha;obtain ⟨hvc,h⟩:=h;obtain ⟨h1,e,he,rfl⟩:=jGR ha;obtain ⟨kn',s',ts,g1,g2,g3,g4⟩:=zUc h (yQB hk1 h1);refine ⟨kn',s',e.touch s.bx::ts,by simpa using g1,g2,by simp [g3],λτ hτ=>⟨vc,s1,by simp [zWh,ho,hg,h1],hvc,?_,g4 τ λk j hj=>by simpa using hτ (k+1) j (by simpa using hj)⟩⟩;have:=hτ 0 i rfl;rw [this];simp [touch,ho,hg,he]
   ·exact h.elim
  have no:∀ {o:Oper} {kn1:Kn},ops[i]?=some o->gv ops s o=some false->KnOK kn1 s->(match jYO n o with
    | true=>zJM P Γ n ops R (zKK kn1 o.dst none) (s.put o.dst (.tup [])) (([],[])::acc) Q
    | false=>False)->Ran P Γ n ops (i::R) s acc Q:=by
   intro o kn1 ho hg hk1 h;split at h
   ·rename_i hd;obtain ⟨kn',s',ts,g1,g2,g3,g4⟩:=zUc h (jHL hk1 o.dst);refine ⟨kn',s',([],[])::ts,by simpa using g1,g2,by simp [g3],λτ hτ=>⟨True,_,by simp only [zWh,ho,hg,hd,if_true],trivial,?_,g4 τ λk j hj=>by simpa using hτ (k+1) j (by simpa using hj)⟩⟩;have:=hτ 0 i rfl;rw [this];simp [touch,ho,hg]
   ·exact h.elim
  unfold zJM at h;split at h
  ·exact h.elim
  ·rename_i o ho;split at h
   ·exact h.elim
   ·rename_i hg;have hgv:gv ops s o=some true:=by
     unfold gd at hg;unfold gv
     cases hgu:o.guard with
     | none=>rfl
     | some jw=>
      obtain ⟨j,want⟩:=jw;rw [hgu] at hg;simp only at hg |-
      cases ht:(ops[j]?).bind (·.dst) with
      | none=>rw [ht] at hg; cases hg
      | some t=>
       rw [ht] at hg;simp only at hg |-
       cases hkt:kn t with
       | some b=>
        rw [hkt] at hg;simp only at hg;split at hg
        ·rename_i hbw;subst hbw;have hb:=hk t b hkt;split
         ·rename_i hs; rw [hs] at hb; simp [AV.bool?] at hb
         ·rw [hb]; simp
        ·cases hg
       | none=>
        rw [hkt] at hg;simp only at hg;split at hg<;>cases hg
    exact yes ho hgv hk h
   ·rename_i hg;have hgv:gv ops s o=some false:=by
     unfold gd at hg;unfold gv
     cases hgu:o.guard with
     | none=>rw [hgu] at hg; cases hg
     | some jw=>
      obtain ⟨j,want⟩:=jw;rw [hgu] at hg;simp only at hg |-
      cases ht:(ops[j]?).bind (·.dst) with
      | none=>rw [ht] at hg; cases hg
      | some t=>
       rw [ht] at hg;simp only at hg |-
       cases hkt:kn t with
       | some b=>
        rw [hkt] at hg;simp only at hg;split at hg
        ·cases hg
        ·rename_i hbw;have hb:=hk t b hkt;split
         ·rfl
         ·rw [hb]; simp [hbw]
       | none=>
        rw [hkt] at hg;simp only at hg;split at hg
        ·rename_i hs; simp [hs]
        ·cases hg
        ·cases hg
        ·cases hg
    exact no ho hgv hk h
   ·rename_i t b want hg;have hgt:∃ j,o.guard=some (j,want)/\(ops[j]?).bind (·.dst)=some t/\(s.tm t).bool?=some b:=by
     unfold gd at hg
     cases hgu:o.guard with
     | none=>rw [hgu] at hg; cases hg
     | some jw=>
      obtain ⟨j,want'⟩:=jw;rw [hgu] at hg;simp only at hg
      cases ht:(ops[j]?).bind (·.dst) with
      | none=>rw [ht] at hg; cases hg
      | some t'=>
       rw [ht] at hg;simp only at hg
       cases hkt:kn t' with
       | some b'=>rw [hkt] at hg; simp only at hg; split at hg<;>cases hg
       | none=>
        rw [hkt] at hg;simp only at hg;split at hg
        ·cases hg
        ·rename_i b' hs;simp only [Gd.ask.injEq] at hg;obtain ⟨rfl,rfl,rfl⟩:=hg;exact ⟨j,rfl,ht,by rw [hs]; rfl⟩
        ·rename_i b' hs;simp only [Gd.ask.injEq] at hg;obtain ⟨rfl,rfl,rfl⟩:=hg;exact ⟨j,rfl,ht,by rw [hs]; rfl⟩
        ·cases hg
    obtain ⟨j,h1,h2,h3⟩:=hgt;have hgv:gv ops s o=some (b==want):=by
     unfold gv;rw [h1];simp only [h2];split
     ·rename_i hs; rw [hs] at h3; simp [AV.bool?] at h3
     ·rw [h3]; simp
    by_cases hbw:b=want
    ·subst hbw;rw [jKY h3] at h;exact yes ho (hgv.trans (by simp)) (jG9 hk h3) (h.1 rfl)
    ·have hbn:b=!want:=by cases b<;>cases want<;>simp_all
     subst hbn;rw [jKY h3] at h;exact no ho (hgv.trans (by cases want<;>rfl)) (jG9 hk h3) (h.2 rfl)
end
def jK9 (w:World):Bool × List DV->Value->Prop
 |(false,ds),v=>∃ d,ds=[d]/\d.plain=some v
 |(true,ds),v=>∃ g,v=.pointer (some ⟨g,0,none⟩)/\∀ i d,ds[i]?=some d->∃ u,d.plain=some u/\w.cell? ⟨g,i,none⟩=some u
def jY5 (w:World):List (Bool × List DV)->List Value->Prop
 | [],[]=>True
 | c::cs,v::vs=>jK9 w c v/\jY5 w cs vs
 | _,_=>False
def zHI (ds:List DV):Array Value:=(ds.map λd=>d.plain.getD undef).toArray
def AnsI (P:Program) (g:FuncId) (caps:List (Bool × List DV)) (N:Nat) (item:Nat->List DV):Prop:=
 ∀ (lb:Array Value) (l m:Nat) (J:Nat->World->Prop) (Jx:World->Prop),
  (∀ k W,J k W->jY5 W caps lb.toList) ->
  (∀ k W d,J k W->J k { W with drawn:=d })->(∀ W d,Jx W->Jx { W with drawn:=d }) ->
  (∀ k W,k<N->J k W->YieldAt Fence.wide m P l (zHI (item k)) W λe W'=>(e=.returned (.bool true)/\J (k+1) W')\/(e=.returned (.bool false)/\Jx W')) ->
  ∀ W,J 0 W->CallsIn Fence.wide m P g (#[.func (.yield l) #[] #[]]++lb) W λe W'=>(∃ v,e=.returned v)/\(J N W'\/Jx W')
def jUY (I:World->Prop) (Ix:Code->World->Prop) (W:World):Exit->Act->World->Prop
 | .normal,_,W'=>KeepsOthers W W'/\I W'
 | .ret,_,W'=>KeepsOthers W W'/\Ix .ret W'
 | .exit id,_,W'=>KeepsOthers W W'/\Ix (.exit id) W'
 | _,_,_=>False
def zU2 (B:Nat) (I:World->Prop):Prop:=
 ∀ W W' row,I W->W.grownBy W' row->(∀ r,row=some r->B<=r/\∃ o:Obj,W.heap[r]?=some o/\o.isCells=false)->I W'
abbrev wYa:=@grownBy_putObj'
theorem zU2.put {B:Nat} {I:World->Prop} (h:zU2 B I) {W:World} {l:Nat} {o:Obj} (o':Obj) (hs:I W) (hB:B<=l) (hl:W.heap[l]?=some o) (ho:o.isCells=false):I (W.putObj l o'):=
 h W _ (some l) hs (wYa W l o') (λr e=>by cases e; exact ⟨hB,o,hl,ho⟩)
theorem zU2.new_ {B:Nat} {I:World->Prop} (h:zU2 B I) {W:World} (o:Obj) (hs:I W):I (W.alloc o):=
 h W _ none hs (World.grownBy_alloc W o none) (λr e=>by cases e)
theorem zU2.drawn {B:Nat} {I:World->Prop} (h:zU2 B I) {W:World} (d:Nat) (hs:I W):I { W with drawn:=d }:=
 h W _ none hs ⟨rfl,rfl,rfl,Nat.le_refl _,λ_ _ _=>rfl⟩ (λr e=>by cases e)
abbrev wXp:=@World.putObj_heap_other
theorem jWF {P:Program} {g:Operand} {ps:Array Tmp} {assign body:Code} {Q:Exit->Act->World->Prop} {a:Act} {w:World} {m gf:Nat} {lb:Array Value}
  (hg:a.eval g=.func (.func gf) #[] lb) (eg:∀ args w,(callFunc gf args).run P w=.ok (.enter gf args) w)
  {caps:List (Bool × List DV)} {N:Nat} {item:Nat->List DV} (hseq:AnsI P gf caps N item) (hps:∀ k,k<N->(item k).length=ps.size)
  (I:Nat->World->Prop) (Ix:Code->World->Prop) (hI:∀ k,zU2 w.heap.size (I k)) (hIx:∀ c,zU2 w.heap.size (Ix c))
  (hcaps:∀ k W,I k W->jY5 W caps lb.toList) (h0:I 0 w)
  (hround:∀ l k W,k<N->I k W ->
   assign.wpIn (Fence.wide.inRound l) m P (Exit.then (λa1 W1=>KeepsOthers W W1/\∀ W2,W1.grownBy W2 (some l)->w.heap.size<=l->(∃ r:Loop,W1.heap[l]?=some (.loop r)) ->
    body.wpIn (Fence.wide.inRound l) m P (jUY (I (k+1)) Ix W2) a1 W2) (λ_ _ _=>False))
    { tmps:=(ps.zip (zHI (item k))).foldl (λt (p,v)=>t.setIfInBounds p v) a.tmps,defers:=[] } W)
  (hdone:∀ (D:Nat) (W:World),w.heap.size<=D->I N W->W.heap[D]?=some (.deferred (some []))->Q .normal { a with defers:={ target:=.collected D,args:=#[] }::a.defers } W)
  (hstop:∀ (D:Nat) (c:Code) (W:World),w.heap.size<=D->Ix c W->W.heap[D]?=some (.deferred (some []))->c.wpIn Fence.wide m P Q { a with defers:={ target:=.collected D,args:=#[] }::a.defers } W) :
  (Code.rangeFunc g ps assign body).wpIn Fence.wide m P Q a w:=by
 refine wpIn_rangeFunc ?_;intro fn hfn
 show ∃ (l:Nat) (mark:List Deferred) (w₁:World) (d:Deferred) (w₁':World) (f:FuncId) (args:Array Value) (w₂:World),(Instr.enterLoop fn a.tmps ps assign body none).run P w=_/\_
 obtain ⟨rec,hrec⟩:∃ rec:LoopState->Option Code->Loop,rec=λst pe=>{ state:=st,pending:=pe,fn,tmps:=a.tmps,params:=ps,assign,body,defers:=w.heap.size }:=⟨_,rfl⟩
 obtain ⟨W1,hW1⟩:∃ W1,(w.alloc (.deferred (some []))).alloc (.loop (rec .ready none))=W1:=⟨_,rfl⟩
 have hL1:W1.heap[w.heap.size+1]?=some (.loop (rec .ready none)):=by
  rw [<- hW1]; have:=World.alloc_heap_new (w.alloc (.deferred (some []))) (.loop (rec .ready none)); rwa [World.size_alloc] at this
 have hK1:W1.heap[w.heap.size]?=some (.deferred (some [])):=by
  rw [<- hW1]; exact (Below.heap_alloc _ _ _ (by simp)).trans (World.alloc_heap_new w _)
 have hI1:I 0 W1:=by rw [<- hW1]; exact (hI 0).new_ _ ((hI 0).new_ _ h0)
 refine ⟨w.heap.size+1,[{ target:=.collected w.heap.size,args:=#[] }],W1,{ target:=.fn (.func gf) lb,args:=#[.func (.yield (w.heap.size+1)) #[] #[]] },W1,gf,
  #[.func (.yield (w.heap.size+1)) #[] #[]]++lb,W1,?_,?_,?_,?_,λh=>by (cases h),?_⟩
 ·rw [<- hW1,hrec]; exact run_enterLoop_outer _ _ _ _ _
 ·simp only [resolve,hg];simp [go_sem]
 ·intro f' hf'; trivial
 ·simp [invoke,go_sem,eg]
 ·refine CallsIn.mono (hseq lb (w.heap.size+1) (m-1)
   (λk W=>I k W/\W.heap[w.heap.size+1]?=some (.loop (rec .ready none))/\W.heap[w.heap.size]?=some (.deferred (some [])))
   (λW=>∃ c,Ix c W/\W.heap[w.heap.size+1]?=some (.loop (rec .done (some c)))/\W.heap[w.heap.size]?=some (.deferred (some [])))
   (λk W h=>hcaps k W h.1) (λk W d h=>⟨(hI k).drawn d h.1,h.2.1,h.2.2⟩) (λW d ⟨c,h1,h2,h3⟩=>⟨c,(hIx c).drawn d h1,h2,h3⟩) ?_ W1 ⟨hI1,hL1,hK1⟩) ?_
  ·
   rintro k W hk ⟨hi,hl,hkd⟩;have hy:=run_yield (P:=P) (args:=zHI (item k)) hl (by rw [hrec]; simp only [zHI,wZs,wQu]; exact hps k hk);rw [hrec] at hy;refine ⟨fn,_,assign,body,hy,roundIn_of_wpIn trivial ?_⟩;have hr:=hround (w.heap.size+1) k W hk hi;have hr:assign.wpIn (Fence.wide.inRound (w.heap.size+1)) (m-1) P _ _ W:=λb k cs h1 h2 _=>hr b k cs h1 h2 (Wide.room (.inr ⟨_,rfl⟩) _);refine wpIn_mono hr ?_;intro e a1 Wa hq
   cases e with
   | normal=>
    obtain ⟨hka,hq⟩:=hq;have hla:=hka.same _ _ hl rfl;have hda:=hka.same _ _ hkd rfl;have hbr:=run_beginRound (P:=P) hla (by rw [hrec]);refine ⟨_,hbr,?_⟩;have hlt:w.heap.size+1<Wa.heap.size:=(wQ3.1 hla).1;have hl2:(Wa.putObj (w.heap.size+1) (.loop { rec .ready none with state:=.busy })).heap[w.heap.size+1]?=some (.loop { rec .ready none with state:=.busy }):=World.putObj_heap_same hlt;have hk2:(Wa.putObj (w.heap.size+1) (.loop { rec .ready none with state:=.busy })).heap[w.heap.size]?=some (.deferred (some [])):=(wXp (by omega)).trans hda;have hb:=hq _ (wYa Wa (w.heap.size+1) (.loop { rec .ready none with state:=.busy })) (by omega) ⟨_,hla⟩;have hb:body.wpIn (Fence.wide.inRound (w.heap.size+1)) (m-1) P _ a1 _:=λb k cs h1 h2 _=>hb b k cs h1 h2 (Wide.room (.inr ⟨_,rfl⟩) _);refine wpIn_mono hb ?_;have fin:∀ (jump:Option Code) (W3:World),KeepsOthers (Wa.putObj (w.heap.size+1) (.loop { rec .ready none with state:=.busy })) W3 ->
      (Instr.endRound (w.heap.size+1) jump).run P W3=.ok (.bool jump.isNone) (W3.putObj (w.heap.size+1) (.loop (rec (if jump.isNone then .ready else .done) jump))) /\
      W3.heap[w.heap.size+1]?=some (.loop { rec .ready none with state:=.busy }) /\
      (W3.putObj (w.heap.size+1) (.loop (rec (if jump.isNone then .ready else .done) jump))).heap[w.heap.size+1]?=some (.loop (rec (if jump.isNone then .ready else .done) jump)) /\
      (W3.putObj (w.heap.size+1) (.loop (rec (if jump.isNone then .ready else .done) jump))).heap[w.heap.size]?=some (.deferred (some [])):=λjump W3 hk3=>by
     have hl3:=hk3.same _ _ hl2 rfl;have:=run_endRound (P:=P) jump hl3;rw [hrec] at this |-;exact ⟨this,by rw [hrec] at hl3; exact hl3,World.putObj_heap_same (wQ3.1 hl3).1,(wXp (by omega)).trans (hk3.same _ _ hk2 rfl)⟩
    intro e3 a3 W3 hp
    cases e3 with
    | normal=>
     obtain ⟨hk3,hi3⟩:=hp;obtain ⟨hr,hl3,hl4,hk4⟩:=fin none W3 hk3;exact ⟨_,_,hr,.inl ⟨rfl,(hI _).put _ hi3 (by omega) hl3 rfl,hl4,hk4⟩⟩
    | ret=>
     obtain ⟨hk3,hi3⟩:=hp;obtain ⟨hr,hl3,hl4,hk4⟩:=fin (some .ret) W3 hk3;exact ⟨_,_,hr,.inr ⟨rfl,.ret,(hIx _).put _ hi3 (by omega) hl3 rfl,hl4,hk4⟩⟩
    | exit id=>
     obtain ⟨hk3,hi3⟩:=hp;obtain ⟨hr,hl3,hl4,hk4⟩:=fin (some (.exit id)) W3 hk3;exact ⟨_,_,hr,.inr ⟨rfl,.exit id,(hIx _).put _ hi3 (by omega) hl3 rfl,hl4,hk4⟩⟩
    | goto t=>exact hp.elim
    | panic ch=>exact hp.elim
    | outgrown=>exact hp.elim
   | ret=>exact hq.elim
   | exit id=>exact hq.elim
   | goto t=>exact hq.elim
   | panic ch=>exact hq.elim
   | outgrown=>exact hq.elim
  ·
   rintro e W2 ⟨⟨v,rfl⟩,(⟨hi,hl,hk⟩ | ⟨c,hi,hl,hk⟩)⟩
   ·exact ⟨none,_,by have:=run_endLoop (P:=P) hl (by rw [hrec]; simp); rw [hrec] at this; exact this,hdone _ _ (Nat.le_refl _) ((hI _).put _ hi (by omega) hl rfl) ((wXp (by omega)).trans hk)⟩
   ·exact ⟨some c,_,by have:=run_endLoop (P:=P) hl (by rw [hrec]; simp); rw [hrec] at this; exact this,hstop _ c _ (Nat.le_refl _) ((hIx c).put _ hi (by omega) hl rfl) ((wXp (by omega)).trans hk)⟩
structure Snap where
  tm:List (Nat × AV)
  bx:List (Nat × Bx)
def jVC:List (Nat × AV)->Nat->AV
 | [],_=>.one .dead
 |(t',v)::r,t=>if t=t' then v else jVC r t
def zYk:List (Nat × Bx)->Nat->Bx
 | [],_=>.fresh
 |(t',v)::r,t=>if t=t' then v else zYk r t
def Snap.as (sn:Snap):AS:=⟨jVC sn.tm,zYk sn.bx⟩
abbrev Ren:=List (Nat × Option Nat)
def zV5:Ren->Nat->Option (Option Nat)
 | [],_=>none
 |(b',x)::r,b=>if b=b' then some x else zV5 r b
def jK0:Cap->Cap->Option (Prop × Ren)
 | .d v,.d v'=>some (v'=v,[])
 | .ptr b off,.ptr b' off'=>some (off'=off,[(b,some b')])
 | _,_=>none
def zHH:List Cap->List Cap->Option (Prop × Ren)
 | [],[]=>some (True,[])
 | c::cs,c'::cs'=>match jK0 c c',zHH cs cs' with
  | some (p,r),some (q,r')=>some (p/\q,r++r')
  | _,_=>none
 | _,_=>none
def jVM:Cl->Cl->Option (Prop × Ren)
 | .dead,_=>some (True,[])
 | .d v,.d v'=>some (v'=v,[])
 | .d v,.lit (.bool b)=>some (DV.bool b=v,[])
 | .d v,.nil=>some (DV.sl 0 []=v,[])
 | .lit u,.lit u'=>some (u'=u,[])
 | .nil,.nil=>some (True,[])
 | .ptr b off,.ptr b' off'=>some (off'=off,[(b,some b')])
 | .vp cs off,.vp cs' off'=>some (cs'=cs/\off'=off,[])
 | .ref b n,.ref b' n'=>some (n'=n,[(b,some b')])
 | .ref b n,.nil=>some (0=n,[(b,none)])
 | .clo f cs,.clo f' cs'=>if f'=f then zHH cs cs' else none
 | _,_=>none
def zWb:List Cl->List Cl->Option (Prop × Ren)
 | [],[]=>some (True,[])
 | c::cs,c'::cs'=>match jVM c c',zWb cs cs' with
  | some (p,r),some (q,r')=>some (p/\q,r++r')
  | _,_=>none
 | _,_=>none
def zHM:List Cl->Option (List DV)
 | []=>some []
 | .d v::cs=>match zHM cs with
  | some vs=>some (v::vs)
  | none=>none
 | _::_=>none
def jZa (cs cs':List Cl):Option (Prop × Ren):=match zHM cs,dvs cs' with
 | some xs,some ys=>some (ys=xs,[])
 | _,_=>zWb cs cs'
mutual
def zWc:AV->AV->Option (Prop × Ren)
 | .one c,.one c'=>jVM c c'
 | .one .dead,_=>some (True,[])
 | .agg cs,.agg cs'=>jZa cs cs'
 | .tup vs,.tup vs'=>fitAVs vs vs'
 | _,_=>none
def fitAVs:List AV->List AV->Option (Prop × Ren)
 | [],[]=>some (True,[])
 | x::xs,y::ys=>match zWc x y,fitAVs xs ys with
  | some (p,r),some (q,r')=>some (p/\q,r++r')
  | _,_=>none
 | _,_=>none
end
def jUo (s:AS):List (Nat × AV)->Option (Prop × Ren)
 | []=>some (True,[])
 |(t,v)::l=>match zWc v (s.tm t),jUo s l with
  | some (p,r),some (q,r')=>some (p/\q,r++r')
  | _,_=>none
def jVO:Bx->Bx->Option (Prop × Ren)
 | .cells cs,.cells cs'=>jZa cs cs'
 | .row e size xs,.row e' size' xs'=>if e'=e/\size'=size then some (xs'=xs,[]) else none
 | .ice xs,.ice xs'=>some (xs'=xs,[])
 | .gone,.gone=>some (True,[])
 | _,_=>none
def zUX (s:AS):List (Nat × Bx)->Ren->Option (Prop × Ren)
 | [],r=>some (True,r)
 |(b,B)::l,r=>match zV5 r b with
  | some (some b')=>match jVO B (s.bx b') with
   | some (p,r')=>match zUX s l (r++r') with
    | some (q,r'')=>some (p/\q,r'')
    | none=>none
   | none=>none
  | some none=>match B with
   | .row _ _ xs=>match zUX s l r with
    | some (q,r'')=>some ([]=xs/\q,r'')
    | none=>none
   | _=>none
  | none=>none
def yQx (bx:List (Nat × Bx)) (r:Ren):Bool:=
 (r.all λp=>(zV5 r p.1==some p.2)&&bx.any λq=>q.1==p.1) &&
 (r.all λp=>r.all λq=>p.1==q.1 || p.2==none || p.2 !=q.2)&&decide ((bx.map (·.1)).Nodup)
def pins (l:List Nat):Ren:=l.map λj=>(j,some j)
def jH4 (n:Dom) (s:AS) (sn:Snap):Prop:=
 match jUo s sn.tm with
 | some (p,r)=>match zUX s sn.bx (r++pins n.pin) with
  | some (q,r')=>match yQx sn.bx r' with
   | true=>p/\q
   | false=>False
  | none=>False
 | none=>False
def AS.melt1 (s:AS) (t:Nat):AS:=match s.tm t with
 | .one (.ref b n)=>match zXs (s.bx b) with
  | some xs=>⟨λt'=>if t'=t then .one (.d (.sl n xs)) else s.tm t',λb'=>if b'=b then (s.bx b).freeze else s.bx b'⟩
  | none=>s
 | _=>s
def AS.trim1 (s:AS) (t:Nat):AS:=match s.tm t with
 | .one (.ref b n)=>match s.bx b with
  | .row e size xs=>s.setB b (.row e size (xs.take (n*size)))
  | _=>s
 | _=>s
def meltFor:List (Nat × AV)->AS->AS
 | [],s=>s
 |(t,.one (.d _))::l,s=>meltFor l (s.melt1 t)
 |(t,.one .dead)::l,s=>meltFor l (s.trim1 (t-100000))
 | _::l,s=>meltFor l s
def fits (n:Dom) (s:AS) (sn:Snap):Prop:=jH4 n (meltFor sn.tm s) sn
structure Inv where
  α:Type
  ok:α->Prop
  st:α->Snap
  μ:α->Nat
inductive Ann:Type 1 where
  | leaf
  | seq (a b:Ann)
  | loop (I:Inv) (a:I.α->Ann)
  | cut (I:Inv) (a:Ann) (b:I.α->Ann)
  | link (I:Inv) (a:I.α->Ann) (next:Ann)
  | split (a:Ann) (t:Nat) (bs:Ann)
  | opt (v:Int) (b:Ann) (next:Ann)
  | sure (b:Bool) (a:Ann)
  | ice (bs ts:List Nat) (a b:Ann)
  | splitAt (i t:Nat) (vs:List Int)
  | range (I:Inv) (T:List Nat) (a b:I.α->Ann)
abbrev aL:Ann:=Ann.leaf
abbrev aQ (a b:Ann):Ann:=Ann.seq a b
def Ann.l:Ann->Ann
 | .seq a _=>a
 | _=>.leaf
def Ann.r:Ann->Ann
 | .seq _ b=>b
 | _=>.leaf
inductive zJh where
  | normal
  | exit (id:Nat)
  | ret
def kn0:Kn:=λ_=>none
def jKP (n:Dom):Ann->AS->Prop
 | .link I _ _,s=>∃ z,I.ok z/\fits n s (I.st z)
 | _,_=>False
def jYd (n:Dom) (f:Ann->Kn->AS->(zJh->Kn->AS->Prop)->Prop) (Q:zJh->Kn->AS->Prop):Ann->Prop
 | .link I a next=>(∀ z,I.ok z->f (a z) kn0 (I.st z).as λe kn' s'=>match e with
   | .normal=>jKP n next s'
   | e=>Q e kn' s')/\jYd n f Q next
 | _=>True
def jGb (e:Int):Ann->Prop
 | .opt v _ next=>e=v\/jGb e next
 | _=>False
def jKE (f:Ann->Kn->AS->(zJh->Kn->AS->Prop)->Prop) (k:IntKind) (e:Int) (kn:Kn) (s:AS) (t:Nat) (Q:zJh->Kn->AS->Prop):Ann->Prop
 | .opt v b next=>(e=v->f b (zKK kn (some t) none) (s.put (some t) (.one (.d (.int k v)))) Q)/\jKE f k e kn s t Q next
 | _=>True
def yQy (f:Ann->Kn->AS->(zJh->Kn->AS->Prop)->Prop) (kn:Kn) (s:AS) (t:Nat) (bs:Ann) (Q:zJh->Kn->AS->Prop):Prop:=
 match s.tm t with
 | .one (.d (.int k e))=>jGb e bs/\jKE f k e kn s t Q bs
 | _=>False
def jXh (bx:Nat->Bx):Cap->Option (Bool × List DV)
 | .d v=>if v.plain.isSome then some (false,[v]) else none
 | .ptr b off=>if off=0 then match bx b with
  | .cells cs=>match dvs cs with
   | some ds=>if ds.all (λd=>d.plain.isSome) then some (true,ds) else none
   | none=>none
  | _=>none else none
def zKv (bx:Nat->Bx):List Cap->Option (List (Bool × List DV))
 | []=>some []
 | c::cs=>match jXh bx c,zKv bx cs with
  | some x,some xs=>some (x::xs)
  | _,_=>none
def AS.only (T:List Nat) (s:AS):AS:=⟨λt=>if T.contains t then s.tm t else .one .dead,s.bx⟩
def AS.putAll:AS->List Nat->List DV->AS
 | s,p::ps,d::ds=>(s.put (some p) (.one (.d d))).putAll ps ds
 | s,_,_=>s
def Dom.pinned (n:Dom) (names:List Nat):Dom:=⟨n.n,n.keep,n.pin++names,n.round⟩
def Dom.inner (n:Dom) (T names:List Nat):Dom:=⟨n.n,λt=>n.keep t || T.contains t,n.pin++names,true⟩
def jWJ:DV->Prop
 | .int k n=>k.min<=n/\n<=k.max
 | .bool _=>True
 | .str s=>s.size<=maxLen
 | _=>False
def zWH:List DV->Prop
 | []=>True
 | d::ds=>jWJ d/\zWH ds
def psOK (ps T:List Nat) (n:Dom):Bool:=(ps.all λp=>decide (p<n.n) && !T.contains p && !n.keep p)&&decide ps.Nodup
abbrev VCF:=Dom->Ann->Kn->AS->(zJh->Kn->AS->Prop)->Prop
def jJy (P:Program) (Γ:Gam) (n:Dom) (fA fB:VCF) (g:Operand) (ps:List Nat) (I:Inv) (T:List Nat) (a b:I.α->Ann) (s:AS) (Q:zJh->Kn->AS->Prop):Prop:=
 match s.eval g with
 | .one (.clo f cs)=>match zKv s.bx cs,enters P f && !n.round&&psOK ps T n with
  | some caps,true=>match Γ.iter f caps with
   | some (N,item)=>
    AnsI P f caps N item/\(∀ k,k<N->(item k).length=ps.length/\zWH (item k)) /\
    (∃ z,I.ok z/\I.μ z=0/\fits (n.pinned (cs.flatMap Cap.names)) s (I.st z)) /\
    (∀ z,I.ok z->zKv (zYk (I.st z).bx) cs=some caps /\
     (I.μ z<N->fA (n.inner T (cs.flatMap Cap.names)) (a z) kn0 (((I.st z).as.only T).putAll ps (item (I.μ z))) λe kn' s'=>match e with
      | .normal=>fB (n.inner T (cs.flatMap Cap.names)) (b z) kn' s' λe kn' s'=>match e with
       | .normal=>∃ y,I.ok y/\I.μ y=I.μ z+1/\fits (n.inner T (cs.flatMap Cap.names)) s' (I.st y)
       | e=>Q e kn0 (s'.only T)
      | _=>False) /\
     (I.μ z=N->Q .normal kn0 ((I.st z).as.only T)))
   | none=>False
  | _,_=>False
 | _=>False
def melts:AS->List Nat->AS
 | s,[]=>s
 | s,t::ts=>melts (s.melt1 t) ts
def orIs (e:Int):List Int->Prop
 | []=>False
 | v::vs=>e=v\/orIs e vs
def jGS (e:Int) (k:IntKind) (t:Nat) (s:AS) (K:AS->Prop):List Int->Prop
 | []=>True
 | v::vs=>(e=v->K (s.put (some t) (.one (.d (.int k v)))))/\jGS e k t s K vs
def jJe (vs:List Int) (t:Nat) (s:AS) (K:AS->Prop):Prop:=
 match s.tm t with
 | .one (.d (.int k e))=>orIs e vs/\jGS e k t s K vs
 | _=>False
def jHj (P:Program) (Γ:Gam) (n:Dom) (ops:Array Oper) (ann:Ann) (kn:Kn) (s:AS) (K:Kn->AS->List (List Nat × List Nat)->Prop):Prop:=
 match ann with
 | .splitAt i t vs=>zJM P Γ n ops ((List.range ops.size).take (i+1)) kn s [] λkn' s' acc=>jJe vs t s' λs2=>zJM P Γ n ops ((List.range ops.size).drop (i+1)) kn' s2 acc K
 | _=>zJM P Γ n ops (List.range ops.size) kn s [] K
def vcg (P:Program) (Γ:Gam):Dom->Code->Ann->Kn->AS->(zJh->Kn->AS->Prop)->Prop
 | _,.skip,_,kn,s,Q=>Q .normal kn s
 | _,.label _,_,kn,s,Q=>Q .normal kn s
 | _,.exit id,_,kn,s,Q=>Q (.exit id) kn s
 | _,.ret,_,kn,s,Q=>Q .ret kn s
 | n,.region _ ops draw,ann,kn,s,Q=>jHj P Γ n ops ann kn s λkn' s' acc=>match draw with
  | true=>jU2 ops (λi=>acc.reverse.getD i ([],[]))=true/\Q .normal kn' s'
  | false=>Q .normal kn' s'
 | n,.seq x y,ann,kn,s,Q=>match ann with
  | .cut I a b=>vcg P Γ n x a kn s (λe kn' s'=>match e with
    | .normal=>∃ z,I.ok z/\fits n s' (I.st z)
    | e=>Q e kn' s')/\∀ z,I.ok z->vcg P Γ n y (b z) kn0 (I.st z).as Q
  | .ice bs ts a b=>vcg P Γ n x a kn s λe kn' s'=>match e with
    | .normal=>vcg P Γ n y b kn' (melts (ices s' bs) ts) Q
    | e=>Q e kn' s'
  | .split a t bs=>vcg P Γ n x a kn s λe kn' s'=>match e with
    | .normal=>yQy (vcg P Γ n y) kn' s' t bs Q
    | e=>Q e kn' s'
  | ann=>vcg P Γ n x ann.l kn s λe kn' s'=>match e with
    | .normal=>vcg P Γ n y ann.r kn' s' Q
    | e=>Q e kn' s'
 | n,.cond c x y,ann,kn,s,Q=>match ann with
  | .sure b a=>match (s.eval c).bool? with
   | some b'=>b'=b/\match b with
    | true=>vcg P Γ n x a kn s Q
    | false=>vcg P Γ n y a kn s Q
   | none=>False
  | ann=>match kx kn c with
   | some true=>vcg P Γ n x ann.l kn s Q
   | some false=>vcg P Γ n y ann.r kn s Q
   | none=>match (s.eval c).bool? with
    | some b=>(b=true->vcg P Γ n x ann.l kn s Q)/\(b=false->vcg P Γ n y ann.r kn s Q)
    | none=>False
 | n,.block id c,ann,kn,s,Q=>vcg P Γ n c ann kn s λe kn' s'=>match e with
  | .exit id'=>match decide (id'=id) with
   | true=>Q .normal kn' s'
   | false=>Q (.exit id') kn' s'
  | e=>Q e kn' s'
 | n,.loop c,ann,kn,s,Q=>match ann with
  | .loop I a=>(∃ z,I.ok z/\fits n s (I.st z))/\∀ z,I.ok z->vcg P Γ n c (a z) kn0 (I.st z).as λe kn' s'=>match e with
    | .normal=>∃ y,I.ok y/\I.μ y<I.μ z/\fits n s' (I.st y)
    | e=>Q e kn' s'
  | .link I a next=>jKP n (.link I a next) s/\jYd n (vcg P Γ n c) Q (.link I a next)
  | _=>False
 | n,.rangeFunc g ps x y,ann,kn,s,Q=>match ann with
  | .range I T a b=>jJy P Γ n (λn'=>vcg P Γ n' x) (λn'=>vcg P Γ n' y) g ps.toList I T a b s Q
  | _=>False
 | _,_,_,_,_,_=>False
section
variable {w:World} {V:Nat->Prop} {ι:zQf} {bx:Nat->Bx}
def nm (ι:zQf) (r:Ren):zQf:=λb=>match zV5 r b with
 | some (some b')=>ι b'
 | _=>none
abbrev wQj:=@List.mem_singleton
theorem jVN {ι':zQf} {bx':Nat->Bx} {c c':Cap} {v:Value} {p:Prop} {r r':Ren} (hf:jK0 c c'=some (p,r)) (hp:p) (hr:∀ q∈r,zV5 r' q.1=some q.2/\(bx' q.1).known=true) (hι:∀ b,ι' b=nm ι r' b)
  (h:zVX ι bx w V c' v):zVX ι' bx' w V c v:=by
 unfold jK0 at hf;split at hf<;>first
  |(injection hf with hf; injection hf with hf1 hf2; subst hf1 hf2)
  | cases hf
 ·subst hp; exact h
 ·obtain ⟨h1,g,c,h2,h3⟩:=h;subst hp;obtain ⟨e1,e2⟩:=hr _ (wQj.2 rfl);simp only at e1 e2;exact ⟨e2,g,c,by rw [hι]; simp only [nm,e1]; exact h2,h3⟩
theorem zHG {ι':zQf} {bx':Nat->Bx} {r':Ren} (hι:∀ b,ι' b=nm ι r' b):∀ {cs cs':List Cap} {vs:List Value} {p:Prop} {r:Ren},zHH cs cs'=some (p,r)->p->(∀ q∈r,zV5 r' q.1=some q.2/\(bx' q.1).known=true) ->
  zXJ ι bx w V cs' vs->zXJ ι' bx' w V cs vs
 | [],[],[],_,_,_,_,_,_=>trivial
 | [],[],_::_,_,_,_,_,_,h=>h.elim
 | c::cs,c'::cs',[],_,_,_,_,_,h=>h.elim
 | c::cs,c'::cs',v::vs,p,r,hf,hp,hr,h=>by
  simp only [zHH] at hf
  cases h1:jK0 c c' with
  | none=>rw [h1] at hf; cases hf
  | some x=>
   cases h2:zHH cs cs' with
   | none=>rw [h1,h2] at hf; cases hf
   | some y=>
    rw [h1,h2] at hf;simp only [wQa,wQc] at hf;obtain ⟨rfl,rfl⟩:=hf;exact ⟨jVN h1 hp.1 (λq hq=>hr q (by simp [hq])) hι h.1,zHG hι h2 hp.2 (λq hq=>hr q (by simp [hq])) h.2⟩
 | [],_::_,_,_,_,hf,_,_,_=>by cases hf
 | _::_,[],_,_,_,hf,_,_,_=>by cases hf
theorem jYG {ι':zQf} {bx':Nat->Bx} {c c':Cl} {v:Value} {p:Prop} {r r':Ren} (hf:jVM c c'=some (p,r)) (hp:p) (hr:∀ q∈r,zV5 r' q.1=some q.2/\(bx' q.1).known=true) (hι:∀ b,ι' b=nm ι r' b)
  (h:zQk w V ι bx c' v):zQk w V ι' bx' c v:=by
 unfold jVM at hf;split at hf<;>first
  |(injection hf with hf; injection hf with hf1 hf2; subst hf1 hf2)
  | cases hf
  | skip
 ·trivial
 ·subst hp; exact h
 ·subst hp; exact zX6 (d:=.bool _) h rfl
 ·subst hp; exact zX6 (d:=.sl 0 []) h rfl
 ·subst hp; exact h
 ·exact h
 ·obtain ⟨h1,g,c,h2,h3⟩:=h;subst hp;obtain ⟨e1,e2⟩:=hr _ (wQj.2 rfl);simp only at e1 e2;exact ⟨e2,g,c,by rw [hι]; simp only [nm,e1]; exact h2,h3⟩
 ·obtain ⟨rfl,rfl⟩:=hp; exact h
 ·obtain ⟨h1,h2⟩:=h;subst hp;obtain ⟨e1,e2⟩:=hr _ (wQj.2 rfl);simp only at e1 e2;exact ⟨e2,by rw [hι]; simp only [nm,e1]; exact h2⟩
 ·subst hp;obtain ⟨e1,e2⟩:=hr _ (wQj.2 rfl);simp only at e1 e2;exact ⟨e2,.inl ⟨by rw [hι]; simp only [nm,e1],rfl,h⟩⟩
 ·split at hf
  ·rename_i e;subst e;obtain ⟨lb,h1,h2⟩:=h;exact ⟨lb,h1,zHG hι hf hp hr h2⟩
  ·cases hf
theorem zHF {ι':zQf} {bx':Nat->Bx} {r':Ren} (hι:∀ b,ι' b=nm ι r' b):∀ {cs cs':List Cl} {vs:List Value} {p:Prop} {r:Ren},zWb cs cs'=some (p,r)->p->(∀ q∈r,zV5 r' q.1=some q.2/\(bx' q.1).known=true) ->
  zQF w V ι bx cs' vs->zQF w V ι' bx' cs vs
 | [],[],[],_,_,_,_,_,_=>trivial
 | [],[],_::_,_,_,_,_,_,h=>h.elim
 | c::cs,c'::cs',[],_,_,_,_,_,h=>h.elim
 | c::cs,c'::cs',v::vs,p,r,hf,hp,hr,h=>by
  simp only [zWb] at hf
  cases h1:jVM c c' with
  | none=>rw [h1] at hf; cases hf
  | some x=>
   cases h2:zWb cs cs' with
   | none=>rw [h1,h2] at hf; cases hf
   | some y=>
    rw [h1,h2] at hf;simp only [wQa,wQc] at hf;obtain ⟨rfl,rfl⟩:=hf;exact ⟨jYG h1 hp.1 (λq hq=>hr q (by simp [hq])) hι h.1,zHF hι h2 hp.2 (λq hq=>hr q (by simp [hq])) h.2⟩
 | [],_::_,_,_,_,hf,_,_,_=>by cases hf
 | _::_,[],_,_,_,hf,_,_,_=>by cases hf
theorem jQN {w:World} {V:Nat->Prop} {ι:zQf} {bx:Nat->Bx}:∀ {cs:List Cl} {vs:List Value} {ds:List DV},zHM cs=some ds->zZd w V ds vs->zQF w V ι bx cs vs
 | [],[],_,_,_=>trivial
 | [],_::_,ds,hd,h=>by simp only [zHM,wQa] at hd; subst hd; exact h.elim
 | c::cs,vs,ds,hd,h=>by
  cases c<;>simp only [zHM,reduceCtorEq] at hd;rename_i v
  cases h2:zHM cs with
  | none=>rw [h2] at hd; cases hd
  | some ds'=>
   rw [h2] at hd;simp only [wQa] at hd;subst hd
   cases vs with
   | nil=>exact h.elim
   | cons u vs=>exact ⟨h.1,jQN h2 h.2⟩
theorem jHJ {c:Cl} (h:nilC c=true):c=.lit (.pointer none):=by
 unfold nilC at h;split at h
 ·rfl
 ·cases h
theorem jJ0 {cs cs':List Cl} {p:Prop} {r:Ren} (hf:jZa cs cs'=some (p,r)) (hp:p) (hn:zK1 cs=true):zK1 cs'=true:=by
 cases cs with
 | nil=>cases hn
 | cons c0 tl=>
  obtain rfl:=jHJ hn;have h0:zHM (Cl.lit (.pointer none)::tl)=none:=rfl;unfold jZa at hf;rw [h0] at hf;simp only at hf
  cases cs' with
  | nil=>simp [zWb] at hf
  | cons c cs'=>
   simp only [zWb] at hf;split at hf
   ·rename_i p1 r1 q1 r2 h1 h2;cases c<;>simp only [jVM,reduceCtorEq] at h1;rename_i u;simp only [wQa,wQc] at h1 hf;obtain ⟨rfl,rfl⟩:=h1;obtain ⟨rfl,rfl⟩:=hf;obtain ⟨rfl,_⟩:=hp;rfl
   ·cases hf
theorem jQ9 {ι':zQf} {bx':Nat->Bx} {r':Ren} (hι:∀ b,ι' b=nm ι r' b) {cs cs':List Cl} {vs:List Value} {p:Prop} {r:Ren} (hf:jZa cs cs'=some (p,r)) (hp:p) (hr:∀ q∈r,zV5 r' q.1=some q.2/\(bx' q.1).known=true)
  (h:zQF w V ι bx cs' vs):zQF w V ι' bx' cs vs:=by
 unfold jZa at hf;split at hf
 ·rename_i xs ys h1 h2;simp only [wQa,wQc] at hf;obtain ⟨rfl,rfl⟩:=hf;subst hp;exact jQN h1 (zKW h h2)
 ·exact zHF hι hf hp hr h
mutual
theorem jYH {ι':zQf} {bx':Nat->Bx} {r':Ren} (hι:∀ b,ι' b=nm ι r' b):∀ {x y:AV} {v:Value} {p:Prop} {r:Ren},zWc x y=some (p,r)->p->(∀ q∈r,zV5 r' q.1=some q.2/\(bx' q.1).known=true) ->
  zQd w V ι bx y v->zQd w V ι' bx' x v
 | .one c,.one c',v,p,r,hf,hp,hr,h=>by
  simp only [zWc] at hf;simp only [zQd] at h |-;exact jYG hf hp hr hι h
 | .one c,.agg cs',v,p,r,hf,hp,hr,h=>by
  cases c<;>simp only [zWc,reduceCtorEq] at hf;simp only [zQd,zQk]
 | .one c,.tup vs',v,p,r,hf,hp,hr,h=>by
  cases c<;>simp only [zWc,reduceCtorEq] at hf;simp only [zQd,zQk]
 | .agg cs,.agg cs',v,p,r,hf,hp,hr,h=>by
  simp only [zWc] at hf;simp only [zQd] at h |-;obtain ⟨cur,e,h⟩:=h;exact ⟨cur,e,jQ9 hι hf hp hr h⟩
 | .tup vs,.tup vs',v,p,r,hf,hp,hr,h=>by
  simp only [zWc] at hf;simp only [zQd] at h |-;obtain ⟨cur,e,h⟩:=h;exact ⟨cur,e,fitAVs_rep hι hf hp hr h⟩
 | .agg _,.one _,_,_,_,hf,_,_,_=>by simp [zWc] at hf
 | .agg _,.tup _,_,_,_,hf,_,_,_=>by simp [zWc] at hf
 | .tup _,.one _,_,_,_,hf,_,_,_=>by simp [zWc] at hf
 | .tup _,.agg _,_,_,_,hf,_,_,_=>by simp [zWc] at hf
theorem fitAVs_rep {ι':zQf} {bx':Nat->Bx} {r':Ren} (hι:∀ b,ι' b=nm ι r' b):∀ {xs ys:List AV} {vs:List Value} {p:Prop} {r:Ren},fitAVs xs ys=some (p,r)->p->(∀ q∈r,zV5 r' q.1=some q.2/\(bx' q.1).known=true) ->
  RepAVs w V ι bx ys vs->RepAVs w V ι' bx' xs vs
 | [],[],vs,_,_,_,_,_,h=>by
  cases vs with
  | nil=>simp only [RepAVs]
  | cons _ _=>simp only [RepAVs] at h
 | x::xs,y::ys,[],_,_,_,_,_,h=>by simp only [RepAVs] at h
 | x::xs,y::ys,v::vs,p,r,hf,hp,hr,h=>by
  simp only [fitAVs] at hf
  cases h1:zWc x y with
  | none=>rw [h1] at hf; cases hf
  | some a=>
   cases h2:fitAVs xs ys with
   | none=>rw [h1,h2] at hf; cases hf
   | some b=>
    rw [h1,h2] at hf;simp only [wQa,wQc] at hf;obtain ⟨rfl,rfl⟩:=hf;simp only [RepAVs] at h |-;exact ⟨jYH hι h1 hp.1 (λq hq=>hr q (by simp [hq])) h.1,fitAVs_rep hι h2 hp.2 (λq hq=>hr q (by simp [hq])) h.2⟩
 | [],_::_,_,_,_,hf,_,_,_=>by simp [fitAVs] at hf
 | _::_,[],_,_,_,hf,_,_,_=>by simp [fitAVs] at hf
end
end
theorem jKZ {s:AS}:∀ {l:List (Nat × AV)} {p:Prop} {r:Ren},jUo s l=some (p,r)->p->∀ t,jVC l t=.one .dead\/∃ q r1,zWc (jVC l t) (s.tm t)=some (q,r1)/\q/\∀ x∈r1,x∈r
 | [],_,_,_,_,t=>.inl rfl
 |(t',v)::l,p,r,hf,hp,t=>by
  simp only [jUo] at hf
  cases h1:zWc v (s.tm t') with
  | none=>rw [h1] at hf; cases hf
  | some a=>
   cases h2:jUo s l with
   | none=>rw [h1,h2] at hf; cases hf
   | some b=>
    rw [h1,h2] at hf;simp only [wQa,wQc] at hf;obtain ⟨rfl,rfl⟩:=hf;simp only [jVC];by_cases e:t=t'
    ·subst e;rw [if_pos rfl];exact .inr ⟨a.1,a.2,h1,hp.1,λx hx=>by simp [hx]⟩
    ·rw [if_neg e]
     rcases jKZ h2 hp.2 t with h3 | ⟨q,r1,h3,h4,h5⟩
     ·exact .inl h3
     ·exact .inr ⟨q,r1,h3,h4,λx hx=>by simp [h5 x hx]⟩
theorem zXW {s:AS}:∀ {l:List (Nat × Bx)} {r r':Ren} {p:Prop},zUX s l r=some (p,r')->∀ x∈r,x∈r'
 | [],r,r',p,h,x,hx=>by simp only [zUX,wQa,wQc] at h; rw [<- h.2]; exact hx
 |(b,B)::l,r,r',p,h,x,hx=>by
  simp only [zUX] at h;split at h
  ·split at h
   ·split at h
    ·rename_i h3;simp only [wQa,wQc] at h;rw [<- h.2];exact zXW h3 x (by simp [hx])
    ·cases h
   ·cases h
  ·split at h
   ·split at h
    ·rename_i h3;simp only [wQa,wQc] at h;rw [<- h.2];exact zXW h3 x hx
    ·cases h
   ·cases h
  ·cases h
theorem zG0:∀ {r:Ren} {b:Nat} {x:Option Nat},zV5 r b=some x->(b,x)∈r
 | [],_,_,h=>by cases h
 |(b',y)::r,b,x,h=>by
  simp only [zV5] at h;split at h
  ·rename_i e; injection h with h; subst e h; simp
  ·simp [zG0 h]
theorem zWX {s:AS}:∀ {l:List (Nat × Bx)} {r r':Ren} {p:Prop},zUX s l r=some (p,r')->p->(l.map (·.1)).Nodup->∀ b B,(b,B)∈l ->
  (∃ b' q r1,(b,some b')∈r'/\jVO B (s.bx b')=some (q,r1)/\q/\∀ x∈r1,x∈r')\/((b,none)∈r'/\∃ e size,B=.row e size [])
 |(b0,B0)::l,r,r',p,h,hp,hn,b,B,hm=>by
  simp only [wQg,wXo] at hn;simp only [zUX] at h;split at h
  ·rename_i b' hren;split at h
   ·rename_i q r1 h2;split at h
    ·rename_i q2 r2 h3;simp only [wQa,wQc] at h;obtain ⟨rfl,rfl⟩:=h
     rcases wQz.1 hm with e | hm
     ·injection e with e1 e2
      subst e1 e2;exact .inl ⟨b',q,r1,zXW h3 _ (by simp [zG0 hren]),h2,hp.1,λx hx=>zXW h3 x (by simp [hx])⟩
     ·exact zWX h3 hp.2 hn.2 b B hm
    ·cases h
   ·cases h
  ·rename_i hren;split at h
   ·rename_i e size xs;split at h
    ·rename_i q2 r2 h3;simp only [wQa,wQc] at h;obtain ⟨rfl,rfl⟩:=h
     rcases wQz.1 hm with e' | hm
     ·injection e' with e1 e2
      subst e1 e2;exact .inr ⟨zXW h3 _ (zG0 hren),e,size,by rw [<- hp.1]⟩
     ·exact zWX h3 hp.2 hn.2 b B hm
    ·cases h
   ·cases h
  ·cases h
theorem jYb:∀ {l:List (Nat × Bx)} {b:Nat},(zYk l b).known=true->(b,zYk l b)∈l
 | [],_,h=>by simp [zYk,Bx.known] at h
 |(b',B)::l,b,h=>by
  simp only [zYk] at h |-;by_cases e:b=b'
  ·subst e; simp
  ·rw [if_neg e] at h |-; simp [jYb h]
theorem zUS:∀ {l:List (Nat × Bx)} {b:Nat} {B:Bx},(l.map (·.1)).Nodup->(b,B)∈l->zYk l b=B
 |(b',B')::l,b,B,hn,h=>by
  simp only [wQg,wXo] at hn
  rcases wQz.1 h with e | h
  ·injection e with e1 e2; subst e1 e2; simp [zYk]
  ·have:b≠b':=λe=>hn.1 (by rw [<- e]; exact wQv.2 ⟨_,h,rfl⟩);simp only [zYk,if_neg this];exact zUS hn.2 h
abbrev wZA:=@eq_of_beq
theorem RepS.fit0 {w0:World} {S:zQV} {n:Dom} {s:AS} {ι:zQf} {a:Act} {w:World} (h:RepS w0 S n s ι a w) {sn:Snap} (hf:jH4 n s sn):∃ ι',RepS w0 S n sn.as ι' a w:=by
 unfold jH4 at hf;split at hf
 ·rename_i p r h1;split at hf
  ·rename_i q r' h2;split at hf
   ·rename_i hok;obtain ⟨hp,hq⟩:=hf;simp only [yQx,wQf,List.all_eq_true,wQh] at hok;obtain ⟨⟨o1,o2⟩,o3⟩:=hok;have hren:∀ x∈r',zV5 r' x.1=some x.2:=λx hx=>by
     have:=(o1 x hx).1;exact wZA this
    have hinj:∀ b1 b2 b',(b1,some b')∈r'->(b2,some b')∈r'->b1=b2:=λb1 b2 b' m1 m2=>by
     have:=o2 _ m1 _ m2;simpa using this
    have hat:∀ b,(zYk sn.bx b).known=true->(∃ b' q r1,(b,some b')∈r'/\jVO (zYk sn.bx b) (s.bx b')=some (q,r1)/\q/\∀ x∈r1,x∈r')\/((b,none)∈r'/\∃ e size,zYk sn.bx b=.row e size []):=
     λb hk=>zWX h2 hq o3 b _ (jYb hk)
    have hbxk:∀ x∈r',(sn.as.bx x.1).known=true:=λx hx=>by
     have:=(o1 x hx).2;rw [List.any_eq_true] at this;obtain ⟨y,hy,e⟩:=this;have e:y.1=x.1:=wZA e;have hy':(x.1,y.2)∈sn.bx:=by rw [<- e]; exact hy
     have hl:=zUS o3 hy'
     show (zYk sn.bx x.1).known=true
     rw [hl];have hno:∀ B,(x.1,B)∈sn.bx->B.known=true:=λB hB=>by
      rcases zWX h2 hq o3 x.1 B hB with ⟨b',q,r1,_,hfb,_⟩ | ⟨_,e',size,rfl⟩
      ·cases B<;>simp_all [jVO,Bx.known]
      ·rfl
     exact hno _ hy'
    have hknown:∀ x∈r',zV5 r' x.1=some x.2/\(sn.as.bx x.1).known=true:=λx hx=>⟨hren x hx,hbxk x hx⟩
    have hlive:∀ b,(sn.as.bx b).live=true->(∃ b',(b,some b')∈r'/\(s.bx b').live=true/\nm ι r' b=ι b')\/nm ι r' b=none:=λb hl=>by
     have hk:(zYk sn.bx b).known=true:=by
      have hl':(zYk sn.bx b).live=true:=hl;cases hB:zYk sn.bx b<;>rw [hB] at hl'<;>first | rfl | cases hl'
     rcases hat b hk with ⟨b',q,r1,m,hfb,_⟩ | ⟨m,_⟩
     ·left;refine ⟨b',m,?_,by simp only [nm,hren _ m]⟩;have hl':(zYk sn.bx b).live=true:=hl;cases hB:zYk sn.bx b<;>cases hB':s.bx b'<;>rw [hB,hB'] at hfb<;>simp only [jVO,reduceCtorEq] at hfb<;>first | rfl | (rw [hB] at hl'; cases hl')
     ·right; simp only [nm,hren _ m]
    have hkeep:zZA w (Seen S w0.heap.size s.bx ι) w (Seen S w0.heap.size sn.as.bx (nm ι r')):=λg off u hV hu=>⟨⟨hV.1,λb c hl e=>by
     rcases hlive b hl with ⟨b',_,hl',e'⟩ | e'
     ·exact hV.2 b' c hl' (by rw [<- e']; exact e)
     ·rw [e'] at e; cases e⟩,hu⟩
    have hVmono:∀ {x:AV} {v:Value},zQd w (Seen S w0.heap.size s.bx ι) ι s.bx x v->zQd w (Seen S w0.heap.size sn.as.bx (nm ι r')) ι s.bx x v:=λhx=>hx.keep (λb hb=>⟨hb,rfl⟩) hkeep;refine ⟨nm ι r',h.bel,h.marks,h.oth,h.size,h.fix,λb hb=>?_,λt=>?_,λb=>?_,λb g c hl e=>?_,λb1 b2 g c c' hl hl' hne e=>?_,h.glob.keep hkeep⟩
    ·have hm:(b,some b)∈r':=zXW h2 _ (by simp only [pins,List.mem_append,wQv]; exact .inr ⟨b,hb,rfl⟩);exact ⟨by simp only [nm,hren _ hm]; exact (h.pin b hb).1,hbxk _ hm⟩
    ·rcases jKZ h1 hp t with hd | ⟨q,r1,g1,g2,g3⟩
     ·show zQd _ _ _ _ (jVC sn.tm t) _
      rw [hd]; simp only [zQd,zQk]
     ·exact jYH (λ_=>rfl) g1 g2 (λx hx=>hknown x (zXW h2 x (by simp [g3 x hx]))) (hVmono (h.tm t))
    ·show zXK _ _ _ _ b (zYk sn.bx b)
     cases hk:(zYk sn.bx b).known with
     | false=>cases hB:zYk sn.bx b<;>rw [hB] at hk<;>first | trivial | cases hk
     | true=>
      rcases hat b hk with ⟨b',q,r1,m,hfb,hq1,hr1⟩ | ⟨m,e,size,hB⟩
      ·have hnm:nm ι r' b=ι b':=by simp only [nm,hren _ m]
       have hrb:=h.bx b';cases hB:zYk sn.bx b<;>cases hB':s.bx b'<;>rw [hB,hB'] at hfb<;>simp only [jVO,reduceCtorEq] at hfb<;>rw [hB'] at hrb
       ·trivial
       ·obtain ⟨g,c,cur,T,g1,g2,g0,g3⟩:=hrb;refine ⟨g,c,cur,T,by rw [hnm]; exact g1,g2,zHv g0 (jJ0 hfb hq1),?_⟩;exact jQ9 (λ_=>rfl) hfb hq1 (λx hx=>hknown x (hr1 x hx)) (g3.keep (λb hb=>⟨hb,rfl⟩) hkeep)
       ·split at hfb
        ·rename_i hes;simp only [wQa,wQc] at hfb;obtain ⟨rfl,rfl⟩:=hfb;subst hq1;obtain ⟨rfl,rfl⟩:=hes
         rcases hrb with ⟨g1,g2⟩ | ⟨g,cap,cur,g1,g2,g3,g4,g5⟩
         ·exact .inl ⟨by rw [hnm]; exact g1,g2⟩
         ·exact .inr ⟨g,cap,cur,by rw [hnm]; exact g1,g2,g3,g4,g5.keep hkeep⟩
        ·cases hfb
       ·simp only [wQa,wQc] at hfb;obtain ⟨rfl,rfl⟩:=hfb;subst hq1
        rcases hrb with ⟨g1,g2⟩ | ⟨g,cap,g1,g2,g3⟩
        ·exact .inl ⟨by rw [hnm]; exact g1,g2⟩
        ·exact .inr ⟨g,cap,by rw [hnm]; exact g1,g2.keep hkeep,g3⟩
      ·rw [hB];exact .inl ⟨by simp only [nm,hren _ m],rfl⟩
    ·rcases hlive b hl with ⟨b',_,hl',e'⟩ | e'
     ·exact h.own b' g c hl' (by rw [<- e']; exact e)
     ·rw [e'] at e; cases e
    ·rcases hlive b1 hl with ⟨b1',m1,hl1,e1⟩ | e1
     ·rcases hlive b2 hl' with ⟨b2',m2,hl2,e2⟩ | e2
      ·rw [e1] at e;rw [e2];refine h.dist b1' b2' g c c' hl1 hl2 (λe'=>hne ?_) e;subst e';exact hinj _ _ _ m1 m2
      ·rw [e2]; simp
     ·rw [e1] at e; cases e
   ·exact hf.elim
  ·exact hf.elim
 ·exact hf.elim
theorem RepS.melt1 {w0:World} {S:zQV} {n:Dom} {s:AS} {ι:zQf} {a:Act} {w:World} (h:RepS w0 S n s ι a w) (t:Nat):RepS w0 S n (s.melt1 t) ι a w:=by
 unfold AS.melt1;split
 ·rename_i b m ht;split
  ·rename_i xs hin;have h2:=h.freeze b;refine ⟨h2.bel,h2.marks,h2.oth,h2.size,h2.fix,h2.pin,λt'=>?_,h2.bx,h2.own,h2.dist,h2.glob⟩;by_cases e:t'=t
   ·subst e;have hv:=h2.tm t';have hb:=h2.bx b;have e1:(s.setB b (s.bx b).freeze).bx b=.ice xs:=by
     simp only [AS.setB,if_true];revert hin;cases s.bx b<;>intro hin<;>simp only [zXs,wQa,reduceCtorEq] at hin<;>subst hin<;>rfl
    have e2:(s.setB b (s.bx b).freeze).tm t'=.one (.ref b m):=ht;rw [e2] at hv;rw [e1] at hb
    show zQd _ _ _ _ (if t'=t' then .one (.d (.sl m xs)) else s.tm t') _
    rw [if_pos rfl];simp only [zQd,zQk] at hv |-;simp only [RepD];obtain ⟨_,hv⟩:=hv
    rcases hb with ⟨g1,g2⟩ | ⟨g,cap,g1,g2,g3⟩
    ·subst g2
     rcases hv with ⟨_,q1,q2⟩ | ⟨g',cap',q1,_⟩
     ·exact ⟨none,0,by rw [q1]; exact q2,by omega,Nat.zero_le _,λhne=>absurd rfl hne⟩
     ·rw [g1] at q1; cases q1
    ·rcases hv with ⟨q1,_⟩ | ⟨g',cap',q1,q2,q3⟩
     ·rw [g1] at q1; cases q1
     ·rw [g1] at q1;simp only [wQa,wQc] at q1;obtain ⟨rfl,rfl⟩:=q1;exact ⟨_,cap,q2,q3,g3,λhne=>⟨g,0,rfl,g2 hne⟩⟩
   ·have:=h2.tm t'
    show zQd _ _ _ _ (if t'=t then .one (.d (.sl m xs)) else s.tm t') _
    rw [if_neg e];exact this
  ·exact h
 ·exact h
theorem RepS.trim1 {w0:World} {S:zQV} {n:Dom} {s:AS} {ι:zQf} {a:Act} {w:World} (h:RepS w0 S n s ι a w) (t:Nat):RepS w0 S n (s.trim1 t) ι a w:=by
 unfold AS.trim1;split
 ·split
  ·rename_i hB;exact h.trunc hB _
  ·exact h
 ·exact h
theorem RepS.meltFor {w0:World} {S:zQV} {n:Dom} {ι:zQf} {a:Act} {w:World}:∀ (l:List (Nat × AV)) {s:AS},RepS w0 S n s ι a w->RepS w0 S n (meltFor l s) ι a w
 | [],_,h=>h
 |(t,v)::l,s,h=>by
  unfold Go.Proofs.YtbnmadpcdlnleaaGreatDoor.meltFor;split
  ·rename_i e; cases e
  ·rename_i t' d l' e;injection e with e1 e2
   injection e1 with e3 e4
   subst e2 e3;exact RepS.meltFor _ (h.melt1 _)
  ·rename_i t' l' e;injection e with e1 e2
   injection e1 with e3 e4
   subst e2 e3;exact RepS.meltFor _ (h.trim1 _)
  ·rename_i p l' _ _ e;injection e with e1 e2
   subst e2;exact RepS.meltFor _ h
theorem RepS.fit {w0:World} {S:zQV} {n:Dom} {s:AS} {ι:zQf} {a:Act} {w:World} (h:RepS w0 S n s ι a w) {sn:Snap} (hf:fits n s sn):∃ ι',RepS w0 S n sn.as ι' a w:=
 (h.meltFor sn.tm).fit0 hf
def zJh.exit_:zJh->Exit
 | .normal=>.normal
 | .exit id=>.exit id
 | .ret=>.ret
section
variable {P:Program} {Γ:Gam}
theorem zUU (s:AS):KnOK kn0 s:=λ_ _ h=>by cases h
theorem RepS.turn {w0:World} {S:zQV} {n:Dom} {s:AS} {ι:zQf} {a:Act} {w w':World} (h:RepS w0 S n s ι a w) {row:Option Nat} (hg:w.grownBy w' row)
  (hr:∀ r,row=some r->w0.heap.size<=r/\∃ o:Obj,w.heap[r]?=some o/\o.isCells=false) {ds:List Deferred} (hm:jQy w0 ds w') {ref:World} (ho:KeepsOthers ref w') :
  RepS w0 { S with ref:=ref } n s ι { a with defers:=ds } w':=by
 have hk:zZA w (Seen S w0.heap.size s.bx ι) w' (Seen { S with ref:=ref } w0.heap.size s.bx ι):=λg off u hV hu=>⟨hV,cell_kept hu hg λr e=>(hr r e).2⟩
 have hl:∀ b g c,(s.bx b).live=true->ι b=some (g,c)->w'.heap[g]?=w.heap[g]?:=λb g c hb hι=>by
  refine hg.block g (h.own b g c hb hι).2 λe=>?_;obtain ⟨o,h1,h2⟩:=(hr g e.symm).2;obtain ⟨cur,T,i,h3⟩:=h.live_cells hb hι;rw [h3] at h1;injection h1 with h1
  subst h1;cases h2
 refine ⟨⟨hg.os.trans h.bel.os,hg.tape.trans h.bel.tape,hg.output.trans h.bel.output,wQC h.bel.size hg.size,λg h1 h2=>?_⟩,hm,ho,h.size,h.fix,h.pin,λt=>(h.tm t).keep (λb hb=>⟨hb,rfl⟩) hk,λb=>?_,
  λb g c hb hι=>⟨(h.own b g c hb hι).1,wZn (h.own b g c hb hι).2 hg.size⟩,h.dist,h.glob.keep hk⟩
 ·refine (hg.block g (wZn h1 h.bel.size) λe=>?_).trans (h.bel.block g h1 h2);have:=(hr g e.symm).1;omega
 ·cases hkn:(s.bx b).known with
  | true=>exact zXK.keep (λb hb=>⟨hb,rfl⟩) hk hkn hkn (λhb g c hι=>hl b g c hb hι) (h.bx b)
  | false=>cases hB:s.bx b<;>rw [hB] at hkn<;>first | trivial | (simp [Bx.known] at hkn)
theorem zUC {ref w w':World} {row:Option Nat} {B:Nat} (h:KeepsOthers ref w) (hg:w.grownBy w' row) (hr:∀ r,row=some r->B<=r) (hB:ref.heap.size<=B):KeepsOthers ref w':=
 ⟨wQC h.size hg.size,λk o hk ho=>by
  have hlt:k<ref.heap.size:=(wQ3.1 hk).1;refine (hg.block k (wZn hlt h.size) λe=>?_).trans (h.same k o hk ho);have:=hr k e.symm
  omega⟩
theorem jQZ {w0 w w':World} {ds:List Deferred} {row:Option Nat} {B:Nat} (h:jQy w0 ds w) (hg:w.grownBy w' row) (hr:∀ r,row=some r->B<=r) (hB:∀ d∈ds,∀ D,d={ target:=.collected D,args:=#[] }->D<B):jQy w0 ds w':=
 ⟨h.1,λd hd=>by
  obtain ⟨D,e,h1,h2⟩:=h.2 d hd;refine ⟨D,e,h1,(hg.block D (wQ3.1 h2).1 λe'=>?_).trans h2⟩;have:=hr D e'.symm;have:=hB d hd D e
  omega⟩
theorem jUQ {n:Dom} {F:Fence} (hF:Wide F) {m id:Nat} {ops:Array Oper} {draw:Bool} {kn:Kn} {s:AS} {Q:zJh->Kn->AS->Prop} (hm:P.follows .mixedOrders=true) (h:zJM P Γ n ops (List.range ops.size) kn s [] λkn' s' acc=>match draw with
  | true=>jU2 ops (λi=>acc.reverse.getD i ([],[]))=true/\Q .normal kn' s'
  | false=>Q .normal kn' s') (hk:KnOK kn s) {w0:World} {S:zQV} {ι:zQf} {a:Act} {w:World} (hr:RepS w0 S n s ι a w) {Q':Exit->Act->World->Prop}
  (hQ:∀ e kn' s' ι' a' w',Q e kn' s'->KnOK kn' s'->RepS w0 S n s' ι' a' w'->Q' e.exit_ a' w'):(Code.region id ops draw).wpIn F m P Q' a w:=by
 obtain ⟨kn',s',ts,h1,h2,h3,h4⟩:=zUc h hk;have hτ:∀ (k i:Nat),(List.range ops.size)[k]?=some i->(λi=>(ts.reverse++[]).reverse.getD i ([],[])) i=ts.getD k ([],[]):=λk i hi=>by
  have:k=i:=by
   have hlt:=(wQD.1 hi).1;simp at hlt;simp [hlt] at hi;exact hi
  subst this;simp
 have hruns:=h4 _ hτ
 cases draw with
 | false=>
  simp only at h1;exact wpIn_region (jQD hF hruns hr λι' a' w' hr'=>hQ .normal kn' s' ι' a' w' h1 h2 hr')
 | true=>
  simp only at h1;obtain ⟨hok,h1⟩:=h1;refine wpIn_region_any hm ?_;have hleft:left ops (Array.replicate ops.size false)=List.range ops.size:=by
   unfold left;rw [wX9];intro i hi;have:i<ops.size:=wQw.1 hi;simp [Array.getD,this]
  have hr1:RepS w0 S n s ι a { w with drawn:=w.drawn+1 }:=hr.quiet ⟨hr.bel.os,hr.bel.tape,hr.bel.output,hr.bel.size,hr.bel.block⟩ rfl
  exact jUW hF hok (λι' a' w' hr'=>hQ .normal kn' s' ι' a' w' h1 h2 hr') ops.size _ s ι a _ (λi o ho hl hs=>by
   have:i<ops.size:=by simpa using hs
   simp [Array.getD,this] at hl) (by simp) (by rw [hleft]; simp) (by rw [hleft]; exact hruns) hr1
theorem jGi {kn:Kn} {s:AS} {t:Nat} (h:KnOK kn s):KnOK kn (s.melt1 t):=λt' b hb=>by
 have h1:=h t' b hb;unfold AS.melt1;split
 ·rename_i b' m ht;split
  ·simp only;split
   ·rename_i e;subst e;rw [ht] at h1;cases h1
   ·exact h1
  ·exact h1
 ·exact h1
theorem jKN {kn:Kn}:∀ (ts:List Nat) {s:AS},KnOK kn s->KnOK kn (melts s ts)
 | [],_,h=>h
 | _::ts,_,h=>jKN ts (jGi h)
theorem RepS.melts {w0:World} {S:zQV} {n:Dom} {ι:zQf} {a:Act} {w:World}:∀ (ts:List Nat) {s:AS},RepS w0 S n s ι a w->RepS w0 S n (melts s ts) ι a w
 | [],_,h=>h
 | t::ts,_,h=>RepS.melts ts (h.melt1 t)
theorem zJL {n:Dom} {ops:Array Oper}:∀ {R:List Nat} {kn:Kn} {s:AS} {acc:List (List Nat × List Nat)} {Q Q':Kn->AS->List (List Nat × List Nat)->Prop},(∀ kn s acc,Q kn s acc->Q' kn s acc)->zJM P Γ n ops R kn s acc Q->zJM P Γ n ops R kn s acc Q'
 | [],kn,s,acc,Q,Q',hQ,h=>hQ _ _ _ h
 | i::R,kn,s,acc,Q,Q',hQ,h=>by
  unfold zJM at h |-;split at h
  ·exact h.elim
  ·split at h
   ·exact h.elim
   ·split at h
    ·exact ⟨h.1,zJL hQ h.2⟩
    ·exact h.elim
   ·split at h
    ·exact zJL hQ h
    ·exact h.elim
   ·refine ⟨λe=>?_,λe=>?_⟩
    ·have h:=h.1 e;split at h
     ·exact ⟨h.1,zJL hQ h.2⟩
     ·exact h.elim
    ·have h:=h.2 e;split at h
     ·exact zJL hQ h
     ·exact h.elim
theorem zYy {n:Dom} {ops:Array Oper} {B:List Nat} {Q:Kn->AS->List (List Nat × List Nat)->Prop}:∀ {A:List Nat} {kn:Kn} {s:AS} {acc:List (List Nat × List Nat)},zJM P Γ n ops A kn s acc (λkn' s' acc'=>zJM P Γ n ops B kn' s' acc' Q)->zJM P Γ n ops (A++B) kn s acc Q
 | [],kn,s,acc,h=>h
 | i::A,kn,s,acc,h=>by
  rw [List.cons_append];unfold zJM at h |-;split at h
  ·exact h.elim
  ·split at h
   ·exact h.elim
   ·split at h
    ·exact ⟨h.1,zYy h.2⟩
    ·exact h.elim
   ·split at h
    ·exact zYy h
    ·exact h.elim
   ·refine ⟨λe=>?_,λe=>?_⟩
    ·have h:=h.1 e;split at h
     ·exact ⟨h.1,zYy h.2⟩
     ·exact h.elim
    ·have h:=h.2 e;split at h
     ·exact zYy h
     ·exact h.elim
theorem jZf {e:Int} {k:IntKind} {t:Nat} {s:AS} {K:AS->Prop}:∀ {vs:List Int},orIs e vs->jGS e k t s K vs->K (s.put (some t) (.one (.d (.int k e))))
 | v::vs,h1,h2=>by
  simp only [orIs] at h1;simp only [jGS] at h2
  rcases h1 with rfl | h1
  ·exact h2.1 rfl
  ·exact jZf h1 h2.2
 | [],h1,_=>h1.elim
theorem jXF {vs:List Int} {t:Nat} {s:AS} {K:AS->Prop} (h:jJe vs t s K):K s:=by
 unfold jJe at h;split at h
 ·rename_i k e ht;have:=jZf h.1 h.2;have hs:s.put (some t) (.one (.d (.int k e)))=s:=by
   refine AS.ext' ?_ rfl;funext t';simp only [AS.put];split
   ·rename_i e'; rw [e',ht]
   ·rfl
  rwa [hs] at this
 ·exact h.elim
theorem jV3 {n:Dom} {ops:Array Oper} {ann:Ann} {kn:Kn} {s:AS} {K:Kn->AS->List (List Nat × List Nat)->Prop} (h:jHj P Γ n ops ann kn s K):zJM P Γ n ops (List.range ops.size) kn s [] K:=by
 unfold jHj at h;split at h
 ·rename_i i t vs;have h2:=zYy (zJL (λ_ _ _ h=>jXF h) h);rwa [wZy] at h2
 ·exact h
def jK8 (P:Program) (f:VCF) (c:Code):Prop:=
 ∀ (n:Dom) (ann:Ann) (kn:Kn) (s:AS) (Q:zJh->Kn->AS->Prop),f n ann kn s Q->KnOK kn s->∀ (F:Fence),Wide F->(n.round=false->F=Fence.wide) ->
  ∀ (w0:World) (S:zQV) (ι:zQf) (a:Act) (w:World),RepS w0 S n s ι a w->∀ (m:Nat) (Q':Exit->Act->World->Prop),
  (∀ e kn' s' ι' a' w',Q e kn' s'->KnOK kn' s'->RepS w0 S n s' ι' a' w'->Q' e.exit_ a' w')->c.wpIn F m P Q' a w
def zHj:Ann->Nat
 | .link _ _ next=>zHj next+1
 | _=>0
theorem jVD {f:VCF} {c:Code} (ih:jK8 P f c) {n:Dom} {ann:Ann} {s:AS} {Q:zJh->Kn->AS->Prop} (h1:jKP n ann s) (h2:jYd n (f n) Q ann) {F:Fence} (hF:Wide F) (hR:n.round=false->F=Fence.wide)
  {w0:World} {S:zQV} {ι:zQf} {a:Act} {w:World} (hr:RepS w0 S n s ι a w) {m:Nat} {Q':Exit->Act->World->Prop}
  (hQ:∀ e kn' s' ι' a' w',Q e kn' s'->KnOK kn' s'->RepS w0 S n s' ι' a' w'->Q' e.exit_ a' w'):(Code.loop c).wpIn F m P Q' a w:=by
 refine wpIn_loop_ghost (λk a w=>∃ ann s ι,zHj ann=k/\jKP n ann s/\jYd n (f n) Q ann/\RepS w0 S n s ι a w) (zHj ann) ⟨ann,s,ι,rfl,h1,h2,hr⟩ λk a w hI=>?_;obtain ⟨ann,s,ι,rfl,h1,h2,hr⟩:=hI;cases ann<;>first | exact h1.elim | skip
 rename_i I b next
 obtain ⟨z,hz,hf⟩:=h1;obtain ⟨ι2,hr2⟩:=hr.fit hf;simp only [jYd] at h2;refine ih n (b z) kn0 _ _ (h2.1 z hz) (zUU _) F hF hR w0 S ι2 a w hr2 m _ λe kn' s' ι' a' w' hq hk' hr'=>?_
 cases e with
 | normal=>exact ⟨zHj next,by simp [zHj],next,s',ι',rfl,hq,h2.2,hr'⟩
 | exit id=>exact hQ (.exit id) kn' s' ι' a' w' hq hk' hr'
 | ret=>exact hQ .ret kn' s' ι' a' w' hq hk' hr'
theorem jKD {f:Ann->Kn->AS->(zJh->Kn->AS->Prop)->Prop} {kn:Kn} {s:AS} {t:Nat} {Q:zJh->Kn->AS->Prop} {k:IntKind} {e:Int} (ht:s.tm t=.one (.d (.int k e))) :
  ∀ {bs:Ann},jGb e bs->jKE f k e kn s t Q bs->∃ b,f b (zKK kn (some t) none) s Q
 | .opt v b next,h1,h2=>by
  simp only [jGb] at h1;simp only [jKE] at h2
  rcases h1 with h1 | h1
  ·have hs:s.put (some t) (.one (.d (.int k v)))=s:=by
    refine AS.ext' ?_ rfl;funext t';simp only [AS.put];split
    ·rename_i e'; rw [e',ht,h1]
    ·rfl
   have:=h2.1 h1;rw [hs] at this;exact ⟨b,this⟩
  ·exact jKD ht h1 h2.2
 | .leaf,h1,_=>h1.elim
 | .seq _ _,h1,_=>h1.elim
 | .loop _ _,h1,_=>h1.elim
 | .cut _ _ _,h1,_=>h1.elim
 | .link _ _ _,h1,_=>h1.elim
 | .split _ _ _,h1,_=>h1.elim
 | .range _ _ _ _,h1,_=>h1.elim
 | .sure _ _,h1,_=>h1.elim
 | .ice _ _ _ _,h1,_=>h1.elim
 | .splitAt _ _ _,h1,_=>h1.elim
theorem jW9:∀ (bs:List Nat) (s:AS),(ices s bs).tm=s.tm
 | [],_=>rfl
 | b::bs,s=>by simp only [ices]; rw [jW9 bs]; rfl
theorem RepS.ices {w0:World} {S:zQV} {n:Dom} {ι:zQf} {a:Act} {w:World}:∀ (bs:List Nat) {s:AS},RepS w0 S n s ι a w->RepS w0 S n (ices s bs) ι a w
 | [],_,h=>h
 | b::bs,s,h=>RepS.ices bs (h.freeze b)
theorem RepS.only {w0:World} {S:zQV} {n:Dom} {s:AS} {ι:zQf} {a:Act} {w:World} (h:RepS w0 S n s ι a w) (T:List Nat):RepS w0 S n (s.only T) ι a w:=by
 refine ⟨h.bel,h.marks,h.oth,h.size,h.fix,h.pin,λt=>?_,h.bx,h.own,h.dist,h.glob⟩
 show zQd _ _ _ _ (if T.contains t then s.tm t else .one .dead) _
 split
 ·exact h.tm t
 ·simp only [zQd,zQk]
theorem jJB {d:DV} (h:jWJ d):∃ u,d.plain=some u/\∀ (w:World) (V:Nat->Prop),RepD w V d u:=by
 cases d with
 | int k n=>exact ⟨_,rfl,λw V=>by simp only [RepD,true_and]; exact (zZT _ _).2 h⟩
 | bool b=>exact ⟨_,rfl,λw V=>by simp only [RepD]⟩
 | str s=>exact ⟨_,rfl,λw V=>by simp only [RepD,true_and]; exact h⟩
 | sl n cs=>exact h.elim
 | fn f=>exact h.elim
theorem RepS.putAll {w0:World} {S:zQV} {n:Dom} {ι:zQf} {w:World}:∀ {ps:List Nat} {ds:List DV} {s:AS} {a:Act},ds.length=ps.length->zWH ds->(∀ p∈ps,p<n.n/\n.keep p=false)->RepS w0 S n s ι a w ->
  RepS w0 S n (s.putAll ps ds) ι { a with tmps:=(ps.zip (ds.map λd=>d.plain.getD undef)).foldl (λt (p,v)=>t.setIfInBounds p v) a.tmps } w
 | [],[],_,_,_,_,_,h=>h
 | p::ps,d::ds,s,a,hl,hd,hp,h=>by
  obtain ⟨u,h1,h2⟩:=jJB hd.1;have:=h.put (d:=some p) (x:=.one (.d d)) (v:=u) (λk hk=>by cases hk; exact hp p (by simp)) (by simp only [zQd,zQk]; exact h2 _ _);have:=RepS.putAll (ps:=ps) (ds:=ds) (by simpa using hl) hd.2 (λq hq=>hp q (by simp [hq])) this;simpa [AS.putAll,h1,Act.put] using this
 | [],_::_,_,_,hl,_,_,_=>by simp at hl
 | _::_,[],_,_,hl,_,_,_=>by simp at hl
abbrev wZ3:=@List.mem_of_getElem?
theorem jYR {w0:World} {S:zQV} {n:Dom} {s:AS} {ι:zQf} {a:Act} {w:World} (h:RepS w0 S n s ι a w) {ι0:zQf} {bx0:Nat->Bx} {w1:World} {V1:Nat->Prop}:∀ {cs:List Cap} {lb:List Value} {caps:List (Bool × List DV)},zXJ ι0 bx0 w1 V1 cs lb ->
  (∀ b∈cs.flatMap Cap.names,ι b=ι0 b)->zKv s.bx cs=some caps->jY5 w caps lb
 | [],[],caps,_,_,hc=>by simp only [zKv,wQa] at hc; subst hc; trivial
 | c::cs,v::lb,caps,hr,hn,hc=>by
  simp only [zKv] at hc
  cases h1:jXh s.bx c with
  | none=>rw [h1] at hc; cases hc
  | some x=>
   cases h2:zKv s.bx cs with
   | none=>rw [h1,h2] at hc; cases hc
   | some xs=>
    rw [h1,h2] at hc;simp only [wQa] at hc;subst hc;refine ⟨?_,jYR h hr.2 (λb hb=>hn b (by rw [wQZ,List.mem_append]; exact .inr hb)) h2⟩;have hv:=hr.1
    cases c with
    | d x=>
     simp only [jXh] at h1;split at h1
     ·rename_i hp;simp only [wQa] at h1;subst h1;obtain ⟨u,hu⟩:=wX5.1 hp;exact ⟨x,rfl,by rw [RepD.plain hv hu]; exact hu⟩
     ·cases h1
    | ptr b off=>
     simp only [jXh] at h1;split at h1
     ·rename_i ho;subst ho;split at h1
      ·rename_i cells hB;split at h1
       ·rename_i ds hds;split at h1
        ·rename_i hall;simp only [wQa] at h1;subst h1;obtain ⟨_,g,c,e1,e2⟩:=hv;have hb:=h.bx b;rw [hB] at hb;obtain ⟨g',c',cur,T,q1,q2,_,q3⟩:=hb;rw [hn b (by simp [Cap.names]),e1] at q1;simp only [wQa,wQc] at q1;obtain ⟨rfl,rfl⟩:=q1;have q4:=zKW q3 hds;refine ⟨g,e2,λi d hi=>?_⟩;obtain ⟨u,hu,hd⟩:=zJT q4 i d hi;have hp:d.plain.isSome=true:=(List.all_eq_true.1 hall) d (wZ3 hi);obtain ⟨u',hu'⟩:=wX5.1 hp;refine ⟨u',hu',?_⟩;rw [wXd w g i cur T (0,0) q2,<- RepD.plain hd hu'];simpa using hu
        ·cases h1
       ·cases h1
      ·cases h1
     ·cases h1
 | [],_::_,_,h,_,_=>h.elim
 | _::_,[],_,h,_,_=>h.elim
theorem jZb {w:World} {V:Nat->Prop} {ι:zQf} {bx:Nat->Bx}:∀ {cs:List Cap} {lb:List Value},zXJ ι bx w V cs lb->∀ b∈cs.flatMap Cap.names,(bx b).known=true
 | [],[],_,b,hb=>by simp at hb
 | c::cs,v::lb,h,b,hb=>by
  rw [wQZ,List.mem_append] at hb
  rcases hb with hb | hb
  ·cases c with
   | d x=>simp [Cap.names] at hb
   | ptr b' off=>simp only [Cap.names,wQj] at hb; subst hb; exact h.1.1
  ·exact jZb h.2 b hb
 | [],_::_,h,_,_=>h.elim
 | _::_,[],h,_,_=>h.elim
def jXc:zJh->Option Code
 | .normal=>none
 | .exit id=>some (.exit id)
 | .ret=>some .ret
abbrev wXL:=@KeepsOthers.refl
theorem jJx {fA fB:VCF} {x y:Code} (ihA:jK8 P fA x) (ihB:jK8 P fB y) {n:Dom} {g:Operand} {ps:Array Tmp} {I:Inv} {T:List Nat} {aa bb:I.α->Ann} {s:AS} {Q:zJh->Kn->AS->Prop}
  (h:jJy P Γ n fA fB g ps.toList I T aa bb s Q) {F:Fence} (hR:n.round=false->F=Fence.wide)
  {w0:World} {S:zQV} {ι:zQf} {a:Act} {w:World} (hr:RepS w0 S n s ι a w) {m:Nat} {Q':Exit->Act->World->Prop}
  (hQ:∀ e kn' s' ι' a' w',Q e kn' s'->KnOK kn' s'->RepS w0 S n s' ι' a' w'->Q' e.exit_ a' w'):(Code.rangeFunc g ps x y).wpIn F m P Q' a w:=by
 unfold jJy at h;split at h
 ·rename_i f cs hs;split at h
  ·rename_i caps hcaps hflags;split at h
   ·rename_i N item hit;obtain ⟨hans,hitems,⟨z0,hz0,hμ0,hf0⟩,hrounds⟩:=h;simp only [wQf,wQq] at hflags;obtain ⟨⟨hen,hrd⟩,hps⟩:=hflags;have hFw:=hR hrd;subst hFw;simp only [psOK,wQf,List.all_eq_true,wQh,wQq] at hps;obtain ⟨hps1,hps2⟩:=hps;have hv:=hr.eval g;rw [hs] at hv;simp only [zQd,zQk] at hv;obtain ⟨lb,hv,hlb⟩:=hv;have hr1:RepS w0 { S with nm:=ι } (n.pinned (cs.flatMap Cap.names)) s ι a w:=
     ⟨hr.bel,hr.marks,hr.oth,hr.size,hr.fix,λb hb=>⟨rfl,by
      simp only [Dom.pinned,List.mem_append] at hb
      rcases hb with hb | hb
      ·exact (hr.pin b hb).2
      ·exact jZb hlb b hb⟩,hr.tm,hr.bx,hr.own,hr.dist,hr.glob⟩
    obtain ⟨ι1,hr2⟩:=hr1.fit hf0;have hmk:∀ d∈a.defers,∀ D,d={ target:=.collected D,args:=#[] }->D<w.heap.size:=λd hd D e=>by
     obtain ⟨D',e',_,h2⟩:=hr.marks.2 d hd;rw [e'] at e;simp only [Deferred.mk.injEq,Target.collected.injEq,and_true] at e;subst e;exact (wQ3.1 h2).1
    have hturn:∀ {s':AS} {n':Dom} {S':zQV} {ι':zQf} {W W':World} {row:Option Nat},S'.ref.heap.size<=w.heap.size->RepS w0 S' n' s' ι' a W->W.grownBy W' row->(∀ r,row=some r->w.heap.size<=r/\∃ o:Obj,W.heap[r]?=some o/\o.isCells=false)->RepS w0 S' n' s' ι' a W':=by
     intro s' n' S' ι' W W' row hs' h' hg hr';exact h'.turn hg (λr e=>⟨wQC hr.bel.size (hr' r e).1,(hr' r e).2⟩) (jQZ h'.marks hg (λr e=>(hr' r e).1) hmk) (zUC h'.oth hg (λr e=>(hr' r e).1) hs')
    have hkeepT:∀ t,(T.contains t=true\/n.keep t=true)->t ∉ ps.toList:=λt ht hm=>by
     obtain ⟨⟨_,h2⟩,h3⟩:=hps1 t hm
     rcases ht with ht | ht
     ·rw [ht] at h2; cases h2
     ·rw [ht] at h3; cases h3
    have hback:∀ {s':AS} {ι':zQf} {a3:Act} {W W3 ref:World},jQy w0 a.defers W->KeepsOthers S.ref W->KeepsOthers W W3->RepS w0 { S with nm:=ι,ref:=ref,base:=λt=>a.tmps.getD t undef } (n.inner T (cs.flatMap Cap.names)) s' ι' a3 W3 ->
      RepS w0 { S with nm:=ι } (n.pinned (cs.flatMap Cap.names)) (s'.only T) ι' a W3:=by
     intro s' ι' a3 W W3 ref hm1 ho1 hk h3;refine ⟨h3.bel,hm1.keep hk,ho1.trans hk,hr.size,hr.fix,h3.pin,λt=>?_,h3.bx,h3.own,h3.dist,h3.glob⟩
     show zQd _ _ _ _ (if T.contains t then s'.tm t else .one .dead) _
     split
     ·rename_i ht;have hfx:=h3.fix t (by show (n.keep t || T.contains t)=true; rw [ht,Bool.or_true]);have:=h3.tm t;rw [hfx] at this;exact this
     ·simp only [zQd,zQk]
    have hout:∀ {s':AS} {ι':zQf} {W:World},RepS w0 { S with nm:=ι } (n.pinned (cs.flatMap Cap.names)) s' ι' a W->RepS w0 S n s' ι' a W:=λh'=>
     ⟨h'.bel,h'.marks,h'.oth,h'.size,h'.fix,λb hb=>by
      have:=h'.pin b (by simp [Dom.pinned,hb])
      exact ⟨this.1.trans (hr.pin b hb).1,this.2⟩,h'.tm,h'.bx,h'.own,h'.dist,h'.glob⟩
    have hmark:∀ {s':AS} {ι':zQf} {W:World} {D:Nat},w.heap.size<=D->W.heap[D]?=some (.deferred (some []))->RepS w0 S n s' ι' a W->RepS w0 S n s' ι' { a with defers:={ target:=.collected D,args:=#[] }::a.defers } W:=λhD hW h'=>
     ⟨h'.bel,⟨wXK.2 ⟨λd hd e=>by
       have:=hmk d hd _ e.symm
       omega,h'.marks.1⟩,λd hd=>by
      rcases wQz.1 hd with rfl | hd
      ·exact ⟨_,rfl,wQC hr.bel.size hD,hW⟩
      ·exact h'.marks.2 d hd⟩,h'.oth,h'.size,h'.fix,h'.pin,h'.tm,h'.bx,h'.own,h'.dist,h'.glob⟩
    refine jWF hv (zWC hen) hans (λk hk=>by rw [(hitems k hk).1]; simp)
     (λk W=>∃ z ι',I.ok z/\I.μ z=k/\RepS w0 { S with nm:=ι } (n.pinned (cs.flatMap Cap.names)) ((I.st z).as.only T) ι' a W)
     (λc W=>∃ e kn' s' ι',jXc e=some c/\Q e kn' s'/\KnOK kn' s'/\RepS w0 { S with nm:=ι } (n.pinned (cs.flatMap Cap.names)) s' ι' a W)
     (λk W W' row ⟨z,ι',h1,h2,h3⟩ hg hrr=>⟨z,ι',h1,h2,hturn hr.oth.size h3 hg hrr⟩)
     (λc W W' row ⟨e,kn',s',ι',h1,h2,h3,h4⟩ hg hrr=>⟨e,kn',s',ι',h1,h2,h3,hturn hr.oth.size h4 hg hrr⟩)
     (λk W ⟨z,ι',h1,h2,h3⟩=>jYR h3 hlb (λb hb=>(h3.pin b (by simp only [Dom.pinned,List.mem_append]; exact .inr hb)).1) (hrounds z h1).1)
     ⟨z0,ι1,hz0,hμ0,hr2.only T⟩ ?_ ?_ ?_
    ·
     rintro l k W hk ⟨z,ι',hz,rfl,h3⟩;have hit:=hitems (I.μ z) hk;have hin:RepS w0 { S with nm:=ι,ref:=W,base:=λt=>a.tmps.getD t undef } (n.inner T (cs.flatMap Cap.names)) ((I.st z).as.only T) ι' { tmps:=a.tmps,defers:=[] } W:=
      ⟨h3.bel,⟨List.Pairwise.nil,λd hd=>by simp at hd⟩,wXL W,h3.size,λt _=>rfl,h3.pin,h3.tm,h3.bx,h3.own,h3.dist,h3.glob⟩
     have hin2:=hin.putAll (ps:=ps.toList) (ds:=item (I.μ z)) hit.1 hit.2 (λp hp=>by
      obtain ⟨⟨h1,h2⟩,h4⟩:=hps1 p hp;refine ⟨h1,?_⟩
      simp only [Dom.inner,h2,h4,Bool.or_self])
     have hloop:∀ (f:Array Value->Tmp × Value->Array Value) (t0:Array Value) (vs:List Value),(ps.zip vs.toArray).foldl f t0=(ps.toList.zip vs).foldl f t0:=λf t0 vs=>by
      rw [<- Array.foldl_toList,Array.toList_zip]
     show x.wpIn _ m P _ { tmps:=(ps.zip (zHI (item (I.μ z)))).foldl (λt (p,v)=>t.setIfInBounds p v) a.tmps,defers:=[] } W
     rw [zHI,hloop];refine ihA _ (aa z) kn0 _ _ ((hrounds z hz).2.1 hk) (zUU _) _ (.inr ⟨l,rfl⟩) (λh=>by cases h) w0 _ ι' _ W hin2 m _ λe kn' s' ι2 a1 W1 hq hk' h4=>?_
     cases e with
     | ret=>exact hq.elim
     | exit id=>exact hq.elim
     | normal=>
      refine ⟨h4.oth,λW2 hg hl hcell=>?_⟩;obtain ⟨lr,hlr⟩:=hcell
      have h5:=h4.turn hg (λr e=>by cases e; exact ⟨wQC hr.bel.size hl,_,hlr,rfl⟩) (ds:=a1.defers) ⟨h4.marks.1,λd hd=>by
       obtain ⟨D,e1,e2,e3⟩:=h4.marks.2 d hd;refine ⟨D,e1,e2,(hg.block D (wQ3.1 e3).1 λe'=>?_).trans e3⟩;injection e' with e'
       subst e';rw [hlr] at e3;injection e3 with e3
       cases e3⟩ (wXL W2)
      have hm1:jQy w0 a.defers W:=h3.marks;have hm2:jQy w0 a.defers W2:=jQZ (hm1.keep h4.oth) hg (λr e=>by cases e; exact hl) hmk;have ho2:KeepsOthers S.ref W2:=zUC (h3.oth.trans h4.oth) hg (λr e=>by cases e; exact hl) hr.oth.size;refine ihB _ (bb z) kn' _ _ hq hk' _ (.inr ⟨l,rfl⟩) (λh=>by cases h) w0 _ ι2 a1 W2 h5 m _ λe kn2 s2 ι3 a3 W3 hq2 hk2 h6=>?_
      cases e with
      | normal=>
       obtain ⟨y,hy,hμ,hf⟩:=hq2;obtain ⟨ι4,h7⟩:=h6.fit hf;exact ⟨h6.oth,y,ι4,hy,hμ,hback hm2 ho2 h6.oth h7⟩
      | ret=>exact ⟨h6.oth,.ret,kn0,s2.only T,ι3,rfl,hq2,zUU _,hback hm2 ho2 h6.oth h6⟩
      | exit id=>exact ⟨h6.oth,.exit id,kn0,s2.only T,ι3,rfl,hq2,zUU _,hback hm2 ho2 h6.oth h6⟩
    ·
     rintro Dk W hD ⟨z,ι',hz,hμ,h3⟩ hW;exact hQ .normal kn0 _ ι' _ W ((hrounds z hz).2.2 hμ) (zUU _) (hmark hD hW (hout h3))
    ·rintro Dk c W hD ⟨e,kn',s',ι',he,hq,hk',h3⟩ hW
     cases e with
     | normal=>cases he
     | ret=>
      simp only [jXc,wQa] at he;subst he;exact wpIn_ret (hQ .ret kn' s' ι' _ W hq hk' (hmark hD hW (hout h3)))
     | exit id=>
      simp only [jXc,wQa] at he;subst he;exact wpIn_exit (hQ (.exit id) kn' s' ι' _ W hq hk' (hmark hD hW (hout h3)))
   ·exact h.elim
  ·exact h.elim
 ·exact h.elim
theorem zQR (hm:P.follows .mixedOrders=true):∀ (c:Code),jK8 P (λn=>vcg P Γ n c) c
 | .skip,n,_,kn,s,Q,h,hk,F,hF,hR,w0,S,ι,a,w,hr,m,Q',hQ=>wpIn_skip (hQ .normal kn s ι a w h hk hr)
 | .label _,n,_,kn,s,Q,h,hk,F,hF,hR,w0,S,ι,a,w,hr,m,Q',hQ=>wpIn_label (hQ .normal kn s ι a w h hk hr)
 | .exit id,n,_,kn,s,Q,h,hk,F,hF,hR,w0,S,ι,a,w,hr,m,Q',hQ=>wpIn_exit (hQ (.exit id) kn s ι a w h hk hr)
 | .ret,n,_,kn,s,Q,h,hk,F,hF,hR,w0,S,ι,a,w,hr,m,Q',hQ=>wpIn_ret (hQ .ret kn s ι a w h hk hr)
 | .region id ops draw,n,_,kn,s,Q,h,hk,F,hF,hR,w0,S,ι,a,w,hr,m,Q',hQ=>jUQ hF hm (jV3 h) hk hr hQ
 | .seq x y,n,ann,kn,s,Q,h,hk,F,hF,hR,w0,S,ι,a,w,hr,m,Q',hQ=>by
  simp only [vcg] at h;refine wpIn_seq ?_;split at h
  ·rename_i I a' b;obtain ⟨h1,h2⟩:=h;refine zQR hm x n a' kn s _ h1 hk F hF hR w0 S ι a w hr m _ λe kn' s' ι' a' w' hq hk' hr'=>?_
   cases e with
   | normal=>
    obtain ⟨z,hz,hf⟩:=hq;obtain ⟨ι2,hr2⟩:=hr'.fit hf;exact zQR hm y n (b z) kn0 _ Q (h2 z hz) (zUU _) F hF hR w0 S ι2 a' w' hr2 m Q' hQ
   | exit id=>exact hQ (.exit id) kn' s' ι' a' w' hq hk' hr'
   | ret=>exact hQ .ret kn' s' ι' a' w' hq hk' hr'
  ·rename_i bs ts a' b;refine zQR hm x n a' kn s _ h hk F hF hR w0 S ι a w hr m _ λe kn' s' ι' a' w' hq hk' hr'=>?_
   cases e with
   | normal=>exact zQR hm y n b kn' (Go.Proofs.YtbnmadpcdlnleaaGreatDoor.melts (Go.Proofs.YtbnmadpcdlnleaaGreatDoor.ices s' bs) ts) Q hq (jKN ts λt b hb=>by rw [jW9]; exact hk' t b hb) F hF hR w0 S ι' a' w' ((hr'.ices bs).melts ts) m Q' hQ
   | exit id=>exact hQ (.exit id) kn' s' ι' a' w' hq hk' hr'
   | ret=>exact hQ .ret kn' s' ι' a' w' hq hk' hr'
  ·rename_i a' t bs;refine zQR hm x n a' kn s _ h hk F hF hR w0 S ι a w hr m _ λe kn' s' ι' a' w' hq hk' hr'=>?_
   cases e with
   | normal=>
    simp only at hq;unfold yQy at hq;split at hq
    ·rename_i k e ht;obtain ⟨b,hb⟩:=jKD ht hq.1 hq.2;refine zQR hm y n b _ s' Q hb (λt' b' hb'=>?_) F hF hR w0 S ι' a' w' hr' m Q' hQ;simp only [zKK] at hb';split at hb'
     ·cases hb'
     ·exact hk' _ _ hb'
    ·exact hq.elim
   | exit id=>exact hQ (.exit id) kn' s' ι' a' w' hq hk' hr'
   | ret=>exact hQ .ret kn' s' ι' a' w' hq hk' hr'
  ·refine zQR hm x n ann.l kn s _ h hk F hF hR w0 S ι a w hr m _ λe kn' s' ι' a' w' hq hk' hr'=>?_
   cases e with
   | normal=>exact zQR hm y n ann.r kn' s' Q hq hk' F hF hR w0 S ι' a' w' hr' m Q' hQ
   | exit id=>exact hQ (.exit id) kn' s' ι' a' w' hq hk' hr'
   | ret=>exact hQ .ret kn' s' ι' a' w' hq hk' hr'
 | .cond c x y,n,ann,kn,s,Q,h,hk,F,hF,hR,w0,S,ι,a,w,hr,m,Q',hQ=>by
  simp only [vcg] at h;split at h
  ·rename_i b a';split at h
   ·rename_i b' hc;obtain ⟨rfl,h⟩:=h
    cases b' with
    | true=>exact wpIn_cond_true (zKf (hr.eval c) hc) (zQR hm x n a' kn s Q h hk F hF hR w0 S ι a w hr m Q' hQ)
    | false=>exact wpIn_cond_false (zKf (hr.eval c) hc) (zQR hm y n a' kn s Q h hk F hF hR w0 S ι a w hr m Q' hQ)
   ·exact h.elim
  split at h
  ·rename_i hc;exact wpIn_cond_true (zKf (hr.eval c) (jZY hk hc)) (zQR hm x n ann.l kn s Q h hk F hF hR w0 S ι a w hr m Q' hQ)
  ·rename_i hc;exact wpIn_cond_false (zKf (hr.eval c) (jZY hk hc)) (zQR hm y n ann.r kn s Q h hk F hF hR w0 S ι a w hr m Q' hQ)
  ·split at h
   ·rename_i b hc;exact wpIn_cond_split (zKf (hr.eval c) hc) (λhb=>zQR hm x n ann.l kn s Q (h.1 hb) hk F hF hR w0 S ι a w hr m Q' hQ) (λhb=>zQR hm y n ann.r kn s Q (h.2 hb) hk F hF hR w0 S ι a w hr m Q' hQ)
   ·exact h.elim
 | .block id c,n,ann,kn,s,Q,h,hk,F,hF,hR,w0,S,ι,a,w,hr,m,Q',hQ=>by
  simp only [vcg] at h;refine wpIn_block (zQR hm c n ann kn s _ h hk F hF hR w0 S ι a w hr m _ λe kn' s' ι' a' w' hq hk' hr'=>?_)
  cases e with
  | normal=>exact hQ .normal kn' s' ι' a' w' hq hk' hr'
  | exit id'=>
   simp only at hq;simp only [zJh.exit_,Exit.inBlock];by_cases e:id'=id
   ·rw [if_pos e];simp only [e,decide_true] at hq;exact hQ .normal kn' s' ι' a' w' hq hk' hr'
   ·rw [if_neg e];simp only [e,decide_false] at hq;exact hQ (.exit id') kn' s' ι' a' w' hq hk' hr'
  | ret=>exact hQ .ret kn' s' ι' a' w' hq hk' hr'
 | .loop c,n,ann,kn,s,Q,h,hk,F,hF,hR,w0,S,ι,a,w,hr,m,Q',hQ=>by
  simp only [vcg] at h;split at h
  ·rename_i I a';obtain ⟨⟨z,hz,hf⟩,h2⟩:=h;obtain ⟨ι2,hr2⟩:=hr.fit hf;refine wpIn_loop_ghost (λm a w=>∃ z ι,I.ok z/\I.μ z=m/\RepS w0 S n (I.st z).as ι a w) (I.μ z) ⟨z,ι2,hz,rfl,hr2⟩ λk a w hI=>?_;obtain ⟨z,ι,hz,rfl,hr⟩:=hI;refine zQR hm c n (a' z) kn0 _ _ (h2 z hz) (zUU _) F hF hR w0 S ι a w hr m _ λe kn' s' ι' a' w' hq hk' hr'=>?_
   cases e with
   | normal=>
    obtain ⟨y,hy,hlt,hf⟩:=hq;obtain ⟨ι3,hr3⟩:=hr'.fit hf;exact ⟨I.μ y,hlt,y,ι3,hy,rfl,hr3⟩
   | exit id=>exact hQ (.exit id) kn' s' ι' a' w' hq hk' hr'
   | ret=>exact hQ .ret kn' s' ι' a' w' hq hk' hr'
  ·exact jVD (f:=λn=>vcg P Γ n c) (zQR hm c) h.1 h.2 hF hR hr hQ
  ·exact h.elim
 | .rangeFunc g ps x y,n,ann,kn,s,Q,h,hk,F,hF,hR,w0,S,ι,a,w,hr,m,Q',hQ=>by
  simp only [vcg] at h;split at h
  ·exact jJx (zQR hm x) (zQR hm y) h hR hr hQ
  ·exact h.elim
 | .scope _,_,_,_,_,_,h,_,_,_,_,_,_,_,_,_,_,_,_,_=>by simp only [vcg] at h
 | .goto _,_,_,_,_,_,h,_,_,_,_,_,_,_,_,_,_,_,_,_=>by simp only [vcg] at h
 | .refuse _,_,_,_,_,_,h,_,_,_,_,_,_,_,_,_,_,_,_,_=>by simp only [vcg] at h
end
def jU0 (P:Program) (s:AS):ResultVar->Option AV
 | .tmp t=>some (s.tm t)
 | .cell t ty=>match s.tm t with
  | .one (.ptr b off)=>match s.bx b,zJr P ty with
   | .cells cs,some (g,k)=>if off+k<=cs.length then zKN g ((cs.drop off).take k) else none
   | _,_=>none
  | _=>none
def zUQ (P:Program) (s:AS):List ResultVar->Option (List AV)
 | []=>some []
 | r::rs=>match jU0 P s r,zUQ P s rs with
  | some v,some vs=>some (v::vs)
  | _,_=>none
def jHu (P:Program) (s:AS) (rs:List ResultVar):Option RV:=
 match zUQ P s rs with
 | some xs=>if xs.all AV.flat then match AV.rvs (λb=>zXs (s.bx b)) xs with
  | some [r]=>some r
  | some l=>some (.tup l)
  | none=>none else none
 | none=>none
def post (P:Program) (rs:List ResultVar) (R:RV->Prop):zJh->Kn->AS->Prop
 | .exit _,_,_=>False
 | _,_,s=>match jHu P s rs with
  | some r=>R r
  | none=>False
def start (args:List RV):AS:=⟨λt=>match args[t]? with
 | some r=>r.av
 | none=>.tup [],λ_=>.fresh⟩
mutual
def DV.wf:DV->Prop
 | .int k n=>k.min<=n/\n<=k.max
 | .bool _=>True
 | .str s=>s.size<=maxLen
 | .sl n xs=>n<=maxLen/\DV.wfs xs
 | .fn _=>True
def DV.wfs:List DV->Prop
 | []=>True
 | x::xs=>x.wf/\DV.wfs xs
end
mutual
def RV.wf:RV->Prop
 | .d x=>x.wf
 | .agg xs=>DV.wfs xs
 | .tup xs=>RV.wfs xs
def RV.wfs:List RV->Prop
 | []=>True
 | x::xs=>x.wf/\RV.wfs xs
end
section
variable {w:World} {V:Nat->Prop}
mutual
theorem RepD.wf:∀ {d:DV} {v:Value},RepD w V d v->d.wf
 | .int k n,v,h=>by simp only [RepD] at h; simp only [DV.wf]; exact (zZT _ _).1 h.2
 | .bool _,_,_=>by simp only [DV.wf]
 | .str s,v,h=>by simp only [RepD] at h; simp only [DV.wf]; exact h.2
 | .fn _,_,_=>by simp only [DV.wf]
 | .sl n xs,v,h=>by
  simp only [RepD] at h;obtain ⟨A,cap,_,h1,h2,h3⟩:=h;simp only [DV.wf];refine ⟨wQC h1 h2,?_⟩
  cases xs with
  | nil=>simp only [DV.wfs]
  | cons d ds=>
   obtain ⟨g,off,_,_,hc⟩:=h3 (by simp);exact RepCells.wf hc
theorem RepCells.wf:∀ {xs:List DV} {g off:Nat},RepCells w V xs g off->DV.wfs xs
 | [],_,_,_=>by simp only [DV.wfs]
 | d::ds,g,off,h=>by
  simp only [RepCells] at h;obtain ⟨⟨u,_,hd⟩,hr⟩:=h;simp only [DV.wfs];exact ⟨RepD.wf hd,RepCells.wf hr⟩
end
theorem zZd.wf:∀ {ds:List DV} {vs:List Value},zZd w V ds vs->DV.wfs ds
 | [],[],_=>by simp only [DV.wfs]
 | _::_,_::_,h=>by simp only [DV.wfs]; exact ⟨h.1.wf,zZd.wf h.2⟩
 | [],_::_,h=>h.elim
 | _::_,[],h=>h.elim
mutual
theorem RepR.wf:∀ {r:RV} {v:Value},RepR w V r v->r.wf
 | .d x,v,h=>by simp only [RepR] at h; simp only [RV.wf]; exact h.wf
 | .agg xs,v,h=>by simp only [RepR] at h; obtain ⟨cs,_,h⟩:=h; simp only [RV.wf]; exact h.wf
 | .tup xs,v,h=>by simp only [RepR] at h; obtain ⟨vs,_,h⟩:=h; simp only [RV.wf]; exact RepRs.wf h
theorem RepRs.wf:∀ {rs:List RV} {vs:List Value},RepRs w V rs vs->RV.wfs rs
 | [],[],_=>by simp only [RV.wfs]
 | _::_,_::_,h=>by simp only [RepRs] at h; simp only [RV.wfs]; exact ⟨RepR.wf h.1,RepRs.wf h.2⟩
 | [],_::_,h=>by simp only [RepRs] at h
 | _::_,[],h=>by simp only [RepRs] at h
end
end
theorem zGZ {w:World} {V:Nat->Prop}:∀ {rs:List RV} {vs:List Value},RepRs w V rs vs->rs.length=vs.length
 | [],[],_=>rfl
 | _::_,_::_,h=>by simp only [RepRs] at h; simp [zGZ h.2]
 | [],_::_,h=>by simp only [RepRs] at h
 | _::_,[],h=>by simp only [RepRs] at h
theorem zUO {P:Program} {α β:Type} (f:α->Sem β) (w:World):∀ (l:List α) (us:List β),l.length=us.length->(∀ (i:Nat) x u,l[i]?=some x->us[i]?=some u->(f x).run P w=.ok u w)->(l.mapM f).run P w=.ok us w
 | [],[],_,_=>by simp
 | x::l,u::us,hl,h=>by
  rw [List.mapM_cons];simp only [Sem.run_bind,h 0 x u rfl rfl,Result.andThen_ok,zUO f w l us (by simpa using hl) (λi x' u' h1 h2=>h (i+1) x' u' (by simpa using h1) (by simpa using h2)),Sem.run_pure]
 | [],_::_,hl,_=>by simp at hl
 | _::_,[],hl,_=>by simp at hl
def jXU (tmps:Array Value):ResultVar->Sem Value
 | .tmp t=>pure (tmps.getD t undef)
 | .cell c t=>do loadVar t (<- asAddr (tmps.getD c undef))
theorem jVr (fn:Func) (tmps:Array Value):results fn tmps=(do let vs <- fn.results.mapM (jXU tmps); pure (if h:vs.size=1 then vs[0] else .tuple vs)):=by
 unfold results;refine congrArg (λf:ResultVar->Sem Value=>(do let vs <- fn.results.mapM f; pure (if h:vs.size=1 then vs[0] else .tuple vs):Sem Value)) ?_;funext x;cases x<;>rfl
theorem jKs {P:Program} {fn:Func} {w0:World} {S:zQV} {n:Dom} {s:AS} {ι:zQf} {a:Act} {w:World} (h:RepS w0 S n s ι a w) {xs:List AV} (hxs:zUQ P s fn.results.toList=some xs) :
  ∃ us:List Value,(results fn a.tmps).run P w=.ok (if h:us.toArray.size=1 then us.toArray[0] else .tuple us.toArray) w/\RepAVs w (Seen S w0.heap.size s.bx ι) ι s.bx xs us:=by
 have key:∀ (rs:List ResultVar) (xs:List AV),zUQ P s rs=some xs->∃ us:List Value,rs.length=us.length/\(∀ (i:Nat) x u,rs[i]?=some x->us[i]?=some u->(jXU a.tmps x).run P w=.ok u w) /\
   RepAVs w (Seen S w0.heap.size s.bx ι) ι s.bx xs us:=by
  intro rs
  induction rs with
  | nil=>intro xs h; simp only [zUQ,wQa] at h; subst h; exact ⟨[],rfl,λi x u h=>by simp at h,by simp only [RepAVs]⟩
  | cons rv rs ih=>
   intro xs hx;simp only [zUQ] at hx
   cases h1:jU0 P s rv with
   | none=>rw [h1] at hx; cases hx
   | some v=>
    cases h2:zUQ P s rs with
    | none=>rw [h1,h2] at hx; cases hx
    | some vs=>
     rw [h1,h2] at hx;simp only [wQa] at hx;subst hx;obtain ⟨us,l1,l2,l3⟩:=ih vs h2;have h0:∃ u,(jXU a.tmps rv).run P w=.ok u w/\zQd w (Seen S w0.heap.size s.bx ι) ι s.bx v u:=by
      cases rv with
      | tmp t=>
       simp only [jU0,wQa] at h1;subst h1;exact ⟨_,rfl,h.tm t⟩
      | cell c ty=>
       simp only [jU0] at h1;split at h1
       ·rename_i b off hc;split at h1
        ·rename_i cs g k hB hk;split at h1
         ·rename_i hle;have hv:=h.tm c;rw [hc] at hv;obtain ⟨_,g',c',hι,ev⟩:=zVy hv;have hb:=h.bx b;rw [hB] at hb;obtain ⟨g2,c2,cur,T,e1,e2,_,e3⟩:=hb;rw [e1] at hι;simp only [wQa,wQc] at hι;obtain ⟨rfl,rfl⟩:=hι;have hp:=zYF (zJm e3 off k) h1;have hlen:=zQ9 e3;have hk':zJr P ty=some (g,((cur.toList.drop off).take k).length):=by
           rw [hk]; congr 2; simp at hlen |-; omega
          have hrun:=zXN (P:=P) hk' (w:=w) (b:=g2) (o:=off) (λj u hj=>by
           rw [wXd w g2 (off+j) cur T (0,0) e2];rw [wQA] at hj;split at hj
           ·simpa using hj
           ·cases hj)
          refine ⟨_,?_,hp.1⟩;simp only [jXU,ev,asAddr,Sem.run_bind,Sem.run_pure,Result.andThen_ok,hrun]
         ·cases h1
        ·cases h1
       ·cases h1
     obtain ⟨u,hu1,hu2⟩:=h0;refine ⟨u::us,by simp [l1],λi x u' hx hu'=>?_,by simp only [RepAVs]; exact ⟨hu2,l3⟩⟩
     cases i with
     | zero=>simp at hx hu'; subst hx hu'; exact hu1
     | succ i=>exact l2 i x u' (by simpa using hx) (by simpa using hu')
 obtain ⟨us,l1,l2,l3⟩:=key _ _ hxs;have hmap:=zUO (P:=P) (jXU a.tmps) w fn.results.toList us l1 l2;refine ⟨us,?_,l3⟩;rw [jVr,Sem.run_bind,wYv,Sem.run_map,hmap];simp only [Result.andThen_ok,Sem.run_pure]
theorem jHt {P:Program} {fn:Func} {w0:World} {S:zQV} {n:Dom} {s:AS} {ι:zQf} {a:Act} {w:World} (h:RepS w0 S n s ι a w) {r:RV} (hr:jHu P s fn.results.toList=some r) :
  ∃ v,(results fn a.tmps).run P w=.ok v w/\RepR w (λg=>S.see g\/w0.heap.size<=g\/S.lent g) r v:=by
 unfold jHu at hr;split at hr
 ·rename_i xs hxs;split at hr
  ·rename_i hflat;obtain ⟨us,hrun,l3⟩:=jKs h hxs;have hseen:zZA w (Seen S w0.heap.size s.bx ι) w (λg=>S.see g\/w0.heap.size<=g\/S.lent g):=λg off u hV hu=>⟨hV.1,hu⟩
   have hlook:∀ x∈xs,∀ b∈x.refs,∀ ys,(λb=>zXs (s.bx b)) b=some ys->zH1 w (λg=>S.see g\/w0.heap.size<=g\/S.lent g) ι b ys/\(ι b=none->ys=[]):=by
    intro x hx b hb ys hys;simp only at hys;have hb':=h.bx b;cases hB:s.bx b<;>rw [hB] at hys hb'<;>simp only [zXs,wQa,reduceCtorEq] at hys<;>subst hys
    ·rcases hb' with ⟨g1,g2⟩ | ⟨g,cap,cur,g1,g2,g3,g4,g5⟩
     ·exact ⟨λg c e=>(by rw [g1] at e; cases e),λ_=>g2⟩
     ·refine ⟨λg' c e=>?_,λe=>(by rw [g1] at e; cases e)⟩;rw [g1] at e;simp only [wQa,wQc] at e;obtain ⟨rfl,rfl⟩:=e;exact ⟨g3,λ_=>⟨.inr (h.own b g cap (by rw [hB]; rfl) g1).1,RepCells.of_row g2 (g5.keep hseen)⟩⟩
    ·rcases hb' with ⟨g1,g2⟩ | ⟨g,cap,g1,g2,g3⟩
     ·exact ⟨λg c e=>(by rw [g1] at e; cases e),λ_=>g2⟩
     ·refine ⟨λg' c e=>?_,λe=>(by rw [g1] at e; cases e)⟩;rw [g1] at e;simp only [wQa,wQc] at e;obtain ⟨rfl,rfl⟩:=e;exact ⟨g3,g2.keep hseen⟩
   cases hrv:AV.rvs (λb=>zXs (s.bx b)) xs with
   | none=>rw [hrv] at hr; cases hr
   | some rvs=>
    rw [hrv] at hr;have hall:=zGM hseen hflat l3 hlook hrv;refine ⟨_,hrun,?_⟩;have hlen:=zGZ hall
    match rvs,us,hall,hlen,hr with
    | [r'],[u],hall,_,hr=>
     simp only [wQa] at hr;subst hr;simp only [RepRs] at hall;simpa using hall.1
    | [],[],hall,_,hr=>
     simp only [wQa] at hr;subst hr;simp only [wZs,wZq,Nat.zero_ne_one,dite_false,RepR];exact ⟨_,rfl,hall⟩
    | r1::r2::rs,u1::u2::us,hall,_,hr=>
     simp only [wQa] at hr;subst hr;simp only [RepR];refine ⟨(u1::u2::us).toArray,by simp,hall⟩
    | [_],[],_,hl,_=>simp at hl
    | [],_::_,_,hl,_=>simp at hl
    | [_],_::_::_,_,hl,_=>simp at hl
    | _::_::_,[],_,hl,_=>simp at hl
    | _::_::_,[_],_,hl,_=>simp at hl
  ·cases hr
 ·cases hr
theorem jYf {F:Fence} {m:Nat} {P:Program} {fn:Func} {R:Ending->World->Prop} {w0:World} {n:Dom} {s:AS} {ι:zQf} {tmps:Array Value}:∀ (ds:List Deferred) (S:zQV) (w:World),RepS w0 S n s ι { tmps:=tmps,defers:=ds } w->S.ref.heap.size<=w0.heap.size ->
  (∀ w',RepS w0 S n s ι { tmps:=tmps,defers:=[] } w'->∃ v,(results fn tmps).run P w'=.ok v w'/\R (.returned v) w')->LeavesInM F m P fn tmps R ds .returning w
 | [],S,w,h,_,hR=>hR w h
 | d::ds,S,w,h,href,hR=>by
  obtain ⟨D,rfl,h1,h2⟩:=h.marks.2 d (by simp);have hlt:D<w.heap.size:=(wQ3.1 h2).1;refine ⟨by simp,.inl ⟨D,w.putObj D (.deferred none),rfl,run_takeDeferred h2,jYf ds S _ ?_ href hR⟩⟩;have hg:=wYa w D (.deferred none);refine h.turn hg (λr e=>by cases e; exact ⟨h1,_,h2,rfl⟩) (ds:=ds) ⟨(wXK.1 h.marks.1).2,λd' hd'=>?_⟩ (ref:=S.ref) (zUC h.oth hg (λr e=>by cases e; exact h1) href);obtain ⟨D',rfl,q1,q2⟩:=h.marks.2 d' (by simp [hd']);have hne:D'≠D:=λe=>(wXK.1 h.marks.1).1 _ hd' (by rw [e]);exact ⟨D',rfl,q1,(wXp hne).trans q2⟩
def zW4 (fn:Func):Code:=fn.body.getD .skip
theorem jUD {fn:Func} (hb:fn.body.isSome=true):fn.body=some (zW4 fn):=by
 unfold zW4
 cases h:fn.body with
 | none=>rw [h] at hb; cases hb
 | some c=>rfl
theorem zVc {P:Program} {Γ:Gam} {f:FuncId} {fn:Func} (ann:Ann) (hm:P.follows .mixedOrders=true) (hf:P.funcs[f]?=some fn) (hb:fn.body.isSome=true) {n:Dom} (hn:n.round=false) {s:AS} {Q:zJh->Kn->AS->Prop}
  (h:vcg P Γ n (zW4 fn) ann kn0 s Q) {w:World} {S:zQV} {ι:zQf} {vs:Array Value} {R:Ending->World->Prop} (hr:RepS w S n s ι { tmps:=vs++Array.replicate (fn.ntmps-vs.size) undef,defers:=[] } w) (href:S.ref=w)
  (hend:∀ e kn' s' ι' tmps w',Q e kn' s'->RepS w S n s' ι' { tmps:=tmps,defers:=[] } w'->(∀ id,e≠.exit id)/\∃ v,(results fn tmps).run P w'=.ok v w'/\R (.returned v) w')
  (hex:∀ id kn' s',¬ Q (.exit id) kn' s'):Calls P f vs w R:=by
 refine callsIn_wide.1 (callsIn_of_wp_marks (F:=Fence.wide) (n:=1) hf (jUD hb) trivial ?_);refine zQR hm (zW4 fn) n ann kn0 s Q h (zUU _) Fence.wide (.inl rfl) (λ_=>rfl) w S ι _ w hr 1 _ λe kn' s' ι' a' w' hq hk' hr'=>?_;have done:LeavesInM Fence.wide 1 P fn a'.tmps R a'.defers .returning w':=
  jYf a'.defers S w' hr' (by rw [href]; exact Nat.le_refl _) λw'' h''=>(hend e kn' s' ι' a'.tmps w'' hq h'').2
 cases e with
 | normal=>exact done
 | ret=>exact done
 | exit id=>exact (hex id kn' s' hq).elim
theorem jZo {w:World} {V:Nat->Prop} {ι:zQf} {bx:Nat->Bx} {k:Nat}:∀ {xs:List AV} {vs:List Value},RepAVs w V ι bx xs vs->∀ t,zQd w V ι bx ((xs[t]?).getD (.tup [])) ((vs++List.replicate k undef).getD t undef)
 | [],[],_,t=>by
  simp only [List.getElem?_nil,Option.getD_none,zQd,List.nil_append];refine ⟨#[],?_,by simp only [RepAVs]⟩;rw [List.getD_eq_getElem?_getD,List.getElem?_replicate];split<;>rfl
 | x::xs,v::vs,h,0=>by simp only [RepAVs] at h; simpa using h.1
 | x::xs,v::vs,h,t+1=>by simp only [RepAVs] at h; simpa using jZo h.2 t
 | [],_::_,h,_=>by simp only [RepAVs] at h
 | _::_,[],h,_=>by simp only [RepAVs] at h
theorem jK7 (vs:Array Value) (k t:Nat):(vs++Array.replicate k undef).getD t undef=(vs.toList++List.replicate k undef).getD t undef:=by
 rw [wZC,List.getD_eq_getElem?_getD,<- wXE];simp
theorem jXW {w:World} {S:Nat->Prop} {fn:Func} {args:List RV} {vs:Array Value} (hl:args.length<=fn.ntmps) (hgl:zJg w S) (hvs:RepRs w S args vs.toList) :
  RepS w { see:=S,ref:=w } fn.ntmps (start args) (λ_=>none) { tmps:=vs++Array.replicate (fn.ntmps-vs.size) undef,defers:=[] } w:=by
 have hlen:=zGZ hvs;refine ⟨Bel.refl _ _,⟨List.Pairwise.nil,λd hd=>by simp at hd⟩,wXL w,?_,λt h=>by (cases h),λb h=>by (cases h),λt=>?_,λb=>trivial,λb g c hl=>by simp [start,Bx.live] at hl,λb b' g c c' hl=>by simp [start,Bx.live] at hl,hgl.keep λg off u hV hu=>⟨⟨.inl hV,λb c hl=>by simp [start,Bx.live] at hl⟩,hu⟩⟩
 ·show (vs++Array.replicate (fn.ntmps-vs.size) undef).size=fn.ntmps
  simp at hlen |-; omega
 ·have hk:zZA w S w (Seen { see:=S,ref:=w } w.heap.size (start args).bx λ_=>none):=λg off u hV hu=>⟨⟨.inl hV,λb c hl=>by simp [start,Bx.live] at hl⟩,hu⟩
  have h1:=rep_avs (ι:=λ_=>none) (bx:=(start args).bx) (RepRs.keep hk hvs);have h2:=jZo (k:=fn.ntmps-vs.size) h1 t;rw [<- jK7] at h2;have e:(start args).tm t=((RV.avs args)[t]?).getD (.tup []):=by
   have:∀ (l:List RV) (t:Nat),(RV.avs l)[t]?=(l[t]?).map RV.av:=by
    intro l
    induction l with
    | nil=>intro t; simp [RV.avs]
    | cons x l ih=>intro t; cases t<;>simp [RV.avs,ih]
   rw [this];simp only [start];cases args[t]?<;>rfl
  rw [e];exact h2
theorem zQa {P:Program} {Γ:Gam} {f:FuncId} {fn:Func} {args:List RV} {res:RV} (ann:Ann) (hm:P.follows .mixedOrders=true) (hf:P.funcs[f]?=some fn) (hb:fn.body.isSome=true) (hl:args.length<=fn.ntmps)
  (h:RV.wfs args->vcg P Γ fn.ntmps (zW4 fn) ann kn0 (start args) (post P fn.results.toList (·=res))):Ans P f args res:=by
 intro w S vs hgl hvs;refine zVc ann hm hf hb (n:=fn.ntmps) rfl (h (RepRs.wf hvs)) (jXW hl hgl hvs) rfl (λe kn' s' ι' tmps w' hq hr'=>?_) (λid kn' s' hq=>hq);have done:post P fn.results.toList (·=res) .ret kn' s'->∃ v,(results fn tmps).run P w'=.ok v w'/\(∃ u,Ending.returned v=.returned u/\RepR w' (λg=>S g\/w.heap.size<=g) res u/\Below w.heap.size w w'):=by
  intro hq;simp only [post] at hq;split at hq
  ·rename_i r hres;subst hq;obtain ⟨v,h1,h2⟩:=jHt hr' hres;have hsee:∀ g,(S g\/w.heap.size<=g\/False)->(S g\/w.heap.size<=g):=λg hV=>hV.imp id λh=>h.resolve_right id;exact ⟨v,h1,v,rfl,h2.keep (λg off u hV hu=>⟨hsee g hV,hu⟩),hr'.bel.below λg h=>h⟩
  ·exact hq.elim
 cases e with
 | normal=>exact ⟨λ_ e=>by (cases e),done hq⟩
 | ret=>exact ⟨λ_ e=>by (cases e),done hq⟩
 | exit id=>exact hq.elim
def jHA (t e size n:Nat) (ys:List DV):zJh->Kn->AS->Prop
 | .exit _,_,_=>False
 | _,_,s=>match s.tm t with
  | .one (.ref b m)=>match s.bx b with
   | .row e' size' zs=>(e'=e/\size'=size)/\ys.length=n*size/\m=n/\zs=ys
   | _=>False
  | .one .nil=>n=0/\ys=[]
  | _=>False
theorem jHE {w0 w:World} {S:zQV} {n:Dom} {s:AS} {ι:zQf} {a:Act} (h:RepS w0 S n s ι a w) (hl:∀ g,¬ S.lent g) {b e size m:Nat} {v:Value} {us:List Value} (hb:(s.bx b).live=true) (ho:zWm w 0 e size v m us) (hn:∀ g,v.ownBlock=some g->∃ c,ι b=some (g,c)):zWm w w0.heap.size e size v m us:=by
 refine ⟨ho.1,?_⟩
 rcases ho.2 with h1 | ⟨g,cap,cur,e1,h1,h2,h3⟩
 ·exact .inl h1
 ·refine .inr ⟨g,cap,cur,e1,?_,h2,h3⟩;obtain ⟨c,hc⟩:=hn g (by rw [e1]; rfl);exact (h.own b g c hb hc).1.resolve_right (hl g)
theorem zVW {P:Program} {Γ:Gam} {f:FuncId} {fn:Func} {args:List RV} {t e size n:Nat} {ys:List DV} (ann:Ann) (hm:P.follows .mixedOrders=true) (hf:P.funcs[f]?=some fn) (hb:fn.body.isSome=true) (hl:args.length<=fn.ntmps) (hres:fn.results=#[.tmp t])
  (h:RV.wfs args->vcg P Γ fn.ntmps (zW4 fn) ann kn0 (start args) (jHA t e size n ys)):AnsO P f args e size n ys:=by
 intro w S vs hgl hvs;refine zVc ann hm hf hb (n:=fn.ntmps) rfl (h (RepRs.wf hvs)) (jXW hl hgl hvs) rfl (λex kn' s' ι' tmps w' hq hr'=>?_) (λid kn' s' hq=>hq);have hbel:Below w.heap.size w w':=hr'.bel.below λg h=>h;have done:jHA t e size n ys .ret kn' s'->∃ v,(results fn tmps).run P w'=.ok v w'/\(∃ v2 us,Ending.returned v=.returned v2/\zWm w' w.heap.size e size v2 n us/\zZd w' (λg=>(S g\/w.heap.size<=g)/\v2.ownBlock≠some g) ys us/\ys.length=n*size/\Below w.heap.size w w'):=by
  intro hq;have hsee:∀ g,(S g\/w.heap.size<=g\/False)->(S g\/w.heap.size<=g):=λg hV=>hV.imp id λh=>h.resolve_right id;refine ⟨_,results_tmp hres _ _ _,?_⟩;have hv:=hr'.tm t;simp only [jHA] at hq;split at hq
  ·rename_i b m htm;rw [htm] at hv;split at hq
   ·rename_i e' size' zs hbx;obtain ⟨⟨rfl,rfl⟩,hlen,rfl,rfl⟩:=hq;obtain ⟨us,o1,o2,o3⟩:=zUv hr' hbx hlen hv;refine ⟨_,us,rfl,jHE hr' (λg h=>h) (by rw [hbx]; rfl) o1 o3,o2.keep λg off u hV hu=>⟨⟨hsee g hV.1,λe=>?_⟩,hu⟩,hlen,hbel⟩;obtain ⟨c,hc⟩:=o3 g e;exact hV.2 b c (by rw [hbx]; rfl) hc
   ·exact hq.elim
  ·rename_i htm;rw [htm] at hv;simp only [zQd,zQk] at hv;obtain ⟨rfl,rfl⟩:=hq;exact ⟨_,[],rfl,by rw [hv]; exact zKZ _ _ _ _,trivial,by simp,hbel⟩
  ·exact hq.elim
 cases ex with
 | normal=>exact ⟨λ_ e=>by (cases e),done hq⟩
 | ret=>exact ⟨λ_ e=>by (cases e),done hq⟩
 | exit id=>exact hq.elim
mutual
def AV.wf:AV->Prop
 | .one c=>match c with
  | .d v=>v.wf
  | _=>True
 | .agg cs=>Cl.wfs cs
 | .tup _=>True
def Cl.wfs:List Cl->Prop
 | []=>True
 | c::cs=>(match c with
  | .d v=>v.wf
  | _=>True)/\Cl.wfs cs
end
def AV.wfL:List AV->Prop
 | []=>True
 | x::xs=>x.wf/\AV.wfL xs
def Bx.wf:Bx->Prop
 | .cells cs=>Cl.wfs cs
 | .row _ _ xs=>DV.wfs xs
 | .ice xs=>DV.wfs xs
 | _=>True
def Bx.wfL:List Bx->Prop
 | []=>True
 | x::xs=>x.wf/\Bx.wfL xs
section
variable {w:World} {V:Nat->Prop} {ι:zQf} {bx:Nat->Bx}
theorem zQF.wf:∀ {cs:List Cl} {vs:List Value},zQF w V ι bx cs vs->Cl.wfs cs
 | [],[],_=>by simp only [Cl.wfs]
 | c::cs,v::vs,h=>by
  simp only [Cl.wfs];refine ⟨?_,zQF.wf h.2⟩;cases c<;>first | exact RepD.wf h.1 | trivial
 | [],_::_,h=>h.elim
 | _::_,[],h=>h.elim
theorem zQd.wf {x:AV} {v:Value} (h:zQd w V ι bx x v):x.wf:=by
 cases x with
 | one c=>simp only [zQd] at h; cases c<;>simp only [AV.wf]<;>first | exact RepD.wf h | trivial
 | agg cs=>simp only [zQd] at h; obtain ⟨cur,_,h⟩:=h; simp only [AV.wf]; exact h.wf
 | tup vs=>simp only [AV.wf]
theorem RepAVs.wf:∀ {xs:List AV} {vs:List Value},RepAVs w V ι bx xs vs->AV.wfL xs
 | [],[],_=>trivial
 | _::_,_::_,h=>by simp only [RepAVs] at h; exact ⟨h.1.wf,RepAVs.wf h.2⟩
 | [],_::_,h=>by simp only [RepAVs] at h
 | _::_,[],h=>by simp only [RepAVs] at h
theorem zXK.wf {b:Nat} {B:Bx} (h:zXK w V ι bx b B):B.wf:=by
 cases B with
 | fresh=>trivial
 | gone=>trivial
 | cells cs=>obtain ⟨_,_,_,_,_,_,_,h⟩:=h; exact h.wf
 | row e size xs=>
  rcases h with ⟨_,rfl⟩ | ⟨_,_,_,_,_,_,_,h⟩
  ·simp only [Bx.wf,DV.wfs]
  ·exact h.wf
 | ice xs=>
  rcases h with ⟨_,rfl⟩ | ⟨_,_,_,h,_⟩
  ·simp only [Bx.wf,DV.wfs]
  ·exact h.cells.wf
end
def jG3 (args:List AV) (ins:List Bx):AS:=⟨λt=>(args[t]?).getD (.tup []),zQD ins⟩
def zipN {α:Type}:Nat->List α->List (Nat × α)
 | _,[]=>[]
 | n,x::xs=>(n,x)::zipN (n+1) xs
def Cl.flatV:Cl->Prop
 | .d v=>v.flat=true
 | .vp _ _=>False
 | .clo _ _=>False
 | _=>True
def jQ8:List Cl->Prop
 | []=>True
 | c::cs=>c.flatV/\jQ8 cs
mutual
def AV.flatV:AV->Prop
 | .one c=>c.flatV
 | .agg cs=>jQ8 cs
 | .tup vs=>AV.flatVL vs
def AV.flatVL:List AV->Prop
 | []=>True
 | x::xs=>x.flatV/\AV.flatVL xs
end
def Bx.flatV:Bx->Prop
 | .cells cs=>jQ8 cs
 | .row _ _ xs=>∀ d∈xs,d.flat=true
 | .ice _=>False
 | _=>True
def Bx.flatVL:List Bx->Prop
 | []=>True
 | x::xs=>x.flatV/\Bx.flatVL xs
def zZu (r:Ret):Prop:=match r.fresh with
 | true=>r.res.flatV/\Bx.flatVL r.outs
 | false=>True
def jVB:List AV->AV
 | [x]=>x
 | xs=>.tup xs
def jG6 (x:AV) (bx:Nat->Bx):AS:=⟨λt=>if t=0 then x else .one .dead,bx⟩
def jHB (P:Program) (n:Dom) (rs:List ResultVar) (r:Ret):zJh->Kn->AS->Prop
 | .exit _,_,_=>False
 | _,_,s=>match zUQ P s rs with
  | some xs=>fits ⟨1,λ_=>false,n.pin,false⟩ (jG6 (jVB xs) s.bx) ⟨[(0,r.res)],zipN 0 r.outs⟩/\zZu r
  | none=>False
section
variable {w:World} {V V':Nat->Prop} {ι:zQf} {bx:Nat->Bx}
theorem jUm {c:Cl} {v:Value} (hf:c.flatV) (h:zQk w V ι bx c v):zQk w V' ι bx c v:=by
 cases c with
 | d x=>exact RepD.of_flat hf h
 | vp _ _=>exact hf.elim
 | clo _ _=>exact hf.elim
 | lit u=>exact h
 | nil=>exact h
 | ptr b off=>exact h
 | ref b n=>exact h
 | sub b o n=>exact h
 | dead=>trivial
theorem jXa:∀ {cs:List Cl} {vs:List Value},jQ8 cs->zQF w V ι bx cs vs->zQF w V' ι bx cs vs
 | [],[],_,_=>trivial
 | _::_,_::_,hf,h=>⟨jUm hf.1 h.1,jXa hf.2 h.2⟩
 | [],_::_,_,h=>h.elim
 | _::_,[],_,h=>h.elim
mutual
theorem jUn:∀ {x:AV} {v:Value},x.flatV->zQd w V ι bx x v->zQd w V' ι bx x v
 | .one c,v,hf,h=>by simp only [zQd,AV.flatV] at h hf |-; exact jUm hf h
 | .agg cs,v,hf,h=>by
  simp only [zQd,AV.flatV] at h hf |-;obtain ⟨cur,e,h⟩:=h;exact ⟨cur,e,jXa hf h⟩
 | .tup vs,v,hf,h=>by
  simp only [zQd,AV.flatV] at h hf |-;obtain ⟨cur,e,h⟩:=h;exact ⟨cur,e,flat_avs hf h⟩
theorem flat_avs:∀ {xs:List AV} {vs:List Value},AV.flatVL xs->RepAVs w V ι bx xs vs->RepAVs w V' ι bx xs vs
 | [],[],_,_=>by simp only [RepAVs]
 | _::_,_::_,hf,h=>by simp only [RepAVs,AV.flatVL] at h hf |-; exact ⟨jUn hf.1 h.1,flat_avs hf.2 h.2⟩
 | [],_::_,_,h=>by simp only [RepAVs] at h
 | _::_,[],_,h=>by simp only [RepAVs] at h
end
theorem jH3 {b:Nat} {B:Bx} (hf:B.flatV) (h:zXK w V ι bx b B):zXK w V' ι bx b B:=by
 cases B with
 | fresh=>trivial
 | gone=>trivial
 | cells cs=>obtain ⟨g,c,cur,T,h1,h2,h0,h3⟩:=h; exact ⟨g,c,cur,T,h1,h2,h0,jXa hf h3⟩
 | row e size xs=>
  rcases h with h | ⟨g,cap,cur,h1,h2,h3,h4,h5⟩
  ·exact .inl h
  ·exact .inr ⟨g,cap,cur,h1,h2,h3,h4,zZd.of_flat (List.all_eq_true.2 hf) h5⟩
 | ice xs=>exact hf.elim
theorem jYF:∀ {l:List Bx} {b:Nat},Bx.flatVL l->(zQD l b).flatV
 | [],b,_=>by simp [zQD,Bx.flatV]
 | x::l,0,h=>h.1
 | x::l,b+1,h=>jYF (b:=b) h.2
end
theorem jQ0:∀ {l:List Bx} {k b:Nat},zYk (zipN k l) (k+b)=zQD l b
 | [],_,_=>rfl
 | x::l,k,0=>by simp [zipN,zYk,zQD]
 | x::l,k,b+1=>by
  have:=jQ0 (l:=l) (k:=k+1) (b:=b);simp only [zipN,zYk];rw [if_neg (by omega),show k+(b+1)=k+1+b from by omega,this];rfl
theorem jG2:∀ {l:List Bx},(∀ b,(zQD l b).wf)->Bx.wfL l
 | [],_=>trivial
 | x::l,h=>⟨h 0,jG2 λb=>h (b+1)⟩
theorem zUr {w:World} {V:Nat->Prop} {ι:zQf} {bx:Nat->Bx}:∀ {xs:List AV} {vs:List Value},RepAVs w V ι bx xs vs->xs.length=vs.length
 | [],[],_=>rfl
 | _::_,_::_,h=>by simp only [RepAVs] at h; simp [zUr h.2]
 | [],_::_,h=>by simp only [RepAVs] at h
 | _::_,[],h=>by simp only [RepAVs] at h
theorem jVg {fn:Func} {pin:Nat} {args:List AV} {ins:List Bx} (hl:args.length<=fn.ntmps) (hp:(List.range pin).all (λb=>(zQD ins b).known)=true)
  {w:World} {S:Nat->Prop} {ι:zQf} {vs:Array Value} (hgl:zJg w S) (hh:zH9 w S ι args ins vs.toList) :
  RepS w { see:=S,lent:=OwnB (zQD ins) ι,ref:=w,nm:=ι } ⟨fn.ntmps,λ_=>false,List.range pin,false⟩ (jG3 args ins) ι { tmps:=vs++Array.replicate (fn.ntmps-vs.size) undef,defers:=[] } w:=by
 have hargs:=hh.args;have hlen:=zUr hargs;have hk:zZA w S w (Seen { see:=S,lent:=OwnB (zQD ins) ι,ref:=w,nm:=ι } w.heap.size (zQD ins) ι):=λg off u hV hu=>⟨⟨.inl hV,λb c hl e=>(hh.own b g c hl e).1 hV⟩,hu⟩
 refine ⟨Bel.refl _ _,⟨List.Pairwise.nil,λd hd=>by simp at hd⟩,wXL w,?_,λt h=>by (cases h),λb hb=>⟨rfl,(List.all_eq_true.1 hp) b hb⟩,λt=>?_,λb=>(hh.bx b).seen hk,λb g c hl e=>⟨.inr ⟨b,c,hl,e⟩,(hh.own b g c hl e).2⟩,hh.dist,hgl.keep hk⟩
 ·show (vs++Array.replicate (fn.ntmps-vs.size) undef).size=fn.ntmps
  simp at hlen |-; omega
 ·have h1:RepAVs w (Seen { see:=S,lent:=OwnB (zQD ins) ι,ref:=w,nm:=ι } w.heap.size (zQD ins) ι) ι (zQD ins) args vs.toList:=hargs.keep (λb hb=>⟨hb,rfl⟩) hk;have h2:=jZo (k:=fn.ntmps-vs.size) h1 t;rw [<- jK7] at h2;exact h2
theorem jQL {P:Program} {fn:Func} {pin:Nat} {ins:List Bx} {r:Ret} {kn':Kn} {s':AS} {ι':zQf} {w w':World} {S:Nat->Prop} {ι:zQf} {tmps:Array Value}
  (hr':RepS w { see:=S,lent:=OwnB (zQD ins) ι,ref:=w,nm:=ι } ⟨fn.ntmps,λ_=>false,List.range pin,false⟩ s' ι' { tmps:=tmps,defers:=[] } w') :
  jHB P ⟨fn.ntmps,λ_=>false,List.range pin,false⟩ fn.results.toList r .ret kn' s'->∃ v,(results fn tmps).run P w'=.ok v w'/\∃ v2 ι',Ending.returned v=.returned v2/\yQn w S ι pin ins r w' ι' v2:=by
 intro hq;simp only [jHB] at hq;split at hq
 ·rename_i xs hxs;obtain ⟨hfit,hfresh⟩:=hq;obtain ⟨us,hrun,hus⟩:=jKs hr' hxs;have hul:=zUr hus;refine ⟨_,hrun,?_⟩;have hx:zQd w' (Seen { see:=S,lent:=OwnB (zQD ins) ι,ref:=w,nm:=ι } w.heap.size s'.bx ι') ι' s'.bx (jVB xs) (if h:us.toArray.size=1 then us.toArray[0] else .tuple us.toArray):=by
   match xs,us,hus,hul with
   | [x],[u],hus,_=>simp only [RepAVs] at hus; simpa [jVB] using hus.1
   | [],[],hus,_=>simp only [jVB,zQd]; exact ⟨_,rfl,hus⟩
   | x1::x2::xs,u1::u2::us,hus,_=>simp only [jVB,zQd]; exact ⟨(u1::u2::us).toArray,by simp,hus⟩
   | [_],[],_,hl=>simp at hl
   | [],_::_,_,hl=>simp at hl
   | [_],_::_::_,_,hl=>simp at hl
   | _::_::_,[],_,hl=>simp at hl
   | _::_::_,[_],_,hl=>simp at hl
  generalize (if h:us.toArray.size=1 then us.toArray[0] else .tuple us.toArray)=v at hx;generalize jVB xs=x at hx hfit;have h1:RepS w { see:=S,lent:=OwnB (zQD ins) ι,ref:=w,nm:=ι } ⟨1,λ_=>false,List.range pin,false⟩ (jG6 x s'.bx) ι' { tmps:=#[v],defers:=[] } w':=
   ⟨hr'.bel,⟨List.Pairwise.nil,λd hd=>by simp at hd⟩,hr'.oth,rfl,λt h=>by (cases h),hr'.pin,λt=>by
    show zQd _ _ _ _ (if t=0 then x else .one .dead) _
    split
    ·rename_i e; subst e; exact hx
    ·simp only [zQd,zQk],hr'.bx,hr'.own,hr'.dist,hr'.glob⟩
  obtain ⟨ι2,h2⟩:=h1.fit hfit;have hbx:zYk (zipN 0 r.outs)=zQD r.outs:=by
   funext b;have:=jQ0 (l:=r.outs) (k:=0) (b:=b);rwa [Nat.zero_add] at this
  have htm:zQd w' (Seen { see:=S,lent:=OwnB (zQD ins) ι,ref:=w,nm:=ι } w.heap.size (zQD r.outs) ι2) ι2 (zQD r.outs) r.res v:=by
   have:=h2.tm 0;rw [<- hbx];exact this
  have hb2:∀ b,zXK w' (Seen { see:=S,lent:=OwnB (zQD ins) ι,ref:=w,nm:=ι } w.heap.size (zQD r.outs) ι2) ι2 (zQD r.outs) b (zQD r.outs b):=λb=>by
   have:=h2.bx b;rw [<- hbx];exact this
  have hown:∀ b g c,(zQD r.outs b).live=true->ι2 b=some (g,c)->(w.heap.size<=g\/OwnB (zQD ins) ι g)/\g<w'.heap.size:=λb g c hl e=>h2.own b g c (by rw [<- hbx] at hl; exact hl) e;have hdist:∀ b b' g c c',(zQD r.outs b).live=true->(zQD r.outs b').live=true->b≠b'->ι2 b=some (g,c)->ι2 b'≠some (g,c'):=λb b' g c c' hl hl'=>h2.dist b b' g c c' (by rw [<- hbx] at hl; exact hl) (by rw [<- hbx] at hl'; exact hl');have hpin:∀ b,b<pin->ι2 b=ι b:=λb hb=>(h2.pin b (wQw.2 hb)).1;refine ⟨v,ι2,rfl,?_⟩
  cases hfr:r.fresh with
  | true=>
   unfold zZu at hfresh;rw [hfr] at hfresh;exact ⟨jUn hfresh.1 htm,λb=>jH3 (jYF hfresh.2) (hb2 b),hown,hdist,hpin,h2.bel⟩
  | false=>
   have hk2:zZA w' (Seen { see:=S,lent:=OwnB (zQD ins) ι,ref:=w,nm:=ι } w.heap.size (zQD r.outs) ι2) w' (jVb w S ι ins r ι2):=λg off u hV hu=>⟨⟨by
    rcases hV.1 with h | h | h
    ·exact .inl ⟨hfr,h⟩
    ·exact .inr (.inl h)
    ·exact .inr (.inr h),λ⟨b,c,hl,e⟩=>hV.2 b c hl e⟩,hu⟩
   exact ⟨htm.keep (λb hb=>⟨hb,rfl⟩) hk2,λb=>(hb2 b).seen hk2,hown,hdist,hpin,h2.bel⟩
 ·exact hq.elim
theorem zZc {P:Program} {Γ:Gam} {f:FuncId} {fn:Func} {pin:Nat} {args:List AV} {ins:List Bx} {r:Ret} (ann:Ann) (hm:P.follows .mixedOrders=true) (hf:P.funcs[f]?=some fn) (hb:fn.body.isSome=true) (hl:args.length<=fn.ntmps)
  (hp:(List.range pin).all (λb=>(zQD ins b).known)=true)
  (h:AV.wfL args->Bx.wfL ins->vcg P Γ ⟨fn.ntmps,λ_=>false,List.range pin,false⟩ (zW4 fn) ann kn0 (jG3 args ins) (jHB P ⟨fn.ntmps,λ_=>false,List.range pin,false⟩ fn.results.toList r)):AnsG P f pin args ins r:=by
 intro w S ι vs hgl hh;have hv:=h hh.args.wf (jG2 λb=>(hh.bx b).wf);refine zVc ann hm hf hb (n:=⟨fn.ntmps,λ_=>false,List.range pin,false⟩) rfl hv (jVg hl hp hgl hh) rfl (λe kn' s' ι' tmps w' hq hr'=>?_) (λid kn' s' hq=>hq)
 cases e with
 | normal=>exact ⟨λ_ e=>by (cases e),jQL (kn':=kn') hr' hq⟩
 | ret=>exact ⟨λ_ e=>by (cases e),jQL (kn':=kn') hr' hq⟩
 | exit id=>exact hq.elim
abbrev wQx:=@Int.mul_le_mul
theorem jWV {x y M:Int} (h1:0<=x) (h2:x<=M) (h3:0<=y) (h4:y<=M):0<=x*y/\x*y<=M*M:=
 ⟨Int.mul_nonneg h1 h3,wQx h2 h4 h3 (by omega)⟩
def modS (n k:Int):Int:=if k<1 then 0 else (wrap .i64 (n.tmod k+k)).tmod k
abbrev wXM:=@Int.add_mul_emod_self_left
abbrev wZO:=@Int.tmod_eq_emod_of_nonneg
theorem jWW {n k:Int} (hk:1<=k) (hk':k<=4611686018427387904):modS n k=n%k:=by
 unfold modS;rw [if_neg (by omega)];have a:=Int.tmod_lt_of_pos n (show 0<k by omega);have b : -k<n.tmod k:=by
  rcases wXC 0 n with h | h
  ·have:=wX2 k h; omega
  ·have:=Int.tmod_lt_of_pos (-n) (show 0<k by omega);rw [Int.neg_tmod] at this;omega
 rw [wQb _ ⟨by omega,by omega⟩,wZO (by omega),Int.add_emod_right,Int.tmod_def];rw [show n-k*n.tdiv k=n+k*(-(n.tdiv k)) from by rw [Int.mul_neg]; omega,wXM]
structure Rc where
  a:Int
  b:Int
  c:Int
  d:Int
deriving DecidableEq
def okC (v:Int):Bool:=decide (-1073741824<=v)&&decide (v<=1073741824)
def Rc.valid (r:Rc):Bool:=okC r.a&&okC r.b&&okC r.c&&okC r.d
def Rc.empty (r:Rc):Bool:=!r.valid || decide (r.c<=r.a) || decide (r.d<=r.b)
def Rc.zero:Rc:=⟨0,0,0,0⟩
def Rc.clean (r:Rc):Rc:=if r.empty then Rc.zero else r
def Rc.area (r:Rc):Int:=if r.empty then 0 else (r.c-r.a)*(r.d-r.b)
def Rc.has (r:Rc) (x y:Int):Bool:=!r.empty&&decide (r.a<=x)&&decide (x<r.c)&&decide (r.b<=y)&&decide (y<r.d)
def Rc.inter (r q:Rc):Rc:=if r.empty || q.empty then Rc.zero else Rc.clean ⟨max r.a q.a,max r.b q.b,min r.c q.c,min r.d q.d⟩
def Rc.hull (r q:Rc):Rc:=if q.empty then r else if r.empty then q else ⟨min r.a q.a,min r.b q.b,max r.c q.c,max r.d q.d⟩
def Rc.move (r:Rc) (x y:Int):Rc:=if r.empty || decide (x < -2147483648) || decide (2147483648<x) || decide (y < -2147483648) || decide (2147483648<y) then Rc.zero else Rc.clean ⟨r.a+x,r.b+y,r.c+x,r.d+y⟩
theorem Rc.empty_false {r:Rc} (h:r.empty=false) :
  -1073741824<=r.a/\r.a<r.c/\r.c<=1073741824 /\ -1073741824<=r.b/\r.b<r.d/\r.d<=1073741824:=by
 simp [Rc.empty,Rc.valid,okC] at h;omega
theorem Rc.empty_iff (r:Rc):r.empty=false ↔ -1073741824<=r.a/\r.a<r.c/\r.c<=1073741824 /\ -1073741824<=r.b/\r.b<r.d/\r.d<=1073741824:=by
 refine ⟨Rc.empty_false,λh=>?_⟩;simp [Rc.empty,Rc.valid,okC];omega
theorem Rc.zero_empty:Rc.zero.empty=true:=by decide
theorem Rc.clean_of {r:Rc} (h:r.empty=false):r.clean=r:=by simp [Rc.clean,h]
theorem Rc.clean_zero {r:Rc} (h:r.empty=true):r.clean=Rc.zero:=by simp [Rc.clean,h]
abbrev wQ0:=@IntKind.wrap_i64
theorem Rc.area_wrap (r:Rc):wrap .i64 (wrap .i64 (r.clean.c-r.clean.a)*wrap .i64 (r.clean.d-r.clean.b))=r.area:=by
 by_cases h:r.empty=true
 ·rw [Rc.clean_zero h]; simp [Rc.area,h,Rc.zero,wQ0]
 ·have h:r.empty=false:=by simpa using h
  obtain ⟨h1,h2,h3,h4,h5,h6⟩:=Rc.empty_false h;rw [Rc.clean_of h,wQb (r.c-r.a) ⟨by omega,by omega⟩,wQb (r.d-r.b) ⟨by omega,by omega⟩];have:=jWV (x:=r.c-r.a) (y:=r.d-r.b) (M:=2147483648) (by omega) (by omega) (by omega) (by omega);rw [wQb _ ⟨by omega,by omega⟩];simp [Rc.area,h]
def is (l:List Int):List DV:=l.map (.int .i64)
def ints (l:List DV):List Int:=l.map λ| .int _ n=>n | _=>0
theorem zZF (l:List Int):ints (is l)=l:=by simp [ints,is,wZz]
def Rc.cells (r:Rc):List DV:=[.int .i64 r.a,.int .i64 r.b,.int .i64 r.c,.int .i64 r.d]
def rcs (l:List Rc):List DV:=l.flatMap Rc.cells
theorem zXC (l:List Rc):(rcs l).length=l.length*4:=by
 unfold rcs
 induction l with
 | nil=>rfl
 | cons r l ih=>simp [ih,Rc.cells]; omega
theorem jVt (l m:List Rc):rcs (l++m)=rcs l++rcs m:=by simp [rcs]
abbrev wZt:=@List.getElem_cons_succ
theorem zVP:∀ (l:List Rc) (i:Nat) (h:i<l.length),(rcs l)[i*4]?=some (.int .i64 l[i].a)/\(rcs l)[i*4+1]?=some (.int .i64 l[i].b)/\(rcs l)[i*4+1+1]?=some (.int .i64 l[i].c)/\(rcs l)[i*4+1+1+1]?=some (.int .i64 l[i].d)
 | r::l,0,_=>by simp [rcs,Rc.cells]
 | r::l,i+1,h=>by
  have:=zVP l i (by simpa using h);have e:rcs (r::l)=Rc.cells r++rcs l:=by simp [rcs]
  rw [e];simp only [wZt];have key:∀ j,(Rc.cells r++rcs l)[(i+1)*4+j]?=(rcs l)[i*4+j]?:=λj=>by
   rw [wQp (by simp [Rc.cells]; omega)];congr 1;simp [Rc.cells]; omega
  exact ⟨by have:=key 0; simp only [Nat.add_zero] at this; rw [this]; exact (zVP l i (by simpa using h)).1,by rw [key 1]; exact this.2.1,by rw [show (i+1)*4+1+1=(i+1)*4+2 from rfl,key 2]; exact this.2.2.1,by rw [show (i+1)*4+1+1+1=(i+1)*4+3 from rfl,key 3]; exact this.2.2.2⟩
def nOf:DV->Int
 | .int _ n=>n
 | _=>0
def zGE:List DV->List Rc
 | a::b::c::d::r=>⟨nOf a,nOf b,nOf c,nOf d⟩::zGE r
 | _=>[]
theorem zKQ:∀ l:List Rc,zGE (rcs l)=l
 | []=>rfl
 | r::l=>by
  have e:rcs (r::l)=.int .i64 r.a::.int .i64 r.b::.int .i64 r.c::.int .i64 r.d::rcs l:=by simp [rcs,Rc.cells]
  rw [e,zGE,zKQ l];rfl
def jGZ (n:Nat) (xs:List DV):Prop:=xs=rcs (zGE xs)/\n=(zGE xs).length
theorem jW4 (l:List Rc):jGZ l.length (rcs l):=⟨by rw [zKQ],by rw [zKQ]⟩
theorem jGZ.of {n:Nat} {xs:List DV} (h:jGZ n xs):∃ l:List Rc,xs=rcs l/\n=l.length:=⟨_,h.1,h.2⟩
theorem zV6 {l:List Rc} {i:Nat} (h:i<l.length):nAt (rcs l) (i*4)=l[i].a/\nAt (rcs l) (i*4+1)=l[i].b/\nAt (rcs l) (i*4+1+1)=l[i].c/\nAt (rcs l) (i*4+1+1+1)=l[i].d:=by
 obtain ⟨h1,h2,h3,h4⟩:=zVP l i h;exact ⟨by simp [nAt,h1],by simp [nAt,h2],by simp [nAt,h3],by simp [nAt,h4]⟩
def zZN (l:List Rc):Rc:=l.foldl Rc.hull Rc.zero
abbrev wZf:=@List.take_add_one
theorem jVH {l:List Rc} {k:Nat} (h:k<l.length):zZN (l.take (k+1))=(zZN (l.take k)).hull l[k]:=by
 unfold zZN;rw [wZf,List.foldl_append,List.getElem?_eq_getElem h];rfl
def Rc.pieces (r i:Rc):List Rc:=[⟨r.a,r.b,r.c,i.b⟩,⟨r.a,i.d,r.c,r.d⟩,⟨r.a,i.b,i.a,i.d⟩,⟨i.c,i.b,r.c,i.d⟩]
def filt (l:List Rc):List Rc:=l.filter λp=>!p.empty
def Rc.sub (r q:Rc):List Rc:=if r.empty then [] else if (r.inter q).empty then [r] else filt (Rc.pieces r (r.inter q))
theorem zQz (l:List Int):(is l).length=l.length:=by simp [is]
theorem jJM {l:List Int} {k:Nat} (h:k<l.length):(is l)[k]?=some (.int .i64 l[k]):=by simp [is,h]
theorem zHh {l:List Int} {k:Nat} (h:k<l.length):nAt (is l) k=l[k]:=by simp [nAt,jJM h]
theorem jV2:∀ (xs:List DV),DV.wfs xs↔∀ x∈xs,x.wf
 | []=>by simp [DV.wfs]
 | x::xs=>by simp only [DV.wfs,jV2 xs,wQz,forall_eq_or_imp]
theorem yZb {l:List Int} (h:DV.wfs (is l)) {k:Nat} (hk:k<l.length) : -9223372036854775808<=l[k]/\l[k]<=9223372036854775807:=by
 have:=(jV2 _).1 h (.int .i64 l[k]) (by simp [is]);simp [DV.wf,IntKind.min,IntKind.max,IntKind.signed,IntKind.bits] at this;exact this
open Go.Proofs.Tryz (prog)
theorem zQb:prog.follows .mixedOrders=true:=by kernel_rfl
def gamM:Gam:=gam0.add [.p 27 (λ| [.d (.int _ n),.d (.int _ k)]=>some (rJ (modS n k)) | _=>none)]
def cA (a b:Int):Prop:=RV.d (DV.int IntKind.i64 a)=RV.d (DV.int IntKind.i64 b)
def aI (a:Int):Int:=wrap IntKind.i64 a
def aH (a b:Prop):Prop:=True/\True/\a/\True/\b
def kD (a b:Int):Prop:=decide (a<b)=true
def pK (a b:Int) (c:Prop):Prop:=kD a b->True/\c
def aAE (a:Int):Prop:=decide (a<1)=false
theorem zQh (n k:Int):Ans prog 27 [rJ (n),rJ (k)] (rJ ((modS n k))):=
 zQa (Γ:=gamM) aL zQb Tryz.func27 rfl (nL rfl) λhwf=>by
  refine Eq.mpr (by kernel_rfl:_=(True/\True/\True/\pK k 1 (cA 0 (modS n k))/\(aAE k->aH (k≠0) (aH (k≠0) (cA (Int.tmod (aI (Int.tmod n k+k)) k) (modS n k)))))) ?_;delta eS cA aI aH kD pK aAE;simp only [true_and,and_true,RV.d.injEq,DV.int.injEq,wQ6,wZd,wZc];unfold modS; grind
def zXG (l:Int) (xs:List DV):Bool:=(ints xs).all λv=>decide (-l<=v)&&decide (v<=l)
abbrev qD (q:Rc):List DV:=[DV.int .i64 q.a,DV.int .i64 q.b,DV.int .i64 q.c,DV.int .i64 q.d]
def gZ0:List RV->Option RV:=λ| [.agg [.int _ a,.int _ b,.int _ c,.int _ d]]=>some (RV.d (dQ (Rc.valid ⟨a,b,c,d⟩))) | _=>none
def gZ1:List RV->Option RV:=λ| [.agg [.int _ a,.int _ b,.int _ c,.int _ d]]=>some (RV.d (dQ (Rc.empty ⟨a,b,c,d⟩))) | _=>none
def gam:Gam:=gamM.add [.p 162 (λ| [.d (.int _ l),.d (.sl n xs)]=>some (RV.d (dQ (zXG l xs))) | _=>none),
 .p 85 gZ0,
 .p 84 gZ0,
 .p 40 gZ1,
 .p 207 (λ| [.agg [.int _ a,.int _ b,.int _ c,.int _ d]]=>some (RV.agg (qD (Rc.clean ⟨a,b,c,d⟩))) | _=>none),
 .p 151 (λ| [.agg [.int _ a,.int _ b,.int _ c,.int _ d]]=>some (rJ (Rc.area ⟨a,b,c,d⟩)) | _=>none),
 .p 104 (λ| [.agg [.int _ a,.int _ b,.int _ c,.int _ d],.d (.int _ x),.d (.int _ y)]=>some (RV.d (dQ (Rc.has ⟨a,b,c,d⟩ x y))) | _=>none),
 .p 157 (λ| [.agg [.int _ a,.int _ b,.int _ c,.int _ d],.agg [.int _ a',.int _ b',.int _ c',.int _ d']]=>some (RV.agg (qD (Rc.inter ⟨a,b,c,d⟩ ⟨a',b',c',d'⟩))) | _=>none),
 .p 39 gZ1]
def bY (a b c:Prop):Prop:=True/\True/\True/\(a->True/\True/\b)/\c
def jS (a b:Int) (c d:Prop):Prop:=True/\True/\True/\(decide (a>=b)=true->True/\c)/\d
def aG (a:Prop):Prop:=True/\True/\True/\True/\True/\True/\True/\True/\a
def aB (a:Bool):RV:=RV.d (DV.bool a)
def aV (a:Prop):Prop:=True/\True/\True/\a
def fP (a b:Bool) (c:Prop):Prop:=a=(!b)->True/\True/\True/\True/\c
def fQ (a b:Int):Prop:=decide (a>=b)=true
def jZ (a b:Int):Prop:=decide (a<=b)=true
def mP (a:Bool) (b:Prop):Prop:=a=(!true)->True/\True/\b
def eM (a:Bool):Prop:=aB false=aB a
def wM (a b:Int) (c:Bool):Prop:=aB (decide (a<=b))=aB c
def jJ (a b c:Bool):Prop:=fP a b (eM c)
def rM (a:Bool):Prop:=True/\True/\True/\True/\eM a
def uC (a:Bool):Prop:=a=(!true)
def kA (a b c d e:Prop):Prop:=bY a (bY b c d) e
def yZ (a b:Int) (c:Prop):Prop:=mP (decide (a>=b)) c
def lE (a:Prop):Prop:=True/\True/\True/\True/\aG a
def aHH (a:Int):Bool:=decide (a<=1073741824)
def aFT (a:Int) (b:Prop):Prop:=yZ a (-1073741824) b
theorem zQU (a b c d:Int):Ans prog 84 [rA [dJ a,dJ b,dJ c,dJ d]] (rD (dQ (Rc.valid ⟨a,b,c,d⟩))):=
 zQa (Γ:=gam) aL zQb Tryz.func84 rfl (nL rfl) λhwf=>by
  refine Eq.mpr (by kernel_rfl:_=(let e:=Rc.valid ⟨a,b,c,d⟩;let g:=eM e;let h:=aG g;let f:=(-(1073741824:Int));aV (kA (fQ a f) (jZ a 1073741824) (kA (fQ b f) (jZ b 1073741824) (kA (fQ c f) (jZ c 1073741824) (jS d f (True/\True/\True/\True/\wM d 1073741824 e) (aFT d g)) (jJ (aHH c) true e) (aFT c (rM e))) (uC (aHH b)->h) (aFT b h)) (fP (aHH a) true h) (aFT a (lE g))))) ?_;delta eS bY jS aG aB aV fP fQ jZ mP eM wM jJ rM uC kA yZ lE aHH aFT;simp only [true_and,and_true,RV.d.injEq,RV.agg.injEq,RV.tup.injEq,DV.bool.injEq,DV.int.injEq,wQE,wQ6,wZd,wZc,wQq,wZe];grind [Rc.valid,okC]
def fK (a b:Int) (c:Prop):Prop:=decide (a>=b)=false->True/\c
def sM (a b:Int):List DV:=[DV.int IntKind.i64 a,DV.int IntKind.i64 b]
def lB (a b c d:Int):RV:=RV.agg (DV.int IntKind.i64 a::DV.int IntKind.i64 b::sM c d)
def bS (a:Prop):Prop:=True/\True/\True/\True/\True/\True/\a
def jV (a:Bool) (b:Prop):Prop:=a=(!false)->True/\True/\b
def sO (a:Bool):Prop:=(!a)=false
def dL (a:FuncId) (b c:RV):Prop:=Ans prog a [b] c
def nP (a b c d:Int):Bool:=Rc.empty ⟨a,b,c,d⟩
def aBK (a:Bool) (b:Prop):Prop:=sO a->True/\True/\True/\True/\b
def aBC (a b:Int) (c:Bool):Prop:=aB (decide (a>=b))=aB c
def oN (a:Bool):Prop:=aB true=aB a
theorem zQZ (a b c d:Int):Ans prog 39 [rA [dJ a,dJ b,dJ c,dJ d]] (rD (dQ (Rc.empty ⟨a,b,c,d⟩))):=
 zQa (Γ:=gam) aL zQb Tryz.func39 rfl (nL rfl) λhwf=>by
  refine Eq.mpr (by kernel_rfl:_=(let f:=oN (nP a b c d);let e:=Rc.valid ⟨a,b,c,d⟩;aV (dL 84 (lB a b c d) (aB e)/\True/\True/\aBK e (True/\True/\True/\fK a c (bS (aBC b d (nP a b c d)))/\jV (decide (a>=c)) f)/\fP (!e) false f))) ?_;delta eS fK aB aV sM lB bS jV fP sO dL nP aBK aBC oN;simp only [true_and,and_true,RV.d.injEq,RV.agg.injEq,RV.tup.injEq,DV.bool.injEq,DV.int.injEq,wQE,wQ6,wZd,wZc,wQq,wZe,zQU,zQh];grind [Rc.empty]
def bO (a:Int):Cl:=Cl.d (DV.int IntKind.i64 a)
def aLI (a:Nat) (b:Cl):Nat × AV:=(a,AV.one b)
def cT (a:Ann):Ann:=Ann.seq Ann.leaf a
def xW (a:Nat) (b:Cl) (c:List (Nat × AV)):List (Nat × AV):=aLI a b::c
def aHA (a:Nat) (b:Cl) (c:Nat) (d:Cl) (e:List (Nat × AV)):List (Nat × AV):=xW a b (xW c d e)
def zL (a:Nat) (b:DV) (c:Nat) (e:Cl) (f:List (Nat × AV)):List (Nat × AV):=aHA a (Cl.d b) c e f
def sX (a:Nat) (b:Int) (c:Nat) (d:Cl) (e:List (Nat × AV)):List (Nat × AV):=aHA a (bO b) c d e
def aDO (a:Nat) (b:Int) (c:Nat) (e:DV) (f:List (Nat × AV)):List (Nat × AV):=sX a b c (Cl.d e) f
def pE (a:Ann):Ann:=Ann.seq a Ann.leaf
def rF (a:Ann):Ann:=pE (cT a)
def yG (a:Nat):Cl:=bO (a:Int)
def pM (a:Ann):Ann:=cT (rF a)
def aCE (a:Nat) (b:Int) (c:List (Nat × AV)):List (Nat × AV):=xW a (bO b) c
def cB (a b:Nat) (c:Prop):Prop:=a<=b/\c
def aEF (a:Nat) (b:Int):List (Nat × AV):=aCE a b []
def uN (a:List (Nat × AV)):Snap:=⟨a,[]⟩
def zX (a:Nat) (b:Int) (c d:Nat) (e:List DV) (f:List (Nat × AV)):List (Nat × AV):=aDO a b c (DV.sl d e) f
def aGK (a b:Nat) (c:Int) (d:List DV):Prop:=cB a b (zXG c (List.take a d)=true)
def aY (a:Int) (b:Nat):Nat:=Int.toNat a*b
def mN (a b:Int) (c:Bool):Prop:=decide (a<b)=(!c)
def aZ (a:Prop):Prop:=a/\True
def aX (a b:Int):Int:=aI (a-b)
def eC (a:DV) (b c:Prop):Prop:=eS a/\b/\c
def aM (a b:Prop):Prop:=a/\True/\True/\True/\b
def aW (a b:Prop):Prop:=a/\b/\True
def nH (a:Nat):DV:=DV.int IntKind.i64 (a:Int)
def nG (a:Nat) (b:Int) (c:Bool):Prop:=decide ((a:Int)<b)=c
def fU (a b:Int) (c d:Prop):Prop:=True/\True/\True/\(decide (a>b)=true->True/\c)/\d
def bK (a b c:Prop):Prop:=a/\aW b c
def aT (a b:Nat):Nat:=aY (a:Int) b
def bL (a b c:Prop):Prop:=a->True/\b/\c
def gD (a:Nat) (b:List DV):Prop:=eS (DV.sl a b)
def gT (a b:Int):Prop:=decide (a>b)=false
def bT (a:List DV) (b c:Nat):Int:=nAt a (aY (b:Int) c)
def eG (a b c:Nat) (d:List DV):Prop:=0<=(a:Int)/\(a:Int)<(b:Int)/\aT a c<List.length d
def eX (a b:Nat) (c:Bool) (d:Prop):Prop:=nG a (b:Int) c->True/\d
def gM (a:List DV) (b c:Nat):Prop:=a[aT b c]?=some (DV.int IntKind.i64 (nAt a (aT b c)))
def fV (a b:Int) (c:Prop):Prop:=decide (a<b)=false->True/\c
def vW (a b:Prop):Prop:=True/\True/\True/\True/\a/\b
def pF (a:Int) (b c:Prop):Prop:=eC (DV.int IntKind.i64 a) b c
def bW (a b c:Nat):Prop:=a-b<a-c
def gA (a:Nat):Prop:=eS (nH a)
def gY (a b:Nat):Prop:=nG a (b:Int) true
def rK (a b:Nat):Prop:=DV.int IntKind.i64 (aI ((a:Int)+1))=nH b
def yO (a:Nat):Prop:=DV.int IntKind.i64 0=nH a
def xX (a b:Int) (c:Prop):Prop:=gT a b->True/\True/\c
def zW (a b:Int) (c:Bool) (d:Prop):Prop:=fU a b (eM c) (xX a b d)
abbrev wXq:=@Bool.and_true
abbrev wYb:=@List.all_append
abbrev wYc:=@Option.toList_some
theorem zG1 (l:Int) (n:Nat) (xs:List DV) (hx:xs=is (ints xs)) (hn:n=xs.length) (hl:0<=l/\l<=4611686018427387904):Ans prog 162 [rJ (l),rD (dS n xs)] (rD (dQ (zXG l xs))):=
 zQa (Γ:=gam) (pM (Ann.loop (Inv.mk Nat (λ(c:Nat)=>aGK c n l xs) (λ(b:Nat)=>uN (zX 0 l 1 n xs (zL 7 (DV.sl n xs) 8 (yG n) (aEF 9 (b:Int))))) (λ(a:Nat)=>n-a)) (λ(d:Nat)=>aL))) zQb Tryz.func162 rfl (nL rfl) λhwf=>by
  refine Eq.mpr (by kernel_rfl:_=(let b:=gD n xs;vW (∃ e:Nat,aW (aGK e n l xs) (pF l b (bK b (gA n) (yO e)))) (∀ a:Nat,let d:=bT xs a 1;bL (aGK a n l xs) (gY a n->eG a n 1 xs/\aM (aZ (gM xs a 1)) (True/\True/\True/\fV d (aX 0 l) (zW d l (zXG l xs) (∃ c:Nat,bK (aGK c n l xs) (bW n c a) (pF l b (bK b (gA n) (rK a c)))))/\(mN d (aX 0 l) false->True/\True/\eM (zXG l xs)))) (eX a n false (oN (zXG l xs)))))) ?_;delta eS aY mN aZ aI aX eC aM aW nH nG fU bK aT bL gD gT bT eG eX gM fV vW aB pF bW cB gA gY rK yO eM oN xX zW aGK;simp only [true_and,and_true,RV.d.injEq,RV.agg.injEq,RV.tup.injEq,DV.bool.injEq,DV.int.injEq,wQE,wQ6,wZd,wZc,wQq,wZe,zQU,zQh,zQZ];obtain ⟨L,rfl⟩:∃ L,xs=is L:=⟨_,hx⟩
  subst hn;simp only [RV.wfs,RV.wf,DV.wf,zQz,IntKind.min,IntKind.max,IntKind.signed,IntKind.bits,and_true,maxLen] at hwf;simp only [zQz,wQl,wQo,wQh,wZD];have hsucc:∀ k (h:k<L.length),zXG l (is (L.take (k+1)))=(zXG l (is (L.take k))&&(decide (-l<=L[k])&&decide (L[k]<=l))):=λk h=>by
   simp only [zXG,zZF,wZf,wYb,List.getElem?_eq_getElem h,wYc,wZK,List.all_nil,wXq]
  have htake:∀ k,(is L).take k=is (L.take k):=λk=>by simp [is]
  have hall:∀ k (h:k<L.length),zXG l (is L)=true -> -l<=L[k]/\L[k]<=l:=λk h hw=>by
   simp only [zXG,zZF,List.all_eq_true] at hw;have:=hw L[k] (List.getElem_mem h);simpa using this
  refine ⟨⟨0,⟨by omega,by simp [zXG,ints]⟩,rfl⟩,λk hk=>⟨λhlt=>?_,λhge=>?_⟩⟩
  ·have hlt':k<L.length:=by omega
   have h1:=hsucc k hlt';have h2:=hall k hlt';have hw:=yZb hwf.2.2 hlt';rw [zHh hlt',jJM hlt',wQb (0-l) ⟨by omega,by omega⟩];refine ⟨by omega,rfl,λh3=>⟨λh4=>?_,λh4=>⟨k+1,⟨by omega,?_⟩,by omega,?_⟩⟩,λh3=>?_⟩
   ·cases h5:zXG l (is L) with
    | false=>rfl
    | true=>have:=h2 h5; omega
   ·rw [htake,h1,<- htake,hk.2]; simp; omega
   ·rw [wQb _ ⟨by omega,by omega⟩]; omega
   ·cases h5:zXG l (is L) with
    | false=>rfl
    | true=>have:=h2 h5; omega
  ·have:k=L.length:=by omega
   subst this;have:=hk.2;rw [htake,wXj] at this;exact this.symm
def iQ (a b c d:Int) (e:List DV):List DV:=DV.int IntKind.i64 a::DV.int IntKind.i64 b::DV.int IntKind.i64 c::DV.int IntKind.i64 d::e
def fM (a b c d:Int):List DV:=iQ a b c d []
def dO (a:Nat) (b:List DV):RV:=RV.d (DV.sl a b)
def xH (a:Prop):Prop:=True/\aG a
theorem zXQ (a b c d:Int):Ans prog 85 [rA [dJ a,dJ b,dJ c,dJ d]] (rD (dQ (Rc.valid ⟨a,b,c,d⟩))):=
 zQa (Γ:=gam) aL zQb Tryz.func85 rfl (nL rfl) λhwf=>by
  refine Eq.mpr (by kernel_rfl:_=(let e:=zXG 1073741824 (fM a b c d);xH (aH (Ans prog 162 [rD (DV.int IntKind.i64 1073741824),dO 4 (fM a b c d)] (aB e)) (aB e=aB (Rc.valid ⟨a,b,c,d⟩))))) ?_;delta eS aG aH iQ fM dO aB xH;simp only [true_and,and_true,RV.d.injEq,RV.agg.injEq,RV.tup.injEq,DV.bool.injEq,DV.int.injEq,wQE,wQ6,wZd,wZc,wQq,wZe,zQU,zQh,zQZ];exact ⟨zG1 _ _ _ rfl rfl (by omega),by grind [zXG,ints,Rc.valid,okC]⟩
theorem zQN (a b c d:Int):Ans prog 40 [rA [dJ a,dJ b,dJ c,dJ d]] (rD (dQ (Rc.empty ⟨a,b,c,d⟩))):=
 zQa (Γ:=gam) aL zQb Tryz.func40 rfl (nL rfl) λhwf=>by
  refine Eq.mpr (by kernel_rfl:_=(let f:=oN (nP a b c d);let e:=Rc.valid ⟨a,b,c,d⟩;aV (dL 85 (lB a b c d) (aB e)/\True/\True/\aBK e (True/\True/\True/\fK a c (bS (aBC b d (nP a b c d)))/\jV (decide (a>=c)) f)/\fP (!e) false f))) ?_;delta eS fK aB aV sM lB bS jV fP sO dL nP aBK aBC oN;simp only [true_and,and_true,RV.d.injEq,RV.agg.injEq,RV.tup.injEq,DV.bool.injEq,DV.int.injEq,wQE,wQ6,wZd,wZc,wQq,wZe,zQU,zQh,zQZ,zXQ];grind [Rc.empty]
def gV (a:Bool) (b:Prop):Prop:=a=false->True/\True/\b
def qW (a:Bool) (b:Prop):Prop:=a=true->True/\True/\b
def cU (e:Rc):RV:=lB e.a e.b e.c e.d
def zN:RV:=lB 0 0 0 0
def aEV (a b c d:Int):Prop:=dL 40 (lB a b c d) (aB (nP a b c d))
theorem zJA (a b c d:Int):Ans prog 207 [rA [dJ a,dJ b,dJ c,dJ d]] (rA (qD (Rc.clean ⟨a,b,c,d⟩))):=
 zQa (Γ:=gam) aL zQb Tryz.func207 rfl (nL rfl) λhwf=>by
  refine Eq.mpr (by kernel_rfl:_=(let e:=cU (Rc.clean ⟨a,b,c,d⟩);True/\True/\True/\aEV a b c d/\qW (nP a b c d) (zN=e)/\gV (nP a b c d) (lB a b c d=e))) ?_;delta eS gV qW aB sM lB cU dL nP zN aEV;simp only [true_and,and_true,RV.d.injEq,RV.agg.injEq,RV.tup.injEq,DV.bool.injEq,DV.int.injEq,wQE,wQ6,wZd,wZc,wQq,wZe,zQU,zQh,zQZ,zXQ,zQN];grind [Rc.clean,Rc.zero]
def eV (a b:Prop):Prop:=aH a (True/\True/\True/\True/\b)
theorem zYR (a b c d:Int):Ans prog 151 [rA [dJ a,dJ b,dJ c,dJ d]] (rJ ((Rc.area ⟨a,b,c,d⟩))):=
 zQa (Γ:=gam) aL zQb Tryz.func151 rfl (nL rfl) λhwf=>by
  refine Eq.mpr (by kernel_rfl:_=(let e:=Rc.clean ⟨a,b,c,d⟩;True/\eV (dL 207 (lB a b c d) (cU e)) (aG (cA (aI (aX e.c e.a*aX e.d e.b)) (Rc.area ⟨a,b,c,d⟩))))) ?_;delta eS cA aI aG aH aX eV sM lB cU dL;simp only [true_and,and_true,RV.d.injEq,RV.agg.injEq,RV.tup.injEq,DV.bool.injEq,DV.int.injEq,wQE,wQ6,wZd,wZc,wQq,wZe,zQU,zQh,zQZ,zXQ,zQN,zJA];exact Rc.area_wrap _
def dP (a b:Prop):Prop:=True/\True/\True/\True/\True/\a/\b
def fZ (a b:Prop):Prop:=True/\True/\a/\b
def aBL (a b:Int) (c:Prop):Prop:=mP (decide (a<=b)) c
def yV (a b c:Prop):Prop:=aV (a/\True/\True/\b/\c)
def aBN (a b:Bool):Prop:=True/\True/\True/\True/\aB a=aB b
def uR (a:Bool):Prop:=(!a)=true
theorem zUs (a b c d x y:Int):Ans prog 104 [rA [dJ a,dJ b,dJ c,dJ d],rJ (x),rJ (y)] (rD (dQ (Rc.has ⟨a,b,c,d⟩ x y))):=
 zQa (Γ:=gam) aL zQb Tryz.func104 rfl (nL rfl) λhwf=>by
  refine Eq.mpr (by kernel_rfl:_=(let e:=Rc.has ⟨a,b,c,d⟩ x y;let f:=eM e;yV (aEV a b c d) (uR (nP a b c d)->True/\True/\True/\True/\fZ (decide (a<=x)=true->True/\dP (pK x c (True/\True/\bY (jZ b y) (aBN (decide (y<d)) e) (aBL b y f))) (mN x c true->True/\True/\True/\True/\f)) (aBL a x (rM e))) (uC (!(nP a b c d))->aG f))) ?_;delta eS bY mN aG kD pK dP aB aV sM lB fZ jZ mP eM aBL rM uC dL nP yV aBN uR aEV;simp only [true_and,and_true,RV.d.injEq,RV.agg.injEq,RV.tup.injEq,DV.bool.injEq,DV.int.injEq,wQE,wQ6,wZd,wZc,wQq,wZe,zQU,zQh,zQZ,zXQ,zQN,zJA,zYR];grind [Rc.has]
def jG (a:Bool) (b:Prop):Prop:=a=(!false)->True/\b
def nI (a:Int):List DV:=[DV.int IntKind.i64 a]
def bF (a:FuncId) (b:List DV) (c:List RV) (d:RV):Prop:=Ans prog a (RV.agg b::c) d
theorem zQq (a b c d a' b' c' d':Int):Ans prog 157 [rA [dJ a,dJ b,dJ c,dJ d],rA [dJ a',dJ b',dJ c',dJ d']] (rA (qD (Rc.inter ⟨a,b,c,d⟩ ⟨a',b',c',d'⟩))):=
 zQa (Γ:=gam) aL zQb Tryz.func157 rfl (nL rfl) λhwf=>by
  refine Eq.mpr (by kernel_rfl:_=(let e:=cU (Rc.inter ⟨a,b,c,d⟩ ⟨a',b',c',d'⟩);let f:=nP a b c d;let g:=cU (Rc.clean ⟨Max.max a a',Max.max b b',Min.min c c',Min.min d d'⟩);aV (True/\bF 40 (DV.int IntKind.i64 a::DV.int IntKind.i64 b::DV.int IntKind.i64 c::nI d) [] (aB f)/\True/\(f=false->True/\aEV a' b' c' d'/\True/\qW (nP a' b' c' d') (zN=e)/\gV (nP a' b' c' d') (True/\True/\True/\True/\xH (aV (True/\aH (dL 207 (lB (Max.max a a') (Max.max b b') (Min.min c c') (Min.min d d')) g) (g=e)))))/\jG f (True/\True/\zN=e)))) ?_;delta eS aG aH gV qW jG nI bF aB aV sM lB cU dL nP xH zN aEV;simp only [true_and,and_true,RV.d.injEq,RV.agg.injEq,RV.tup.injEq,DV.bool.injEq,DV.int.injEq,wQE,wQ6,wZd,wZc,wQq,wZe,zQU,zQh,zQZ,zXQ,zQN,zJA,zYR,zUs];cases h1:Rc.empty ⟨a,b,c,d⟩<;>cases h2:Rc.empty ⟨a',b',c',d'⟩<;>simp [Rc.inter,h1,h2,Rc.zero]
section
attribute [local irreducible] Ans AnsO AnsG AnsN AnsI
def gamB:Gam:=gam.add [.p 211 (λ| [.d (.sl n xs)]=>let a:=(zZN (zGE xs)); some (RV.agg [dJ a.a,dJ a.b,dJ a.c,dJ a.d]) | _=>none)]
def qV (a:Nat) (b:List DV):Cl:=Cl.d (DV.sl a b)
def aIP (a:Nat) (b:List Cl):Nat × Bx:=(a,Bx.cells b)
def cS (a b:Int) (c:List Cl):List Cl:=bO a::bO b::c
def aHY (a b c d:Nat) (e:Cl) (f:List (Nat × AV)):List (Nat × AV):=aHA a (Cl.ptr b c) d e f
def dY (a b c d:Int) (e:List Cl):List Cl:=cS a b (cS c d e)
def dZ (a:Ann):Ann:=cT (cT a)
def aIO (a:List (Nat × AV)) (b:Nat × Bx) (c:List (Nat × Bx)):Snap:=⟨a,b::c⟩
def qZ (a:List (Nat × AV)) (b:Nat) (c:List Cl) (d:List (Nat × Bx)):Snap:=aIO a (aIP b c) d
def oZ (a:Nat) (b:List Cl) (c:List (Nat × Bx)):List (Nat × Bx):=aIP a b::c
def yM (a:List (Nat × AV)) (b:Nat) (c:List Cl) (d:Nat) (e:List Cl) (f:List (Nat × Bx)):Snap:=qZ a b c (oZ d e f)
def aLQ (a:Nat) (b:DV) (c d e:Nat) (f:List (Nat × AV)):List (Nat × AV):=zL a b c (Cl.ptr d e) f
def aFI (a:Nat) (b:DV) (c d:Nat) (e:List (Nat × AV)):List (Nat × AV):=aLQ a b c d 0 e
def aMA (a b c:Int) (d:List Cl):List Cl:=dY a b 0 c d
def aEB (a b:Int) (c:List Cl):List Cl:=aMA a b 0 c
def aHI (a:Int) (b:List Cl):List Cl:=aEB a 0 b
def nB (a:List Cl):List Cl:=aHI 0 a
def eF (a:Ann):Ann:=dZ (rF a)
def oJ (a:Nat) (b:Int) (c:Nat) (d:Int) (e:List (Nat × AV)):List (Nat × AV):=sX a b c (bO d) e
def pO (a b c:Nat) (d:Cl) (e:List (Nat × AV)):List (Nat × AV):=aHY a b 0 c d e
def aBH (a b c:Nat) (d:Int) (e:List (Nat × AV)):List (Nat × AV):=oJ a (b:Int) c d e
def aIF (a b:Nat) (c:List DV) (d e:Nat) (f:List (Nat × AV)):List (Nat × AV):=aFI a (DV.sl b c) d e f
def aIJ (a b c d:Nat) (e:List (Nat × AV)):List (Nat × AV):=aBH a b c (d:Int) e
def lO (a b c d:Nat):List (Nat × AV):=aIJ a b c d []
def qQ (a:List (Nat × AV)) (b:Nat) (c:List Cl) (d:Nat) (e:List Cl):Snap:=yM a b c d e []
def aCW (a:Nat) (b:List DV):Rc:=zZN (List.take a (zGE b))
def aF (a b c d:Prop):Prop:=a/\b/\c/\d/\True
def cG (a b c:Prop):Prop:=a/\b/\True/\True/\c
def oB (e:Rc):List DV:=fM e.a e.b e.c e.d
def gW (a b c:Prop) (d e:Nat):Prop:=aF a b c (DV.int IntKind.i64 (aI ((d:Int)+1))=nH e)
def mG (a b c:Prop) (d:Nat):Prop:=aF a b c (DV.int IntKind.i64 0=nH d)
def kS (a:List DV) (b c:Nat):Prop:=a[b+c]?=some (DV.int IntKind.i64 (nAt a (b+c)))
def fY (a:List DV) (b:Nat):Prop:=kS a (b+1) 1
def dT (a:List DV) (b c:Nat):Int:=nAt a (aT b c+1)
def dE (a:List DV) (b c:Nat):Int:=nAt a (aT b c+1+1+1)
def eH (a:List DV) (b c:Nat):Int:=nAt a (aT b c+1+1)
def tQ (a:List DV) (b c:Nat):Prop:=fY a (aT b c+1)
def nM (a b:Prop) (c d e:List DV):Prop:=aF a b (eS c) (d=e)
def vV:List DV:=fM 0 0 0 0
def rV (a:Nat) (b:List DV) (c:Prop):Prop:=eC (DV.sl a b) (eS (0:Nat)) c
def pV (a b:Nat):Prop:=nG a (b:Int) false
def iG (a:Prop) (b:Nat) (c:List DV) (d e:Nat):Prop:=gW a (gD b c) (gA b) d e
def sP (a:Prop) (b:Nat) (c:List DV) (d:Nat):Prop:=mG a (gD b c) (gA b) d
theorem jZG (n:Nat) (xs:List DV) (hx:jGZ n xs):Ans prog 211 [rD (dS n xs)] (rA (qD (zZN (zGE xs)))):=
 zQa (Γ:=gamB) (eF (Ann.loop (Inv.mk Nat (λ(d:Nat)=>d<=n) (λ(b:Nat)=>let a:=aCW b xs;qQ (aIF 0 n xs 2 2 (pO 3 3 6 (qV n xs) (lO 7 n 8 b))) 2 (nB []) 3 (dY a.a a.b a.c a.d [])) (λ(c:Nat)=>n-c)) (λ(e:Nat)=>aL))) zQb Tryz.func211 rfl (nL rfl) λhwf=>by
  refine Eq.mpr (by kernel_rfl:_=(dP (∃ j:Nat,aF (j<=n) (rV n xs (sP (eS (0:Nat)) n xs j)) (eS vV) (vV=oB (aCW j xs))) (∀ a:Nat,let b:=aCW a xs;let f:=dE xs a 4;let k:=b.d;let g:=eH xs a 4;let l:=b.c;let h:=dT xs a 4;let m:=b.b;let i:=bT xs a 4;let o:=b.a;let p:=nP o m l k;let q:=nP i h g f;bL (a<=n) (gY a n->cG (eG a n 4 xs) (aF (gM xs a 4) (kS xs (aT a 4) 1) (fY xs (aT a 4)) (tQ xs a 4)) (True/\aEV i h g f/\True/\qW q (∃ e:Nat,cB e n (nM (bW n e a) (rV n xs (iG (eS (0:Nat)) n xs a e)) vV (oB b) (oB (aCW e xs))))/\(q=false->True/\dL 40 (cU b) (aB (nP o m l k))/\True/\(p=true->True/\True/\True/\True/\(∃ d:Nat,cB d n (nM (bW n d a) (rV n xs (iG (eS (0:Nat)) n xs a d)) vV (fM i h g f) (oB (aCW d xs)))))/\(p=false->aG (aG (aG (∃ c:Nat,cB c n (nM (bW n c a) (rV n xs (iG (eS (0:Nat)) n xs a c)) vV (fM (Min.min o i) (Min.min m h) (Max.max l g) (Max.max k f)) (oB (aCW c xs)))))))))) (pV a n->True/\True/\cU b=cU (zZN (zGE xs)))))) ?_;delta eS aY aI aF aG iQ eC fM cG qW oB nH nG aT gW bL gD dP mG kS fY bT eG dT dE eH gM tQ nM vV aB sM lB bW cB gA cU gY dL nP rV pV iG sP aEV aCW;simp only [sS,zQN,zQZ,zQq,zQh];obtain ⟨l,rfl,rfl⟩:=hx.of;simp only [RV.wfs,RV.wf,DV.wf,maxLen] at hwf;simp only [zKQ,zXC];refine ⟨⟨0,by omega,rfl,rfl,rfl,rfl,rfl⟩,λk hk=>⟨λhlt=>?_,λhge=>?_⟩⟩
  ·have h:k<l.length:=by omega
   obtain ⟨e1,e2,e3,e4⟩:=zV6 h;obtain ⟨q1,q2,q3,q4⟩:=zVP l k h;have hs:=jVH h;have hw:wrap .i64 ((k:Int)+1)=((k+1:Nat):Int):=by rw [wQb _ ⟨by omega,by omega⟩]; omega
   simp only [e1,e2,e3,e4];generalize zZN (l.take k)=H at *;refine ⟨by omega,⟨q1,q2,q3,q4⟩,λhe=>⟨k+1,by omega,by omega,hw,?_⟩,λhe=>⟨λh2=>⟨k+1,by omega,by omega,hw,?_⟩,λh2=>⟨k+1,by omega,by omega,hw,?_⟩⟩⟩
   ·have he:l[k].empty=true:=he;rw [hs]; simp [Rc.hull,he]
   ·have he:l[k].empty=false:=he;have h2:H.empty=true:=h2;rw [hs]; simp [Rc.hull,he,h2]
   ·have he:l[k].empty=false:=he;have h2:H.empty=false:=h2;rw [hs]; simp [Rc.hull,he,h2,Int.min_comm,Int.max_comm]
  ·have:k=l.length:=by omega
   subst this;simp
end
theorem Rc.has_iff (r:Rc) (x y:Int):r.has x y=true↔r.empty=false/\r.a<=x/\x<r.c/\r.b<=y/\y<r.d:=by
 simp [Rc.has,and_assoc]
theorem Rc.clean_has (r:Rc) (x y:Int):r.clean.has x y=r.has x y:=by
 cases h:r.empty with
 | true=>rw [Rc.clean_zero h]; simp [Rc.has,h,Rc.zero_empty]
 | false=>rw [Rc.clean_of h]
abbrev wYd:=@Bool.eq_iff_iff
theorem Rc.inter_has (r q:Rc) (x y:Int):(r.inter q).has x y=(r.has x y&&q.has x y):=by
 unfold Rc.inter
 cases h1:r.empty with
 | true=>simp [Rc.has,h1,Rc.zero_empty]
 | false=>
  cases h2:q.empty with
  | true=>simp [Rc.has,h2,Rc.zero_empty]
  | false=>
   simp only [Bool.or_self,wQQ,if_false,Rc.clean_has];rw [wYd,wQf,Rc.has_iff,Rc.has_iff,Rc.has_iff,Rc.empty_iff];have g1:=(Rc.empty_iff r).1 h1;have g2:=(Rc.empty_iff q).1 h2;simp only [h1,h2,true_and];omega
theorem Rc.hull_has {r q:Rc} {x y:Int} (h:r.has x y=true\/q.has x y=true):(r.hull q).has x y=true:=by
 unfold Rc.hull
 cases h1:q.empty with
 | true=>
  rcases h with h | h
  ·simpa using h
  ·simp [Rc.has,h1] at h
 | false=>
  cases h2:r.empty with
  | true=>
   rcases h with h | h
   ·simp [Rc.has,h2] at h
   ·simpa using h
  | false=>
   simp only [wQQ,if_false];rw [Rc.has_iff,Rc.empty_iff];have g1:=(Rc.empty_iff q).1 h1;have g2:=(Rc.empty_iff r).1 h2;rw [Rc.has_iff,Rc.has_iff] at h;simp only;omega
def cnt (l:List Rc) (x y:Int):Int:=(l.map λr=>if r.has x y then (1:Int) else 0).sum
def areas (l:List Rc):Int:=(l.map Rc.area).sum
def us (l:List Int):List DV:=l.map (.int .u16)
theorem jHO (l:List Int):ints (us l)=l:=by simp [ints,us,wZz]
theorem zKP (l:List Int):(us l).length=l.length:=by simp [us]
theorem yQo {l:List Int} {k:Nat} (h:k<l.length):(us l)[k]?=some (.int .u16 l[k]):=by simp [us,h]
theorem jKf {l:List Int} {k:Nat} (h:k<l.length):nAt (us l) k=l[k]:=by simp [nAt,yQo h]
theorem jV4 (l m:List Int):us l++us m=us (l++m):=by simp [us]
def IsU (n:Nat) (xs:List DV):Prop:=xs=us (ints xs)/\n=xs.length
theorem IsU.of {n:Nat} {xs:List DV} (h:IsU n xs):∃ l:List Int,xs=us l/\n=l.length:=by
 refine ⟨ints xs,h.1,?_⟩;rw [h.2,h.1,zKP,jHO]
theorem jHb {n:Nat} {xs:List DV} (hn:xs.length=n) (hx:∀ (j:Nat) d,xs[j]?=some d->∃ v,d=.int .u16 v):IsU n xs:=by
 refine ⟨?_,hn.symm⟩;clear hn
 induction xs with
 | nil=>rfl
 | cons x xs ih=>
  obtain ⟨v,rfl⟩:=hx 0 _ rfl;have:=ih λj d hj=>hx (j+1) d hj;simp only [us,ints,wQg] at this |-;rw [<- this]
def zZg (w h:Int):Bool:=decide (1<=w)&&decide (1<=h)&&decide (w*h<=16777216)
def lenW (w h s:Int):Int:=wrap .i64 (wrap .i64 (wrap .i64 (h-1)*s)+w)
def zQM (w h s:Int) (n:Nat):Bool:=zZg w h&&decide (w<=s)&&decide (s<=16777216)&&decide (lenW w h s<=n)
structure Pl where (w h s:Int) (n:Nat) (xs:List DV)
def Pl.none:Pl:=⟨0,0,0,0,[]⟩
def jJO (w h s:Int) (n:Nat) (x y:Int):Bool:=zQM w h s n&&decide (0<=x)&&decide (x<w)&&decide (0<=y)&&decide (y<h)
def atP (w h s:Int) (n:Nat) (xs:List DV) (x y:Int):Int:=if jJO w h s n x y then nAt xs (y*s+x).toNat else 0
def yZc (w h s:Int) (n:Nat) (xs:List DV) (w' h' s':Int) (n':Nat) (xs':List DV):Bool:=decide (w=w')&&decide (h=h')&&decide (s=s')&&decide (n=n')&&decide (ints xs=ints xs')
abbrev wQS:=@Int.tdiv_eq_ediv_of_nonneg
theorem zGI {w h:Int} (h1:1<=w) (h2:1<=h):(w<=wrap .i64 (Int.tdiv 16777216 h))↔w*h<=16777216:=by
 have hd:Int.tdiv 16777216 h=16777216 / h:=wQS (by omega);have h3:(0:Int)<=16777216 / h:=wQs (by omega) (by omega);have h4:(16777216:Int) / h<=16777216:=wZw _ (by omega);rw [hd,wQb _ ⟨by omega,by omega⟩,wX3 (by omega)]
theorem zXI {w h:Int} (hf:zZg w h=true):1<=w/\1<=h/\w<=16777216/\h<=16777216/\w*h<=16777216:=by
 simp only [zZg,wQf,wQh] at hf;obtain ⟨⟨h1,h2⟩,h3⟩:=hf;have e1:w*1<=w*h:=Int.mul_le_mul_of_nonneg_left h2 (by omega);have e2:1*h<=w*h:=Int.mul_le_mul_of_nonneg_right h1 (by omega);omega
theorem jJK {w h s:Int} (hf:zZg w h=true) (h1:w<=s) (h2:s<=16777216):lenW w h s=(h-1)*s+w/\1<=lenW w h s/\lenW w h s<=562949953421312/\0<=(h-1)*s:=by
 obtain ⟨a,b,c,d,_⟩:=zXI hf;have e:=jWV (x:=h-1) (y:=s) (M:=16777216) (by omega) (by omega) (by omega) (by omega);unfold lenW;rw [wQb (h-1) ⟨by omega,by omega⟩,wQb ((h-1)*s) ⟨by omega,by omega⟩,wQb _ ⟨by omega,by omega⟩];omega
theorem zY5 {w h s:Int} {n:Nat} (hv:zQM w h s n=true):1<=w/\1<=h/\w<=16777216/\h<=16777216/\w*h<=16777216/\w<=s/\s<=16777216/\(h-1)*s+w<=n/\0<=(h-1)*s:=by
 simp only [zQM,wQf,wQh] at hv;obtain ⟨⟨⟨h1,h2⟩,h3⟩,h4⟩:=hv;obtain ⟨e1,_,_,e4⟩:=jJK h1 h2 h3;obtain ⟨a,b,c,d,e⟩:=zXI h1;rw [e1] at h4;exact ⟨a,b,c,d,e,h2,h3,h4,e4⟩
theorem place {w h s:Int} {n:Nat} {x y:Int} (hv:zQM w h s n=true) (h1:0<=x) (h2:x<w) (h3:0<=y) (h4:y<h):0<=y*s/\y*s+x<n/\y*s+w<=n/\y*s<=281474976710656/\wrap .i64 (y*s)=y*s/\wrap .i64 (y*s+x)=y*s+x:=by
 obtain ⟨a,b,c,d,e,f,g,i,j⟩:=zY5 hv;have e1:=jWV (x:=y) (y:=s) (M:=16777216) (by omega) (by omega) (by omega) (by omega);have e2:y*s<=(h-1)*s:=Int.mul_le_mul_of_nonneg_right (by omega) (by omega);refine ⟨by omega,by omega,by omega,by omega,wQb _ ⟨by omega,by omega⟩,wQb _ ⟨by omega,by omega⟩⟩
abbrev wXN:=@Int.natCast_mul
abbrev wZ4:=@Int.toNat_of_nonneg
theorem jVd {w h s:Int} {l:List Int} (hv:zQM w h s l.length=true):∀ y,y<h.toNat->y*s.toNat+w.toNat<=l.length:=by
 intro y hy;obtain ⟨a,b,c,d,e,f,g,i,j⟩:=zY5 hv;obtain ⟨p1,p2,p3,p4,_⟩:=place (x:=0) (y:=(y:Int)) hv (by omega) (by omega) (by omega) (by omega);have e1:((y*s.toNat:Nat):Int)=(y:Int)*s:=by rw [wXN,wZ4 (by omega)]
 omega
theorem idx {s:Int} {y x:Nat} (hs:0<=s):((y:Int)*s+(x:Int)).toNat=y*s.toNat+x:=by
 have e1:((y*s.toNat:Nat):Int)=(y:Int)*s:=by rw [wXN,wZ4 hs]
 omega
theorem at_in {w h s:Int} {l:List Int} (hv:zQM w h s l.length=true) {x y:Nat} (hx:x<w.toNat) (hy:y<h.toNat):l[y*s.toNat+x]?=some (atP w h s l.length (us l) x y):=by
 have hr:=jVd hv y hy;obtain ⟨a,b,c,d,e,f,g,i,j⟩:=zY5 hv;have hi:jJO w h s l.length x y=true:=by simp [jJO,hv]; omega
 have hk:y*s.toNat+x<l.length:=by omega
 have hz:((y:Int)*s+(x:Int)).toNat=y*s.toNat+x:=idx (by omega);simp only [atP,hi,if_true,hz,jKf hk,List.getElem?_eq_getElem hk]
theorem zZ3 {k:Nat} (h:k<=9223372036854775806):wrap .i64 ((k:Int)+1)=((k+1:Nat):Int):=by rw [wQb _ ⟨by omega,by omega⟩]; omega
theorem w1_:wrap .i64 0=0/\wrap .i64 1=1/\wrap .i64 2=2/\wrap .i64 3=3/\wrap .i64 4=4/\wrap .i64 5=5/\wrap .i64 6=6:=by decide
structure Px where
  a:Int
  b:Int
  c:Int
  al:Int
  f:Int
deriving DecidableEq
def Px.zero:Px:=⟨0,0,0,0,0⟩
def Px.ds (p:Px):List DV:=[.int .u16 p.a,.int .u16 p.b,.int .u16 p.c,.int .u16 p.al,.int .u16 p.f]
def pxs (l:List Px):List DV:=l.flatMap Px.ds
def dI:DV->Int
 | .int _ n=>n
 | _=>0
def zQg:List DV->List Px
 | a::b::c::d::e::r=>⟨dI a,dI b,dI c,dI d,dI e⟩::zQg r
 | _=>[]
theorem zZC:∀ l:List Px,zQg (pxs l)=l
 | []=>rfl
 | p::l=>by
  show zQg (Px.ds p++pxs l)=_
  simp [Px.ds,zQg,dI,zZC l]
theorem zQs (l:List Px):(pxs l).length=l.length*5:=by
 induction l with
 | nil=>rfl
 | cons p l ih=>simp [pxs,Px.ds] at ih |-; omega
theorem zGr (p:Px) (l:List Px):pxs (p::l)=Px.ds p++pxs l:=rfl
theorem zYZ (l m:List Px):pxs l++pxs m=pxs (l++m):=by simp [pxs]
theorem zJW:∀ {l:List Px} {k:Nat} (h:k<l.length),(pxs l)[k*5]?=some (.int .u16 l[k].a)/\(pxs l)[k*5+1]?=some (.int .u16 l[k].b)/\(pxs l)[k*5+2]?=some (.int .u16 l[k].c)/\(pxs l)[k*5+3]?=some (.int .u16 l[k].al)/\(pxs l)[k*5+4]?=some (.int .u16 l[k].f)
 | p::l,0,_=>by simp [zGr,Px.ds]
 | p::l,k+1,h=>by
  have:=zJW (l:=l) (k:=k) (by simpa using h);have e:∀ j,(pxs (p::l))[(k+1)*5+j]?=(pxs l)[k*5+j]?:=λj=>by
   rw [zGr,wQp (by simp [Px.ds]; omega)];congr 1;simp [Px.ds]; omega
  have e0:=e 0;simp only [Nat.add_zero] at e0;simp only [e,e0,wZt];exact this
theorem zQJ {l:List Px} {k:Nat} (h:k<l.length):nAt (pxs l) (k*5)=l[k].a/\nAt (pxs l) (k*5+1)=l[k].b/\nAt (pxs l) (k*5+2)=l[k].c/\nAt (pxs l) (k*5+3)=l[k].al/\nAt (pxs l) (k*5+4)=l[k].f:=by
 obtain ⟨h1,h2,h3,h4,h5⟩:=zJW h;simp [nAt,h1,h2,h3,h4,h5]
abbrev wYe:=@List.take_succ_cons
abbrev wXO:=@List.take_append
theorem zGq (l:List Px) (k:Nat):(pxs l).take (k*5)=pxs (l.take k):=by
 induction k generalizing l with
 | zero=>simp [pxs]
 | succ k ih=>
  cases l with
  | nil=>simp [pxs]
  | cons p l=>
   rw [wYe,zGr,zGr,wXO,<- ih];simp [Px.ds,show (k+1)*5=k*5+5 from by omega]
def jY4 (n:Nat) (xs:List DV):Prop:=xs=pxs (zQg xs)/\n=(zQg xs).length
theorem jY4.of {n:Nat} {xs:List DV} (h:jY4 n xs):∃ l:List Px,xs=pxs l/\n=l.length:=⟨zQg xs,h.1,h.2⟩
theorem jYj (l:List Px):jY4 l.length (pxs l):=⟨by rw [zZC],by rw [zZC]⟩
structure Im where
  w:Int
  h:Int
  so:Bool
  c:Px
  p0:Pl
  p1:Pl
  p2:Pl
  p3:Pl
  p4:Pl
def Im.zero:Im:=⟨0,0,false,.zero,.none,.none,.none,.none,.none⟩
def Pl.isU (p:Pl):Prop:=IsU p.n p.xs
def Im.isU (m:Im):Prop:=m.p0.isU/\m.p1.isU/\m.p2.isU/\m.p3.isU/\m.p4.isU
def zJJ (p:Pl):Bool:=decide (p.w=0)&&decide (p.h=0)&&decide (p.s=0)&&decide (p.n=0)
def okPl (so:Bool) (w h:Int) (p:Pl):Bool:=if so then zJJ p else zQM p.w p.h p.s p.n&&decide (p.w=w)&&decide (p.h=h)
def Im.inner (m:Im):Bool:=(m.so || decide (m.c=Px.zero))&&(okPl m.so m.w m.h m.p0&&(okPl m.so m.w m.h m.p1&&(okPl m.so m.w m.h m.p2&&(okPl m.so m.w m.h m.p3&&okPl m.so m.w m.h m.p4))))
def Im.formed (m:Im):Bool:=zZg m.w m.h&&m.inner
def Pl.at_ (p:Pl) (x y:Int):Int:=nAt p.xs (y*p.s+x).toNat
def Im.px (m:Im) (x y:Int):Px:=if m.so then m.c else ⟨m.p0.at_ x y,m.p1.at_ x y,m.p2.at_ x y,m.p3.at_ x y,m.p4.at_ x y⟩
def Px.ok (p:Px) (most:Int):Bool:=decide (p.a<=p.al)&&(decide (p.b<=p.al)&&(decide (p.c<=p.al)&&(decide (p.al<=p.f)&&decide (p.f<=most))))
def Im.nth (m:Im) (k:Nat):Px:=m.px ((k%m.w.toNat:Nat):Int) ((k / m.w.toNat:Nat):Int)
def Im.count (m:Im):Nat:=m.w.toNat*m.h.toNat
def Im.okTo (m:Im) (most:Int) (k:Nat):Bool:=(List.range k).all λi=>(m.nth i).ok most
def Im.valid (m:Im) (most:Int):Int:=
 if zZg m.w m.h=false then 6 else if m.inner=false then 7 else if m.so then (if m.c.ok most then 0 else 8) else if m.okTo most m.count then 0 else 8
def Im.shape (m:Im):Int:=if zZg m.w m.h=false then 6 else if m.inner=false then 7 else 0
def Im.list (m:Im) (k:Nat):List Px:=(List.range k).map m.nth
def Im.pixels (m:Im):List Px:=if m.formed then m.list m.count else []
def Im.at_ (m:Im) (x y:Int):Px:=if m.formed&&decide (0<=x)&&decide (x<m.w)&&decide (0<=y)&&decide (y<m.h) then m.px x y else .zero
def zQ3 (w h:Int) (c:Px):Im:=⟨w,h,true,c,.none,.none,.none,.none,.none⟩
def chan (l:List Px) (g:Px->Int):List DV:=us (l.map g)
def ofIm (w h:Int) (l:List Px):Im:=
 let q (g:Px->Int):Pl:=⟨w,h,w,l.length,chan l g⟩
 ⟨w,h,false,.zero,q Px.a,q Px.b,q Px.c,q Px.al,q Px.f⟩
def ofOk (w h:Int) (n:Nat):Bool:=zZg w h&&decide ((n:Int)=w*h)
def imOf (w h:Int) (l:List Px):Im:=if ofOk w h l.length then ofIm w h l else .zero
def Im.equal (m n:Im):Bool:=m.formed&&n.formed&&decide (m.w=n.w)&&decide (m.h=n.h)&&decide (m.pixels=n.pixels)
theorem zYt {w h s:Int} {n:Nat} {xs:List DV} (hu:IsU n xs) (hv:zQM w h s n=true) {x y:Int} (hx:0<=x/\x<w) (hy:0<=y/\y<h) :
  wrap .i64 (wrap .i64 (y*s)+x)=y*s+x/\(0<=y*s+x/\y*s+x<n/\(y*s+x).toNat*1<xs.length)/\xs[(y*s+x).toNat*1]?=some (.int .u16 (nAt xs ((y*s+x).toNat*1))):=by
 obtain ⟨l,rfl,rfl⟩:=hu.of;have hp:=place hv hx.1 hx.2 hy.1 hy.2;have hf:=zY5 hv;have h1:0<=y*s:=hp.1;have h2:y*s+x<l.length:=by exact_mod_cast hp.2.1
 have hy16:y<=16777216:=by omega
 have hs16:s<=16777216:=by omega
 have hb:y*s<=281474976710656:=by
  have:=wQx hy16 hs16 (by omega) (by omega);omega
 have w1:wrap .i64 (y*s)=y*s:=wQb _ ⟨by omega,by omega⟩;have w2:wrap .i64 (y*s+x)=y*s+x:=wQb _ ⟨by omega,by omega⟩;rw [w1,w2];have hk:(y*s+x).toNat*1<l.length:=by omega
 refine ⟨rfl,⟨by omega,h2,by rw [zKP]; exact hk⟩,?_⟩;rw [yQo hk,jKf hk]
theorem Im.inner_planes {m:Im} (h:m.inner=true) (hs:m.so=false):m.c=Px.zero/\(zQM m.p0.w m.p0.h m.p0.s m.p0.n=true/\m.p0.w=m.w/\m.p0.h=m.h)/\(zQM m.p1.w m.p1.h m.p1.s m.p1.n=true/\m.p1.w=m.w/\m.p1.h=m.h) /\
  (zQM m.p2.w m.p2.h m.p2.s m.p2.n=true/\m.p2.w=m.w/\m.p2.h=m.h)/\(zQM m.p3.w m.p3.h m.p3.s m.p3.n=true/\m.p3.w=m.w/\m.p3.h=m.h)/\(zQM m.p4.w m.p4.h m.p4.s m.p4.n=true/\m.p4.w=m.w/\m.p4.h=m.h):=by
 simp [Im.inner,okPl,hs] at h;grind
abbrev wXP:=@List.range_succ
theorem Im.okTo_succ (m:Im) (most:Int) (k:Nat):m.okTo most (k+1)=(m.okTo most k&&(m.nth k).ok most):=by
 simp [Im.okTo,wXP,wYb]
theorem Im.okTo_le {m:Im} {most:Int} {k n:Nat} (h:k<=n) (hn:m.okTo most n=true):m.okTo most k=true:=by
 simp only [Im.okTo,List.all_eq_true,wQw] at hn |-;exact λi hi=>hn i (by omega)
theorem Im.shape_zero {m:Im} (h:m.shape=0):zZg m.w m.h=true/\m.inner=true:=by
 unfold Im.shape at h;split at h
 ·cases h
 ·split at h
  ·cases h
  ·simp_all
theorem Im.valid_shape {m:Im} (most:Int) (h:m.shape≠0):m.valid most=m.shape:=by
 unfold Im.shape at h |-;unfold Im.valid;split
 ·rfl
 ·rename_i h1;rw [if_neg h1] at h;split
  ·rfl
  ·rename_i h2;rw [if_neg h2] at h;exact absurd rfl h
theorem Im.valid_solid {m:Im} {most:Int} (h:m.shape=0) (hs:m.so=true):m.valid most=if m.c.ok most then 0 else 8:=by
 obtain ⟨h1,h2⟩:=Im.shape_zero h;simp [Im.valid,h1,h2,hs]
theorem Im.valid_planes {m:Im} {most:Int} (h:m.shape=0) (hs:m.so=false):m.valid most=if m.okTo most (m.w.toNat*m.h.toNat) then 0 else 8:=by
 obtain ⟨h1,h2⟩:=Im.shape_zero h;unfold Im.valid Im.count;rw [if_neg (by simp [h1]),if_neg (by simp [h2]),if_neg (by simp [hs])]
theorem Im.nth_in {m:Im} (hf:zZg m.w m.h=true) {k:Nat} (hk:k<m.w.toNat*m.h.toNat):(0<=(((k%m.w.toNat:Nat)):Int)/\(((k%m.w.toNat:Nat)):Int)<m.w)/\(0<=(((k / m.w.toNat:Nat)):Int)/\(((k / m.w.toNat:Nat)):Int)<m.h):=by
 obtain ⟨a,b,c,d,e⟩:=zXI hf;have h1:=wZr k (show 0<m.w.toNat by omega);have h2:k / m.w.toNat<m.h.toNat:=Nat.div_lt_of_lt_mul hk;generalize k%m.w.toNat=q at *;generalize k / m.w.toNat=r at *;omega
theorem Im.count_le {m:Im} (hf:zZg m.w m.h=true):m.w.toNat*m.h.toNat<=16777216/\((m.w.toNat*m.h.toNat:Nat):Int)=m.w*m.h:=by
 obtain ⟨a,b,c,d,e⟩:=zXI hf;have:((m.w.toNat*m.h.toNat:Nat):Int)=m.w*m.h:=by
  rw [wXN,wZ4 (by omega),wZ4 (by omega)]
 exact ⟨by omega,this⟩
theorem jGl {w h:Int} (hf:zZg w h=true) (k:Nat) (hk:k<w.toNat*h.toNat):[DV.int .i64 ((k%w.toNat:Nat):Int),DV.int .i64 ((k / w.toNat:Nat):Int)].length=2/\zWH [DV.int .i64 ((k%w.toNat:Nat):Int),DV.int .i64 ((k / w.toNat:Nat):Int)]:=by
 obtain ⟨a,b,c,d,e⟩:=zXI hf;obtain ⟨⟨h1,h2⟩,h3,h4⟩:=Im.nth_in (m:=⟨w,h,true,.zero,.none,.none,.none,.none,.none⟩) hf hk;have m1:IntKind.min .i64 = -9223372036854775808:=rfl;have m2:IntKind.max .i64=9223372036854775807:=rfl;simp only at h1 h2 h3 h4;generalize k%w.toNat=q at *;generalize k / w.toNat=r at *;refine ⟨rfl,⟨?_,?_⟩,⟨?_,?_⟩,trivial⟩<;>(first | rw [m1] | rw [m2])<;>omega
theorem Im.list_len (m:Im) (k:Nat):(m.list k).length=k:=by simp [Im.list]
theorem Im.formed_of {m:Im} (h:m.formed=true):zZg m.w m.h=true/\m.inner=true:=by simpa [Im.formed] using h
theorem Im.pixels_of {m:Im} (h:m.formed=true):m.pixels=m.list (m.w.toNat*m.h.toNat):=by simp [Im.pixels,h,Im.count]
theorem Im.at_in {m:Im} {x y:Int} (h:m.formed=true) (hx:0<=x/\x<m.w) (hy:0<=y/\y<m.h):m.at_ x y=m.px x y:=by
 simp [Im.at_,h,hx,hy]
theorem Im.at_out {m:Im} {x y:Int} (h:m.formed=false\/x<0\/m.w<=x\/y<0\/m.h<=y):m.at_ x y=Px.zero:=by
 unfold Im.at_;rw [if_neg];simp;intro h1 h2 h3 h4
 rcases h with h | h | h | h | h
 ·rw [h] at h1; cases h1
 all_goals omega
def jXI (p q:Pl):Bool:=yZc p.w p.h p.s p.n p.xs q.w q.h q.s q.n q.xs
def Im.same (m n:Im):Bool:=jXI m.p0 n.p0&&(jXI m.p1 n.p1&&(jXI m.p2 n.p2&&(jXI m.p3 n.p3&&(jXI m.p4 n.p4&&(decide (m.w=n.w)&&(decide (m.h=n.h)&&((m.so==n.so)&&decide (m.c=n.c))))))))
def zXl (l:List Px) (g:Px->Int) (k:Nat):List DV:=us ((l.take k).map g)++List.replicate (l.length-k) (.int .u16 0)
abbrev wXr:=@List.length_replicate
theorem zVB {l:List Px} {g:Px->Int} {k:Nat} (h:k<=l.length):(zXl l g k).length=l.length:=by
 unfold zXl;rw [wQi,zKP,wQu,wQm,wXr]; omega
theorem zXX (l:List Px) (g:Px->Int):zXl l g 0=List.replicate l.length (.int .u16 0):=by simp [zXl,us]
theorem zVC (l:List Px) (g:Px->Int):zXl l g l.length=chan l g:=by simp [zXl,chan]
abbrev wZg:=@Nat.sub_self
abbrev wXQ:=@List.set_cons_zero
theorem zY3 {l:List Px} {g:Px->Int} {k:Nat} (h:k<l.length) {v:Int} (hv:v=g l[k]):(zXl l g k).set k (.int .u16 v)=zXl l g (k+1):=by
 subst hv;have hl:(us ((l.take k).map g)).length=k:=by rw [zKP,wQu,wQm]; omega
 unfold zXl;rw [List.set_append_right _ _ (by omega),hl,wZg,show l.length-k=(l.length-(k+1))+1 by omega,wZF,wXQ,wZf,List.getElem?_eq_getElem h,wYc,wQ7,<- jV4];simp [us]
theorem zJC {l:List Px} {k j:Nat} (h:k<l.length) (hj:j<5):(pxs l)[k*5+j]?=some (.int .u16 (nAt (pxs l) (k*5+j))):=by
 obtain ⟨a0,a1,a2,a3,a4⟩:=zJW h;obtain ⟨b0,b1,b2,b3,b4⟩:=zQJ h
 match j,hj with
 | 0,_=>rw [Nat.add_zero,a0,b0]
 | 1,_=>rw [a1,b1]
 | 2,_=>rw [a2,b2]
 | 3,_=>rw [a3,b3]
 | 4,_=>rw [a4,b4]
theorem jKy {l:List Px} {k:Nat} (h:k<l.length):(pxs l)[k*5]?=some (.int .u16 (nAt (pxs l) (k*5))):=zJC (j:=0) h (by omega)
theorem zVR {l:List Px} {g:Px->Int} {k:Nat} (hlt:(k:Int)<(l.length:Int)) (hb:l.length<=16777216) {v:Int} (hv:∀ h:k<l.length,v=g l[k]) :
  ∃ k':Nat,k'<=l.length/\l.length-k'<l.length-k/\wrap .i64 ((k:Int)+1)=(k':Int)/\(zXl l g k).set (k*1) (.int .u16 v)=zXl l g k':=
 have h:k<l.length:=by omega
 ⟨k+1,by omega,by omega,zZ3 (by omega),by rw [wQo]; exact zY3 h (hv h)⟩
theorem jWQ {l:List Px} {k:Nat} (hlt:(k:Int)<(l.length:Int)) (hb:l.length<=16777216) {v1 v2 v3 v4 v5:Int} (h1:∀ h:k<l.length,v1=l[k].a) (h2:∀ h:k<l.length,v2=l[k].b) (h3:∀ h:k<l.length,v3=l[k].c) (h4:∀ h:k<l.length,v4=l[k].al) (h5:∀ h:k<l.length,v5=l[k].f) :
  ∃ k':Nat,k'<=l.length/\l.length-k'<l.length-k/\wrap .i64 ((k:Int)+1)=(k':Int)/\(zXl l Px.a k).set (k*1) (.int .u16 v1)=zXl l Px.a k'/\(zXl l Px.b k).set (k*1) (.int .u16 v2)=zXl l Px.b k'/\(zXl l Px.c k).set (k*1) (.int .u16 v3)=zXl l Px.c k'/\(zXl l Px.al k).set (k*1) (.int .u16 v4)=zXl l Px.al k'/\(zXl l Px.f k).set (k*1) (.int .u16 v5)=zXl l Px.f k':=
 have h:k<l.length:=by omega
 ⟨k+1,by omega,by omega,zZ3 (by omega),by rw [wQo]; exact zY3 h (h1 h),by rw [wQo]; exact zY3 h (h2 h),by rw [wQo]; exact zY3 h (h3 h),by rw [wQo]; exact zY3 h (h4 h),by rw [wQo]; exact zY3 h (h5 h)⟩
theorem jGg {l:List Px} {g:Px->Int} {k:Nat} (hk:k<=l.length) (hge:¬ (k:Int)<(l.length:Int)):zXl l g k=zXl l g l.length:=by
 rw [show k=l.length by omega]
theorem zGB (l:List Int):∀ d∈us l,d.flat=true:=by
 intro d hd;simp only [us,wQv] at hd;obtain ⟨v,_,rfl⟩:=hd;rfl
theorem zV9 {w h:Int} {l:List Px} (hk:ofOk w h l.length=true):imOf w h l=ofIm w h l:=by simp [imOf,hk]
theorem zHt {w h:Int} {l:List Px} (hk:ofOk w h l.length=false):imOf w h l=Im.zero:=by simp [imOf,hk]
theorem jW8 (w h:Int) (l:List Px):(∀ d∈(imOf w h l).p0.xs,d.flat=true)/\(∀ d∈(imOf w h l).p1.xs,d.flat=true)/\(∀ d∈(imOf w h l).p2.xs,d.flat=true)/\(∀ d∈(imOf w h l).p3.xs,d.flat=true)/\(∀ d∈(imOf w h l).p4.xs,d.flat=true):=by
 cases hk:ofOk w h l.length with
 | true=>rw [zV9 hk]; exact ⟨zGB _,zGB _,zGB _,zGB _,zGB _⟩
 | false=>rw [zHt hk]; simp [Im.zero,Pl.none]
theorem jQ2 (w h:Int) (l:List Px):(∀ d∈(imOf w h l).p0.xs,d.flat=true)=True/\(∀ d∈(imOf w h l).p1.xs,d.flat=true)=True/\(∀ d∈(imOf w h l).p2.xs,d.flat=true)=True/\(∀ d∈(imOf w h l).p3.xs,d.flat=true)=True/\(∀ d∈(imOf w h l).p4.xs,d.flat=true)=True:=by
 obtain ⟨a,b,c,d,e⟩:=jW8 w h l;exact ⟨eq_true a,eq_true b,eq_true c,eq_true d,eq_true e⟩
def gMax (n:Int):Int:=if modS n 3=2 then 65535 else 255
def zQQ (n most:Int):Int:=
 if modS n 8=0 then 0
 else if modS n 8=1\/modS n 8=2 then most
 else if modS n 8=3 then wrap .u16 (wrap .i64 (Int.tdiv (wrap .i64 (wrap .i64 most+modS (wrap .i64 (Int.tdiv n 8)) 2)) 2))
 else if modS n 8=4 then wrap .u16 (min (wrap .i64 most) (modS (wrap .i64 (Int.tdiv n 8)) 4))
 else wrap .u16 (modS (wrap .i64 (Int.tdiv n 8)) (wrap .i64 (wrap .i64 most+1)))
def zYM (n0 n1 n2 n3 n4 most:Int):Px:=
 let f:=zQQ n4 most
 let a:=if 0<modS n3 3 then zQQ (wrap .i64 (Int.tdiv n3 3)) f else f
 ⟨zQQ n0 a,zQQ n1 a,zQQ n2 a,a,f⟩
def gNum (L:Nat) (xs:List DV) (k j:Nat):Int:=if 0<L then nAt xs (k%L*5+j) else 0
def gPx1 (L:Nat) (xs:List DV) (most:Int) (k:Nat):Px:=zYM (gNum L xs k 0) (gNum L xs k 1) (gNum L xs k 2) (gNum L xs k 3) (gNum L xs k 4) most
def gPx (mood:Int) (L:Nat) (xs:List DV) (most:Int) (k:Nat):Px:=
 if modS mood 6=0 then .zero
 else if modS mood 6=1 then let p:=gPx1 L xs most k; ⟨p.a,p.b,p.c,most,most⟩
 else if modS mood 6=2 then gPx1 L xs most 0
 else gPx1 L xs most k
def zQm (mood:Int) (L:Nat) (xs:List DV) (most:Int) (n:Nat):List Px:=(List.range n).map (gPx mood L xs most)
theorem zXt (mood:Int) (L:Nat) (xs:List DV) (most:Int) (n:Nat):(zQm mood L xs most n).length=n:=by simp [zQm]
theorem jYy (mood:Int) (L:Nat) (xs:List DV) (most:Int) (n:Nat):zQm mood L xs most (n+1)=zQm mood L xs most n++[gPx mood L xs most n]:=by simp [zQm,wXP]
theorem jU4 (l:List Px) (p:Px):pxs (l++[p])=pxs l++Px.ds p:=by simp [pxs]
def Is5 (L:Nat) (xs:List DV):Prop:=xs.length=L*5/\∀ i,i<L*5->xs[i]?=some (.int .i64 (nAt xs i))
theorem jH0 {mood:Int} {L:Nat} {xs:List DV} {most:Int} {n:Nat} (hn:0<n) (hm:modS mood 6=2):∃ h:0<(zQm mood L xs most n).length,(zQm mood L xs most n)[0]=gPx1 L xs most 0:=by
 refine ⟨by rw [zXt]; exact hn,?_⟩;simp [zQm,gPx,hm]
theorem zKH {mood:Int} {L:Nat} {xs:List DV} {most:Int} {k:Nat} (hk:0<k) (j:Nat) (hj:j<5):(pxs (zQm mood L xs most k))[j]?=some (.int .u16 (nAt (pxs (zQm mood L xs most k)) j)):=by
 have h:=zJC (l:=zQm mood L xs most k) (k:=0) (j:=j) (by rw [zXt]; exact hk) hj;rw [Nat.zero_mul,Nat.zero_add] at h;exact h
theorem jZ8 {mood:Int} {L:Nat} {xs:List DV} {most:Int} {k:Nat} (hk:0<k) (hm:modS mood 6=2):nAt (pxs (zQm mood L xs most k)) 0=(gPx1 L xs most 0).a/\nAt (pxs (zQm mood L xs most k)) 1=(gPx1 L xs most 0).b/\nAt (pxs (zQm mood L xs most k)) 2=(gPx1 L xs most 0).c/\nAt (pxs (zQm mood L xs most k)) 3=(gPx1 L xs most 0).al/\nAt (pxs (zQm mood L xs most k)) 4=(gPx1 L xs most 0).f:=by
 obtain ⟨h,e⟩:=jH0 (mood:=mood) (L:=L) (xs:=xs) (most:=most) hk hm;have:=zQJ h;rw [e] at this;simpa only [Nat.zero_mul,Nat.zero_add] using this
theorem jYx {mood:Int} {L:Nat} {xs:List DV} {most:Int} {n k:Nat} (hk:k<n) (hn:n<=16777216) {cs:List DV} (hc:cs=Px.ds (gPx mood L xs most k)) :
  ∃ k':Nat,k'<=n/\n-k'<n-k/\(k+1=k'/\wrap .i64 ((k:Int)+1)=(k':Int))/\pxs (zQm mood L xs most k)++cs=pxs (zQm mood L xs most k'):=
 ⟨k+1,by omega,by omega,⟨rfl,zZ3 (by omega)⟩,by rw [jYy,jU4,hc]⟩
section
open Go.ChangeShapes
open Go.WideShapes
def Rd (P:Program) (w:World):Nat->TypeId->List Value->Prop
 | 0,_,_=>False
 | fuel+1,t,cs=>
  match P.underlying t with
  | some .bool=>∃ b,cs=[.bool b]
  | some (.int k)=>∃ n,cs=[.int k n]/\(Lit.int k n).wf=true
  | some .string=>∃ s,cs=[.string s]/\s.size<=reachBytes
  | some (.slice e)=>cs=[.slice none 0 0]\/∃ a len cap,cs=[.slice (some a) len cap]/\len<=cap/\cap<=maxLen/\cap*P.bytesOf e<=reachBytes /\
    ∀ i,i<cap->∃ cs',w.cells? 0 (a.add (i*P.cellsOf e)) (P.cellsOf e)=some cs'/\Rd P w fuel e cs'
  | some (.struct fs)=>cs.length=P.cellsOf t/\∀ f∈fs.toList,Rd P w fuel f.type ((cs.drop f.offset).take (P.cellsOf f.type))
  | some (.array n e)=>cs.length=P.cellsOf t/\∀ i,i<n->Rd P w fuel e ((cs.drop (i*P.cellsOf e)).take (P.cellsOf e))
  | _=>True
section
variable {H:Type} {enc:TypeId × Value->H} {P:Program} {w:World}
theorem zYO {e:TypeId} {n:Nat}:∀ {l:List (DataW H)} {d:DataW H},d∈l->n∈d.weights P e->n∈DataW.weightsAll P e l
 | x::r,d,hd,hn=>by
  simp only [DataW.weightsAll,List.mem_append]
  rcases wQz.1 hd with rfl | h
  ·exact .inl hn
  ·exact .inr (zYO h hn)
theorem zVJ {n:Nat}:∀ {ts:List TypeId} {ds:List (DataW H)} {i:Nat} {t:TypeId} {d:DataW H},ts[i]?=some t->ds[i]?=some d->n∈d.weights P t->n∈DataW.weightsEach P ts ds
 | t::ts,d::ds,0,_,_,ht,hd,hn=>by
  simp at ht hd; subst ht hd;simp only [DataW.weightsEach,List.mem_append];exact .inl hn
 | t::ts,d::ds,i+1,_,_,ht,hd,hn=>by
  simp only [DataW.weightsEach,List.mem_append];exact .inr (zVJ (by simpa using ht) (by simpa using hd) hn)
 | [],_,_,_,_,ht,_,_=>by simp at ht
 | _::_,[],_,_,_,_,hd,_=>by simp at hd
abbrev wYf:=@List.getElem_of_mem
abbrev wZu:=@List.length_range
abbrev wZ5:=@mapM_some_get
abbrev wXs:=@mapM_some_length
abbrev wZP:=@List.getElem?_range
theorem jVs:∀ (fuel:Nat) (t:TypeId) (cs:List Value) (d:DataW H) (ps:List MemPlace),
  DataW.trod enc P w 0 (λ_=>true) true fuel t cs=some (d,ps)->(∀ n∈d.weights P t,n<=reachBytes)->Rd P w fuel t cs:=by
 intro fuel
 induction fuel with
 | zero=>intro t cs d ps h; simp [DataW.trod] at h
 | succ fuel ih=>
  intro t cs d ps h hw;unfold DataW.trod at h;unfold Rd;split at h
  ·rename_i b hu; simp only [hu]; exact ⟨_,rfl⟩
  ·rename_i k k' n hu;simp only [hu];split at h
   ·rename_i hk; obtain ⟨rfl,hwf⟩:=hk; exact ⟨_,rfl,hwf⟩
   ·cases h
  ·rename_i hu; simp only [hu]
  ·rename_i s hu;simp only [hu];split at h
   ·simp only [wQa,wQc] at h;obtain ⟨rfl,_⟩:=h;exact ⟨_,rfl,by have:=hw s.data.toList.length (wQj.2 rfl); rw [wZZ] at this; exact this⟩
   ·cases h
  ·rename_i hu; simp only [hu]
  ·rename_i hu; simp only [hu]
  ·rename_i hu; simp only [hu]; exact .inl trivial
  ·rename_i e a len cap hu;simp only [hu];split at h
   ·rename_i hc;obtain ⟨_,hl,hm⟩:=hc;simp only [if_true] at h;obtain ⟨elems,he,h⟩:=wZo.1 h;obtain ⟨rest,hr,h⟩:=wQK.1 h;simp only [wQc] at h;obtain ⟨rfl,_⟩:=h;have le:=wXs he;have lr:=wXs hr;simp only [wZu] at le lr;have hwt:DataW.weights P t (.slice (elems.map (·.1)) (rest.map (·.1)))=((elems.map (·.1)).length+(rest.map (·.1)).length)*P.bytesOf e::(DataW.weightsAll P e (elems.map (·.1))++DataW.weightsAll P e (rest.map (·.1))):=by
     simp only [DataW.weights,hu]
    rw [hwt] at hw;refine .inr ⟨a,len,cap,rfl,hl,hm,?_,?_⟩
    ·have:=hw _ (.head _);simp only [wQu,le,lr] at this;rwa [show len+(cap-len)=cap from by omega] at this
    ·have key:∀ (i:Nat) (x:DataW H × List MemPlace),((w.cells? 0 (a.add (i*P.cellsOf e)) (P.cellsOf e)).bind (DataW.trod enc P w 0 (λ_=>true) true fuel e))=some x->(∀ n∈x.1.weights P e,n<=reachBytes) ->
       ∃ cs',w.cells? 0 (a.add (i*P.cellsOf e)) (P.cellsOf e)=some cs'/\Rd P w fuel e cs':=by
      intro i x hx hxw;obtain ⟨cs',h1,h2⟩:=wZo.1 hx;exact ⟨cs',h1,ih e cs' x.1 x.2 h2 hxw⟩
     intro i hi
     rcases wQr i len with hlt | hge
     ·have hx:elems[i]?=some (elems[i]'(by omega)):=List.getElem?_eq_getElem (by omega);have h1:=wZ5 he i i (by simp [hlt]);rw [hx] at h1;refine key i _ h1 λn hn=>hw n (.tail _ (List.mem_append.2 (.inl (zYO (wQv.2 ⟨_,List.getElem_mem (by omega),rfl⟩) hn))))
     ·have hx:rest[i-len]?=some (rest[i-len]'(by omega)):=List.getElem?_eq_getElem (by omega);have h1:=wZ5 hr (i-len) (i-len) (wZP (by omega));rw [hx,show len+(i-len)=i from by omega] at h1;refine key i _ h1 λn hn=>hw n (.tail _ (List.mem_append.2 (.inr (zYO (wQv.2 ⟨_,List.getElem_mem (by omega),rfl⟩) hn))))
   ·cases h
  ·rename_i fs hu;simp only [hu];split at h
   ·rename_i hlen;obtain ⟨xs,hxs,h⟩:=wQK.1 h;simp only [wQc] at h;obtain ⟨rfl,_⟩:=h;refine ⟨hlen,λf hf=>?_⟩;obtain ⟨i,hi,rfl⟩:=wYf hf;have hl:=wXs hxs;have hx:xs[i]?=some (xs[i]'(by omega)):=List.getElem?_eq_getElem (by omega);have h1:=wZ5 hxs i _ (List.getElem?_eq_getElem hi);rw [hx] at h1;refine ih _ _ _ _ h1 λn hn=>hw n ?_;simp only [DataW.weights,hu];exact zVJ (i:=i) (by rw [wQN,List.getElem?_eq_getElem hi]; rfl) (by rw [wQN,hx]; rfl) hn
   ·cases h
  ·rename_i n e hu;simp only [hu];split at h
   ·rename_i hlen;obtain ⟨xs,hxs,h⟩:=wQK.1 h;simp only [wQc] at h;obtain ⟨rfl,_⟩:=h;refine ⟨hlen,λi hi=>?_⟩;have hl:=wXs hxs;simp only [wZu] at hl;have hx:xs[i]?=some (xs[i]'(by omega)):=List.getElem?_eq_getElem (by omega);have h1:=wZ5 hxs i i (by simp [hi]);rw [hx] at h1;refine ih _ _ _ _ h1 λn hn=>hw n ?_;simp only [DataW.weights,hu];exact zYO (wQv.2 ⟨_,List.getElem_mem (by omega),rfl⟩) hn
   ·cases h
  all_goals first | (cases h; done) | (rename_i hu; simp only [hu])
end
def Arg (P:Program) (w:World) (t:TypeId) (v:Value):Prop:=
 (∃ fuel,Rd P w fuel t v.cells.toList) /\
  match P.underlying t with
  | some (.struct _) | some (.array _ _)=>∃ cs,v=.agg cs
  | _=>v.cells=#[v]
def Args (P:Program) (w:World):List TypeId->List Value->Prop
 | [],[]=>True
 | t::ts,v::vs=>Arg P w t v/\Args P w ts vs
 | _,_=>False
theorem zHN {P:Program} {w:World} {r:Reach} {base:Nat} {t:TypeId} {v:Value} (h:Value.okWide P w r base t v) :
  match P.underlying t with
  | some (.struct _) | some (.array _ _)=>∃ cs,v=.agg cs
  | _=>v.cells=#[v]:=by
 unfold Value.okWide at h;split
 ·rename_i hu;simp only [hu] at h;obtain ⟨cs,rfl,_⟩:=h;exact ⟨_,rfl⟩
 ·rename_i hu;simp only [hu] at h;obtain ⟨cs,rfl,_⟩:=h;exact ⟨_,rfl⟩
 ·rename_i h1 h2;have h':Cell.okWide P w r base t v:=by
   split at h
   ·rename_i hu; exact absurd hu (by intro e; exact h1 _ e)
   ·rename_i hu; exact absurd hu (by intro e; exact h2 _ _ e)
   ·exact h
  cases v with
  | agg cs=>
   exfalso;unfold Cell.okWide at h';split at h'<;>first | (rename_i hv; cases hv; done) | skip
   unfold Cell.ok at h';split at h'<;>first | (rename_i hv; cases hv; done) | exact h'
  | _=>rfl
section
variable {H:Type} {enc:TypeId × Value->H}
theorem zVg {P:Program} {w:World}:∀ {ts:List TypeId} {vs:List Value} {ds:List (DataW H)} {ps:List MemPlace},DataW.TrodAll enc P w 0 (λ_=>true) true ts vs ds ps ->
  (∀ n∈DataW.weightsEach P ts ds,n<=reachBytes) ->
  (∀ (j:Nat) t v,ts[j]?=some t->vs[j]?=some v->match P.underlying t with | some (.struct _) | some (.array _ _)=>∃ cs,v=.agg cs | _=>v.cells=#[v])->Args P w ts vs/\ds.length=ts.length
 | [],[],[],_,_,_,_=>⟨trivial,rfl⟩
 | t::ts,v::vs,d::ds,_,h,hw,hv=>by
  obtain ⟨p,q,⟨fuel,hf⟩,hr,_⟩:=h;have hrest:=zVg hr (λn hn=>hw n (by simp only [DataW.weightsEach,List.mem_append]; exact .inr hn)) (λj t v ht hv'=>hv (j+1) t v (by simpa using ht) (by simpa using hv'));exact ⟨⟨⟨⟨fuel,jVs fuel t _ d p hf (λn hn=>hw n (by simp only [DataW.weightsEach,List.mem_append]; exact .inl hn))⟩,hv 0 t v rfl rfl⟩,hrest.1⟩,by simp [hrest.2]⟩
 | [],[],_::_,_,h,_,_=>h.elim
 | [],_::_,_,_,h,_,_=>h.elim
 | _::_,[],_,_,h,_,_=>h.elim
 | _::_,_::_,[],_,h,_,_=>h.elim
theorem zWs {P:Program} (laid:laidOutB P=true) {W W':World} (hb:Below W.heap.size W W'):∀ {ts:List TypeId} {vs:List Value} {ds:List (DataW H)} {ps:List MemPlace},
  (∀ t∈ts,P.readableRec t=true/\t<P.types.size)->DataW.TrodAll enc P W 0 (λ_=>true) true ts vs ds ps->DataW.TrodAll enc P W' 0 (λb=>decide (b<W.heap.size)) true ts vs ds ps
 | [],[],[],_,_,h=>h
 | t::ts,v::vs,d::ds,_,hr,h=>by
  obtain ⟨p,q,hd,hrest,rfl⟩:=h;have hlt:∀ x∈p,x.block<W.heap.size:=by obtain ⟨m,hm⟩:=hd; exact DataW.trod_lt m _ _ _ hm
  exact ⟨p,q,Below.trod laid (hr t (.head _)).1 (hr t (.head _)).2 hd hb hlt,zWs laid hb (λt' ht'=>hr t' (.tail _ ht')) hrest,rfl⟩
 | [],[],_::_,_,_,h=>h.elim
 | [],_::_,_,_,_,h=>h.elim
 | _::_,[],_,_,_,h=>h.elim
 | _::_,_::_,[],_,_,h=>h.elim
end
section
variable {P:Program} {w:World} {fuel:Nat} {t:TypeId} {cs:List Value}
theorem Rd.int {k:IntKind} (hu:P.underlying t=some (.int k)) (h:Rd P w fuel t cs):∃ n,cs=[.int k n]/\(Lit.int k n).wf=true:=by
 cases fuel with
 | zero=>exact h.elim
 | succ fuel=>unfold Rd at h; simp only [hu] at h; exact h
theorem Rd.bool (hu:P.underlying t=some .bool) (h:Rd P w fuel t cs):∃ b,cs=[.bool b]:=by
 cases fuel with
 | zero=>exact h.elim
 | succ fuel=>unfold Rd at h; simp only [hu] at h; exact h
theorem Rd.str (hu:P.underlying t=some .string) (h:Rd P w fuel t cs):∃ s,cs=[.string s]/\s.size<=reachBytes:=by
 cases fuel with
 | zero=>exact h.elim
 | succ fuel=>unfold Rd at h; simp only [hu] at h; exact h
theorem Rd.slice {e:TypeId} (hu:P.underlying t=some (.slice e)) (h:Rd P w fuel t cs) :
  cs=[.slice none 0 0]\/∃ a len cap,cs=[.slice (some a) len cap]/\len<=cap/\cap<=maxLen/\cap*P.bytesOf e<=reachBytes /\
    ∀ i,i<cap->∃ cs',w.cells? 0 (a.add (i*P.cellsOf e)) (P.cellsOf e)=some cs'/\∃ fuel,Rd P w fuel e cs':=by
 cases fuel with
 | zero=>exact h.elim
 | succ fuel=>
  unfold Rd at h; simp only [hu] at h
  rcases h with h | ⟨a,len,cap,h1,h2,h3,h4,h5⟩
  ·exact .inl h
  ·exact .inr ⟨a,len,cap,h1,h2,h3,h4,λi hi=>let ⟨cs',a1,a2⟩:=h5 i hi; ⟨cs',a1,fuel,a2⟩⟩
theorem Rd.struct {fs:Array Field} (hu:P.underlying t=some (.struct fs)) (h:Rd P w fuel t cs) :
  cs.length=P.cellsOf t/\∀ f∈fs.toList,∃ fuel,Rd P w fuel f.type ((cs.drop f.offset).take (P.cellsOf f.type)):=by
 cases fuel with
 | zero=>exact h.elim
 | succ fuel=>
  unfold Rd at h; simp only [hu] at h;exact ⟨h.1,λf hf=>⟨fuel,h.2 f hf⟩⟩
theorem Rd.array {e:TypeId} {n:Nat} (hu:P.underlying t=some (.array n e)) (h:Rd P w fuel t cs) :
  cs.length=P.cellsOf t/\∀ i,i<n->∃ fuel,Rd P w fuel e ((cs.drop (i*P.cellsOf e)).take (P.cellsOf e)):=by
 cases fuel with
 | zero=>exact h.elim
 | succ fuel=>
  unfold Rd at h; simp only [hu] at h;exact ⟨h.1,λi hi=>⟨fuel,h.2 i hi⟩⟩
end
def zWQ (P:Program) (f:TypeId->Option (List TypeId)):List Field->Nat->Option (List TypeId)
 | [],_=>some []
 | fd::r,off=>(f fd.type).bind λl=>if fd.offset=off/\P.cellsOf fd.type=l.length then (zWQ P f r (off+l.length)).map (l++·) else none
def zUT (P:Program):Nat->TypeId->Option (List TypeId)
 | 0,_=>none
 | k+1,t=>
  match P.underlying t with
  | some (.struct fs)=>zWQ P (zUT P k) fs.toList 0
  | some (.array n e)=>(zUT P k e).bind λl=>if P.cellsOf e=l.length then some (List.replicate n l).flatten else none
  | some .bool | some (.int _) | some .string | some (.slice _)=>some [t]
  | _=>none
section
variable {P:Program} {w:World}
theorem zHk {f:TypeId->Option (List TypeId)} {cs:List Value}
  (hf:∀ (t:TypeId) (ts:List TypeId) (fuel:Nat) (cs:List Value),f t=some ts->Rd P w fuel t cs->∀ (i:Nat) (t':TypeId),ts[i]?=some t'->∃ c g,cs[i]?=some c/\Rd P w g t' [c]) :
  ∀ (fs:List Field) (off:Nat) (ts:List TypeId),zWQ P f fs off=some ts->(∀ fd∈fs,∃ fuel,Rd P w fuel fd.type ((cs.drop fd.offset).take (P.cellsOf fd.type))) ->
  ∀ (i:Nat) (t':TypeId),ts[i]?=some t'->∃ c g,cs[off+i]?=some c/\Rd P w g t' [c]
 | [],_,ts,h,_,i,t',hi=>by simp [zWQ] at h; subst h; simp at hi
 | fd::r,off,ts,h,hr,i,t',hi=>by
  unfold zWQ at h;obtain ⟨l,hl,h⟩:=wZo.1 h;split at h
  ·rename_i hc;obtain ⟨ho,hn⟩:=hc;obtain ⟨ts',hts,h⟩:=wQK.1 h;subst h
   rcases wQr i l.length with hlt | hge
   ·rw [wQH hlt] at hi;obtain ⟨fuel,hrd⟩:=hr fd (.head _);obtain ⟨c,g,h1,h2⟩:=hf fd.type l fuel _ hl hrd i t' hi;refine ⟨c,g,?_,h2⟩;rw [wQA,if_pos (by omega),wZb,ho] at h1;exact h1
   ·rw [wQp hge] at hi;obtain ⟨c,g,h1,h2⟩:=zHk hf r (off+l.length) ts' hts (λfd' h'=>hr fd' (.tail _ h')) (i-l.length) t' hi;exact ⟨c,g,by rw [<- h1]; congr 1; omega,h2⟩
  ·cases h
theorem jQ7 {l:List TypeId} (hl:0<l.length):∀ (n i:Nat) (t:TypeId),(List.replicate n l).flatten[i]?=some t->i / l.length<n/\l[i%l.length]?=some t
 | 0,i,t,h=>by simp at h
 | n+1,i,t,h=>by
  rw [wZF,List.flatten_cons] at h
  rcases wQr i l.length with hlt | hge
  ·rw [wQH hlt] at h;rw [wXG hlt,wQX hlt];exact ⟨by omega,h⟩
  ·rw [wQp hge] at h;obtain ⟨h1,h2⟩:=jQ7 hl n (i-l.length) t h;have e:i=(i-l.length)+l.length:=by omega
   rw [e,Nat.add_div_right _ hl,Nat.add_mod_right];exact ⟨by omega,h2⟩
abbrev wZR:=@List.getElem?_cons_zero
abbrev wQI:=@Nat.mul_comm
abbrev wZQ:=@Nat.div_add_mod
theorem zKX:∀ (k:Nat) (t:TypeId) (ts:List TypeId) (fuel:Nat) (cs:List Value),zUT P k t=some ts->Rd P w fuel t cs ->
  ∀ (i:Nat) (t':TypeId),ts[i]?=some t'->∃ c g,cs[i]?=some c/\Rd P w g t' [c]
 | 0,_,_,_,_,h,_,_,_,_=>by simp [zUT] at h
 | k+1,t,ts,fuel,cs,h,hr,i,t',hi=>by
  unfold zUT at h;split at h
  ·rename_i fs hu;obtain ⟨_,hfs⟩:=hr.struct hu;have:=zHk (λt ts fuel cs h hr=>zKX k t ts fuel cs h hr) fs.toList 0 ts h hfs i t' hi;simpa using this
  ·rename_i n e hu;obtain ⟨l,hl,h⟩:=wZo.1 h;split at h
   ·rename_i hc;simp only [wQa] at h;subst h;obtain ⟨_,hel⟩:=hr.array hu
    rcases wZ0 l.length with h0 | hpos
    ·have:l=[]:=List.eq_nil_of_length_eq_zero h0;subst this; simp at hi
    ·obtain ⟨h1,h2⟩:=jQ7 hpos n i t' hi;obtain ⟨fuel',hrd⟩:=hel (i / l.length) h1;obtain ⟨c,g,h3,h4⟩:=zKX k e l fuel' _ hl hrd (i%l.length) t' h2;refine ⟨c,g,?_,h4⟩;rw [wQA,if_pos (by rw [hc]; exact wZr _ hpos),wZb,hc,wQI,wZQ] at h3;exact h3
   ·cases h
  all_goals first | (cases h; done) | skip
  all_goals
   rename_i hu;simp only [wQa] at h;subst h
   match i,hi with
   | 0,hi=>
    simp only [wZR,wQa] at hi;subst hi
    first
    |(obtain ⟨b,rfl⟩:=hr.bool hu; exact ⟨_,fuel,rfl,hr⟩)
    |(obtain ⟨b,rfl,_⟩:=hr.int hu; exact ⟨_,fuel,rfl,hr⟩)
    |(obtain ⟨b,rfl,_⟩:=hr.str hu; exact ⟨_,fuel,rfl,hr⟩)
    |(rcases hr.slice hu with h | ⟨a,len,cap,h,_⟩
      ·subst h; exact ⟨_,fuel,rfl,hr⟩
      ·subst h; exact ⟨_,fuel,rfl,hr⟩)
   | i+1,hi=>simp at hi
theorem Rd.leaf {k:Nat} {t:TypeId} {ts:List TypeId} {fuel:Nat} {cs:List Value} (h:Rd P w fuel t cs) (hl:zUT P k t=some ts) (i:Nat) {t':TypeId} (ht:ts[i]?=some t') {c:Value} (hc:cs[i]?=some c) :
  ∃ g,Rd P w g t' [c]:=by
 obtain ⟨c',g,h1,h2⟩:=zKX k t ts fuel cs hl h i t' ht;rw [hc] at h1;cases h1;exact ⟨g,h2⟩
theorem Args.cons {t:TypeId} {ts:List TypeId} {vs:List Value} (h:Args P w (t::ts) vs):∃ v vs',vs=v::vs'/\Arg P w t v/\Args P w ts vs':=by
 cases vs with
 | nil=>exact h.elim
 | cons v vs=>exact ⟨v,vs,rfl,h.1,h.2⟩
theorem Args.nil {vs:List Value} (h:Args P w [] vs):vs=[]:=by
 cases vs with
 | nil=>rfl
 | cons v vs=>exact h.elim
theorem Arg.one {t:TypeId} {v:Value} (h:Arg P w t v) (hu:∀ fs,P.underlying t≠some (.struct fs)) (ha:∀ n e,P.underlying t≠some (.array n e)):∃ g,Rd P w g t [v]:=by
 obtain ⟨⟨g,hr⟩,hv⟩:=h;split at hv
 ·rename_i fs he; exact absurd he (hu fs)
 ·rename_i n e he; exact absurd he (ha n e)
 ·rw [hv] at hr; exact ⟨g,hr⟩
theorem Arg.int {t:TypeId} {v:Value} {k:IntKind} (h:Arg P w t v) (hu:P.underlying t=some (.int k)):∃ n,v=.int k n/\(Lit.int k n).wf=true:=by
 obtain ⟨g,hr⟩:=h.one (by rw [hu]; simp) (by rw [hu]; simp);obtain ⟨n,hn,hw⟩:=hr.int hu;simp only [wQE,and_true] at hn;exact ⟨n,hn,hw⟩
theorem Arg.many {t:TypeId} {v:Value} {n:Nat} (h:Arg P w t v) (hu:(∃ fs,P.underlying t=some (.struct fs))\/∃ n e,P.underlying t=some (.array n e)) (hn:P.cellsOf t=n) :
  ∃ cs:List Value,v=.agg cs.toArray/\cs.length=n/\∃ g,Rd P w g t cs:=by
 obtain ⟨⟨g,hr⟩,hv⟩:=h
 rcases hu with ⟨fs,hu⟩ | ⟨m,e,hu⟩
 ·simp only [hu] at hv;obtain ⟨⟨l⟩,rfl⟩:=hv;exact ⟨l,rfl,by rw [<- hn]; exact (hr.struct hu).1,g,hr⟩
 ·simp only [hu] at hv;obtain ⟨⟨l⟩,rfl⟩:=hv;exact ⟨l,rfl,by rw [<- hn]; exact (hr.array hu).1,g,hr⟩
end
def lv (P:Program) (e:TypeId):Option (List TypeId):=
 match zUT P 8 e with
 | some ls=>if ls.length=P.cellsOf e/\0<ls.length then some ls else none
 | none=>none
def zXY (P:Program):Nat->TypeId->DV->Prop
 | 0,_,_=>False
 | k+1,t,d=>
  match P.underlying t with
  | some .bool=>∃ b,d=.bool b
  | some (.int q)=>∃ n,d=.int q n
  | some .string=>∃ s,d=.str s
  | some (.slice e)=>∃ n xs,d=.sl n xs/\n*P.bytesOf e<=reachBytes/\match lv P e with
   | some ls=>xs.length=n*ls.length/\∀ (j:Nat) d',xs[j]?=some d'->∃ t',ls[j%ls.length]?=some t'/\zXY P k t' d'
   | none=>xs=[]
  | _=>False
def jVQ (P:Program):Nat->TypeId->Bool
 | 0,_=>false
 | k+1,t=>
  match P.underlying t with
  | some .bool | some (.int _) | some .string=>true
  | some (.slice e)=>match lv P e with
   | some ls=>ls.all (jVQ P k)
   | none=>true
  | _=>false
theorem zG8 {α:Type} {Q:Nat->α->Prop}:∀ n:Nat,(∀ j,j<n->∃ d,Q j d)->∃ xs:List α,xs.length=n/\∀ (j:Nat) d,xs[j]?=some d->Q j d
 | 0,_=>⟨[],rfl,λj d h=>by simp at h⟩
 | n+1,h=>by
  obtain ⟨xs,h1,h2⟩:=zG8 n λj hj=>h j (by omega);obtain ⟨d,hd⟩:=h n (by omega);refine ⟨xs++[d],by simp [h1],λj d' hj=>?_⟩;by_cases hlt:j<n
  ·rw [wQH (by omega)] at hj; exact h2 j d' hj
  ·rw [wQp (by omega)] at hj;have:j-xs.length=0:=by
    have:=(wQD.1 hj).1;simp at this; omega
   rw [this] at hj;simp at hj;subst hj;have:j=n:=by omega
   subst this; exact hd
section
variable {P:Program} {w:World}
theorem jYa {P:Program} {e:TypeId} {ls:List TypeId} (h:lv P e=some ls):zUT P 8 e=some ls/\ls.length=P.cellsOf e/\0<ls.length:=by
 unfold lv at h;split at h
 ·rename_i l hl;split at h
  ·rename_i hc; injection h with h; subst h; exact ⟨hl,hc.1,hc.2⟩
  ·cases h
 ·cases h
theorem addr_add' (a:Addr) (i j:Nat) (h:a.spot=none):(a.add i).add j=⟨a.block,a.off+(i+j),none⟩:=by
 obtain ⟨b,o,sp⟩:=a;simp only at h;subst h;rw [zZJ,zZJ,Nat.add_assoc]
abbrev wYg:=@Nat.div_lt_iff_lt_mul
theorem jZC:∀ (k:Nat) (t:TypeId),jVQ P k t=true->∀ (fuel:Nat) (v:Value),Rd P w fuel t [v]->∃ d,RepD w (λ_=>True) d v/\zXY P k t d
 | 0,_,h,_,_,_=>by cases h
 | k+1,t,ho,fuel,v,h=>by
  unfold jVQ at ho;unfold zXY;split at ho
  ·rename_i hu;obtain ⟨b,hb⟩:=h.bool hu;simp only [wQE,and_true] at hb;subst hb;exact ⟨.bool b,by simp only [RepD],b,rfl⟩
  ·rename_i q hu;obtain ⟨n,hn,hw⟩:=h.int hu;simp only [wQE,and_true] at hn;subst hn;exact ⟨.int q n,by simp only [RepD]; exact ⟨trivial,hw⟩,n,rfl⟩
  ·rename_i hu;obtain ⟨s,hs,hw⟩:=h.str hu;simp only [wQE,and_true] at hs;subst hs;refine ⟨.str s,by simp only [RepD,true_and]; unfold reachBytes at hw; unfold maxLen; omega,s,rfl⟩
  ·rename_i e hu
   rcases h.slice hu with h | ⟨a,len,cap,h1,h2,h3,h4,h5⟩
   ·simp only [wQE,and_true] at h;subst h;refine ⟨.sl 0 [],by simp only [RepD]; exact ⟨none,0,rfl,Nat.le_refl _,Nat.zero_le _,λe=>absurd rfl e⟩,0,[],rfl,by simp,?_⟩;split
    ·exact ⟨by simp,λj d h=>by simp at h⟩
    ·rfl
   ·simp only [wQE,and_true] at h1;subst h1;have hby:len*P.bytesOf e<=reachBytes:=wQC (wQR _ h2) h4
    cases hl:lv P e with
    | none=>exact ⟨.sl len [],by simp only [RepD]; exact ⟨some a,cap,rfl,h2,h3,λe=>absurd rfl e⟩,len,[],rfl,hby,rfl⟩
    | some ls=>
     rw [hl] at ho;simp only [List.all_eq_true] at ho;obtain ⟨g1,g2,g3⟩:=jYa hl;have hcell:∀ j,j<len*ls.length->∃ d,a.spot=none/\(∃ u,w.cell? ⟨a.block,a.off+j,none⟩=some u/\RepD w (λ_=>True) d u)/\∃ t',ls[j%ls.length]?=some t'/\zXY P k t' d:=by
      intro j hj;have hi:j / ls.length<len:=by rw [wYg g3]; exact hj
      obtain ⟨cs',c1,fuel',c2⟩:=h5 (j / ls.length) (by omega);have hm:j%ls.length<ls.length:=wZr _ g3;obtain ⟨c,g,e1,e2⟩:=zKX 8 e ls fuel' cs' g1 c2 (j%ls.length) (ls[j%ls.length]) (by simp [hm]);obtain ⟨d,f1,f2⟩:=jZC k ls[j%ls.length] (ho _ (List.getElem_mem hm)) g c e2;obtain ⟨_,c3,c4⟩:=World.cells?_some c1;have hc:=c4 (j%ls.length) (by omega);rw [e1] at hc;have hpos:0<cap:=wZn (Nat.lt_of_le_of_lt (Nat.zero_le _) hi) h2;have hcp:0<P.cellsOf e:=by omega
      have hs:a.spot=none:=by
       cases hsp:a.spot with
       | none=>rfl
       | some x=>
        exfalso;obtain ⟨cs0,d0,_⟩:=h5 0 hpos;obtain ⟨_,hlen,d1⟩:=World.cells?_some d0;have c0:=d1 0 hcp;rw [Nat.zero_mul,show a.add 0=a from by simp [Addr.add],show a.add 0=a from by simp [Addr.add]] at c0;have:w.cell? a=none:=by
         unfold World.cell?;split
         ·simp [hsp]
         ·rfl
        rw [this] at c0;have:=List.getElem?_eq_none_iff.1 c0.symm;omega
      refine ⟨d,hs,⟨c,?_,f1⟩,_,by simp [hm],f2⟩;rw [addr_add' _ _ _ hs,<- g2,wQI,wZQ] at hc;exact hc
     obtain ⟨xs,x1,x2⟩:=zG8 (len*ls.length) hcell;refine ⟨.sl len xs,?_,len,xs,rfl,hby,x1,λj d' hj=>(x2 j d' hj).2.2⟩;simp only [RepD];refine ⟨some a,cap,rfl,h2,h3,λhne=>⟨a.block,a.off,?_,trivial,.of_at λi d hi=>(x2 i d hi).2.1⟩⟩
     cases xs with
     | nil=>exact absurd rfl hne
     | cons d ds=>
      have hs:=(x2 0 d rfl).1;obtain ⟨b,o,sp⟩:=a;simp only at hs;subst hs;rfl
  ·cases ho
def zKa (P:Program) (t:TypeId) (r:RV):Prop:=
 match P.underlying t with
 | some (.struct _) | some (.array _ _)=>∃ ds ls,r=.agg ds/\lv P t=some ls/\ds.length=ls.length/\∀ (i:Nat) d,ds[i]?=some d->∃ t',ls[i]?=some t'/\zXY P 6 t' d
 | _=>∃ d,r=.d d/\zXY P 6 t d
def zVk (P:Program):List TypeId->List RV->Prop
 | [],[]=>True
 | t::ts,r::rs=>zKa P t r/\zVk P ts rs
 | _,_=>False
def okT (P:Program) (t:TypeId):Bool:=
 match P.underlying t with
 | some (.struct _) | some (.array _ _)=>match lv P t with
  | some ls=>ls.all (jVQ P 6)
  | none=>false
 | _=>jVQ P 6 t
theorem jWK {t:TypeId} {v:Value} (ho:okT P t=true) (h:Arg P w t v):∃ r,RepR w (λ_=>True) r v/\zKa P t r:=by
 have many:((∃ fs,P.underlying t=some (.struct fs))\/∃ n e,P.underlying t=some (.array n e))->(match lv P t with | some ls=>ls.all (jVQ P 6) | none=>false)=true->∃ ds ls,RepR w (λ_=>True) (.agg ds) v/\lv P t=some ls/\ds.length=ls.length/\∀ (i:Nat) d,ds[i]?=some d->∃ t',ls[i]?=some t'/\zXY P 6 t' d:=by
  intro hu hl;obtain ⟨cs,rfl,hlen,g,hr⟩:=h.many hu (n:=P.cellsOf t) rfl
  cases hlv:lv P t with
  | none=>rw [hlv] at hl; cases hl
  | some ls=>
   rw [hlv] at hl;simp only [List.all_eq_true] at hl;obtain ⟨g1,g2,g3⟩:=jYa hlv;have hcell:∀ i,i<ls.length->∃ d,(∃ c,cs[i]?=some c/\RepD w (λ_=>True) d c)/\∃ t',ls[i]?=some t'/\zXY P 6 t' d:=by
    intro i hi;obtain ⟨c,g',e1,e2⟩:=zKX 8 t ls g cs g1 hr i ls[i] (by simp [hi]);obtain ⟨d,f1,f2⟩:=jZC 6 ls[i] (hl _ (List.getElem_mem hi)) g' c e2;exact ⟨d,⟨c,e1,f1⟩,_,by simp [hi],f2⟩
   obtain ⟨ds,x1,x2⟩:=zG8 ls.length hcell;refine ⟨ds,ls,?_,rfl,x1,λi d hi=>(x2 i d hi).2⟩;simp only [RepR];refine ⟨_,rfl,?_⟩;rw [jQM];refine ⟨by simp; omega,λi d v hd hv=>?_⟩;obtain ⟨⟨c,e1,e2⟩,_⟩:=x2 i d hd;have:cs[i]?=some v:=by simpa using hv
   rw [e1] at this;injection this with this
   subst this;exact e2
 unfold okT at ho;unfold zKa;split at ho
 ·rename_i fs hu;obtain ⟨ds,ls,h1,h2⟩:=many (.inl ⟨_,hu⟩) ho;exact ⟨.agg ds,h1,ds,ls,rfl,h2⟩
 ·rename_i n e hu;obtain ⟨ds,ls,h1,h2⟩:=many (.inr ⟨_,_,hu⟩) ho;exact ⟨.agg ds,h1,ds,ls,rfl,h2⟩
 ·rename_i h1 h2;obtain ⟨g,hr⟩:=h.one (λfs e=>h1 fs e) (λn e e'=>h2 n e e');obtain ⟨d,f1,f2⟩:=jZC 6 t ho g v hr;exact ⟨.d d,by simp only [RepR]; exact f1,⟨d,rfl,f2⟩⟩
theorem jQV:∀ {ts:List TypeId} {vs:List Value},ts.all (okT P)=true->Args P w ts vs->∃ rs,RepRs w (λ_=>True) rs vs/\zVk P ts rs
 | [],[],_,_=>⟨[],by simp only [RepRs],trivial⟩
 | t::ts,v::vs,ho,h=>by
  simp only [wZK,wQf] at ho;obtain ⟨r,h1,h2⟩:=jWK ho.1 h.1;obtain ⟨rs,h3,h4⟩:=jQV ho.2 h.2;exact ⟨r::rs,by simp only [RepRs]; exact ⟨h1,h3⟩,h2,h4⟩
 | [],_::_,_,h=>h.elim
 | _::_,[],_,h=>h.elim
theorem jHk {f:FuncId} {ts:List TypeId} (hok:ts.all (okT P)=true) (h:∀ rs,zVk P ts rs->RV.wfs rs->Ans P f rs (.d (.bool true))) (W:World) (args:Array Value) (hg:zJg W λ_=>True) (ha:Args P W ts args.toList) :
  Calls P f args W λe W'=>e=.returned (.bool true)/\Below W.heap.size W W':=by
 obtain ⟨rs,h1,h2⟩:=jQV hok ha;refine (h rs h2 (RepRs.wf h1) W _ args hg h1).mono λe w' ⟨v,he,hv,hb⟩=>?_;simp only [RepR,RepD] at hv;subst hv;exact ⟨he,hb⟩
end
theorem zVk.cons {P:Program} {t:TypeId} {ts:List TypeId} {rs:List RV} (h:zVk P (t::ts) rs):∃ r rs',rs=r::rs'/\zKa P t r/\zVk P ts rs':=by
 cases rs with
 | nil=>exact h.elim
 | cons r rs=>exact ⟨r,rs,rfl,h.1,h.2⟩
theorem zVk.nil {P:Program} {rs:List RV} (h:zVk P [] rs):rs=[]:=by
 cases rs with
 | nil=>rfl
 | cons r rs=>exact h.elim
theorem zKa.one {P:Program} {t:TypeId} {r:RV} {k:IntKind} (h:zKa P t r) (hu:P.underlying t=some (.int k)):∃ n,r=.d (.int k n):=by
 unfold zKa at h;simp only [hu] at h;obtain ⟨d,rfl,h⟩:=h;unfold zXY at h;simp only [hu] at h;obtain ⟨n,rfl⟩:=h;exact ⟨n,rfl⟩
theorem zKa.many {P:Program} {t:TypeId} {r:RV} {ls:List TypeId} (h:zKa P t r) (hu:(match P.underlying t with | some (.struct _) | some (.array _ _)=>true | _=>false)=true) (hl:lv P t=some ls) :
  ∃ ds,r=.agg ds/\ds.length=ls.length/\∀ (i:Nat) d,ds[i]?=some d->∃ t',ls[i]?=some t'/\zXY P 6 t' d:=by
 unfold zKa at h;split at hu
 ·rename_i fs he;simp only [he] at h;obtain ⟨ds,ls',h1,h2,h3⟩:=h;rw [hl] at h2; injection h2 with h2; subst h2
  exact ⟨ds,h1,h3⟩
 ·rename_i n e he;simp only [he] at h;obtain ⟨ds,ls',h1,h2,h3⟩:=h;rw [hl] at h2; injection h2 with h2; subst h2
  exact ⟨ds,h1,h3⟩
 ·cases hu
def zWn (P:Program) (q:Nat) (ls:List TypeId) (ds:List DV):Prop:=ds.length=ls.length/\∀ (i:Nat) d,ds[i]?=some d->∃ t',ls[i]?=some t'/\zXY P q t' d
theorem zWn.cons {P:Program} {q:Nat} {t:TypeId} {ts:List TypeId} {ds:List DV} (h:zWn P q (t::ts) ds):∃ d ds',ds=d::ds'/\zXY P q t d/\zWn P q ts ds':=by
 obtain ⟨h1,h2⟩:=h
 cases ds with
 | nil=>simp at h1
 | cons d ds=>
  refine ⟨d,ds,rfl,?_,by simpa using h1,λi d' hd=>?_⟩
  ·obtain ⟨t',e,h⟩:=h2 0 d rfl;simp at e; subst e; exact h
  ·obtain ⟨t',e,h⟩:=h2 (i+1) d' (by simpa using hd);exact ⟨t',by simpa using e,h⟩
theorem zWn.nil {P:Program} {q:Nat} {ds:List DV} (h:zWn P q [] ds):ds=[]:=by
 have:=h.1;simpa using this
theorem zXY.int {P:Program} {q:Nat} {t:TypeId} {d:DV} {k:IntKind} (h:zXY P q t d) (hu:P.underlying t=some (.int k)):∃ n,d=.int k n:=by
 cases q with
 | zero=>exact h.elim
 | succ q=>unfold zXY at h; simp only [hu] at h; exact h
theorem zXY.bool {P:Program} {q:Nat} {t:TypeId} {d:DV} (h:zXY P q t d) (hu:P.underlying t=some .bool):∃ n,d=.bool n:=by
 cases q with
 | zero=>exact h.elim
 | succ q=>unfold zXY at h; simp only [hu] at h; exact h
theorem zXY.slice {P:Program} {q:Nat} {t e:TypeId} {d:DV} {ls:List TypeId} (h:zXY P q t d) (hu:P.underlying t=some (.slice e)) (hl:lv P e=some ls) :
  ∃ n xs,d=.sl n xs/\n*P.bytesOf e<=reachBytes/\xs.length=n*ls.length/\∀ (j:Nat) d',xs[j]?=some d'->∃ t',ls[j%ls.length]?=some t'/\∃ q,zXY P q t' d':=by
 cases q with
 | zero=>exact h.elim
 | succ q=>
  unfold zXY at h; simp only [hu,hl] at h;obtain ⟨n,xs,h1,h2,h3,h4⟩:=h;exact ⟨n,xs,h1,h2,h3,λj d' hj=>let ⟨t',a,b⟩:=h4 j d' hj; ⟨t',a,q,b⟩⟩
theorem zXY.str {P:Program} {q:Nat} {t:TypeId} {d:DV} (h:zXY P q t d) (hu:P.underlying t=some .string):∃ n,d=.str n:=by
 cases q with
 | zero=>exact h.elim
 | succ q=>unfold zXY at h; simp only [hu] at h; exact h
theorem zKa.slice {P:Program} {t e:TypeId} {r:RV} {ls:List TypeId} (h:zKa P t r) (hu:P.underlying t=some (.slice e)) (hl:lv P e=some ls) :
  ∃ n xs,r=.d (.sl n xs)/\n*P.bytesOf e<=reachBytes/\xs.length=n*ls.length/\∀ (j:Nat) d',xs[j]?=some d'->∃ t',ls[j%ls.length]?=some t'/\∃ q,zXY P q t' d':=by
 unfold zKa at h;simp only [hu] at h;obtain ⟨d,rfl,h⟩:=h;obtain ⟨n,xs,rfl,h2⟩:=zXY.slice h hu hl;exact ⟨n,xs,rfl,h2⟩
theorem jKT {P:Program} {t t':TypeId} {q j:Nat} {d:DV} {k:IntKind} (hu:P.underlying t=some (.int k)) (a:[t][j % [t].length]?=some t') (b:zXY P q t' d):∃ n,d=.int k n:=by
 have:t'=t:=by
  have h:=wZ3 a;simpa using h
 subst this;exact b.int hu
end
theorem zHo (l:List Int) {n:Nat} (h:n=l.length):IsU n (us l):=by
 subst h;exact jHb (zKP l) λj d hj=>by
  simp only [us,wQN] at hj;obtain ⟨v,_,rfl⟩:=wQK.1 hj;exact ⟨v,rfl⟩
theorem zJG:IsU 0 []:=jHb rfl λj d hj=>by simp at hj
theorem jVc:Im.zero.isU:=⟨zJG,zJG,zJG,zJG,zJG⟩
theorem zV1 (w h:Int) (c:Px):(zQ3 w h c).isU:=⟨zJG,zJG,zJG,zJG,zJG⟩
theorem jZ1 (w h:Int) (l:List Px):(imOf w h l).isU:=by
 cases hk:ofOk w h l.length with
 | true=>
  rw [zV9 hk];refine ⟨zHo _ ?_,zHo _ ?_,zHo _ ?_,zHo _ ?_,zHo _ ?_⟩<;>exact (wQu _).symm
 | false=>rw [zHt hk]; exact jVc
theorem yQC {n:Nat} {xs:List DV} (hn:xs.length=n*5) (hx:∀ (j:Nat) d,xs[j]?=some d->∃ v,d=.int .i64 v):Is5 n xs:=
 ⟨hn,λi hi=>by
  have hl:i<xs.length:=by omega
  obtain ⟨v,e⟩:=hx i _ (List.getElem?_eq_getElem hl);rw [List.getElem?_eq_getElem hl,e]
  simp [nAt,List.getElem?_eq_getElem hl,e]⟩
theorem jGm {P:Program} {t t':TypeId} {q j:Nat} {d:DV} {k:IntKind} (hu:P.underlying t=some (.int k)) (a:[t,t,t,t,t][j % [t,t,t,t,t].length]?=some t') (b:zXY P q t' d):∃ n,d=.int k n:=by
 have:t'=t:=by
  have h:=wZ3 a;simpa using h
 subst this;exact b.int hu
theorem jQ5 (mood:Int) (L:Nat) (xs:List DV) (most:Int) {n k:Nat} (h:k=n):jY4 k (pxs (zQm mood L xs most n)):=by
 subst h;have:=jYj (zQm mood L xs most k);rwa [zXt] at this
abbrev wQL:=@Int.emod_nonneg
abbrev wQM:=@Int.emod_lt_of_pos
theorem zZa {n k:Int} (h1:1<=k) (h2:k<=4611686018427387904):0<=modS n k/\modS n k<k:=by
 rw [jWW h1 h2];exact ⟨wQL _ (by omega),wQM _ (by omega)⟩
def imR (m:Im):RV:=RV.agg [DV.int .i64 m.w,DV.int .i64 m.h,DV.bool m.so,DV.int .u16 m.c.a,DV.int .u16 m.c.b,DV.int .u16 m.c.c,DV.int .u16 m.c.al,DV.int .u16 m.c.f,DV.int .i64 m.p0.w,DV.int .i64 m.p0.h,DV.int .i64 m.p0.s,DV.sl m.p0.n m.p0.xs,DV.int .i64 m.p1.w,DV.int .i64 m.p1.h,DV.int .i64 m.p1.s,DV.sl m.p1.n m.p1.xs,DV.int .i64 m.p2.w,DV.int .i64 m.p2.h,DV.int .i64 m.p2.s,DV.sl m.p2.n m.p2.xs,DV.int .i64 m.p3.w,DV.int .i64 m.p3.h,DV.int .i64 m.p3.s,DV.sl m.p3.n m.p3.xs,DV.int .i64 m.p4.w,DV.int .i64 m.p4.h,DV.int .i64 m.p4.s,DV.sl m.p4.n m.p4.xs]
def imV (b:Nat) (m:Im):AV:=AV.agg [Cl.d (DV.int .i64 m.w),Cl.d (DV.int .i64 m.h),Cl.d (DV.bool m.so),Cl.d (DV.int .u16 m.c.a),Cl.d (DV.int .u16 m.c.b),Cl.d (DV.int .u16 m.c.c),Cl.d (DV.int .u16 m.c.al),Cl.d (DV.int .u16 m.c.f),Cl.d (DV.int .i64 m.p0.w),Cl.d (DV.int .i64 m.p0.h),Cl.d (DV.int .i64 m.p0.s),Cl.ref (b+0) m.p0.n,Cl.d (DV.int .i64 m.p1.w),Cl.d (DV.int .i64 m.p1.h),Cl.d (DV.int .i64 m.p1.s),Cl.ref (b+1) m.p1.n,Cl.d (DV.int .i64 m.p2.w),Cl.d (DV.int .i64 m.p2.h),Cl.d (DV.int .i64 m.p2.s),Cl.ref (b+2) m.p2.n,Cl.d (DV.int .i64 m.p3.w),Cl.d (DV.int .i64 m.p3.h),Cl.d (DV.int .i64 m.p3.s),Cl.ref (b+3) m.p3.n,Cl.d (DV.int .i64 m.p4.w),Cl.d (DV.int .i64 m.p4.h),Cl.d (DV.int .i64 m.p4.s),Cl.ref (b+4) m.p4.n]
def imB (e:Nat) (m:Im):List Bx:=[Bx.row e 1 m.p0.xs,Bx.row e 1 m.p1.xs,Bx.row e 1 m.p2.xs,Bx.row e 1 m.p3.xs,Bx.row e 1 m.p4.xs]
def zYV (p k a b often:Int):Int:=if modS (wrap .i64 (Int.tdiv often 5)) 3=0 then wrap .i64 (b-a) else wrap .i64 (1+modS p k)
def zJb (pw ph so mood:Int) (L:Nat) (xs:List DV) (x0 y0 x1 y1 most:Int):Im:=
 let w:=zYV pw 5 x0 x1 pw
 let h:=zYV ph 4 y0 y1 pw
 let l:=zQm mood L xs most (wrap .i64 (w*h)).toNat
 if modS so 2=0 then zQ3 w h (gPx mood L xs most 0) else imOf w h l
theorem zUV {mood:Int} {L:Nat} {xs:List DV} {most:Int} {n:Nat} (hn:0<n):nAt (pxs (zQm mood L xs most n)) 0=(gPx mood L xs most 0).a/\nAt (pxs (zQm mood L xs most n)) 1=(gPx mood L xs most 0).b/\nAt (pxs (zQm mood L xs most n)) 2=(gPx mood L xs most 0).c/\nAt (pxs (zQm mood L xs most n)) 3=(gPx mood L xs most 0).al/\nAt (pxs (zQm mood L xs most n)) 4=(gPx mood L xs most 0).f:=by
 have h:0<(zQm mood L xs most n).length:=by rw [zXt]; exact hn
 have e:(zQm mood L xs most n)[0]=gPx mood L xs most 0:=by simp [zQm]
 have:=zQJ h;rw [e] at this;simpa only [Nat.zero_mul,Nat.zero_add] using this
theorem jVK (pw ph so mood:Int) (L:Nat) (xs:List DV) (x0 y0 x1 y1 most:Int):(zJb pw ph so mood L xs x0 y0 x1 y1 most).isU:=by
 unfold zJb;simp only;split
 ·exact zV1 _ _ _
 ·exact jZ1 _ _ _
theorem zWW (pw ph so mood:Int) (L:Nat) (xs:List DV) (x0 y0 x1 y1 most W H:Int) (hW:zYV pw 5 x0 x1 pw=W) (hH:zYV ph 4 y0 y1 pw=H):zJb pw ph so mood L xs x0 y0 x1 y1 most=if modS so 2=0 then zQ3 W H (gPx mood L xs most 0) else imOf W H (zQm mood L xs most (wrap .i64 (W*H)).toNat):=by
 unfold zJb;simp only [hW,hH]
theorem jXy {W H:Int} (hW:1<=W/\W<=100) (hH:1<=H/\H<=100):1<=wrap .i64 (W*H)/\wrap .i64 (W*H)<=10000:=by
 have a:=wQx hW.2 hH.2 (by omega) (by omega);have b:=wQx hW.1 hH.1 (by omega) (by omega);rw [wQb _ ⟨by omega,by omega⟩];omega
def strS (p:Pl) (more k:Int):Int:=wrap .i64 (p.w+modS (wrap .i64 (more+k)) 4)
def strV (p:Pl) (s:Int) (i:Nat):Int:=
 if Int.tmod (i:Int) s<p.w then nAt p.xs (wrap .i64 (wrap .i64 (wrap .i64 (Int.tdiv (i:Int) s)*p.s)+Int.tmod (i:Int) s)).toNat else wrap .u16 (wrap .i64 (40000+(i:Int)))
def jKj (p:Pl) (s:Int) (n:Nat):List DV:=us ((List.range n).map (strV p s))
def strN (p:Pl) (s:Int):Nat:=(wrap .i64 (s*p.h)).toNat
def strP (p:Pl) (more k:Int):Pl:=⟨p.w,p.h,strS p more k,strN p (strS p more k),jKj p (strS p more k) (strN p (strS p more k))⟩
def zXT (m:Im) (more:Int):Im:=if m.so then m else ⟨m.w,m.h,m.so,m.c,strP m.p0 more 0,strP m.p1 more 1,strP m.p2 more 2,strP m.p3 more 3,strP m.p4 more 4⟩
theorem jWf {p:Pl} {more k:Int} (hw:1<=p.w/\p.w<=100):p.w<=strS p more k/\strS p more k<=103:=by
 have b:=@zZa (wrap .i64 (more+k)) 4 (by omega) (by omega);unfold strS;rw [wQb _ ⟨by omega,by omega⟩];omega
theorem jWg {p:Pl} {s:Int} (hs:1<=s/\s<=103) (hh:1<=p.h/\p.h<=100):wrap .i64 (s*p.h)=(strN p s:Int)/\strN p s<=10300/\((strN p s:Nat):Int)=s*p.h:=by
 have a:=wQx hs.2 hh.2 (by omega) (by omega);have b:=Int.mul_nonneg (show 0<=s by omega) (show 0<=p.h by omega);unfold strN;rw [wQb _ ⟨by omega,by omega⟩];omega
theorem jVf (p:Pl) (s:Int) {n i:Nat} (h:i<n):nAt (jKj p s n) i=strV p s i:=by
 unfold jKj;rw [jKf (by simpa using h)];simp
abbrev wXt:=@Bool.true_and
abbrev wQy:=@Int.mul_comm
theorem zJP {p:Pl} {more k:Int} (hv:zQM p.w p.h p.s p.n=true) (hw:p.w<=100) (hh:p.h<=100):zQM (strP p more k).w (strP p more k).h (strP p more k).s (strP p more k).n=true:=by
 have hf:zZg p.w p.h=true:=by unfold zQM at hv; simp at hv; exact hv.1.1.1
 obtain ⟨f1,f2,f3,f4,f5⟩:=zXI hf;have S:=@jWf p more k ⟨f1,hw⟩;have N:=@jWg p (strS p more k) ⟨by omega,by omega⟩ ⟨f2,hh⟩;have L:=jJK hf S.1 (by omega)
 show zQM p.w p.h (strS p more k) (strN p (strS p more k))=true
 unfold zQM;have e:(p.h-1)*strS p more k=strS p more k*p.h-strS p more k:=by rw [Int.sub_mul,wQy]; omega
 simp only [hf,wXt,wQf,wQh];exact ⟨⟨S.1,by omega⟩,by omega⟩
abbrev wZB:=@Int.one_mul
abbrev wZ6:=@Int.add_mul
abbrev wXu:=@Int.add_comm
abbrev wYi:=@Int.add_mul_ediv_right
abbrev wYz:=@Int.add_mul_emod_self_right
abbrev wYh:=@Int.emod_eq_of_lt
theorem zGF {p:Pl} {more k:Int} (hv:zQM p.w p.h p.s p.n=true) (hw:p.w<=100) (hh:p.h<=100) {x y:Int} (hx:0<=x/\x<p.w) (hy:0<=y/\y<p.h):(strP p more k).at_ x y=p.at_ x y:=by
 have hf:zZg p.w p.h=true:=by unfold zQM at hv; simp at hv; exact hv.1.1.1
 obtain ⟨f1,f2,f3,f4,f5⟩:=zXI hf;obtain ⟨q1,q2,q3,q4,q5⟩:=place hv hx.1 hx.2 hy.1 hy.2;obtain ⟨v1,v2,v3,v4,v5,v6,v7,v8,v9⟩:=zY5 hv;have S:=@jWf p more k ⟨f1,hw⟩;have N:=@jWg p (strS p more k) ⟨by omega,by omega⟩ ⟨f2,hh⟩
 show nAt (jKj p (strS p more k) (strN p (strS p more k))) (y*strS p more k+x).toNat=nAt p.xs (y*p.s+x).toNat
 generalize strS p more k=s at *;have a1:0<=y*s:=Int.mul_nonneg hy.1 (by omega);have a2:(y+1)*s<=p.h*s:=Int.mul_le_mul_of_nonneg_right (by omega) (by omega);have a3:(y+1)*s=y*s+s:=by rw [wZ6,wZB]
 have a4:p.h*s=s*p.h:=wQy _ _;have hi:(y*s+x).toNat<strN p s:=by omega
 rw [jVf _ _ hi];have ei:((y*s+x).toNat:Int)=y*s+x:=by omega
 unfold strV;rw [ei,wZO (by omega),wQS (by omega)];have m1:(y*s+x)%s=x:=by rw [wXu,wYz]; exact wYh hx.1 (by omega)
 have m2:(y*s+x) / s=y:=by rw [wXu,wYi _ _ (by omega),Int.ediv_eq_zero_of_lt hx.1 (by omega)]; omega
 rw [m1,m2,if_pos hx.2];rw [wQb y ⟨by omega,by omega⟩,q5.1,q5.2]
theorem jJY (m:Im) (more:Int):(zXT m more).so=m.so/\(zXT m more).w=m.w/\(zXT m more).h=m.h/\(zXT m more).c=m.c:=by
 unfold zXT;split<;>simp
theorem zVa {m:Im} (hf:m.formed=true) (hm:m.w<=100/\m.h<=100) (more:Int):(zXT m more).formed=true:=by
 unfold zXT;split
 ·exact hf
 ·rename_i hs;have hs:m.so=false:=by simpa using hs
  obtain ⟨qf,qi⟩:=Im.formed_of hf;obtain ⟨qc,z0,z1,z2,z3,z4⟩:=Im.inner_planes qi hs;have p0:=zJP (more:=more) (k:=0) z0.1 (by omega) (by omega);have p1:=zJP (more:=more) (k:=1) z1.1 (by omega) (by omega);have p2:=zJP (more:=more) (k:=2) z2.1 (by omega) (by omega);have p3:=zJP (more:=more) (k:=3) z3.1 (by omega) (by omega);have p4:=zJP (more:=more) (k:=4) z4.1 (by omega) (by omega);have e:∀ (p:Pl) k,(strP p more k).w=p.w/\(strP p more k).h=p.h:=λp k=>⟨rfl,rfl⟩
  simp only [(e _ _).1,(e _ _).2,z0.2,z1.2,z2.2,z3.2,z4.2] at p0 p1 p2 p3 p4;simp [Im.formed,Im.inner,okPl,hs,qf,qc,p0,p1,p2,p3,p4,e,z0.2,z1.2,z2.2,z3.2,z4.2]
theorem jJZ {m:Im} (hf:m.formed=true) (hm:m.w<=100/\m.h<=100) (more:Int) {x y:Int} (hx:0<=x/\x<m.w) (hy:0<=y/\y<m.h):(zXT m more).px x y=m.px x y:=by
 unfold zXT;split
 ·rfl
 ·rename_i hs;have hs:m.so=false:=by simpa using hs
  obtain ⟨qf,qi⟩:=Im.formed_of hf;obtain ⟨qc,z0,z1,z2,z3,z4⟩:=Im.inner_planes qi hs;unfold Im.px;simp only [hs];rw [zGF z0.1 (by omega) (by omega) (by omega) (by omega),zGF z1.1 (by omega) (by omega) (by omega) (by omega),zGF z2.1 (by omega) (by omega) (by omega) (by omega),zGF z3.1 (by omega) (by omega) (by omega) (by omega),zGF z4.1 (by omega) (by omega) (by omega) (by omega)]
theorem Im.pixels_ext {m r:Im} (hm:m.formed=true) (hr:r.formed=true) (hw:r.w=m.w) (hh:r.h=m.h) (h:∀ x y:Int,(0<=x/\x<m.w)->(0<=y/\y<m.h)->r.px x y=m.px x y):r.pixels=m.pixels:=by
 rw [Im.pixels_of hm,Im.pixels_of hr,hw,hh];unfold Im.list;refine List.map_congr_left λk hk=>?_;have hk:=wQw.1 hk;obtain ⟨a,b⟩:=Im.nth_in (Im.formed_of hm).1 hk;unfold Im.nth;rw [hw];exact h _ _ a b
theorem zHB {m:Im} (hf:m.formed=true) (hm:m.w<=100/\m.h<=100) (more:Int):(zXT m more).pixels=m.pixels:=
 have g:=jJY m more
 Im.pixels_ext hf (zVa hf hm more) g.2.1 g.2.2.1 (λx y hx hy=>jJZ hf hm more hx hy)
theorem zYr {w h:Int} (c:Px) (hf:zZg w h=true):(zQ3 w h c).formed=true:=by
 simp [Im.formed,Im.inner,okPl,zQ3,hf,zJJ,Pl.none]
theorem zV8 {w h:Int} {l:List Px} (hk:ofOk w h l.length=true):(ofIm w h l).formed=true:=by
 unfold ofOk at hk;simp at hk;obtain ⟨hf,hl⟩:=hk;obtain ⟨f1,f2,f3,f4,f5⟩:=zXI hf;have L:=jJK hf (Int.le_refl w) f3;have e:(h-1)*w=w*h-w:=by rw [Int.sub_mul,wQy]; omega
 have hv:zQM w h w l.length=true:=by
  unfold zQM;simp only [hf,wXt,wQf,wQh];exact ⟨⟨Int.le_refl _,f3⟩,by omega⟩
 simp [Im.formed,Im.inner,okPl,ofIm,hf,hv]
theorem zUW (pw ph so mood:Int) (L:Nat) (xs:List DV) (x0 y0 x1 y1 most:Int) (hc:1<=x1-x0/\x1-x0<=100/\1<=y1-y0/\y1-y0<=100) :
  (zJb pw ph so mood L xs x0 y0 x1 y1 most).formed=true/\1<=(zJb pw ph so mood L xs x0 y0 x1 y1 most).w/\(zJb pw ph so mood L xs x0 y0 x1 y1 most).w<=100/\1<=(zJb pw ph so mood L xs x0 y0 x1 y1 most).h/\(zJb pw ph so mood L xs x0 y0 x1 y1 most).h<=100:=by
 have b5:=@zZa pw 5 (by omega) (by omega);have b4:=@zZa ph 4 (by omega) (by omega);have hW:1<=zYV pw 5 x0 x1 pw/\zYV pw 5 x0 x1 pw<=100:=by
  unfold zYV;split<;>rw [wQb _ ⟨by omega,by omega⟩]<;>omega
 have hH:1<=zYV ph 4 y0 y1 pw/\zYV ph 4 y0 y1 pw<=100:=by
  unfold zYV;split<;>rw [wQb _ ⟨by omega,by omega⟩]<;>omega
 rw [zWW pw ph so mood L xs x0 y0 x1 y1 most _ _ rfl rfl];generalize zYV pw 5 x0 x1 pw=W at *;generalize zYV ph 4 y0 y1 pw=H at *;have wa:=jXy hW hH;have hf:zZg W H=true:=by
  have:=wQx hW.2 hH.2 (by omega) (by omega);simp [zZg]; omega
 have hwm:wrap .i64 (W*H)=W*H:=wQb _ (by
  have:=wQx hW.2 hH.2 (by omega) (by omega);have:=Int.mul_nonneg (a:=W) (b:=H) (by omega) (by omega)
  omega)
 split
 ·exact ⟨zYr _ hf,hW.1,hW.2,hH.1,hH.2⟩
 ·have hk:ofOk W H (zQm mood L xs most (wrap .i64 (W*H)).toNat).length=true:=by
   simp only [ofOk,hf,wXt,wQh,zXt];omega
  rw [zV9 hk];exact ⟨zV8 hk,hW.1,hW.2,hH.1,hH.2⟩
theorem yQb {l:List Px} {g:Px->Int} {k:Nat} (h:k<l.length):nAt (chan l g) k=g l[k]:=by
 unfold chan;rw [jKf (by simpa using h)];simp
theorem jWR {w h:Int} {l:List Px} {x y:Int} (hk:(y*w+x).toNat<l.length):(ofIm w h l).px x y=l[(y*w+x).toNat]:=by
 simp [Im.px,ofIm,Pl.at_,yQb hk]
theorem Im.list_at {m:Im} {n k:Nat} (h:k<n):(m.list n)[k]'(by rw [Im.list_len]; exact h)=m.nth k:=by simp [Im.list]
abbrev wQ1:=@List.ext_getElem
theorem jJR {w h:Int} {l:List Px} (hk:ofOk w h l.length=true):(imOf w h l).formed=true/\(imOf w h l).pixels=l:=by
 rw [zV9 hk];have hf:=zV8 hk;refine ⟨hf,?_⟩;rw [Im.pixels_of hf];obtain ⟨f1,f2,f3,f4,f5⟩:=zXI (Im.formed_of hf).1;have hl:l.length=w.toNat*h.toNat:=by
  have:=(Im.count_le (Im.formed_of hf).1).2;simp [ofOk] at hk;change ((w.toNat*h.toNat:Nat):Int)=w*h at this;omega
 refine wQ1 (by rw [Im.list_len]; exact hl.symm) λi h1 h2=>?_;rw [Im.list_len] at h1;rw [Im.list_at h1];have hw:0<w.toNat:=by change 1<=w at f1; omega
 have e:i / w.toNat*w.toNat+i%w.toNat=i:=by rw [wQI]; exact wZQ i w.toNat
 have e2:(((i / w.toNat:Nat):Int)*w+((i%w.toNat:Nat):Int)).toNat=i:=by
  rw [idx (by change 1<=w at f1; omega)]; exact e
 show (ofIm w h l).px ((i%w.toNat:Nat):Int) ((i / w.toNat:Nat):Int)=l[i]
 rw [jWR (by rw [e2]; exact h2)];simp only [e2]
def zZb (n d:Int):Int:=if d=0 then 0 else n / d+(if d-n%d<=n%d then 1 else 0)
def to16 (v:Int):Int:=if 255<v then 65535 else 257*v
def to8 (v:Int):Int:=zZb (v*255) 65535
def Px.map (f:Int->Int) (p:Px):Px:=⟨f p.a,f p.b,f p.c,f p.al,f p.f⟩
def jUv (b:Int):Bool:=decide (b=8) || decide (b=16)
def jGM (b:Int):Int:=if b=8 then 255 else if b=16 then 65535 else 0
def Px.conv (a b:Int) (p:Px):Px:=if a<b then p.map to16 else if b<a then p.map to8 else p
def Im.convOk (m:Im) (a b:Int):Bool:=jUv a&&jUv b&&decide (m.valid (jGM a)=0)
def Im.conv (m:Im) (a b:Int):Im:=if m.convOk a b then (if m.so then zQ3 m.w m.h (m.c.conv a b) else imOf m.w m.h (m.pixels.map (Px.conv a b))) else .zero
def isq:Nat->Nat
 | 0=>0
 | n+1=>if (isq n+1)*(isq n+1)<=n+1 then isq n+1 else isq n
theorem jKR:∀ n:Nat,isq n*isq n<=n/\n<(isq n+1)*(isq n+1)
 | 0=>by decide
 | n+1=>by
  have ⟨h1,h2⟩:=jKR n;simp only [isq];split
  ·refine ⟨by assumption,?_⟩;have:(isq n+1+1)*(isq n+1+1)=(isq n+1)*(isq n+1)+2*(isq n)+3:=by grind
   omega
  ·omega
def zXV (n:Int):Int:=isq n.toNat
abbrev wQT:=@Int.eq_ofNat_of_zero_le
theorem zYY {n:Int} (h:0<=n):0<=zXV n/\zXV n*zXV n<=n/\n<(zXV n+1)*(zXV n+1):=by
 obtain ⟨m,rfl⟩:=wQT h;have ⟨h1,h2⟩:=jKR m;simp only [zXV,wQl];refine ⟨by omega,by exact_mod_cast h1,by exact_mod_cast h2⟩
abbrev wZH:=@Int.le_trans
theorem jZW {n k:Int} (h:0<=n) (hk:0<=k):k<=zXV n↔k*k<=n:=by
 obtain ⟨h0,h1,h2⟩:=zYY h;constructor
 ·intro hl;exact wZH (wQx hl hl hk h0) h1
 ·intro hl;apply Int.not_lt.1;intro hlt;have:(zXV n+1)*(zXV n+1)<=k*k:=wQx hlt hlt (by omega) hk;omega
theorem jZy {n k:Int} (h:0<=n) (hk:0<=k):zXV n<k↔n<k*k:=by
 have:=jZW h hk;omega
structure Ex where
  p:Int
  q:Int
  r:Int
  d:Int
def Ex.up (x:Ex) (t:Int):Int:=t*x.p+zXV ((t*x.q)*(t*x.q)*x.r)
def Ex.floor (x:Ex):Int:=x.up 1 / x.d
def Ex.half (x:Ex):Int:=(x.up 2+x.d) / (2*x.d)
structure Ex.ok (x:Ex):Prop where
  p:0<=x.p
  q:0<=x.q
  r:0<=x.r
  d:0<x.d
theorem zQ6 (a:Int):0<=a*a:=by
 rcases wXC 0 a with h | h
 ·exact Int.mul_nonneg h h
 ·have:=Int.mul_nonneg (Int.neg_nonneg.2 h) (Int.neg_nonneg.2 h); grind
theorem Ex.up_nonneg {x:Ex} (h:x.ok) {t:Int} (ht:0<=t):0<=x.up t:=by
 have:=(zYY (Int.mul_nonneg (zQ6 (t*x.q)) h.r)).1;have:=Int.mul_nonneg ht h.p;unfold Ex.up; omega
theorem Ex.up_two {x:Ex} (h:x.ok):2*x.up 1<=x.up 2/\x.up 2<=2*x.up 1+1:=by
 have hn:0<=x.q*x.q*x.r:=Int.mul_nonneg (zQ6 _) h.r;have e2:(2*x.q)*(2*x.q)*x.r=4*(x.q*x.q*x.r):=by grind
 unfold Ex.up;rw [e2,wZB,wZB];generalize x.q*x.q*x.r=n at *;obtain ⟨a0,a1,a2⟩:=zYY hn;have b1:2*zXV n<=zXV (4*n):=(jZW (by omega) (by omega)).2 (by grind);have b2:zXV (4*n)<2*zXV n+2:=(jZy (by omega) (by omega)).2 (by grind);omega
abbrev wZh:=@Int.emod_add_mul_ediv
abbrev wXv:=@Int.ediv_eq_iff_of_pos
theorem Ex.half_floor {x:Ex} (h:x.ok):x.half=if (2*x.floor+1)*x.d<=x.up 2 then x.floor+1 else x.floor:=by
 have ⟨u1,u2⟩:=Ex.up_two h;have hd:=h.d;have e1:=wZh (x.up 1) x.d;have e2:=wQL (x.up 1) (b:=x.d) (by omega);have e3:=wQM (x.up 1) hd;unfold Ex.half;change _=if (2*(x.up 1 / x.d)+1)*x.d<=_ then x.up 1 / x.d+1 else x.up 1 / x.d
 generalize x.up 1 / x.d=n at *;generalize x.up 1%x.d=m at *;generalize x.up 1=A at *;generalize x.up 2=B at *;generalize x.d=d at *;split
 ·rename_i hc;rw [wXv (by omega)];constructor<;>grind
 ·rename_i hc;rw [wXv (by omega)];constructor<;>grind
theorem Ex.half_le {x:Ex} (h:x.ok) {B:Int} (h1:x.p<=B) (h2:x.q*x.q*x.r<=(B-x.p)*(B-x.p)):x.half<=(2*B+x.d) / (2*x.d):=by
 apply wXg (by have:=h.d; omega);have hn:0<=x.q*x.q*x.r:=Int.mul_nonneg (zQ6 _) h.r;have e2:(2*x.q)*(2*x.q)*x.r=4*(x.q*x.q*x.r):=by grind
 have:zXV (4*(x.q*x.q*x.r))<2*(B-x.p)+1:=(jZy (by omega) (by omega)).2 (by grind);unfold Ex.up;rw [e2]; omega
theorem Ex.half_nonneg {x:Ex} (h:x.ok):0<=x.half:=by
 have:=Ex.up_nonneg h (t:=2) (by omega);have:=h.d;exact wQs (by omega) (by omega)
theorem Ex.half_whole {x:Ex} (hd:0<x.d) {c:Int} (hq:x.q=0) (hp:x.p=c*x.d):x.half=c:=by
 have:x.up 2=2*(c*x.d):=by
  unfold Ex.up;rw [hq,hp];simp [zXV,isq]
 unfold Ex.half;rw [this,wXv (by omega)];constructor<;>grind
def zKs (s a d b:Int):Int:=if 2*s<=a then 2*s*d else a*b-2*(b-d)*(a-s)
def zJx (s a d b:Int):Ex:=
 if b=0 then ⟨0,0,0,1⟩
 else if 2*s<=a then ⟨d*a*b-(a-2*s)*d*(b-d),0,0,b⟩
 else if 4*d<=b then ⟨d*a*(b*b)+(2*s-a)*d*(16*d*d+3*b*b-12*d*b),0,0,b*b⟩
 else ⟨2*d*(a-s),2*s-a,d*b,1⟩
def zZj (p:Int):Ex:=⟨p,0,0,1⟩
def zQi (mode s a d b:Int):Ex:=
 if mode=1 then zZj (s*b)
 else if mode=2 then zZj (s*d)
 else if mode=3 then zZj (s*b+d*a-s*d)
 else if mode=4 then zZj (zKs d b s a)
 else if mode=5 then zZj (min (s*b) (d*a))
 else if mode=6 then zZj (max (s*b) (d*a))
 else if mode=7 then if d=0 then zZj 0 else if d*a>=b*(a-s) then zZj (a*b) else ⟨a*a*d,0,0,a-s⟩
 else if mode=8 then if d=b then zZj (a*b) else if (b-d)*a>=s*b then zZj 0 else ⟨a*b*s-(b-d)*a*a,0,0,s⟩
 else if mode=9 then zZj (zKs s a d b)
 else if mode=10 then zJx s a d b
 else if mode=11 then zZj (max (s*b) (d*a)-min (s*b) (d*a))
 else zZj (s*b+d*a-2*s*d)
structure Ex.under (x:Ex) (B:Int):Prop where
  ok:x.ok
  p:x.p<=B*x.d
  q:x.q*x.q*x.r<=(B*x.d-x.p)*(B*x.d-x.p)
theorem zQT {n B:Int} (h0:0<=n) (h1:n<=B):(zZj n).under B:=
 ⟨⟨h0,by simp [zZj],by simp [zZj],by simp [zZj]⟩,by simp [zZj,h1],by simp [zZj]; exact zQ6 _⟩
theorem zQc {x y A B:Int} (h0:0<=x) (h1:x<=A) (h2:0<=y) (h3:y<=B):0<=x*y/\x*y<=A*B:=
 ⟨Int.mul_nonneg h0 h2,wQx h1 h3 h2 (by omega)⟩
theorem zGx {s a d b:Int} (h0:0<=s) (h1:s<=a) (h2:0<=d) (h3:d<=b):0<=zKs s a d b/\zKs s a d b<=a*b:=by
 unfold zKs;split
 ·rename_i h;have:=zQc (x:=2*s) (A:=a) (by omega) h h2 h3;exact this
 ·rename_i h;have:=zQc (x:=b-d) (y:=2*(a-s)) (A:=b) (B:=a) (by omega) (by omega) (by omega) (by omega);have e:2*(b-d)*(a-s)=(b-d)*(2*(a-s)):=by grind
  have e2:a*b=b*a:=wQy _ _;rw [e]; omega
theorem jKm {d b:Int} (h2:0<=d) (h3:4*d<=b):0<=16*d*d+3*b*b-12*d*b/\d*(b*b)+d*(16*d*d+3*b*b-12*d*b)<=b*(b*b):=by
 have a1:=zQ6 (8*d-3*b);have a2:=zQ6 b;refine ⟨by grind,?_⟩;have c1:0<=d*d*(3*b-4*d):=Int.mul_nonneg (zQ6 d) (by omega);have c2:0<=(b*b)*(b-4*d):=Int.mul_nonneg (zQ6 b) (by omega);grind
abbrev wZi:=@Int.mul_pos
theorem zGH {s a d b:Int} (h0:0<=s) (h1:s<=a) (h2:0<=d) (h3:d<=b):(zJx s a d b).under (a*b):=by
 unfold zJx;split
 ·rename_i h; subst h; exact ⟨⟨by simp,by simp,by simp,by simp⟩,by simp,by simp⟩
 split
 ·rename_i hb h;have m1:=zQc (x:=a-2*s) (y:=d*(b-d)) (A:=a) (B:=d*b) (by omega) (by omega) (Int.mul_nonneg h2 (by omega)) (Int.mul_le_mul_of_nonneg_left (by omega) h2);have m2:=zQc (x:=d) (y:=a*b) (A:=b) (B:=a*b) h2 h3 (Int.mul_nonneg (by omega) (by omega)) (Int.le_refl _);have e1:(a-2*s)*d*(b-d)=(a-2*s)*(d*(b-d)):=by grind
  have e2:d*a*b=d*(a*b):=by grind
  have e3:a*b*b=b*(a*b):=by grind
  have e4:a*(d*b)=d*(a*b):=by grind
  exact ⟨⟨by simp only; omega,by simp,by simp,by simp only; omega⟩,by simp only; omega,by simp; exact zQ6 _⟩
 split
 ·rename_i hb hs h;obtain ⟨k1,k2⟩:=jKm h2 h;generalize hK:16*d*d+3*b*b-12*d*b=K at *;have m1:=zQc (x:=2*s-a) (y:=d*K) (A:=a) (B:=d*K) (by omega) (by omega) (Int.mul_nonneg h2 k1) (Int.le_refl _);have m2:a*(d*(b*b)+d*K)<=a*(b*(b*b)):=Int.mul_le_mul_of_nonneg_left k2 (by omega);have m3:0<=d*a*(b*b):=Int.mul_nonneg (Int.mul_nonneg h2 (by omega)) (zQ6 b);have m4:0<b*b:=wZi (by omega) (by omega);have e1:(2*s-a)*d*K=(2*s-a)*(d*K):=by grind
  have e2:d*a*(b*b)+a*(d*K)=a*(d*(b*b)+d*K):=by grind
  have e3:a*b*(b*b)=a*(b*(b*b)):=by grind
  exact ⟨⟨by simp only; omega,by simp,by simp,m4⟩,by simp only; omega,by simp; exact zQ6 _⟩
 ·rename_i hb hs h;have m1:=zQc (x:=d) (y:=2*(a-s)) (A:=b) (B:=2*(a-s)) h2 h3 (by omega) (Int.le_refl _);have e1:2*d*(a-s)=d*(2*(a-s)):=by grind
  have q0:0<=2*s-a:=by omega
  have m2:0<=b*(2*s-a):=Int.mul_nonneg (by omega) q0;have e2:a*b=b*(2*(a-s))+b*(2*s-a):=by grind
  have m3:b*(2*s-a)<=a*b*1-2*d*(a-s):=by omega
  have m4:(b*(2*s-a))*(b*(2*s-a))<=(a*b*1-2*d*(a-s))*(a*b*1-2*d*(a-s)):=wQx m3 m3 m2 (by omega);have m5:(2*s-a)*(2*s-a)*(d*b)<=(2*s-a)*(2*s-a)*(b*b):=Int.mul_le_mul_of_nonneg_left (Int.mul_le_mul_of_nonneg_right h3 (by omega)) (zQ6 _);have e5:(2*s-a)*(2*s-a)*(b*b)=(b*(2*s-a))*(b*(2*s-a)):=by grind
  exact ⟨⟨by simp only; omega,q0,Int.mul_nonneg h2 (by omega),by simp⟩,by simp only; omega,by simp only; omega⟩
abbrev wZ7:=@Int.lt_or_le
theorem zZk {mode s a d b:Int} (h0:0<=s) (h1:s<=a) (h2:0<=d) (h3:d<=b):(zQi mode s a d b).under (a*b):=by
 have m1:=zQc h0 h1 (show 0<=b by omega) (Int.le_refl b);have m2:=zQc h2 h3 (show 0<=a by omega) (Int.le_refl a);have m3:=zQc h0 h1 h2 h3;have e:a*b=b*a:=wQy _ _;have x1:s*b+d*a-s*d=s*b+d*(a-s):=by grind
 have m4:=zQc (x:=d) (y:=a-s) (B:=a-s) h2 h3 (by omega) (Int.le_refl _);have x2:b*(a-s)=a*b-s*b:=by grind
 have x3:s*b+d*a-2*s*d=s*(b-d)+d*(a-s):=by grind
 have m5:=zQc (x:=s) (y:=b-d) (B:=b-d) h0 h1 (by omega) (Int.le_refl _);have m6:=Int.mul_nonneg h2 (show 0<=a-s by omega);have m7:=Int.mul_nonneg h0 (show 0<=b-d by omega);have m8:=Int.mul_nonneg (show 0<=a-s by omega) (show 0<=b-d by omega);have x4:a*b=s*(b-d)+d*(a-s)+s*d+(a-s)*(b-d):=by grind
 unfold zQi;by_cases c1:mode=1
 ·rw [if_pos c1];exact zQT (by omega) (by omega)
 rw [if_neg c1];by_cases c2:mode=2
 ·rw [if_pos c2];exact zQT (by omega) (by omega)
 rw [if_neg c2];by_cases c3:mode=3
 ·rw [if_pos c3];exact zQT (by omega) (by omega)
 rw [if_neg c3];by_cases c4:mode=4
 ·rw [if_pos c4];have:=zGx h2 h3 h0 h1;exact zQT (by omega) (by omega)
 rw [if_neg c4];by_cases c5:mode=5
 ·rw [if_pos c5];exact zQT (by omega) (by omega)
 rw [if_neg c5];by_cases c6:mode=6
 ·rw [if_pos c6];exact zQT (by omega) (by omega)
 rw [if_neg c6];by_cases c7:mode=7
 ·rw [if_pos c7];split
  ·exact zQT (by omega) (by omega)
  split
  ·exact zQT (by omega) (by omega)
  ·rename_i hd hlt;have hp:0<a-s:=by
    rcases wZ7 0 (a-s) with h | h
    ·exact h
    ·have:a-s=0:=by omega
     rw [this] at hlt;omega
   have n1:a*(d*a)<=a*(b*(a-s)):=Int.mul_le_mul_of_nonneg_left (by omega) (by omega);have n2:0<=a*a*d:=Int.mul_nonneg (zQ6 a) h2;have y1:a*a*d=a*(d*a):=by grind
   have y2:a*b*(a-s)=a*(b*(a-s)):=by grind
   exact ⟨⟨n2,by simp,by simp,hp⟩,by simp only; omega,by simp; exact zQ6 _⟩
 rw [if_neg c7];by_cases c8:mode=8
 ·rw [if_pos c8];split
  ·exact zQT (by omega) (by omega)
  split
  ·exact zQT (by omega) (by omega)
  ·rename_i hd hlt;have hp:0<s:=by
    rcases wZ7 0 s with h | h
    ·exact h
    ·have:s=0:=by omega
     rw [this] at hlt;have:=Int.mul_nonneg (show 0<=b-d by omega) (show 0<=a by omega);omega
   have n1:a*((b-d)*a)<=a*(s*b):=Int.mul_le_mul_of_nonneg_left (by omega) (by omega);have n2:0<=(b-d)*a*a:=Int.mul_nonneg (Int.mul_nonneg (by omega) (by omega)) (by omega);have y1:(b-d)*a*a=a*((b-d)*a):=by grind
   have y2:a*b*s=a*(s*b):=by grind
   exact ⟨⟨by simp only; omega,by simp,by simp,hp⟩,by simp only; omega,by simp; exact zQ6 _⟩
 rw [if_neg c8];by_cases c9:mode=9
 ·rw [if_pos c9];have:=zGx h0 h1 h2 h3;exact zQT (by omega) (by omega)
 rw [if_neg c9];by_cases c10:mode=10
 ·rw [if_pos c10];exact zGH h0 h1 h2 h3
 rw [if_neg c10];by_cases c11:mode=11
 ·rw [if_pos c11];exact zQT (by omega) (by omega)
 rw [if_neg c11];exact zQT (by omega) (by omega)
end Go.Proofs.YtbnmadpcdlnleaaGreatDoor
