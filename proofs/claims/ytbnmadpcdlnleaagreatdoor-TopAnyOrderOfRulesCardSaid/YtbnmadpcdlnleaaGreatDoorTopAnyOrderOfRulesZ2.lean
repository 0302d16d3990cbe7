/-
  Part 2 of what TopAnyOrderOfRules rests on.
-/
import Derived.Test.YtbnmadpcdlnleaaGreatDoorTopAnyOrderOfRulesZ1
import Derived.ProofKit
namespace Go.Proofs.YtbnmadpcdlnleaaGreatDoor
open Go.IntKind (wrap)
open Go.RowKit
set_option linter.unusedVariables false
set_option linter.unusedSimpArgs false
set_option maxRecDepth 20000
def Cap.av:Cap->AV
 |.d v=>.one (.d v)
 |.ptr b off=>.one (.ptr b off)
def jQE(dst:Option Nat)(bs:List Nat)(nnew:Nat):List Nat:=
 let base:=match dst with
  |some d=>d
  |none=>maxL bs
 (List.range nnew).map λi=>base+1000*(i+1)
def zYS(l1:List Nat)(B1:List Bx):List Nat:=(nubN (B1.flatMap Bx.names)).filter λx=>!l1.contains x
def yXW(bs:List Nat)(Bs:List Bx)(b:Nat):Bx:=Bs.getD (zQY bs b) .gone
def jVd(q:Bool)(l:List Nat)(Bs:List Bx)(r:Option (Prop × AV × List (Nat × Bx))):Option (Prop × AV × List (Nat × Bx)):=
 match q with
 |false=>r
 |true=>match r with
  |some (vc,v,ws)=>match ws.all λp=>l.contains p.1 with
   |true=>some (vc/\ws.map (·.2)=ws.map (λp=>yXW l Bs p.1),v,[])
   |false=>none
  |none=>none
def jQs(P:Program)(Γ:Gam)(dst:Option Nat)(f:FuncId)(xs:List AV):Option Eff2:=
 match Γ.modes f,enters P f with
 |some (ms,pin,nn),true=>
  let nnew:=nn%1000
  let l0:=zJz ms xs
  let l1:=nubN (zXw ms xs)
  some ⟨l0++l1,λbs1=>zYS l1 (bs1.drop l0.length),λbs1 bs2=>
   let l2:=zYS l1 (bs1.drop l0.length)
   let l:=l2++zYS (l1++l2) (bs2.take l2.length)
   jVd (Nat.ble 1000 nn) (l0++(l1++l)) (bs1++bs2.take l.length) (jVE P Γ f ms pin nnew xs l0 (l1++l) (jQE dst (l1++l) nnew) (bs1.take l0.length) (bs1.drop l0.length++bs2.take l.length) (bs2.drop l.length)),
   λbs1 bs2=>
   let l2:=zYS l1 (bs1.drop l0.length)
   let l3:=zYS (l1++l2) bs2
   l3++jQE dst (l1++(l2++l3)) nnew⟩
 |_,_=>none
def jUY(Γ:Gam)(f:FuncId)(xs:List AV)(bs:List Bx):Bool:=
 match yQz Γ f with
 |some _=>false
 |none=>match yQI Γ f with
  |true=>true
  |false=>match AV.rvs (zXy (xs.flatMap AV.refs) bs) xs with
   |some rs=>match Γ f rs with
    |some r=>r.flat
    |none=>false
   |none=>false
def zUd:List Nat->List Bx->List Bx->List (Nat × Bx)
 |b::rs,B0::bs,B::ws=>match B0 with
  |.ice _=>zUd rs bs ws
  |_=>(b,B)::zUd rs bs ws
 |_,_,_=>[]
def Eff.upQ(q:List Bx->Bool)(e:Eff):Eff2:=⟨e.rds,λ_=>[],λbs _=>(e.f bs).map λr=>(r.1,r.2.1,match q bs with|true=>[]|false=>zUd e.wrs bs r.2.2),λ_ _=>[]⟩
def zXt:List Bx->List Bx->Prop
 |.ice xs::bs,B::ws=>B=.ice xs/\zXt bs ws
 |_::bs,_::ws=>zXt bs ws
 |[],[]=>True
 |_,_=>False
theorem zKf:∀bs:List Bx,zXt bs (bs.map Bx.freeze)
 |[]=>trivial
 |B::bs=>by
  have:=zKf bs;cases B<;>simp only[wQi,zXt,Bx.freeze,true_and]<;>exact this
theorem zJ3:∀bs:List Bx,zXt bs bs
 |[]=>trivial
 |B::bs=>by
  have:=zJ3 bs;cases B<;>simp only[zXt,true_and]<;>exact this
theorem zYn:∀(bs ws:List Bx)(B:Bx),zXt bs ws->zXt (bs++[.fresh]) (ws++[B])
 |[],[],B,_=>by simp[zXt]
 |.ice xs::bs,W::ws,B,h=>by
  simp only[List.cons_append,zXt]at h |-;exact⟨h.1,zYn bs ws B h.2⟩
 |.fresh::bs,W::ws,B,h=>by simp only[List.cons_append,zXt]at h |-;exact zYn bs ws B h
 |.gone::bs,W::ws,B,h=>by simp only[List.cons_append,zXt]at h |-;exact zYn bs ws B h
 |.cells _::bs,W::ws,B,h=>by simp only[List.cons_append,zXt]at h |-;exact zYn bs ws B h
 |.row _ _ _::bs,W::ws,B,h=>by simp only[List.cons_append,zXt]at h |-;exact zYn bs ws B h
 |[],_::_,_,h=>h.elim
 |B0::bs,[],B,h=>by cases B0<;>exact h.elim
theorem zH8(s0:AS):∀(rs:List Nat)(ws:List Bx)(s:AS),(∀b xs,s0.bx b=.ice xs->s.bx b=.ice xs)->zXt (rs.map s0.bx) ws->s.setBs ((zUd rs (rs.map s0.bx) ws).map (·.1)) ((zUd rs (rs.map s0.bx) ws).map (·.2))=s.setBs rs ws
 |[],_,s,_,_=>by simp[zUd,AS.setBs]
 |b::rs,[],s,_,h=>by
  simp only[wQi]at h;cases hB:s0.bx b<;>rw[hB]at h<;>exact h.elim
 |b::rs,W::ws,s,hs,h=>by
  simp only[wQi,zUd,AS.setBs]at h |-
  cases hB:s0.bx b with
  |ice xs=>
   rw[hB]at h;simp only[zXt]at h;obtain⟨rfl,h⟩:=h;have e:s.setB b (.ice xs)=s:=by
    refine AS.ext' rfl ?_;funext b';simp only[AS.setB];split
    .rename_i e;subst e;exact(hs b' xs hB).symm
    .rfl
   rw[e];exact zH8 s0 rs ws s hs h
  |_=>
   rw[hB]at h;simp only[zXt]at h;simp only[wQi,AS.setBs];refine zH8 s0 rs ws _ (λb' xs hb'=>?_) h;simp only[AS.setB];rw[if_neg (λe=>by subst e;rw[hB]at hb';cases hb')];exact hs b' xs hb'
abbrev wYZ:=@List.dropLast_concat_getLast
variable{P:Program}{Γ:Gam}{dst:Option Nat}{xs:List AV}{e0:Eff}{bs':List Bx}{vc:Prop}{v:AV}
theorem jUG{f:FuncId}(he:zUF P Γ dst f xs=some e0){bs:List Bx}(hf:e0.f bs=some (vc,v,bs')):zXt bs bs'/\e0.wrs=e0.rds:=by
 unfold zUF at he
 cases h1:yQz Γ f with
 |some p=>
  rw[h1]at he;simp only at he;split at he
  .simp only[jYo]at he;split at he
   .simp only[wQa]at he;subst he;simp only at hf |-;split at hf
    .rename_i hl;split at hf
     .split at hf
      .simp only[wQa,wQc]at hf;obtain⟨_,_,rfl⟩:=hf;refine⟨?_,trivial⟩;have:bs=bs.dropLast++[.fresh]:=by
        have hne:bs≠[]:=λe=>by rw[e]at hl;cases hl
        rw[List.getLast?_eq_some_getLast hne]at hl;injection hl with hl
        rw[<-hl,wYZ]
       have k:=λB=>zYn _ _ B (zKf bs.dropLast);rw[<-this]at k;exact k _
      .cases hf
     .cases hf
    .cases hf
   .cases he
  .cases he
 |none=>
  rw[h1]at he;simp only at he
  cases h2:yQI Γ f with
  |true=>
   rw[h2]at he;simp only[jQB]at he;split at he
   .simp only[wQa]at he;subst he;simp only at hf |-;split at hf
    .split at hf
     .simp only[wQa,wQc]at hf;obtain⟨_,_,rfl⟩:=hf;exact⟨zJ3 _,trivial⟩
     .cases hf
    .cases hf
   .cases he
  |false=>
   rw[h2]at he;simp only[jQA]at he;split at he
   .simp only[wQa]at he;subst he;simp only at hf |-;split at hf
    .split at hf
     .simp only[wQa,wQc]at hf;obtain⟨_,_,rfl⟩:=hf;refine⟨?_,trivial⟩;split
      .exact zJ3 _
      .exact zKf _
     .cases hf
    .cases hf
   .split at he
    .split at he
     .simp only[wQa]at he;subst he;simp only[wQa,wQc]at hf;obtain⟨_,_,rfl⟩:=hf;exact⟨zJ3 _,rfl⟩
     .cases he
    .cases he
theorem yQE{f:FuncId}(he:zUF P Γ dst f xs=some e0){bs:List Bx}(hq:jUY Γ f xs bs=true)(hf:e0.f bs=some (vc,v,bs')):bs'=bs/\e0.wrs=e0.rds:=by
 unfold jUY at hq;unfold zUF at he
 cases h1:yQz Γ f with
 |some p=>rw[h1]at hq;cases hq
 |none=>
  rw[h1]at hq he;simp only at hq he
  cases h2:yQI Γ f with
  |true=>
   rw[h2]at he;simp only[jQB]at he;split at he
   .simp only[wQa]at he;subst he;simp only at hf |-;split at hf
    .split at hf
     .simp only[wQa,wQc]at hf;exact⟨hf.2.2.symm,trivial⟩
     .cases hf
    .cases hf
   .cases he
  |false=>
   rw[h2]at he hq;simp only[jQA]at he;split at he
   .simp only[wQa]at he;subst he;simp only at hf hq |-;split at hf
    .rename_i rs hrs;rw[hrs]at hq;simp only at hq;split at hf
     .rename_i r hr;rw[hr]at hq;simp only at hq;simp only[wQa,wQc,if_pos hq]at hf;exact⟨hf.2.2.symm,trivial⟩
     .cases hf
    .cases hf
   .split at he
    .split at he
     .simp only[wQa]at he;subst he;simp only[wQa,wQc]at hf;exact⟨hf.2.2.symm,rfl⟩
     .cases he
    .cases he
variable{o:Oper}{s:AS}
theorem jJI{f:FuncId}(h:zZM P o s (prep P Γ o s.eval))(hp:prep P Γ o s.eval=zUF P Γ o.dst f xs):jXO P o s ((prep P Γ o s.eval).map (Eff.upQ (jUY Γ f xs))):=by
 intro e' he vc v ws hf;obtain⟨e0,he0,rfl⟩:=wQV.1 he;simp only[Eff.upQ]at hf;obtain⟨⟨vc0,v0,bs0⟩,hf1,hf'⟩:=wQV.1 hf;simp only[wQc]at hf';obtain⟨rfl,rfl,rfl⟩:=hf';have hs:=h e0 he0 vc0 v0 bs0 hf1
 cases hq:jUY Γ f xs (e0.rds.map s.bx) with
 |true=>
  obtain⟨e1,e2⟩:=yQE (by rw[<-hp,he0]) hq hf1;subst e1;intro w0 S n ι a w K Q hr hvc hK;refine hs w0 S n ι a w K Q hr hvc λι' u w' h1 h2=>hK ι' u w' ?_ ?_
  .rw[e2,zKo]at h1;exact h1
  .rw[e2,zKo]at h2;exact h2
 |false=>
  obtain⟨e1,e2⟩:=jUG (by rw[<-hp,he0]) hf1;rw[<-e2]at e1;have e3:=zH8 s e0.wrs bs0 s (λ_ _ h=>h) e1;intro w0 S n ι a w K Q hr hvc hK;refine hs w0 S n ι a w K Q hr hvc λι' u w' h1 h2=>hK ι' u w' ?_ ?_
  .simp only;rw[<-e2,e3];exact h1
  .simp only;rw[<-e2,e3];exact h2
def zW4(P:Program)(Γ:Gam)(o:Oper)(ρ:Operand->AV):Option Eff2:=
 match o.op with
 |.call c=>match c.callee with
  |.value (.func f)=>match Γ.modes f with
   |some _=>jQs P Γ o.dst f (c.args.toList.map ρ)
   |none=>(prep P Γ o ρ).map (Eff.upQ (jUY Γ f (c.args.toList.map ρ)))
  |.value (.tmp t)=>match ρ (.tmp t) with
   |.one (.d (.fn f))=>match Γ.modes f with
    |some _=>jQs P Γ o.dst f (c.args.toList.map ρ)
    |none=>(prep P Γ o ρ).map (Eff.upQ (jUY Γ f (c.args.toList.map ρ)))
   |.one (.clo f cs)=>jQs P Γ o.dst f (c.args.toList.map ρ++cs.map Cap.av)
   |_=>none
  |_=>(prep P Γ o ρ).map Eff.up
 |_=>(prep P Γ o ρ).map Eff.up
def aop(P:Program)(Γ:Gam)(n:Dom)(o:Oper)(s:AS):Option (Prop × AS):=
 if jKN n o then
  match zW4 P Γ o s.eval with
  |some e=>match e.f (e.rds.map s.bx) ((e.all s.bx).map s.bx) with
   |some (vc,v,ws)=>some (vc,(s.setL ws).put o.dst v)
   |none=>none
  |none=>none
 else none
variable{w0 w:World}{S:zQ3}{n:Dom}{a:Act}{s2 s':AS}{ι:zQm}{K:Act->World->Prop}{Q:Exit->Act->World->Prop}
section
variable{P:Program}{o:Oper}{s:AS}
theorem jJY:∀{l:List Nat}{b:Nat}(f:Nat->Bx),b∈l->(l.map f).getD (zQY l b) .gone=f b
 |x::l,b,f,h=>by
  simp only[zQY,wQi];split
  .rename_i e;subst e;rfl
  .rename_i e;have h:b∈l:=by
    rcases wQm.1 h with h|h
    .exact absurd h e
    .exact h
   have:=jJY f h;simpa using this
 |[],_,_,h=>by cases h
theorem jVh{q:Bool}{l:List Nat}{r:Option (Prop × AV × List (Nat × Bx))}{ws:List (Nat × Bx)}(h:∀vc v ws,r=some (vc,v,ws)->zWE P o s vc v (ws.map (·.1)) (ws.map (·.2)))(hs:jVd q l (l.map s.bx) r=some (vc,v,ws)):zWE P o s vc v (ws.map (·.1)) (ws.map (·.2)):=by
 unfold jVd at hs;split at hs
 .exact h _ _ _ hs
 .split at hs
  .rename_i vc0 v0 ws0;split at hs
   .rename_i hall;simp only[wQa,wQc]at hs;obtain⟨rfl,rfl,rfl⟩:=hs;simp only[List.all_eq_true,wXd,wQf]at hall;intro w0 S n ι a w K Q hr hvc hK;have e:ws0.map (·.2)=(ws0.map (·.1)).map s.bx:=by
     rw[hvc.2,wZk];exact List.map_congr_left λp hp=>by
      simp only[yXW,Function.comp_apply];exact jJY s.bx (hall p hp)
    have e2:s.setBs (ws0.map (·.1)) (ws0.map (·.2))=s:=by rw[e,zKo]
    refine h _ _ _ rfl w0 S n ι a w K Q hr hvc.1 λι' u w' h1 h2=>hK ι' u w' ?_ ?_
    .rw[e2]at h1;exact h1
    .rw[e2]at h2;exact h2
   .cases hs
  .cases hs
abbrev wQZ:=@List.map_append
abbrev wYn:=@List.take_left'
theorem zKP{f:FuncId}(hex:enters P f=true->∀(w0:World) (S:zQ3) (n:Dom) (ι:zQm) (a:Act) (w:World),RepS w0 S n s ι a w->∃vs:Array Value,(execOp a.eval o).run P w=.ok (.enter f vs) w /\
   ∀ι2 s2,s2.tm=s.tm->RepS w0 S n s2 ι2 a w->RepAVs w (Seen S w0.heap.size s2.bx ι2) ι2 s2.bx xs vs.toList):jXO P o s (jQs P Γ o.dst f xs):=by
 unfold jQs;split
 .rename_i ms pin nnew hm hen;intro e' he vc v ws hf;simp only[wQa]at he;subst he;simp only at hf;have e1:((zJz ms xs++nubN (zXw ms xs)).map s.bx).take (zJz ms xs).length=(zJz ms xs).map s.bx:=by
   rw[wQZ,wYn (by simp)]
  have e2:((zJz ms xs++nubN (zXw ms xs)).map s.bx).drop (zJz ms xs).length=(nubN (zXw ms xs)).map s.bx:=by
   rw[wQZ,List.drop_left' (by simp)]
  simp only[Eff2.all]at hf;rw[e1,e2]at hf;generalize zYS (nubN (zXw ms xs)) ((nubN (zXw ms xs)).map s.bx)=l2 at hf;have e0:∀m:List Nat,((l2++m).map s.bx).take l2.length=l2.map s.bx:=λm=>by rw[wQZ,wYn (by simp)]
  rw[e0]at hf;generalize zYS (nubN (zXw ms xs)++l2) (l2.map s.bx)=l3 at hf;generalize jQE o.dst (nubN (zXw ms xs)++(l2++l3)) (_%1000)=news at hf;rw[show l2++(l3++news)=(l2++l3)++news from(List.append_assoc ..).symm]at hf;clear e0;generalize l2++l3=l2 at hf;have e3:((l2++news).map s.bx).take l2.length=l2.map s.bx:=by rw[wQZ,wYn (by simp)]
  have e4:((l2++news).map s.bx).drop l2.length=news.map s.bx:=by rw[wQZ,List.drop_left' (by simp)]
  rw[e3,e4,<-wQZ,<-wQZ,List.append_assoc]at hf;refine jVh (λvc v ws hf=>?_) hf;exact jUm (hex hen) (λb hb=>hb) (λb hb=>by rw[List.mem_append];exact .inl (jWJ.2 hb)) hf
 .exact .none
theorem jZn{ι2:zQm}(ht:s2.tm=s.tm)(hr:RepS w0 S n s2 ι2 a w)(args:List Operand):RepAVs w (Seen S w0.heap.size s2.bx ι2) ι2 s2.bx (args.map s.eval) (args.map a.eval):=by
 have heval:s2.eval=s.eval:=by funext x;cases x<;>simp[AS.eval,ht]
 induction args with
 |nil=>simp only[wQs,RepAVs]
 |cons x xs ih=>
  simp only[wQi,RepAVs];exact⟨by rw[<-heval];exact hr.eval x,ih⟩
theorem jKU{w:World}{V:Nat->Prop}{ι:zQm}{bx:Nat->Bx}:∀{cs:List Cap}{vs:List Value},zX0 ι bx w V cs vs->RepAVs w V ι bx (cs.map Cap.av) vs
 |[],[],_=>by simp only[wQs,RepAVs]
 |c::cs,v::vs,h=>by
  simp only[wQi,RepAVs];refine⟨?_,jKU h.2⟩;cases c<;>simp only[Cap.av,zQg,zQs]<;>exact h.1
 |[],_::_,h=>h.elim
 |_::_,[],h=>h.elim
theorem jXi{w:World}{V:Nat->Prop}{ι:zQm}{bx:Nat->Bx}:∀{xs:List AV}{us:List Value}{ys:List AV}{vs:List Value},RepAVs w V ι bx xs us->RepAVs w V ι bx ys vs->RepAVs w V ι bx (xs++ys) (us++vs)
 |[],[],_,_,_,h=>h
 |_::_,_::_,_,_,h,h'=>by
  simp only[RepAVs,List.cons_append]at h |-;exact⟨h.1,jXi h.2 h'⟩
 |[],_::_,_,_,h,_=>by simp only[RepAVs]at h
 |_::_,[],_,_,h,_=>by simp only[RepAVs]at h
theorem jVr(o:Oper)(s:AS):jXO P o s (zW4 P Γ o s.eval):=by
 unfold zW4;split
 .rename_i c h;obtain⟨callee,args,ts⟩:=c;simp only;split
  .rename_i f;split
   .exact zKP λhen w0 S n ι a w hr=>⟨args.map a.eval,jZ3 h hen w0 S n ι a w hr,λι2 s2 ht hr2=>by simpa using jZn ht hr2 args.toList⟩
   .exact jJI (zWl o s) (by unfold prep;rw[h])
  .rename_i t;split
   .rename_i f hx;split
    .exact zKP λhen w0 S n ι a w hr=>⟨args.map a.eval,jQd h hx hen w0 S n ι a w hr,λι2 s2 ht hr2=>by simpa using jZn ht hr2 args.toList⟩
    .exact jJI (zWl o s) (by unfold prep;rw[h];simp only[hx])
   .rename_i f cs hx;refine zKP λhen w0 S n ι a w hr=>?_;have hv:=hr.eval (.tmp t);rw[hx]at hv;simp only[zQg,zQs]at hv;obtain⟨lb,hv,hc⟩:=hv;refine⟨args.map a.eval++lb,?_,λι2 s2 ht hr2=>?_⟩
    .simp[execOp,h,resolve,hv,Deferred.ofValue,invoke,zUu hen]
    .have hv2:=hr2.eval (.tmp t);have hx2:s2.eval (.tmp t)=.one (.clo f cs):=by rw[<-hx];simp[AS.eval,ht]
     rw[hx2,hv]at hv2;simp only[zQg,zQs]at hv2;obtain⟨lb2,e,hc2⟩:=hv2;injection e with _ _ e
     subst e;have:=jXi (jZn ht hr2 args.toList) (jKU hc2);simpa using this
   .exact .none
  .exact(zWl o s).up
 .exact(zWl o s).up
theorem jH5{o:Oper}{s:AS}(h:aop P Γ n o s=some (vc,s'))(hr:RepS w0 S n s ι a w)(hvc:vc)(hK:∀ι' a' w',RepS w0 S n s' ι' a' w'->K a' w'):o.wp P a w K Q:=by
 unfold aop at h;split at h
 .rename_i hd;split at h
  .rename_i e he;split at h
   .rename_i vc' v ws hf;simp only[wQa,wQc]at h;obtain⟨rfl,rfl⟩:=h;refine jVr (Γ:=Γ) o s e he vc' v ws hf w0 S n ι a w K Q hr hvc λι' u w' h1 h2=>hK ι' _ w' (h1.put (λk hk=>?_) h2);unfold jKN at hd;rw[hk]at hd;simpa using hd
   .cases h
  .cases h
 .cases h
theorem jWf{o:Oper}{s:AS}(h:aop P Γ n o s=some (vc,s')):∀c,o.op≠.defer c:=by
 intro c hc;unfold aop zW4 prep at h;rw[hc]at h;simp at h
end
variable{ρ ρ':Operand->AV}
theorem jUC(h:∀x∈o.op.operands,ρ x=ρ' x):prep P Γ o ρ=prep P Γ o ρ':=by
 obtain⟨dst,op,type,pos,after,guard⟩:=o;have pairs:∀ps:Array (Nat × Operand),(∀x∈(ps.toList.map (·.2)),ρ x=ρ' x)->(ps.toList.map λp=>(p.1,ρ p.2))=ps.toList.map λp=>(p.1,ρ' p.2):=λps hp=>
  List.map_congr_left λp hm=>by
   simp only[hp p.2 (wQw.2 ⟨p,hm,rfl⟩)]
 have bnd:∀(o:Option Operand) d,(∀x,o=some x->ρ x=ρ' x)->zYU ρ o d=zYU ρ' o d:=λo d ho=>by
  cases o with
  |none=>rfl
  |some x=>simp only[zYU,ho x rfl]
 cases op<;>simp only[Op.operands]at h<;>simp only[prep]
 case move x=>rw[h x (by simp)]
 case assign x=>rw[h x (by simp)]
 case pick c a b=>simp only[jJ3,h c (by simp),h a (by simp),h b (by simp)]
 case box t x=>simp only[yQF,h x (by simp)]
 case build t ps=>simp only[jYp,pairs ps (λx hx=>h x (by simpa using hx))]
 case buildSlice t n ps=>simp only[zJx,zJ0,pairs ps (λx hx=>h x (by simpa using hx))]
 case load t x=>simp only[jWE,h x (by simp)]
 case store t x y=>simp only[jYi,h x (by simp),h y (by simp)]
 case nilCheck x=>simp only[zWr,h x (by simp)]
 case binOp op t x y t'=>simp only[yQG,h x (by simp),h y (by simp)]
 case unOp op t x=>simp only[opUn,h x (by simp)]
 case convert s d x=>simp only[jWF,jYn,jYm,h x (by simp)]
 case makeSlice t l c=>simp only[zKW,h l (by simp),h c (by simp)]
 case slice t x lo hi mx=>
  have e0:zWq P ρ t x lo hi mx=zWq P ρ' t x lo hi mx:=by
   simp only[zWq,h x (by simp),bnd lo _ (λy e=>h y (by subst e;simp)),bnd hi _ (λy e=>h y (by subst e;simp))]
  have e1:∀b n,zWn P ρ t b n lo hi mx=zWn P ρ' t b n lo hi mx:=λb n=>by
   simp only[zWn,bnd hi _ (λy e=>h y (by subst e;simp))]
  have e2:∀b n,zWo P ρ t b n lo hi mx=zWo P ρ' t b n lo hi mx:=λb n=>by
   simp only[zWo,bnd lo _ (λy e=>h y (by subst e;simp)),bnd hi _ (λy e=>h y (by subst e;simp))]
  have e3:zWp P ρ t x lo hi mx=zWp P ρ' t x lo hi mx:=by
   simp only[zWp,h x (by simp),bnd hi _ (λy e=>h y (by subst e;simp))]
  rw[e3];split
  .rfl
  unfold jYj;rw[h x (by simp),e0];split
  .cases lo with
   |none=>exact e1 _ _
   |some l=>exact e2 _ _
  .rfl
 case fieldAddr t x f=>simp only[zKY,h x (by simp)]
 case field t x f=>simp only[jYl,h x (by simp)]
 case indexAddr t x y=>simp only[zKX,h x (by simp),h y (by simp)]
 case index t x y=>simp only[jYk,h x (by simp),h y (by simp)]
 case extract x i=>simp only[zUE,h x (by simp)]
 case makeFunc fn fs cs=>
  have h1:fs.toList.map ρ=fs.toList.map ρ':=List.map_congr_left λx hx=>h x (by simp;left;simpa using hx);have h2:cs.toList.map ρ=cs.toList.map ρ':=List.map_congr_left λx hx=>h x (by simp;right;simpa using hx);simp only[h1,h2]
 case call c=>
  obtain⟨callee,args,ts⟩:=c;have hargs:∀x∈args.toList,ρ x=ρ' x:=λx hx=>h x (by simp[Call.operands];right;simpa using hx);have hm:args.toList.map ρ=args.toList.map ρ':=List.map_congr_left hargs
  cases callee with
  |value f=>
   cases f with
   |tmp t=>simp only[hm,h (.tmp t) (by simp[Call.operands])]
   |const v=>rfl
   |global g=>rfl
   |func f=>simp only[hm]
  |invoke r m=>rfl
  |builtin b=>
   simp only;generalize args.toList=l at hargs
   match b,l with
   |.len,[x]=>simp only[hargs x (by simp)]
   |.max,[x,y]=>simp only[hargs x (by simp),hargs y (by simp)]
   |.min,[x,y]=>simp only[hargs x (by simp),hargs y (by simp)]
   |.append,[x,y]=>simp only[hargs x (by simp),hargs y (by simp)]
   |b,[]=>cases b<;>rfl
   |b,[x]=>cases b<;>first|rfl|simp only[hargs x (by simp)]
   |b,[x,y]=>cases b<;>first|rfl|simp only[hargs x (by simp),hargs y (by simp)]
   |b,[x,y,z]=>cases b<;>first|rfl|simp only[hargs x (by simp),hargs y (by simp),hargs z (by simp)]
   |b,_::_::_::_::_=>cases b<;>rfl
theorem jVF(h:∀x∈o.op.operands,ρ x=ρ' x):zW4 P Γ o ρ=zW4 P Γ o ρ':=by
 have h1:=jUC (P:=P) (Γ:=Γ) h;unfold zW4;rw[h1]
 cases hop:o.op with
 |call c=>
  obtain⟨callee,args,ts⟩:=c;rw[hop]at h;simp only[Op.operands]at h;have hargs:∀x∈args.toList,ρ x=ρ' x:=λx hx=>h x (by simp[Call.operands];right;simpa using hx);have hm:args.toList.map ρ=args.toList.map ρ':=List.map_congr_left hargs
  cases callee with
  |value x=>
   cases x with
   |func f=>simp only[hm]
   |tmp t=>simp only[hm,h (.tmp t) (by simp[Call.operands])]
   |const v=>rfl
   |global g=>rfl
  |invoke r m=>rfl
  |builtin b=>rfl
 |_=>rfl
def Wide(F:Fence):Prop:=F=Fence.wide\/∃l,F=Fence.wide.inRound l
theorem Wide.fn{F:Fence}(h:Wide F)(f:FuncId):F.fn f:=by
 rcases h with rfl|⟨l,rfl⟩<;>trivial
theorem Wide.depth{F:Fence}(h:Wide F):F.depth=none:=by
 rcases h with rfl|⟨l,rfl⟩<;>rfl
theorem Wide.room{F:Fence}(h:Wide F)(n:Nat):F.room n:=λd hd=>by rw[h.depth]at hd;cases hd
variable{n:Nat}{F:Fence}{args:Array Value}
theorem Wide.calls(h:Wide F){f:FuncId}{R:Ending->World->Prop}(hc:Calls P f args w R):CallsIn F n P f args w R:=by
 have h1:CallsIn Fence.wide n P f args w R:=callsIn_wide.2 hc
 rcases h with rfl|⟨l,rfl⟩
 .exact h1
 .exact h1
theorem Wide.rows(h:Wide F){row:String}{R:Value->World->Prop}(hc:Rows P row args w R):RowsIn F n P row args w R:=by
 have h1:RowsIn Fence.wide n P row args w R:=λc cs _=>by
  obtain⟨v,w',r,st⟩:=hc c cs;exact⟨v,w',r,stepsIn_wide.2 st⟩
 rcases h with rfl|⟨l,rfl⟩
 .exact h1
 .exact h1
variable{m:Nat}
theorem Oper.wpIn_of_wp(hF:Wide F)(hd:∀c,o.op≠.defer c)(h:o.wp P a w K Q):o.wpIn F m P a w K Q:=by
 refine⟨λf _=>hF.fn f,?_⟩;rw[Oper.semAt_eq _ _ _ hd];unfold Oper.wp at h;revert h;generalize (execOp a.eval o).run P w=r;intro h
 cases r with
 |ok nx w'=>
  cases nx with
  |value v=>exact h
  |skip=>exact h
  |defer d=>exact h
  |enter f args=>exact⟨λhx=>by(rw[hF.depth]at hx;cases hx),hF.calls h⟩
  |row row args=>exact⟨λhx=>by(rw[hF.depth]at hx;cases hx),hF.rows h⟩
  |_=>exact h.elim
 |halt s w'=>
  cases s with
  |panic v=>exact h
  |_=>exact h.elim
section
variable(P:Program)(Γ:Gam)(n:Dom)(ops:Array Oper)
def gv(s:AS)(o:Oper):Option Bool:=
 match o.guard with
 |none=>some true
 |some (j,want)=>match (ops[j]?).bind (·.dst) with
  |none=>none
  |some t=>match s.tm t with
   |.tup []=>some false
   |x=>x.bool?.map (·==want)
def zUg(i:Nat)(s:AS):Option (Prop × AS):=
 match ops[i]? with
 |none=>none
 |some o=>match gv ops s o with
  |none=>none
  |some true=>aop P Γ n o s
  |some false=>if jKN n o then some (True,s.put o.dst (.tup [])) else none
def touch(i:Nat)(s:AS):List Nat × List Nat:=
 match ops[i]? with
 |none=>([],[])
 |some o=>match gv ops s o with
  |some true=>match zW4 P Γ o s.eval with
   |some e=>e.touch s.bx
   |none=>([],[])
  |_=>([],[])
def Runs(τ:Nat->List Nat × List Nat):List Nat->AS->AS->Prop
 |[],s,s'=>s=s'
 |i::R,s,s'=>∃vc s1,zUg P Γ n ops i s=some (vc,s1)/\vc/\touch P Γ ops i s=τ i/\Runs τ R s1 s'
def yZD(x y:List Nat × List Nat):Bool:=
 (x.2.all λb=>!y.1.contains b && !y.2.contains b)&&(y.2.all λb=>!x.1.contains b)
def jHp(τ:Nat->List Nat × List Nat)(i j:Nat):Bool:=
 match ops[i]?,ops[j]? with
 |some x,some y=>x.apart ops y&&yZD (τ i) (τ j)
 |_,_=>false
end
variable{i j:Nat}{s1:AS}{τ:Nat->List Nat × List Nat}
section
variable{P:Program}{Γ:Gam}{n:Dom}{ops:Array Oper}
theorem jQr(s:AS)(d:Option Nat)(v:AV)(t:Nat)(h:d≠some t):(s.put d v).tm t=s.tm t:=by
 cases d with
 |none=>rfl
 |some d=>simp only[AS.put];rw[if_neg (λe=>h (by rw[e]))]
theorem zG9(s:AS)(d:Option Nat)(v:AV):(s.put d v).bx=s.bx:=by cases d<;>rfl
theorem zZ1:∀(bs:List Nat)(Bs:List Bx)(s:AS)(b:Nat),b ∉ bs->(s.setBs bs Bs).bx b=s.bx b
 |[],_,_,_,_=>by simp[AS.setBs]
 |_::_,[],_,_,_=>by simp[AS.setBs]
 |x::bs,B::Bs,s,b,h=>by
  rw[AS.setBs,zZ1 bs Bs _ b (λe=>h (by simp[e]))];simp only[AS.setB];rw[if_neg (λe=>h (by simp[e]))]
theorem zYY:∀(bs:List Nat)(Bs:List Bx)(s s':AS)(b:Nat),(b ∉ bs->s.bx b=s'.bx b)->(Bs.length<bs.length->s.bx b=s'.bx b)->(s.setBs bs Bs).bx b=(s'.setBs bs Bs).bx b
 |[],_,_,_,_,h,_=>by simpa [AS.setBs]using h (by simp)
 |_::_,[],_,_,_,_,h=>by simpa [AS.setBs]using h (by simp)
 |x::bs,B::Bs,s,s',b,h,h'=>by
  rw[AS.setBs,AS.setBs];by_cases e:b=x
  .refine zYY bs Bs _ _ b (λ_=>by simp[AS.setB,e]) (λ_=>by simp[AS.setB,e])
  .refine zYY bs Bs _ _ b (λhb=>?_) (λhl=>?_)
   .simp only[AS.setB,if_neg e];exact h (by simp[e,hb])
   .simp only[AS.setB,if_neg e];exact h' (by simpa using hl)
theorem jU2(h:zUg P Γ n ops i s=some (vc,s1)):∃o v wrs bs,ops[i]?=some o/\wrs=(touch P Γ ops i s).2/\s1=(s.setBs wrs bs).put o.dst v:=by
 unfold zUg at h;split at h
 .cases h
 .rename_i o ho;split at h
  .cases h
  .rename_i hg;unfold aop at h;split at h
   .split at h
    .rename_i e he;split at h
     .rename_i vc' v ws hf;simp only[wQa,wQc]at h;obtain⟨rfl,rfl⟩:=h;exact⟨o,v,ws.map (·.1),ws.map (·.2),ho,by simp[touch,ho,hg,he,Eff2.touch,hf],rfl⟩
     .cases h
    .cases h
   .cases h
  .rename_i hg;split at h
   .simp only[wQa,wQc]at h;obtain⟨rfl,rfl⟩:=h;exact⟨o,.tup [],[],[],ho,by simp[touch,ho,hg],by simp[AS.setBs]⟩
   .cases h
theorem jZm(ho:ops[i]?=some o)(htm:∀t∈o.looksAt ops,s.tm t=s'.tm t):
  (∀b∈(touch P Γ ops i s).1,s.bx b=s'.bx b)->touch P Γ ops i s=touch P Γ ops i s'/\(∀vc s1,zUg P Γ n ops i s=some (vc,s1) ->
   ∃v bs,s1=(s.setBs (touch P Γ ops i s).2 bs).put o.dst v/\zUg P Γ n ops i s'=some (vc,(s'.setBs (touch P Γ ops i s).2 bs).put o.dst v)):=by
 have hgv:gv ops s o=gv ops s' o:=by
  unfold gv
  cases hg:o.guard with
  |none=>rfl
  |some jw=>
   obtain⟨j,want⟩:=jw;simp only
   cases ht:(ops[j]?).bind (·.dst) with
   |none=>rfl
   |some t=>
    have:s.tm t=s'.tm t:=htm t (by simp[Oper.looksAt,hg,ht]);simp only[this]
 have hev:∀x∈o.op.operands,s.eval x=s'.eval x:=λx hx=>by
  cases x with
  |tmp t=>exact htm t (by simp only[Oper.looksAt,List.mem_append,List.mem_filterMap];exact .inl ⟨_,by simpa using hx,rfl⟩)
  |const v=>rfl
  |global g=>rfl
  |func f=>rfl
 have hprep:zW4 P Γ o s.eval=zW4 P Γ o s'.eval:=jVF hev;intro hbx;have htouch:touch P Γ ops i s=touch P Γ ops i s':=by
  simp only[touch,ho,<-hgv,<-hprep]at hbx |-
  cases hg:gv ops s o with
  |none=>rfl
  |some g=>
   cases g with
   |false=>rfl
   |true=>
    rw[hg]at hbx
    cases he:zW4 P Γ o s.eval with
    |none=>rfl
    |some e=>
     rw[he]at hbx;simp only at hbx |-;exact e.touch_congr hbx
 refine⟨htouch,λvc s1 h=>?_⟩;unfold zUg at h |-;simp only[ho]at h |-;rw[<-hgv]
 cases hg:gv ops s o with
 |none=>rw[hg]at h;cases h
 |some g=>
  rw[hg]at h
  cases g with
  |false=>
   simp only at h |-;split at h
   .rename_i hd;simp only[wQa,wQc]at h;obtain⟨rfl,rfl⟩:=h;have ht:(touch P Γ ops i s).2=[]:=by simp[touch,ho,hg]
    exact⟨.tup [],[],by rw[ht];simp[AS.setBs],by rw[ht,if_pos hd];simp[AS.setBs]⟩
   .cases h
  |true=>
   simp only at h |-;unfold aop at h |-;split at h
   .rename_i hd;rw[if_pos hd,<-hprep]
    cases he:zW4 P Γ o s.eval with
    |none=>rw[he]at h;cases h
    |some e=>
     rw[he]at h;simp only at h |-;have ht:touch P Γ ops i s=e.touch s.bx:=by simp[touch,ho,hg,he]
     rw[ht]at hbx;obtain⟨m1,_,m2⟩:=e.agree hbx;rw[<-m1,<-m2]
     cases hf:e.f (e.rds.map s.bx) ((e.all s.bx).map s.bx) with
     |none=>rw[hf]at h;cases h
     |some r=>
      obtain⟨vc',v,ws⟩:=r;rw[hf]at h;simp only[wQa,wQc]at h |-;obtain⟨rfl,rfl⟩:=h;have ht2:(touch P Γ ops i s).2=ws.map (·.1):=by rw[ht];simp[Eff2.touch,hf]
      exact⟨v,ws.map (·.2),by rw[ht2];rfl,rfl,by rw[ht2];rfl⟩
   .cases h
theorem swap(hi:jHp ops τ j i=true){v1 v2:Prop}(h1:zUg P Γ n ops j s=some (v1,s1))(t1:touch P Γ ops j s=τ j)(h2:zUg P Γ n ops i s1=some (v2,s2))(t2:touch P Γ ops i s1=τ i) :
  ∃s1',zUg P Γ n ops i s=some (v2,s1')/\touch P Γ ops i s=τ i/\zUg P Γ n ops j s1'=some (v1,s2)/\touch P Γ ops j s1'=τ j:=by
 unfold jHp at hi;split at hi
 .rename_i oj oi hoj hoi;simp only[wQd]at hi;obtain⟨hap,hb⟩:=hi;obtain⟨a1,a2,a3⟩:=Oper.apart_spec hap;simp only[yZD,wQd,List.all_eq_true,wQn]at hb;obtain⟨b1,b2⟩:=hb;obtain⟨o',v,wrs,bs,ho',hw,hs1⟩:=jU2 h1;rw[hoj]at ho';injection ho' with ho'
  subst ho';rw[t1]at hw;have htm1:∀t∈oi.looksAt ops,s1.tm t=s.tm t:=λt ht=>by
   rw[hs1,jQr _ _ _ _ (λe=>a1 t e ht),zZG]
  have hbx1:∀b,b ∉ (τ j).2->s1.bx b=s.bx b:=λb hb=>by
   rw[hs1,zG9,zZ1 _ _ _ _ (by rw[hw];exact hb)]
  obtain⟨c1,c2⟩:=jZm (P:=P) (Γ:=Γ) (n:=n) hoi htm1 (by
   rw[t2]
   exact λb hb=>hbx1 b (λhm=>by
    have:=b1 b hm;simp only[wXd,wQX]at this
    exact this.1 hb))
  rw[t2]at c1 c2;obtain⟨v',bs',e1,e2⟩:=c2 _ _ h2;have htm2:∀t∈oj.looksAt ops,s.tm t=((s.setBs (τ i).2 bs').put oi.dst v').tm t:=λt ht=>by
   rw[jQr _ _ _ _ (λe=>a3 t e ht),zZG]
  obtain⟨d1,d2⟩:=jZm (P:=P) (Γ:=Γ) (n:=n) hoj htm2 (by
   rw[t1];intro b hb;rw[zG9,zZ1];intro hm;have:=b2 b hm;simp only[wXd,wQX]at this
   exact this hb)
  rw[t1]at d1 d2;obtain⟨v'',bs'',f1,f2⟩:=d2 _ _ h1;refine⟨_,e2,c1.symm,?_,d1.symm⟩;rw[f2];congr 1;congr 1;rw[e1,f1];apply AS.ext'
  .funext t;have q:∀(s:AS)(d:Option Nat)(x:AV)(bs:List Nat)(Bs:List Bx),((s.setBs bs Bs).put d x).tm=(s.put d x).tm:=λs d x bs Bs=>by
    cases d with
    |none=>simp[AS.put,zZG]
    |some d=>simp[AS.put,zZG]
   by_cases g1:oj.dst=some t
   .have g2:oi.dst≠some t:=a2 t g1;rw[jQr _ oi.dst _ _ g2,zZG,g1];simp[AS.put]
   .rw[jQr _ oj.dst _ _ g1,zZG];by_cases g2:oi.dst=some t
    .rw[g2];simp[AS.put]
    .rw[jQr _ oi.dst _ _ g2,jQr _ oi.dst _ _ g2,zZG,zZG,jQr _ oj.dst _ _ g1,zZG]
  .funext b;rw[zG9,zG9];by_cases g1:b∈(τ j).2
   .have hni:b ∉ (τ i).2:=λhm=>by
     have:=b1 b g1;simp only[wXd,wQX]at this;exact this.2 hm
    rw[zZ1 (τ i).2 bs' _ b hni,zG9];refine zYY _ _ _ _ _ (λh=>absurd g1 h) (λ_=>?_);rw[zG9,zZ1 _ _ _ _ hni]
   .rw[zZ1 (τ j).2 bs'' _ b g1,zG9];refine zYY _ _ _ _ _ (λ_=>?_) (λ_=>?_)<;>rw[zG9,zZ1 _ _ _ _ g1]
 .cases hi
theorem yYf{τ:Nat->List Nat × List Nat}{i:Nat}{B:List Nat}{s':AS}:∀{A:List Nat}{s:AS},(∀j∈A,jHp ops τ j i=true)->Runs P Γ n ops τ (A++i::B) s s' ->
  ∃vc s1,zUg P Γ n ops i s=some (vc,s1)/\vc/\touch P Γ ops i s=τ i/\Runs P Γ n ops τ (A++B) s1 s'
 |[],s,_,h=>h
 |j::A,s,hA,h=>by
  obtain⟨vj,sj,h1,h2,h3,h4⟩:=h;obtain⟨vi,si,g1,g2,g3,g4⟩:=yYf (λk hk=>hA k (by simp[hk])) h4;obtain⟨s1',e1,e2,e3,e4⟩:=swap (hA j (by simp)) h1 h3 g1 g3;exact⟨vi,s1',e1,g2,e2,vj,si,e3,h2,e4,g4⟩
end
section
variable(ops:Array Oper)
def jVP(k:Nat)(t:List Nat):List Edge->Nat
 |[]=>0
 |e::es=>match Region.binds .any e&&decide (e.on<k) with
  |true=>(2 ^ e.on ||| t.getD e.on 0) ||| jVP k t es
  |false=>jVP k t es
def zVT:Nat->List Nat
 |0=>[]
 |k+1=>zVT k++[match ops[k]? with
  |some o=>jVP k (zVT k) o.after.toList
  |none=>0]
def zHQ(j i:Nat):Bool:=((zVT ops ops.size).getD i 0).testBit j
def yQa(listed:Array Bool):Prop:=∀i o,ops[i]?=some o->listed.getD i true=true->i<listed.size->∀e∈o.after.toList,Region.binds .any e=true->listed.getD e.on false=true
theorem zK1:∀k,(zVT ops k).length=k
 |0=>rfl
 |k+1=>by simp[zVT,zK1 k]
theorem zWs:∀{n k:Nat},k<n->(zVT ops n).getD k 0=match ops[k]? with
  |some o=>jVP k (zVT ops k) o.after.toList
  |none=>0
 |n+1,k,h=>by
  simp only[zVT,List.getD_eq_getElem?_getD];by_cases e:k<n
  .rw[wQO (by rw[zK1];exact e)];have:=zWs (n:=n) e;rwa [List.getD_eq_getElem?_getD]at this
  .have:k=n:=by omega
   subst this;rw[wQq (by rw[zK1];omega),zK1];simp
theorem jQG{k j:Nat}{t:List Nat}:∀{es:List Edge},(jVP k t es).testBit j=true->∃e∈es,Region.binds .any e=true/\e.on<k/\(e.on=j\/(t.getD e.on 0).testBit j=true)
 |[],h=>by simp[jVP]at h
 |e::es,h=>by
  simp only[jVP]at h
  cases hb:Region.binds .any e&&decide (e.on<k) with
  |false=>
   rw[hb]at h;obtain⟨e',h1,h2⟩:=jQG h;exact⟨e',by simp[h1],h2⟩
  |true=>
   rw[hb]at h;simp only[Nat.testBit_or,wQ0,Nat.testBit_two_pow]at h;simp only[wQd,wQf]at hb
   rcases h with(h|h)|h
   .exact⟨e,by simp,hb.1,hb.2,.inl (by simpa using h)⟩
   .exact⟨e,by simp,hb.1,hb.2,.inr h⟩
   .obtain⟨e',h1,h2⟩:=jQG h;exact⟨e',by simp[h1],h2⟩
theorem jY1{listed:Array Bool}(hc:yQa ops listed)(hsz:listed.size=ops.size):∀(i j:Nat)(o:Oper),ops[i]?=some o->(∀e∈o.after.toList,Region.binds .any e=true->listed.getD e.on false=true)->zHQ ops j i=true->listed.getD j false=true:=by
 intro i
 induction i using Nat.strongRecOn with
 |ind i ih=>
  intro j o ho haft hb;have hi:i<ops.size:=(wZg.1 ho).1;unfold zHQ at hb;rw[zWs ops hi,ho]at hb;obtain⟨e,h1,h2,h3,h4⟩:=jQG hb;have hl:=haft e h1 h2
  rcases h4 with rfl|h4
  .exact hl
  .have he:e.on<ops.size:=by omega
   refine ih e.on h3 j ops[e.on] (wZ9 he) ?_ ?_
   .refine hc e.on _ (wZ9 he) ?_ (by omega);have:e.on<listed.size:=by omega
    simp[Array.getD,this]at hl |-;exact hl
   .unfold zHQ;rw[zWs ops he];rw[zWs ops h3]at h4;exact h4
def yQq(τ:Nat->List Nat × List Nat):Bool:=
 (List.range ops.size).all λi=>((ops[i]?).any λo=>o.after.all λe=>!Region.binds .any e || decide (e.on<i))&&(List.range i).all λj=>zHQ ops j i || jHp ops τ j i
end
section
variable{P:Program}{Γ:Gam}{n:Dom}{ops:Array Oper}
abbrev wYo:=@Option.bind_some
abbrev wQA:=@Option.getD_some
theorem jKs(h:RepS w0 S n s ι a w){g:Bool}(hg:gv ops s o=some g):Region.wanted o (yielded ops a.tmps)=g:=by
 unfold gv at hg;unfold Region.wanted
 cases ho:o.guard with
 |none=>rw[ho]at hg;simp only[wQa]at hg;exact hg
 |some jw=>
  obtain⟨j,want⟩:=jw;rw[ho]at hg;simp only at hg |-
  cases ht:(ops[j]?).bind (·.dst) with
  |none=>rw[ht]at hg;cases hg
  |some t=>
   rw[ht]at hg;simp only at hg;have hr:=h.tm t;unfold yielded;rw[ht];simp only[wYo];split at hg
   .rename_i hs;rw[hs]at hr;simp only[zQg]at hr;obtain⟨cur,e,hc⟩:=hr;have hcur:cur=#[]:=by
     cases hcl:cur.toList with
     |nil=>exact Array.toList_eq_nil_iff.1 hcl
     |cons _ _=>rw[hcl]at hc;simp only[RepAVs]at hc
    subst hcur;simp only[wQa]at hg;subst hg;rw[wZR]at e
    cases hx:a.tmps[t]? with
    |none=>rfl
    |some x=>
     rw[hx]at e;simp only[wQA]at e;subst e;rfl
   .cases hb:(s.tm t).bool? with
    |none=>rw[hb]at hg;cases hg
    |some b=>
     rw[hb]at hg;simp only[wQv,wQa]at hg;subst hg;have e:=zKQ hr hb;rw[wZR]at e
     cases hx:a.tmps[t]? with
     |none=>rw[hx]at e;simp[undef]at e
     |some x=>
      rw[hx]at e;simp only[wQA]at e;subst e;simp only;cases b<;>cases want<;>rfl
theorem jZl(hF:Wide F)(h:zUg P Γ n ops i s=some (vc,s1))(hr:RepS w0 S n s ι a w)(hvc:vc)(hK:∀ι' a' w',RepS w0 S n s1 ι' a' w'->K a' w'):wpOpIn F m P ops Q i K a w:=by
 unfold zUg at h;unfold Go.wpOpIn;split at h
 .cases h
 .rename_i o ho;simp only[ho];split at h
  .cases h
  .rename_i hg;rw[if_pos (jKs hr hg)];exact Oper.wpIn_of_wp hF (jWf h) (jH5 h hr hvc hK)
  .rename_i hg;rw[jKs hr hg,if_neg (by simp)];split at h
   .rename_i hd;simp only[wQa,wQc]at h;obtain⟨rfl,rfl⟩:=h;refine⟨λ_ _=>hF.fn _,hK ι _ w (hr.put (λk hk=>?_) (by simp only[zQg];exact⟨_,rfl,by simp only[RepAVs]⟩))⟩;unfold jKN at hd;rw[hk]at hd;simpa using hd
   .cases h
theorem jZ2{F:Fence}{m:Nat}(hF:Wide F){τ:Nat->List Nat × List Nat}{w0:World}{S:zQ3}{Q:Exit->Act->World->Prop}{s':AS}:∀{R:List Nat}{s:AS}{ι:zQm}{a:Act}{w:World},Runs P Γ n ops τ R s s'->RepS w0 S n s ι a w ->
  (∀ι' a' w',RepS w0 S n s' ι' a' w'->Q .normal a' w')->wpOpsIn F m P ops Q R a w
 |[],s,ι,a,w,h,hr,hQ=>by
  have h:s=s':=h;subst h;exact hQ ι a w hr
 |i::R,s,ι,a,w,⟨vc,s1,h1,h2,_,h4⟩,hr,hQ=>by
  rw[wpOpsIn_cons];exact jZl hF h1 hr h2 λι' a' w' hr'=>jZ2 hF h4 hr' hQ
def left(ops:Array Oper)(listed:Array Bool):List Nat:=(List.range ops.size).filter λi=>!listed.getD i true
abbrev wYq:=@List.nodup_append
abbrev wYp:=@List.filter_append
abbrev wYr:=@List.filter_eq_self
abbrev wXX:=@List.pairwise_cons
abbrev wQy:=@List.mem_range
theorem yQj(hF:Wide F)(hok:yQq ops τ=true)(hQ:∀ι' a' w',RepS w0 S n s' ι' a' w'->Q .normal a' w'):
  ∀(fuel:Nat)(listed:Array Bool)(s:AS)(ι:zQm)(a:Act)(w:World),yQa ops listed->listed.size=ops.size->(left ops listed).length<=fuel->Runs P Γ n ops τ (left ops listed) s s'->RepS w0 S n s ι a w->wpAnyIn F m P .any ops Q fuel listed a w:=by
 simp only[yQq,List.all_eq_true,wQd]at hok;have hready:∀(listed:Array Bool) i,i∈Region.ready .any ops listed↔i<ops.size/\listed.getD i true=false/\((ops[i]?).map (·.after.all λe=>!Region.binds .any e || listed.getD e.on false)).getD false=true:=by
  intro listed i;simp[Region.ready,wZT]
 have hempty:∀listed:Array Bool,listed.size=ops.size->Region.ready .any ops listed=[]->left ops listed=[]:=by
  intro listed hsz hr
  cases hl:left ops listed with
  |nil=>rfl
  |cons i R=>
   exfalso;have hi:i∈left ops listed:=by rw[hl];simp
   simp only[left,wZT,wQy,wQn]at hi;have hsorted:∀j,j<i->listed.getD j true=true:=by
    intro j hj
    cases hjv:listed.getD j true with
    |true=>rfl
    |false=>
     exfalso;have hjm:j∈left ops listed:=by
      simp only[left,wZT,wQy,wQn];exact⟨by omega,hjv⟩
     have hp:(left ops listed).Pairwise (· < ·):=List.Pairwise.filter _ List.pairwise_lt_range;rw[hl]at hjm hp
     rcases wQm.1 hjm with e|hm
     .omega
     .have:=(wXX.1 hp).1 j hm;omega
   have:i∈Region.ready .any ops listed:=by
    rw[hready];refine⟨hi.1,hi.2,?_⟩;have h1:=(hok i (wQy.2 hi.1)).1
    cases ho:ops[i]? with
    |none=>rw[ho]at h1;simp at h1
    |some o=>
     rw[ho]at h1;simp only[Option.any_some,wQv,wQA]at h1 |-;rw[Array.all_eq_true_iff_forall_mem]at h1 |-;intro e he;have h2:=h1 e he;simp only[wQ0,wQn,wQf]at h2 |-
     rcases h2 with h2|h2
     .exact .inl h2
     .right;have h3:=hsorted e.on h2;have hlt:e.on<listed.size:=by omega
      simp[Array.getD,hlt]at h3 |-;exact h3
   rw[hr]at this;simp at this
 intro fuel
 induction fuel with
 |zero=>
  intro listed s ι a w hcl hsz hl hruns hr;have h0:left ops listed=[]:=List.eq_nil_of_length_eq_zero (by omega);rw[h0]at hruns;have hs:s=s':=hruns;subst hs;refine⟨?_,hQ ι a w hr⟩
  cases hre:Region.ready .any ops listed with
  |nil=>rfl
  |cons i R=>
   exfalso;have:i∈Region.ready .any ops listed:=by rw[hre];simp
   rw[hready]at this;have hm:i∈left ops listed:=by
    simp only[left,wZT,wQy,wQn];exact⟨this.1,this.2.1⟩
   rw[h0]at hm;simp at hm
 |succ fuel ih=>
  intro listed s ι a w hcl hsz hl hruns hr;refine⟨λhe=>?_,λi hi=>?_⟩
  .have h0:=hempty listed hsz he;rw[h0]at hruns;have hs:s=s':=hruns;subst hs;exact hQ ι a w hr
  .rw[hready]at hi;obtain⟨hlt,hnl,haft⟩:=hi;have hm:i∈left ops listed:=by
    simp only[left,wZT,wQy,wQn];exact⟨hlt,hnl⟩
   obtain⟨A,B,hAB⟩:=List.append_of_mem hm;have hp:(left ops listed).Pairwise (· < ·):=List.Pairwise.filter _ List.pairwise_lt_range;rw[hAB]at hp;have hA:∀j∈A,j<i/\listed.getD j true=false:=λj hj=>by
    refine⟨(List.pairwise_append.1 hp).2.2 j hj i (by simp),?_⟩;have:j∈left ops listed:=by rw[hAB];simp[hj]
    simp only[left,wZT,wQy,wQn]at this;exact this.2
   have hind:∀j∈A,jHp ops τ j i=true:=λj hj=>by
    obtain⟨h1,h2⟩:=hA j hj;have h3:=(hok i (wQy.2 hlt)).2 j (wQy.2 h1);simp only[wQ0]at h3
    rcases h3 with h3|h3
    .exfalso
     cases ho:ops[i]? with
     |none=>rw[ho]at haft;simp at haft
     |some o=>
      rw[ho]at haft;simp only[wQv,wQA]at haft
      have h4:=jY1 ops hcl hsz i j o ho (λe he hb=>by
       have:=Array.all_eq_true_iff_forall_mem.1 haft e (Array.mem_toList_iff.1 he)
       simpa [hb]using this) h3
      by_cases hlt':j<listed.size
      .simp[Array.getD,hlt']at h2 h4;rw[h2]at h4;cases h4
      .simp[Array.getD,hlt']at h2
    .exact h3
   rw[hAB]at hruns;obtain⟨vc,s1,g1,g2,_,g4⟩:=yYf hind hruns;have hleft:left ops (listed.setIfInBounds i true)=A++B:=by
    have hnodup:(left ops listed).Nodup:=(List.nodup_range).filter _;have e1:left ops (listed.setIfInBounds i true)=(left ops listed).filter λk=>decide (k≠i):=by
     simp only[left,List.filter_filter];apply List.filter_congr;intro k hk;have hk':k<ops.size:=wQy.1 hk;by_cases e:k=i
     .subst e;simp[Array.getD,hsz,hlt]
     .have:(listed.setIfInBounds i true).getD k true=listed.getD k true:=by
       simp only[wZR,wXu (Ne.symm e)]
      rw[this];simp[e]
    rw[e1,hAB,wYp,List.filter_cons];rw[hAB]at hnodup;have hn:=wYq.1 hnodup;have hA':A.filter (λk=>decide (k≠i))=A:=wYr.2 λk hk=>by
     have:=(hA k hk).1;simp;omega
    have hB':B.filter (λk=>decide (k≠i))=B:=wYr.2 λk hk=>by
     have:i≠k:=λe=>by
      have:=(wXB.1 hn.2.1).1;exact this (by rw[e];exact hk)
     simp;exact Ne.symm this
    rw[hA',hB'];simp
   refine jZl hF g1 hr g2 λι' a' w' hr'=>?_;have hcl2:yQa ops (listed.setIfInBounds i true):=by
    intro k ok hk hkl hks e he hb;have hmono:∀q,listed.getD q false=true->(listed.setIfInBounds i true).getD q false=true:=λq hq=>by
     by_cases e':q=i
     .subst e';simp[Array.getD,hsz,hlt]
     .simp only[wZR,wXu (Ne.symm e')]at hq |-;exact hq
    refine hmono _ ?_;by_cases e':k=i
    .subst e';rw[hk]at haft;simp only[wQv,wQA]at haft;have:=Array.all_eq_true_iff_forall_mem.1 haft e (Array.mem_toList_iff.1 he);simpa [hb]using this
    .have hkl':listed.getD k true=true:=by
      simp only[wZR,wXu (Ne.symm e')]at hkl |-;exact hkl
     exact hcl k ok hk hkl' (by simpa using hks) e he hb
   refine ih _ s1 ι' a' w' hcl2 (by simpa using hsz) ?_ (by rw[hleft];exact g4) hr';rw[hleft];have:(left ops listed).length=(A++B).length+1:=by rw[hAB];simp;omega
   omega
end
abbrev Kn:=Nat->Option Bool
def kx(kn:Kn):Operand->Option Bool
 |.const (.bool b)=>some b
 |.tmp t=>kn t
 |_=>none
def knOf(kn:Kn):Op->Option Bool
 |.move x|.assign x=>kx kn x
 |.pick c x y=>match kx kn c with
  |some true=>kx kn x
  |some false=>kx kn y
  |none=>none
 |.unOp .not _ x=>(kx kn x).map (!·)
 |_=>none
def zVu(kn:Kn)(d:Option Nat)(b:Option Bool):Kn:=
 match d with
 |some d=>λt=>if t=d then b else kn t
 |none=>kn
def jGw(x:AV)(b:Bool):AV:=
 match x with
 |.one (.d (.bool _))=>.one (.d (.bool b))
 |.one (.lit (.bool _))=>.one (.lit (.bool b))
 |x=>x
def AS.fix(s:AS)(t:Nat)(b:Bool):AS:=s.put (some t) (jGw (s.tm t) b)
def KnOK(kn:Kn)(s:AS):Prop:=∀t b,kn t=some b->(s.tm t).bool?=some b
inductive Gd where
  |stuck
  |yes
  |no
  |ask (t:Nat) (b want:Bool)
def gd(ops:Array Oper)(kn:Kn)(s:AS)(o:Oper):Gd:=
 match o.guard with
 |none=>.yes
 |some (j,want)=>match (ops[j]?).bind (·.dst) with
  |none=>.stuck
  |some t=>match kn t with
   |some b=>if b=want then .yes else .no
   |none=>match s.tm t with
    |.tup []=>.no
    |.one (.d (.bool b))=>.ask t b want
    |.one (.lit (.bool b))=>.ask t b want
    |_=>.stuck
section
variable(P:Program)(Γ:Gam)(n:Dom)
def aopT(o:Oper)(s:AS):Option (Prop × AS × (List Nat × List Nat)):=
 if jKN n o then
  match zW4 P Γ o s.eval with
  |some e=>match e.f (e.rds.map s.bx) ((e.all s.bx).map s.bx) with
   |some (vc,v,ws)=>some (vc,(s.setL ws).put o.dst v,(e.rds++e.all s.bx,ws.map (·.1)))
   |none=>none
  |none=>none
 else none
def zKk(ops:Array Oper):List Nat->Kn->AS->List (List Nat × List Nat)->(Kn->AS->List (List Nat × List Nat)->Prop)->Prop
 |[],kn,s,acc,Q=>Q kn s acc
 |i::R,kn,s,acc,Q=>
  match ops[i]? with
  |none=>False
  |some o=>match gd ops kn s o with
   |.stuck=>False
   |.yes=>match aopT P Γ n o s with
    |some (vc,s',t)=>vc/\zKk ops R (zVu kn o.dst (knOf kn o.op)) s' (t::acc) Q
    |none=>False
   |.no=>match jKN n o with
    |true=>zKk ops R (zVu kn o.dst none) (s.put o.dst (.tup [])) (([],[])::acc) Q
    |false=>False
   |.ask t b want=>
    (b=want->match aopT P Γ n o (s.fix t want) with
     |some (vc,s',th)=>vc/\zKk ops R (zVu (zVu kn (some t) (some want)) o.dst (knOf (zVu kn (some t) (some want)) o.op)) s' (th::acc) Q
     |none=>False) /\
    (b=(!want)->match jKN n o with
     |true=>zKk ops R (zVu (zVu kn (some t) (some (!want))) o.dst none) ((s.fix t (!want)).put o.dst (.tup [])) (([],[])::acc) Q
     |false=>False)
end
variable{b:Bool}
theorem jUZ{x:AV}(h:x.bool?=some b):jGw x b=x:=by
 unfold AV.bool? at h;split at h
 .injection h with h;subst h;rfl
 .injection h with h;subst h;rfl
 .cases h
theorem jWV{t:Nat}(h:(s.tm t).bool?=some b):s.fix t b=s:=by
 unfold AS.fix;rw[jUZ h];apply AS.ext'
 .funext t';simp only[AS.put];split
  .rename_i e;rw[e]
  .rfl
 .rfl
variable{kn:Kn}
theorem jYy(h:KnOK kn s){x:Operand}(hx:kx kn x=some b):(s.eval x).bool?=some b:=by
 unfold kx at hx;split at hx
 .injection hx with hx;subst hx;rfl
 .exact h _ _ hx
 .cases hx
variable{t:Nat}
section
variable{P:Program}{Γ:Gam}{n:Dom}{ops:Array Oper}
theorem yZi{t:List Nat × List Nat}(h:aopT P Γ n o s=some (vc,s',t)):aop P Γ n o s=some (vc,s')/\∃e,zW4 P Γ o s.eval=some e/\t=e.touch s.bx:=by
 unfold aopT at h;unfold aop;split at h
 .rename_i hd;rw[if_pos hd];split at h
  .rename_i e he;split at h
   .rename_i vc' v ws hf;simp only[wQa,wQc]at h;obtain⟨rfl,rfl,rfl⟩:=h;refine⟨?_,e,he,by simp[Eff2.touch,hf]⟩
    try rw[he]
    simp only[hf]
   .cases h
  .cases h
 .cases h
theorem yXX(h:KnOK kn s)(ha:aop P Γ n o s=some (vc,s')):KnOK (zVu kn o.dst (knOf kn o.op)) s':=by
 unfold aop at ha;split at ha
 .split at ha
  .rename_i e he;split at ha
   .rename_i vc' v bs hf;simp only[wQa,wQc]at ha;obtain⟨rfl,rfl⟩:=ha;intro t b hb
    cases hd:o.dst with
    |none=>
     rw[hd]at hb;have hb:kn t=some b:=hb
     show((s.setL bs).tm t).bool?=some b
     rw[AS.setL,zZG];exact h t b hb
    |some d=>
     rw[hd]at hb;simp only[zVu]at hb;by_cases e1:t=d
     .rw[if_pos e1]at hb;simp only[AS.put,if_pos e1];unfold knOf at hb;unfold zW4 at he;have he':(prep P Γ o s.eval).map Eff.up=some e:=by
       split at he
       .rename_i c hc;rw[hc]at hb;cases hb
       .exact he
      clear he;obtain⟨e0,he,rfl⟩:=wQV.1 he';clear he';simp only[Eff.up]at hf;obtain⟨⟨vc0,v0,bs0⟩,hf2,hf'⟩:=wQV.1 hf;clear hf;have hf:=hf2;clear hf2;simp only[wQc]at hf';obtain⟨rfl,rfl,rfl⟩:=hf';unfold prep at he;split at hb
      .rename_i x hop;rw[hop]at he;simp only[wQa]at he;subst he;simp only[Eff.val,wQa,wQc]at hf;rw[<-hf.2.1];exact jYy h hb
      .rename_i x hop;rw[hop]at he;simp only[wQa]at he;subst he;simp only[Eff.val,wQa,wQc]at hf;rw[<-hf.2.1];exact jYy h hb
      .rename_i c x y hop;rw[hop]at he;simp only[jJ3]at he;split at hb
       .rename_i hc;rw[jYy h hc]at he;simp only[wQa]at he;subst he;simp only[Eff.val,wQa,wQc]at hf;rw[<-hf.2.1];exact jYy h hb
       .rename_i hc;rw[jYy h hc]at he;simp only[wQa]at he;subst he;simp only[Eff.val,wQa,wQc]at hf;rw[<-hf.2.1];exact jYy h hb
       .cases hb
      .rename_i t' x hop;rw[hop]at he;simp only[opUn]at he
       cases hx:kx kn x with
       |none=>rw[hx]at hb;cases hb
       |some bx=>
        rw[hx]at hb;simp only[wQv,wQa]at hb;have:=jYy h hx;unfold AV.bool? at this;split at this
        .rename_i b' hs;rw[hs]at he;simp only[wQa]at this he;subst this he;simp only[Eff.val,wQa,wQc]at hf;rw[<-hf.2.1,<-hb];rfl
        .rename_i b' hs;rw[hs]at he;simp only[wQa]at this he;subst this he;simp only[Eff.val,wQa,wQc]at hf;rw[<-hf.2.1,<-hb];rfl
        .cases this
      .cases hb
     .rw[if_neg e1]at hb;simp only[AS.put,if_neg e1];rw[AS.setL,zZG];exact h t b hb
   .cases ha
  .cases ha
 .cases ha
theorem yZz(h:KnOK kn s)(ht:(s.tm t).bool?=some b):KnOK (zVu kn (some t) (some b)) s:=by
 intro t' b' hb;simp only[zVu]at hb;by_cases e:t'=t
 .rw[if_pos e]at hb;injection hb with hb;subst hb;rw[e];exact ht
 .rw[if_neg e]at hb;exact h _ _ hb
theorem yZ5(h:KnOK kn s)(d:Option Nat):KnOK (zVu kn d none) (s.put d (.tup [])):=by
 intro t b hb
 cases d with
 |none=>exact h t b hb
 |some d=>
  simp only[zVu]at hb;by_cases e:t=d
  .rw[if_pos e]at hb;cases hb
  .rw[if_neg e]at hb;simp only[AS.put,if_neg e];exact h t b hb
def Ran(P:Program)(Γ:Gam)(n:Dom)(ops:Array Oper)(R:List Nat)(s:AS)(acc:List (List Nat × List Nat))(Q:Kn->AS->List (List Nat × List Nat)->Prop):Prop:=
 ∃(kn':Kn)(s':AS)(ts:List (List Nat × List Nat)),Q kn' s' (ts.reverse++acc)/\KnOK kn' s'/\ts.length=R.length/\∀τ:Nat->List Nat × List Nat,(∀(k:Nat)(i:Nat),R[k]?=some i->τ i=ts.getD k ([],[]))->Runs P Γ n ops τ R s s'
theorem zGi:∀{R:List Nat}{kn:Kn}{s:AS}{acc:List (List Nat × List Nat)}{Q:Kn->AS->List (List Nat × List Nat)->Prop},zKk P Γ n ops R kn s acc Q->KnOK kn s ->
  Ran P Γ n ops R s acc Q
 |[],kn,s,acc,Q,h,hk=>⟨kn,s,[],h,hk,rfl,λτ _=>rfl⟩
 |i::R,kn,s,acc,Q,h,hk=>by
  have yes:∀{o:Oper}{kn1:Kn},ops[i]?=some o->gv ops s o=some true->KnOK kn1 s->(match aopT P Γ n o s with
    |some (vc,s',t)=>vc/\zKk P Γ n ops R (zVu kn1 o.dst (knOf kn1 o.op)) s' (t::acc) Q
    |none=>False)->Ran P Γ n ops (i::R) s acc Q:=by
   intro o kn1 ho hg hk1 h;split at h
   .rename_i vc s1 t ha;obtain⟨hvc,h⟩:=h;obtain⟨h1,e,he,rfl⟩:=yZi ha;obtain⟨kn',s',ts,g1,g2,g3,g4⟩:=zGi h (yXX hk1 h1);refine⟨kn',s',e.touch s.bx::ts,by simpa using g1,g2,by simp[g3],λτ hτ=>⟨vc,s1,by simp[zUg,ho,hg,h1],hvc,?_,g4 τ λk j hj=>by simpa using hτ (k+1) j (by simpa using hj)⟩⟩;have:=hτ 0 i rfl;rw[this];simp[touch,ho,hg,he]
   .exact h.elim
  have no:∀{o:Oper}{kn1:Kn},ops[i]?=some o->gv ops s o=some false->KnOK kn1 s->(match jKN n o with
    |true=>zKk P Γ n ops R (zVu kn1 o.dst none) (s.put o.dst (.tup [])) (([],[])::acc) Q
    |false=>False)->Ran P Γ n ops (i::R) s acc Q:=by
   intro o kn1 ho hg hk1 h;split at h
   .rename_i hd;obtain⟨kn',s',ts,g1,g2,g3,g4⟩:=zGi h (yZ5 hk1 o.dst);refine⟨kn',s',([],[])::ts,by simpa using g1,g2,by simp[g3],λτ hτ=>⟨True,_,by simp only[zUg,ho,hg,hd,if_true],trivial,?_,g4 τ λk j hj=>by simpa using hτ (k+1) j (by simpa using hj)⟩⟩;have:=hτ 0 i rfl;rw[this];simp[touch,ho,hg]
   .exact h.elim
  unfold zKk at h;split at h
  .exact h.elim
  .rename_i o ho;split at h
   .exact h.elim
   .rename_i hg;have hgv:gv ops s o=some true:=by
     unfold gd at hg;unfold gv
     cases hgu:o.guard with
     |none=>rfl
     |some jw=>
      obtain⟨j,want⟩:=jw;rw[hgu]at hg;simp only at hg |-
      cases ht:(ops[j]?).bind (·.dst) with
      |none=>rw[ht]at hg;cases hg
      |some t=>
       rw[ht]at hg;simp only at hg |-
       cases hkt:kn t with
       |some b=>
        rw[hkt]at hg;simp only at hg;split at hg
        .rename_i hbw;subst hbw;have hb:=hk t b hkt;split
         .rename_i hs;rw[hs]at hb;simp[AV.bool?]at hb
         .rw[hb];simp
        .cases hg
       |none=>
        rw[hkt]at hg;simp only at hg;split at hg<;>cases hg
    exact yes ho hgv hk h
   .rename_i hg;have hgv:gv ops s o=some false:=by
     unfold gd at hg;unfold gv
     cases hgu:o.guard with
     |none=>rw[hgu]at hg;cases hg
     |some jw=>
      obtain⟨j,want⟩:=jw;rw[hgu]at hg;simp only at hg |-
      cases ht:(ops[j]?).bind (·.dst) with
      |none=>rw[ht]at hg;cases hg
      |some t=>
       rw[ht]at hg;simp only at hg |-
       cases hkt:kn t with
       |some b=>
        rw[hkt]at hg;simp only at hg;split at hg
        .cases hg
        .rename_i hbw;have hb:=hk t b hkt;split
         .rfl
         .rw[hb];simp[hbw]
       |none=>
        rw[hkt]at hg;simp only at hg;split at hg
        .rename_i hs;simp[hs]
        .cases hg
        .cases hg
        .cases hg
    exact no ho hgv hk h
   .rename_i t b want hg;have hgt:∃j,o.guard=some (j,want)/\(ops[j]?).bind (·.dst)=some t/\(s.tm t).bool?=some b:=by
     unfold gd at hg
     cases hgu:o.guard with
     |none=>rw[hgu]at hg;cases hg
     |some jw=>
      obtain⟨j,want'⟩:=jw;rw[hgu]at hg;simp only at hg
      cases ht:(ops[j]?).bind (·.dst) with
      |none=>rw[ht]at hg;cases hg
      |some t'=>
       rw[ht]at hg;simp only at hg
       cases hkt:kn t' with
       |some b'=>rw[hkt]at hg;simp only at hg;split at hg<;>cases hg
       |none=>
        rw[hkt]at hg;simp only at hg;split at hg
        .cases hg
        .rename_i b' hs;simp only[Gd.ask.injEq]at hg;obtain⟨rfl,rfl,rfl⟩:=hg;exact⟨j,rfl,ht,by rw[hs];rfl⟩
        .rename_i b' hs;simp only[Gd.ask.injEq]at hg;obtain⟨rfl,rfl,rfl⟩:=hg;exact⟨j,rfl,ht,by rw[hs];rfl⟩
        .cases hg
    obtain⟨j,h1,h2,h3⟩:=hgt;have hgv:gv ops s o=some (b==want):=by
     unfold gv;rw[h1];simp only[h2];split
     .rename_i hs;rw[hs]at h3;simp[AV.bool?]at h3
     .rw[h3];simp
    by_cases hbw:b=want
    .subst hbw;rw[jWV h3]at h;exact yes ho (hgv.trans (by simp)) (yZz hk h3) (h.1 rfl)
    .have hbn:b=!want:=by cases b<;>cases want<;>simp_all
     subst hbn;rw[jWV h3]at h;exact no ho (hgv.trans (by cases want<;>rfl)) (yZz hk h3) (h.2 rfl)
end
def jUe(w:World):Bool × List DV->Value->Prop
 |(false,ds),v=>∃d,ds=[d]/\d.plain=some v
 |(true,ds),v=>∃g,v=.pointer (some ⟨g,0,none⟩)/\∀i d,ds[i]?=some d->∃u,d.plain=some u/\w.cell? ⟨g,i,none⟩=some u
def jK6(w:World):List (Bool × List DV)->List Value->Prop
 |[],[]=>True
 |c::cs,v::vs=>jUe w c v/\jK6 w cs vs
 |_,_=>False
def jZb(ds:List DV):Array Value:=(ds.map λd=>d.plain.getD undef).toArray
def AnsI(P:Program)(g:FuncId)(caps:List (Bool × List DV))(N:Nat)(item:Nat->List DV):Prop:=
 ∀(lb:Array Value)(l m:Nat)(J:Nat->World->Prop)(Jx:World->Prop),
  (∀k W,J k W->jK6 W caps lb.toList) ->
  (∀k W d,J k W->J k { W with drawn:=d })->(∀W d,Jx W->Jx { W with drawn:=d }) ->
  (∀k W,k<N->J k W->YieldAt Fence.wide m P l (jZb (item k)) W λe W'=>(e=.returned (.bool true)/\J (k+1) W')\/(e=.returned (.bool false)/\Jx W')) ->
  ∀W,J 0 W->CallsIn Fence.wide m P g (#[.func (.yield l) #[] #[]]++lb) W λe W'=>(∃v,e=.returned v)/\(J N W'\/Jx W')
def yQl(I:World->Prop)(Ix:Code->World->Prop)(W:World):Exit->Act->World->Prop
 |.normal,_,W'=>KeepsOthers W W'/\I W'
 |.ret,_,W'=>KeepsOthers W W'/\Ix .ret W'
 |.exit id,_,W'=>KeepsOthers W W'/\Ix (.exit id) W'
 |_,_,_=>False
def zHn(B:Nat)(I:World->Prop):Prop:=
 ∀W W' row,I W->W.grownBy W' row->(∀r,row=some r->B<=r/\∃o:Obj,W.heap[r]?=some o/\o.isCells=false)->I W'
abbrev wYs:=@grownBy_putObj'
variable{B:Nat}{I:World->Prop}{W:World}
theorem zHn.put(h:zHn B I){l:Nat}{o:Obj}(o':Obj)(hs:I W)(hB:B<=l)(hl:W.heap[l]?=some o)(ho:o.isCells=false):I (W.putObj l o'):=
 h W _ (some l) hs (wYs W l o') (λr e=>by cases e;exact⟨hB,o,hl,ho⟩)
theorem zHn.new_(h:zHn B I)(o:Obj)(hs:I W):I (W.alloc o):=
 h W _ none hs (World.grownBy_alloc W o none) (λr e=>by cases e)
theorem zHn.drawn{B:Nat}{I:World->Prop}(h:zHn B I){W:World}(d:Nat)(hs:I W):I { W with drawn:=d }:=
 h W _ none hs ⟨rfl,rfl,rfl,Nat.le_refl _,λ_ _ _=>rfl⟩ (λr e=>by cases e)
abbrev wXC:=@World.putObj_heap_other
variable{g:Operand}{ps:Array Tmp}
theorem jGV{assign body:Code}{gf:Nat}{lb:Array Value}(hg:a.eval g=.func (.func gf) #[] lb)(eg:∀args w,(callFunc gf args).run P w=.ok (.enter gf args) w){caps:List (Bool × List DV)}{N:Nat}{item:Nat->List DV}(hseq:AnsI P gf caps N item)(hps:∀k,k<N->(item k).length=ps.size)(I:Nat->World->Prop)(Ix:Code->World->Prop)(hI:∀k,zHn w.heap.size (I k))(hIx:∀c,zHn w.heap.size (Ix c))(hcaps:∀k W,I k W->jK6 W caps lb.toList)(h0:I 0 w)(hround:∀l k W,k<N->I k W ->
   assign.wpIn (Fence.wide.inRound l) m P (Exit.then (λa1 W1=>KeepsOthers W W1/\∀W2,W1.grownBy W2 (some l)->w.heap.size<=l->(∃r:Loop,W1.heap[l]?=some (.loop r)) ->
    body.wpIn (Fence.wide.inRound l) m P (yQl (I (k+1)) Ix W2) a1 W2) (λ_ _ _=>False))
    { tmps:=(ps.zip (jZb (item k))).foldl (λt (p,v)=>t.setIfInBounds p v) a.tmps,defers:=[] } W)(hdone:∀(D:Nat) (W:World),w.heap.size<=D->I N W->W.heap[D]?=some (.deferred (some []))->Q .normal { a with defers:={ target:=.collected D,args:=#[] }::a.defers } W)(hstop:∀(D:Nat) (c:Code) (W:World),w.heap.size<=D->Ix c W->W.heap[D]?=some (.deferred (some []))->c.wpIn Fence.wide m P Q { a with defers:={ target:=.collected D,args:=#[] }::a.defers } W) :
  (Code.rangeFunc g ps assign body).wpIn Fence.wide m P Q a w:=by
 refine wpIn_rangeFunc ?_;intro fn hfn
 show ∃(l:Nat)(mark:List Deferred)(w₁:World)(d:Deferred)(w₁':World)(f:FuncId)(args:Array Value)(w₂:World),(Instr.enterLoop fn a.tmps ps assign body none).run P w=_/\_
 obtain⟨rec,hrec⟩:∃rec:LoopState->Option Code->Loop,rec=λst pe=>{ state:=st,pending:=pe,fn,tmps:=a.tmps,params:=ps,assign,body,defers:=w.heap.size }:=⟨_,rfl⟩
 obtain⟨W1,hW1⟩:∃W1,(w.alloc (.deferred (some []))).alloc (.loop (rec .ready none))=W1:=⟨_,rfl⟩
 have hL1:W1.heap[w.heap.size+1]?=some (.loop (rec .ready none)):=by
  rw[<-hW1];have:=World.alloc_heap_new (w.alloc (.deferred (some []))) (.loop (rec .ready none));rwa [World.size_alloc]at this
 have hK1:W1.heap[w.heap.size]?=some (.deferred (some [])):=by
  rw[<-hW1];exact(Below.heap_alloc _ _ _ (by simp)).trans (World.alloc_heap_new w _)
 have hI1:I 0 W1:=by rw[<-hW1];exact(hI 0).new_ _ ((hI 0).new_ _ h0)
 refine⟨w.heap.size+1,[{ target:=.collected w.heap.size,args:=#[] }],W1,{ target:=.fn (.func gf) lb,args:=#[.func (.yield (w.heap.size+1)) #[] #[]] },W1,gf,
  #[.func (.yield (w.heap.size+1)) #[] #[]]++lb,W1,?_,?_,?_,?_,λh=>by(cases h),?_⟩
 .rw[<-hW1,hrec];exact run_enterLoop_outer _ _ _ _ _
 .simp only[resolve,hg];simp[go_sem]
 .intro f' hf';trivial
 .simp[invoke,go_sem,eg]
 .refine CallsIn.mono (hseq lb (w.heap.size+1) (m-1)
   (λk W=>I k W/\W.heap[w.heap.size+1]?=some (.loop (rec .ready none))/\W.heap[w.heap.size]?=some (.deferred (some [])))
   (λW=>∃c,Ix c W/\W.heap[w.heap.size+1]?=some (.loop (rec .done (some c)))/\W.heap[w.heap.size]?=some (.deferred (some [])))
   (λk W h=>hcaps k W h.1) (λk W d h=>⟨(hI k).drawn d h.1,h.2.1,h.2.2⟩) (λW d ⟨c,h1,h2,h3⟩=>⟨c,(hIx c).drawn d h1,h2,h3⟩) ?_ W1 ⟨hI1,hL1,hK1⟩) ?_
  ·
   rintro k W hk ⟨hi,hl,hkd⟩;have hy:=run_yield (P:=P) (args:=jZb (item k)) hl (by rw[hrec];simp only[jZb,wZA,wQD];exact hps k hk);rw[hrec]at hy;refine⟨fn,_,assign,body,hy,roundIn_of_wpIn trivial ?_⟩;have hr:=hround (w.heap.size+1) k W hk hi;have hr:assign.wpIn (Fence.wide.inRound (w.heap.size+1)) (m-1) P _ _ W:=λb k cs h1 h2 _=>hr b k cs h1 h2 (Wide.room (.inr ⟨_,rfl⟩) _);refine wpIn_mono hr ?_;intro e a1 Wa hq
   cases e with
   |normal=>
    obtain⟨hka,hq⟩:=hq;have hla:=hka.same _ _ hl rfl;have hda:=hka.same _ _ hkd rfl;have hbr:=run_beginRound (P:=P) hla (by rw[hrec]);refine⟨_,hbr,?_⟩;have hlt:w.heap.size+1<Wa.heap.size:=(wZg.1 hla).1;have hl2:(Wa.putObj (w.heap.size+1) (.loop { rec .ready none with state:=.busy })).heap[w.heap.size+1]?=some (.loop { rec .ready none with state:=.busy }):=World.putObj_heap_same hlt;have hk2:(Wa.putObj (w.heap.size+1) (.loop { rec .ready none with state:=.busy })).heap[w.heap.size]?=some (.deferred (some [])):=(wXC (by omega)).trans hda;have hb:=hq _ (wYs Wa (w.heap.size+1) (.loop { rec .ready none with state:=.busy })) (by omega) ⟨_,hla⟩;have hb:body.wpIn (Fence.wide.inRound (w.heap.size+1)) (m-1) P _ a1 _:=λb k cs h1 h2 _=>hb b k cs h1 h2 (Wide.room (.inr ⟨_,rfl⟩) _);refine wpIn_mono hb ?_;have fin:∀(jump:Option Code)(W3:World),KeepsOthers (Wa.putObj (w.heap.size+1) (.loop { rec .ready none with state:=.busy })) W3 ->
      (Instr.endRound (w.heap.size+1) jump).run P W3=.ok (.bool jump.isNone) (W3.putObj (w.heap.size+1) (.loop (rec (if jump.isNone then .ready else .done) jump))) /\
      W3.heap[w.heap.size+1]?=some (.loop { rec .ready none with state:=.busy }) /\
      (W3.putObj (w.heap.size+1) (.loop (rec (if jump.isNone then .ready else .done) jump))).heap[w.heap.size+1]?=some (.loop (rec (if jump.isNone then .ready else .done) jump)) /\
      (W3.putObj (w.heap.size+1) (.loop (rec (if jump.isNone then .ready else .done) jump))).heap[w.heap.size]?=some (.deferred (some [])):=λjump W3 hk3=>by
     have hl3:=hk3.same _ _ hl2 rfl;have:=run_endRound (P:=P) jump hl3;rw[hrec]at this |-;exact⟨this,by rw[hrec]at hl3;exact hl3,World.putObj_heap_same (wZg.1 hl3).1,(wXC (by omega)).trans (hk3.same _ _ hk2 rfl)⟩
    intro e3 a3 W3 hp
    cases e3 with
    |normal=>
     obtain⟨hk3,hi3⟩:=hp;obtain⟨hr,hl3,hl4,hk4⟩:=fin none W3 hk3;exact⟨_,_,hr,.inl ⟨rfl,(hI _).put _ hi3 (by omega) hl3 rfl,hl4,hk4⟩⟩
    |ret=>
     obtain⟨hk3,hi3⟩:=hp;obtain⟨hr,hl3,hl4,hk4⟩:=fin (some .ret) W3 hk3;exact⟨_,_,hr,.inr ⟨rfl,.ret,(hIx _).put _ hi3 (by omega) hl3 rfl,hl4,hk4⟩⟩
    |exit id=>
     obtain⟨hk3,hi3⟩:=hp;obtain⟨hr,hl3,hl4,hk4⟩:=fin (some (.exit id)) W3 hk3;exact⟨_,_,hr,.inr ⟨rfl,.exit id,(hIx _).put _ hi3 (by omega) hl3 rfl,hl4,hk4⟩⟩
    |goto t=>exact hp.elim
    |panic ch=>exact hp.elim
    |outgrown=>exact hp.elim
   |ret=>exact hq.elim
   |exit id=>exact hq.elim
   |goto t=>exact hq.elim
   |panic ch=>exact hq.elim
   |outgrown=>exact hq.elim
  ·
   rintro e W2 ⟨⟨v,rfl⟩,(⟨hi,hl,hk⟩|⟨c,hi,hl,hk⟩)⟩
   .exact⟨none,_,by have:=run_endLoop (P:=P) hl (by rw[hrec];simp);rw[hrec]at this;exact this,hdone _ _ (Nat.le_refl _) ((hI _).put _ hi (by omega) hl rfl) ((wXC (by omega)).trans hk)⟩
   .exact⟨some c,_,by have:=run_endLoop (P:=P) hl (by rw[hrec];simp);rw[hrec]at this;exact this,hstop _ c _ (Nat.le_refl _) ((hIx c).put _ hi (by omega) hl rfl) ((wXC (by omega)).trans hk)⟩
structure Snap where
  tm:List (Nat × AV)
  bx:List (Nat × Bx)
def jUJ:List (Nat × AV)->Nat->AV
 |[],_=>.one .dead
 |(t',v)::r,t=>if t=t' then v else jUJ r t
def zYO:List (Nat × Bx)->Nat->Bx
 |[],_=>.fresh
 |(t',v)::r,t=>if t=t' then v else zYO r t
def Snap.as(sn:Snap):AS:=⟨jUJ sn.tm,zYO sn.bx⟩
abbrev Ren:=List (Nat × Option Nat)
def zW2:Ren->Nat->Option (Option Nat)
 |[],_=>none
 |(b',x)::r,b=>if b=b' then some x else zW2 r b
def jWX:Cap->Cap->Option (Prop × Ren)
 |.d v,.d v'=>some (v'=v,[])
 |.ptr b off,.ptr b' off'=>some (off'=off,[(b,some b')])
 |_,_=>none
def jQ8:List Cap->List Cap->Option (Prop × Ren)
 |[],[]=>some (True,[])
 |c::cs,c'::cs'=>match jWX c c',jQ8 cs cs' with
  |some (p,r),some (q,r')=>some (p/\q,r++r')
  |_,_=>none
 |_,_=>none
def jUT:Cl->Cl->Option (Prop × Ren)
 |.dead,_=>some (True,[])
 |.d v,.d v'=>some (v'=v,[])
 |.d v,.lit (.bool b)=>some (DV.bool b=v,[])
 |.d v,.nil=>some (DV.sl 0 []=v,[])
 |.lit u,.lit u'=>some (u'=u,[])
 |.nil,.nil=>some (True,[])
 |.ptr b off,.ptr b' off'=>some (off'=off,[(b,some b')])
 |.vp cs off,.vp cs' off'=>some (cs'=cs/\off'=off,[])
 |.ref b n,.ref b' n'=>some (n'=n,[(b,some b')])
 |.ref b n,.nil=>some (0=n,[(b,none)])
 |.clo f cs,.clo f' cs'=>if f'=f then jQ8 cs cs' else none
 |_,_=>none
def zUa:List Cl->List Cl->Option (Prop × Ren)
 |[],[]=>some (True,[])
 |c::cs,c'::cs'=>match jUT c c',zUa cs cs' with
  |some (p,r),some (q,r')=>some (p/\q,r++r')
  |_,_=>none
 |_,_=>none
def jZe:List Cl->Option (List DV)
 |[]=>some []
 |.d v::cs=>match jZe cs with
  |some vs=>some (v::vs)
  |none=>none
 |_::_=>none
def jXB(cs cs':List Cl):Option (Prop × Ren):=match jZe cs,dvs cs' with
 |some xs,some ys=>some (ys=xs,[])
 |_,_=>zUa cs cs'
mutual
def zUb:AV->AV->Option (Prop × Ren)
 |.one c,.one c'=>jUT c c'
 |.one .dead,_=>some (True,[])
 |.agg cs,.agg cs'=>jXB cs cs'
 |.tup vs,.tup vs'=>fitAVs vs vs'
 |_,_=>none
def fitAVs:List AV->List AV->Option (Prop × Ren)
 |[],[]=>some (True,[])
 |x::xs,y::ys=>match zUb x y,fitAVs xs ys with
  |some (p,r),some (q,r')=>some (p/\q,r++r')
  |_,_=>none
 |_,_=>none
end
def jHG(s:AS):List (Nat × AV)->Option (Prop × Ren)
 |[]=>some (True,[])
 |(t,v)::l=>match zUb v (s.tm t),jHG s l with
  |some (p,r),some (q,r')=>some (p/\q,r++r')
  |_,_=>none
def jUV:Bx->Bx->Option (Prop × Ren)
 |.cells cs,.cells cs'=>jXB cs cs'
 |.row e size xs,.row e' size' xs'=>if e'=e/\size'=size then some (xs'=xs,[]) else none
 |.ice xs,.ice xs'=>some (xs'=xs,[])
 |.gone,.gone=>some (True,[])
 |_,_=>none
def zHh(s:AS):List (Nat × Bx)->Ren->Option (Prop × Ren)
 |[],r=>some (True,r)
 |(b,B)::l,r=>match zW2 r b with
  |some (some b')=>match jUV B (s.bx b') with
   |some (p,r')=>match zHh s l (r++r') with
    |some (q,r'')=>some (p/\q,r'')
    |none=>none
   |none=>none
  |some none=>match B with
   |.row _ _ xs=>match zHh s l r with
    |some (q,r'')=>some ([]=xs/\q,r'')
    |none=>none
   |_=>none
  |none=>none
abbrev vD:=List (Nat × Bx)
def yXT(bx:vD)(r:Ren):Bool:=
 (r.all λp=>(zW2 r p.1==some p.2)&&bx.any λq=>q.1==p.1) &&
 (r.all λp=>r.all λq=>p.1==q.1 || p.2==none || p.2 !=q.2)&&decide ((bx.map (·.1)).Nodup)
def pins(l:List Nat):Ren:=l.map λj=>(j,some j)
def yXm(n:Dom)(s:AS)(sn:Snap):Prop:=
 match jHG s sn.tm with
 |some (p,r)=>match zHh s sn.bx (r++pins n.pin) with
  |some (q,r')=>match yXT sn.bx r' with
   |true=>p/\q
   |false=>False
  |none=>False
 |none=>False
def AS.melt1(s:AS)(t:Nat):AS:=match s.tm t with
 |.one (.ref b n)=>match zXJ (s.bx b) with
  |some xs=>⟨λt'=>if t'=t then .one (.d (.sl n xs)) else s.tm t',λb'=>if b'=b then(s.bx b).freeze else s.bx b'⟩
  |none=>s
 |_=>s
def AS.trim1(s:AS)(t:Nat):AS:=match s.tm t with
 |.one (.ref b n)=>match s.bx b with
  |.row e size xs=>s.setB b (.row e size (xs.take (n*size)))
  |_=>s
 |_=>s
def meltFor:List (Nat × AV)->AS->AS
 |[],s=>s
 |(t,.one (.d _))::l,s=>meltFor l (s.melt1 t)
 |(t,.one .dead)::l,s=>meltFor l (s.trim1 (t-100000))
 |_::l,s=>meltFor l s
def fits(n:Dom)(s:AS)(sn:Snap):Prop:=yXm n (meltFor sn.tm s) sn
structure Inv where
  α:Type
  ok:α->Prop
  st:α->Snap
  μ:α->Nat
inductive Ann:Type 1 where
  |leaf
  |seq (a b:Ann)
  |loop (I:Inv) (a:I.α->Ann)
  |cut (I:Inv) (a:Ann) (b:I.α->Ann)
  |link (I:Inv) (a:I.α->Ann) (next:Ann)
  |split (a:Ann) (t:Nat) (bs:Ann)
  |opt (v:Int) (b:Ann) (next:Ann)
  |sure (b:Bool) (a:Ann)
  |ice (bs ts:List Nat) (a b:Ann)
  |splitAt (i t:Nat) (vs:List Int)
  |range (I:Inv) (T:List Nat) (a b:I.α->Ann)
abbrev aL:Ann:=Ann.leaf
abbrev aQ(a b:Ann):Ann:=Ann.seq a b
abbrev uf(P:Prop)(S:Snap)(a n:Ann):Ann:=Ann.link ⟨Unit,λ_=>P,λ_=>S,λ_=>0⟩ (λ_=>a) n
abbrev ug(P:Prop)(S:Snap)(a:Ann):Ann:=Ann.cut ⟨Unit,λ_=>P,λ_=>S,λ_=>0⟩ aL (λ_=>a)
abbrev uh(α:Type)(P:α->Prop)(S:α->Snap)(a:α->Ann):Ann:=Ann.cut ⟨α,P,S,λ_=>0⟩ aL a
abbrev ui(P:Nat->Prop)(S:Nat->Snap)(m:Nat->Nat)(a:Nat->Ann):Ann:=Ann.loop ⟨Nat,P,S,m⟩ a
def Ann.l:Ann->Ann
 |.seq a _=>a
 |_=>.leaf
def Ann.r:Ann->Ann
 |.seq _ b=>b
 |_=>.leaf
inductive zJS where
  |normal
  |exit (id:Nat)
  |ret
def kn0:Kn:=λ_=>none
def jWO(n:Dom):Ann->AS->Prop
 |.link I _ _,s=>∃z,I.ok z/\fits n s (I.st z)
 |_,_=>False
def jKb(n:Dom)(f:Ann->Kn->AS->(zJS->Kn->AS->Prop)->Prop)(Q:zJS->Kn->AS->Prop):Ann->Prop
 |.link I a next=>(∀z,I.ok z->f (a z) kn0 (I.st z).as λe kn' s'=>match e with
   |.normal=>jWO n next s'
   |e=>Q e kn' s')/\jKb n f Q next
 |_=>True
def yQC(e:Int):Ann->Prop
 |.opt v _ next=>e=v\/yQC e next
 |_=>False
def jWC(f:Ann->Kn->AS->(zJS->Kn->AS->Prop)->Prop)(k:IntKind)(e:Int)(kn:Kn)(s:AS)(t:Nat)(Q:zJS->Kn->AS->Prop):Ann->Prop
 |.opt v b next=>(e=v->f b (zVu kn (some t) none) (s.put (some t) (.one (.d (.int k v)))) Q)/\jWC f k e kn s t Q next
 |_=>True
def yXV(f:Ann->Kn->AS->(zJS->Kn->AS->Prop)->Prop)(kn:Kn)(s:AS)(t:Nat)(bs:Ann)(Q:zJS->Kn->AS->Prop):Prop:=
 match s.tm t with
 |.one (.d (.int k e))=>yQC e bs/\jWC f k e kn s t Q bs
 |_=>False
def jYZ(bx:Nat->Bx):Cap->Option (Bool × List DV)
 |.d v=>if v.plain.isSome then some (false,[v]) else none
 |.ptr b off=>if off=0 then match bx b with
  |.cells cs=>match dvs cs with
   |some ds=>if ds.all (λd=>d.plain.isSome) then some (true,ds) else none
   |none=>none
  |_=>none else none
def zVb(bx:Nat->Bx):List Cap->Option (List (Bool × List DV))
 |[]=>some []
 |c::cs=>match jYZ bx c,zVb bx cs with
  |some x,some xs=>some (x::xs)
  |_,_=>none
def AS.only(T:List Nat)(s:AS):AS:=⟨λt=>if T.contains t then s.tm t else .one .dead,s.bx⟩
def AS.putAll:AS->List Nat->List DV->AS
 |s,p::ps,d::ds=>(s.put (some p) (.one (.d d))).putAll ps ds
 |s,_,_=>s
def Dom.pinned(n:Dom)(names:List Nat):Dom:=⟨n.n,n.keep,n.pin++names,n.round⟩
def Dom.inner(n:Dom)(T names:List Nat):Dom:=⟨n.n,λt=>n.keep t || T.contains t,n.pin++names,true⟩
def jGZ:DV->Prop
 |.int k n=>k.min<=n/\n<=k.max
 |.bool _=>True
 |.str s=>s.size<=maxLen
 |_=>False
def zUy:List DV->Prop
 |[]=>True
 |d::ds=>jGZ d/\zUy ds
def psOK(ps T:List Nat)(n:Dom):Bool:=(ps.all λp=>decide (p<n.n) && !T.contains p && !n.keep p)&&decide ps.Nodup
abbrev VCF:=Dom->Ann->Kn->AS->(zJS->Kn->AS->Prop)->Prop
def jVD(P:Program)(Γ:Gam)(n:Dom)(fA fB:VCF)(g:Operand)(ps:List Nat)(I:Inv)(T:List Nat)(a b:I.α->Ann)(s:AS)(Q:zJS->Kn->AS->Prop):Prop:=
 match s.eval g with
 |.one (.clo f cs)=>match zVb s.bx cs,enters P f && !n.round&&psOK ps T n with
  |some caps,true=>match Γ.iter f caps with
   |some (N,item)=>
    AnsI P f caps N item/\(∀k,k<N->(item k).length=ps.length/\zUy (item k)) /\
    (∃z,I.ok z/\I.μ z=0/\fits (n.pinned (cs.flatMap Cap.names)) s (I.st z)) /\
    (∀z,I.ok z->zVb (zYO (I.st z).bx) cs=some caps /\
     (I.μ z<N->fA (n.inner T (cs.flatMap Cap.names)) (a z) kn0 (((I.st z).as.only T).putAll ps (item (I.μ z))) λe kn' s'=>match e with
      |.normal=>fB (n.inner T (cs.flatMap Cap.names)) (b z) kn' s' λe kn' s'=>match e with
       |.normal=>∃y,I.ok y/\I.μ y=I.μ z+1/\fits (n.inner T (cs.flatMap Cap.names)) s' (I.st y)
       |e=>Q e kn0 (s'.only T)
      |_=>False) /\
     (I.μ z=N->Q .normal kn0 ((I.st z).as.only T)))
   |none=>False
  |_,_=>False
 |_=>False
def AS.meltC(s:AS):Cl->Cl
 |.ref b n=>match s.bx b with
  |.ice xs=>.d (.sl n xs)
  |_=>.ref b n
 |c=>c
def AS.meltB(s:AS)(b:Nat):AS:=match s.bx b with
 |.cells cs=>s.setB b (.cells (cs.map s.meltC))
 |_=>s
def AS.meltN(s:AS)(t:Nat):AS:=if t<500000 then s.melt1 t else s.meltB (t-500000)
def melts:AS->List Nat->AS
 |s,[]=>s
 |s,t::ts=>melts (s.meltN t) ts
def orIs(e:Int):List Int->Prop
 |[]=>False
 |v::vs=>e=v\/orIs e vs
def yZj(e:Int)(k:IntKind)(t:Nat)(s:AS)(K:AS->Prop):List Int->Prop
 |[]=>True
 |v::vs=>(e=v->K (s.put (some t) (.one (.d (.int k v)))))/\yZj e k t s K vs
def jVg(vs:List Int)(t:Nat)(s:AS)(K:AS->Prop):Prop:=
 match s.tm t with
 |.one (.d (.int k e))=>orIs e vs/\yZj e k t s K vs
 |_=>False
def yZG(P:Program)(Γ:Gam)(n:Dom)(ops:Array Oper)(ann:Ann)(kn:Kn)(s:AS)(K:Kn->AS->List (List Nat × List Nat)->Prop):Prop:=
 match ann with
 |.splitAt i t vs=>zKk P Γ n ops ((List.range ops.size).take (i+1)) kn s [] λkn' s' acc=>jVg vs t s' λs2=>zKk P Γ n ops ((List.range ops.size).drop (i+1)) kn' s2 acc K
 |_=>zKk P Γ n ops (List.range ops.size) kn s [] K
def vcg(P:Program)(Γ:Gam):Dom->Code->Ann->Kn->AS->(zJS->Kn->AS->Prop)->Prop
 |_,.skip,_,kn,s,Q=>Q .normal kn s
 |_,.label _,_,kn,s,Q=>Q .normal kn s
 |_,.exit id,_,kn,s,Q=>Q (.exit id) kn s
 |_,.ret,_,kn,s,Q=>Q .ret kn s
 |n,.region _ ops draw,ann,kn,s,Q=>yZG P Γ n ops ann kn s λkn' s' acc=>match draw with
  |true=>yQq ops (λi=>acc.reverse.getD i ([],[]))=true/\Q .normal kn' s'
  |false=>Q .normal kn' s'
 |n,.seq x y,ann,kn,s,Q=>match ann with
  |.cut I a b=>vcg P Γ n x a kn s (λe kn' s'=>match e with
    |.normal=>∃z,I.ok z/\fits n s' (I.st z)
    |e=>Q e kn' s')/\∀z,I.ok z->vcg P Γ n y (b z) kn0 (I.st z).as Q
  |.ice bs ts a b=>vcg P Γ n x a kn s λe kn' s'=>match e with
    |.normal=>vcg P Γ n y b kn' (melts (ices s' bs) ts) Q
    |e=>Q e kn' s'
  |.split a t bs=>vcg P Γ n x a kn s λe kn' s'=>match e with
    |.normal=>yXV (vcg P Γ n y) kn' s' t bs Q
    |e=>Q e kn' s'
  |ann=>vcg P Γ n x ann.l kn s λe kn' s'=>match e with
    |.normal=>vcg P Γ n y ann.r kn' s' Q
    |e=>Q e kn' s'
 |n,.cond c x y,ann,kn,s,Q=>match ann with
  |.sure b a=>match (s.eval c).bool? with
   |some b'=>b'=b/\match b with
    |true=>vcg P Γ n x a kn s Q
    |false=>vcg P Γ n y a kn s Q
   |none=>False
  |ann=>match kx kn c with
   |some true=>vcg P Γ n x ann.l kn s Q
   |some false=>vcg P Γ n y ann.r kn s Q
   |none=>match (s.eval c).bool? with
    |some b=>(b=true->vcg P Γ n x ann.l kn s Q)/\(b=false->vcg P Γ n y ann.r kn s Q)
    |none=>False
 |n,.block id c,ann,kn,s,Q=>vcg P Γ n c ann kn s λe kn' s'=>match e with
  |.exit id'=>match decide (id'=id) with
   |true=>Q .normal kn' s'
   |false=>Q (.exit id') kn' s'
  |e=>Q e kn' s'
 |n,.loop c,ann,kn,s,Q=>match ann with
  |.loop I a=>(∃z,I.ok z/\fits n s (I.st z))/\∀z,I.ok z->vcg P Γ n c (a z) kn0 (I.st z).as λe kn' s'=>match e with
    |.normal=>∃y,I.ok y/\I.μ y<I.μ z/\fits n s' (I.st y)
    |e=>Q e kn' s'
  |.link I a next=>jWO n (.link I a next) s/\jKb n (vcg P Γ n c) Q (.link I a next)
  |_=>False
 |n,.rangeFunc g ps x y,ann,kn,s,Q=>match ann with
  |.range I T a b=>jVD P Γ n (λn'=>vcg P Γ n' x) (λn'=>vcg P Γ n' y) g ps.toList I T a b s Q
  |_=>False
 |_,_,_,_,_,_=>False
variable{v:Value}{ι':zQm}{bx':Nat->Bx}{p:Prop}{r':Ren}{cs cs':List Cl}
section
variable{w:World}{V:Nat->Prop}{ι:zQm}{bx:Nat->Bx}
def nm(ι:zQm)(r:Ren):zQm:=λb=>match zW2 r b with
 |some (some b')=>ι b'
 |_=>none
abbrev wQr:=@List.mem_singleton
theorem jUU{c c':Cap}{r:Ren}(hf:jWX c c'=some (p,r))(hp:p)(hr:∀q∈r,zW2 r' q.1=some q.2/\(bx' q.1).known=true)(hι:∀b,ι' b=nm ι r' b)(h:zWT ι bx w V c' v):zWT ι' bx' w V c v:=by
 unfold jWX at hf;split at hf<;>first
  |(injection hf with hf;injection hf with hf1 hf2;subst hf1 hf2)
  |cases hf
 .subst hp;exact h
 .obtain⟨h1,g,c,h2,h3⟩:=h;subst hp;obtain⟨e1,e2⟩:=hr _ (wQr.2 rfl);simp only at e1 e2;exact⟨e2,g,c,by rw[hι];simp only[nm,e1];exact h2,h3⟩
theorem jQ7{ι':zQm}{bx':Nat->Bx}{r':Ren}(hι:∀b,ι' b=nm ι r' b):∀{cs cs':List Cap}{vs:List Value}{p:Prop}{r:Ren},jQ8 cs cs'=some (p,r)->p->(∀q∈r,zW2 r' q.1=some q.2/\(bx' q.1).known=true) ->
  zX0 ι bx w V cs' vs->zX0 ι' bx' w V cs vs
 |[],[],[],_,_,_,_,_,_=>trivial
 |[],[],_::_,_,_,_,_,_,h=>h.elim
 |c::cs,c'::cs',[],_,_,_,_,_,h=>h.elim
 |c::cs,c'::cs',v::vs,p,r,hf,hp,hr,h=>by
  simp only[jQ8]at hf
  cases h1:jWX c c' with
  |none=>rw[h1]at hf;cases hf
  |some x=>
   cases h2:jQ8 cs cs' with
   |none=>rw[h1,h2]at hf;cases hf
   |some y=>
    rw[h1,h2]at hf;simp only[wQa,wQc]at hf;obtain⟨rfl,rfl⟩:=hf;exact⟨jUU h1 hp.1 (λq hq=>hr q (by simp[hq])) hι h.1,jQ7 hι h2 hp.2 (λq hq=>hr q (by simp[hq])) h.2⟩
 |[],_::_,_,_,_,hf,_,_,_=>by cases hf
 |_::_,[],_,_,_,hf,_,_,_=>by cases hf
theorem jKE{c c':Cl}{r:Ren}(hf:jUT c c'=some (p,r))(hp:p)(hr:∀q∈r,zW2 r' q.1=some q.2/\(bx' q.1).known=true)(hι:∀b,ι' b=nm ι r' b)(h:zQs w V ι bx c' v):zQs w V ι' bx' c v:=by
 unfold jUT at hf;split at hf<;>first
  |(injection hf with hf;injection hf with hf1 hf2;subst hf1 hf2)
  |cases hf
  |skip
 .trivial
 .subst hp;exact h
 .subst hp;exact zYs (d:=.bool _) h rfl
 .subst hp;exact zYs (d:=.sl 0 []) h rfl
 .subst hp;exact h
 .exact h
 .obtain⟨h1,g,c,h2,h3⟩:=h;subst hp;obtain⟨e1,e2⟩:=hr _ (wQr.2 rfl);simp only at e1 e2;exact⟨e2,g,c,by rw[hι];simp only[nm,e1];exact h2,h3⟩
 .obtain⟨rfl,rfl⟩:=hp;exact h
 .obtain⟨h1,h2⟩:=h;subst hp;obtain⟨e1,e2⟩:=hr _ (wQr.2 rfl);simp only at e1 e2;exact⟨e2,by rw[hι];simp only[nm,e1];exact h2⟩
 .subst hp;obtain⟨e1,e2⟩:=hr _ (wQr.2 rfl);simp only at e1 e2;exact⟨e2,.inl ⟨by rw[hι];simp only[nm,e1],rfl,h⟩⟩
 .split at hf
  .rename_i e;subst e;obtain⟨lb,h1,h2⟩:=h;exact⟨lb,h1,jQ7 hι hf hp hr h2⟩
  .cases hf
theorem jQ6{ι':zQm}{bx':Nat->Bx}{r':Ren}(hι:∀b,ι' b=nm ι r' b):∀{cs cs':List Cl}{vs:List Value}{p:Prop}{r:Ren},zUa cs cs'=some (p,r)->p->(∀q∈r,zW2 r' q.1=some q.2/\(bx' q.1).known=true) ->
  zQO w V ι bx cs' vs->zQO w V ι' bx' cs vs
 |[],[],[],_,_,_,_,_,_=>trivial
 |[],[],_::_,_,_,_,_,_,h=>h.elim
 |c::cs,c'::cs',[],_,_,_,_,_,h=>h.elim
 |c::cs,c'::cs',v::vs,p,r,hf,hp,hr,h=>by
  simp only[zUa]at hf
  cases h1:jUT c c' with
  |none=>rw[h1]at hf;cases hf
  |some x=>
   cases h2:zUa cs cs' with
   |none=>rw[h1,h2]at hf;cases hf
   |some y=>
    rw[h1,h2]at hf;simp only[wQa,wQc]at hf;obtain⟨rfl,rfl⟩:=hf;exact⟨jKE h1 hp.1 (λq hq=>hr q (by simp[hq])) hι h.1,jQ6 hι h2 hp.2 (λq hq=>hr q (by simp[hq])) h.2⟩
 |[],_::_,_,_,_,hf,_,_,_=>by cases hf
 |_::_,[],_,_,_,hf,_,_,_=>by cases hf
theorem jXd{w:World}{V:Nat->Prop}{ι:zQm}{bx:Nat->Bx}:∀{cs:List Cl}{vs:List Value}{ds:List DV},jZe cs=some ds->zZo w V ds vs->zQO w V ι bx cs vs
 |[],[],_,_,_=>trivial
 |[],_::_,ds,hd,h=>by simp only[jZe,wQa]at hd;subst hd;exact h.elim
 |c::cs,vs,ds,hd,h=>by
  cases c<;>simp only[jZe,reduceCtorEq]at hd;rename_i v
  cases h2:jZe cs with
  |none=>rw[h2]at hd;cases hd
  |some ds'=>
   rw[h2]at hd;simp only[wQa]at hd;subst hd
   cases vs with
   |nil=>exact h.elim
   |cons u vs=>exact⟨h.1,jXd h2 h.2⟩
theorem yZ3{c:Cl}(h:nilC c=true):c=.lit (.pointer none):=by
 unfold nilC at h;split at h
 .rfl
 .cases h
theorem jV8{r:Ren}(hf:jXB cs cs'=some (p,r))(hp:p)(hn:zVR cs=true):zVR cs'=true:=by
 cases cs with
 |nil=>cases hn
 |cons c0 tl=>
  obtain rfl:=yZ3 hn;have h0:jZe (Cl.lit (.pointer none)::tl)=none:=rfl;unfold jXB at hf;rw[h0]at hf;simp only at hf
  cases cs' with
  |nil=>simp[zUa]at hf
  |cons c cs'=>
   simp only[zUa]at hf;split at hf
   .rename_i p1 r1 q1 r2 h1 h2;cases c<;>simp only[jUT,reduceCtorEq]at h1;rename_i u;simp only[wQa,wQc]at h1 hf;obtain⟨rfl,rfl⟩:=h1;obtain⟨rfl,rfl⟩:=hf;obtain⟨rfl,_⟩:=hp;rfl
   .cases hf
theorem jXA(hι:∀b,ι' b=nm ι r' b){vs:List Value}{r:Ren}(hf:jXB cs cs'=some (p,r))(hp:p)(hr:∀q∈r,zW2 r' q.1=some q.2/\(bx' q.1).known=true)(h:zQO w V ι bx cs' vs):zQO w V ι' bx' cs vs:=by
 unfold jXB at hf;split at hf
 .rename_i xs ys h1 h2;simp only[wQa,wQc]at hf;obtain⟨rfl,rfl⟩:=hf;subst hp;exact jXd h1 (zVK h h2)
 .exact jQ6 hι hf hp hr h
mutual
theorem jKF{ι':zQm}{bx':Nat->Bx}{r':Ren}(hι:∀b,ι' b=nm ι r' b):∀{x y:AV}{v:Value}{p:Prop}{r:Ren},zUb x y=some (p,r)->p->(∀q∈r,zW2 r' q.1=some q.2/\(bx' q.1).known=true) ->
  zQg w V ι bx y v->zQg w V ι' bx' x v
 |.one c,.one c',v,p,r,hf,hp,hr,h=>by
  simp only[zUb]at hf;simp only[zQg]at h |-;exact jKE hf hp hr hι h
 |.one c,.agg cs',v,p,r,hf,hp,hr,h=>by
  cases c<;>simp only[zUb,reduceCtorEq]at hf;simp only[zQg,zQs]
 |.one c,.tup vs',v,p,r,hf,hp,hr,h=>by
  cases c<;>simp only[zUb,reduceCtorEq]at hf;simp only[zQg,zQs]
 |.agg cs,.agg cs',v,p,r,hf,hp,hr,h=>by
  simp only[zUb]at hf;simp only[zQg]at h |-;obtain⟨cur,e,h⟩:=h;exact⟨cur,e,jXA hι hf hp hr h⟩
 |.tup vs,.tup vs',v,p,r,hf,hp,hr,h=>by
  simp only[zUb]at hf;simp only[zQg]at h |-;obtain⟨cur,e,h⟩:=h;exact⟨cur,e,fitAVs_rep hι hf hp hr h⟩
 |.agg _,.one _,_,_,_,hf,_,_,_=>by simp[zUb]at hf
 |.agg _,.tup _,_,_,_,hf,_,_,_=>by simp[zUb]at hf
 |.tup _,.one _,_,_,_,hf,_,_,_=>by simp[zUb]at hf
 |.tup _,.agg _,_,_,_,hf,_,_,_=>by simp[zUb]at hf
theorem fitAVs_rep{ι':zQm}{bx':Nat->Bx}{r':Ren}(hι:∀b,ι' b=nm ι r' b):∀{xs ys:List AV}{vs:List Value}{p:Prop}{r:Ren},fitAVs xs ys=some (p,r)->p->(∀q∈r,zW2 r' q.1=some q.2/\(bx' q.1).known=true) ->
  RepAVs w V ι bx ys vs->RepAVs w V ι' bx' xs vs
 |[],[],vs,_,_,_,_,_,h=>by
  cases vs with
  |nil=>simp only[RepAVs]
  |cons _ _=>simp only[RepAVs]at h
 |x::xs,y::ys,[],_,_,_,_,_,h=>by simp only[RepAVs]at h
 |x::xs,y::ys,v::vs,p,r,hf,hp,hr,h=>by
  simp only[fitAVs]at hf
  cases h1:zUb x y with
  |none=>rw[h1]at hf;cases hf
  |some a=>
   cases h2:fitAVs xs ys with
   |none=>rw[h1,h2]at hf;cases hf
   |some b=>
    rw[h1,h2]at hf;simp only[wQa,wQc]at hf;obtain⟨rfl,rfl⟩:=hf;simp only[RepAVs]at h |-;exact⟨jKF hι h1 hp.1 (λq hq=>hr q (by simp[hq])) h.1,fitAVs_rep hι h2 hp.2 (λq hq=>hr q (by simp[hq])) h.2⟩
 |[],_::_,_,_,_,hf,_,_,_=>by simp[fitAVs]at hf
 |_::_,[],_,_,_,hf,_,_,_=>by simp[fitAVs]at hf
end
end
theorem jWW{s:AS}:∀{l:List (Nat × AV)}{p:Prop}{r:Ren},jHG s l=some (p,r)->p->∀t,jUJ l t=.one .dead\/∃q r1,zUb (jUJ l t) (s.tm t)=some (q,r1)/\q/\∀x∈r1,x∈r
 |[],_,_,_,_,t=>.inl rfl
 |(t',v)::l,p,r,hf,hp,t=>by
  simp only[jHG]at hf
  cases h1:zUb v (s.tm t') with
  |none=>rw[h1]at hf;cases hf
  |some a=>
   cases h2:jHG s l with
   |none=>rw[h1,h2]at hf;cases hf
   |some b=>
    rw[h1,h2]at hf;simp only[wQa,wQc]at hf;obtain⟨rfl,rfl⟩:=hf;simp only[jUJ];by_cases e:t=t'
    .subst e;rw[if_pos rfl];exact .inr ⟨a.1,a.2,h1,hp.1,λx hx=>by simp[hx]⟩
    .rw[if_neg e]
     rcases jWW h2 hp.2 t with h3|⟨q,r1,h3,h4,h5⟩
     .exact .inl h3
     .exact .inr ⟨q,r1,h3,h4,λx hx=>by simp[h5 x hx]⟩
theorem zYf{s:AS}:∀{l:List (Nat × Bx)}{r r':Ren}{p:Prop},zHh s l r=some (p,r')->∀x∈r,x∈r'
 |[],r,r',p,h,x,hx=>by simp only[zHh,wQa,wQc]at h;rw[<-h.2];exact hx
 |(b,B)::l,r,r',p,h,x,hx=>by
  simp only[zHh]at h;split at h
  .split at h
   .split at h
    .rename_i h3;simp only[wQa,wQc]at h;rw[<-h.2];exact zYf h3 x (by simp[hx])
    .cases h
   .cases h
  .split at h
   .split at h
    .rename_i h3;simp only[wQa,wQc]at h;rw[<-h.2];exact zYf h3 x hx
    .cases h
   .cases h
  .cases h
theorem jQp:∀{r:Ren}{b:Nat}{x:Option Nat},zW2 r b=some x->(b,x)∈r
 |[],_,_,h=>by cases h
 |(b',y)::r,b,x,h=>by
  simp only[zW2]at h;split at h
  .rename_i e;injection h with h;subst e h;simp
  .simp[jQp h]
theorem zUW{s:AS}:∀{l:List (Nat × Bx)}{r r':Ren}{p:Prop},zHh s l r=some (p,r')->p->(l.map (·.1)).Nodup->∀b B,(b,B)∈l ->
  (∃b' q r1,(b,some b')∈r'/\jUV B (s.bx b')=some (q,r1)/\q/\∀x∈r1,x∈r')\/((b,none)∈r'/\∃e size,B=.row e size [])
 |(b0,B0)::l,r,r',p,h,hp,hn,b,B,hm=>by
  simp only[wQi,wXB]at hn;simp only[zHh]at h;split at h
  .rename_i b' hren;split at h
   .rename_i q r1 h2;split at h
    .rename_i q2 r2 h3;simp only[wQa,wQc]at h;obtain⟨rfl,rfl⟩:=h
     rcases wQm.1 hm with e|hm
     .injection e with e1 e2
      subst e1 e2;exact .inl ⟨b',q,r1,zYf h3 _ (by simp[jQp hren]),h2,hp.1,λx hx=>zYf h3 x (by simp[hx])⟩
     .exact zUW h3 hp.2 hn.2 b B hm
    .cases h
   .cases h
  .rename_i hren;split at h
   .rename_i e size xs;split at h
    .rename_i q2 r2 h3;simp only[wQa,wQc]at h;obtain⟨rfl,rfl⟩:=h
     rcases wQm.1 hm with e'|hm
     .injection e' with e1 e2
      subst e1 e2;exact .inr ⟨zYf h3 _ (jQp hren),e,size,by rw[<-hp.1]⟩
     .exact zUW h3 hp.2 hn.2 b B hm
    .cases h
   .cases h
  .cases h
theorem jJ9:∀{l:List (Nat × Bx)}{b:Nat},(zYO l b).known=true->(b,zYO l b)∈l
 |[],_,h=>by simp[zYO,Bx.known]at h
 |(b',B)::l,b,h=>by
  simp only[zYO]at h |-;by_cases e:b=b'
  .subst e;simp
  .rw[if_neg e]at h |-;simp[jJ9 h]
theorem zHc:∀{l:List (Nat × Bx)}{b:Nat}{B:Bx},(l.map (·.1)).Nodup->(b,B)∈l->zYO l b=B
 |(b',B')::l,b,B,hn,h=>by
  simp only[wQi,wXB]at hn
  rcases wQm.1 h with e|h
  .injection e with e1 e2;subst e1 e2;simp[zYO]
  .have:b≠b':=λe=>hn.1 (by rw[<-e];exact wQw.2 ⟨_,h,rfl⟩);simp only[zYO,if_neg this];exact zHc hn.2 h
abbrev wZL:=@eq_of_beq
variable{n:Dom}{sn:Snap}
theorem RepS.fit0(h:RepS w0 S n s ι a w)(hf:yXm n s sn):∃ι',RepS w0 S n sn.as ι' a w:=by
 unfold yXm at hf;split at hf
 .rename_i p r h1;split at hf
  .rename_i q r' h2;split at hf
   .rename_i hok;obtain⟨hp,hq⟩:=hf;simp only[yXT,wQd,List.all_eq_true,wQf]at hok;obtain⟨⟨o1,o2⟩,o3⟩:=hok;have hren:∀x∈r',zW2 r' x.1=some x.2:=λx hx=>by
     have:=(o1 x hx).1;exact wZL this
    have hinj:∀b1 b2 b',(b1,some b')∈r'->(b2,some b')∈r'->b1=b2:=λb1 b2 b' m1 m2=>by
     have:=o2 _ m1 _ m2;simpa using this
    have hat:∀b,(zYO sn.bx b).known=true->(∃b' q r1,(b,some b')∈r'/\jUV (zYO sn.bx b) (s.bx b')=some (q,r1)/\q/\∀x∈r1,x∈r')\/((b,none)∈r'/\∃e size,zYO sn.bx b=.row e size []):=
     λb hk=>zUW h2 hq o3 b _ (jJ9 hk)
    have hbxk:∀x∈r',(sn.as.bx x.1).known=true:=λx hx=>by
     have:=(o1 x hx).2;rw[List.any_eq_true]at this;obtain⟨y,hy,e⟩:=this;have e:y.1=x.1:=wZL e;have hy':(x.1,y.2)∈sn.bx:=by rw[<-e];exact hy
     have hl:=zHc o3 hy'
     show(zYO sn.bx x.1).known=true
     rw[hl];have hno:∀B,(x.1,B)∈sn.bx->B.known=true:=λB hB=>by
      rcases zUW h2 hq o3 x.1 B hB with⟨b',q,r1,_,hfb,_⟩|⟨_,e',size,rfl⟩
      .cases B<;>simp_all [jUV,Bx.known]
      .rfl
     exact hno _ hy'
    have hknown:∀x∈r',zW2 r' x.1=some x.2/\(sn.as.bx x.1).known=true:=λx hx=>⟨hren x hx,hbxk x hx⟩
    have hlive:∀b,(sn.as.bx b).live=true->(∃b',(b,some b')∈r'/\(s.bx b').live=true/\nm ι r' b=ι b')\/nm ι r' b=none:=λb hl=>by
     have hk:(zYO sn.bx b).known=true:=by
      have hl':(zYO sn.bx b).live=true:=hl;cases hB:zYO sn.bx b<;>rw[hB]at hl'<;>first|rfl|cases hl'
     rcases hat b hk with⟨b',q,r1,m,hfb,_⟩|⟨m,_⟩
     .left;refine⟨b',m,?_,by simp only[nm,hren _ m]⟩;have hl':(zYO sn.bx b).live=true:=hl;cases hB:zYO sn.bx b<;>cases hB':s.bx b'<;>rw[hB,hB']at hfb<;>simp only[jUV,reduceCtorEq]at hfb<;>first|rfl|(rw[hB]at hl';cases hl')
     .right;simp only[nm,hren _ m]
    have hkeep:zZJ w (Seen S w0.heap.size s.bx ι) w (Seen S w0.heap.size sn.as.bx (nm ι r')):=λg off u hV hu=>⟨⟨hV.1,λb c hl e=>by
     rcases hlive b hl with⟨b',_,hl',e'⟩|e'
     .exact hV.2 b' c hl' (by rw[<-e'];exact e)
     .rw[e']at e;cases e⟩,hu⟩
    have hVmono:∀{x:AV}{v:Value},zQg w (Seen S w0.heap.size s.bx ι) ι s.bx x v->zQg w (Seen S w0.heap.size sn.as.bx (nm ι r')) ι s.bx x v:=λhx=>hx.keep (λb hb=>⟨hb,rfl⟩) hkeep;refine⟨nm ι r',h.bel,h.marks,h.oth,h.size,h.fix,λb hb=>?_,λt=>?_,λb=>?_,λb g c hl e=>?_,λb1 b2 g c c' hl hl' hne e=>?_,h.glob.keep hkeep⟩
    .have hm:(b,some b)∈r':=zYf h2 _ (by simp only[pins,List.mem_append,wQw];exact .inr ⟨b,hb,rfl⟩);exact⟨by simp only[nm,hren _ hm];exact(h.pin b hb).1,hbxk _ hm⟩
    .rcases jWW h1 hp t with hd|⟨q,r1,g1,g2,g3⟩
     .show zQg _ _ _ _ (jUJ sn.tm t) _
      rw[hd];simp only[zQg,zQs]
     .exact jKF (λ_=>rfl) g1 g2 (λx hx=>hknown x (zYf h2 x (by simp[g3 x hx]))) (hVmono (h.tm t))
    .show zX1 _ _ _ _ b (zYO sn.bx b)
     cases hk:(zYO sn.bx b).known with
     |false=>cases hB:zYO sn.bx b<;>rw[hB]at hk<;>first|trivial|cases hk
     |true=>
      rcases hat b hk with⟨b',q,r1,m,hfb,hq1,hr1⟩|⟨m,e,size,hB⟩
      .have hnm:nm ι r' b=ι b':=by simp only[nm,hren _ m]
       have hrb:=h.bx b';cases hB:zYO sn.bx b<;>cases hB':s.bx b'<;>rw[hB,hB']at hfb<;>simp only[jUV,reduceCtorEq]at hfb<;>rw[hB']at hrb
       .trivial
       .obtain⟨g,c,cur,T,g1,g2,g0,g3⟩:=hrb;refine⟨g,c,cur,T,by rw[hnm];exact g1,g2,zUQ g0 (jV8 hfb hq1),?_⟩;exact jXA (λ_=>rfl) hfb hq1 (λx hx=>hknown x (hr1 x hx)) (g3.keep (λb hb=>⟨hb,rfl⟩) hkeep)
       .split at hfb
        .rename_i hes;simp only[wQa,wQc]at hfb;obtain⟨rfl,rfl⟩:=hfb;subst hq1;obtain⟨rfl,rfl⟩:=hes
         rcases hrb with⟨g1,g2⟩|⟨g,cap,cur,g1,g2,g3,g4,g5⟩
         .exact .inl ⟨by rw[hnm];exact g1,g2⟩
         .exact .inr ⟨g,cap,cur,by rw[hnm];exact g1,g2,g3,g4,g5.keep hkeep⟩
        .cases hfb
       .simp only[wQa,wQc]at hfb;obtain⟨rfl,rfl⟩:=hfb;subst hq1
        rcases hrb with⟨g1,g2⟩|⟨g,cap,g1,g2,g3⟩
        .exact .inl ⟨by rw[hnm];exact g1,g2⟩
        .exact .inr ⟨g,cap,by rw[hnm];exact g1,g2.keep hkeep,g3⟩
      .rw[hB];exact .inl ⟨by simp only[nm,hren _ m],rfl⟩
    .rcases hlive b hl with⟨b',_,hl',e'⟩|e'
     .exact h.own b' g c hl' (by rw[<-e'];exact e)
     .rw[e']at e;cases e
    .rcases hlive b1 hl with⟨b1',m1,hl1,e1⟩|e1
     .rcases hlive b2 hl' with⟨b2',m2,hl2,e2⟩|e2
      .rw[e1]at e;rw[e2];refine h.dist b1' b2' g c c' hl1 hl2 (λe'=>hne ?_) e;subst e';exact hinj _ _ _ m1 m2
      .rw[e2];simp
     .rw[e1]at e;cases e
   .exact hf.elim
  .exact hf.elim
 .exact hf.elim
theorem RepS.melt1{w0:World}{S:zQ3}{n:Dom}{s:AS}{ι:zQm}{a:Act}{w:World}(h:RepS w0 S n s ι a w)(t:Nat):RepS w0 S n (s.melt1 t) ι a w:=by
 unfold AS.melt1;split
 .rename_i b m ht;split
  .rename_i xs hin;have h2:=h.freeze b;refine⟨h2.bel,h2.marks,h2.oth,h2.size,h2.fix,h2.pin,λt'=>?_,h2.bx,h2.own,h2.dist,h2.glob⟩;by_cases e:t'=t
   .subst e;have hv:=h2.tm t';have hb:=h2.bx b;have e1:(s.setB b (s.bx b).freeze).bx b=.ice xs:=by
     simp only[AS.setB,if_true];revert hin;cases s.bx b<;>intro hin<;>simp only[zXJ,wQa,reduceCtorEq]at hin<;>subst hin<;>rfl
    have e2:(s.setB b (s.bx b).freeze).tm t'=.one (.ref b m):=ht;rw[e2]at hv;rw[e1]at hb
    show zQg _ _ _ _ (if t'=t' then .one (.d (.sl m xs)) else s.tm t') _
    rw[if_pos rfl];simp only[zQg,zQs]at hv |-;simp only[RepD];obtain⟨_,hv⟩:=hv
    rcases hb with⟨g1,g2⟩|⟨g,cap,g1,g2,g3⟩
    .subst g2
     rcases hv with⟨_,q1,q2⟩|⟨g',cap',q1,_⟩
     .exact⟨none,0,by rw[q1];exact q2,by omega,wQj _,λhne=>absurd rfl hne⟩
     .rw[g1]at q1;cases q1
    .rcases hv with⟨q1,_⟩|⟨g',cap',q1,q2,q3⟩
     .rw[g1]at q1;cases q1
     .rw[g1]at q1;simp only[wQa,wQc]at q1;obtain⟨rfl,rfl⟩:=q1;exact⟨_,cap,q2,q3,g3,λhne=>⟨g,0,rfl,g2 hne⟩⟩
   .have:=h2.tm t'
    show zQg _ _ _ _ (if t'=t then .one (.d (.sl m xs)) else s.tm t') _
    rw[if_neg e];exact this
  .exact h
 .exact h
theorem jGP(h:RepS w0 S n s ι a w){c:Cl}(hc:zQs w (Seen S w0.heap.size s.bx ι) ι s.bx c v):zQs w (Seen S w0.heap.size s.bx ι) ι s.bx (s.meltC c) v:=by
 unfold AS.meltC;split
 .rename_i b m;split
  .rename_i xs hB;have hb:=h.bx b;rw[hB]at hb;simp only[zQs]at hc |-;simp only[RepD];obtain⟨_,hv⟩:=hc
   rcases hb with⟨g1,g2⟩|⟨g,cap,g1,g2,g3⟩
   .subst g2
    rcases hv with⟨_,q1,q2⟩|⟨g',cap',q1,_⟩
    .exact⟨none,0,by rw[q1];exact q2,by omega,wQj _,λhne=>absurd rfl hne⟩
    .rw[g1]at q1;cases q1
   .rcases hv with⟨q1,_⟩|⟨g',cap',q1,q2,q3⟩
    .rw[g1]at q1;cases q1
    .rw[g1]at q1;simp only[wQa,wQc]at q1;obtain⟨rfl,rfl⟩:=q1;exact⟨_,cap,q2,q3,g3,λhne=>⟨g,0,rfl,g2 hne⟩⟩
  .exact hc
 .exact hc
theorem jXb{w0:World}{S:zQ3}{n:Dom}{s:AS}{ι:zQm}{a:Act}{w:World}(h:RepS w0 S n s ι a w):∀{cs:List Cl}{vs:List Value},zQO w (Seen S w0.heap.size s.bx ι) ι s.bx cs vs->zQO w (Seen S w0.heap.size s.bx ι) ι s.bx (cs.map s.meltC) vs
 |[],[],_=>trivial
 |_::_,_::_,hc=>⟨jGP h hc.1,jXb h hc.2⟩
 |[],_::_,hc=>hc.elim
 |_::_,[],hc=>hc.elim
theorem RepS.meltB{w0:World}{S:zQ3}{n:Dom}{s:AS}{ι:zQm}{a:Act}{w:World}(h:RepS w0 S n s ι a w)(b:Nat):RepS w0 S n (s.meltB b) ι a w:=by
 unfold AS.meltB;split
 .rename_i cs hB;have hlive:∀x,((s.setB b (.cells (cs.map s.meltC))).bx x).live=(s.bx x).live:=λx=>by
   by_cases e:x=b
   .subst e;simp[AS.setB,hB,Bx.live]
   .simp[AS.setB,e]
  have hkeep:zZJ w (Seen S w0.heap.size s.bx ι) w (Seen S w0.heap.size (s.setB b (.cells (cs.map s.meltC))).bx ι):=λg off u hV hu=>⟨⟨hV.1,λx c hl e=>hV.2 x c (by rw[<-hlive x];exact hl) e⟩,hu⟩
  have hstay:zWD ι s.bx ι (s.setB b (.cells (cs.map s.meltC))).bx:=λx hk=>by
   refine⟨?_,rfl⟩;by_cases e:x=b
   .simp[AS.setB,e,Bx.known]
   .simpa [AS.setB,e]using hk
  refine h.move (bx':=(s.setB b (.cells (cs.map s.meltC))).bx) h.bel (zYR (Nat.le_refl _) λ_ _ _ _=>rfl) hstay hkeep (λx=>?_) (λx g c hl e=>h.own x g c (by rw[<-hlive x];exact hl) e) (λx x' g c c' hl hl' hxx e=>h.dist x x' g c c' (by rw[<-hlive x];exact hl) (by rw[<-hlive x'];exact hl') hxx e);by_cases e:x=b
  .subst e;right;have hb:=h.bx x;rw[hB]at hb;have e1:(s.setB x (.cells (cs.map s.meltC))).bx x=.cells (cs.map s.meltC):=by simp[AS.setB]
   rw[e1];obtain⟨g,c,cur,T,h1,h2,h3,h4⟩:=hb;refine⟨g,c,cur,T,h1,h2,zUQ h3 (λhh=>?_),(jXb h h4).keep hstay hkeep⟩
   cases cs with
   |nil=>exact hh
   |cons c0 cs0=>
    cases c0 with
    |ref b0 n0=>
     exfalso;simp only[wQi,AS.meltC]at hh;split at hh<;>cases hh
    |_=>exact hh
  .left;exact⟨by simp[AS.setB,e],λ_ _ _ _=>rfl⟩
 .exact h
theorem RepS.meltN{w0:World}{S:zQ3}{n:Dom}{s:AS}{ι:zQm}{a:Act}{w:World}(h:RepS w0 S n s ι a w)(t:Nat):RepS w0 S n (s.meltN t) ι a w:=by
 unfold AS.meltN;split
 .exact h.melt1 t
 .exact h.meltB _
theorem RepS.trim1{w0:World}{S:zQ3}{n:Dom}{s:AS}{ι:zQm}{a:Act}{w:World}(h:RepS w0 S n s ι a w)(t:Nat):RepS w0 S n (s.trim1 t) ι a w:=by
 unfold AS.trim1;split
 .split
  .rename_i hB;exact h.trunc hB _
  .exact h
 .exact h
theorem RepS.meltFor{w0:World}{S:zQ3}{n:Dom}{ι:zQm}{a:Act}{w:World}:∀(l:List (Nat × AV)){s:AS},RepS w0 S n s ι a w->RepS w0 S n (meltFor l s) ι a w
 |[],_,h=>h
 |(t,v)::l,s,h=>by
  unfold Go.Proofs.YtbnmadpcdlnleaaGreatDoor.meltFor;split
  .rename_i e;cases e
  .rename_i t' d l' e;injection e with e1 e2
   injection e1 with e3 e4
   subst e2 e3;exact RepS.meltFor _ (h.melt1 _)
  .rename_i t' l' e;injection e with e1 e2
   injection e1 with e3 e4
   subst e2 e3;exact RepS.meltFor _ (h.trim1 _)
  .rename_i p l' _ _ e;injection e with e1 e2
   subst e2;exact RepS.meltFor _ h
theorem RepS.fit(h:RepS w0 S n s ι a w)(hf:fits n s sn):∃ι',RepS w0 S n sn.as ι' a w:=
 (h.meltFor sn.tm).fit0 hf
def zJS.exit_:zJS->Exit
 |.normal=>.normal
 |.exit id=>.exit id
 |.ret=>.ret
variable{Q:zJS->Kn->AS->Prop}{row:Option Nat}{w':World}{ann:Ann}{d:DV}
section
variable{P:Program}{Γ:Gam}
theorem zHe(s:AS):KnOK kn0 s:=λ_ _ h=>by cases h
theorem RepS.turn(h:RepS w0 S n s ι a w)(hg:w.grownBy w' row)(hr:∀r,row=some r->w0.heap.size<=r/\∃o:Obj,w.heap[r]?=some o/\o.isCells=false){ds:List Deferred}(hm:jZY w0 ds w'){ref:World}(ho:KeepsOthers ref w') :
  RepS w0 { S with ref:=ref } n s ι { a with defers:=ds } w':=by
 have hk:zZJ w (Seen S w0.heap.size s.bx ι) w' (Seen { S with ref:=ref } w0.heap.size s.bx ι):=λg off u hV hu=>⟨hV,cell_kept hu hg λr e=>(hr r e).2⟩
 have hl:∀b g c,(s.bx b).live=true->ι b=some (g,c)->w'.heap[g]?=w.heap[g]?:=λb g c hb hι=>by
  refine hg.block g (h.own b g c hb hι).2 λe=>?_;obtain⟨o,h1,h2⟩:=(hr g e.symm).2;obtain⟨cur,T,i,h3⟩:=h.live_cells hb hι;rw[h3]at h1;injection h1 with h1
  subst h1;cases h2
 refine⟨⟨hg.os.trans h.bel.os,hg.tape.trans h.bel.tape,hg.output.trans h.bel.output,wQJ h.bel.size hg.size,λg h1 h2=>?_⟩,hm,ho,h.size,h.fix,h.pin,λt=>(h.tm t).keep (λb hb=>⟨hb,rfl⟩) hk,λb=>?_,
  λb g c hb hι=>⟨(h.own b g c hb hι).1,wZx (h.own b g c hb hι).2 hg.size⟩,h.dist,h.glob.keep hk⟩
 .refine(hg.block g (wZx h1 h.bel.size) λe=>?_).trans (h.bel.block g h1 h2);have:=(hr g e.symm).1;omega
 .cases hkn:(s.bx b).known with
  |true=>exact zX1.keep (λb hb=>⟨hb,rfl⟩) hk hkn hkn (λhb g c hι=>hl b g c hb hι) (h.bx b)
  |false=>cases hB:s.bx b<;>rw[hB]at hkn<;>first|trivial|(simp[Bx.known]at hkn)
theorem zGP{ref:World}(h:KeepsOthers ref w)(hg:w.grownBy w' row)(hr:∀r,row=some r->B<=r)(hB:ref.heap.size<=B):KeepsOthers ref w':=
 ⟨wQJ h.size hg.size,λk o hk ho=>by
  have hlt:k<ref.heap.size:=(wZg.1 hk).1;refine(hg.block k (wZx hlt h.size) λe=>?_).trans (h.same k o hk ho);have:=hr k e.symm
  omega⟩
theorem jXp{ds:List Deferred}(h:jZY w0 ds w)(hg:w.grownBy w' row)(hr:∀r,row=some r->B<=r)(hB:∀d∈ds,∀D,d={ target:=.collected D,args:=#[] }->D<B):jZY w0 ds w':=
 ⟨h.1,λd hd=>by
  obtain⟨D,e,h1,h2⟩:=h.2 d hd;refine⟨D,e,h1,(hg.block D (wZg.1 h2).1 λe'=>?_).trans h2⟩;have:=hr D e'.symm;have:=hB d hd D e
  omega⟩
theorem yQb(hF:Wide F){id:Nat}{ops:Array Oper}{draw:Bool}(hm:P.follows .mixedOrders=true)(h:zKk P Γ n ops (List.range ops.size) kn s [] λkn' s' acc=>match draw with
  |true=>yQq ops (λi=>acc.reverse.getD i ([],[]))=true/\Q .normal kn' s'
  |false=>Q .normal kn' s')(hk:KnOK kn s){w0:World}{S:zQ3}{ι:zQm}{a:Act}{w:World}(hr:RepS w0 S n s ι a w){Q':Exit->Act->World->Prop}(hQ:∀e kn' s' ι' a' w',Q e kn' s'->KnOK kn' s'->RepS w0 S n s' ι' a' w'->Q' e.exit_ a' w'):(Code.region id ops draw).wpIn F m P Q' a w:=by
 obtain⟨kn',s',ts,h1,h2,h3,h4⟩:=zGi h hk;have hτ:∀(k i:Nat),(List.range ops.size)[k]?=some i->(λi=>(ts.reverse++[]).reverse.getD i ([],[])) i=ts.getD k ([],[]):=λk i hi=>by
  have:k=i:=by
   have hlt:=(wQE.1 hi).1;simp at hlt;simp[hlt]at hi;exact hi
  subst this;simp
 have hruns:=h4 _ hτ
 cases draw with
 |false=>
  simp only at h1;exact wpIn_region (jZ2 hF hruns hr λι' a' w' hr'=>hQ .normal kn' s' ι' a' w' h1 h2 hr')
 |true=>
  simp only at h1;obtain⟨hok,h1⟩:=h1;refine wpIn_region_any hm ?_;have hleft:left ops (Array.replicate ops.size false)=List.range ops.size:=by
   unfold left;rw[wYr];intro i hi;have:i<ops.size:=wQy.1 hi;simp[Array.getD,this]
  have hr1:RepS w0 S n s ι a { w with drawn:=w.drawn+1 }:=hr.quiet ⟨hr.bel.os,hr.bel.tape,hr.bel.output,hr.bel.size,hr.bel.block⟩ rfl
  exact yQj hF hok (λι' a' w' hr'=>hQ .normal kn' s' ι' a' w' h1 h2 hr') ops.size _ s ι a _ (λi o ho hl hs=>by
   have:i<ops.size:=by simpa using hs
   simp[Array.getD,this]at hl) (by simp) (by rw[hleft];simp) (by rw[hleft];exact hruns) hr1
theorem yQJ(h:KnOK kn s):KnOK kn (s.melt1 t):=λt' b hb=>by
 have h1:=h t' b hb;unfold AS.melt1;split
 .rename_i b' m ht;split
  .simp only;split
   .rename_i e;subst e;rw[ht]at h1;cases h1
   .exact h1
  .exact h1
 .exact h1
theorem jWK{kn:Kn}:∀(ts:List Nat){s:AS},KnOK kn s->KnOK kn (melts s ts)
 |[],_,h=>h
 |t::ts,s,h=>jWK ts (by
   unfold AS.meltN;split
   .exact yQJ h
   .unfold AS.meltB;split
    .exact h
    .exact h)
theorem RepS.melts{w0:World}{S:zQ3}{n:Dom}{ι:zQm}{a:Act}{w:World}:∀(ts:List Nat){s:AS},RepS w0 S n s ι a w->RepS w0 S n (melts s ts) ι a w
 |[],_,h=>h
 |t::ts,_,h=>RepS.melts ts (h.meltN t)
theorem zKj{n:Dom}{ops:Array Oper}:∀{R:List Nat}{kn:Kn}{s:AS}{acc:List (List Nat × List Nat)}{Q Q':Kn->AS->List (List Nat × List Nat)->Prop},(∀kn s acc,Q kn s acc->Q' kn s acc)->zKk P Γ n ops R kn s acc Q->zKk P Γ n ops R kn s acc Q'
 |[],kn,s,acc,Q,Q',hQ,h=>hQ _ _ _ h
 |i::R,kn,s,acc,Q,Q',hQ,h=>by
  unfold zKk at h |-;split at h
  .exact h.elim
  .split at h
   .exact h.elim
   .split at h
    .exact⟨h.1,zKj hQ h.2⟩
    .exact h.elim
   .split at h
    .exact zKj hQ h
    .exact h.elim
   .refine⟨λe=>?_,λe=>?_⟩
    .have h:=h.1 e;split at h
     .exact⟨h.1,zKj hQ h.2⟩
     .exact h.elim
    .have h:=h.2 e;split at h
     .exact zKj hQ h
     .exact h.elim
theorem zY7{n:Dom}{ops:Array Oper}{B:List Nat}{Q:Kn->AS->List (List Nat × List Nat)->Prop}:∀{A:List Nat}{kn:Kn}{s:AS}{acc:List (List Nat × List Nat)},zKk P Γ n ops A kn s acc (λkn' s' acc'=>zKk P Γ n ops B kn' s' acc' Q)->zKk P Γ n ops (A++B) kn s acc Q
 |[],kn,s,acc,h=>h
 |i::A,kn,s,acc,h=>by
  rw[List.cons_append];unfold zKk at h |-;split at h
  .exact h.elim
  .split at h
   .exact h.elim
   .split at h
    .exact⟨h.1,zY7 h.2⟩
    .exact h.elim
   .split at h
    .exact zY7 h
    .exact h.elim
   .refine⟨λe=>?_,λe=>?_⟩
    .have h:=h.1 e;split at h
     .exact⟨h.1,zY7 h.2⟩
     .exact h.elim
    .have h:=h.2 e;split at h
     .exact zY7 h
     .exact h.elim
theorem jXJ{e:Int}{k:IntKind}{t:Nat}{s:AS}{K:AS->Prop}:∀{vs:List Int},orIs e vs->yZj e k t s K vs->K (s.put (some t) (.one (.d (.int k e))))
 |v::vs,h1,h2=>by
  simp only[orIs]at h1;simp only[yZj]at h2
  rcases h1 with rfl|h1
  .exact h2.1 rfl
  .exact jXJ h1 h2.2
 |[],h1,_=>h1.elim
theorem jJy{vs:List Int}{K:AS->Prop}(h:jVg vs t s K):K s:=by
 unfold jVg at h;split at h
 .rename_i k e ht;have:=jXJ h.1 h.2;have hs:s.put (some t) (.one (.d (.int k e)))=s:=by
   refine AS.ext' ?_ rfl;funext t';simp only[AS.put];split
   .rename_i e';rw[e',ht]
   .rfl
  rwa [hs]at this
 .exact h.elim
theorem jGb{ops:Array Oper}{K:Kn->AS->List (List Nat × List Nat)->Prop}(h:yZG P Γ n ops ann kn s K):zKk P Γ n ops (List.range ops.size) kn s [] K:=by
 unfold yZG at h;split at h
 .rename_i i t vs;have h2:=zY7 (zKj (λ_ _ _ h=>jJy h) h);rwa [wZJ]at h2
 .exact h
def jUd(P:Program)(f:VCF)(c:Code):Prop:=
 ∀(n:Dom)(ann:Ann)(kn:Kn)(s:AS)(Q:zJS->Kn->AS->Prop),f n ann kn s Q->KnOK kn s->∀(F:Fence),Wide F->(n.round=false->F=Fence.wide) ->
  ∀(w0:World)(S:zQ3)(ι:zQm)(a:Act)(w:World),RepS w0 S n s ι a w->∀(m:Nat)(Q':Exit->Act->World->Prop),
  (∀e kn' s' ι' a' w',Q e kn' s'->KnOK kn' s'->RepS w0 S n s' ι' a' w'->Q' e.exit_ a' w')->c.wpIn F m P Q' a w
def jQI:Ann->Nat
 |.link _ _ next=>jQI next+1
 |_=>0
theorem jUK{f:VCF}{c:Code}(ih:jUd P f c)(h1:jWO n ann s)(h2:jKb n (f n) Q ann)(hF:Wide F)(hR:n.round=false->F=Fence.wide){w0:World}{S:zQ3}{ι:zQm}{a:Act}{w:World}(hr:RepS w0 S n s ι a w){m:Nat}{Q':Exit->Act->World->Prop}(hQ:∀e kn' s' ι' a' w',Q e kn' s'->KnOK kn' s'->RepS w0 S n s' ι' a' w'->Q' e.exit_ a' w'):(Code.loop c).wpIn F m P Q' a w:=by
 refine wpIn_loop_ghost (λk a w=>∃ann s ι,jQI ann=k/\jWO n ann s/\jKb n (f n) Q ann/\RepS w0 S n s ι a w) (jQI ann) ⟨ann,s,ι,rfl,h1,h2,hr⟩ λk a w hI=>?_;obtain⟨ann,s,ι,rfl,h1,h2,hr⟩:=hI;cases ann<;>first|exact h1.elim|skip
 rename_i I b next
 obtain⟨z,hz,hf⟩:=h1;obtain⟨ι2,hr2⟩:=hr.fit hf;simp only[jKb]at h2;refine ih n (b z) kn0 _ _ (h2.1 z hz) (zHe _) F hF hR w0 S ι2 a w hr2 m _ λe kn' s' ι' a' w' hq hk' hr'=>?_
 cases e with
 |normal=>exact⟨jQI next,by simp[jQI],next,s',ι',rfl,hq,h2.2,hr'⟩
 |exit id=>exact hQ (.exit id) kn' s' ι' a' w' hq hk' hr'
 |ret=>exact hQ .ret kn' s' ι' a' w' hq hk' hr'
theorem jWB{f:Ann->Kn->AS->(zJS->Kn->AS->Prop)->Prop}{kn:Kn}{s:AS}{t:Nat}{Q:zJS->Kn->AS->Prop}{k:IntKind}{e:Int}(ht:s.tm t=.one (.d (.int k e))) :
  ∀{bs:Ann},yQC e bs->jWC f k e kn s t Q bs->∃b,f b (zVu kn (some t) none) s Q
 |.opt v b next,h1,h2=>by
  simp only[yQC]at h1;simp only[jWC]at h2
  rcases h1 with h1|h1
  .have hs:s.put (some t) (.one (.d (.int k v)))=s:=by
    refine AS.ext' ?_ rfl;funext t';simp only[AS.put];split
    .rename_i e';rw[e',ht,h1]
    .rfl
   have:=h2.1 h1;rw[hs]at this;exact⟨b,this⟩
  .exact jWB ht h1 h2.2
 |.leaf,h1,_=>h1.elim
 |.seq _ _,h1,_=>h1.elim
 |.loop _ _,h1,_=>h1.elim
 |.cut _ _ _,h1,_=>h1.elim
 |.link _ _ _,h1,_=>h1.elim
 |.split _ _ _,h1,_=>h1.elim
 |.range _ _ _ _,h1,_=>h1.elim
 |.sure _ _,h1,_=>h1.elim
 |.ice _ _ _ _,h1,_=>h1.elim
 |.splitAt _ _ _,h1,_=>h1.elim
theorem jHu:∀(bs:List Nat)(s:AS),(ices s bs).tm=s.tm
 |[],_=>rfl
 |b::bs,s=>by simp only[ices];rw[jHu bs];rfl
theorem RepS.ices{w0:World}{S:zQ3}{n:Dom}{ι:zQm}{a:Act}{w:World}:∀(bs:List Nat){s:AS},RepS w0 S n s ι a w->RepS w0 S n (ices s bs) ι a w
 |[],_,h=>h
 |b::bs,s,h=>RepS.ices bs (h.freeze b)
theorem RepS.only{w0:World}{S:zQ3}{n:Dom}{s:AS}{ι:zQm}{a:Act}{w:World}(h:RepS w0 S n s ι a w)(T:List Nat):RepS w0 S n (s.only T) ι a w:=by
 refine⟨h.bel,h.marks,h.oth,h.size,h.fix,h.pin,λt=>?_,h.bx,h.own,h.dist,h.glob⟩
 show zQg _ _ _ _ (if T.contains t then s.tm t else .one .dead) _
 split
 .exact h.tm t
 .simp only[zQg,zQs]
theorem jVG(h:jGZ d):∃u,d.plain=some u/\∀(w:World)(V:Nat->Prop),RepD w V d u:=by
 cases d with
 |int k n=>exact⟨_,rfl,λw V=>by simp only[RepD,true_and];exact(zZ6 _ _).2 h⟩
 |bool b=>exact⟨_,rfl,λw V=>by simp only[RepD]⟩
 |str s=>exact⟨_,rfl,λw V=>by simp only[RepD,true_and];exact h⟩
 |sl n cs=>exact h.elim
 |fn f=>exact h.elim
theorem RepS.putAll{w0:World}{S:zQ3}{n:Dom}{ι:zQm}{w:World}:∀{ps:List Nat}{ds:List DV}{s:AS}{a:Act},ds.length=ps.length->zUy ds->(∀p∈ps,p<n.n/\n.keep p=false)->RepS w0 S n s ι a w ->
  RepS w0 S n (s.putAll ps ds) ι { a with tmps:=(ps.zip (ds.map λd=>d.plain.getD undef)).foldl (λt (p,v)=>t.setIfInBounds p v) a.tmps } w
 |[],[],_,_,_,_,_,h=>h
 |p::ps,d::ds,s,a,hl,hd,hp,h=>by
  obtain⟨u,h1,h2⟩:=jVG hd.1;have:=h.put (d:=some p) (x:=.one (.d d)) (v:=u) (λk hk=>by cases hk;exact hp p (by simp)) (by simp only[zQg,zQs];exact h2 _ _);have:=RepS.putAll (ps:=ps) (ds:=ds) (by simpa using hl) hd.2 (λq hq=>hp q (by simp[hq])) this;simpa [AS.putAll,h1,Act.put]using this
 |[],_::_,_,_,hl,_,_,_=>by simp at hl
 |_::_,[],_,_,hl,_,_,_=>by simp at hl
abbrev wXe:=@List.mem_of_getElem?
theorem jKV{w0:World}{S:zQ3}{n:Dom}{s:AS}{ι:zQm}{a:Act}{w:World}(h:RepS w0 S n s ι a w){ι0:zQm}{bx0:Nat->Bx}{w1:World}{V1:Nat->Prop}:∀{cs:List Cap}{lb:List Value}{caps:List (Bool × List DV)},zX0 ι0 bx0 w1 V1 cs lb ->
  (∀b∈cs.flatMap Cap.names,ι b=ι0 b)->zVb s.bx cs=some caps->jK6 w caps lb
 |[],[],caps,_,_,hc=>by simp only[zVb,wQa]at hc;subst hc;trivial
 |c::cs,v::lb,caps,hr,hn,hc=>by
  simp only[zVb]at hc
  cases h1:jYZ s.bx c with
  |none=>rw[h1]at hc;cases hc
  |some x=>
   cases h2:zVb s.bx cs with
   |none=>rw[h1,h2]at hc;cases hc
   |some xs=>
    rw[h1,h2]at hc;simp only[wQa]at hc;subst hc;refine⟨?_,jKV h hr.2 (λb hb=>hn b (by rw[wQ2,List.mem_append];exact .inr hb)) h2⟩;have hv:=hr.1
    cases c with
    |d x=>
     simp only[jYZ]at h1;split at h1
     .rename_i hp;simp only[wQa]at h1;subst h1;obtain⟨u,hu⟩:=wYm.1 hp;exact⟨x,rfl,by rw[RepD.plain hv hu];exact hu⟩
     .cases h1
    |ptr b off=>
     simp only[jYZ]at h1;split at h1
     .rename_i ho;subst ho;split at h1
      .rename_i cells hB;split at h1
       .rename_i ds hds;split at h1
        .rename_i hall;simp only[wQa]at h1;subst h1;obtain⟨_,g,c,e1,e2⟩:=hv;have hb:=h.bx b;rw[hB]at hb;obtain⟨g',c',cur,T,q1,q2,_,q3⟩:=hb;rw[hn b (by simp[Cap.names]),e1]at q1;simp only[wQa,wQc]at q1;obtain⟨rfl,rfl⟩:=q1;have q4:=zVK q3 hds;refine⟨g,e2,λi d hi=>?_⟩;obtain⟨u,hu,hd⟩:=zKu q4 i d hi;have hp:d.plain.isSome=true:=(List.all_eq_true.1 hall) d (wXe hi);obtain⟨u',hu'⟩:=wYm.1 hp;refine⟨u',hu',?_⟩;rw[wXt w g i cur T (0,0) q2,<-RepD.plain hd hu'];simpa using hu
        .cases h1
       .cases h1
      .cases h1
     .cases h1
 |[],_::_,_,h,_,_=>h.elim
 |_::_,[],_,h,_,_=>h.elim
theorem jXE{w:World}{V:Nat->Prop}{ι:zQm}{bx:Nat->Bx}:∀{cs:List Cap}{lb:List Value},zX0 ι bx w V cs lb->∀b∈cs.flatMap Cap.names,(bx b).known=true
 |[],[],_,b,hb=>by simp at hb
 |c::cs,v::lb,h,b,hb=>by
  rw[wQ2,List.mem_append]at hb
  rcases hb with hb|hb
  .cases c with
   |d x=>simp[Cap.names]at hb
   |ptr b' off=>simp only[Cap.names,wQr]at hb;subst hb;exact h.1.1
  .exact jXE h.2 b hb
 |[],_::_,h,_,_=>h.elim
 |_::_,[],h,_,_=>h.elim
def jYN:zJS->Option Code
 |.normal=>none
 |.exit id=>some (.exit id)
 |.ret=>some .ret
abbrev wXY:=@KeepsOthers.refl
theorem jVC{fA fB:VCF}{x y:Code}(ihA:jUd P fA x)(ihB:jUd P fB y){I:Inv}{T:List Nat}{aa bb:I.α->Ann}(h:jVD P Γ n fA fB g ps.toList I T aa bb s Q){F:Fence}(hR:n.round=false->F=Fence.wide){w0:World}{S:zQ3}{ι:zQm}{a:Act}{w:World}(hr:RepS w0 S n s ι a w){m:Nat}{Q':Exit->Act->World->Prop}(hQ:∀e kn' s' ι' a' w',Q e kn' s'->KnOK kn' s'->RepS w0 S n s' ι' a' w'->Q' e.exit_ a' w'):(Code.rangeFunc g ps x y).wpIn F m P Q' a w:=by
 unfold jVD at h;split at h
 .rename_i f cs hs;split at h
  .rename_i caps hcaps hflags;split at h
   .rename_i N item hit;obtain⟨hans,hitems,⟨z0,hz0,hμ0,hf0⟩,hrounds⟩:=h;simp only[wQd,wQn]at hflags;obtain⟨⟨hen,hrd⟩,hps⟩:=hflags;have hFw:=hR hrd;subst hFw;simp only[psOK,wQd,List.all_eq_true,wQf,wQn]at hps;obtain⟨hps1,hps2⟩:=hps;have hv:=hr.eval g;rw[hs]at hv;simp only[zQg,zQs]at hv;obtain⟨lb,hv,hlb⟩:=hv;have hr1:RepS w0 { S with nm:=ι } (n.pinned (cs.flatMap Cap.names)) s ι a w:=
     ⟨hr.bel,hr.marks,hr.oth,hr.size,hr.fix,λb hb=>⟨rfl,by
      simp only[Dom.pinned,List.mem_append]at hb
      rcases hb with hb|hb
      .exact(hr.pin b hb).2
      .exact jXE hlb b hb⟩,hr.tm,hr.bx,hr.own,hr.dist,hr.glob⟩
    obtain⟨ι1,hr2⟩:=hr1.fit hf0;have hmk:∀d∈a.defers,∀D,d={ target:=.collected D,args:=#[] }->D<w.heap.size:=λd hd D e=>by
     obtain⟨D',e',_,h2⟩:=hr.marks.2 d hd;rw[e']at e;simp only[Deferred.mk.injEq,Target.collected.injEq,and_true]at e;subst e;exact(wZg.1 h2).1
    have hturn:∀{s':AS}{n':Dom}{S':zQ3}{ι':zQm}{W W':World}{row:Option Nat},S'.ref.heap.size<=w.heap.size->RepS w0 S' n' s' ι' a W->W.grownBy W' row->(∀r,row=some r->w.heap.size<=r/\∃o:Obj,W.heap[r]?=some o/\o.isCells=false)->RepS w0 S' n' s' ι' a W':=by
     intro s' n' S' ι' W W' row hs' h' hg hr';exact h'.turn hg (λr e=>⟨wQJ hr.bel.size (hr' r e).1,(hr' r e).2⟩) (jXp h'.marks hg (λr e=>(hr' r e).1) hmk) (zGP h'.oth hg (λr e=>(hr' r e).1) hs')
    have hkeepT:∀t,(T.contains t=true\/n.keep t=true)->t ∉ ps.toList:=λt ht hm=>by
     obtain⟨⟨_,h2⟩,h3⟩:=hps1 t hm
     rcases ht with ht|ht
     .rw[ht]at h2;cases h2
     .rw[ht]at h3;cases h3
    have hback:∀{s':AS}{ι':zQm}{a3:Act}{W W3 ref:World},jZY w0 a.defers W->KeepsOthers S.ref W->KeepsOthers W W3->RepS w0 { S with nm:=ι,ref:=ref,base:=λt=>a.tmps.getD t undef } (n.inner T (cs.flatMap Cap.names)) s' ι' a3 W3 ->
      RepS w0 { S with nm:=ι } (n.pinned (cs.flatMap Cap.names)) (s'.only T) ι' a W3:=by
     intro s' ι' a3 W W3 ref hm1 ho1 hk h3;refine⟨h3.bel,hm1.keep hk,ho1.trans hk,hr.size,hr.fix,h3.pin,λt=>?_,h3.bx,h3.own,h3.dist,h3.glob⟩
     show zQg _ _ _ _ (if T.contains t then s'.tm t else .one .dead) _
     split
     .rename_i ht;have hfx:=h3.fix t (by show(n.keep t || T.contains t)=true;rw[ht,Bool.or_true]);have:=h3.tm t;rw[hfx]at this;exact this
     .simp only[zQg,zQs]
    have hout:∀{s':AS}{ι':zQm}{W:World},RepS w0 { S with nm:=ι } (n.pinned (cs.flatMap Cap.names)) s' ι' a W->RepS w0 S n s' ι' a W:=λh'=>
     ⟨h'.bel,h'.marks,h'.oth,h'.size,h'.fix,λb hb=>by
      have:=h'.pin b (by simp[Dom.pinned,hb])
      exact⟨this.1.trans (hr.pin b hb).1,this.2⟩,h'.tm,h'.bx,h'.own,h'.dist,h'.glob⟩
    have hmark:∀{s':AS}{ι':zQm}{W:World}{D:Nat},w.heap.size<=D->W.heap[D]?=some (.deferred (some []))->RepS w0 S n s' ι' a W->RepS w0 S n s' ι' { a with defers:={ target:=.collected D,args:=#[] }::a.defers } W:=λhD hW h'=>
     ⟨h'.bel,⟨wXX.2 ⟨λd hd e=>by
       have:=hmk d hd _ e.symm
       omega,h'.marks.1⟩,λd hd=>by
      rcases wQm.1 hd with rfl|hd
      .exact⟨_,rfl,wQJ hr.bel.size hD,hW⟩
      .exact h'.marks.2 d hd⟩,h'.oth,h'.size,h'.fix,h'.pin,h'.tm,h'.bx,h'.own,h'.dist,h'.glob⟩
    refine jGV hv (zUu hen) hans (λk hk=>by rw[(hitems k hk).1];simp)
     (λk W=>∃z ι',I.ok z/\I.μ z=k/\RepS w0 { S with nm:=ι } (n.pinned (cs.flatMap Cap.names)) ((I.st z).as.only T) ι' a W)
     (λc W=>∃e kn' s' ι',jYN e=some c/\Q e kn' s'/\KnOK kn' s'/\RepS w0 { S with nm:=ι } (n.pinned (cs.flatMap Cap.names)) s' ι' a W)
     (λk W W' row ⟨z,ι',h1,h2,h3⟩ hg hrr=>⟨z,ι',h1,h2,hturn hr.oth.size h3 hg hrr⟩)
     (λc W W' row ⟨e,kn',s',ι',h1,h2,h3,h4⟩ hg hrr=>⟨e,kn',s',ι',h1,h2,h3,hturn hr.oth.size h4 hg hrr⟩)
     (λk W ⟨z,ι',h1,h2,h3⟩=>jKV h3 hlb (λb hb=>(h3.pin b (by simp only[Dom.pinned,List.mem_append];exact .inr hb)).1) (hrounds z h1).1)
     ⟨z0,ι1,hz0,hμ0,hr2.only T⟩ ?_ ?_ ?_
    ·
     rintro l k W hk ⟨z,ι',hz,rfl,h3⟩;have hit:=hitems (I.μ z) hk;have hin:RepS w0 { S with nm:=ι,ref:=W,base:=λt=>a.tmps.getD t undef } (n.inner T (cs.flatMap Cap.names)) ((I.st z).as.only T) ι' { tmps:=a.tmps,defers:=[] } W:=
      ⟨h3.bel,⟨List.Pairwise.nil,λd hd=>by simp at hd⟩,wXY W,h3.size,λt _=>rfl,h3.pin,h3.tm,h3.bx,h3.own,h3.dist,h3.glob⟩
     have hin2:=hin.putAll (ps:=ps.toList) (ds:=item (I.μ z)) hit.1 hit.2 (λp hp=>by
      obtain⟨⟨h1,h2⟩,h4⟩:=hps1 p hp;refine⟨h1,?_⟩
      simp only[Dom.inner,h2,h4,Bool.or_self])
     have hloop:∀(f:Array Value->Tmp × Value->Array Value)(t0:Array Value)(vs:List Value),(ps.zip vs.toArray).foldl f t0=(ps.toList.zip vs).foldl f t0:=λf t0 vs=>by
      rw[<-Array.foldl_toList,Array.toList_zip]
     show x.wpIn _ m P _ { tmps:=(ps.zip (jZb (item (I.μ z)))).foldl (λt (p,v)=>t.setIfInBounds p v) a.tmps,defers:=[] } W
     rw[jZb,hloop];refine ihA _ (aa z) kn0 _ _ ((hrounds z hz).2.1 hk) (zHe _) _ (.inr ⟨l,rfl⟩) (λh=>by cases h) w0 _ ι' _ W hin2 m _ λe kn' s' ι2 a1 W1 hq hk' h4=>?_
     cases e with
     |ret=>exact hq.elim
     |exit id=>exact hq.elim
     |normal=>
      refine⟨h4.oth,λW2 hg hl hcell=>?_⟩;obtain⟨lr,hlr⟩:=hcell
      have h5:=h4.turn hg (λr e=>by cases e;exact⟨wQJ hr.bel.size hl,_,hlr,rfl⟩) (ds:=a1.defers) ⟨h4.marks.1,λd hd=>by
       obtain⟨D,e1,e2,e3⟩:=h4.marks.2 d hd;refine⟨D,e1,e2,(hg.block D (wZg.1 e3).1 λe'=>?_).trans e3⟩;injection e' with e'
       subst e';rw[hlr]at e3;injection e3 with e3
       cases e3⟩ (wXY W2)
      have hm1:jZY w0 a.defers W:=h3.marks;have hm2:jZY w0 a.defers W2:=jXp (hm1.keep h4.oth) hg (λr e=>by cases e;exact hl) hmk;have ho2:KeepsOthers S.ref W2:=zGP (h3.oth.trans h4.oth) hg (λr e=>by cases e;exact hl) hr.oth.size;refine ihB _ (bb z) kn' _ _ hq hk' _ (.inr ⟨l,rfl⟩) (λh=>by cases h) w0 _ ι2 a1 W2 h5 m _ λe kn2 s2 ι3 a3 W3 hq2 hk2 h6=>?_
      cases e with
      |normal=>
       obtain⟨y,hy,hμ,hf⟩:=hq2;obtain⟨ι4,h7⟩:=h6.fit hf;exact⟨h6.oth,y,ι4,hy,hμ,hback hm2 ho2 h6.oth h7⟩
      |ret=>exact⟨h6.oth,.ret,kn0,s2.only T,ι3,rfl,hq2,zHe _,hback hm2 ho2 h6.oth h6⟩
      |exit id=>exact⟨h6.oth,.exit id,kn0,s2.only T,ι3,rfl,hq2,zHe _,hback hm2 ho2 h6.oth h6⟩
    ·
     rintro Dk W hD ⟨z,ι',hz,hμ,h3⟩ hW;exact hQ .normal kn0 _ ι' _ W ((hrounds z hz).2.2 hμ) (zHe _) (hmark hD hW (hout h3))
    .rintro Dk c W hD ⟨e,kn',s',ι',he,hq,hk',h3⟩ hW
     cases e with
     |normal=>cases he
     |ret=>
      simp only[jYN,wQa]at he;subst he;exact wpIn_ret (hQ .ret kn' s' ι' _ W hq hk' (hmark hD hW (hout h3)))
     |exit id=>
      simp only[jYN,wQa]at he;subst he;exact wpIn_exit (hQ (.exit id) kn' s' ι' _ W hq hk' (hmark hD hW (hout h3)))
   .exact h.elim
  .exact h.elim
 .exact h.elim
theorem zQ7(hm:P.follows .mixedOrders=true):∀(c:Code),jUd P (λn=>vcg P Γ n c) c
 |.skip,n,_,kn,s,Q,h,hk,F,hF,hR,w0,S,ι,a,w,hr,m,Q',hQ=>wpIn_skip (hQ .normal kn s ι a w h hk hr)
 |.label _,n,_,kn,s,Q,h,hk,F,hF,hR,w0,S,ι,a,w,hr,m,Q',hQ=>wpIn_label (hQ .normal kn s ι a w h hk hr)
 |.exit id,n,_,kn,s,Q,h,hk,F,hF,hR,w0,S,ι,a,w,hr,m,Q',hQ=>wpIn_exit (hQ (.exit id) kn s ι a w h hk hr)
 |.ret,n,_,kn,s,Q,h,hk,F,hF,hR,w0,S,ι,a,w,hr,m,Q',hQ=>wpIn_ret (hQ .ret kn s ι a w h hk hr)
 |.region id ops draw,n,_,kn,s,Q,h,hk,F,hF,hR,w0,S,ι,a,w,hr,m,Q',hQ=>yQb hF hm (jGb h) hk hr hQ
 |.seq x y,n,ann,kn,s,Q,h,hk,F,hF,hR,w0,S,ι,a,w,hr,m,Q',hQ=>by
  simp only[vcg]at h;refine wpIn_seq ?_;split at h
  .rename_i I a' b;obtain⟨h1,h2⟩:=h;refine zQ7 hm x n a' kn s _ h1 hk F hF hR w0 S ι a w hr m _ λe kn' s' ι' a' w' hq hk' hr'=>?_
   cases e with
   |normal=>
    obtain⟨z,hz,hf⟩:=hq;obtain⟨ι2,hr2⟩:=hr'.fit hf;exact zQ7 hm y n (b z) kn0 _ Q (h2 z hz) (zHe _) F hF hR w0 S ι2 a' w' hr2 m Q' hQ
   |exit id=>exact hQ (.exit id) kn' s' ι' a' w' hq hk' hr'
   |ret=>exact hQ .ret kn' s' ι' a' w' hq hk' hr'
  .rename_i bs ts a' b;refine zQ7 hm x n a' kn s _ h hk F hF hR w0 S ι a w hr m _ λe kn' s' ι' a' w' hq hk' hr'=>?_
   cases e with
   |normal=>exact zQ7 hm y n b kn' (Go.Proofs.YtbnmadpcdlnleaaGreatDoor.melts (Go.Proofs.YtbnmadpcdlnleaaGreatDoor.ices s' bs) ts) Q hq (jWK ts λt b hb=>by rw[jHu];exact hk' t b hb) F hF hR w0 S ι' a' w' ((hr'.ices bs).melts ts) m Q' hQ
   |exit id=>exact hQ (.exit id) kn' s' ι' a' w' hq hk' hr'
   |ret=>exact hQ .ret kn' s' ι' a' w' hq hk' hr'
  .rename_i a' t bs;refine zQ7 hm x n a' kn s _ h hk F hF hR w0 S ι a w hr m _ λe kn' s' ι' a' w' hq hk' hr'=>?_
   cases e with
   |normal=>
    simp only at hq;unfold yXV at hq;split at hq
    .rename_i k e ht;obtain⟨b,hb⟩:=jWB ht hq.1 hq.2;refine zQ7 hm y n b _ s' Q hb (λt' b' hb'=>?_) F hF hR w0 S ι' a' w' hr' m Q' hQ;simp only[zVu]at hb';split at hb'
     .cases hb'
     .exact hk' _ _ hb'
    .exact hq.elim
   |exit id=>exact hQ (.exit id) kn' s' ι' a' w' hq hk' hr'
   |ret=>exact hQ .ret kn' s' ι' a' w' hq hk' hr'
  .refine zQ7 hm x n ann.l kn s _ h hk F hF hR w0 S ι a w hr m _ λe kn' s' ι' a' w' hq hk' hr'=>?_
   cases e with
   |normal=>exact zQ7 hm y n ann.r kn' s' Q hq hk' F hF hR w0 S ι' a' w' hr' m Q' hQ
   |exit id=>exact hQ (.exit id) kn' s' ι' a' w' hq hk' hr'
   |ret=>exact hQ .ret kn' s' ι' a' w' hq hk' hr'
 |.cond c x y,n,ann,kn,s,Q,h,hk,F,hF,hR,w0,S,ι,a,w,hr,m,Q',hQ=>by
  simp only[vcg]at h;split at h
  .rename_i b a';split at h
   .rename_i b' hc;obtain⟨rfl,h⟩:=h
    cases b' with
    |true=>exact wpIn_cond_true (zKQ (hr.eval c) hc) (zQ7 hm x n a' kn s Q h hk F hF hR w0 S ι a w hr m Q' hQ)
    |false=>exact wpIn_cond_false (zKQ (hr.eval c) hc) (zQ7 hm y n a' kn s Q h hk F hF hR w0 S ι a w hr m Q' hQ)
   .exact h.elim
  split at h
  .rename_i hc;exact wpIn_cond_true (zKQ (hr.eval c) (jYy hk hc)) (zQ7 hm x n ann.l kn s Q h hk F hF hR w0 S ι a w hr m Q' hQ)
  .rename_i hc;exact wpIn_cond_false (zKQ (hr.eval c) (jYy hk hc)) (zQ7 hm y n ann.r kn s Q h hk F hF hR w0 S ι a w hr m Q' hQ)
  .split at h
   .rename_i b hc;exact wpIn_cond_split (zKQ (hr.eval c) hc) (λhb=>zQ7 hm x n ann.l kn s Q (h.1 hb) hk F hF hR w0 S ι a w hr m Q' hQ) (λhb=>zQ7 hm y n ann.r kn s Q (h.2 hb) hk F hF hR w0 S ι a w hr m Q' hQ)
   .exact h.elim
 |.block id c,n,ann,kn,s,Q,h,hk,F,hF,hR,w0,S,ι,a,w,hr,m,Q',hQ=>by
  simp only[vcg]at h;refine wpIn_block (zQ7 hm c n ann kn s _ h hk F hF hR w0 S ι a w hr m _ λe kn' s' ι' a' w' hq hk' hr'=>?_)
  cases e with
  |normal=>exact hQ .normal kn' s' ι' a' w' hq hk' hr'
  |exit id'=>
   simp only at hq;simp only[zJS.exit_,Exit.inBlock];by_cases e:id'=id
   .rw[if_pos e];simp only[e,decide_true]at hq;exact hQ .normal kn' s' ι' a' w' hq hk' hr'
   .rw[if_neg e];simp only[e,decide_false]at hq;exact hQ (.exit id') kn' s' ι' a' w' hq hk' hr'
  |ret=>exact hQ .ret kn' s' ι' a' w' hq hk' hr'
 |.loop c,n,ann,kn,s,Q,h,hk,F,hF,hR,w0,S,ι,a,w,hr,m,Q',hQ=>by
  simp only[vcg]at h;split at h
  .rename_i I a';obtain⟨⟨z,hz,hf⟩,h2⟩:=h;obtain⟨ι2,hr2⟩:=hr.fit hf;refine wpIn_loop_ghost (λm a w=>∃z ι,I.ok z/\I.μ z=m/\RepS w0 S n (I.st z).as ι a w) (I.μ z) ⟨z,ι2,hz,rfl,hr2⟩ λk a w hI=>?_;obtain⟨z,ι,hz,rfl,hr⟩:=hI;refine zQ7 hm c n (a' z) kn0 _ _ (h2 z hz) (zHe _) F hF hR w0 S ι a w hr m _ λe kn' s' ι' a' w' hq hk' hr'=>?_
   cases e with
   |normal=>
    obtain⟨y,hy,hlt,hf⟩:=hq;obtain⟨ι3,hr3⟩:=hr'.fit hf;exact⟨I.μ y,hlt,y,ι3,hy,rfl,hr3⟩
   |exit id=>exact hQ (.exit id) kn' s' ι' a' w' hq hk' hr'
   |ret=>exact hQ .ret kn' s' ι' a' w' hq hk' hr'
  .exact jUK (f:=λn=>vcg P Γ n c) (zQ7 hm c) h.1 h.2 hF hR hr hQ
  .exact h.elim
 |.rangeFunc g ps x y,n,ann,kn,s,Q,h,hk,F,hF,hR,w0,S,ι,a,w,hr,m,Q',hQ=>by
  simp only[vcg]at h;split at h
  .exact jVC (zQ7 hm x) (zQ7 hm y) h hR hr hQ
  .exact h.elim
 |.scope _,_,_,_,_,_,h,_,_,_,_,_,_,_,_,_,_,_,_,_=>by simp only[vcg]at h
 |.goto _,_,_,_,_,_,h,_,_,_,_,_,_,_,_,_,_,_,_,_=>by simp only[vcg]at h
 |.refuse _,_,_,_,_,_,h,_,_,_,_,_,_,_,_,_,_,_,_,_=>by simp only[vcg]at h
end
def yQn(P:Program)(s:AS):ResultVar->Option AV
 |.tmp t=>some (s.tm t)
 |.cell t ty=>match s.tm t with
  |.one (.ptr b off)=>match s.bx b,zJ2 P ty with
   |.cells cs,some (g,k)=>if off+k<=cs.length then zVw g ((cs.drop off).take k) else none
   |_,_=>none
  |_=>none
def zG8(P:Program)(s:AS):List ResultVar->Option (List AV)
 |[]=>some []
 |r::rs=>match yQn P s r,zG8 P s rs with
  |some v,some vs=>some (v::vs)
  |_,_=>none
def yZR(P:Program)(s:AS)(rs:List ResultVar):Option RV:=
 match zG8 P s rs with
 |some xs=>if xs.all AV.flat then match AV.rvs (λb=>zXJ (s.bx b)) xs with
  |some [r]=>some r
  |some l=>some (.tup l)
  |none=>none else none
 |none=>none
def post(P:Program)(rs:List ResultVar)(R:RV->Prop):zJS->Kn->AS->Prop
 |.exit _,_,_=>False
 |_,_,s=>match yZR P s rs with
  |some r=>R r
  |none=>False
def start(args:List RV):AS:=⟨λt=>match args[t]? with
 |some r=>r.av
 |none=>.tup [],λ_=>.fresh⟩
mutual
def DV.wf:DV->Prop
 |.int k n=>k.min<=n/\n<=k.max
 |.bool _=>True
 |.str s=>s.size<=maxLen
 |.sl n xs=>n<=maxLen/\DV.wfs xs
 |.fn _=>True
def DV.wfs:List DV->Prop
 |[]=>True
 |x::xs=>x.wf/\DV.wfs xs
end
mutual
def RV.wf:RV->Prop
 |.d x=>x.wf
 |.agg xs=>DV.wfs xs
 |.tup xs=>RV.wfs xs
def RV.wfs:List RV->Prop
 |[]=>True
 |x::xs=>x.wf/\RV.wfs xs
end
section
variable{w:World}{V:Nat->Prop}
mutual
theorem RepD.wf:∀{d:DV}{v:Value},RepD w V d v->d.wf
 |.int k n,v,h=>by simp only[RepD]at h;simp only[DV.wf];exact(zZ6 _ _).1 h.2
 |.bool _,_,_=>by simp only[DV.wf]
 |.str s,v,h=>by simp only[RepD]at h;simp only[DV.wf];exact h.2
 |.fn _,_,_=>by simp only[DV.wf]
 |.sl n xs,v,h=>by
  simp only[RepD]at h;obtain⟨A,cap,_,h1,h2,h3⟩:=h;simp only[DV.wf];refine⟨wQJ h1 h2,?_⟩
  cases xs with
  |nil=>simp only[DV.wfs]
  |cons d ds=>
   obtain⟨g,off,_,_,hc⟩:=h3 (by simp);exact RepCells.wf hc
theorem RepCells.wf:∀{xs:List DV}{g off:Nat},RepCells w V xs g off->DV.wfs xs
 |[],_,_,_=>by simp only[DV.wfs]
 |d::ds,g,off,h=>by
  simp only[RepCells]at h;obtain⟨⟨u,_,hd⟩,hr⟩:=h;simp only[DV.wfs];exact⟨RepD.wf hd,RepCells.wf hr⟩
end
theorem zZo.wf:∀{ds:List DV}{vs:List Value},zZo w V ds vs->DV.wfs ds
 |[],[],_=>by simp only[DV.wfs]
 |_::_,_::_,h=>by simp only[DV.wfs];exact⟨h.1.wf,zZo.wf h.2⟩
 |[],_::_,h=>h.elim
 |_::_,[],h=>h.elim
mutual
theorem RepR.wf:∀{r:RV}{v:Value},RepR w V r v->r.wf
 |.d x,v,h=>by simp only[RepR]at h;simp only[RV.wf];exact h.wf
 |.agg xs,v,h=>by simp only[RepR]at h;obtain⟨cs,_,h⟩:=h;simp only[RV.wf];exact h.wf
 |.tup xs,v,h=>by simp only[RepR]at h;obtain⟨vs,_,h⟩:=h;simp only[RV.wf];exact RepRs.wf h
theorem RepRs.wf:∀{rs:List RV}{vs:List Value},RepRs w V rs vs->RV.wfs rs
 |[],[],_=>by simp only[RV.wfs]
 |_::_,_::_,h=>by simp only[RepRs]at h;simp only[RV.wfs];exact⟨RepR.wf h.1,RepRs.wf h.2⟩
 |[],_::_,h=>by simp only[RepRs]at h
 |_::_,[],h=>by simp only[RepRs]at h
end
end
theorem jQo{w:World}{V:Nat->Prop}:∀{rs:List RV}{vs:List Value},RepRs w V rs vs->rs.length=vs.length
 |[],[],_=>rfl
 |_::_,_::_,h=>by simp only[RepRs]at h;simp[jQo h.2]
 |[],_::_,h=>by simp only[RepRs]at h
 |_::_,[],h=>by simp only[RepRs]at h
theorem zG5{P:Program}{α β:Type}(f:α->Sem β)(w:World):∀(l:List α)(us:List β),l.length=us.length->(∀(i:Nat) x u,l[i]?=some x->us[i]?=some u->(f x).run P w=.ok u w)->(l.mapM f).run P w=.ok us w
 |[],[],_,_=>by simp
 |x::l,u::us,hl,h=>by
  rw[List.mapM_cons];simp only[Sem.run_bind,h 0 x u rfl rfl,Result.andThen_ok,zG5 f w l us (by simpa using hl) (λi x' u' h1 h2=>h (i+1) x' u' (by simpa using h1) (by simpa using h2)),Sem.run_pure]
 |[],_::_,hl,_=>by simp at hl
 |_::_,[],hl,_=>by simp at hl
def jJO(tmps:Array Value):ResultVar->Sem Value
 |.tmp t=>pure (tmps.getD t undef)
 |.cell c t=>do loadVar t (<-asAddr (tmps.getD c undef))
theorem jUv(fn:Func)(tmps:Array Value):results fn tmps=(do let vs <-fn.results.mapM (jJO tmps);pure (if h:vs.size=1 then vs[0] else .tuple vs)):=by
 unfold results;refine congrArg (λf:ResultVar->Sem Value=>(do let vs <-fn.results.mapM f;pure (if h:vs.size=1 then vs[0] else .tuple vs):Sem Value)) ?_;funext x;cases x<;>rfl
theorem jWs{fn:Func}(h:RepS w0 S n s ι a w)(hxs:zG8 P s fn.results.toList=some xs):
  ∃us:List Value,(results fn a.tmps).run P w=.ok (if h:us.toArray.size=1 then us.toArray[0] else .tuple us.toArray) w/\RepAVs w (Seen S w0.heap.size s.bx ι) ι s.bx xs us:=by
 have key:∀(rs:List ResultVar)(xs:List AV),zG8 P s rs=some xs->∃us:List Value,rs.length=us.length/\(∀(i:Nat) x u,rs[i]?=some x->us[i]?=some u->(jJO a.tmps x).run P w=.ok u w) /\
   RepAVs w (Seen S w0.heap.size s.bx ι) ι s.bx xs us:=by
  intro rs
  induction rs with
  |nil=>intro xs h;simp only[zG8,wQa]at h;subst h;exact⟨[],rfl,λi x u h=>by simp at h,by simp only[RepAVs]⟩
  |cons rv rs ih=>
   intro xs hx;simp only[zG8]at hx
   cases h1:yQn P s rv with
   |none=>rw[h1]at hx;cases hx
   |some v=>
    cases h2:zG8 P s rs with
    |none=>rw[h1,h2]at hx;cases hx
    |some vs=>
     rw[h1,h2]at hx;simp only[wQa]at hx;subst hx;obtain⟨us,l1,l2,l3⟩:=ih vs h2;have h0:∃u,(jJO a.tmps rv).run P w=.ok u w/\zQg w (Seen S w0.heap.size s.bx ι) ι s.bx v u:=by
      cases rv with
      |tmp t=>
       simp only[yQn,wQa]at h1;subst h1;exact⟨_,rfl,h.tm t⟩
      |cell c ty=>
       simp only[yQn]at h1;split at h1
       .rename_i b off hc;split at h1
        .rename_i cs g k hB hk;split at h1
         .rename_i hle;have hv:=h.tm c;rw[hc]at hv;obtain⟨_,g',c',hι,ev⟩:=zWt hv;have hb:=h.bx b;rw[hB]at hb;obtain⟨g2,c2,cur,T,e1,e2,_,e3⟩:=hb;rw[e1]at hι;simp only[wQa,wQc]at hι;obtain⟨rfl,rfl⟩:=hι;have hp:=zJd (zJW e3 off k) h1;have hlen:=zZr e3;have hk':zJ2 P ty=some (g,((cur.toList.drop off).take k).length):=by
           rw[hk];congr 2;simp at hlen |-;omega
          have hrun:=zX6 (P:=P) hk' (w:=w) (b:=g2) (o:=off) (λj u hj=>by
           rw[wXt w g2 (off+j) cur T (0,0) e2];rw[wQI]at hj;split at hj
           .simpa using hj
           .cases hj)
          refine⟨_,?_,hp.1⟩;simp only[jJO,ev,asAddr,Sem.run_bind,Sem.run_pure,Result.andThen_ok,hrun]
         .cases h1
        .cases h1
       .cases h1
     obtain⟨u,hu1,hu2⟩:=h0;refine⟨u::us,by simp[l1],λi x u' hx hu'=>?_,by simp only[RepAVs];exact⟨hu2,l3⟩⟩
     cases i with
     |zero=>simp at hx hu';subst hx hu';exact hu1
     |succ i=>exact l2 i x u' (by simpa using hx) (by simpa using hu')
 obtain⟨us,l1,l2,l3⟩:=key _ _ hxs;have hmap:=zG5 (P:=P) (jJO a.tmps) w fn.results.toList us l1 l2;refine⟨us,?_,l3⟩;rw[jUv,Sem.run_bind,wYW,Sem.run_map,hmap];simp only[Result.andThen_ok,Sem.run_pure]
theorem yZQ{fn:Func}(h:RepS w0 S n s ι a w){r:RV}(hr:yZR P s fn.results.toList=some r):
  ∃v,(results fn a.tmps).run P w=.ok v w/\RepR w (λg=>S.see g\/w0.heap.size<=g\/S.lent g) r v:=by
 unfold yZR at hr;split at hr
 .rename_i xs hxs;split at hr
  .rename_i hflat;obtain⟨us,hrun,l3⟩:=jWs h hxs;have hseen:zZJ w (Seen S w0.heap.size s.bx ι) w (λg=>S.see g\/w0.heap.size<=g\/S.lent g):=λg off u hV hu=>⟨hV.1,hu⟩
   have hlook:∀x∈xs,∀b∈x.refs,∀ys,(λb=>zXJ (s.bx b)) b=some ys->jZt w (λg=>S.see g\/w0.heap.size<=g\/S.lent g) ι b ys/\(ι b=none->ys=[]):=by
    intro x hx b hb ys hys;simp only at hys;have hb':=h.bx b;cases hB:s.bx b<;>rw[hB]at hys hb'<;>simp only[zXJ,wQa,reduceCtorEq]at hys<;>subst hys
    .rcases hb' with⟨g1,g2⟩|⟨g,cap,cur,g1,g2,g3,g4,g5⟩
     .exact⟨λg c e=>(by rw[g1]at e;cases e),λ_=>g2⟩
     .refine⟨λg' c e=>?_,λe=>(by rw[g1]at e;cases e)⟩;rw[g1]at e;simp only[wQa,wQc]at e;obtain⟨rfl,rfl⟩:=e;exact⟨g3,λ_=>⟨.inr (h.own b g cap (by rw[hB];rfl) g1).1,RepCells.of_row g2 (g5.keep hseen)⟩⟩
    .rcases hb' with⟨g1,g2⟩|⟨g,cap,g1,g2,g3⟩
     .exact⟨λg c e=>(by rw[g1]at e;cases e),λ_=>g2⟩
     .refine⟨λg' c e=>?_,λe=>(by rw[g1]at e;cases e)⟩;rw[g1]at e;simp only[wQa,wQc]at e;obtain⟨rfl,rfl⟩:=e;exact⟨g3,g2.keep hseen⟩
   cases hrv:AV.rvs (λb=>zXJ (s.bx b)) xs with
   |none=>rw[hrv]at hr;cases hr
   |some rvs=>
    rw[hrv]at hr;have hall:=jQa hseen hflat l3 hlook hrv;refine⟨_,hrun,?_⟩;have hlen:=jQo hall
    match rvs,us,hall,hlen,hr with
    |[r'],[u],hall,_,hr=>
     simp only[wQa]at hr;subst hr;simp only[RepRs]at hall;simpa using hall.1
    |[],[],hall,_,hr=>
     simp only[wQa]at hr;subst hr;simp only[wZA,wZr,Nat.zero_ne_one,dite_false,RepR];exact⟨_,rfl,hall⟩
    |r1::r2::rs,u1::u2::us,hall,_,hr=>
     simp only[wQa]at hr;subst hr;simp only[RepR];refine⟨(u1::u2::us).toArray,by simp,hall⟩
    |[_],[],_,hl,_=>simp at hl
    |[],_::_,_,hl,_=>simp at hl
    |[_],_::_::_,_,hl,_=>simp at hl
    |_::_::_,[],_,hl,_=>simp at hl
    |_::_::_,[_],_,hl,_=>simp at hl
  .cases hr
 .cases hr
theorem jKd{F:Fence}{m:Nat}{P:Program}{fn:Func}{R:Ending->World->Prop}{w0:World}{n:Dom}{s:AS}{ι:zQm}{tmps:Array Value}:∀(ds:List Deferred)(S:zQ3)(w:World),RepS w0 S n s ι { tmps:=tmps,defers:=ds } w->S.ref.heap.size<=w0.heap.size ->
  (∀w',RepS w0 S n s ι { tmps:=tmps,defers:=[] } w'->∃v,(results fn tmps).run P w'=.ok v w'/\R (.returned v) w')->LeavesInM F m P fn tmps R ds .returning w
 |[],S,w,h,_,hR=>hR w h
 |d::ds,S,w,h,href,hR=>by
  obtain⟨D,rfl,h1,h2⟩:=h.marks.2 d (by simp);have hlt:D<w.heap.size:=(wZg.1 h2).1;refine⟨by simp,.inl ⟨D,w.putObj D (.deferred none),rfl,run_takeDeferred h2,jKd ds S _ ?_ href hR⟩⟩;have hg:=wYs w D (.deferred none);refine h.turn hg (λr e=>by cases e;exact⟨h1,_,h2,rfl⟩) (ds:=ds) ⟨(wXX.1 h.marks.1).2,λd' hd'=>?_⟩ (ref:=S.ref) (zGP h.oth hg (λr e=>by cases e;exact h1) href);obtain⟨D',rfl,q1,q2⟩:=h.marks.2 d' (by simp[hd']);have hne:D'≠D:=λe=>(wXX.1 h.marks.1).1 _ hd' (by rw[e]);exact⟨D',rfl,q1,(wXC hne).trans q2⟩
def zKI(fn:Func):Code:=fn.body.getD .skip
theorem jHY{fn:Func}(hb:fn.body.isSome=true):fn.body=some (zKI fn):=by
 unfold zKI
 cases h:fn.body with
 |none=>rw[h]at hb;cases hb
 |some c=>rfl
theorem zV7{f:FuncId}{fn:Func}(ann:Ann)(hm:P.follows .mixedOrders=true)(hf:P.funcs[f]?=some fn)(hb:fn.body.isSome=true)(hn:n.round=false)(h:vcg P Γ n (zKI fn) ann kn0 s Q){w:World}{S:zQ3}{ι:zQm}{vs:Array Value}{R:Ending->World->Prop}(hr:RepS w S n s ι { tmps:=vs++Array.replicate (fn.ntmps-vs.size) undef,defers:=[] } w)(href:S.ref=w)(hend:∀e kn' s' ι' tmps w',Q e kn' s'->RepS w S n s' ι' { tmps:=tmps,defers:=[] } w'->(∀id,e≠.exit id)/\∃v,(results fn tmps).run P w'=.ok v w'/\R (.returned v) w')(hex:∀id kn' s',¬Q (.exit id) kn' s'):Calls P f vs w R:=by
 refine callsIn_wide.1 (callsIn_of_wp_marks (F:=Fence.wide) (n:=1) hf (jHY hb) trivial ?_);refine zQ7 hm (zKI fn) n ann kn0 s Q h (zHe _) Fence.wide (.inl rfl) (λ_=>rfl) w S ι _ w hr 1 _ λe kn' s' ι' a' w' hq hk' hr'=>?_;have done:LeavesInM Fence.wide 1 P fn a'.tmps R a'.defers .returning w':=
  jKd a'.defers S w' hr' (by rw[href];exact Nat.le_refl _) λw'' h''=>(hend e kn' s' ι' a'.tmps w'' hq h'').2
 cases e with
 |normal=>exact done
 |ret=>exact done
 |exit id=>exact(hex id kn' s' hq).elim
theorem jXV{w:World}{V:Nat->Prop}{ι:zQm}{bx:Nat->Bx}{k:Nat}:∀{xs:List AV}{vs:List Value},RepAVs w V ι bx xs vs->∀t,zQg w V ι bx ((xs[t]?).getD (.tup [])) ((vs++List.replicate k undef).getD t undef)
 |[],[],_,t=>by
  simp only[List.getElem?_nil,Option.getD_none,zQg,List.nil_append];refine⟨#[],?_,by simp only[RepAVs]⟩;rw[List.getD_eq_getElem?_getD,List.getElem?_replicate];split<;>rfl
 |x::xs,v::vs,h,0=>by simp only[RepAVs]at h;simpa using h.1
 |x::xs,v::vs,h,t+1=>by simp only[RepAVs]at h;simpa using jXV h.2 t
 |[],_::_,h,_=>by simp only[RepAVs]at h
 |_::_,[],h,_=>by simp only[RepAVs]at h
theorem jUc(vs:Array Value)(k t:Nat):(vs++Array.replicate k undef).getD t undef=(vs.toList++List.replicate k undef).getD t undef:=by
 rw[wZR,List.getD_eq_getElem?_getD,<-wXQ];simp
variable{args:List RV}
theorem jJQ{S:Nat->Prop}{fn:Func}{vs:Array Value}(hl:args.length<=fn.ntmps)(hgl:zJR w S)(hvs:RepRs w S args vs.toList):
  RepS w { see:=S,ref:=w } fn.ntmps (start args) (λ_=>none) { tmps:=vs++Array.replicate (fn.ntmps-vs.size) undef,defers:=[] } w:=by
 have hlen:=jQo hvs;refine⟨Bel.refl _ _,⟨List.Pairwise.nil,λd hd=>by simp at hd⟩,wXY w,?_,λt h=>by(cases h),λb h=>by(cases h),λt=>?_,λb=>trivial,λb g c hl=>by simp[start,Bx.live]at hl,λb b' g c c' hl=>by simp[start,Bx.live]at hl,hgl.keep λg off u hV hu=>⟨⟨.inl hV,λb c hl=>by simp[start,Bx.live]at hl⟩,hu⟩⟩
 .show(vs++Array.replicate (fn.ntmps-vs.size) undef).size=fn.ntmps
  simp at hlen |-;omega
 .have hk:zZJ w S w (Seen { see:=S,ref:=w } w.heap.size (start args).bx λ_=>none):=λg off u hV hu=>⟨⟨.inl hV,λb c hl=>by simp[start,Bx.live]at hl⟩,hu⟩
  have h1:=rep_avs (ι:=λ_=>none) (bx:=(start args).bx) (RepRs.keep hk hvs);have h2:=jXV (k:=fn.ntmps-vs.size) h1 t;rw[<-jUc]at h2;have e:(start args).tm t=((RV.avs args)[t]?).getD (.tup []):=by
   have:∀(l:List RV)(t:Nat),(RV.avs l)[t]?=(l[t]?).map RV.av:=by
    intro l
    induction l with
    |nil=>intro t;simp[RV.avs]
    |cons x l ih=>intro t;cases t<;>simp[RV.avs,ih]
   rw[this];simp only[start];cases args[t]?<;>rfl
  rw[e];exact h2
theorem zQa{f:FuncId}{fn:Func}{res:RV}(ann:Ann)(hm:P.follows .mixedOrders=true)(hf:P.funcs[f]?=some fn)(hb:fn.body.isSome=true)(hl:args.length<=fn.ntmps)(h:RV.wfs args->vcg P Γ fn.ntmps (zKI fn) ann kn0 (start args) (post P fn.results.toList (·=res))):Ans P f args res:=by
 intro w S vs hgl hvs;refine zV7 ann hm hf hb (n:=fn.ntmps) rfl (h (RepRs.wf hvs)) (jJQ hl hgl hvs) rfl (λe kn' s' ι' tmps w' hq hr'=>?_) (λid kn' s' hq=>hq);have done:post P fn.results.toList (·=res) .ret kn' s'->∃v,(results fn tmps).run P w'=.ok v w'/\(∃u,Ending.returned v=.returned u/\RepR w' (λg=>S g\/w.heap.size<=g) res u/\Below w.heap.size w w'):=by
  intro hq;simp only[post]at hq;split at hq
  .rename_i r hres;subst hq;obtain⟨v,h1,h2⟩:=yZQ hr' hres;have hsee:∀g,(S g\/w.heap.size<=g\/False)->(S g\/w.heap.size<=g):=λg hV=>hV.imp id λh=>h.resolve_right id;exact⟨v,h1,v,rfl,h2.keep (λg off u hV hu=>⟨hsee g hV,hu⟩),hr'.bel.below λg h=>h⟩
  .exact hq.elim
 cases e with
 |normal=>exact⟨λ_ e=>by(cases e),done hq⟩
 |ret=>exact⟨λ_ e=>by(cases e),done hq⟩
 |exit id=>exact hq.elim
def yZX(t e size n:Nat)(ys:List DV):zJS->Kn->AS->Prop
 |.exit _,_,_=>False
 |_,_,s=>match s.tm t with
  |.one (.ref b m)=>match s.bx b with
   |.row e' size' zs=>(e'=e/\size'=size)/\ys.length=n*size/\m=n/\zs=ys
   |_=>False
  |.one .nil=>n=0/\ys=[]
  |_=>False
variable{b e:Nat}
theorem yZ0{S:zQ3}(h:RepS w0 S n s ι a w)(hl:∀g,¬S.lent g){size:Nat}{us:List Value}(hb:(s.bx b).live=true)(ho:zUi w 0 e size v m us)(hn:∀g,v.ownBlock=some g->∃c,ι b=some (g,c)):zUi w w0.heap.size e size v m us:=by
 refine⟨ho.1,?_⟩
 rcases ho.2 with h1|⟨g,cap,cur,e1,h1,h2,h3⟩
 .exact .inl h1
 .refine .inr ⟨g,cap,cur,e1,?_,h2,h3⟩;obtain⟨c,hc⟩:=hn g (by rw[e1];rfl);exact(h.own b g c hb hc).1.resolve_right (hl g)
theorem zWS{f:FuncId}{fn:Func}{size n:Nat}{ys:List DV}(ann:Ann)(hm:P.follows .mixedOrders=true)(hf:P.funcs[f]?=some fn)(hb:fn.body.isSome=true)(hl:args.length<=fn.ntmps)(hres:fn.results=#[.tmp t])(h:RV.wfs args->vcg P Γ fn.ntmps (zKI fn) ann kn0 (start args) (yZX t e size n ys)):AnsO P f args e size n ys:=by
 intro w S vs hgl hvs;refine zV7 ann hm hf hb (n:=fn.ntmps) rfl (h (RepRs.wf hvs)) (jJQ hl hgl hvs) rfl (λex kn' s' ι' tmps w' hq hr'=>?_) (λid kn' s' hq=>hq);have hbel:Below w.heap.size w w':=hr'.bel.below λg h=>h;have done:yZX t e size n ys .ret kn' s'->∃v,(results fn tmps).run P w'=.ok v w'/\(∃v2 us,Ending.returned v=.returned v2/\zUi w' w.heap.size e size v2 n us/\zZo w' (λg=>(S g\/w.heap.size<=g)/\v2.ownBlock≠some g) ys us/\ys.length=n*size/\Below w.heap.size w w'):=by
  intro hq;have hsee:∀g,(S g\/w.heap.size<=g\/False)->(S g\/w.heap.size<=g):=λg hV=>hV.imp id λh=>h.resolve_right id;refine⟨_,results_tmp hres _ _ _,?_⟩;have hv:=hr'.tm t;simp only[yZX]at hq;split at hq
  .rename_i b m htm;rw[htm]at hv;split at hq
   .rename_i e' size' zs hbx;obtain⟨⟨rfl,rfl⟩,hlen,rfl,rfl⟩:=hq;obtain⟨us,o1,o2,o3⟩:=zGI hr' hbx hlen hv;refine⟨_,us,rfl,yZ0 hr' (λg h=>h) (by rw[hbx];rfl) o1 o3,o2.keep λg off u hV hu=>⟨⟨hsee g hV.1,λe=>?_⟩,hu⟩,hlen,hbel⟩;obtain⟨c,hc⟩:=o3 g e;exact hV.2 b c (by rw[hbx];rfl) hc
   .exact hq.elim
  .rename_i htm;rw[htm]at hv;simp only[zQg,zQs]at hv;obtain⟨rfl,rfl⟩:=hq;exact⟨_,[],rfl,by rw[hv];exact zVP _ _ _ _,trivial,by simp,hbel⟩
  .exact hq.elim
 cases ex with
 |normal=>exact⟨λ_ e=>by(cases e),done hq⟩
 |ret=>exact⟨λ_ e=>by(cases e),done hq⟩
 |exit id=>exact hq.elim
mutual
def AV.wf:AV->Prop
 |.one c=>match c with
  |.d v=>v.wf
  |_=>True
 |.agg cs=>Cl.wfs cs
 |.tup _=>True
def Cl.wfs:List Cl->Prop
 |[]=>True
 |c::cs=>(match c with
  |.d v=>v.wf
  |_=>True)/\Cl.wfs cs
end
def AV.wfL:List AV->Prop
 |[]=>True
 |x::xs=>x.wf/\AV.wfL xs
def Bx.wf:Bx->Prop
 |.cells cs=>Cl.wfs cs
 |.row _ _ xs=>DV.wfs xs
 |.ice xs=>DV.wfs xs
 |_=>True
def Bx.wfL:List Bx->Prop
 |[]=>True
 |x::xs=>x.wf/\Bx.wfL xs
section
variable{w:World}{V:Nat->Prop}{ι:zQm}{bx:Nat->Bx}
theorem zQO.wf:∀{cs:List Cl}{vs:List Value},zQO w V ι bx cs vs->Cl.wfs cs
 |[],[],_=>by simp only[Cl.wfs]
 |c::cs,v::vs,h=>by
  simp only[Cl.wfs];refine⟨?_,zQO.wf h.2⟩;cases c<;>first|exact RepD.wf h.1|trivial
 |[],_::_,h=>h.elim
 |_::_,[],h=>h.elim
theorem zQg.wf{x:AV}{v:Value}(h:zQg w V ι bx x v):x.wf:=by
 cases x with
 |one c=>simp only[zQg]at h;cases c<;>simp only[AV.wf]<;>first|exact RepD.wf h|trivial
 |agg cs=>simp only[zQg]at h;obtain⟨cur,_,h⟩:=h;simp only[AV.wf];exact h.wf
 |tup vs=>simp only[AV.wf]
theorem RepAVs.wf:∀{xs:List AV}{vs:List Value},RepAVs w V ι bx xs vs->AV.wfL xs
 |[],[],_=>trivial
 |_::_,_::_,h=>by simp only[RepAVs]at h;exact⟨h.1.wf,RepAVs.wf h.2⟩
 |[],_::_,h=>by simp only[RepAVs]at h
 |_::_,[],h=>by simp only[RepAVs]at h
theorem zX1.wf{b:Nat}{B:Bx}(h:zX1 w V ι bx b B):B.wf:=by
 cases B with
 |fresh=>trivial
 |gone=>trivial
 |cells cs=>obtain⟨_,_,_,_,_,_,_,h⟩:=h;exact h.wf
 |row e size xs=>
  rcases h with⟨_,rfl⟩|⟨_,_,_,_,_,_,_,h⟩
  .simp only[Bx.wf,DV.wfs]
  .exact h.wf
 |ice xs=>
  rcases h with⟨_,rfl⟩|⟨_,_,_,h,_⟩
  .simp only[Bx.wf,DV.wfs]
  .exact h.cells.wf
end
def zH4(args:List AV)(ins:List Bx):AS:=⟨λt=>(args[t]?).getD (.tup []),zQP ins⟩
def zipN{α:Type}:Nat->List α->List (Nat × α)
 |_,[]=>[]
 |n,x::xs=>(n,x)::zipN (n+1) xs
def Cl.flatV:Cl->Prop
 |.d v=>v.flat=true
 |.vp _ _=>False
 |.clo _ _=>False
 |_=>True
def jXz:List Cl->Prop
 |[]=>True
 |c::cs=>c.flatV/\jXz cs
mutual
def AV.flatV:AV->Prop
 |.one c=>c.flatV
 |.agg cs=>jXz cs
 |.tup vs=>AV.flatVL vs
def AV.flatVL:List AV->Prop
 |[]=>True
 |x::xs=>x.flatV/\AV.flatVL xs
end
def Bx.flatV:Bx->Prop
 |.cells cs=>jXz cs
 |.row _ _ xs=>∀d∈xs,d.flat=true
 |.ice _=>False
 |_=>True
def Bx.flatVL:List Bx->Prop
 |[]=>True
 |x::xs=>x.flatV/\Bx.flatVL xs
def zYe(r:Ret):Prop:=match r.fresh with
 |true=>r.res.flatV/\Bx.flatVL r.outs
 |false=>True
def jUH:List AV->AV
 |[x]=>x
 |xs=>.tup xs
def yZw(x:AV)(bx:Nat->Bx):AS:=⟨λt=>if t=0 then x else .one .dead,bx⟩
def jJX(P:Program)(n:Dom)(rs:List ResultVar)(r:Ret):zJS->Kn->AS->Prop
 |.exit _,_,_=>False
 |_,_,s=>match zG8 P s rs with
  |some xs=>fits ⟨1,λ_=>false,n.pin,false⟩ (yZw (jUH xs) s.bx) ⟨[(0,r.res)],zipN 0 r.outs⟩/\zYe r
  |none=>False
section
variable{w:World}{V V':Nat->Prop}{ι:zQm}{bx:Nat->Bx}
theorem jHE{c:Cl}(hf:c.flatV)(h:zQs w V ι bx c v):zQs w V' ι bx c v:=by
 cases c with
 |d x=>exact RepD.of_flat hf h
 |vp _ _=>exact hf.elim
 |clo _ _=>exact hf.elim
 |lit u=>exact h
 |nil=>exact h
 |ptr b off=>exact h
 |ref b n=>exact h
 |sub b o n=>exact h
 |dead=>trivial
theorem jYL:∀{cs:List Cl}{vs:List Value},jXz cs->zQO w V ι bx cs vs->zQO w V' ι bx cs vs
 |[],[],_,_=>trivial
 |_::_,_::_,hf,h=>⟨jHE hf.1 h.1,jYL hf.2 h.2⟩
 |[],_::_,_,h=>h.elim
 |_::_,[],_,h=>h.elim
mutual
theorem jHF:∀{x:AV}{v:Value},x.flatV->zQg w V ι bx x v->zQg w V' ι bx x v
 |.one c,v,hf,h=>by simp only[zQg,AV.flatV]at h hf |-;exact jHE hf h
 |.agg cs,v,hf,h=>by
  simp only[zQg,AV.flatV]at h hf |-;obtain⟨cur,e,h⟩:=h;exact⟨cur,e,jYL hf h⟩
 |.tup vs,v,hf,h=>by
  simp only[zQg,AV.flatV]at h hf |-;obtain⟨cur,e,h⟩:=h;exact⟨cur,e,flat_avs hf h⟩
theorem flat_avs:∀{xs:List AV}{vs:List Value},AV.flatVL xs->RepAVs w V ι bx xs vs->RepAVs w V' ι bx xs vs
 |[],[],_,_=>by simp only[RepAVs]
 |_::_,_::_,hf,h=>by simp only[RepAVs,AV.flatVL]at h hf |-;exact⟨jHF hf.1 h.1,flat_avs hf.2 h.2⟩
 |[],_::_,_,h=>by simp only[RepAVs]at h
 |_::_,[],_,h=>by simp only[RepAVs]at h
end
theorem yXl{B:Bx}(hf:B.flatV)(h:zX1 w V ι bx b B):zX1 w V' ι bx b B:=by
 cases B with
 |fresh=>trivial
 |gone=>trivial
 |cells cs=>obtain⟨g,c,cur,T,h1,h2,h0,h3⟩:=h;exact⟨g,c,cur,T,h1,h2,h0,jYL hf h3⟩
 |row e size xs=>
  rcases h with h|⟨g,cap,cur,h1,h2,h3,h4,h5⟩
  .exact .inl h
  .exact .inr ⟨g,cap,cur,h1,h2,h3,h4,zZo.of_flat (List.all_eq_true.2 hf) h5⟩
 |ice xs=>exact hf.elim
theorem jKD:∀{l:List Bx}{b:Nat},Bx.flatVL l->(zQP l b).flatV
 |[],b,_=>by simp[zQP,Bx.flatV]
 |x::l,0,h=>h.1
 |x::l,b+1,h=>jKD (b:=b) h.2
end
theorem jXq:∀{l:List Bx}{k b:Nat},zYO (zipN k l) (k+b)=zQP l b
 |[],_,_=>rfl
 |x::l,k,0=>by simp[zipN,zYO,zQP]
 |x::l,k,b+1=>by
  have:=jXq (l:=l) (k:=k+1) (b:=b);simp only[zipN,zYO];rw[if_neg (by omega),show k+(b+1)=k+1+b from by omega,this];rfl
theorem yZt:∀{l:List Bx},(∀b,(zQP l b).wf)->Bx.wfL l
 |[],_=>trivial
 |x::l,h=>⟨h 0,yZt λb=>h (b+1)⟩
theorem zGE{w:World}{V:Nat->Prop}{ι:zQm}{bx:Nat->Bx}:∀{xs:List AV}{vs:List Value},RepAVs w V ι bx xs vs->xs.length=vs.length
 |[],[],_=>rfl
 |_::_,_::_,h=>by simp only[RepAVs]at h;simp[zGE h.2]
 |[],_::_,h=>by simp only[RepAVs]at h
 |_::_,[],h=>by simp only[RepAVs]at h
variable{args:List AV}{pin:Nat}{ins:List Bx}
theorem jUl{fn:Func}(hl:args.length<=fn.ntmps)(hp:(List.range pin).all (λb=>(zQP ins b).known)=true){w:World}{S:Nat->Prop}{ι:zQm}{vs:Array Value}(hgl:zJR w S)(hh:jZy w S ι args ins vs.toList) :
  RepS w { see:=S,lent:=OwnB (zQP ins) ι,ref:=w,nm:=ι } ⟨fn.ntmps,λ_=>false,List.range pin,false⟩ (zH4 args ins) ι { tmps:=vs++Array.replicate (fn.ntmps-vs.size) undef,defers:=[] } w:=by
 have hargs:=hh.args;have hlen:=zGE hargs;have hk:zZJ w S w (Seen { see:=S,lent:=OwnB (zQP ins) ι,ref:=w,nm:=ι } w.heap.size (zQP ins) ι):=λg off u hV hu=>⟨⟨.inl hV,λb c hl e=>(hh.own b g c hl e).1 hV⟩,hu⟩
 refine⟨Bel.refl _ _,⟨List.Pairwise.nil,λd hd=>by simp at hd⟩,wXY w,?_,λt h=>by(cases h),λb hb=>⟨rfl,(List.all_eq_true.1 hp) b hb⟩,λt=>?_,λb=>(hh.bx b).seen hk,λb g c hl e=>⟨.inr ⟨b,c,hl,e⟩,(hh.own b g c hl e).2⟩,hh.dist,hgl.keep hk⟩
 .show(vs++Array.replicate (fn.ntmps-vs.size) undef).size=fn.ntmps
  simp at hlen |-;omega
 .have h1:RepAVs w (Seen { see:=S,lent:=OwnB (zQP ins) ι,ref:=w,nm:=ι } w.heap.size (zQP ins) ι) ι (zQP ins) args vs.toList:=hargs.keep (λb hb=>⟨hb,rfl⟩) hk;have h2:=jXV (k:=fn.ntmps-vs.size) h1 t;rw[<-jUc]at h2;exact h2
theorem jXa{fn:Func}{r:Ret}{kn':Kn}{S:Nat->Prop}{tmps:Array Value}(hr':RepS w { see:=S,lent:=OwnB (zQP ins) ι,ref:=w,nm:=ι } ⟨fn.ntmps,λ_=>false,List.range pin,false⟩ s' ι' { tmps:=tmps,defers:=[] } w') :
  jJX P ⟨fn.ntmps,λ_=>false,List.range pin,false⟩ fn.results.toList r .ret kn' s'->∃v,(results fn tmps).run P w'=.ok v w'/\∃v2 ι',Ending.returned v=.returned v2/\yXH w S ι pin ins r w' ι' v2:=by
 intro hq;simp only[jJX]at hq;split at hq
 .rename_i xs hxs;obtain⟨hfit,hfresh⟩:=hq;obtain⟨us,hrun,hus⟩:=jWs hr' hxs;have hul:=zGE hus;refine⟨_,hrun,?_⟩;have hx:zQg w' (Seen { see:=S,lent:=OwnB (zQP ins) ι,ref:=w,nm:=ι } w.heap.size s'.bx ι') ι' s'.bx (jUH xs) (if h:us.toArray.size=1 then us.toArray[0] else .tuple us.toArray):=by
   match xs,us,hus,hul with
   |[x],[u],hus,_=>simp only[RepAVs]at hus;simpa [jUH]using hus.1
   |[],[],hus,_=>simp only[jUH,zQg];exact⟨_,rfl,hus⟩
   |x1::x2::xs,u1::u2::us,hus,_=>simp only[jUH,zQg];exact⟨(u1::u2::us).toArray,by simp,hus⟩
   |[_],[],_,hl=>simp at hl
   |[],_::_,_,hl=>simp at hl
   |[_],_::_::_,_,hl=>simp at hl
   |_::_::_,[],_,hl=>simp at hl
   |_::_::_,[_],_,hl=>simp at hl
  generalize (if h:us.toArray.size=1 then us.toArray[0] else .tuple us.toArray)=v at hx;generalize jUH xs=x at hx hfit;have h1:RepS w { see:=S,lent:=OwnB (zQP ins) ι,ref:=w,nm:=ι } ⟨1,λ_=>false,List.range pin,false⟩ (yZw x s'.bx) ι' { tmps:=#[v],defers:=[] } w':=
   ⟨hr'.bel,⟨List.Pairwise.nil,λd hd=>by simp at hd⟩,hr'.oth,rfl,λt h=>by(cases h),hr'.pin,λt=>by
    show zQg _ _ _ _ (if t=0 then x else .one .dead) _
    split
    .rename_i e;subst e;exact hx
    .simp only[zQg,zQs],hr'.bx,hr'.own,hr'.dist,hr'.glob⟩
  obtain⟨ι2,h2⟩:=h1.fit hfit;have hbx:zYO (zipN 0 r.outs)=zQP r.outs:=by
   funext b;have:=jXq (l:=r.outs) (k:=0) (b:=b);rwa [Nat.zero_add]at this
  have htm:zQg w' (Seen { see:=S,lent:=OwnB (zQP ins) ι,ref:=w,nm:=ι } w.heap.size (zQP r.outs) ι2) ι2 (zQP r.outs) r.res v:=by
   have:=h2.tm 0;rw[<-hbx];exact this
  have hb2:∀b,zX1 w' (Seen { see:=S,lent:=OwnB (zQP ins) ι,ref:=w,nm:=ι } w.heap.size (zQP r.outs) ι2) ι2 (zQP r.outs) b (zQP r.outs b):=λb=>by
   have:=h2.bx b;rw[<-hbx];exact this
  have hown:∀b g c,(zQP r.outs b).live=true->ι2 b=some (g,c)->(w.heap.size<=g\/OwnB (zQP ins) ι g)/\g<w'.heap.size:=λb g c hl e=>h2.own b g c (by rw[<-hbx]at hl;exact hl) e;have hdist:∀b b' g c c',(zQP r.outs b).live=true->(zQP r.outs b').live=true->b≠b'->ι2 b=some (g,c)->ι2 b'≠some (g,c'):=λb b' g c c' hl hl'=>h2.dist b b' g c c' (by rw[<-hbx]at hl;exact hl) (by rw[<-hbx]at hl';exact hl');have hpin:∀b,b<pin->ι2 b=ι b:=λb hb=>(h2.pin b (wQy.2 hb)).1;refine⟨v,ι2,rfl,?_⟩
  cases hfr:r.fresh with
  |true=>
   unfold zYe at hfresh;rw[hfr]at hfresh;exact⟨jHF hfresh.1 htm,λb=>yXl (jKD hfresh.2) (hb2 b),hown,hdist,hpin,h2.bel⟩
  |false=>
   have hk2:zZJ w' (Seen { see:=S,lent:=OwnB (zQP ins) ι,ref:=w,nm:=ι } w.heap.size (zQP r.outs) ι2) w' (jUg w S ι ins r ι2):=λg off u hV hu=>⟨⟨by
    rcases hV.1 with h|h|h
    .exact .inl ⟨hfr,h⟩
    .exact .inr (.inl h)
    .exact .inr (.inr h),λ⟨b,c,hl,e⟩=>hV.2 b c hl e⟩,hu⟩
   exact⟨htm.keep (λb hb=>⟨hb,rfl⟩) hk2,λb=>(hb2 b).seen hk2,hown,hdist,hpin,h2.bel⟩
 .exact hq.elim
theorem zQe{f:FuncId}{fn:Func}{r:Ret}(ann:Ann)(hm:P.follows .mixedOrders=true)(hf:P.funcs[f]?=some fn)(hb:fn.body.isSome=true)(hl:args.length<=fn.ntmps)(hp:(List.range pin).all (λb=>(zQP ins b).known)=true)(h:AV.wfL args->Bx.wfL ins->vcg P Γ ⟨fn.ntmps,λ_=>false,List.range pin,false⟩ (zKI fn) ann kn0 (zH4 args ins) (jJX P ⟨fn.ntmps,λ_=>false,List.range pin,false⟩ fn.results.toList r)):AnsG P f pin args ins r:=by
 intro w S ι vs hgl hh;have hv:=h hh.args.wf (yZt λb=>(hh.bx b).wf);refine zV7 ann hm hf hb (n:=⟨fn.ntmps,λ_=>false,List.range pin,false⟩) rfl hv (jUl hl hp hgl hh) rfl (λe kn' s' ι' tmps w' hq hr'=>?_) (λid kn' s' hq=>hq)
 cases e with
 |normal=>exact⟨λ_ e=>by(cases e),jXa (kn':=kn') hr' hq⟩
 |ret=>exact⟨λ_ e=>by(cases e),jXa (kn':=kn') hr' hq⟩
 |exit id=>exact hq.elim
abbrev wQz:=@Int.mul_le_mul
variable{x y:Int}
theorem jHb{M:Int}(h1:0<=x)(h2:x<=M)(h3:0<=y)(h4:y<=M):0<=x*y/\x*y<=M*M:=
 ⟨Int.mul_nonneg h1 h3,wQz h2 h4 h3 (by omega)⟩
def modS(n k:Int):Int:=if k<1 then 0 else(wrap .i64 (n.tmod k+k)).tmod k
abbrev wZ1:=@Int.tmod_eq_emod_of_nonneg
abbrev wYt:=@Int.add_mul_emod_self_left
theorem jHc{n k:Int}(hk:1<=k)(hk':k<=4611686018427387904):modS n k=n%k:=by
 unfold modS;rw[if_neg (by omega)];have a:=Int.tmod_lt_of_pos n (show 0<k by omega);have b : -k<n.tmod k:=by
  rcases wXO 0 n with h|h
  .have:=wYi k h;omega
  .have:=Int.tmod_lt_of_pos (-n) (show 0<k by omega);rw[Int.neg_tmod]at this;omega
 rw[wQb _ (by omega),wZ1 (by omega),Int.add_emod_right,Int.tmod_def];rw[show n-k*n.tdiv k=n+k*(-(n.tdiv k)) from by rw[Int.mul_neg];omega,wYt]
structure Rc where
  a:Int
  b:Int
  c:Int
  d:Int
deriving DecidableEq
def okC(v:Int):Bool:=decide (-1073741824<=v)&&decide (v<=1073741824)
def Rc.valid(r:Rc):Bool:=okC r.a&&okC r.b&&okC r.c&&okC r.d
def Rc.empty(r:Rc):Bool:=!r.valid || decide (r.c<=r.a) || decide (r.d<=r.b)
def Rc.zero:Rc:=⟨0,0,0,0⟩
def Rc.clean(r:Rc):Rc:=if r.empty then Rc.zero else r
def Rc.area(r:Rc):Int:=if r.empty then 0 else(r.c-r.a)*(r.d-r.b)
def Rc.has(r:Rc)(x y:Int):Bool:=!r.empty&&decide (r.a<=x)&&decide (x<r.c)&&decide (r.b<=y)&&decide (y<r.d)
def Rc.inter(r q:Rc):Rc:=if r.empty || q.empty then Rc.zero else Rc.clean ⟨max r.a q.a,max r.b q.b,min r.c q.c,min r.d q.d⟩
def Rc.covers(r q:Rc):Bool:=q.empty || (!r.empty&&decide (r.a<=q.a)&&decide (r.b<=q.b)&&decide (q.c<=r.c)&&decide (q.d<=r.d))
def Rc.hull(r q:Rc):Rc:=if q.empty then r else if r.empty then q else⟨min r.a q.a,min r.b q.b,max r.c q.c,max r.d q.d⟩
def Rc.move(r:Rc)(x y:Int):Rc:=if r.empty || decide (x < -2147483648) || decide (2147483648<x) || decide (y < -2147483648) || decide (2147483648<y) then Rc.zero else Rc.clean ⟨r.a+x,r.b+y,r.c+x,r.d+y⟩
theorem Rc.empty_false{r:Rc}(h:r.empty=false) :
  -1073741824<=r.a/\r.a<r.c/\r.c<=1073741824 /\ -1073741824<=r.b/\r.b<r.d/\r.d<=1073741824:=by
 simp[Rc.empty,Rc.valid,okC]at h;omega
theorem Rc.empty_iff(r:Rc):r.empty=false ↔ -1073741824<=r.a/\r.a<r.c/\r.c<=1073741824 /\ -1073741824<=r.b/\r.b<r.d/\r.d<=1073741824:=by
 refine⟨Rc.empty_false,λh=>?_⟩;simp[Rc.empty,Rc.valid,okC];omega
theorem Rc.zero_empty:Rc.zero.empty=true:=by decide
theorem Rc.clean_of{r:Rc}(h:r.empty=false):r.clean=r:=by simp[Rc.clean,h]
theorem Rc.clean_zero{r:Rc}(h:r.empty=true):r.clean=Rc.zero:=by simp[Rc.clean,h]
abbrev wQ9:=@IntKind.wrap_i64
theorem Rc.area_wrap(r:Rc):wrap .i64 (wrap .i64 (r.clean.c-r.clean.a)*wrap .i64 (r.clean.d-r.clean.b))=r.area:=by
 by_cases h:r.empty=true
 .rw[Rc.clean_zero h];simp[Rc.area,h,Rc.zero,wQ9]
 .have h:r.empty=false:=by simpa using h
  obtain⟨h1,h2,h3,h4,h5,h6⟩:=Rc.empty_false h;rw[Rc.clean_of h,wQb (r.c-r.a) (by omega),wQb (r.d-r.b) (by omega)];have:=jHb (x:=r.c-r.a) (y:=r.d-r.b) (M:=2147483648) (by omega) (by omega) (by omega) (by omega);rw[wQb _ (by omega)];simp[Rc.area,h]
def is(l:List Int):List DV:=l.map (.int .i64)
def ints(l:List DV):List Int:=l.map λ| .int _ n=>n|_=>0
theorem zZI(l:List Int):ints (is l)=l:=by simp[ints,is,wZB]
def Rc.cells(r:Rc):List DV:=[.int .i64 r.a,.int .i64 r.b,.int .i64 r.c,.int .i64 r.d]
def rcs(l:List Rc):List DV:=l.flatMap Rc.cells
theorem zXT(l:List Rc):(rcs l).length=l.length*4:=by
 unfold rcs
 induction l with
 |nil=>rfl
 |cons r l ih=>simp[ih,Rc.cells];omega
theorem jUy(l m:List Rc):rcs (l++m)=rcs l++rcs m:=by simp[rcs]
abbrev wZC:=@List.getElem_cons_succ
theorem zWK:∀(l:List Rc)(i:Nat)(h:i<l.length),(rcs l)[i*4]?=some (.int .i64 l[i].a)/\(rcs l)[i*4+1]?=some (.int .i64 l[i].b)/\(rcs l)[i*4+1+1]?=some (.int .i64 l[i].c)/\(rcs l)[i*4+1+1+1]?=some (.int .i64 l[i].d)
 |r::l,0,_=>by simp[rcs,Rc.cells]
 |r::l,i+1,h=>by
  have:=zWK l i (by simpa using h);have e:rcs (r::l)=Rc.cells r++rcs l:=by simp[rcs]
  rw[e];simp only[wZC];have key:∀j,(Rc.cells r++rcs l)[(i+1)*4+j]?=(rcs l)[i*4+j]?:=λj=>by
   rw[wQq (by simp[Rc.cells];omega)];congr 1;simp[Rc.cells];omega
  exact⟨by have:=key 0;simp only[Nat.add_zero]at this;rw[this];exact(zWK l i (by simpa using h)).1,by rw[key 1];exact this.2.1,by rw[show(i+1)*4+1+1=(i+1)*4+2 from rfl,key 2];exact this.2.2.1,by rw[show(i+1)*4+1+1+1=(i+1)*4+3 from rfl,key 3];exact this.2.2.2⟩
def nOf:DV->Int
 |.int _ n=>n
 |_=>0
def zH2:List DV->List Rc
 |a::b::c::d::r=>⟨nOf a,nOf b,nOf c,nOf d⟩::zH2 r
 |_=>[]
theorem zVy:∀l:List Rc,zH2 (rcs l)=l
 |[]=>rfl
 |r::l=>by
  have e:rcs (r::l)=.int .i64 r.a::.int .i64 r.b::.int .i64 r.c::.int .i64 r.d::rcs l:=by simp[rcs,Rc.cells]
  rw[e,zH2,zVy l];rfl
def yZp(n:Nat)(xs:List DV):Prop:=xs=rcs (zH2 xs)/\n=(zH2 xs).length
theorem jHl(l:List Rc):yZp l.length (rcs l):=⟨by rw[zVy],by rw[zVy]⟩
variable{xs:List DV}{n:Nat}
theorem yZp.of(h:yZp n xs):∃l:List Rc,xs=rcs l/\n=l.length:=⟨_,h.1,h.2⟩
theorem zW3{l:List Rc}(h:i<l.length):nAt (rcs l) (i*4)=l[i].a/\nAt (rcs l) (i*4+1)=l[i].b/\nAt (rcs l) (i*4+1+1)=l[i].c/\nAt (rcs l) (i*4+1+1+1)=l[i].d:=by
 obtain⟨h1,h2,h3,h4⟩:=zWK l i h;exact⟨by simp[nAt,h1],by simp[nAt,h2],by simp[nAt,h3],by simp[nAt,h4]⟩
def zZX(l:List Rc):Rc:=l.foldl Rc.hull Rc.zero
abbrev wZm:=@List.take_add_one
variable{k:Nat}
theorem jUN{l:List Rc}(h:k<l.length):zZX (l.take (k+1))=(zZX (l.take k)).hull l[k]:=by
 unfold zZX;rw[wZm,List.foldl_append,List.getElem?_eq_getElem h];rfl
def Rc.pieces(r i:Rc):List Rc:=[⟨r.a,r.b,r.c,i.b⟩,⟨r.a,i.d,r.c,r.d⟩,⟨r.a,i.b,i.a,i.d⟩,⟨i.c,i.b,r.c,i.d⟩]
def filt(l:List Rc):List Rc:=l.filter λp=>!p.empty
def Rc.sub(r q:Rc):List Rc:=if r.empty then[] else if(r.inter q).empty then[r] else filt (Rc.pieces r (r.inter q))
theorem zQl(l:List Int):(is l).length=l.length:=by simp[is]
theorem jVT{l:List Int}(h:k<l.length):(is l)[k]?=some (.int .i64 l[k]):=by simp[is,h]
theorem jQF{l:List Int}(h:k<l.length):nAt (is l) k=l[k]:=by simp[nAt,jVT h]
theorem jGa:∀(xs:List DV),DV.wfs xs↔∀x∈xs,x.wf
 |[]=>by simp[DV.wfs]
 |x::xs=>by simp only[DV.wfs,jGa xs,wQm,forall_eq_or_imp]
theorem yYo{l:List Int}(h:DV.wfs (is l))(hk:k<l.length): -9223372036854775808<=l[k]/\l[k]<=9223372036854775807:=by
 have:=(jGa _).1 h (.int .i64 l[k]) (by simp[is]);simp[DV.wf,IntKind.min,IntKind.max,IntKind.signed,IntKind.bits]at this;exact this
theorem Rc.has_iff(r:Rc)(x y:Int):r.has x y=true↔r.empty=false/\r.a<=x/\x<r.c/\r.b<=y/\y<r.d:=by
 simp[Rc.has,and_assoc]
theorem Rc.clean_has(r:Rc)(x y:Int):r.clean.has x y=r.has x y:=by
 cases h:r.empty with
 |true=>rw[Rc.clean_zero h];simp[Rc.has,h,Rc.zero_empty]
 |false=>rw[Rc.clean_of h]
abbrev wQ4:=@Bool.eq_iff_iff
theorem Rc.inter_has(r q:Rc)(x y:Int):(r.inter q).has x y=(r.has x y&&q.has x y):=by
 unfold Rc.inter
 cases h1:r.empty with
 |true=>simp[Rc.has,h1,Rc.zero_empty]
 |false=>
  cases h2:q.empty with
  |true=>simp[Rc.has,h2,Rc.zero_empty]
  |false=>
   simp only[Bool.or_self,wQT,if_false,Rc.clean_has];rw[wQ4,wQd,Rc.has_iff,Rc.has_iff,Rc.has_iff,Rc.empty_iff];have g1:=(Rc.empty_iff r).1 h1;have g2:=(Rc.empty_iff q).1 h2;simp only[h1,h2,true_and];omega
theorem Rc.hull_has{r q:Rc}(h:r.has x y=true\/q.has x y=true):(r.hull q).has x y=true:=by
 unfold Rc.hull
 cases h1:q.empty with
 |true=>
  rcases h with h|h
  .simpa using h
  .simp[Rc.has,h1]at h
 |false=>
  cases h2:r.empty with
  |true=>
   rcases h with h|h
   .simp[Rc.has,h2]at h
   .simpa using h
  |false=>
   simp only[wQT,if_false];rw[Rc.has_iff,Rc.empty_iff];have g1:=(Rc.empty_iff q).1 h1;have g2:=(Rc.empty_iff r).1 h2;rw[Rc.has_iff,Rc.has_iff]at h;simp only;omega
def cnt(l:List Rc)(x y:Int):Int:=(l.map λr=>if r.has x y then(1:Int) else 0).sum
def areas(l:List Rc):Int:=(l.map Rc.area).sum
def us(l:List Int):List DV:=l.map (.int .u16)
theorem jHn(l:List Int):ints (us l)=l:=by simp[ints,us,wZB]
theorem zJG(l:List Int):(us l).length=l.length:=by simp[us]
theorem yQc{l:List Int}(h:k<l.length):(us l)[k]?=some (.int .u16 l[k]):=by simp[us,h]
theorem jZZ{l:List Int}(h:k<l.length):nAt (us l) k=l[k]:=by simp[nAt,yQc h]
theorem jGc(l m:List Int):us l++us m=us (l++m):=by simp[us]
def IsU(n:Nat)(xs:List DV):Prop:=xs=us (ints xs)/\n=xs.length
theorem IsU.of(h:IsU n xs):∃l:List Int,xs=us l/\n=l.length:=by
 refine⟨ints xs,h.1,?_⟩;rw[h.2,h.1,zJG,jHn]
theorem yZA(hn:xs.length=n)(hx:∀(j:Nat) d,xs[j]?=some d->∃v,d=.int .u16 v):IsU n xs:=by
 refine⟨?_,hn.symm⟩;clear hn
 induction xs with
 |nil=>rfl
 |cons x xs ih=>
  obtain⟨v,rfl⟩:=hx 0 _ rfl;have:=ih λj d hj=>hx (j+1) d hj;simp only[us,ints,wQi]at this |-;rw[<-this]
def zZi(w h:Int):Bool:=decide (1<=w)&&decide (1<=h)&&decide (w*h<=16777216)
def lenW(w h s:Int):Int:=wrap .i64 (wrap .i64 (wrap .i64 (h-1)*s)+w)
def zQ0(w h s:Int)(n:Nat):Bool:=zZi w h&&decide (w<=s)&&decide (s<=16777216)&&decide (lenW w h s<=n)
structure Pl where (w h s:Int) (n:Nat) (xs:List DV)
def Pl.none:Pl:=⟨0,0,0,0,[]⟩
def jVV(w h s:Int)(n:Nat)(x y:Int):Bool:=zQ0 w h s n&&decide (0<=x)&&decide (x<w)&&decide (0<=y)&&decide (y<h)
def atP(w h s:Int)(n:Nat)(xs:List DV)(x y:Int):Int:=if jVV w h s n x y then nAt xs (y*s+x).toNat else 0
def yZP(w h s:Int)(n:Nat)(xs:List DV)(w' h' s':Int)(n':Nat)(xs':List DV):Bool:=decide (w=w')&&decide (h=h')&&decide (s=s')&&decide (n=n')&&decide (ints xs=ints xs')
abbrev wQ5:=@Int.tdiv_eq_ediv_of_nonneg
theorem zH6{w h:Int}(h1:1<=w)(h2:1<=h):(w<=wrap .i64 (Int.tdiv 16777216 h))↔w*h<=16777216:=by
 have hd:Int.tdiv 16777216 h=16777216 / h:=wQ5 (by omega);have h3:(0:Int)<=16777216 / h:=wQU (by omega) (by omega);have h4:(16777216:Int) / h<=16777216:=wZY _ (by omega);rw[hd,wQb _ (by omega),wYj (by omega)]
theorem zXM{w h:Int}(hf:zZi w h=true):1<=w/\1<=h/\w<=16777216/\h<=16777216/\w*h<=16777216:=by
 simp only[zZi,wQd,wQf]at hf;obtain⟨⟨h1,h2⟩,h3⟩:=hf;have e1:w*1<=w*h:=Int.mul_le_mul_of_nonneg_left h2 (by omega);have e2:1*h<=w*h:=Int.mul_le_mul_of_nonneg_right h1 (by omega);omega
variable{s w h:Int}
theorem jVR(hf:zZi w h=true)(h1:w<=s)(h2:s<=16777216):lenW w h s=(h-1)*s+w/\1<=lenW w h s/\lenW w h s<=562949953421312/\0<=(h-1)*s:=by
 obtain⟨a,b,c,d,_⟩:=zXM hf;have e:=jHb (x:=h-1) (y:=s) (M:=16777216) (by omega) (by omega) (by omega) (by omega);unfold lenW;rw[wQb (h-1) (by omega),wQb ((h-1)*s) (by omega),wQb _ (by omega)];omega
theorem zJF(hv:zQ0 w h s n=true):1<=w/\1<=h/\w<=16777216/\h<=16777216/\w*h<=16777216/\w<=s/\s<=16777216/\(h-1)*s+w<=n/\0<=(h-1)*s:=by
 simp only[zQ0,wQd,wQf]at hv;obtain⟨⟨⟨h1,h2⟩,h3⟩,h4⟩:=hv;obtain⟨e1,_,_,e4⟩:=jVR h1 h2 h3;obtain⟨a,b,c,d,e⟩:=zXM h1;rw[e1]at h4;exact⟨a,b,c,d,e,h2,h3,h4,e4⟩
theorem place(hv:zQ0 w h s n=true)(h1:0<=x)(h2:x<w)(h3:0<=y)(h4:y<h):0<=y*s/\y*s+x<n/\y*s+w<=n/\y*s<=281474976710656/\wrap .i64 (y*s)=y*s/\wrap .i64 (y*s+x)=y*s+x:=by
 obtain⟨a,b,c,d,e,f,g,i,j⟩:=zJF hv;have e1:=jHb (x:=y) (y:=s) (M:=16777216) (by omega) (by omega) (by omega) (by omega);have e2:y*s<=(h-1)*s:=Int.mul_le_mul_of_nonneg_right (by omega) (by omega);refine⟨by omega,by omega,by omega,by omega,wQb _ (by omega),wQb _ (by omega)⟩
theorem yXn{l l':List Int}(he:l.length=l'.length)(hm:l.length<=2 ^ 63-1){B:Bool}(hB:B=decide (l=l')) :
  (∃k,(k<=l.length/\List.take k l=List.take k l')/\(0:Int)=(k:Int)) /\
    ∀(k:Nat),
     k<=l.length/\List.take k l=List.take k l' ->
      ((k:Int)<(l.length:Int) ->
        (0<=(k:Int)/\(k:Int)<(l.length:Int)/\k*1<l.length) /\
         (us l)[k*1]?=some (DV.int IntKind.u16 (nAt (us l) (k*1))) /\
          (0<=(k:Int)/\(k:Int)<(l'.length:Int)/\k*1<l'.length) /\
           (us l')[k*1]?=some (DV.int IntKind.u16 (nAt (us l') (k*1))) /\
            ((nAt (us l) (k*1) !=nAt (us l') (k*1))=true->false=B) /\
             ((nAt (us l) (k*1) !=nAt (us l') (k*1))=false ->
              ∃k':Nat,
               (k'<=l.length/\List.take k' l=List.take k' l') /\
                l.length-k'<l.length-k/\IntKind.i64.wrap ((k:Int)+1)=(k':Int))) /\
       (¬(k:Int)<(l.length:Int)->true=B):=by
 subst hB;refine⟨⟨0,⟨by omega,rfl⟩,rfl⟩,λk hk=>⟨λhlt=>?_,λhge=>?_⟩⟩
 .have h:k<l.length:=by omega
  have h':k<l'.length:=by omega
  have hw:wrap .i64 ((k:Int)+1)=((k+1:Nat):Int):=by rw[wQb _ (by omega)];omega
  simp only[wQg,jZZ h,jZZ h'];refine⟨by omega,yQc h,by omega,yQc h',λhd=>?_,λhd=>?_⟩
  .have:l≠l':=λe=>by subst e;simp at hd
   simp[this]
  .refine⟨k+1,⟨by omega,?_⟩,by omega,hw⟩;have hr:l[k]=l'[k]:=by simpa using hd
   rw[wZm,wZm,hk.2,List.getElem?_eq_getElem h,List.getElem?_eq_getElem h',hr]
 .have hkl:k=l.length:=by omega
  have:=hk.2;rw[wQR (by omega),wQR (by omega)]at this;simp[this]
abbrev wXf:=@Int.toNat_of_nonneg
abbrev wXZ:=@Int.natCast_mul
theorem jUi{l:List Int}(hv:zQ0 w h s l.length=true):∀y,y<h.toNat->y*s.toNat+w.toNat<=l.length:=by
 intro y hy;obtain⟨a,b,c,d,e,f,g,i,j⟩:=zJF hv;obtain⟨p1,p2,p3,p4,_⟩:=place (x:=0) (y:=(y:Int)) hv (by omega) (by omega) (by omega) (by omega);have e1:((y*s.toNat:Nat):Int)=(y:Int)*s:=by rw[wXZ,wXf (by omega)]
 omega
variable{x y:Nat}
theorem idx(hs:0<=s):((y:Int)*s+(x:Int)).toNat=y*s.toNat+x:=by
 have e1:((y*s.toNat:Nat):Int)=(y:Int)*s:=by rw[wXZ,wXf hs]
 omega
theorem at_in{l:List Int}(hv:zQ0 w h s l.length=true)(hx:x<w.toNat)(hy:y<h.toNat):l[y*s.toNat+x]?=some (atP w h s l.length (us l) x y):=by
 have hr:=jUi hv y hy;obtain⟨a,b,c,d,e,f,g,i,j⟩:=zJF hv;have hi:jVV w h s l.length x y=true:=by simp[jVV,hv];omega
 have hk:y*s.toNat+x<l.length:=by omega
 have hz:((y:Int)*s+(x:Int)).toNat=y*s.toNat+x:=idx (by omega);simp only[atP,hi,if_true,hz,jZZ hk,List.getElem?_eq_getElem hk]
theorem zY6(h:k<=9223372036854775806):wrap .i64 ((k:Int)+1)=((k+1:Nat):Int):=by rw[wQb _ (by omega)];omega
theorem w1_:wrap .i64 0=0/\wrap .i64 1=1/\wrap .i64 2=2/\wrap .i64 3=3/\wrap .i64 4=4/\wrap .i64 5=5/\wrap .i64 6=6:=by decide
structure Px where
  a:Int
  b:Int
  c:Int
  al:Int
  f:Int
deriving DecidableEq
def Px.zero:Px:=⟨0,0,0,0,0⟩
def Px.ds(p:Px):List DV:=[.int .u16 p.a,.int .u16 p.b,.int .u16 p.c,.int .u16 p.al,.int .u16 p.f]
def pxs(l:List Px):List DV:=l.flatMap Px.ds
def dI:DV->Int
 |.int _ n=>n
 |_=>0
def zQo:List DV->List Px
 |a::b::c::d::e::r=>⟨dI a,dI b,dI c,dI d,dI e⟩::zQo r
 |_=>[]
theorem zZN:∀l:List Px,zQo (pxs l)=l
 |[]=>rfl
 |p::l=>by
  show zQo (Px.ds p++pxs l)=_
  simp[Px.ds,zQo,dI,zZN l]
theorem zQE(l:List Px):(pxs l).length=l.length*5:=by
 induction l with
 |nil=>rfl
 |cons p l ih=>simp[pxs,Px.ds]at ih |-;omega
theorem zHL(p:Px)(l:List Px):pxs (p::l)=Px.ds p++pxs l:=rfl
theorem zJB(l m:List Px):pxs l++pxs m=pxs (l++m):=by simp[pxs]
theorem zKx:∀{l:List Px}{k:Nat}(h:k<l.length),(pxs l)[k*5]?=some (.int .u16 l[k].a)/\(pxs l)[k*5+1]?=some (.int .u16 l[k].b)/\(pxs l)[k*5+2]?=some (.int .u16 l[k].c)/\(pxs l)[k*5+3]?=some (.int .u16 l[k].al)/\(pxs l)[k*5+4]?=some (.int .u16 l[k].f)
 |p::l,0,_=>by simp[zHL,Px.ds]
 |p::l,k+1,h=>by
  have:=zKx (l:=l) (k:=k) (by simpa using h);have e:∀j,(pxs (p::l))[(k+1)*5+j]?=(pxs l)[k*5+j]?:=λj=>by
   rw[zHL,wQq (by simp[Px.ds];omega)];congr 1;simp[Px.ds];omega
  have e0:=e 0;simp only[Nat.add_zero]at e0;simp only[e,e0,wZC];exact this
theorem zQX{l:List Px}(h:k<l.length):nAt (pxs l) (k*5)=l[k].a/\nAt (pxs l) (k*5+1)=l[k].b/\nAt (pxs l) (k*5+2)=l[k].c/\nAt (pxs l) (k*5+3)=l[k].al/\nAt (pxs l) (k*5+4)=l[k].f:=by
 obtain⟨h1,h2,h3,h4,h5⟩:=zKx h;simp[nAt,h1,h2,h3,h4,h5]
abbrev wYu:=@List.take_succ_cons
abbrev wX0:=@List.take_append
theorem zHK(l:List Px)(k:Nat):(pxs l).take (k*5)=pxs (l.take k):=by
 induction k generalizing l with
 |zero=>simp[pxs]
 |succ k ih=>
  cases l with
  |nil=>simp[pxs]
  |cons p l=>
   rw[wYu,zHL,zHL,wX0,<-ih];simp[Px.ds,show(k+1)*5=k*5+5 from by omega]
def jK5(n:Nat)(xs:List DV):Prop:=xs=pxs (zQo xs)/\n=(zQo xs).length
theorem jK5.of(h:jK5 n xs):∃l:List Px,xs=pxs l/\n=l.length:=⟨zQo xs,h.1,h.2⟩
theorem jKh(l:List Px):jK5 l.length (pxs l):=⟨by rw[zZN],by rw[zZN]⟩
structure Im where
  w:Int
  h:Int
  so:Bool
  c:Px
  p0:Pl
  p1:Pl
  p2:Pl
  p3:Pl
  p4:Pl
def Im.zero:Im:=⟨0,0,false,.zero,.none,.none,.none,.none,.none⟩
def Pl.isU(p:Pl):Prop:=IsU p.n p.xs
def Im.isU(m:Im):Prop:=m.p0.isU/\m.p1.isU/\m.p2.isU/\m.p3.isU/\m.p4.isU
def zVh(p:Pl):Bool:=decide (p.w=0)&&decide (p.h=0)&&decide (p.s=0)&&decide (p.n=0)
def okPl(so:Bool)(w h:Int)(p:Pl):Bool:=if so then zVh p else zQ0 p.w p.h p.s p.n&&decide (p.w=w)&&decide (p.h=h)
def Im.inner(m:Im):Bool:=(m.so || decide (m.c=Px.zero))&&(okPl m.so m.w m.h m.p0&&(okPl m.so m.w m.h m.p1&&(okPl m.so m.w m.h m.p2&&(okPl m.so m.w m.h m.p3&&okPl m.so m.w m.h m.p4))))
def Im.formed(m:Im):Bool:=zZi m.w m.h&&m.inner
def Pl.at_(p:Pl)(x y:Int):Int:=nAt p.xs (y*p.s+x).toNat
def Im.px(m:Im)(x y:Int):Px:=if m.so then m.c else⟨m.p0.at_ x y,m.p1.at_ x y,m.p2.at_ x y,m.p3.at_ x y,m.p4.at_ x y⟩
def Px.ok(p:Px)(most:Int):Bool:=decide (p.a<=p.al)&&(decide (p.b<=p.al)&&(decide (p.c<=p.al)&&(decide (p.al<=p.f)&&decide (p.f<=most))))
def Im.nth(m:Im)(k:Nat):Px:=m.px ((k%m.w.toNat:Nat):Int) ((k / m.w.toNat:Nat):Int)
def Im.count(m:Im):Nat:=m.w.toNat*m.h.toNat
def Im.okTo(m:Im)(most:Int)(k:Nat):Bool:=(List.range k).all λi=>(m.nth i).ok most
def Im.valid(m:Im)(most:Int):Int:=
 if zZi m.w m.h=false then 6 else if m.inner=false then 7 else if m.so then(if m.c.ok most then 0 else 8) else if m.okTo most m.count then 0 else 8
def Im.shape(m:Im):Int:=if zZi m.w m.h=false then 6 else if m.inner=false then 7 else 0
def Im.list(m:Im)(k:Nat):List Px:=(List.range k).map m.nth
def Im.pixels(m:Im):List Px:=if m.formed then m.list m.count else[]
def Im.at_(m:Im)(x y:Int):Px:=if m.formed&&decide (0<=x)&&decide (x<m.w)&&decide (0<=y)&&decide (y<m.h) then m.px x y else .zero
def zQW(w h:Int)(c:Px):Im:=⟨w,h,true,c,.none,.none,.none,.none,.none⟩
def chan(l:List Px)(g:Px->Int):List DV:=us (l.map g)
def ofIm(w h:Int)(l:List Px):Im:=
 let q (g:Px->Int):Pl:=⟨w,h,w,l.length,chan l g⟩
 ⟨w,h,false,.zero,q Px.a,q Px.b,q Px.c,q Px.al,q Px.f⟩
def ofOk(w h:Int)(n:Nat):Bool:=zZi w h&&decide ((n:Int)=w*h)
def imOf(w h:Int)(l:List Px):Im:=if ofOk w h l.length then ofIm w h l else .zero
def Im.equal(m n:Im):Bool:=m.formed&&n.formed&&decide (m.w=n.w)&&decide (m.h=n.h)&&decide (m.pixels=n.pixels)
variable{x y:Int}
theorem zY1(hu:IsU n xs)(hv:zQ0 w h s n=true)(hx:0<=x/\x<w)(hy:0<=y/\y<h):
  wrap .i64 (wrap .i64 (y*s)+x)=y*s+x/\(0<=y*s+x/\y*s+x<n/\(y*s+x).toNat*1<xs.length)/\xs[(y*s+x).toNat*1]?=some (.int .u16 (nAt xs ((y*s+x).toNat*1))):=by
 obtain⟨l,rfl,rfl⟩:=hu.of;have hp:=place hv hx.1 hx.2 hy.1 hy.2;have hf:=zJF hv;have h1:0<=y*s:=hp.1;have h2:y*s+x<l.length:=by exact_mod_cast hp.2.1
 have hy16:y<=16777216:=by omega
 have hs16:s<=16777216:=by omega
 have hb:y*s<=281474976710656:=by
  have:=wQz hy16 hs16 (by omega) (by omega);omega
 have w1:wrap .i64 (y*s)=y*s:=wQb _ (by omega);have w2:wrap .i64 (y*s+x)=y*s+x:=wQb _ (by omega);rw[w1,w2];have hk:(y*s+x).toNat*1<l.length:=by omega
 refine⟨rfl,⟨by omega,h2,by rw[zJG];exact hk⟩,?_⟩;rw[yQc hk,jZZ hk]
variable{m:Im}
theorem Im.inner_planes(h:m.inner=true)(hs:m.so=false):m.c=Px.zero/\(zQ0 m.p0.w m.p0.h m.p0.s m.p0.n=true/\m.p0.w=m.w/\m.p0.h=m.h)/\(zQ0 m.p1.w m.p1.h m.p1.s m.p1.n=true/\m.p1.w=m.w/\m.p1.h=m.h) /\
  (zQ0 m.p2.w m.p2.h m.p2.s m.p2.n=true/\m.p2.w=m.w/\m.p2.h=m.h)/\(zQ0 m.p3.w m.p3.h m.p3.s m.p3.n=true/\m.p3.w=m.w/\m.p3.h=m.h)/\(zQ0 m.p4.w m.p4.h m.p4.s m.p4.n=true/\m.p4.w=m.w/\m.p4.h=m.h):=by
 simp[Im.inner,okPl,hs]at h;grind
abbrev wZ2:=@List.range_succ
abbrev wYv:=@List.all_append
theorem Im.okTo_succ(m:Im)(most:Int)(k:Nat):m.okTo most (k+1)=(m.okTo most k&&(m.nth k).ok most):=by
 simp[Im.okTo,wZ2,wYv]
theorem Im.okTo_le{most:Int}(h:k<=n)(hn:m.okTo most n=true):m.okTo most k=true:=by
 simp only[Im.okTo,List.all_eq_true,wQy]at hn |-;exact λi hi=>hn i (by omega)
theorem Im.shape_zero(h:m.shape=0):zZi m.w m.h=true/\m.inner=true:=by
 unfold Im.shape at h;split at h
 .cases h
 .split at h
  .cases h
  .simp_all
theorem Im.valid_shape(most:Int)(h:m.shape≠0):m.valid most=m.shape:=by
 unfold Im.shape at h |-;unfold Im.valid;split
 .rfl
 .rename_i h1;rw[if_neg h1]at h;split
  .rfl
  .rename_i h2;rw[if_neg h2]at h;exact absurd rfl h
theorem Im.valid_solid{most:Int}(h:m.shape=0)(hs:m.so=true):m.valid most=if m.c.ok most then 0 else 8:=by
 obtain⟨h1,h2⟩:=Im.shape_zero h;simp[Im.valid,h1,h2,hs]
theorem Im.valid_planes{most:Int}(h:m.shape=0)(hs:m.so=false):m.valid most=if m.okTo most (m.w.toNat*m.h.toNat) then 0 else 8:=by
 obtain⟨h1,h2⟩:=Im.shape_zero h;unfold Im.valid Im.count;rw[if_neg (by simp[h1]),if_neg (by simp[h2]),if_neg (by simp[hs])]
theorem Im.nth_in(hf:zZi m.w m.h=true)(hk:k<m.w.toNat*m.h.toNat):(0<=(((k%m.w.toNat:Nat)):Int)/\(((k%m.w.toNat:Nat)):Int)<m.w)/\(0<=(((k / m.w.toNat:Nat)):Int)/\(((k / m.w.toNat:Nat)):Int)<m.h):=by
 obtain⟨a,b,c,d,e⟩:=zXM hf;have h1:=wZz k (show 0<m.w.toNat by omega);have h2:k / m.w.toNat<m.h.toNat:=Nat.div_lt_of_lt_mul hk;generalize k%m.w.toNat=q at *;generalize k / m.w.toNat=r at *;omega
theorem Im.count_le(hf:zZi m.w m.h=true):m.w.toNat*m.h.toNat<=16777216/\((m.w.toNat*m.h.toNat:Nat):Int)=m.w*m.h:=by
 obtain⟨a,b,c,d,e⟩:=zXM hf;have:((m.w.toNat*m.h.toNat:Nat):Int)=m.w*m.h:=by
  rw[wXZ,wXf (by omega),wXf (by omega)]
 exact⟨by omega,this⟩
theorem yQN(hf:zZi w h=true)(k:Nat)(hk:k<w.toNat*h.toNat):[DV.int .i64 ((k%w.toNat:Nat):Int),DV.int .i64 ((k / w.toNat:Nat):Int)].length=2/\zUy [DV.int .i64 ((k%w.toNat:Nat):Int),DV.int .i64 ((k / w.toNat:Nat):Int)]:=by
 obtain⟨a,b,c,d,e⟩:=zXM hf;obtain⟨⟨h1,h2⟩,h3,h4⟩:=Im.nth_in (m:=⟨w,h,true,.zero,.none,.none,.none,.none,.none⟩) hf hk;have m1:IntKind.min .i64 = -9223372036854775808:=rfl;have m2:IntKind.max .i64=9223372036854775807:=rfl;simp only at h1 h2 h3 h4;generalize k%w.toNat=q at *;generalize k / w.toNat=r at *;refine⟨rfl,⟨?_,?_⟩,⟨?_,?_⟩,trivial⟩<;>(first|rw[m1]|rw[m2])<;>omega
theorem Im.list_len(m:Im)(k:Nat):(m.list k).length=k:=by simp[Im.list]
theorem Im.formed_of(h:m.formed=true):zZi m.w m.h=true/\m.inner=true:=by simpa [Im.formed]using h
theorem Im.pixels_of(h:m.formed=true):m.pixels=m.list (m.w.toNat*m.h.toNat):=by simp[Im.pixels,h,Im.count]
theorem Im.at_in(h:m.formed=true)(hx:0<=x/\x<m.w)(hy:0<=y/\y<m.h):m.at_ x y=m.px x y:=by
 simp[Im.at_,h,hx,hy]
theorem Im.at_out(h:m.formed=false\/x<0\/m.w<=x\/y<0\/m.h<=y):m.at_ x y=Px.zero:=by
 unfold Im.at_;rw[if_neg];simp;intro h1 h2 h3 h4
 rcases h with h|h|h|h|h
 .rw[h]at h1;cases h1
 all_goals omega
def zJo(p q:Pl):Bool:=yZP p.w p.h p.s p.n p.xs q.w q.h q.s q.n q.xs
def Im.same(m n:Im):Bool:=zJo m.p0 n.p0&&(zJo m.p1 n.p1&&(zJo m.p2 n.p2&&(zJo m.p3 n.p3&&(zJo m.p4 n.p4&&(decide (m.w=n.w)&&(decide (m.h=n.h)&&((m.so==n.so)&&decide (m.c=n.c))))))))
def zXA(l:List Px)(g:Px->Int)(k:Nat):List DV:=us ((l.take k).map g)++List.replicate (l.length-k) (.int .u16 0)
abbrev wXD:=@List.length_replicate
variable{g:Px->Int}
theorem zWw{l:List Px}(h:k<=l.length):(zXA l g k).length=l.length:=by
 unfold zXA;rw[wQe,zJG,wQD,wQl,wXD];omega
theorem zYg(l:List Px)(g:Px->Int):zXA l g 0=List.replicate l.length (.int .u16 0):=by simp[zXA,us]
theorem zWx(l:List Px)(g:Px->Int):zXA l g l.length=chan l g:=by simp[zXA,chan]
abbrev wYw:=@Option.toList_some
abbrev wZa:=@Nat.sub_self
abbrev wX1:=@List.set_cons_zero
variable{v:Int}
theorem zJC{l:List Px}(h:k<l.length)(hv:v=g l[k]):(zXA l g k).set k (.int .u16 v)=zXA l g (k+1):=by
 subst hv;have hl:(us ((l.take k).map g)).length=k:=by rw[zJG,wQD,wQl];omega
 unfold zXA;rw[List.set_append_right _ _ (by omega),hl,wZa,show l.length-k=(l.length-(k+1))+1 by omega,List.replicate_succ,wX1,wZm,List.getElem?_eq_getElem h,wYw,wQZ,<-jGc];simp[us]
theorem zKb{l:List Px}(h:k<l.length)(hj:j<5):(pxs l)[k*5+j]?=some (.int .u16 (nAt (pxs l) (k*5+j))):=by
 obtain⟨a0,a1,a2,a3,a4⟩:=zKx h;obtain⟨b0,b1,b2,b3,b4⟩:=zQX h
 match j,hj with
 |0,_=>rw[Nat.add_zero,a0,b0]
 |1,_=>rw[a1,b1]
 |2,_=>rw[a2,b2]
 |3,_=>rw[a3,b3]
 |4,_=>rw[a4,b4]
theorem jWx{l:List Px}(h:k<l.length):(pxs l)[k*5]?=some (.int .u16 (nAt (pxs l) (k*5))):=zKb (j:=0) h (by omega)
theorem zWL{l:List Px}(hlt:(k:Int)<(l.length:Int))(hb:l.length<=16777216)(hv:∀h:k<l.length,v=g l[k]):
  ∃k':Nat,k'<=l.length/\l.length-k'<l.length-k/\wrap .i64 ((k:Int)+1)=(k':Int)/\(zXA l g k).set (k*1) (.int .u16 v)=zXA l g k':=
 have h:k<l.length:=by omega
 ⟨k+1,by omega,by omega,zY6 (by omega),by rw[wQg];exact zJC h (hv h)⟩
theorem jG7{l:List Px}(hlt:(k:Int)<(l.length:Int))(hb:l.length<=16777216){v1 v2 v3 v4 v5:Int}(h1:∀h:k<l.length,v1=l[k].a)(h2:∀h:k<l.length,v2=l[k].b)(h3:∀h:k<l.length,v3=l[k].c)(h4:∀h:k<l.length,v4=l[k].al)(h5:∀h:k<l.length,v5=l[k].f):
  ∃k':Nat,k'<=l.length/\l.length-k'<l.length-k/\wrap .i64 ((k:Int)+1)=(k':Int)/\(zXA l Px.a k).set (k*1) (.int .u16 v1)=zXA l Px.a k'/\(zXA l Px.b k).set (k*1) (.int .u16 v2)=zXA l Px.b k'/\(zXA l Px.c k).set (k*1) (.int .u16 v3)=zXA l Px.c k'/\(zXA l Px.al k).set (k*1) (.int .u16 v4)=zXA l Px.al k'/\(zXA l Px.f k).set (k*1) (.int .u16 v5)=zXA l Px.f k':=
 have h:k<l.length:=by omega
 ⟨k+1,by omega,by omega,zY6 (by omega),by rw[wQg];exact zJC h (h1 h),by rw[wQg];exact zJC h (h2 h),by rw[wQg];exact zJC h (h3 h),by rw[wQg];exact zJC h (h4 h),by rw[wQg];exact zJC h (h5 h)⟩
theorem yQH{l:List Px}(hk:k<=l.length)(hge:¬(k:Int)<(l.length:Int)):zXA l g k=zXA l g l.length:=by
 rw[show k=l.length by omega]
theorem zH0(l:List Int):∀d∈us l,d.flat=true:=by
 intro d hd;simp only[us,wQw]at hd;obtain⟨v,_,rfl⟩:=hd;rfl
theorem zW7{l:List Px}(hk:ofOk w h l.length=true):imOf w h l=ofIm w h l:=by simp[imOf,hk]
theorem jQU{l:List Px}(hk:ofOk w h l.length=false):imOf w h l=Im.zero:=by simp[imOf,hk]
theorem jHt(w h:Int)(l:List Px):(∀d∈(imOf w h l).p0.xs,d.flat=true)/\(∀d∈(imOf w h l).p1.xs,d.flat=true)/\(∀d∈(imOf w h l).p2.xs,d.flat=true)/\(∀d∈(imOf w h l).p3.xs,d.flat=true)/\(∀d∈(imOf w h l).p4.xs,d.flat=true):=by
 cases hk:ofOk w h l.length with
 |true=>rw[zW7 hk];exact⟨zH0 _,zH0 _,zH0 _,zH0 _,zH0 _⟩
 |false=>rw[jQU hk];simp[Im.zero,Pl.none]
theorem jXu(w h:Int)(l:List Px):(∀d∈(imOf w h l).p0.xs,d.flat=true)=True/\(∀d∈(imOf w h l).p1.xs,d.flat=true)=True/\(∀d∈(imOf w h l).p2.xs,d.flat=true)=True/\(∀d∈(imOf w h l).p3.xs,d.flat=true)=True/\(∀d∈(imOf w h l).p4.xs,d.flat=true)=True:=by
 obtain⟨a,b,c,d,e⟩:=jHt w h l;exact⟨eq_true a,eq_true b,eq_true c,eq_true d,eq_true e⟩
def gMax(n:Int):Int:=if modS n 3=2 then 65535 else 255
def zQ6(n most:Int):Int:=
 if modS n 8=0 then 0
 else if modS n 8=1\/modS n 8=2 then most
 else if modS n 8=3 then wrap .u16 (wrap .i64 (Int.tdiv (wrap .i64 (wrap .i64 most+modS (wrap .i64 (Int.tdiv n 8)) 2)) 2))
 else if modS n 8=4 then wrap .u16 (min (wrap .i64 most) (modS (wrap .i64 (Int.tdiv n 8)) 4))
 else wrap .u16 (modS (wrap .i64 (Int.tdiv n 8)) (wrap .i64 (wrap .i64 most+1)))
def zJr(n0 n1 n2 n3 n4 most:Int):Px:=
 let f:=zQ6 n4 most
 let a:=if 0<modS n3 3 then zQ6 (wrap .i64 (Int.tdiv n3 3)) f else f
 ⟨zQ6 n0 a,zQ6 n1 a,zQ6 n2 a,a,f⟩
def gNum(L:Nat)(xs:List DV)(k j:Nat):Int:=if 0<L then nAt xs (k%L*5+j) else 0
def gPx1(L:Nat)(xs:List DV)(most:Int)(k:Nat):Px:=zJr (gNum L xs k 0) (gNum L xs k 1) (gNum L xs k 2) (gNum L xs k 3) (gNum L xs k 4) most
def gPx(mood:Int)(L:Nat)(xs:List DV)(most:Int)(k:Nat):Px:=
 if modS mood 6=0 then .zero
 else if modS mood 6=1 then let p:=gPx1 L xs most k;⟨p.a,p.b,p.c,most,most⟩
 else if modS mood 6=2 then gPx1 L xs most 0
 else gPx1 L xs most k
def zQy(mood:Int)(L:Nat)(xs:List DV)(most:Int)(n:Nat):List Px:=(List.range n).map (gPx mood L xs most)
theorem zXK(mood:Int)(L:Nat)(xs:List DV)(most:Int)(n:Nat):(zQy mood L xs most n).length=n:=by simp[zQy]
theorem jKw(mood:Int)(L:Nat)(xs:List DV)(most:Int)(n:Nat):zQy mood L xs most (n+1)=zQy mood L xs most n++[gPx mood L xs most n]:=by simp[zQy,wZ2]
theorem yQt(l:List Px)(p:Px):pxs (l++[p])=pxs l++Px.ds p:=by simp[pxs]
def Is5(L:Nat)(xs:List DV):Prop:=xs.length=L*5/\∀i,i<L*5->xs[i]?=some (.int .i64 (nAt xs i))
variable{mood:Int}{L:Nat}
theorem yXh{most:Int}(hn:0<n)(hm:modS mood 6=2):∃h:0<(zQy mood L xs most n).length,(zQy mood L xs most n)[0]=gPx1 L xs most 0:=by
 refine⟨by rw[zXK];exact hn,?_⟩;simp[zQy,gPx,hm]
theorem zVo{most:Int}(hk:0<k)(j:Nat)(hj:j<5):(pxs (zQy mood L xs most k))[j]?=some (.int .u16 (nAt (pxs (zQy mood L xs most k)) j)):=by
 have h:=zKb (l:=zQy mood L xs most k) (k:=0) (j:=j) (by rw[zXK];exact hk) hj;rw[Nat.zero_mul,Nat.zero_add]at h;exact h
theorem jYI{most:Int}(hk:0<k)(hm:modS mood 6=2):nAt (pxs (zQy mood L xs most k)) 0=(gPx1 L xs most 0).a/\nAt (pxs (zQy mood L xs most k)) 1=(gPx1 L xs most 0).b/\nAt (pxs (zQy mood L xs most k)) 2=(gPx1 L xs most 0).c/\nAt (pxs (zQy mood L xs most k)) 3=(gPx1 L xs most 0).al/\nAt (pxs (zQy mood L xs most k)) 4=(gPx1 L xs most 0).f:=by
 obtain⟨h,e⟩:=yXh (mood:=mood) (L:=L) (xs:=xs) (most:=most) hk hm;have:=zQX h;rw[e]at this;simpa only[Nat.zero_mul,Nat.zero_add]using this
theorem jKv{most:Int}(hk:k<n)(hn:n<=16777216){cs:List DV}(hc:cs=Px.ds (gPx mood L xs most k)):
  ∃k':Nat,k'<=n/\n-k'<n-k/\(k+1=k'/\wrap .i64 ((k:Int)+1)=(k':Int))/\pxs (zQy mood L xs most k)++cs=pxs (zQy mood L xs most k'):=
 ⟨k+1,by omega,by omega,⟨rfl,zY6 (by omega)⟩,by rw[jKw,yQt,hc]⟩
variable{v:Value}{q:Nat}{t t':TypeId}{ts ls:List TypeId}
section
open Go.ChangeShapes
open Go.WideShapes
def Rd(P:Program)(w:World):Nat->TypeId->List Value->Prop
 |0,_,_=>False
 |fuel+1,t,cs=>
  match P.underlying t with
  |some .bool=>∃b,cs=[.bool b]
  |some (.int k)=>∃n,cs=[.int k n]/\(Lit.int k n).wf=true
  |some .string=>∃s,cs=[.string s]/\s.size<=reachBytes
  |some (.slice e)=>cs=[.slice none 0 0]\/∃a len cap,cs=[.slice (some a) len cap]/\len<=cap/\cap<=maxLen/\cap*P.bytesOf e<=reachBytes /\
    ∀i,i<cap->∃cs',w.cells? 0 (a.add (i*P.cellsOf e)) (P.cellsOf e)=some cs'/\Rd P w fuel e cs'
  |some (.struct fs)=>cs.length=P.cellsOf t/\∀f∈fs.toList,Rd P w fuel f.type ((cs.drop f.offset).take (P.cellsOf f.type))
  |some (.array n e)=>cs.length=P.cellsOf t/\∀i,i<n->Rd P w fuel e ((cs.drop (i*P.cellsOf e)).take (P.cellsOf e))
  |_=>True
section
variable{H:Type}{enc:TypeId × Value->H}{P:Program}{w:World}
theorem zJt{e:TypeId}{n:Nat}:∀{l:List (DataW H)}{d:DataW H},d∈l->n∈d.weights P e->n∈DataW.weightsAll P e l
 |x::r,d,hd,hn=>by
  simp only[DataW.weightsAll,List.mem_append]
  rcases wQm.1 hd with rfl|h
  .exact .inl hn
  .exact .inr (zJt h hn)
theorem zWF{n:Nat}:∀{ts:List TypeId}{ds:List (DataW H)}{i:Nat}{t:TypeId}{d:DataW H},ts[i]?=some t->ds[i]?=some d->n∈d.weights P t->n∈DataW.weightsEach P ts ds
 |t::ts,d::ds,0,_,_,ht,hd,hn=>by
  simp at ht hd;subst ht hd;simp only[DataW.weightsEach,List.mem_append];exact .inl hn
 |t::ts,d::ds,i+1,_,_,ht,hd,hn=>by
  simp only[DataW.weightsEach,List.mem_append];exact .inr (zWF (by simpa using ht) (by simpa using hd) hn)
 |[],_,_,_,_,ht,_,_=>by simp at ht
 |_::_,[],_,_,_,_,hd,_=>by simp at hd
abbrev wXg:=@mapM_some_get
abbrev wX2:=@List.getElem_of_mem
abbrev wZD:=@List.length_range
abbrev wXE:=@mapM_some_length
abbrev wZ3:=@List.getElem?_range
theorem jUx:∀(fuel:Nat)(t:TypeId)(cs:List Value)(d:DataW H)(ps:List MemPlace),
  DataW.trod enc P w 0 (λ_=>true) true fuel t cs=some (d,ps)->(∀n∈d.weights P t,n<=reachBytes)->Rd P w fuel t cs:=by
 intro fuel
 induction fuel with
 |zero=>intro t cs d ps h;simp[DataW.trod]at h
 |succ fuel ih=>
  intro t cs d ps h hw;unfold DataW.trod at h;unfold Rd;split at h
  .rename_i b hu;simp only[hu];exact⟨_,rfl⟩
  .rename_i k k' n hu;simp only[hu];split at h
   .rename_i hk;obtain⟨rfl,hwf⟩:=hk;exact⟨_,rfl,hwf⟩
   .cases h
  .rename_i hu;simp only[hu]
  .rename_i s hu;simp only[hu];split at h
   .simp only[wQa,wQc]at h;obtain⟨rfl,_⟩:=h;exact⟨_,rfl,by have:=hw s.data.toList.length (wQr.2 rfl);rw[wXc]at this;exact this⟩
   .cases h
  .rename_i hu;simp only[hu]
  .rename_i hu;simp only[hu]
  .rename_i hu;simp only[hu];exact .inl trivial
  .rename_i e a len cap hu;simp only[hu];split at h
   .rename_i hc;obtain⟨_,hl,hm⟩:=hc;simp only[if_true]at h;obtain⟨elems,he,h⟩:=wZy.1 h;obtain⟨rest,hr,h⟩:=wQV.1 h;simp only[wQc]at h;obtain⟨rfl,_⟩:=h;have le:=wXE he;have lr:=wXE hr;simp only[wZD]at le lr;have hwt:DataW.weights P t (.slice (elems.map (·.1)) (rest.map (·.1)))=((elems.map (·.1)).length+(rest.map (·.1)).length)*P.bytesOf e::(DataW.weightsAll P e (elems.map (·.1))++DataW.weightsAll P e (rest.map (·.1))):=by
     simp only[DataW.weights,hu]
    rw[hwt]at hw;refine .inr ⟨a,len,cap,rfl,hl,hm,?_,?_⟩
    .have:=hw _ (.head _);simp only[wQD,le,lr]at this;rwa [show len+(cap-len)=cap from by omega]at this
    .have key:∀(i:Nat)(x:DataW H × List MemPlace),((w.cells? 0 (a.add (i*P.cellsOf e)) (P.cellsOf e)).bind (DataW.trod enc P w 0 (λ_=>true) true fuel e))=some x->(∀n∈x.1.weights P e,n<=reachBytes) ->
       ∃cs',w.cells? 0 (a.add (i*P.cellsOf e)) (P.cellsOf e)=some cs'/\Rd P w fuel e cs':=by
      intro i x hx hxw;obtain⟨cs',h1,h2⟩:=wZy.1 hx;exact⟨cs',h1,ih e cs' x.1 x.2 h2 hxw⟩
     intro i hi
     rcases wQx i len with hlt|hge
     .have hx:elems[i]?=some (elems[i]'(by omega)):=List.getElem?_eq_getElem (by omega);have h1:=wXg he i i (by simp[hlt]);rw[hx]at h1;refine key i _ h1 λn hn=>hw n (.tail _ (List.mem_append.2 (.inl (zJt (wQw.2 ⟨_,List.getElem_mem (by omega),rfl⟩) hn))))
     .have hx:rest[i-len]?=some (rest[i-len]'(by omega)):=List.getElem?_eq_getElem (by omega);have h1:=wXg hr (i-len) (i-len) (wZ3 (by omega));rw[hx,show len+(i-len)=i from by omega]at h1;refine key i _ h1 λn hn=>hw n (.tail _ (List.mem_append.2 (.inr (zJt (wQw.2 ⟨_,List.getElem_mem (by omega),rfl⟩) hn))))
   .cases h
  .rename_i fs hu;simp only[hu];split at h
   .rename_i hlen;obtain⟨xs,hxs,h⟩:=wQV.1 h;simp only[wQc]at h;obtain⟨rfl,_⟩:=h;refine⟨hlen,λf hf=>?_⟩;obtain⟨i,hi,rfl⟩:=wX2 hf;have hl:=wXE hxs;have hx:xs[i]?=some (xs[i]'(by omega)):=List.getElem?_eq_getElem (by omega);have h1:=wXg hxs i _ (List.getElem?_eq_getElem hi);rw[hx]at h1;refine ih _ _ _ _ h1 λn hn=>hw n ?_;simp only[DataW.weights,hu];exact zWF (i:=i) (by rw[wQY,List.getElem?_eq_getElem hi];rfl) (by rw[wQY,hx];rfl) hn
   .cases h
  .rename_i n e hu;simp only[hu];split at h
   .rename_i hlen;obtain⟨xs,hxs,h⟩:=wQV.1 h;simp only[wQc]at h;obtain⟨rfl,_⟩:=h;refine⟨hlen,λi hi=>?_⟩;have hl:=wXE hxs;simp only[wZD]at hl;have hx:xs[i]?=some (xs[i]'(by omega)):=List.getElem?_eq_getElem (by omega);have h1:=wXg hxs i i (by simp[hi]);rw[hx]at h1;refine ih _ _ _ _ h1 λn hn=>hw n ?_;simp only[DataW.weights,hu];exact zJt (wQw.2 ⟨_,List.getElem_mem (by omega),rfl⟩) hn
   .cases h
  all_goals first|(cases h;done)|(rename_i hu;simp only[hu])
end
def Arg(P:Program)(w:World)(t:TypeId)(v:Value):Prop:=
 (∃fuel,Rd P w fuel t v.cells.toList) /\
  match P.underlying t with
  |some (.struct _)|some (.array _ _)=>∃cs,v=.agg cs
  |_=>v.cells=#[v]
def Args(P:Program)(w:World):List TypeId->List Value->Prop
 |[],[]=>True
 |t::ts,v::vs=>Arg P w t v/\Args P w ts vs
 |_,_=>False
theorem jZf{w:World}{r:Reach}{base:Nat}(h:Value.okWide P w r base t v):
  match P.underlying t with
  |some (.struct _)|some (.array _ _)=>∃cs,v=.agg cs
  |_=>v.cells=#[v]:=by
 unfold Value.okWide at h;split
 .rename_i hu;simp only[hu]at h;obtain⟨cs,rfl,_⟩:=h;exact⟨_,rfl⟩
 .rename_i hu;simp only[hu]at h;obtain⟨cs,rfl,_⟩:=h;exact⟨_,rfl⟩
 .rename_i h1 h2;have h':Cell.okWide P w r base t v:=by
   split at h
   .rename_i hu;exact absurd hu (by intro e;exact h1 _ e)
   .rename_i hu;exact absurd hu (by intro e;exact h2 _ _ e)
   .exact h
  cases v with
  |agg cs=>
   exfalso;unfold Cell.okWide at h';split at h'<;>first|(rename_i hv;cases hv;done)|skip
   unfold Cell.ok at h';split at h'<;>first|(rename_i hv;cases hv;done)|exact h'
  |_=>rfl
section
variable{H:Type}{enc:TypeId × Value->H}
theorem zWb{P:Program}{w:World}:∀{ts:List TypeId}{vs:List Value}{ds:List (DataW H)}{ps:List MemPlace},DataW.TrodAll enc P w 0 (λ_=>true) true ts vs ds ps ->
  (∀n∈DataW.weightsEach P ts ds,n<=reachBytes) ->
  (∀(j:Nat) t v,ts[j]?=some t->vs[j]?=some v->match P.underlying t with|some (.struct _)|some (.array _ _)=>∃cs,v=.agg cs|_=>v.cells=#[v])->Args P w ts vs/\ds.length=ts.length
 |[],[],[],_,_,_,_=>⟨trivial,rfl⟩
 |t::ts,v::vs,d::ds,_,h,hw,hv=>by
  obtain⟨p,q,⟨fuel,hf⟩,hr,_⟩:=h;have hrest:=zWb hr (λn hn=>hw n (by simp only[DataW.weightsEach,List.mem_append];exact .inr hn)) (λj t v ht hv'=>hv (j+1) t v (by simpa using ht) (by simpa using hv'));exact⟨⟨⟨⟨fuel,jUx fuel t _ d p hf (λn hn=>hw n (by simp only[DataW.weightsEach,List.mem_append];exact .inl hn))⟩,hv 0 t v rfl rfl⟩,hrest.1⟩,by simp[hrest.2]⟩
 |[],[],_::_,_,h,_,_=>h.elim
 |[],_::_,_,_,h,_,_=>h.elim
 |_::_,[],_,_,h,_,_=>h.elim
 |_::_,_::_,[],_,h,_,_=>h.elim
theorem zUn{P:Program}(laid:laidOutB P=true){W W':World}(hb:Below W.heap.size W W'):∀{ts:List TypeId}{vs:List Value}{ds:List (DataW H)}{ps:List MemPlace},
  (∀t∈ts,P.readableRec t=true/\t<P.types.size)->DataW.TrodAll enc P W 0 (λ_=>true) true ts vs ds ps->DataW.TrodAll enc P W' 0 (λb=>decide (b<W.heap.size)) true ts vs ds ps
 |[],[],[],_,_,h=>h
 |t::ts,v::vs,d::ds,_,hr,h=>by
  obtain⟨p,q,hd,hrest,rfl⟩:=h;have hlt:∀x∈p,x.block<W.heap.size:=by obtain⟨m,hm⟩:=hd;exact DataW.trod_lt m _ _ _ hm
  exact⟨p,q,Below.trod laid (hr t (.head _)).1 (hr t (.head _)).2 hd hb hlt,zUn laid hb (λt' ht'=>hr t' (.tail _ ht')) hrest,rfl⟩
 |[],[],_::_,_,_,h=>h.elim
 |[],_::_,_,_,_,h=>h.elim
 |_::_,[],_,_,_,h=>h.elim
 |_::_,_::_,[],_,_,h=>h.elim
end
section
variable{P:Program}{w:World}{fuel:Nat}{t:TypeId}{cs:List Value}
theorem Rd.int{k:IntKind}(hu:P.underlying t=some (.int k))(h:Rd P w fuel t cs):∃n,cs=[.int k n]/\(Lit.int k n).wf=true:=by
 cases fuel with
 |zero=>exact h.elim
 |succ fuel=>unfold Rd at h;simp only[hu]at h;exact h
theorem Rd.bool(hu:P.underlying t=some .bool)(h:Rd P w fuel t cs):∃b,cs=[.bool b]:=by
 cases fuel with
 |zero=>exact h.elim
 |succ fuel=>unfold Rd at h;simp only[hu]at h;exact h
theorem Rd.str(hu:P.underlying t=some .string)(h:Rd P w fuel t cs):∃s,cs=[.string s]/\s.size<=reachBytes:=by
 cases fuel with
 |zero=>exact h.elim
 |succ fuel=>unfold Rd at h;simp only[hu]at h;exact h
theorem Rd.slice{e:TypeId}(hu:P.underlying t=some (.slice e))(h:Rd P w fuel t cs) :
  cs=[.slice none 0 0]\/∃a len cap,cs=[.slice (some a) len cap]/\len<=cap/\cap<=maxLen/\cap*P.bytesOf e<=reachBytes /\
    ∀i,i<cap->∃cs',w.cells? 0 (a.add (i*P.cellsOf e)) (P.cellsOf e)=some cs'/\∃fuel,Rd P w fuel e cs':=by
 cases fuel with
 |zero=>exact h.elim
 |succ fuel=>
  unfold Rd at h;simp only[hu]at h
  rcases h with h|⟨a,len,cap,h1,h2,h3,h4,h5⟩
  .exact .inl h
  .exact .inr ⟨a,len,cap,h1,h2,h3,h4,λi hi=>let⟨cs',a1,a2⟩:=h5 i hi;⟨cs',a1,fuel,a2⟩⟩
theorem Rd.struct{fs:Array Field}(hu:P.underlying t=some (.struct fs))(h:Rd P w fuel t cs) :
  cs.length=P.cellsOf t/\∀f∈fs.toList,∃fuel,Rd P w fuel f.type ((cs.drop f.offset).take (P.cellsOf f.type)):=by
 cases fuel with
 |zero=>exact h.elim
 |succ fuel=>
  unfold Rd at h;simp only[hu]at h;exact⟨h.1,λf hf=>⟨fuel,h.2 f hf⟩⟩
theorem Rd.array{e:TypeId}{n:Nat}(hu:P.underlying t=some (.array n e))(h:Rd P w fuel t cs) :
  cs.length=P.cellsOf t/\∀i,i<n->∃fuel,Rd P w fuel e ((cs.drop (i*P.cellsOf e)).take (P.cellsOf e)):=by
 cases fuel with
 |zero=>exact h.elim
 |succ fuel=>
  unfold Rd at h;simp only[hu]at h;exact⟨h.1,λi hi=>⟨fuel,h.2 i hi⟩⟩
end
def zUL(P:Program)(f:TypeId->Option (List TypeId)):List Field->Nat->Option (List TypeId)
 |[],_=>some []
 |fd::r,off=>(f fd.type).bind λl=>if fd.offset=off/\P.cellsOf fd.type=l.length then(zUL P f r (off+l.length)).map (l++·) else none
def zHd(P:Program):Nat->TypeId->Option (List TypeId)
 |0,_=>none
 |k+1,t=>
  match P.underlying t with
  |some (.struct fs)=>zUL P (zHd P k) fs.toList 0
  |some (.array n e)=>(zHd P k e).bind λl=>if P.cellsOf e=l.length then some (List.replicate n l).flatten else none
  |some .bool|some (.int _)|some .string|some (.slice _)=>some [t]
  |_=>none
section
variable{P:Program}{w:World}
theorem jQJ{f:TypeId->Option (List TypeId)}{cs:List Value}(hf:∀(t:TypeId) (ts:List TypeId) (fuel:Nat) (cs:List Value),f t=some ts->Rd P w fuel t cs->∀(i:Nat) (t':TypeId),ts[i]?=some t'->∃c g,cs[i]?=some c/\Rd P w g t' [c]) :
  ∀(fs:List Field)(off:Nat)(ts:List TypeId),zUL P f fs off=some ts->(∀fd∈fs,∃fuel,Rd P w fuel fd.type ((cs.drop fd.offset).take (P.cellsOf fd.type))) ->
  ∀(i:Nat)(t':TypeId),ts[i]?=some t'->∃c g,cs[off+i]?=some c/\Rd P w g t' [c]
 |[],_,ts,h,_,i,t',hi=>by simp[zUL]at h;subst h;simp at hi
 |fd::r,off,ts,h,hr,i,t',hi=>by
  unfold zUL at h;obtain⟨l,hl,h⟩:=wZy.1 h;split at h
  .rename_i hc;obtain⟨ho,hn⟩:=hc;obtain⟨ts',hts,h⟩:=wQV.1 h;subst h
   rcases wQx i l.length with hlt|hge
   .rw[wQO hlt]at hi;obtain⟨fuel,hrd⟩:=hr fd (.head _);obtain⟨c,g,h1,h2⟩:=hf fd.type l fuel _ hl hrd i t' hi;refine⟨c,g,?_,h2⟩;rw[wQI,if_pos (by omega),wZp,ho]at h1;exact h1
   .rw[wQq hge]at hi;obtain⟨c,g,h1,h2⟩:=jQJ hf r (off+l.length) ts' hts (λfd' h'=>hr fd' (.tail _ h')) (i-l.length) t' hi;exact⟨c,g,by rw[<-h1];congr 1;omega,h2⟩
  .cases h
theorem jXy{l:List TypeId}(hl:0<l.length):∀(n i:Nat)(t:TypeId),(List.replicate n l).flatten[i]?=some t->i / l.length<n/\l[i%l.length]?=some t
 |0,i,t,h=>by simp at h
 |n+1,i,t,h=>by
  rw[List.replicate_succ,List.flatten_cons]at h
  rcases wQx i l.length with hlt|hge
  .rw[wQO hlt]at h;rw[wXT hlt,wZj hlt];exact⟨by omega,h⟩
  .rw[wQq hge]at h;obtain⟨h1,h2⟩:=jXy hl n (i-l.length) t h;have e:i=(i-l.length)+l.length:=by omega
   rw[e,Nat.add_div_right _ hl,Nat.add_mod_right];exact⟨by omega,h2⟩
abbrev wZ4:=@Nat.div_add_mod
abbrev wXh:=@List.getElem?_cons_zero
abbrev wQS:=@Nat.mul_comm
theorem zVL:∀(k:Nat)(t:TypeId)(ts:List TypeId)(fuel:Nat)(cs:List Value),zHd P k t=some ts->Rd P w fuel t cs ->
  ∀(i:Nat)(t':TypeId),ts[i]?=some t'->∃c g,cs[i]?=some c/\Rd P w g t' [c]
 |0,_,_,_,_,h,_,_,_,_=>by simp[zHd]at h
 |k+1,t,ts,fuel,cs,h,hr,i,t',hi=>by
  unfold zHd at h;split at h
  .rename_i fs hu;obtain⟨_,hfs⟩:=hr.struct hu;have:=jQJ (λt ts fuel cs h hr=>zVL k t ts fuel cs h hr) fs.toList 0 ts h hfs i t' hi;simpa using this
  .rename_i n e hu;obtain⟨l,hl,h⟩:=wZy.1 h;split at h
   .rename_i hc;simp only[wQa]at h;subst h;obtain⟨_,hel⟩:=hr.array hu
    rcases wZ0 l.length with h0|hpos
    .have:l=[]:=List.eq_nil_of_length_eq_zero h0;subst this;simp at hi
    .obtain⟨h1,h2⟩:=jXy hpos n i t' hi;obtain⟨fuel',hrd⟩:=hel (i / l.length) h1;obtain⟨c,g,h3,h4⟩:=zVL k e l fuel' _ hl hrd (i%l.length) t' h2;refine⟨c,g,?_,h4⟩;rw[wQI,if_pos (by rw[hc];exact wZz _ hpos),wZp,hc,wQS,wZ4]at h3;exact h3
   .cases h
  all_goals first|(cases h;done)|skip
  all_goals
   rename_i hu;simp only[wQa]at h;subst h
   match i,hi with
   |0,hi=>
    simp only[wXh,wQa]at hi;subst hi
    first
    |(obtain⟨b,rfl⟩:=hr.bool hu;exact⟨_,fuel,rfl,hr⟩)
    |(obtain⟨b,rfl,_⟩:=hr.int hu;exact⟨_,fuel,rfl,hr⟩)
    |(obtain⟨b,rfl,_⟩:=hr.str hu;exact⟨_,fuel,rfl,hr⟩)
    |(rcases hr.slice hu with h|⟨a,len,cap,h,_⟩
      .subst h;exact⟨_,fuel,rfl,hr⟩
      .subst h;exact⟨_,fuel,rfl,hr⟩)
   |i+1,hi=>simp at hi
theorem Rd.leaf{fuel:Nat}{cs:List Value}(h:Rd P w fuel t cs)(hl:zHd P k t=some ts)(i:Nat)(ht:ts[i]?=some t'){c:Value}(hc:cs[i]?=some c):
  ∃g,Rd P w g t' [c]:=by
 obtain⟨c',g,h1,h2⟩:=zVL k t ts fuel cs hl h i t' ht;rw[hc]at h1;cases h1;exact⟨g,h2⟩
theorem Args.cons{t:TypeId}{ts:List TypeId}{vs:List Value}(h:Args P w (t::ts) vs):∃v vs',vs=v::vs'/\Arg P w t v/\Args P w ts vs':=by
 cases vs with
 |nil=>exact h.elim
 |cons v vs=>exact⟨v,vs,rfl,h.1,h.2⟩
theorem Args.nil{vs:List Value}(h:Args P w [] vs):vs=[]:=by
 cases vs with
 |nil=>rfl
 |cons v vs=>exact h.elim
theorem Arg.one(h:Arg P w t v)(hu:∀fs,P.underlying t≠some (.struct fs))(ha:∀n e,P.underlying t≠some (.array n e)):∃g,Rd P w g t [v]:=by
 obtain⟨⟨g,hr⟩,hv⟩:=h;split at hv
 .rename_i fs he;exact absurd he (hu fs)
 .rename_i n e he;exact absurd he (ha n e)
 .rw[hv]at hr;exact⟨g,hr⟩
theorem Arg.int{t:TypeId}{v:Value}{k:IntKind}(h:Arg P w t v)(hu:P.underlying t=some (.int k)):∃n,v=.int k n/\(Lit.int k n).wf=true:=by
 obtain⟨g,hr⟩:=h.one (by rw[hu];simp) (by rw[hu];simp);obtain⟨n,hn,hw⟩:=hr.int hu;simp only[wQK,and_true]at hn;exact⟨n,hn,hw⟩
theorem Arg.many(h:Arg P w t v)(hu:(∃fs,P.underlying t=some (.struct fs))\/∃n e,P.underlying t=some (.array n e))(hn:P.cellsOf t=n):
  ∃cs:List Value,v=.agg cs.toArray/\cs.length=n/\∃g,Rd P w g t cs:=by
 obtain⟨⟨g,hr⟩,hv⟩:=h
 rcases hu with⟨fs,hu⟩|⟨m,e,hu⟩
 .simp only[hu]at hv;obtain⟨⟨l⟩,rfl⟩:=hv;exact⟨l,rfl,by rw[<-hn];exact(hr.struct hu).1,g,hr⟩
 .simp only[hu]at hv;obtain⟨⟨l⟩,rfl⟩:=hv;exact⟨l,rfl,by rw[<-hn];exact(hr.array hu).1,g,hr⟩
end
def lv(P:Program)(e:TypeId):Option (List TypeId):=
 match zHd P 8 e with
 |some ls=>if ls.length=P.cellsOf e/\0<ls.length then some ls else none
 |none=>none
def zYk(P:Program):Nat->TypeId->DV->Prop
 |0,_,_=>False
 |k+1,t,d=>
  match P.underlying t with
  |some .bool=>∃b,d=.bool b
  |some (.int q)=>∃n,d=.int q n
  |some .string=>∃s,d=.str s
  |some (.slice e)=>∃n xs,d=.sl n xs/\n*P.bytesOf e<=reachBytes/\match lv P e with
   |some ls=>xs.length=n*ls.length/\∀(j:Nat) d',xs[j]?=some d'->∃t',ls[j%ls.length]?=some t'/\zYk P k t' d'
   |none=>xs=[]
  |_=>False
def jUW(P:Program):Nat->TypeId->Bool
 |0,_=>false
 |k+1,t=>
  match P.underlying t with
  |some .bool|some (.int _)|some .string=>true
  |some (.slice e)=>match lv P e with
   |some ls=>ls.all (jUW P k)
   |none=>true
  |_=>false
theorem jQy{α:Type}{Q:Nat->α->Prop}:∀n:Nat,(∀j,j<n->∃d,Q j d)->∃xs:List α,xs.length=n/\∀(j:Nat) d,xs[j]?=some d->Q j d
 |0,_=>⟨[],rfl,λj d h=>by simp at h⟩
 |n+1,h=>by
  obtain⟨xs,h1,h2⟩:=jQy n λj hj=>h j (by omega);obtain⟨d,hd⟩:=h n (by omega);refine⟨xs++[d],by simp[h1],λj d' hj=>?_⟩;by_cases hlt:j<n
  .rw[wQO (by omega)]at hj;exact h2 j d' hj
  .rw[wQq (by omega)]at hj;have:j-xs.length=0:=by
    have:=(wQE.1 hj).1;simp at this;omega
   rw[this]at hj;simp at hj;subst hj;have:j=n:=by omega
   subst this;exact hd
section
variable{P:Program}{w:World}
theorem jJ8{P:Program}{e:TypeId}(h:lv P e=some ls):zHd P 8 e=some ls/\ls.length=P.cellsOf e/\0<ls.length:=by
 unfold lv at h;split at h
 .rename_i l hl;split at h
  .rename_i hc;injection h with h;subst h;exact⟨hl,hc.1,hc.2⟩
  .cases h
 .cases h
theorem addr_add'(a:Addr)(i j:Nat)(h:a.spot=none):(a.add i).add j=⟨a.block,a.off+(i+j),none⟩:=by
 obtain⟨b,o,sp⟩:=a;simp only at h;subst h;rw[zZp,zZp,Nat.add_assoc]
abbrev wYx:=@Nat.div_lt_iff_lt_mul
theorem jYa:∀(k:Nat)(t:TypeId),jUW P k t=true->∀(fuel:Nat)(v:Value),Rd P w fuel t [v]->∃d,RepD w (λ_=>True) d v/\zYk P k t d
 |0,_,h,_,_,_=>by cases h
 |k+1,t,ho,fuel,v,h=>by
  unfold jUW at ho;unfold zYk;split at ho
  .rename_i hu;obtain⟨b,hb⟩:=h.bool hu;simp only[wQK,and_true]at hb;subst hb;exact⟨.bool b,by simp only[RepD],b,rfl⟩
  .rename_i q hu;obtain⟨n,hn,hw⟩:=h.int hu;simp only[wQK,and_true]at hn;subst hn;exact⟨.int q n,by simp only[RepD];exact⟨trivial,hw⟩,n,rfl⟩
  .rename_i hu;obtain⟨s,hs,hw⟩:=h.str hu;simp only[wQK,and_true]at hs;subst hs;refine⟨.str s,by simp only[RepD,true_and];unfold reachBytes at hw;unfold maxLen;omega,s,rfl⟩
  .rename_i e hu
   rcases h.slice hu with h|⟨a,len,cap,h1,h2,h3,h4,h5⟩
   .simp only[wQK,and_true]at h;subst h;refine⟨.sl 0 [],by simp only[RepD];exact⟨none,0,rfl,Nat.le_refl _,wQj _,λe=>absurd rfl e⟩,0,[],rfl,by simp,?_⟩;split
    .exact⟨by simp,λj d h=>by simp at h⟩
    .rfl
   .simp only[wQK,and_true]at h1;subst h1;have hby:len*P.bytesOf e<=reachBytes:=wQJ (wQ1 _ h2) h4
    cases hl:lv P e with
    |none=>exact⟨.sl len [],by simp only[RepD];exact⟨some a,cap,rfl,h2,h3,λe=>absurd rfl e⟩,len,[],rfl,hby,rfl⟩
    |some ls=>
     rw[hl]at ho;simp only[List.all_eq_true]at ho;obtain⟨g1,g2,g3⟩:=jJ8 hl;have hcell:∀j,j<len*ls.length->∃d,a.spot=none/\(∃u,w.cell? ⟨a.block,a.off+j,none⟩=some u/\RepD w (λ_=>True) d u)/\∃t',ls[j%ls.length]?=some t'/\zYk P k t' d:=by
      intro j hj;have hi:j / ls.length<len:=by rw[wYx g3];exact hj
      obtain⟨cs',c1,fuel',c2⟩:=h5 (j / ls.length) (by omega);have hm:j%ls.length<ls.length:=wZz _ g3;obtain⟨c,g,e1,e2⟩:=zVL 8 e ls fuel' cs' g1 c2 (j%ls.length) (ls[j%ls.length]) (by simp[hm]);obtain⟨d,f1,f2⟩:=jYa k ls[j%ls.length] (ho _ (List.getElem_mem hm)) g c e2;obtain⟨_,c3,c4⟩:=World.cells?_some c1;have hc:=c4 (j%ls.length) (by omega);rw[e1]at hc;have hpos:0<cap:=wZx (Nat.lt_of_le_of_lt (wQj _) hi) h2;have hcp:0<P.cellsOf e:=by omega
      have hs:a.spot=none:=by
       cases hsp:a.spot with
       |none=>rfl
       |some x=>
        exfalso;obtain⟨cs0,d0,_⟩:=h5 0 hpos;obtain⟨_,hlen,d1⟩:=World.cells?_some d0;have c0:=d1 0 hcp;rw[Nat.zero_mul,show a.add 0=a from by simp[Addr.add],show a.add 0=a from by simp[Addr.add]]at c0;have:w.cell? a=none:=by
         unfold World.cell?;split
         .simp[hsp]
         .rfl
        rw[this]at c0;have:=List.getElem?_eq_none_iff.1 c0.symm;omega
      refine⟨d,hs,⟨c,?_,f1⟩,_,by simp[hm],f2⟩;rw[addr_add' _ _ _ hs,<-g2,wQS,wZ4]at hc;exact hc
     obtain⟨xs,x1,x2⟩:=jQy (len*ls.length) hcell;refine⟨.sl len xs,?_,len,xs,rfl,hby,x1,λj d' hj=>(x2 j d' hj).2.2⟩;simp only[RepD];refine⟨some a,cap,rfl,h2,h3,λhne=>⟨a.block,a.off,?_,trivial,.of_at λi d hi=>(x2 i d hi).2.1⟩⟩
     cases xs with
     |nil=>exact absurd rfl hne
     |cons d ds=>
      have hs:=(x2 0 d rfl).1;obtain⟨b,o,sp⟩:=a;simp only at hs;subst hs;rfl
  .cases ho
def zKL(P:Program)(t:TypeId)(r:RV):Prop:=
 match P.underlying t with
 |some (.struct _)|some (.array _ _)=>∃ds ls,r=.agg ds/\lv P t=some ls/\ds.length=ls.length/\∀(i:Nat) d,ds[i]?=some d->∃t',ls[i]?=some t'/\zYk P 6 t' d
 |_=>∃d,r=.d d/\zYk P 6 t d
def zWd(P:Program):List TypeId->List RV->Prop
 |[],[]=>True
 |t::ts,r::rs=>zKL P t r/\zWd P ts rs
 |_,_=>False
def okT(P:Program)(t:TypeId):Bool:=
 match P.underlying t with
 |some (.struct _)|some (.array _ _)=>match lv P t with
  |some ls=>ls.all (jUW P 6)
  |none=>false
 |_=>jUW P 6 t
theorem jG0(ho:okT P t=true)(h:Arg P w t v):∃r,RepR w (λ_=>True) r v/\zKL P t r:=by
 have many:((∃fs,P.underlying t=some (.struct fs))\/∃n e,P.underlying t=some (.array n e))->(match lv P t with|some ls=>ls.all (jUW P 6)|none=>false)=true->∃ds ls,RepR w (λ_=>True) (.agg ds) v/\lv P t=some ls/\ds.length=ls.length/\∀(i:Nat) d,ds[i]?=some d->∃t',ls[i]?=some t'/\zYk P 6 t' d:=by
  intro hu hl;obtain⟨cs,rfl,hlen,g,hr⟩:=h.many hu (n:=P.cellsOf t) rfl
  cases hlv:lv P t with
  |none=>rw[hlv]at hl;cases hl
  |some ls=>
   rw[hlv]at hl;simp only[List.all_eq_true]at hl;obtain⟨g1,g2,g3⟩:=jJ8 hlv;have hcell:∀i,i<ls.length->∃d,(∃c,cs[i]?=some c/\RepD w (λ_=>True) d c)/\∃t',ls[i]?=some t'/\zYk P 6 t' d:=by
    intro i hi;obtain⟨c,g',e1,e2⟩:=zVL 8 t ls g cs g1 hr i ls[i] (by simp[hi]);obtain⟨d,f1,f2⟩:=jYa 6 ls[i] (hl _ (List.getElem_mem hi)) g' c e2;exact⟨d,⟨c,e1,f1⟩,_,by simp[hi],f2⟩
   obtain⟨ds,x1,x2⟩:=jQy ls.length hcell;refine⟨ds,ls,?_,rfl,x1,λi d hi=>(x2 i d hi).2⟩;simp only[RepR];refine⟨_,rfl,?_⟩;rw[jXc];refine⟨by simp;omega,λi d v hd hv=>?_⟩;obtain⟨⟨c,e1,e2⟩,_⟩:=x2 i d hd;have:cs[i]?=some v:=by simpa using hv
   rw[e1]at this;injection this with this
   subst this;exact e2
 unfold okT at ho;unfold zKL;split at ho
 .rename_i fs hu;obtain⟨ds,ls,h1,h2⟩:=many (.inl ⟨_,hu⟩) ho;exact⟨.agg ds,h1,ds,ls,rfl,h2⟩
 .rename_i n e hu;obtain⟨ds,ls,h1,h2⟩:=many (.inr ⟨_,_,hu⟩) ho;exact⟨.agg ds,h1,ds,ls,rfl,h2⟩
 .rename_i h1 h2;obtain⟨g,hr⟩:=h.one (λfs e=>h1 fs e) (λn e e'=>h2 n e e');obtain⟨d,f1,f2⟩:=jYa 6 t ho g v hr;exact⟨.d d,by simp only[RepR];exact f1,⟨d,rfl,f2⟩⟩
theorem jXm:∀{ts:List TypeId}{vs:List Value},ts.all (okT P)=true->Args P w ts vs->∃rs,RepRs w (λ_=>True) rs vs/\zWd P ts rs
 |[],[],_,_=>⟨[],by simp only[RepRs],trivial⟩
 |t::ts,v::vs,ho,h=>by
  simp only[wZX,wQd]at ho;obtain⟨r,h1,h2⟩:=jG0 ho.1 h.1;obtain⟨rs,h3,h4⟩:=jXm ho.2 h.2;exact⟨r::rs,by simp only[RepRs];exact⟨h1,h3⟩,h2,h4⟩
 |[],_::_,_,h=>h.elim
 |_::_,[],_,h=>h.elim
theorem yZH{f:FuncId}(hok:ts.all (okT P)=true)(h:∀rs,zWd P ts rs->RV.wfs rs->Ans P f rs (.d (.bool true)))(W:World)(args:Array Value)(hg:zJR W λ_=>True)(ha:Args P W ts args.toList):
  Calls P f args W λe W'=>e=.returned (.bool true)/\Below W.heap.size W W':=by
 obtain⟨rs,h1,h2⟩:=jXm hok ha;refine(h rs h2 (RepRs.wf h1) W _ args hg h1).mono λe w' ⟨v,he,hv,hb⟩=>?_;simp only[RepR,RepD]at hv;subst hv;exact⟨he,hb⟩
end
theorem zWd.cons{P:Program}{t:TypeId}{ts:List TypeId}{rs:List RV}(h:zWd P (t::ts) rs):∃r rs',rs=r::rs'/\zKL P t r/\zWd P ts rs':=by
 cases rs with
 |nil=>exact h.elim
 |cons r rs=>exact⟨r,rs,rfl,h.1,h.2⟩
theorem zWd.nil{P:Program}{rs:List RV}(h:zWd P [] rs):rs=[]:=by
 cases rs with
 |nil=>rfl
 |cons r rs=>exact h.elim
theorem zKL.one{r:RV}{k:IntKind}(h:zKL P t r)(hu:P.underlying t=some (.int k)):∃n,r=.d (.int k n):=by
 unfold zKL at h;simp only[hu]at h;obtain⟨d,rfl,h⟩:=h;unfold zYk at h;simp only[hu]at h;obtain⟨n,rfl⟩:=h;exact⟨n,rfl⟩
theorem zKL.many{r:RV}(h:zKL P t r)(hu:(match P.underlying t with|some (.struct _)|some (.array _ _)=>true|_=>false)=true)(hl:lv P t=some ls):
  ∃ds,r=.agg ds/\ds.length=ls.length/\∀(i:Nat) d,ds[i]?=some d->∃t',ls[i]?=some t'/\zYk P 6 t' d:=by
 unfold zKL at h;split at hu
 .rename_i fs he;simp only[he]at h;obtain⟨ds,ls',h1,h2,h3⟩:=h;rw[hl]at h2;injection h2 with h2;subst h2
  exact⟨ds,h1,h3⟩
 .rename_i n e he;simp only[he]at h;obtain⟨ds,ls',h1,h2,h3⟩:=h;rw[hl]at h2;injection h2 with h2;subst h2
  exact⟨ds,h1,h3⟩
 .cases hu
def zG2(P:Program)(q:Nat)(ls:List TypeId)(ds:List DV):Prop:=ds.length=ls.length/\∀(i:Nat) d,ds[i]?=some d->∃t',ls[i]?=some t'/\zYk P q t' d
theorem zG2.cons{P:Program}{q:Nat}{t:TypeId}{ts:List TypeId}{ds:List DV}(h:zG2 P q (t::ts) ds):∃d ds',ds=d::ds'/\zYk P q t d/\zG2 P q ts ds':=by
 obtain⟨h1,h2⟩:=h
 cases ds with
 |nil=>simp at h1
 |cons d ds=>
  refine⟨d,ds,rfl,?_,by simpa using h1,λi d' hd=>?_⟩
  .obtain⟨t',e,h⟩:=h2 0 d rfl;simp at e;subst e;exact h
  .obtain⟨t',e,h⟩:=h2 (i+1) d' (by simpa using hd);exact⟨t',by simpa using e,h⟩
theorem zG2.nil{ds:List DV}(h:zG2 P q [] ds):ds=[]:=by
 have:=h.1;simpa using this
theorem zYk.int{P:Program}{q:Nat}{t:TypeId}{d:DV}{k:IntKind}(h:zYk P q t d)(hu:P.underlying t=some (.int k)):∃n,d=.int k n:=by
 cases q with
 |zero=>exact h.elim
 |succ q=>unfold zYk at h;simp only[hu]at h;exact h
theorem zYk.bool{P:Program}{q:Nat}{t:TypeId}{d:DV}(h:zYk P q t d)(hu:P.underlying t=some .bool):∃n,d=.bool n:=by
 cases q with
 |zero=>exact h.elim
 |succ q=>unfold zYk at h;simp only[hu]at h;exact h
theorem zYk.slice{P:Program}{q:Nat}{t e:TypeId}{d:DV}{ls:List TypeId}(h:zYk P q t d)(hu:P.underlying t=some (.slice e))(hl:lv P e=some ls) :
  ∃n xs,d=.sl n xs/\n*P.bytesOf e<=reachBytes/\xs.length=n*ls.length/\∀(j:Nat) d',xs[j]?=some d'->∃t',ls[j%ls.length]?=some t'/\∃q,zYk P q t' d':=by
 cases q with
 |zero=>exact h.elim
 |succ q=>
  unfold zYk at h;simp only[hu,hl]at h;obtain⟨n,xs,h1,h2,h3,h4⟩:=h;exact⟨n,xs,h1,h2,h3,λj d' hj=>let⟨t',a,b⟩:=h4 j d' hj;⟨t',a,q,b⟩⟩
theorem zYk.str{P:Program}{q:Nat}{t:TypeId}{d:DV}(h:zYk P q t d)(hu:P.underlying t=some .string):∃n,d=.str n:=by
 cases q with
 |zero=>exact h.elim
 |succ q=>unfold zYk at h;simp only[hu]at h;exact h
theorem zKL.slice{P:Program}{t e:TypeId}{r:RV}{ls:List TypeId}(h:zKL P t r)(hu:P.underlying t=some (.slice e))(hl:lv P e=some ls) :
  ∃n xs,r=.d (.sl n xs)/\n*P.bytesOf e<=reachBytes/\xs.length=n*ls.length/\∀(j:Nat) d',xs[j]?=some d'->∃t',ls[j%ls.length]?=some t'/\∃q,zYk P q t' d':=by
 unfold zKL at h;simp only[hu]at h;obtain⟨d,rfl,h⟩:=h;obtain⟨n,xs,rfl,h2⟩:=zYk.slice h hu hl;exact⟨n,xs,rfl,h2⟩
theorem zHR{k:IntKind}(hu:P.underlying t=some (.int k))(a:[t][j % [t].length]?=some t')(b:zYk P q t' d):∃n,d=.int k n:=by
 have:t'=t:=by
  have h:=wXe a;simpa using h
 subst this;exact b.int hu
end
theorem jVk(p:Pl):zJo p p=true:=by simp[zJo,yZP]
theorem Im.same_refl(m:Im):m.same m=true:=by simp[Im.same,jVk]
theorem jQO(l:List Int)(h:n=l.length):IsU n (us l):=by
 subst h;exact yZA (zJG l) λj d hj=>by
  simp only[us,wQY]at hj;obtain⟨v,_,rfl⟩:=wQV.1 hj;exact⟨v,rfl⟩
theorem zKg:IsU 0 []:=yZA rfl λj d hj=>by simp at hj
theorem jUh:Im.zero.isU:=⟨zKg,zKg,zKg,zKg,zKg⟩
theorem zKN(w h:Int)(c:Px):(zQW w h c).isU:=⟨zKg,zKg,zKg,zKg,zKg⟩
theorem zHS(w h:Int)(l:List Px):(imOf w h l).isU:=by
 cases hk:ofOk w h l.length with
 |true=>
  rw[zW7 hk];refine⟨jQO _ ?_,jQO _ ?_,jQO _ ?_,jQO _ ?_,jQO _ ?_⟩<;>exact(wQD _).symm
 |false=>rw[jQU hk];exact jUh
theorem yX0(hn:xs.length=n*5)(hx:∀(j:Nat) d,xs[j]?=some d->∃v,d=.int .i64 v):Is5 n xs:=
 ⟨hn,λi hi=>by
  have hl:i<xs.length:=by omega
  obtain⟨v,e⟩:=hx i _ (List.getElem?_eq_getElem hl);rw[List.getElem?_eq_getElem hl,e]
  simp[nAt,List.getElem?_eq_getElem hl,e]⟩
theorem yQP{k:IntKind}(hu:P.underlying t=some (.int k))(a:[t,t,t,t,t][j % [t,t,t,t,t].length]?=some t')(b:zYk P q t' d):∃n,d=.int k n:=by
 have:t'=t:=by
  have h:=wXe a;simpa using h
 subst this;exact b.int hu
theorem jXw(mood:Int)(L:Nat)(xs:List DV)(most:Int){k:Nat}(h:k=n):jK5 k (pxs (zQy mood L xs most n)):=by
 subst h;have:=jKh (zQy mood L xs most k);rwa [zXK]at this
abbrev wZb:=@Int.emod_nonneg
abbrev wZc:=@Int.emod_lt_of_pos
theorem zZF{n k:Int}(h1:1<=k)(h2:k<=4611686018427387904):0<=modS n k/\modS n k<k:=by
 rw[jHc h1 h2];exact⟨wZb _ (by omega),wZc _ (by omega)⟩
def imR(m:Im):RV:=RV.agg [DV.int .i64 m.w,DV.int .i64 m.h,DV.bool m.so,DV.int .u16 m.c.a,DV.int .u16 m.c.b,DV.int .u16 m.c.c,DV.int .u16 m.c.al,DV.int .u16 m.c.f,DV.int .i64 m.p0.w,DV.int .i64 m.p0.h,DV.int .i64 m.p0.s,DV.sl m.p0.n m.p0.xs,DV.int .i64 m.p1.w,DV.int .i64 m.p1.h,DV.int .i64 m.p1.s,DV.sl m.p1.n m.p1.xs,DV.int .i64 m.p2.w,DV.int .i64 m.p2.h,DV.int .i64 m.p2.s,DV.sl m.p2.n m.p2.xs,DV.int .i64 m.p3.w,DV.int .i64 m.p3.h,DV.int .i64 m.p3.s,DV.sl m.p3.n m.p3.xs,DV.int .i64 m.p4.w,DV.int .i64 m.p4.h,DV.int .i64 m.p4.s,DV.sl m.p4.n m.p4.xs]
def imV(b:Nat)(m:Im):AV:=AV.agg [Cl.d (DV.int .i64 m.w),Cl.d (DV.int .i64 m.h),Cl.d (DV.bool m.so),Cl.d (DV.int .u16 m.c.a),Cl.d (DV.int .u16 m.c.b),Cl.d (DV.int .u16 m.c.c),Cl.d (DV.int .u16 m.c.al),Cl.d (DV.int .u16 m.c.f),Cl.d (DV.int .i64 m.p0.w),Cl.d (DV.int .i64 m.p0.h),Cl.d (DV.int .i64 m.p0.s),Cl.ref (b+0) m.p0.n,Cl.d (DV.int .i64 m.p1.w),Cl.d (DV.int .i64 m.p1.h),Cl.d (DV.int .i64 m.p1.s),Cl.ref (b+1) m.p1.n,Cl.d (DV.int .i64 m.p2.w),Cl.d (DV.int .i64 m.p2.h),Cl.d (DV.int .i64 m.p2.s),Cl.ref (b+2) m.p2.n,Cl.d (DV.int .i64 m.p3.w),Cl.d (DV.int .i64 m.p3.h),Cl.d (DV.int .i64 m.p3.s),Cl.ref (b+3) m.p3.n,Cl.d (DV.int .i64 m.p4.w),Cl.d (DV.int .i64 m.p4.h),Cl.d (DV.int .i64 m.p4.s),Cl.ref (b+4) m.p4.n]
def imB(e:Nat)(m:Im):List Bx:=[Bx.row e 1 m.p0.xs,Bx.row e 1 m.p1.xs,Bx.row e 1 m.p2.xs,Bx.row e 1 m.p3.xs,Bx.row e 1 m.p4.xs]
def zJy(p k a b often:Int):Int:=if modS (wrap .i64 (Int.tdiv often 5)) 3=0 then wrap .i64 (b-a) else wrap .i64 (1+modS p k)
def zJj(pw ph so mood:Int)(L:Nat)(xs:List DV)(x0 y0 x1 y1 most:Int):Im:=
 let w:=zJy pw 5 x0 x1 pw
 let h:=zJy ph 4 y0 y1 pw
 let l:=zQy mood L xs most (wrap .i64 (w*h)).toNat
 if modS so 2=0 then zQW w h (gPx mood L xs most 0) else imOf w h l
theorem zHf{most:Int}(hn:0<n):nAt (pxs (zQy mood L xs most n)) 0=(gPx mood L xs most 0).a/\nAt (pxs (zQy mood L xs most n)) 1=(gPx mood L xs most 0).b/\nAt (pxs (zQy mood L xs most n)) 2=(gPx mood L xs most 0).c/\nAt (pxs (zQy mood L xs most n)) 3=(gPx mood L xs most 0).al/\nAt (pxs (zQy mood L xs most n)) 4=(gPx mood L xs most 0).f:=by
 have h:0<(zQy mood L xs most n).length:=by rw[zXK];exact hn
 have e:(zQy mood L xs most n)[0]=gPx mood L xs most 0:=by simp[zQy]
 have:=zQX h;rw[e]at this;simpa only[Nat.zero_mul,Nat.zero_add]using this
theorem jUR(pw ph so mood:Int)(L:Nat)(xs:List DV)(x0 y0 x1 y1 most:Int):(zJj pw ph so mood L xs x0 y0 x1 y1 most).isU:=by
 unfold zJj;simp only;split
 .exact zKN _ _ _
 .exact zHS _ _ _
theorem zUV(pw ph so mood:Int)(L:Nat)(xs:List DV)(x0 y0 x1 y1 most W H:Int)(hW:zJy pw 5 x0 x1 pw=W)(hH:zJy ph 4 y0 y1 pw=H):zJj pw ph so mood L xs x0 y0 x1 y1 most=if modS so 2=0 then zQW W H (gPx mood L xs most 0) else imOf W H (zQy mood L xs most (wrap .i64 (W*H)).toNat):=by
 unfold zJj;simp only[hW,hH]
theorem jJs{W H:Int}(hW:1<=W/\W<=100)(hH:1<=H/\H<=100):1<=wrap .i64 (W*H)/\wrap .i64 (W*H)<=10000:=by
 have a:=wQz hW.2 hH.2 (by omega) (by omega);have b:=wQz hW.1 hH.1 (by omega) (by omega);rw[wQb _ (by omega)];omega
def strS(p:Pl)(more k:Int):Int:=wrap .i64 (p.w+modS (wrap .i64 (more+k)) 4)
def strV(p:Pl)(s:Int)(i:Nat):Int:=
 if Int.tmod (i:Int) s<p.w then nAt p.xs (wrap .i64 (wrap .i64 (wrap .i64 (Int.tdiv (i:Int) s)*p.s)+Int.tmod (i:Int) s)).toNat else wrap .u16 (wrap .i64 (40000+(i:Int)))
def jWk(p:Pl)(s:Int)(n:Nat):List DV:=us ((List.range n).map (strV p s))
def strN(p:Pl)(s:Int):Nat:=(wrap .i64 (s*p.h)).toNat
def strP(p:Pl)(more k:Int):Pl:=⟨p.w,p.h,strS p more k,strN p (strS p more k),jWk p (strS p more k) (strN p (strS p more k))⟩
def zYc(m:Im)(more:Int):Im:=if m.so then m else⟨m.w,m.h,m.so,m.c,strP m.p0 more 0,strP m.p1 more 1,strP m.p2 more 2,strP m.p3 more 3,strP m.p4 more 4⟩
theorem jGo{p:Pl}{more k:Int}(hw:1<=p.w/\p.w<=100):p.w<=strS p more k/\strS p more k<=103:=by
 have b:=@zZF (wrap .i64 (more+k)) 4 (by omega) (by omega);unfold strS;rw[wQb _ (by omega)];omega
theorem jGp{p:Pl}{s:Int}(hs:1<=s/\s<=103)(hh:1<=p.h/\p.h<=100):wrap .i64 (s*p.h)=(strN p s:Int)/\strN p s<=10300/\((strN p s:Nat):Int)=s*p.h:=by
 have a:=wQz hs.2 hh.2 (by omega) (by omega);have b:=Int.mul_nonneg (show 0<=s by omega) (show 0<=p.h by omega);unfold strN;rw[wQb _ (by omega)];omega
theorem jUk(p:Pl)(s:Int)(h:i<n):nAt (jWk p s n) i=strV p s i:=by
 unfold jWk;rw[jZZ (by simpa using h)];simp
abbrev wXi:=@Bool.true_and
abbrev wQB:=@Int.mul_comm
variable{p:Pl}{k more:Int}
theorem zKm(hv:zQ0 p.w p.h p.s p.n=true)(hw:p.w<=100)(hh:p.h<=100):zQ0 (strP p more k).w (strP p more k).h (strP p more k).s (strP p more k).n=true:=by
 have hf:zZi p.w p.h=true:=by unfold zQ0 at hv;simp at hv;exact hv.1.1.1
 obtain⟨f1,f2,f3,f4,f5⟩:=zXM hf;have S:=@jGo p more k ⟨f1,hw⟩;have N:=@jGp p (strS p more k) (by omega) ⟨f2,hh⟩;have L:=jVR hf S.1 (by omega)
 show zQ0 p.w p.h (strS p more k) (strN p (strS p more k))=true
 unfold zQ0;have e:(p.h-1)*strS p more k=strS p more k*p.h-strS p more k:=by rw[Int.sub_mul,wQB];omega
 simp only[hf,wXi,wQd,wQf];exact⟨⟨S.1,by omega⟩,by omega⟩
abbrev wXj:=@Int.add_mul
abbrev wZM:=@Int.one_mul
abbrev wY0:=@Int.add_mul_emod_self_right
abbrev wXF:=@Int.add_comm
abbrev wYy:=@Int.add_mul_ediv_right
abbrev wYz:=@Int.ediv_eq_zero_of_lt
theorem zH3(hv:zQ0 p.w p.h p.s p.n=true)(hw:p.w<=100)(hh:p.h<=100)(hx:0<=x/\x<p.w)(hy:0<=y/\y<p.h):(strP p more k).at_ x y=p.at_ x y:=by
 have hf:zZi p.w p.h=true:=by unfold zQ0 at hv;simp at hv;exact hv.1.1.1
 obtain⟨f1,f2,f3,f4,f5⟩:=zXM hf;obtain⟨q1,q2,q3,q4,q5⟩:=place hv hx.1 hx.2 hy.1 hy.2;obtain⟨v1,v2,v3,v4,v5,v6,v7,v8,v9⟩:=zJF hv;have S:=@jGo p more k ⟨f1,hw⟩;have N:=@jGp p (strS p more k) (by omega) ⟨f2,hh⟩
 show nAt (jWk p (strS p more k) (strN p (strS p more k))) (y*strS p more k+x).toNat=nAt p.xs (y*p.s+x).toNat
 generalize strS p more k=s at *;have a1:0<=y*s:=Int.mul_nonneg hy.1 (by omega);have a2:(y+1)*s<=p.h*s:=Int.mul_le_mul_of_nonneg_right (by omega) (by omega);have a3:(y+1)*s=y*s+s:=by rw[wXj,wZM]
 have a4:p.h*s=s*p.h:=wQB _ _;have hi:(y*s+x).toNat<strN p s:=by omega
 rw[jUk _ _ hi];have ei:((y*s+x).toNat:Int)=y*s+x:=by omega
 unfold strV;rw[ei,wZ1 (by omega),wQ5 (by omega)];have m1:(y*s+x)%s=x:=by rw[wXF,wY0];exact Int.emod_eq_of_lt hx.1 (by omega)
 have m2:(y*s+x) / s=y:=by rw[wXF,wYy _ _ (by omega),wYz hx.1 (by omega)];omega
 rw[m1,m2,if_pos hx.2];rw[wQb y (by omega),q5.1,q5.2]
theorem jV5(m:Im)(more:Int):(zYc m more).so=m.so/\(zYc m more).w=m.w/\(zYc m more).h=m.h/\(zYc m more).c=m.c:=by
 unfold zYc;split<;>simp
theorem zV2(hf:m.formed=true)(hm:m.w<=100/\m.h<=100)(more:Int):(zYc m more).formed=true:=by
 unfold zYc;split
 .exact hf
 .rename_i hs;have hs:m.so=false:=by simpa using hs
  obtain⟨qf,qi⟩:=Im.formed_of hf;obtain⟨qc,z0,z1,z2,z3,z4⟩:=Im.inner_planes qi hs;have p0:=zKm (more:=more) (k:=0) z0.1 (by omega) (by omega);have p1:=zKm (more:=more) (k:=1) z1.1 (by omega) (by omega);have p2:=zKm (more:=more) (k:=2) z2.1 (by omega) (by omega);have p3:=zKm (more:=more) (k:=3) z3.1 (by omega) (by omega);have p4:=zKm (more:=more) (k:=4) z4.1 (by omega) (by omega);have e:∀(p:Pl) k,(strP p more k).w=p.w/\(strP p more k).h=p.h:=λp k=>⟨rfl,rfl⟩
  simp only[(e _ _).1,(e _ _).2,z0.2,z1.2,z2.2,z3.2,z4.2]at p0 p1 p2 p3 p4;simp[Im.formed,Im.inner,okPl,hs,qf,qc,p0,p1,p2,p3,p4,e,z0.2,z1.2,z2.2,z3.2,z4.2]
theorem jV6(hf:m.formed=true)(hm:m.w<=100/\m.h<=100)(more:Int)(hx:0<=x/\x<m.w)(hy:0<=y/\y<m.h):(zYc m more).px x y=m.px x y:=by
 unfold zYc;split
 .rfl
 .rename_i hs;have hs:m.so=false:=by simpa using hs
  obtain⟨qf,qi⟩:=Im.formed_of hf;obtain⟨qc,z0,z1,z2,z3,z4⟩:=Im.inner_planes qi hs;unfold Im.px;simp only[hs];rw[zH3 z0.1 (by omega) (by omega) (by omega) (by omega),zH3 z1.1 (by omega) (by omega) (by omega) (by omega),zH3 z2.1 (by omega) (by omega) (by omega) (by omega),zH3 z3.1 (by omega) (by omega) (by omega) (by omega),zH3 z4.1 (by omega) (by omega) (by omega) (by omega)]
theorem Im.pixels_ext{r:Im}(hm:m.formed=true)(hr:r.formed=true)(hw:r.w=m.w)(hh:r.h=m.h)(h:∀x y:Int,(0<=x/\x<m.w)->(0<=y/\y<m.h)->r.px x y=m.px x y):r.pixels=m.pixels:=by
 rw[Im.pixels_of hm,Im.pixels_of hr,hw,hh];unfold Im.list;refine List.map_congr_left λk hk=>?_;have hk:=wQy.1 hk;obtain⟨a,b⟩:=Im.nth_in (Im.formed_of hm).1 hk;unfold Im.nth;rw[hw];exact h _ _ a b
theorem jQ2(hf:m.formed=true)(hm:m.w<=100/\m.h<=100)(more:Int):(zYc m more).pixels=m.pixels:=
 have g:=jV5 m more
 Im.pixels_ext hf (zV2 hf hm more) g.2.1 g.2.2.1 (λx y hx hy=>jV6 hf hm more hx hy)
variable{w:Int}
theorem zZ0(c:Px)(hf:zZi w h=true):(zQW w h c).formed=true:=by
 simp[Im.formed,Im.inner,okPl,zQW,hf,zVh,Pl.none]
theorem zW6{l:List Px}(hk:ofOk w h l.length=true):(ofIm w h l).formed=true:=by
 unfold ofOk at hk;simp at hk;obtain⟨hf,hl⟩:=hk;obtain⟨f1,f2,f3,f4,f5⟩:=zXM hf;have L:=jVR hf (Int.le_refl w) f3;have e:(h-1)*w=w*h-w:=by rw[Int.sub_mul,wQB];omega
 have hv:zQ0 w h w l.length=true:=by
  unfold zQ0;simp only[hf,wXi,wQd,wQf];exact⟨⟨Int.le_refl _,f3⟩,by omega⟩
 simp[Im.formed,Im.inner,okPl,ofIm,hf,hv]
theorem zHg(pw ph so mood:Int)(L:Nat)(xs:List DV)(x0 y0 x1 y1 most:Int)(hc:1<=x1-x0/\x1-x0<=100/\1<=y1-y0/\y1-y0<=100) :
  (zJj pw ph so mood L xs x0 y0 x1 y1 most).formed=true/\1<=(zJj pw ph so mood L xs x0 y0 x1 y1 most).w/\(zJj pw ph so mood L xs x0 y0 x1 y1 most).w<=100/\1<=(zJj pw ph so mood L xs x0 y0 x1 y1 most).h/\(zJj pw ph so mood L xs x0 y0 x1 y1 most).h<=100:=by
 have b5:=@zZF pw 5 (by omega) (by omega);have b4:=@zZF ph 4 (by omega) (by omega);have hW:1<=zJy pw 5 x0 x1 pw/\zJy pw 5 x0 x1 pw<=100:=by
  unfold zJy;split<;>rw[wQb _ (by omega)]<;>omega
 have hH:1<=zJy ph 4 y0 y1 pw/\zJy ph 4 y0 y1 pw<=100:=by
  unfold zJy;split<;>rw[wQb _ (by omega)]<;>omega
 rw[zUV pw ph so mood L xs x0 y0 x1 y1 most _ _ rfl rfl];generalize zJy pw 5 x0 x1 pw=W at *;generalize zJy ph 4 y0 y1 pw=H at *;have wa:=jJs hW hH;have hf:zZi W H=true:=by
  have:=wQz hW.2 hH.2 (by omega) (by omega);simp[zZi];omega
 have hwm:wrap .i64 (W*H)=W*H:=wQb _ (by
  have:=wQz hW.2 hH.2 (by omega) (by omega);have:=Int.mul_nonneg (a:=W) (b:=H) (by omega) (by omega)
  omega)
 split
 .exact⟨zZ0 _ hf,hW.1,hW.2,hH.1,hH.2⟩
 .have hk:ofOk W H (zQy mood L xs most (wrap .i64 (W*H)).toNat).length=true:=by
   simp only[ofOk,hf,wXi,wQf,zXK];omega
  rw[zW7 hk];exact⟨zW6 hk,hW.1,hW.2,hH.1,hH.2⟩
variable{k:Nat}
theorem yXt{l:List Px}(h:k<l.length):nAt (chan l g) k=g l[k]:=by
 unfold chan;rw[jZZ (by simpa using h)];simp
theorem jG8{l:List Px}(hk:(y*w+x).toNat<l.length):(ofIm w h l).px x y=l[(y*w+x).toNat]:=by
 simp[Im.px,ofIm,Pl.at_,yXt hk]
theorem Im.list_at(h:k<n):(m.list n)[k]'(by rw[Im.list_len];exact h)=m.nth k:=by simp[Im.list]
abbrev wQP:=@List.ext_getElem
theorem jVY{l:List Px}(hk:ofOk w h l.length=true):(imOf w h l).formed=true/\(imOf w h l).pixels=l:=by
 rw[zW7 hk];have hf:=zW6 hk;refine⟨hf,?_⟩;rw[Im.pixels_of hf];obtain⟨f1,f2,f3,f4,f5⟩:=zXM (Im.formed_of hf).1;have hl:l.length=w.toNat*h.toNat:=by
  have:=(Im.count_le (Im.formed_of hf).1).2;simp[ofOk]at hk;change ((w.toNat*h.toNat:Nat):Int)=w*h at this;omega
 refine wQP (by rw[Im.list_len];exact hl.symm) λi h1 h2=>?_;rw[Im.list_len]at h1;rw[Im.list_at h1];have hw:0<w.toNat:=by change 1<=w at f1;omega
 have e:i / w.toNat*w.toNat+i%w.toNat=i:=by rw[wQS];exact wZ4 i w.toNat
 have e2:(((i / w.toNat:Nat):Int)*w+((i%w.toNat:Nat):Int)).toNat=i:=by
  rw[idx (by change 1<=w at f1;omega)];exact e
 show(ofIm w h l).px ((i%w.toNat:Nat):Int) ((i / w.toNat:Nat):Int)=l[i]
 rw[jG8 (by rw[e2];exact h2)];simp only[e2]
def zZs(n d:Int):Int:=if d=0 then 0 else n / d+(if d-n%d<=n%d then 1 else 0)
def to16(v:Int):Int:=if 255<v then 65535 else 257*v
def to8(v:Int):Int:=zZs (v*255) 65535
def Px.map(f:Int->Int)(p:Px):Px:=⟨f p.a,f p.b,f p.c,f p.al,f p.f⟩
def jHP(b:Int):Bool:=decide (b=8) || decide (b=16)
def yQ9(b:Int):Int:=if b=8 then 255 else if b=16 then 65535 else 0
def Px.conv(a b:Int)(p:Px):Px:=if a<b then p.map to16 else if b<a then p.map to8 else p
def Im.convOk(m:Im)(a b:Int):Bool:=jHP a&&jHP b&&decide (m.valid (yQ9 a)=0)
def Im.conv(m:Im)(a b:Int):Im:=if m.convOk a b then(if m.so then zQW m.w m.h (m.c.conv a b) else imOf m.w m.h (m.pixels.map (Px.conv a b))) else .zero
def isq:Nat->Nat
 |0=>0
 |n+1=>if(isq n+1)*(isq n+1)<=n+1 then isq n+1 else isq n
theorem jWQ:∀n:Nat,isq n*isq n<=n/\n<(isq n+1)*(isq n+1)
 |0=>by decide
 |n+1=>by
  have⟨h1,h2⟩:=jWQ n;simp only[isq];split
  .refine⟨by assumption,?_⟩;have:(isq n+1+1)*(isq n+1+1)=(isq n+1)*(isq n+1)+2*(isq n)+3:=by grind
   omega
  .omega
def zZH(n:Int):Int:=isq n.toNat
abbrev wZd:=@Int.eq_ofNat_of_zero_le
variable{n:Int}
theorem zYI(h:0<=n):0<=zZH n/\zZH n*zZH n<=n/\n<(zZH n+1)*(zZH n+1):=by
 obtain⟨m,rfl⟩:=wZd h;have⟨h1,h2⟩:=jWQ m;simp only[zZH,wQp];refine⟨by omega,by exact_mod_cast h1,by exact_mod_cast h2⟩
abbrev wZU:=@Int.le_trans
variable{k:Int}
theorem jQK(h:0<=n)(hk:0<=k):k<=zZH n↔k*k<=n:=by
 obtain⟨h0,h1,h2⟩:=zYI h;constructor
 .intro hl;exact wZU (wQz hl hl hk h0) h1
 .intro hl;apply Int.not_lt.1;intro hlt;have:(zZH n+1)*(zZH n+1)<=k*k:=wQz hlt hlt (by omega) hk;omega
theorem jQi(h:0<=n)(hk:0<=k):zZH n<k↔n<k*k:=by
 have:=jQK h hk;omega
structure Ex where
  p:Int
  q:Int
  r:Int
  d:Int
def Ex.up(x:Ex)(t:Int):Int:=t*x.p+zZH ((t*x.q)*(t*x.q)*x.r)
def Ex.floor(x:Ex):Int:=x.up 1 / x.d
def Ex.half(x:Ex):Int:=(x.up 2+x.d) / (2*x.d)
structure Ex.ok(x:Ex):Prop where
  p:0<=x.p
  q:0<=x.q
  r:0<=x.r
  d:0<x.d
theorem zQ1(a:Int):0<=a*a:=by
 rcases wXO 0 a with h|h
 .exact Int.mul_nonneg h h
 .have:=Int.mul_nonneg (Int.neg_nonneg.2 h) (Int.neg_nonneg.2 h);grind
variable{x:Ex}
theorem Ex.up_nonneg(h:x.ok){t:Int}(ht:0<=t):0<=x.up t:=by
 have:=(zYI (Int.mul_nonneg (zQ1 (t*x.q)) h.r)).1;have:=Int.mul_nonneg ht h.p;unfold Ex.up;omega
theorem Ex.up_two(h:x.ok):2*x.up 1<=x.up 2/\x.up 2<=2*x.up 1+1:=by
 have hn:0<=x.q*x.q*x.r:=Int.mul_nonneg (zQ1 _) h.r;have e2:(2*x.q)*(2*x.q)*x.r=4*(x.q*x.q*x.r):=by grind
 unfold Ex.up;rw[e2,wZM,wZM];generalize x.q*x.q*x.r=n at *;obtain⟨a0,a1,a2⟩:=zYI hn;have b1:2*zZH n<=zZH (4*n):=(jQK (by omega) (by omega)).2 (by grind);have b2:zZH (4*n)<2*zZH n+2:=(jQi (by omega) (by omega)).2 (by grind);omega
abbrev wXk:=@Int.ediv_eq_iff_of_pos
abbrev wZN:=@Int.emod_add_mul_ediv
theorem Ex.half_floor(h:x.ok):x.half=if(2*x.floor+1)*x.d<=x.up 2 then x.floor+1 else x.floor:=by
 have⟨u1,u2⟩:=Ex.up_two h;have hd:=h.d;have e1:=wZN (x.up 1) x.d;have e2:=wZb (x.up 1) (b:=x.d) (by omega);have e3:=wZc (x.up 1) hd;unfold Ex.half;change _=if(2*(x.up 1 / x.d)+1)*x.d<=_ then x.up 1 / x.d+1 else x.up 1 / x.d
 generalize x.up 1 / x.d=n at *;generalize x.up 1%x.d=m at *;generalize x.up 1=A at *;generalize x.up 2=B at *;generalize x.d=d at *;split
 .rename_i hc;rw[wXk (by omega)];constructor<;>grind
 .rename_i hc;rw[wXk (by omega)];constructor<;>grind
variable{B:Int}
theorem Ex.half_le(h:x.ok)(h1:x.p<=B)(h2:x.q*x.q*x.r<=(B-x.p)*(B-x.p)):x.half<=(2*B+x.d) / (2*x.d):=by
 apply wYk (by have:=h.d;omega);have hn:0<=x.q*x.q*x.r:=Int.mul_nonneg (zQ1 _) h.r;have e2:(2*x.q)*(2*x.q)*x.r=4*(x.q*x.q*x.r):=by grind
 have:zZH (4*(x.q*x.q*x.r))<2*(B-x.p)+1:=(jQi (by omega) (by omega)).2 (by grind);unfold Ex.up;rw[e2];omega
theorem Ex.half_nonneg(h:x.ok):0<=x.half:=by
 have:=Ex.up_nonneg h (t:=2) (by omega);have:=h.d;exact wQU (by omega) (by omega)
theorem Ex.half_whole(hd:0<x.d){c:Int}(hq:x.q=0)(hp:x.p=c*x.d):x.half=c:=by
 have:x.up 2=2*(c*x.d):=by
  unfold Ex.up;rw[hq,hp];simp[zZH,isq]
 unfold Ex.half;rw[this,wXk (by omega)];constructor<;>grind
def zK4(s a d b:Int):Int:=if 2*s<=a then 2*s*d else a*b-2*(b-d)*(a-s)
def zKn(s a d b:Int):Ex:=
 if b=0 then⟨0,0,0,1⟩
 else if 2*s<=a then⟨d*a*b-(a-2*s)*d*(b-d),0,0,b⟩
 else if 4*d<=b then⟨d*a*(b*b)+(2*s-a)*d*(16*d*d+3*b*b-12*d*b),0,0,b*b⟩
 else⟨2*d*(a-s),2*s-a,d*b,1⟩
def zZm(p:Int):Ex:=⟨p,0,0,1⟩
def zQk(mode s a d b:Int):Ex:=
 if mode=1 then zZm (s*b)
 else if mode=2 then zZm (s*d)
 else if mode=3 then zZm (s*b+d*a-s*d)
 else if mode=4 then zZm (zK4 d b s a)
 else if mode=5 then zZm (min (s*b) (d*a))
 else if mode=6 then zZm (max (s*b) (d*a))
 else if mode=7 then if d=0 then zZm 0 else if d*a>=b*(a-s) then zZm (a*b) else⟨a*a*d,0,0,a-s⟩
 else if mode=8 then if d=b then zZm (a*b) else if(b-d)*a>=s*b then zZm 0 else⟨a*b*s-(b-d)*a*a,0,0,s⟩
 else if mode=9 then zZm (zK4 s a d b)
 else if mode=10 then zKn s a d b
 else if mode=11 then zZm (max (s*b) (d*a)-min (s*b) (d*a))
 else zZm (s*b+d*a-2*s*d)
structure Ex.under(x:Ex)(B:Int):Prop where
  ok:x.ok
  p:x.p<=B*x.d
  q:x.q*x.q*x.r<=(B*x.d-x.p)*(B*x.d-x.p)
theorem zQ9(h0:0<=n)(h1:n<=B):(zZm n).under B:=
 ⟨⟨h0,by simp[zZm],by simp[zZm],by simp[zZm]⟩,by simp[zZm,h1],by simp[zZm];exact zQ1 _⟩
variable{A:Int}
theorem zQf{x:Int}(h0:0<=x)(h1:x<=A)(h2:0<=y)(h3:y<=B):0<=x*y/\x*y<=A*B:=
 ⟨Int.mul_nonneg h0 h2,wQz h1 h3 h2 (by omega)⟩
variable{a b d:Int}
theorem zHT(h0:0<=s)(h1:s<=a)(h2:0<=d)(h3:d<=b):0<=zK4 s a d b/\zK4 s a d b<=a*b:=by
 unfold zK4;split
 .rename_i h;have:=zQf (x:=2*s) (A:=a) (by omega) h h2 h3;exact this
 .rename_i h;have:=zQf (x:=b-d) (y:=2*(a-s)) (A:=b) (B:=a) (by omega) (by omega) (by omega) (by omega);have e:2*(b-d)*(a-s)=(b-d)*(2*(a-s)):=by grind
  have e2:a*b=b*a:=wQB _ _;rw[e];omega
theorem jWm(h2:0<=d)(h3:4*d<=b):0<=16*d*d+3*b*b-12*d*b/\d*(b*b)+d*(16*d*d+3*b*b-12*d*b)<=b*(b*b):=by
 have a1:=zQ1 (8*d-3*b);have a2:=zQ1 b;refine⟨by grind,?_⟩;have c1:0<=d*d*(3*b-4*d):=Int.mul_nonneg (zQ1 d) (by omega);have c2:0<=(b*b)*(b-4*d):=Int.mul_nonneg (zQ1 b) (by omega);grind
abbrev wQG:=@Int.mul_pos
theorem zH5(h0:0<=s)(h1:s<=a)(h2:0<=d)(h3:d<=b):(zKn s a d b).under (a*b):=by
 unfold zKn;split
 .rename_i h;subst h;exact⟨⟨by simp,by simp,by simp,by simp⟩,by simp,by simp⟩
 split
 .rename_i hb h;have m1:=zQf (x:=a-2*s) (y:=d*(b-d)) (A:=a) (B:=d*b) (by omega) (by omega) (Int.mul_nonneg h2 (by omega)) (Int.mul_le_mul_of_nonneg_left (by omega) h2);have m2:=zQf (x:=d) (y:=a*b) (A:=b) (B:=a*b) h2 h3 (Int.mul_nonneg (by omega) (by omega)) (Int.le_refl _);have e1:(a-2*s)*d*(b-d)=(a-2*s)*(d*(b-d)):=by grind
  have e2:d*a*b=d*(a*b):=by grind
  have e3:a*b*b=b*(a*b):=by grind
  have e4:a*(d*b)=d*(a*b):=by grind
  exact⟨⟨by simp only;omega,by simp,by simp,by simp only;omega⟩,by simp only;omega,by simp;exact zQ1 _⟩
 split
 .rename_i hb hs h;obtain⟨k1,k2⟩:=jWm h2 h;generalize hK:16*d*d+3*b*b-12*d*b=K at *;have m1:=zQf (x:=2*s-a) (y:=d*K) (A:=a) (B:=d*K) (by omega) (by omega) (Int.mul_nonneg h2 k1) (Int.le_refl _);have m2:a*(d*(b*b)+d*K)<=a*(b*(b*b)):=Int.mul_le_mul_of_nonneg_left k2 (by omega);have m3:0<=d*a*(b*b):=Int.mul_nonneg (Int.mul_nonneg h2 (by omega)) (zQ1 b);have m4:0<b*b:=wQG (by omega) (by omega);have e1:(2*s-a)*d*K=(2*s-a)*(d*K):=by grind
  have e2:d*a*(b*b)+a*(d*K)=a*(d*(b*b)+d*K):=by grind
  have e3:a*b*(b*b)=a*(b*(b*b)):=by grind
  exact⟨⟨by simp only;omega,by simp,by simp,m4⟩,by simp only;omega,by simp;exact zQ1 _⟩
 .rename_i hb hs h;have m1:=zQf (x:=d) (y:=2*(a-s)) (A:=b) (B:=2*(a-s)) h2 h3 (by omega) (Int.le_refl _);have e1:2*d*(a-s)=d*(2*(a-s)):=by grind
  have q0:0<=2*s-a:=by omega
  have m2:0<=b*(2*s-a):=Int.mul_nonneg (by omega) q0;have e2:a*b=b*(2*(a-s))+b*(2*s-a):=by grind
  have m3:b*(2*s-a)<=a*b*1-2*d*(a-s):=by omega
  have m4:(b*(2*s-a))*(b*(2*s-a))<=(a*b*1-2*d*(a-s))*(a*b*1-2*d*(a-s)):=wQz m3 m3 m2 (by omega);have m5:(2*s-a)*(2*s-a)*(d*b)<=(2*s-a)*(2*s-a)*(b*b):=Int.mul_le_mul_of_nonneg_left (Int.mul_le_mul_of_nonneg_right h3 (by omega)) (zQ1 _);have e5:(2*s-a)*(2*s-a)*(b*b)=(b*(2*s-a))*(b*(2*s-a)):=by grind
  exact⟨⟨by simp only;omega,q0,Int.mul_nonneg h2 (by omega),by simp⟩,by simp only;omega,by simp only;omega⟩
abbrev wZ5:=@Int.lt_or_le
variable{mode:Int}
theorem zQQ(h0:0<=s)(h1:s<=a)(h2:0<=d)(h3:d<=b):(zQk mode s a d b).under (a*b):=by
 have m1:=zQf h0 h1 (show 0<=b by omega) (Int.le_refl b);have m2:=zQf h2 h3 (show 0<=a by omega) (Int.le_refl a);have m3:=zQf h0 h1 h2 h3;have e:a*b=b*a:=wQB _ _;have x1:s*b+d*a-s*d=s*b+d*(a-s):=by grind
 have m4:=zQf (x:=d) (y:=a-s) (B:=a-s) h2 h3 (by omega) (Int.le_refl _);have x2:b*(a-s)=a*b-s*b:=by grind
 have x3:s*b+d*a-2*s*d=s*(b-d)+d*(a-s):=by grind
 have m5:=zQf (x:=s) (y:=b-d) (B:=b-d) h0 h1 (by omega) (Int.le_refl _);have m6:=Int.mul_nonneg h2 (show 0<=a-s by omega);have m7:=Int.mul_nonneg h0 (show 0<=b-d by omega);have m8:=Int.mul_nonneg (show 0<=a-s by omega) (show 0<=b-d by omega);have x4:a*b=s*(b-d)+d*(a-s)+s*d+(a-s)*(b-d):=by grind
 unfold zQk;by_cases c1:mode=1
 .rw[if_pos c1];exact zQ9 (by omega) (by omega)
 rw[if_neg c1];by_cases c2:mode=2
 .rw[if_pos c2];exact zQ9 (by omega) (by omega)
 rw[if_neg c2];by_cases c3:mode=3
 .rw[if_pos c3];exact zQ9 (by omega) (by omega)
 rw[if_neg c3];by_cases c4:mode=4
 .rw[if_pos c4];have:=zHT h2 h3 h0 h1;exact zQ9 (by omega) (by omega)
 rw[if_neg c4];by_cases c5:mode=5
 .rw[if_pos c5];exact zQ9 (by omega) (by omega)
 rw[if_neg c5];by_cases c6:mode=6
 .rw[if_pos c6];exact zQ9 (by omega) (by omega)
 rw[if_neg c6];by_cases c7:mode=7
 .rw[if_pos c7];split
  .exact zQ9 (by omega) (by omega)
  split
  .exact zQ9 (by omega) (by omega)
  .rename_i hd hlt;have hp:0<a-s:=by
    rcases wZ5 0 (a-s) with h|h
    .exact h
    .have:a-s=0:=by omega
     rw[this]at hlt;omega
   have n1:a*(d*a)<=a*(b*(a-s)):=Int.mul_le_mul_of_nonneg_left (by omega) (by omega);have n2:0<=a*a*d:=Int.mul_nonneg (zQ1 a) h2;have y1:a*a*d=a*(d*a):=by grind
   have y2:a*b*(a-s)=a*(b*(a-s)):=by grind
   exact⟨⟨n2,by simp,by simp,hp⟩,by simp only;omega,by simp;exact zQ1 _⟩
 rw[if_neg c7];by_cases c8:mode=8
 .rw[if_pos c8];split
  .exact zQ9 (by omega) (by omega)
  split
  .exact zQ9 (by omega) (by omega)
  .rename_i hd hlt;have hp:0<s:=by
    rcases wZ5 0 s with h|h
    .exact h
    .have:s=0:=by omega
     rw[this]at hlt;have:=Int.mul_nonneg (show 0<=b-d by omega) (show 0<=a by omega);omega
   have n1:a*((b-d)*a)<=a*(s*b):=Int.mul_le_mul_of_nonneg_left (by omega) (by omega);have n2:0<=(b-d)*a*a:=Int.mul_nonneg (Int.mul_nonneg (by omega) (by omega)) (by omega);have y1:(b-d)*a*a=a*((b-d)*a):=by grind
   have y2:a*b*s=a*(s*b):=by grind
   exact⟨⟨by simp only;omega,by simp,by simp,hp⟩,by simp only;omega,by simp;exact zQ1 _⟩
 rw[if_neg c8];by_cases c9:mode=9
 .rw[if_pos c9];have:=zHT h0 h1 h2 h3;exact zQ9 (by omega) (by omega)
 rw[if_neg c9];by_cases c10:mode=10
 .rw[if_pos c10];exact zH5 h0 h1 h2 h3
 rw[if_neg c10];by_cases c11:mode=11
 .rw[if_pos c11];exact zQ9 (by omega) (by omega)
 rw[if_neg c11];exact zQ9 (by omega) (by omega)
variable{m:Int}
theorem zJ5(hm:0<m):zZs n m=(2*n+m) / (2*m):=by
 unfold zZs;rw[if_neg (by omega)];have e1:=wZN n m;have e2:=wZb n (b:=m) (by omega);have e3:=wZc n hm;generalize n / m=q at *;generalize n%m=r at *;symm;rw[wXk (by omega)];split<;>constructor<;>grind
theorem zXm(hm:0<m)(h:n<=k):zZs n m<=zZs k m:=by
 rw[zJ5 hm,zJ5 hm];exact wYk (by omega) (by omega)
theorem zZ7{c:Int}(hm:0<m):zZs (m*c) m=c:=by
 rw[zJ5 hm,wXk (by omega)];constructor<;>grind
theorem zJi(hm:0<m)(h:0<=n):0<=zZs n m:=by
 rw[zJ5 hm];exact wQU (by omega) (by omega)
theorem zXz(hm:0<m)(h:n<=m*k):zZs n m<=k:=by
 have:=zXm hm h;rwa [zZ7 hm]at this
def facA(op a b m:Int):Int:=
 if op=2 then m else if op=3 then 0 else if op=4 then m else if op=5 then m-b else if op=6 then b else if op=7 then 0
 else if op=8 then m-b else if op=9 then 0 else if op=10 then b else if op=11 then m-b else if op=12 then m-b else 0
def facB(op a b m:Int):Int:=
 if op=2 then 0 else if op=3 then m else if op=4 then m-a else if op=5 then m else if op=6 then 0 else if op=7 then a
 else if op=8 then 0 else if op=9 then m-a else if op=10 then m-a else if op=11 then a else if op=12 then m-a else 0
def zZK(op a b m:Int):Int:=zZs (facA op a b m*a+facB op a b m*b) m
def zXX(op f g m:Int):Int:=
 if op=2\/op=8\/op=11 then f
 else if op=3\/op=9\/op=10 then g
 else if op=4\/op=5\/op=12 then zZs (m*f+(m-f)*g) m
 else if op=6\/op=7 then zZs (f*g) m
 else 0
def valS(op mode m s a d b:Int):Ex:=
 let t:=zQk mode s a d b
 ⟨t.p*facA op a b m+(m-b)*s*facA op a b m*t.d+facB op a b m*d*m*t.d,facA op a b m*t.q,t.r,m*m*t.d⟩
def colS(op mode m s a d b:Int):Int:=(valS op mode m s a d b).half
def knoX(mode m s a f c d b:Int):Ex:=
 let t:=zQk mode s a d b
 ⟨t.p+((m-f)*c+(f-a)*d+(m-b)*s)*t.d,t.q,t.r,m*t.d⟩
def knoC(mode m s a f c d b:Int):Int:=(knoX mode m s a f c d b).half
def knoA(m a f acc b:Int):Int:=zZs ((m-f)*acc+(f-a)*b+m*a) m
theorem jWY{op:Int}(h0:0<=a)(h1:a<=m)(h2:0<=b)(h3:b<=m):(0<=facA op a b m/\facA op a b m<=m)/\0<=facB op a b m/\facB op a b m<=m:=by
 have key:∀(c:Prop)[Decidable c](x y:Int),0<=x/\x<=m->0<=y/\y<=m->0<=(if c then x else y)/\(if c then x else y)<=m:=λc _ x y hx hy=>by split<;>assumption
 unfold facA facB;constructor<;>(repeat' (first|apply key|omega))
theorem jJt{op:Int}(hm:0<m)(h0:0<=s)(h1:s<=a)(h2:a<=m)(h3:0<=d)(h4:d<=b)(h5:b<=m):
  let x:=valS op mode m s a d b
  let B:=(zQk mode s a d b).d*m*(facA op a b m*a+facB op a b m*b)
  x.ok/\x.p<=B/\x.q*x.q*x.r<=(B-x.p)*(B-x.p):=by
 have hu:=zQQ (mode:=mode) h0 h1 h3 h4;have⟨⟨a0,a1⟩,b0,b1⟩:=jWY (op:=op) (show 0<=a by omega) h2 (show 0<=b by omega) h5;simp only[valS];generalize facA op a b m=A at *;generalize facB op a b m=F at *;generalize zQk mode s a d b=t at *;obtain⟨p,q,r,e⟩:=t;obtain⟨⟨p0,q0,r0,e0⟩,p1,q1⟩:=hu;simp only at *;have n1:0<=p*A:=Int.mul_nonneg p0 a0;have n2:p*A<=(a*b*e)*A:=Int.mul_le_mul_of_nonneg_right p1 a0;have w0:0<=A*e:=Int.mul_nonneg a0 (by omega);have n3:=zQf (x:=(m-b)*s) (y:=A*e) (A:=(m-b)*a) (B:=A*e) (Int.mul_nonneg (by omega) h0) (Int.mul_le_mul_of_nonneg_left h1 (by omega)) w0 (Int.le_refl _);have v0:0<=F*(m*e):=Int.mul_nonneg b0 (Int.mul_nonneg (by omega) (by omega));have n4:=zQf (x:=d) (y:=F*(m*e)) (A:=b) (B:=F*(m*e)) h3 h4 v0 (Int.le_refl _);have e1:(m-b)*s*A*e=(m-b)*s*(A*e):=by grind
 have e2:F*d*m*e=d*(F*(m*e)):=by grind
 have key:e*m*(A*a+F*b)=(a*b*e)*A+(m-b)*a*(A*e)+b*(F*(m*e)):=by grind
 have low:A*(a*b*e-p)<=e*m*(A*a+F*b)-(p*A+(m-b)*s*A*e+F*d*m*e):=by
  rw[key,e1,e2];have:A*(a*b*e-p)=(a*b*e)*A-p*A:=by grind
  omega
 have lp:0<=A*(a*b*e-p):=Int.mul_nonneg a0 (by omega);refine⟨⟨by simp only;omega,Int.mul_nonneg a0 q0,r0,wQG (wQG hm hm) e0⟩,by omega,?_⟩;have s1:=wQz low low lp (by omega);have s2:(A*A)*(q*q*r)<=(A*A)*((a*b*e-p)*(a*b*e-p)):=Int.mul_le_mul_of_nonneg_left q1 (zQ1 A);have s3:A*q*(A*q)*r=(A*A)*(q*q*r):=by grind
 have s4:A*(a*b*e-p)*(A*(a*b*e-p))=(A*A)*((a*b*e-p)*(a*b*e-p)):=by grind
 rw[s3];exact wZU s2 (by rw[<-s4];exact s1)
theorem zUc(hm:0<m)(hk:0<k):(2*(k*n)+k*m) / (2*(k*m))=(2*n+m) / (2*m):=by
 have e1:2*(k*n)+k*m=k*(2*n+m):=by grind
 have e2:2*(k*m)=k*(2*m):=by grind
 rw[e1,e2,Int.mul_ediv_mul_of_pos _ _ hk]
theorem jYU{op:Int}(hm:0<m)(h0:0<=s)(h1:s<=a)(h2:a<=m)(h3:0<=d)(h4:d<=b)(h5:b<=m):
  0<=colS op mode m s a d b/\colS op mode m s a d b<=zZK op a b m:=by
 have⟨ok,l1,l2⟩:=jJt (op:=op) (mode:=mode) hm h0 h1 h2 h3 h4 h5;have hd:=(zQQ (mode:=mode) h0 h1 h3 h4).ok.d;refine⟨Ex.half_nonneg ok,?_⟩;have:=Ex.half_le ok l1 l2;unfold colS zZK;rw[zJ5 hm];refine wZU this ?_;have e1:(valS op mode m s a d b).d=(m*(zQk mode s a d b).d)*m:=by simp only[valS];grind
 rw[e1];have e2:(zQk mode s a d b).d*m*(facA op a b m*a+facB op a b m*b)=(m*(zQk mode s a d b).d)*(facA op a b m*a+facB op a b m*b):=by grind
 rw[e2,zUc hm (wQG hm hd)];exact Int.le_refl _
theorem jKf{f c:Int}(hm:0<m)(h0:0<=s)(h1:s<=a)(h2:a<=f)(h2':f<=m)(h3:0<=d)(h4:d<=b)(h5:b<=m)(h6:0<=c)(h7:c<=A):
  let x:=knoX mode m s a f c d b
  let B:=(zQk mode s a d b).d*((m-f)*A+(f-a)*b+m*a)
  x.ok/\x.p<=B/\x.q*x.q*x.r<=(B-x.p)*(B-x.p):=by
 have hu:=zQQ (mode:=mode) h0 h1 h3 h4;simp only[knoX];generalize zQk mode s a d b=t at *;obtain⟨p,q,r,e⟩:=t;obtain⟨⟨p0,q0,r0,e0⟩,p1,q1⟩:=hu;simp only at *;have n1:=zQf (x:=m-f) (y:=c) (A:=m-f) (B:=A) (by omega) (Int.le_refl _) h6 h7;have n2:=zQf (x:=f-a) (y:=d) (A:=f-a) (B:=b) (by omega) (Int.le_refl _) h3 h4;have n3:=zQf (x:=m-b) (y:=s) (A:=m-b) (B:=a) (by omega) (Int.le_refl _) h0 h1;have n4:=zQf (x:=(m-f)*c+(f-a)*d+(m-b)*s) (y:=e) (A:=(m-f)*A+(f-a)*b+(m-b)*a) (B:=e) (by omega) (by omega) (by omega) (Int.le_refl _);have key:e*((m-f)*A+(f-a)*b+m*a)=a*b*e+((m-f)*A+(f-a)*b+(m-b)*a)*e:=by grind
 have low:a*b*e-p<=e*((m-f)*A+(f-a)*b+m*a)-(p+((m-f)*c+(f-a)*d+(m-b)*s)*e):=by omega
 refine⟨⟨by simp only;omega,q0,r0,wQG hm e0⟩,by omega,?_⟩;exact wZU q1 (wQz low low (by omega) (by omega))
theorem jYz{f c:Int}(hm:0<m)(h0:0<=s)(h1:s<=a)(h2:a<=f)(h2':f<=m)(h3:0<=d)(h4:d<=b)(h5:b<=m)(h6:0<=c)(h7:c<=A):
  0<=knoC mode m s a f c d b/\knoC mode m s a f c d b<=knoA m a f A b:=by
 have⟨ok,l1,l2⟩:=jKf (mode:=mode) hm h0 h1 h2 h2' h3 h4 h5 h6 h7;have hd:=(zQQ (mode:=mode) h0 h1 h3 h4).ok.d;refine⟨Ex.half_nonneg ok,?_⟩;have:=Ex.half_le ok l1 l2;unfold knoC knoA;rw[zJ5 hm];refine wZU this ?_;have e1:(knoX mode m s a f c d b).d=(zQk mode s a d b).d*m:=by simp only[knoX];grind
 rw[e1,zUc hm hd];exact Int.le_refl _
theorem jYA{f acc:Int}(hm:0<m)(h0:0<=a)(h1:a<=f)(h2:f<=m)(h3:0<=acc)(h4:acc<=m)(h5:0<=b)(h6:b<=m):0<=knoA m a f acc b/\knoA m a f acc b<=m:=by
 have n1:=zQf (x:=m-f) (y:=acc) (A:=m-f) (B:=m) (by omega) (Int.le_refl _) h3 h4;have n2:=zQf (x:=f-a) (y:=b) (A:=f-a) (B:=m) (by omega) (Int.le_refl _) h5 h6;have n3:=Int.mul_nonneg (show 0<=m by omega) h0;refine⟨zJi hm (by omega),zXz hm ?_⟩;have:m*m=(m-f)*m+(f-a)*m+m*a:=by grind
 omega
theorem jZq{op:Int}(hm:0<m)(h0:0<=a)(h1:a<=m)(h2:0<=b)(h3:b<=m):0<=zZK op a b m:=by
 have⟨⟨a0,a1⟩,b0,b1⟩:=jWY (op:=op) h0 h1 h2 h3;have:=Int.mul_nonneg a0 h0;have:=Int.mul_nonneg b0 h2;exact zJi hm (by omega)
theorem zYo{op f g:Int}(hm:0<m)(h0:0<=a)(h1:a<=f)(h2:f<=m)(h3:0<=b)(h4:b<=g)(h5:g<=m):zZK op a b m<=zXX op f g m/\zXX op f g m<=m:=by
 have n1:=zQf (x:=m-f) (y:=m-g) (A:=m) (B:=m) (by omega) (by omega) (by omega) (by omega);have n2:=zQf (x:=m-a) (y:=m-b) (A:=m) (B:=m) (by omega) (by omega) (by omega) (by omega);have n3:=zQf h0 h1 h3 h4;have n4:=Int.mul_nonneg (show 0<=f-a by omega) (show 0<=m-g by omega);have n5:=Int.mul_nonneg (show 0<=g-b by omega) (show 0<=m-a by omega);have n6:=Int.mul_nonneg h0 h3;have n7:=zQf (x:=f) (y:=g) (A:=f) (B:=m) (by omega) (Int.le_refl _) (by omega) h5;have e1:m*f+(m-f)*g=m*m-(m-f)*(m-g):=by grind
 have e2:m*f+(m-f)*g=m*a+(m-a)*b+(f-a)*(m-g)+(g-b)*(m-a):=by grind
 have cz:0<=m:=by omega
 unfold zZK zXX facA facB;by_cases c1:op=2
 .subst c1;simp only[if_true,true_or,if_pos];exact⟨zXz hm (by have:=Int.mul_le_mul_of_nonneg_left h1 cz;grind),h2⟩
 by_cases c2:op=3
 .subst c2;simp;exact⟨zXz hm (by have:=Int.mul_le_mul_of_nonneg_left h4 cz;grind),h5⟩
 by_cases c3:op=4
 .subst c3;simp;exact⟨zXm hm (by omega),zXz hm (by omega)⟩
 by_cases c4:op=5
 .subst c4;simp;exact⟨zXm hm (by grind),zXz hm (by omega)⟩
 by_cases c5:op=6
 .subst c5;simp;exact⟨zXm hm (by grind),zXz hm (by have:=Int.mul_le_mul_of_nonneg_right h2 (show 0<=m by omega);omega)⟩
 by_cases c6:op=7
 .subst c6;simp;exact⟨zXm hm (by grind),zXz hm (by have:=Int.mul_le_mul_of_nonneg_right h2 (show 0<=m by omega);omega)⟩
 by_cases c7:op=8
 .subst c7;simp;exact⟨zXz hm (by have:=Int.mul_le_mul_of_nonneg_left h1 cz;grind),h2⟩
 by_cases c8:op=9
 .subst c8;simp;exact⟨zXz hm (by have:=Int.mul_le_mul_of_nonneg_left h4 cz;grind),h5⟩
 by_cases c9:op=10
 .subst c9;simp;exact⟨zXz hm (by have:=Int.mul_le_mul_of_nonneg_left h4 cz;grind),h5⟩
 by_cases c10:op=11
 .subst c10;simp;exact⟨zXz hm (by have:=Int.mul_le_mul_of_nonneg_left h1 cz;grind),h2⟩
 by_cases c11:op=12
 .subst c11;simp;exact⟨zXm hm (by grind),zXz hm (by omega)⟩
 .simp only[if_neg c1,if_neg c2,if_neg c3,if_neg c4,if_neg c5,if_neg c6,if_neg c7,if_neg c8,if_neg c9,if_neg c10,if_neg c11,c1,c2,c3,c4,c5,c6,c7,c8,c9,c10,c11,or_self];simp[zZs];omega
def atS(l:List Int)(i:Int):Int:=if i<0 then 0 else(l[i.toNat]?).getD 0
def upto(n:Nat):List Int:=(List.range n).map Int.ofNat
theorem zUm(n:Nat):(upto n).length=n:=by simp[upto]
theorem jGd(n:Nat):upto (n+1)=upto n++[(n:Int)]:=by simp[upto,wZ2]
def stp(l:List Int)(n:Nat):Nat->List Int × List Int
 |0=>(upto n,[])
 |i+1=>
  let s:=stp l n i
  let k:=(modS (atS l i) s.1.length).toNat
  (s.1.take k++s.1.drop (k+1),s.2++[(s.1[k]?).getD 0])
theorem yZ6(l:List Int)(k:Nat):(is l).take k=is (l.take k):=by simp[is,List.map_take]
theorem yZ7(l:List Int)(k:Nat):(is l).drop k=is (l.drop k):=by simp[is,List.map_drop]
theorem zVW(l m:List Int):is l++is m=is (l++m):=by simp[is]
variable{k N:Nat}
theorem jHH(h:k<N):(is (upto k)++List.replicate (N-k) (DV.int .i64 0)).set k (.int .i64 k)=is (upto (k+1))++List.replicate (N-(k+1)) (DV.int .i64 0):=by
 have hl:(is (upto k)).length=k:=by rw[zQl,zUm]
 rw[List.set_append_right _ _ (by omega),hl,wZa,show N-k=(N-(k+1))+1 by omega,List.replicate_succ,wX1,jGd,<-zVW];simp[is]
def zKc(l:List Int)(n:Int):List Int:=if l.length=0\/64<n then[] else(stp l n.toNat n.toNat).2
variable{v:Int}
theorem jVO{m:Nat}(hm:1<=m)(hm':m<=1000000):0<=modS v m/\(modS v m).toNat<m:=by
 rw[jHc (by omega) (by omega)];have:=wZb v (show(m:Int)≠0 by omega);have:=wZc v (show 0<(m:Int) by omega);omega
theorem zGj(l:List Int){n:Nat}(hn:n<=64):∀i,i<=n->(stp l n i).1.length=n-i/\(stp l n i).2.length=i
 |0,_=>by simp[stp,zUm]
 |i+1,h=>by
  obtain⟨h1,h2⟩:=zGj l hn i (by omega);have hk:=jVO (v:=atS l i) (m:=(stp l n i).1.length) (by omega) (by omega);simp only[stp,wQe,wQl,wQF,wQC,wZr];omega
abbrev wXl:=@List.drop_eq_getElem_cons
theorem jWl(l:List Int){n:Nat}(hn:n<=64):∀i,i<=n->((stp l n i).2++(stp l n i).1).Perm (upto n)
 |0,_=>by simp[stp]
 |i+1,h=>by
  obtain⟨h1,h2⟩:=zGj l hn i (by omega);have hk:=jVO (v:=atS l i) (m:=(stp l n i).1.length) (by omega) (by omega);have ih:=jWl l hn i (by omega);simp only[stp];generalize (stp l n i).1=r at *;generalize (stp l n i).2=o at *;generalize (modS (atS l i) r.length).toNat=k at *;have e:r=r.take k++r[k]::r.drop (k+1):=by rw[<-wXl hk.2,wZJ]
  rw[List.getElem?_eq_getElem hk.2,wQA,List.append_assoc];refine List.Perm.trans ?_ ih;refine List.Perm.append_left o ?_
  conv=>rhs;rw[e]
  simp only[List.singleton_append];exact List.perm_middle.symm
theorem jUE{l:List Int}(h:l.length≠0)(hn:n<=64):(zKc l n).Perm (upto n.toNat):=by
 have h1:=jWl l (n:=n.toNat) (by omega) n.toNat (Nat.le_refl _);have h2:=zGj l (n:=n.toNat) (by omega) n.toNat (Nat.le_refl _);have e:(stp l n.toNat n.toNat).1=[]:=List.eq_nil_of_length_eq_zero (by omega);rw[e,wQ8]at h1;unfold zKc;rw[if_neg (by omega)];exact h1
def seqL(l:List Int)(n:Int):List Int:=if l.length=0 then upto n.toNat else l
def zV0(s:List Int)(n:Int):Prop:=(∀v∈s,0<=v/\v<n)/\s.Nodup
instance(s:List Int)(n:Int):Decidable (zV0 s n):=by unfold zV0;infer_instance
def zZ4(l:List Int)(n:Int):Bool:=decide (0<=n)&&decide (n<=16777216)&&(decide (l.length=0) || decide ((l.length:Int)=n))&&decide (zV0 (seqL l n) n)
def zXx(l:List Int)(n:Int):List Int:=if zZ4 l n then seqL l n else[]
def zKO(s:List Int)(N:Nat):List DV:=(List.range N).map λv=>.bool (s.contains (Int.ofNat v))
theorem zH9(s:List Int)(N:Nat):(zKO s N).length=N:=by simp[zKO]
theorem jWn(s:List Int)(h0:0<=v)(h1:v<N):(zKO s N)[v.toNat]?=some (.bool (s.contains v)):=by
 have e:Int.ofNat v.toNat=v:=by simp;omega
 simp only[zKO,wQY,wZ3 (show v.toNat<N by omega),wQv,e]
theorem jGz(s:List Int)(h0:0<=v)(h1:v<N):bAt (zKO s N) v.toNat=s.contains v:=by
 simp only[bAt,jWn s h0 h1]
theorem jGy(s:List Int)(h0:0<=v):(zKO s N).set v.toNat (.bool true)=zKO (s++[v]) N:=by
 apply wXa;intro i;rw[wYl];by_cases hi:i<N
 .simp only[zKO,wQD,wZD,wQY,wZ3 hi,wQv];by_cases e:v.toNat=i
  .have e2:Int.ofNat i=v:=by simp;omega
   rw[if_pos e,if_pos (by omega),e2];simp
  .have e2:¬Int.ofNat i=v:=by simp;omega
   rw[if_neg e];congr 2;rw[wQ4];simp only[List.contains_iff_mem,List.mem_append,wQr,e2,or_false]
 .have n1:∀t:List Int,(zKO t N)[i]?=none:=λt=>wQW (by rw[zH9];omega);rw[n1,n1];split
  .split
   .rw[zH9]at *;omega
   .rfl
  .rfl
variable{S:List Int}
theorem zVz(hk:k<S.length):S.take (k+1)=S.take k++[S[k]]:=by
 rw[wZm,List.getElem?_eq_getElem hk,wYw]
variable{m:Int}
theorem jHy(hk:k<S.length)(hg:zV0 (S.take k) m)(h0:0<=S[k])(h1:S[k]<m)(hc:(S.take k).contains S[k]=false):zV0 (S.take (k+1)) m:=by
 rw[zVz hk];refine⟨λv hv=>?_,?_⟩
 .rcases List.mem_append.1 hv with hv|hv
  .exact hg.1 v hv
  .rw[wQr.1 hv];exact⟨h0,h1⟩
 .rw[wYq];refine⟨hg.2,by simp,λa ha b hb e=>?_⟩;rw[wQr]at hb;subst hb e;have:(S.take k).contains S[k]=true:=by simpa using ha
  rw[hc]at this;cases this
theorem jH4(hk:k<S.length)(h:S[k]<0\/m<=S[k]\/(S.take k).contains S[k]=true):¬zV0 S m:=by
 rintro⟨g1,g2⟩;have:=g1 S[k] (List.getElem_mem hk)
 rcases h with h|h|h
 .omega
 .omega
 .have hm:S[k]∈S.take k:=by simpa using h
  have e:S=S.take (k+1)++S.drop (k+1):=(wZJ _ _).symm;rw[e,zVz hk,List.append_assoc,wYq]at g2;exact g2.2.2 _ hm _ (List.mem_append_left _ (wQr.2 rfl)) rfl
theorem jJ1(h0:0<=m)(hM:m<=16777216)(hS:S.length=m.toNat)(hk:k<S.length)(hg:zV0 (S.take k) m)(hv:v=S[k]){Bad:Prop}(hBad:¬zV0 S m->Bad):
  (¬v<0->(¬v>=m->(0<=v/\v<(m.toNat:Int))/\(zKO (S.take k) m.toNat)[v.toNat*1]?=some (.bool (bAt (zKO (S.take k) m.toNat) (v.toNat*1))) /\
   (bAt (zKO (S.take k) m.toNat) (v.toNat*1)=true->Bad) /\
   (bAt (zKO (S.take k) m.toNat) (v.toNat*1)=false->(0<=v/\v<(m.toNat:Int))/\v.toNat*1+1<=(zKO (S.take k) m.toNat).length/\zZQ 1 8 k 1 (is (S.take k)) [.int .i64 v] /\
    ∃k':Nat,(k'<=m.toNat/\zV0 (S.take k') m)/\m.toNat-k'<m.toNat-k/\(k+1=k'/\wrap .i64 ((k:Int)+1)=(k':Int))/\(zKO (S.take k) m.toNat).set (v.toNat*1) (.bool true)=zKO (S.take k') m.toNat/\is (S.take k)++[.int .i64 v]=is (S.take k'))) /\
   (v>=m->Bad))/\(v<0->Bad):=by
 subst hv;refine⟨λa=>⟨λb=>?_,λb=>hBad (jH4 hk (.inr (.inl b)))⟩,λa=>hBad (jH4 hk (.inl a))⟩;have hlt:S[k]<(m.toNat:Int):=by omega
 simp only[wQg,jGz (S.take k) (show 0<=S[k] by omega) hlt,jWn (S.take k) (show 0<=S[k] by omega) hlt,jGy (S.take k) (show 0<=S[k] by omega),zH9];refine⟨⟨by omega,hlt⟩,trivial,λc=>hBad (jH4 hk (.inr (.inr c))),λc=>⟨⟨by omega,hlt⟩,by omega,⟨?_,rfl,by unfold maxLen;omega,by omega⟩,k+1,⟨by omega,jHy hk hg (by omega) (by omega) c⟩,by omega,⟨rfl,?_⟩,by rw[zVz hk],by rw[zVz hk,<-zVW];rfl⟩⟩
 .rw[zQl,wQl];omega
 .rw[wQb _ (by omega)];omega
theorem jXY{l:List Int}(h:l.length=0\/(l.length:Int)=m):(seqL l m).length=m.toNat:=by
 unfold seqL;split
 .exact zUm _
 .rcases h with h|h<;>omega
theorem jYg{l:List Int}(h0:0<=m)(hM:m<=16777216)(h:l.length=0\/(l.length:Int)=m)(hg:zV0 (seqL l m) m):zZ4 l m=true/\zXx l m=seqL l m:=by
 have e:zZ4 l m=true:=by simp[zZ4,h0,hM,hg];rcases h with h|h<;>simp_all
 exact⟨e,by simp[zXx,e]⟩
theorem jJ2{l:List Int}(h:m<0\/16777216<m\/(l.length≠0/\(l.length:Int)≠m)\/¬zV0 (seqL l m) m):zZ4 l m=false/\zXx l m=[]:=by
 have e:zZ4 l m=false:=by
  cases ho:zZ4 l m with
  |false=>rfl
  |true=>
   simp only[zZ4,wQd,wQ0,wQf]at ho;obtain⟨⟨⟨a,b⟩,c⟩,d⟩:=ho
   rcases h with h|h|h|h
   .omega
   .omega
   .rcases c with c|c
    .exact absurd c h.1
    .exact absurd c h.2
   .exact absurd d h
 exact⟨e,by simp[zXx,e]⟩
def zV4(S:List Int)(k:Nat):List DV:=is (S.take k)++List.replicate (S.length-k) (DV.int .i64 0)
theorem zUY(h:k<=S.length):(zV4 S k).length=S.length:=by
 unfold zV4;rw[wQe,zQl,wQl,wXD];omega
theorem jKG(h:k<S.length)(hv:v=S[k]):(zV4 S k).set k (.int .i64 v)=zV4 S (k+1):=by
 subst hv;have hl:(is (S.take k)).length=k:=by rw[zQl,wQl];omega
 unfold zV4;rw[List.set_append_right _ _ (by omega),hl,wZa,show S.length-k=(S.length-(k+1))+1 by omega,List.replicate_succ,wX1,zVz h,<-zVW];simp[is]
theorem jYM(h:k<S.length):(zV4 S (k+1))[k]?=some (.int .i64 S[k]):=by
 unfold zV4;have hl:k<(S.take (k+1)).length:=by rw[wQl];omega
 rw[wQO (by rw[zQl];exact hl),jVT hl];simp
theorem jKH(h:k<S.length):nAt (zV4 S (k+1)) k=S[k]:=by simp only[nAt,jYM h]
theorem jKI(S:List Int):zV4 S S.length=is S:=by simp[zV4]
theorem jWR{n:Nat}(hn:xs.length=n)(hx:∀(j:Nat) d,xs[j]?=some d->∃v,d=.int .i64 v):xs=is (ints xs)/\n=xs.length:=by
 refine⟨?_,hn.symm⟩;clear hn
 induction xs with
 |nil=>rfl
 |cons x xs ih=>
  obtain⟨v,rfl⟩:=hx 0 _ rfl;have:=ih λj d hj=>hx (j+1) d hj;simp only[is,ints,wQi]at this |-;rw[<-this]
variable{n:Int}
theorem jQY(h:0<=n):zV0 (upto n.toNat) n:=by
 refine⟨λv hv=>?_,?_⟩
 .simp only[upto,wQw,wQy]at hv;obtain⟨i,hi,rfl⟩:=hv;simp;omega
 .exact List.Pairwise.map Int.ofNat (λa b hab e=>hab (Int.ofNat.inj e)) List.nodup_range
theorem jHz{s t:List Int}(hp:s.Perm t)(h:zV0 t n):zV0 s n:=
 ⟨λv hv=>h.1 v (hp.mem_iff.1 hv),hp.nodup_iff.2 h.2⟩
theorem yZZ{l:List Int}(h0:0<=n)(h1:n<=64):zZ4 (zKc l n) n=true/\zXx (zKc l n) n=seqL (zKc l n) n:=by
 by_cases hl:l.length=0
 .have e:zKc l n=[]:=by simp[zKc,hl]
  rw[e];exact jYg h0 (by omega) (.inl rfl) (by simpa [seqL]using jQY h0)
 .have hp:=jUE hl h1;have hlen:=hp.length_eq;rw[zUm]at hlen;refine jYg h0 (by omega) (.inr (by omega)) ?_;unfold seqL;split
  .exact jQY h0
  .exact jHz hp (jQY h0)
end Go.Proofs.YtbnmadpcdlnleaaGreatDoor
