/-
  Part 6 of what ScriptDecodeAgrees rests on.
-/
import Derived.Test.YtlnfgagmiogkgaaScriptDecodeAgreesZ5
import Derived.Test.YtlnfgagmiogkgaaScriptDecodeAgreesZ4
import Derived.Test.YtlnfgagmiogkgaaScriptDecodeAgreesZ2
import Derived.Test.YtlnfgagmiogkgaaRows
import Derived.JoinedOf
import Derived.KernelRfl
namespace Go.Proofs.Ytlnfgagmiogkgaa
open Go.RowKit
set_option linter.unusedVariables false
set_option linter.unusedSimpArgs false
attribute [local irreducible] Ans AnsO AnsG AnsN AnsI
set_option maxRecDepth 4000
structure Rr where
  l:List Int
  bad:Bool
theorem Rr.eta (r:Rr):(⟨r.l,r.bad⟩:Rr)=r:=rfl
def zXN (n:Nat) (r:Rr):Bool:=r.bad || decide (r.l.length < n)
def nmR (n:Nat) (r:Rr):Rr:=if zXN n r=true then ⟨r.l,true⟩ else ⟨r.l.drop n,false⟩
def nmV (n:Nat) (sg:Bool) (r:Rr):Int:=if zXN n r=true then 0 else if sg=true then sgV r.l else tkV n r.l
def r2 (k:Nat) (r:Rr):Rr:=match k with
  | 0=>r
  | k+1=>nmR 2 (r2 k r)
def pxVr (r:Rr):Px:=⟨nmV 2 false r,nmV 2 false (nmR 2 r),nmV 2 false (nmR 2 (nmR 2 r)),nmV 2 false (nmR 2 (nmR 2 (nmR 2 r))),nmV 2 false (nmR 2 (nmR 2 (nmR 2 (nmR 2 r))))⟩
def pxRr (r:Rr):Rr:=nmR 2 (nmR 2 (nmR 2 (nmR 2 (nmR 2 r))))
def oR0 (r:Rr):Rr:=r
def oR1 (r:Rr):Rr:=nmR 1 (oR0 r)
def oR2 (r:Rr):Rr:=nmR 1 (oR1 r)
def oR3 (r:Rr):Rr:=nmR 4 (oR2 r)
def oR4 (r:Rr):Rr:=nmR 4 (oR3 r)
def oR5 (r:Rr):Rr:=nmR 1 (oR4 r)
def oR6 (r:Rr):Rr:=nmR 4 (oR5 r)
def oR7 (r:Rr):Rr:=nmR 4 (oR6 r)
def oR8 (r:Rr):Rr:=nmR 2 (oR7 r)
def oR9 (r:Rr):Rr:=nmR 1 (oR8 r)
def oR10 (r:Rr):Rr:=nmR 1 (oR9 r)
def oR11 (r:Rr):Rr:=nmR 1 (oR10 r)
def opVr (r:Rr):Oq:=⟨(nmV 1 false (oR0 r)),(nmV 1 false (oR1 r)),(nmV 4 true (oR2 r)),(nmV 4 true (oR3 r)),(nmV 1 false (oR4 r)),(nmV 4 true (oR5 r)),(nmV 4 true (oR6 r)),(nmV 2 false (oR7 r)),(nmV 1 false (oR8 r)),(nmV 1 false (oR9 r)),decide ((nmV 1 false (oR10 r)) % 2=1),decide ((nmV 1 false (oR10 r)) / 2 % 2=1)⟩
def opRr (r:Rr):Rr:=oR11 r
theorem jVk {f:Int} (h:0≤f∧f < 256):((IntKind.wrap .i64 ((BitVec.ofInt 64 f &&& BitVec.ofInt 64 1).toNat:Int))==1)=decide (f % 2=1)∧((IntKind.wrap .i64 ((BitVec.ofInt 64 f &&& BitVec.ofInt 64 2).toNat:Int))==2)=decide (f / 2 % 2=1):=by
  obtain ⟨x,rfl⟩:=Int.eq_ofNat_of_zero_le h.1
  have e:(BitVec.ofInt 64 (x:Int)).toNat=x:=by rw [BitVec.toNat_ofInt]; omega
  have e1:(BitVec.ofInt 64 1).toNat=1:=by decide
  have e2:(BitVec.ofInt 64 2).toNat=2:=by decide
  have n2:x &&& 2=x / 2 % 2*2:=by
    have hx:x < 256:=by omega
    have all:∀ x:Fin 256,x.1 &&& 2=x.1 / 2 % 2*2:=by decide +kernel
    exact all ⟨x,hx⟩
  rw [BitVec.toNat_and,BitVec.toNat_and,e,e1,e2,Nat.and_one_is_mod,n2,IntWalk.i64_in _ ⟨by omega,by omega⟩,IntWalk.i64_in _ ⟨by omega,by omega⟩]
  refine ⟨?_,?_⟩
  · rw [Bool.eq_iff_iff,beq_iff_eq,decide_eq_true_eq]; omega
  · rw [Bool.eq_iff_iff,beq_iff_eq,decide_eq_true_eq]; omega
theorem zQG {n:Nat} {r:Rr} (h:isB r.l):isB (nmR n r).l:=by
  unfold nmR
  split
  · exact h
  · exact h.drop n
theorem zK0 {n:Nat} {r:Rr} (h:isB r.l):0≤nmV n false r∧nmV n false r < 256 ^ n:=by
  unfold nmV
  have h2:=zX5 h n
  split
  · exact ⟨by omega,by omega⟩
  · exact h2
theorem zJl {n:Nat} {l:List Int} (h:n≤l.length) (sg:Bool):nmR n ⟨l,false⟩=⟨l.drop n,false⟩∧nmV n sg ⟨l,false⟩=if sg=true then sgV l else tkV n l:=by
  have e:zXN n ⟨l,false⟩=false:=by simp [zXN]; omega
  unfold nmR nmV
  rw [e]
  exact ⟨rfl,rfl⟩
theorem jZr {n:Nat} {r:Rr} (h:(nmR n r).bad=false):r.bad=false∧n≤r.l.length:=by
  unfold nmR at h
  split at h
  · cases h
  · rename_i h2
    simp [zXN] at h2
    exact h2
theorem jXf {n:Nat} {r:Rr} (h:r.bad=true):nmR n r=r∧∀ sg,nmV n sg r=0:=by
  obtain ⟨l,b⟩:=r
  simp only at h
  subst h
  exact ⟨rfl,fun sg=>rfl⟩
theorem jYD {l:List Int} (h:10≤l.length):pxVr ⟨l,false⟩=rdPx l∧pxRr ⟨l,false⟩=⟨l.drop 10,false⟩:=by
  have g:=fun k (hk:k+2≤l.length)=>zJl (n:=2) (l:=l.drop k) (by rw [List.length_drop]; omega) false
  have g0:=g 0 (by omega)
  have g2:=g 2 (by omega)
  have g4:=g 4 (by omega)
  have g6:=g 6 (by omega)
  have g8:=g 8 (by omega)
  simp only [List.drop_drop,List.drop_zero,Nat.reduceAdd,Bool.false_eq_true,if_false] at g0 g2 g4 g6 g8
  unfold pxVr pxRr rdPx
  simp only [g0,g2,g4,g6,g8,List.drop_zero,and_self]
theorem jKK {l:List Int} (h:24≤l.length):opVr ⟨l,false⟩=rdOp l∧opRr ⟨l,false⟩=⟨l.drop 24,false⟩:=by
  have g:=fun n sg k (hk:k+n≤l.length)=>zJl (n:=n) (l:=l.drop k) (by rw [List.length_drop]; omega) sg
  have g0:=g 1 false 0 (by omega)
  have g1:=g 1 false 1 (by omega)
  have g2:=g 4 true 2 (by omega)
  have g3:=g 4 true 6 (by omega)
  have g4:=g 1 false 10 (by omega)
  have g5:=g 4 true 11 (by omega)
  have g6:=g 4 true 15 (by omega)
  have g7:=g 2 false 19 (by omega)
  have g8:=g 1 false 21 (by omega)
  have g9:=g 1 false 22 (by omega)
  have g10:=g 1 false 23 (by omega)
  simp only [List.drop_drop,List.drop_zero,Nat.reduceAdd,Bool.false_eq_true,if_false,if_true] at g0 g1 g2 g3 g4 g5 g6 g7 g8 g9 g10
  unfold opVr opRr rdOp
  simp only [oR0,oR1,oR2,oR3,oR4,oR5,oR6,oR7,oR8,oR9,oR10,oR11,g0,g1,g2,g3,g4,g5,g6,g7,g8,g9,g10,List.drop_zero,and_self]
theorem jVw {r:Rr} (h:(pxRr r).bad=false):r.bad=false∧10≤r.l.length:=by
  have g:∀ {q:Rr} {k:Nat},(nmR 2 q).bad=false∧k≤(nmR 2 q).l.length→q.bad=false∧k+2≤q.l.length:=fun {q k} ⟨h1,h2⟩=>by
    obtain ⟨h3,h4⟩:=jZr h1
    refine ⟨h3,?_⟩
    obtain ⟨l,b⟩:=q
    simp only at h3 h4 ⊢
    subst h3
    rw [(zJl h4 false).1] at h2
    simp only [List.length_drop] at h2
    omega
  exact g (g (g (g (g (k:=0) ⟨h,Nat.zero_le _⟩))))
theorem zXc {n:Nat} {q:Rr} {k:Nat} (h:(nmR n q).bad=false∧k≤(nmR n q).l.length):q.bad=false∧k+n≤q.l.length:=by
  obtain ⟨h1,h2⟩:=h
  obtain ⟨h3,h4⟩:=jZr h1
  refine ⟨h3,?_⟩
  obtain ⟨l,b⟩:=q
  simp only at h3 h4 ⊢
  subst h3
  rw [(zJl h4 false).1] at h2
  simp only [List.length_drop] at h2
  omega
theorem jVA {r:Rr} (h:(opRr r).bad=false):r.bad=false∧24≤r.l.length:=by
  have g0:(oR11 r).bad=false∧0≤(oR11 r).l.length:=⟨h,Nat.zero_le _⟩
  have g1:(oR10 r).bad=false∧_≤(oR10 r).l.length:=zXc g0
  have g2:(oR9 r).bad=false∧_≤(oR9 r).l.length:=zXc g1
  have g3:(oR8 r).bad=false∧_≤(oR8 r).l.length:=zXc g2
  have g4:(oR7 r).bad=false∧_≤(oR7 r).l.length:=zXc g3
  have g5:(oR6 r).bad=false∧_≤(oR6 r).l.length:=zXc g4
  have g6:(oR5 r).bad=false∧_≤(oR5 r).l.length:=zXc g5
  have g7:(oR4 r).bad=false∧_≤(oR4 r).l.length:=zXc g6
  have g8:(oR3 r).bad=false∧_≤(oR3 r).l.length:=zXc g7
  have g9:(oR2 r).bad=false∧_≤(oR2 r).l.length:=zXc g8
  have g10:(oR1 r).bad=false∧_≤(oR1 r).l.length:=zXc g9
  have g11:(oR0 r).bad=false∧_≤(oR0 r).l.length:=zXc g10
  exact g11
def jX0:Gam where
 pure:=fun f xs=>
  none
 modes:=fun f=>
  if f=47 then some ([false,true,true],1,0) else
  none
 proc:=fun f xs bs=>
  if f=47 then (match xs,bs with | [AV.one (Cl.ptr 0 0),AV.one (Cl.d (DV.int _ n)),AV.one (Cl.d (DV.bool sg))],[Bx.cells [Cl.d (DV.sl bn bxs),Cl.d (DV.bool bad)]]=>some ⟨aJ (((nmV n.toNat sg (⟨ints bxs,bad⟩:Rr)))),[bC [Cl.d (dS ((nmR n.toNat (⟨ints bxs,bad⟩:Rr)).l.length) (u8s (nmR n.toNat (⟨ints bxs,bad⟩:Rr)).l)),Cl.d (dQ ((nmR n.toNat (⟨ints bxs,bad⟩:Rr)).bad))]],false⟩ | _,_=>none) else
  none
 iter:=fun f cs=>
  none
def zX0 (r:Rr) (n:Int) (sg:Bool):Ann:=(Ann.seq Ann.leaf (Ann.seq Ann.leaf (Ann.seq Ann.leaf (Ann.seq (Ann.seq Ann.leaf (Ann.loop ⟨Nat,fun k=>k≤n.toNat∧zXN n.toNat r=false,fun k=>⟨[(0,aPz),(1,aJ ((n))),(2,AV.one (Cl.d (dQ sg))),(7,aJ (((tkV k r.l)))),(8,aJ (((k:Int))))],[(0,bC [Cl.d (dS r.l.length (u8s r.l)),Cl.d (dQ r.bad)])]⟩,fun k=>n.toNat - k⟩ fun k=>Ann.leaf)) Ann.leaf))))
theorem zVB (r:Rr) (n:Int) (sg:Bool):vcg Try.prog jX0 ⟨67,fun _=>false,List.range 1,false⟩ (zQl Try.f47) (zX0 r n sg) kn0 (zZq [AV.one (Cl.ptr 0 0),AV.one (Cl.d (DV.int .i64 n)),AV.one (Cl.d (DV.bool sg))] [Bx.cells [Cl.d (DV.sl r.l.length (u8s r.l)),Cl.d (DV.bool r.bad)]]) (zXg Try.prog ⟨67,fun _=>false,List.range 1,false⟩ Try.f47.results.toList ⟨AV.one (Cl.d (DV.int .i64 (nmV n.toNat sg r))),[Bx.cells [Cl.d (DV.sl ((nmR n.toNat r).l.length) (u8s (nmR n.toNat r).l)),Cl.d (DV.bool ((nmR n.toNat r).bad))]],false⟩) =
  (let zz0:=[dS ((nmR n.toNat r).l.length) (u8s (nmR n.toNat r).l),dQ ((nmR n.toNat r).bad)]; let zz1:=(((dJ 0=dJ (nmV n.toNat sg r))∧True)∧(([dS r.l.length (u8s r.l),dQ true]=zz0)∧True)); let zz2:=fun (k:Nat)=>(k≤n.toNat∧zXN n.toNat r=false); let zz3:=(dJ n=dJ n); let zz4:=[dS r.l.length (u8s r.l),dQ r.bad]; let zz5:=((zz4=zz4)∧True); let zz6:=(wK ((8:Int)*n)); let zz7:=(wK (zz6 - (1:Int))); let zz8:=(([dS (((r.l.length:Int) - n).toNat) (List.take (((r.l.length:Int) - n).toNat*1) (List.drop (n.toNat*1) (u8s r.l))),dQ r.bad]=zz0)∧True); let zz9:=fun (k:Nat)=>(((dJ (tkV k r.l)=dJ (nmV n.toNat sg r))∧True)∧zz8); tU6 (((r.bad=false→tU8 ((((decide ((r.l.length:Int) < n))=true→tU5 (zz1∧zQx ⟨aJ (((nmV n.toNat sg r))),[bC [Cl.d (dS ((nmR n.toNat r).l.length) (u8s (nmR n.toNat r).l)),Cl.d (dQ ((nmR n.toNat r).bad))]],false⟩))∧((decide ((r.l.length:Int) < n))=false→tU2 (((∃ k:Nat,(zz2 k)∧(((0=0)∧zz3∧(dQ sg=dQ sg)∧(dJ 0=dJ (tkV k r.l))∧(dJ 0=dJ (k:Int))∧True)∧zz5))∧∀ k:Nat,(zz2 k)→tU3 ((((decide ((k:Int) < n))=true→True∧(0≤(8:Int))∧tU5 ((0≤(k:Int)∧(k:Int) < (r.l.length:Int)∧(k:Int).toNat*1 < (u8s r.l).length)∧(((u8s r.l)[(k:Int).toNat*1]?=some (DV.int .u8 (nAt (u8s r.l) ((k:Int).toNat*1))))∧True)∧tU6 (∃ k':Nat,(k'≤n.toNat∧zXN n.toNat r=false)∧(n.toNat - k' < n.toNat - k)∧(((0=0)∧zz3∧(dQ sg=dQ sg)∧(dJ (wK (BitVec.ofInt 64 (wK ((tkV k r.l)*2 ^ min (8:Int).toNat 64)) ||| BitVec.ofInt 64 (wK (nAt (u8s r.l) ((k:Int).toNat*1)))).toNat)=dJ (tkV k' r.l))∧(dJ (wK ((k:Int)+(1:Int)))=dJ (k':Int))∧True)∧zz5))))∧((decide ((k:Int) < n))=false→tU6 ((0≤n∧n≤(r.l.length:Int)∧(r.l.length:Int)≤(r.l.length:Int))∧tU5 (((sg=true→tU5 ((0≤IntKind.wrap .u64 zz7)∧tU2 ((((decide ((tkV k r.l)≥(wK ((1:Int)*2 ^ min (IntKind.wrap .u64 zz7).toNat 64))))=true→tU4 ((0≤IntKind.wrap .u64 zz6)∧tU4 ((((dJ (wK ((tkV k r.l) - (wK ((1:Int)*2 ^ min (IntKind.wrap .u64 zz6).toNat 64))))=dJ (nmV n.toNat sg r))∧True)∧zz8)∧zQx ⟨aJ (((nmV n.toNat sg r))),[bC [Cl.d (dS ((nmR n.toNat r).l.length) (u8s (nmR n.toNat r).l)),Cl.d (dQ ((nmR n.toNat r).bad))]],false⟩)))∧((decide ((tkV k r.l)≥(wK ((1:Int)*2 ^ min (IntKind.wrap .u64 zz7).toNat 64))))=false→tU2 ((zz9 k)∧zQx ⟨aJ (((nmV n.toNat sg r))),[bC [Cl.d (dS ((nmR n.toNat r).l.length) (u8s (nmR n.toNat r).l)),Cl.d (dQ ((nmR n.toNat r).bad))]],false⟩))))))∧(sg=(!true)→tU3 ((zz9 k)∧zQx ⟨aJ (((nmV n.toNat sg r))),[bC [Cl.d (dS ((nmR n.toNat r).l.length) (u8s (nmR n.toNat r).l)),Cl.d (dQ ((nmR n.toNat r).bad))]],false⟩))))))))))))))∧(r.bad=(!false)→tU6 (zz1∧zQx ⟨aJ (((nmV n.toNat sg r))),[bC [Cl.d (dS ((nmR n.toNat r).l.length) (u8s (nmR n.toNat r).l)),Cl.d (dQ ((nmR n.toNat r).bad))]],false⟩))))):=by kernel_rfl
theorem zQC (r:Rr) (n:Int) (sg:Bool) (hn:1≤n∧n≤4) (hs:sg=true→n=4):AnsG Try.prog 47 1 [AV.one (Cl.ptr 0 0),AV.one (Cl.d (DV.int .i64 n)),AV.one (Cl.d (DV.bool sg))] [Bx.cells [Cl.d (DV.sl r.l.length (u8s r.l)),Cl.d (DV.bool r.bad)]] ⟨AV.one (Cl.d (DV.int .i64 (nmV n.toNat sg r))),[Bx.cells [Cl.d (DV.sl ((nmR n.toNat r).l.length) (u8s (nmR n.toNat r).l)),Cl.d (DV.bool ((nmR n.toNat r).bad))]],false⟩:=
  zQR (Γ:=jX0) (zX0 r n sg) zQq Try.func47 rfl (Nat.le_of_ble_eq_true rfl) rfl fun hwf hbx=>by
    refine Eq.mpr (zVB r n sg) ?_
    delta tU2 tU3 tU4 tU5 tU6 tU8 dJ dQ wK dS aJ bC
    simp only [true_and,and_true,RV.d.injEq,RV.agg.injEq,RV.tup.injEq,DV.bool.injEq,DV.int.injEq,DV.sl.injEq,List.cons.injEq,forall_const,Bool.not_false,Bool.not_true,Bool.not_eq_true',Bool.not_eq_false',decide_eq_true_eq,decide_eq_false_iff_not,Int.toNat_natCast]
    simp only [Bx.wfL,Bx.wf,Cl.wfs,DV.wf,maxLen] at hbx
    have hB:=zKg hbx.1.1.2
    obtain ⟨hn1,hn4⟩:=hn
    obtain ⟨N,rfl⟩:=Int.eq_ofNat_of_zero_le (by omega:0≤n)
    have hNN:(N:Int).toNat=N:=Int.toNat_natCast N
    simp only [zQZ,Rr.eta,hNN]
    have p64:(256:Int) ^ 4=4294967296:=by decide
    have short:zXN N r=true→nmV N sg r=0∧nmR N r=⟨r.l,true⟩:=fun h=>by unfold nmV nmR; rw [if_pos h,if_pos h]; exact ⟨rfl,rfl⟩
    have long:zXN N r=false→nmV N sg r=(if sg=true then sgV r.l else tkV N r.l)∧nmR N r=⟨r.l.drop N,false⟩:=fun h=>by unfold nmV nmR; rw [h]; exact ⟨rfl,rfl⟩
    have fr:∀ (a:Int) (b:Bool) (n:Nat) (l:List DV),zQx ⟨AV.one (Cl.d (DV.int .i64 a)),[Bx.cells [Cl.d (DV.sl n l),Cl.d (DV.bool b)]],false⟩:=fun _ _ _ _=>by simp [zQx]
    refine ⟨fun hb=>⟨fun hlt=>?_,fun hge=>⟨⟨0,⟨Nat.zero_le _,?_⟩,(zWw _).symm,rfl⟩,fun k hk=>⟨fun hlt=>?_,fun hge2=>?_⟩⟩⟩,fun hb=>?_⟩
    · have hs:zXN N r=true:=by unfold zXN; rw [decide_eq_true (by omega:r.l.length < N),Bool.or_true]
      rw [(short hs).1,(short hs).2]
      exact ⟨⟨rfl,⟨rfl,rfl⟩,rfl⟩,fr _ _ _ _⟩
    · unfold zXN
      rw [hb,decide_eq_false (by omega)]
      rfl
    · obtain ⟨k1,k2⟩:=hk
      have hkb:k < r.l.length:=by omega
      obtain ⟨q1,q2⟩:=jYi hkb
      have hc:=hB r.l[k] (List.getElem_mem hkb)
      have hv:=zGr hB k (by omega)
      have hv2:tkV k r.l < 4294967296:=by
        refine Int.lt_of_lt_of_le hv.2 ?_
        have hk4:k < 4:=by omega
        match k,hk4 with
        | 0,_ | 1,_ | 2,_ | 3,_=>decide
      have w1:IntKind.wrap .i64 ((k:Int)+1)=((k+1:Nat):Int):=by rw [IntWalk.i64_in _ ⟨by omega,by omega⟩]; omega
      simp only [Nat.mul_one,q2,w1]
      refine ⟨by omega,⟨by omega,by omega,by rw [zX4]; exact hkb⟩,q1,k+1,⟨by omega,k2⟩,by omega,?_,rfl⟩
      rw [or8I ⟨hv.1,hv2⟩ hc,zWx hkb]
    · obtain ⟨k1,k2⟩:=hk
      have:k=N:=by omega
      subst this
      obtain ⟨l1,l2⟩:=long k2
      have eL:((r.l.length:Int) - (k:Int)).toNat=r.l.length - k:=by omega
      have eD:(r.l.drop k).length=r.l.length - k:=List.length_drop
      have eT:List.take ((r.l.length - k)*1) (List.drop (k*1) (u8s r.l))=u8s (r.l.drop k):=by
        rw [Nat.mul_one,Nat.mul_one,zG4,zWv,List.take_of_length_le (by rw [List.length_drop]; omega)]
      rw [l1,l2,eL]
      have tl:(r.l.length - k=(r.l.drop k).length∧List.take ((r.l.length - k)*1) (List.drop (k*1) (u8s r.l))=u8s (r.l.drop k))∧r.bad=false:=⟨⟨eD.symm,eT⟩,hb⟩
      refine ⟨⟨by omega,by omega,by omega⟩,fun hsg=>?_,fun hsg=>?_⟩
      · have h4:k=4:=by have:=hs hsg; omega
        subst h4
        rw [if_pos hsg]
        have e1:IntKind.wrap .i64 (1*2 ^ min (IntKind.wrap .u64 (IntKind.wrap .i64 (IntKind.wrap .i64 (8*((4:Nat):Int)) - 1))).toNat 64)=2147483648:=by decide
        have e2:IntKind.wrap .i64 (1*2 ^ min (IntKind.wrap .u64 (IntKind.wrap .i64 (8*((4:Nat):Int)))).toNat 64)=4294967296:=by decide
        have val:=jQ5 hB
        have hv:=zWG hB
        rw [e1,e2]
        refine ⟨by decide,fun h=>⟨by decide,⟨?_,tl⟩,fr _ _ _ _⟩,fun h=>⟨⟨?_,tl⟩,fr _ _ _ _⟩⟩
        · rw [val,if_neg (by omega)]; exact IntWalk.i64_in _ ⟨by omega,by omega⟩
        · rw [val,if_pos (by omega)]
      · rw [if_neg (by rw [hsg]; decide)]
        exact ⟨⟨rfl,tl⟩,fr _ _ _ _⟩
    · have hs:zXN N r=true:=by unfold zXN; rw [hb,Bool.true_or]
      rw [(short hs).1,(short hs).2]
      exact ⟨⟨rfl,⟨rfl,rfl⟩,rfl⟩,fr _ _ _ _⟩
def zXD (r:Rr):Ann:=let zz0:=(2,bC [cK (0),cK (0),cK (0),cK (0),cK (0)]); let zz1:=(dK (IntKind.wrap .u16 (nmV 2 false (r2 0 r)))); let zz2:=(dK (IntKind.wrap .u16 (nmV 2 false (r2 1 r)))); let zz3:=(dK (IntKind.wrap .u16 (nmV 2 false (r2 2 r)))); let zz4:=(dK (IntKind.wrap .u16 (nmV 2 false (r2 3 r)))); (Ann.seq Ann.leaf (Ann.seq Ann.leaf (Ann.seq (Ann.seq Ann.leaf (Ann.link ⟨Unit,fun _u=>True,fun _u=>⟨[(0,aPz),(2,AV.one (Cl.ptr 2 0)),(3,AV.one (Cl.ptr 3 0)),(4,aJ ((0)))],[(0,bC [Cl.d (dS ((r2 0 r).l.length) (u8s (r2 0 r).l)),Cl.d (dQ ((r2 0 r).bad))]),zz0,(3,bC [cK (0),cK (0),cK (0),cK (0),cK (0)])]⟩,fun _u=>0⟩ (fun _u=>(Ann.seq (Ann.seq Ann.leaf (Ann.sure true Ann.leaf)) Ann.leaf)) (Ann.link ⟨Unit,fun _u=>True,fun _u=>⟨[(0,aPz),(2,AV.one (Cl.ptr 2 0)),(3,AV.one (Cl.ptr 3 0)),(4,aJ ((1)))],[(0,bC [Cl.d (dS ((r2 1 r).l.length) (u8s (r2 1 r).l)),Cl.d (dQ ((r2 1 r).bad))]),zz0,(3,bC [Cl.d zz1,cK (0),cK (0),cK (0),cK (0)])]⟩,fun _u=>0⟩ (fun _u=>(Ann.seq (Ann.seq Ann.leaf (Ann.sure true Ann.leaf)) Ann.leaf)) (Ann.link ⟨Unit,fun _u=>True,fun _u=>⟨[(0,aPz),(2,AV.one (Cl.ptr 2 0)),(3,AV.one (Cl.ptr 3 0)),(4,aJ ((2)))],[(0,bC [Cl.d (dS ((r2 2 r).l.length) (u8s (r2 2 r).l)),Cl.d (dQ ((r2 2 r).bad))]),zz0,(3,bC [Cl.d zz1,Cl.d zz2,cK (0),cK (0),cK (0)])]⟩,fun _u=>0⟩ (fun _u=>(Ann.seq (Ann.seq Ann.leaf (Ann.sure true Ann.leaf)) Ann.leaf)) (Ann.link ⟨Unit,fun _u=>True,fun _u=>⟨[(0,aPz),(2,AV.one (Cl.ptr 2 0)),(3,AV.one (Cl.ptr 3 0)),(4,aJ ((3)))],[(0,bC [Cl.d (dS ((r2 3 r).l.length) (u8s (r2 3 r).l)),Cl.d (dQ ((r2 3 r).bad))]),zz0,(3,bC [Cl.d zz1,Cl.d zz2,Cl.d zz3,cK (0),cK (0)])]⟩,fun _u=>0⟩ (fun _u=>(Ann.seq (Ann.seq Ann.leaf (Ann.sure true Ann.leaf)) Ann.leaf)) (Ann.link ⟨Unit,fun _u=>True,fun _u=>⟨[(0,aPz),(2,AV.one (Cl.ptr 2 0)),(3,AV.one (Cl.ptr 3 0)),(4,aJ ((4)))],[(0,bC [Cl.d (dS ((r2 4 r).l.length) (u8s (r2 4 r).l)),Cl.d (dQ ((r2 4 r).bad))]),zz0,(3,bC [Cl.d zz1,Cl.d zz2,Cl.d zz3,Cl.d zz4,cK (0)])]⟩,fun _u=>0⟩ (fun _u=>(Ann.seq (Ann.seq Ann.leaf (Ann.sure true Ann.leaf)) Ann.leaf)) (Ann.link ⟨Unit,fun _u=>True,fun _u=>⟨[(0,aPz),(2,AV.one (Cl.ptr 2 0)),(3,AV.one (Cl.ptr 3 0)),(4,aJ ((5)))],[(0,bC [Cl.d (dS ((r2 5 r).l.length) (u8s (r2 5 r).l)),Cl.d (dQ ((r2 5 r).bad))]),zz0,(3,bC [Cl.d zz1,Cl.d zz2,Cl.d zz3,Cl.d zz4,cK ((IntKind.wrap .u16 (nmV 2 false (r2 4 r))))])]⟩,fun _u=>0⟩ (fun _u=>(Ann.seq (Ann.seq Ann.leaf (Ann.sure false Ann.leaf)) Ann.leaf)) Ann.leaf))))))) Ann.leaf)))
theorem zKJ (r:Rr):vcg Try.prog jX0 ⟨26,fun _=>false,List.range 1,false⟩ (zQl Try.f77) (zXD r) kn0 (zZq [AV.one (Cl.ptr 0 0)] [Bx.cells [Cl.d (DV.sl r.l.length (u8s r.l)),Cl.d (DV.bool r.bad)]]) (zXg Try.prog ⟨26,fun _=>false,List.range 1,false⟩ Try.f77.results.toList ⟨AV.agg [Cl.d (DV.int .u16 ((pxVr r).a)),Cl.d (DV.int .u16 ((pxVr r).b)),Cl.d (DV.int .u16 ((pxVr r).c)),Cl.d (DV.int .u16 ((pxVr r).al)),Cl.d (DV.int .u16 ((pxVr r).f))],[Bx.cells [Cl.d (DV.sl ((pxRr r).l.length) (u8s (pxRr r).l)),Cl.d (DV.bool ((pxRr r).bad))]],false⟩) =
  (let zz0:=[dK 0,dK 0,dK 0,dK 0,dK 0]; let zz1:=(zz0=zz0); let zz2:=[aPz,aJ ((2)),AV.one (Cl.d (dQ false))]; let zz3:=(0≤(0:Int)∧(0:Int) < ((5:Nat):Int)); let zz4:=(IntKind.wrap .u16 (nmV 2 false (r2 0 r))); let zz5:=(0≤(1:Int)∧(1:Int) < ((5:Nat):Int)); let zz6:=(IntKind.wrap .u16 (nmV 2 false (r2 1 r))); let zz7:=(0≤(2:Int)∧(2:Int) < ((5:Nat):Int)); let zz8:=(IntKind.wrap .u16 (nmV 2 false (r2 2 r))); let zz9:=(0≤(3:Int)∧(3:Int) < ((5:Nat):Int)); let zz10:=(IntKind.wrap .u16 (nmV 2 false (r2 3 r))); let zz11:=(0≤(4:Int)∧(4:Int) < ((5:Nat):Int)); let zz12:=[dS ((r2 5 r).l.length) (u8s (r2 5 r).l),dQ ((r2 5 r).bad)]; let zz13:=[dK zz4,dK zz6,dK zz8,dK zz10,dK (IntKind.wrap .u16 (nmV 2 false (r2 4 r)))]; tU3 ((∃ _u:Unit,True∧(((0=0)∧(0=0)∧(0=0)∧(dJ 0=dJ 0)∧True)∧(([dS r.l.length (u8s r.l),dQ r.bad]=[dS ((r2 0 r).l.length) (u8s (r2 0 r).l),dQ ((r2 0 r).bad)])∧zz1∧(zz0=[dK 0,dK 0,dK 0,dK 0,dK 0])∧True)))∧((∀ _u:Unit,(True)→tU2 ((decide ((0:Int) < (5:Int))=true∧tU2 ((AnsG Try.prog 47 1 zz2 [bC [Cl.d (dS ((r2 0 r).l.length) (u8s (r2 0 r).l)),Cl.d (dQ ((r2 0 r).bad))]] ⟨aJ (((nmV 2 false (⟨iU ((r2 0 r).l),((r2 0 r).bad)⟩:Rr)))),[bC [Cl.d (dS ((nmR 2 (⟨iU ((r2 0 r).l),((r2 0 r).bad)⟩:Rr)).l.length) (u8s (nmR 2 (⟨iU ((r2 0 r).l),((r2 0 r).bad)⟩:Rr)).l)),Cl.d (dQ ((nmR 2 (⟨iU ((r2 0 r).l),((r2 0 r).bad)⟩:Rr)).bad))]],false⟩)∧True∧zz3∧tU4 (∃ _u:Unit,True∧(((0=0)∧(0=0)∧(0=0)∧(dJ (wK ((0:Int)+(1:Int)))=dJ 1)∧True)∧(([dS ((nmR 2 (⟨iU ((r2 0 r).l),((r2 0 r).bad)⟩:Rr)).l.length) (u8s (nmR 2 (⟨iU ((r2 0 r).l),((r2 0 r).bad)⟩:Rr)).l),dQ ((nmR 2 (⟨iU ((r2 0 r).l),((r2 0 r).bad)⟩:Rr)).bad)]=[dS ((r2 1 r).l.length) (u8s (r2 1 r).l),dQ ((r2 1 r).bad)])∧zz1∧([dK (IntKind.wrap .u16 (nmV 2 false (⟨iU ((r2 0 r).l),((r2 0 r).bad)⟩:Rr))),dK 0,dK 0,dK 0,dK 0]=[dK zz4,dK 0,dK 0,dK 0,dK 0])∧True)))))))∧(∀ _u:Unit,(True)→tU2 ((decide ((1:Int) < (5:Int))=true∧tU2 ((AnsG Try.prog 47 1 zz2 [bC [Cl.d (dS ((r2 1 r).l.length) (u8s (r2 1 r).l)),Cl.d (dQ ((r2 1 r).bad))]] ⟨aJ (((nmV 2 false (⟨iU ((r2 1 r).l),((r2 1 r).bad)⟩:Rr)))),[bC [Cl.d (dS ((nmR 2 (⟨iU ((r2 1 r).l),((r2 1 r).bad)⟩:Rr)).l.length) (u8s (nmR 2 (⟨iU ((r2 1 r).l),((r2 1 r).bad)⟩:Rr)).l)),Cl.d (dQ ((nmR 2 (⟨iU ((r2 1 r).l),((r2 1 r).bad)⟩:Rr)).bad))]],false⟩)∧True∧zz5∧tU4 (∃ _u:Unit,True∧(((0=0)∧(0=0)∧(0=0)∧(dJ (wK ((1:Int)+(1:Int)))=dJ 2)∧True)∧(([dS ((nmR 2 (⟨iU ((r2 1 r).l),((r2 1 r).bad)⟩:Rr)).l.length) (u8s (nmR 2 (⟨iU ((r2 1 r).l),((r2 1 r).bad)⟩:Rr)).l),dQ ((nmR 2 (⟨iU ((r2 1 r).l),((r2 1 r).bad)⟩:Rr)).bad)]=[dS ((r2 2 r).l.length) (u8s (r2 2 r).l),dQ ((r2 2 r).bad)])∧zz1∧([dK zz4,dK (IntKind.wrap .u16 (nmV 2 false (⟨iU ((r2 1 r).l),((r2 1 r).bad)⟩:Rr))),dK 0,dK 0,dK 0]=[dK zz4,dK zz6,dK 0,dK 0,dK 0])∧True)))))))∧(∀ _u:Unit,(True)→tU2 ((decide ((2:Int) < (5:Int))=true∧tU2 ((AnsG Try.prog 47 1 zz2 [bC [Cl.d (dS ((r2 2 r).l.length) (u8s (r2 2 r).l)),Cl.d (dQ ((r2 2 r).bad))]] ⟨aJ (((nmV 2 false (⟨iU ((r2 2 r).l),((r2 2 r).bad)⟩:Rr)))),[bC [Cl.d (dS ((nmR 2 (⟨iU ((r2 2 r).l),((r2 2 r).bad)⟩:Rr)).l.length) (u8s (nmR 2 (⟨iU ((r2 2 r).l),((r2 2 r).bad)⟩:Rr)).l)),Cl.d (dQ ((nmR 2 (⟨iU ((r2 2 r).l),((r2 2 r).bad)⟩:Rr)).bad))]],false⟩)∧True∧zz7∧tU4 (∃ _u:Unit,True∧(((0=0)∧(0=0)∧(0=0)∧(dJ (wK ((2:Int)+(1:Int)))=dJ 3)∧True)∧(([dS ((nmR 2 (⟨iU ((r2 2 r).l),((r2 2 r).bad)⟩:Rr)).l.length) (u8s (nmR 2 (⟨iU ((r2 2 r).l),((r2 2 r).bad)⟩:Rr)).l),dQ ((nmR 2 (⟨iU ((r2 2 r).l),((r2 2 r).bad)⟩:Rr)).bad)]=[dS ((r2 3 r).l.length) (u8s (r2 3 r).l),dQ ((r2 3 r).bad)])∧zz1∧([dK zz4,dK zz6,dK (IntKind.wrap .u16 (nmV 2 false (⟨iU ((r2 2 r).l),((r2 2 r).bad)⟩:Rr))),dK 0,dK 0]=[dK zz4,dK zz6,dK zz8,dK 0,dK 0])∧True)))))))∧(∀ _u:Unit,(True)→tU2 ((decide ((3:Int) < (5:Int))=true∧tU2 ((AnsG Try.prog 47 1 zz2 [bC [Cl.d (dS ((r2 3 r).l.length) (u8s (r2 3 r).l)),Cl.d (dQ ((r2 3 r).bad))]] ⟨aJ (((nmV 2 false (⟨iU ((r2 3 r).l),((r2 3 r).bad)⟩:Rr)))),[bC [Cl.d (dS ((nmR 2 (⟨iU ((r2 3 r).l),((r2 3 r).bad)⟩:Rr)).l.length) (u8s (nmR 2 (⟨iU ((r2 3 r).l),((r2 3 r).bad)⟩:Rr)).l)),Cl.d (dQ ((nmR 2 (⟨iU ((r2 3 r).l),((r2 3 r).bad)⟩:Rr)).bad))]],false⟩)∧True∧zz9∧tU4 (∃ _u:Unit,True∧(((0=0)∧(0=0)∧(0=0)∧(dJ (wK ((3:Int)+(1:Int)))=dJ 4)∧True)∧(([dS ((nmR 2 (⟨iU ((r2 3 r).l),((r2 3 r).bad)⟩:Rr)).l.length) (u8s (nmR 2 (⟨iU ((r2 3 r).l),((r2 3 r).bad)⟩:Rr)).l),dQ ((nmR 2 (⟨iU ((r2 3 r).l),((r2 3 r).bad)⟩:Rr)).bad)]=[dS ((r2 4 r).l.length) (u8s (r2 4 r).l),dQ ((r2 4 r).bad)])∧zz1∧([dK zz4,dK zz6,dK zz8,dK (IntKind.wrap .u16 (nmV 2 false (⟨iU ((r2 3 r).l),((r2 3 r).bad)⟩:Rr))),dK 0]=[dK zz4,dK zz6,dK zz8,dK zz10,dK 0])∧True)))))))∧(∀ _u:Unit,(True)→tU2 ((decide ((4:Int) < (5:Int))=true∧tU2 ((AnsG Try.prog 47 1 zz2 [bC [Cl.d (dS ((r2 4 r).l.length) (u8s (r2 4 r).l)),Cl.d (dQ ((r2 4 r).bad))]] ⟨aJ (((nmV 2 false (⟨iU ((r2 4 r).l),((r2 4 r).bad)⟩:Rr)))),[bC [Cl.d (dS ((nmR 2 (⟨iU ((r2 4 r).l),((r2 4 r).bad)⟩:Rr)).l.length) (u8s (nmR 2 (⟨iU ((r2 4 r).l),((r2 4 r).bad)⟩:Rr)).l)),Cl.d (dQ ((nmR 2 (⟨iU ((r2 4 r).l),((r2 4 r).bad)⟩:Rr)).bad))]],false⟩)∧True∧zz11∧tU4 (∃ _u:Unit,True∧(((0=0)∧(0=0)∧(0=0)∧(dJ (wK ((4:Int)+(1:Int)))=dJ 5)∧True)∧(([dS ((nmR 2 (⟨iU ((r2 4 r).l),((r2 4 r).bad)⟩:Rr)).l.length) (u8s (nmR 2 (⟨iU ((r2 4 r).l),((r2 4 r).bad)⟩:Rr)).l),dQ ((nmR 2 (⟨iU ((r2 4 r).l),((r2 4 r).bad)⟩:Rr)).bad)]=zz12)∧zz1∧([dK zz4,dK zz6,dK zz8,dK zz10,dK (IntKind.wrap .u16 (nmV 2 false (⟨iU ((r2 4 r).l),((r2 4 r).bad)⟩:Rr)))]=zz13)∧True)))))))∧(∀ _u:Unit,(True)→tU2 ((decide ((5:Int) < (5:Int))=false∧zz3∧True∧zz5∧True∧zz7∧tU2 (zz9∧True∧zz11∧tU3 ((((zz13=[dK ((pxVr r).a),dK ((pxVr r).b),dK ((pxVr r).c),dK ((pxVr r).al),dK ((pxVr r).f)])∧True)∧((zz12=[dS ((pxRr r).l.length) (u8s (pxRr r).l),dQ ((pxRr r).bad)])∧True))∧zQx ⟨AV.agg [cK (((pxVr r).a)),cK (((pxVr r).b)),cK (((pxVr r).c)),cK (((pxVr r).al)),cK (((pxVr r).f))],[bC [Cl.d (dS ((pxRr r).l.length) (u8s (pxRr r).l)),Cl.d (dQ ((pxRr r).bad))]],false⟩)))))∧True))):=by kernel_rfl
theorem zJ7 (r:Rr):AnsG Try.prog 77 1 [AV.one (Cl.ptr 0 0)] [Bx.cells [Cl.d (DV.sl r.l.length (u8s r.l)),Cl.d (DV.bool r.bad)]] ⟨AV.agg [Cl.d (DV.int .u16 ((pxVr r).a)),Cl.d (DV.int .u16 ((pxVr r).b)),Cl.d (DV.int .u16 ((pxVr r).c)),Cl.d (DV.int .u16 ((pxVr r).al)),Cl.d (DV.int .u16 ((pxVr r).f))],[Bx.cells [Cl.d (DV.sl ((pxRr r).l.length) (u8s (pxRr r).l)),Cl.d (DV.bool ((pxRr r).bad))]],false⟩:=
  zQR (Γ:=jX0) (zXD r) zQq Try.func77 rfl (Nat.le_of_ble_eq_true rfl) rfl fun hwf hbx=>by
    refine Eq.mpr (zKJ r) ?_
    delta tU2 tU3 tU4 dJ dK dQ cK wK dS aJ aPz bC iU
    simp only [true_and,and_true,RV.d.injEq,RV.agg.injEq,RV.tup.injEq,DV.bool.injEq,DV.int.injEq,DV.sl.injEq,List.cons.injEq,forall_const,Bool.not_false,Bool.not_true,Bool.not_eq_true',Bool.not_eq_false',decide_eq_true_eq,decide_eq_false_iff_not,Int.toNat_natCast]
    simp only [zQZ,Rr.eta]
    simp only [Bx.wfL,Bx.wf,Cl.wfs,DV.wf,maxLen] at hbx
    have hB:=zKg hbx.1.1.2
    have n:=fun q:Rr=>zQC q 2 false ⟨by omega,by omega⟩ (fun h=>by cases h)
    have w:∀ q:Rr,isB q.l→IntKind.wrap .u16 (nmV 2 false q)=nmV 2 false q:=fun q hq=>by
      have h1:=zK0 (n:=2) hq
      have h2:(256:Int) ^ 2=65536:=by decide
      exact IntWalk.u16_in _ ⟨by omega,by omega⟩
    have b1:isB (nmR 2 r).l:=zQG hB
    have b2:isB (nmR 2 (nmR 2 r)).l:=zQG b1
    have b3:isB (nmR 2 (nmR 2 (nmR 2 r))).l:=zQG b2
    have b4:isB (nmR 2 (nmR 2 (nmR 2 (nmR 2 r)))).l:=zQG b3
    have c:(0:Int) < ((5:Nat):Int):=by decide
    refine ⟨⟨(),⟨rfl,rfl⟩,rfl⟩,⟨by decide,n _,⟨by decide,by decide⟩,(),by decide,⟨⟨rfl,rfl⟩,rfl⟩,trivial⟩,⟨by decide,n _,⟨by decide,by decide⟩,(),by decide,⟨⟨rfl,rfl⟩,rfl⟩,trivial⟩,⟨by decide,n _,⟨by decide,by decide⟩,(),by decide,⟨⟨rfl,rfl⟩,rfl⟩,trivial⟩,⟨by decide,n _,⟨by decide,by decide⟩,(),by decide,⟨⟨rfl,rfl⟩,rfl⟩,trivial⟩,⟨by decide,n _,⟨by decide,by decide⟩,(),by decide,⟨⟨rfl,rfl⟩,rfl⟩,trivial⟩,by decide,⟨by decide,by decide⟩,⟨by decide,by decide⟩,⟨by decide,by decide⟩,⟨by decide,by decide⟩,⟨by decide,by decide⟩,⟨⟨w _ hB,w _ b1,w _ b2,w _ b3,w _ b4⟩,⟨rfl,rfl⟩,rfl⟩,by simp [zQx]⟩
def zYu (r:Rr):Ann:=let zz0:=[(0,aPz),(2,AV.one (Cl.ptr 2 0)),(3,AV.one (Cl.ptr 3 0))]; let zz1:=(2,bC [cJ (0),cJ (0),cJ (0),cJ (0),cJ (0),cJ (0),cJ (0),cK (0),cJ (0),cJ (0),Cl.d (dQ false),Cl.d (dQ false)]); let zz2:=(dJ (nmV 1 false (oR0 r))); let zz3:=(dJ (nmV 1 false (oR1 r))); let zz4:=(dJ (nmV 4 true (oR2 r))); let zz5:=(dJ (nmV 4 true (oR3 r))); let zz6:=(dJ (nmV 1 false (oR4 r))); let zz7:=(dJ (nmV 4 true (oR5 r))); let zz8:=(dJ (nmV 4 true (oR6 r))); let zz9:=(3,bC [Cl.d zz2,Cl.d zz3,Cl.d zz4,Cl.d zz5,Cl.d zz6,Cl.d zz7,Cl.d zz8,cK ((nmV 2 false (oR7 r))),cJ ((nmV 1 false (oR8 r))),cJ ((nmV 1 false (oR9 r))),Cl.d (dQ false),Cl.d (dQ false)]); (Ann.seq Ann.leaf (Ann.cut ⟨Rr,fun q4:Rr=>q4=oR4 r,fun q4:Rr=>⟨zz0,[(0,bC [Cl.d (dS ((q4).l.length) (u8s (q4).l)),Cl.d (dQ ((q4).bad))]),zz1,(3,bC [Cl.d zz2,Cl.d zz3,Cl.d zz4,Cl.d zz5,cJ (0),cJ (0),cJ (0),cK (0),cJ (0),cJ (0),Cl.d (dQ false),Cl.d (dQ false)])]⟩,fun q4:Rr=>0⟩ Ann.leaf fun q4=>(Ann.cut ⟨Rr,fun q7:Rr=>q7=oR7 r,fun q7:Rr=>⟨zz0,[(0,bC [Cl.d (dS ((q7).l.length) (u8s (q7).l)),Cl.d (dQ ((q7).bad))]),zz1,(3,bC [Cl.d zz2,Cl.d zz3,Cl.d zz4,Cl.d zz5,Cl.d zz6,Cl.d zz7,Cl.d zz8,cK (0),cJ (0),cJ (0),Cl.d (dQ false),Cl.d (dQ false)])]⟩,fun q7:Rr=>0⟩ Ann.leaf fun q7=>(Ann.cut ⟨Rr,fun q10:Rr=>q10=oR10 r,fun q10:Rr=>⟨zz0,[(0,bC [Cl.d (dS ((q10).l.length) (u8s (q10).l)),Cl.d (dQ ((q10).bad))]),zz1,zz9]⟩,fun q10:Rr=>0⟩ Ann.leaf fun q10=>(Ann.cut ⟨Rr,fun q11:Rr=>q11=oR11 r,fun q11:Rr=>⟨[(2,AV.one (Cl.ptr 2 0)),(3,AV.one (Cl.ptr 3 0)),(4,aJ (((nmV 1 false (oR10 r)))))],[zz1,zz9,(0,bC [Cl.d (dS ((q11).l.length) (u8s (q11).l)),Cl.d (dQ ((q11).bad))])]⟩,fun q11:Rr=>0⟩ Ann.leaf fun q11=>Ann.leaf)))))
theorem zWq (r:Rr):vcg Try.prog jX0 ⟨44,fun _=>false,List.range 1,false⟩ (zQl Try.f49) (zYu r) kn0 (zZq [AV.one (Cl.ptr 0 0)] [Bx.cells [Cl.d (DV.sl r.l.length (u8s r.l)),Cl.d (DV.bool r.bad)]]) (zXg Try.prog ⟨44,fun _=>false,List.range 1,false⟩ Try.f49.results.toList ⟨AV.agg [Cl.d (DV.int .i64 ((opVr r).kind)),Cl.d (DV.int .i64 ((opVr r).image)),Cl.d (DV.int .i64 ((opVr r).x)),Cl.d (DV.int .i64 ((opVr r).y)),Cl.d (DV.int .i64 ((opVr r).mask)),Cl.d (DV.int .i64 ((opVr r).mx)),Cl.d (DV.int .i64 ((opVr r).my)),Cl.d (DV.int .u16 ((opVr r).opac)),Cl.d (DV.int .i64 ((opVr r).oper)),Cl.d (DV.int .i64 ((opVr r).mode)),Cl.d (DV.bool ((opVr r).iso)),Cl.d (DV.bool ((opVr r).kno))],[Bx.cells [Cl.d (DV.sl ((opRr r).l.length) (u8s (opRr r).l)),Cl.d (DV.bool ((opRr r).bad))]],false⟩) =
  (let zz0:=[aPz,aJ ((1)),AV.one (Cl.d (dQ false))]; let zz1:=[bC [Cl.d (dS ((nmR 1 (⟨iU (r.l),r.bad⟩:Rr)).l.length) (u8s (nmR 1 (⟨iU (r.l),r.bad⟩:Rr)).l)),Cl.d (dQ ((nmR 1 (⟨iU (r.l),r.bad⟩:Rr)).bad))]]; let zz2:=[bC [Cl.d (dS ((nmR 1 (⟨iU ((nmR 1 (⟨iU (r.l),r.bad⟩:Rr)).l),((nmR 1 (⟨iU (r.l),r.bad⟩:Rr)).bad)⟩:Rr)).l.length) (u8s (nmR 1 (⟨iU ((nmR 1 (⟨iU (r.l),r.bad⟩:Rr)).l),((nmR 1 (⟨iU (r.l),r.bad⟩:Rr)).bad)⟩:Rr)).l)),Cl.d (dQ ((nmR 1 (⟨iU ((nmR 1 (⟨iU (r.l),r.bad⟩:Rr)).l),((nmR 1 (⟨iU (r.l),r.bad⟩:Rr)).bad)⟩:Rr)).bad))]]; let zz3:=[aPz,aJ ((4)),AV.one (Cl.d (dQ true))]; let zz4:=[bC [Cl.d (dS ((nmR 4 (⟨iU ((nmR 1 (⟨iU ((nmR 1 (⟨iU (r.l),r.bad⟩:Rr)).l),((nmR 1 (⟨iU (r.l),r.bad⟩:Rr)).bad)⟩:Rr)).l),((nmR 1 (⟨iU ((nmR 1 (⟨iU (r.l),r.bad⟩:Rr)).l),((nmR 1 (⟨iU (r.l),r.bad⟩:Rr)).bad)⟩:Rr)).bad)⟩:Rr)).l.length) (u8s (nmR 4 (⟨iU ((nmR 1 (⟨iU ((nmR 1 (⟨iU (r.l),r.bad⟩:Rr)).l),((nmR 1 (⟨iU (r.l),r.bad⟩:Rr)).bad)⟩:Rr)).l),((nmR 1 (⟨iU ((nmR 1 (⟨iU (r.l),r.bad⟩:Rr)).l),((nmR 1 (⟨iU (r.l),r.bad⟩:Rr)).bad)⟩:Rr)).bad)⟩:Rr)).l)),Cl.d (dQ ((nmR 4 (⟨iU ((nmR 1 (⟨iU ((nmR 1 (⟨iU (r.l),r.bad⟩:Rr)).l),((nmR 1 (⟨iU (r.l),r.bad⟩:Rr)).bad)⟩:Rr)).l),((nmR 1 (⟨iU ((nmR 1 (⟨iU (r.l),r.bad⟩:Rr)).l),((nmR 1 (⟨iU (r.l),r.bad⟩:Rr)).bad)⟩:Rr)).bad)⟩:Rr)).bad))]]; let zz5:=((0=0)∧(0=0)∧(0=0)∧True); let zz6:=[dJ 0,dJ 0,dJ 0,dJ 0,dJ 0,dJ 0,dJ 0,dK 0,dJ 0,dJ 0,dQ false,dQ false]; let zz7:=(zz6=zz6); let zz8:=fun (q4:Rr)=>[bC [Cl.d (dS ((nmR 1 (⟨iU ((q4).l),((q4).bad)⟩:Rr)).l.length) (u8s (nmR 1 (⟨iU ((q4).l),((q4).bad)⟩:Rr)).l)),Cl.d (dQ ((nmR 1 (⟨iU ((q4).l),((q4).bad)⟩:Rr)).bad))]]; let zz9:=fun (q4:Rr)=>[bC [Cl.d (dS ((nmR 4 (⟨iU ((nmR 1 (⟨iU ((q4).l),((q4).bad)⟩:Rr)).l),((nmR 1 (⟨iU ((q4).l),((q4).bad)⟩:Rr)).bad)⟩:Rr)).l.length) (u8s (nmR 4 (⟨iU ((nmR 1 (⟨iU ((q4).l),((q4).bad)⟩:Rr)).l),((nmR 1 (⟨iU ((q4).l),((q4).bad)⟩:Rr)).bad)⟩:Rr)).l)),Cl.d (dQ ((nmR 4 (⟨iU ((nmR 1 (⟨iU ((q4).l),((q4).bad)⟩:Rr)).l),((nmR 1 (⟨iU ((q4).l),((q4).bad)⟩:Rr)).bad)⟩:Rr)).bad))]]; let zz10:=fun (q7:Rr)=>[bC [Cl.d (dS ((nmR 2 (⟨iU ((q7).l),((q7).bad)⟩:Rr)).l.length) (u8s (nmR 2 (⟨iU ((q7).l),((q7).bad)⟩:Rr)).l)),Cl.d (dQ ((nmR 2 (⟨iU ((q7).l),((q7).bad)⟩:Rr)).bad))]]; let zz11:=fun (q7:Rr)=>[bC [Cl.d (dS ((nmR 1 (⟨iU ((nmR 2 (⟨iU ((q7).l),((q7).bad)⟩:Rr)).l),((nmR 2 (⟨iU ((q7).l),((q7).bad)⟩:Rr)).bad)⟩:Rr)).l.length) (u8s (nmR 1 (⟨iU ((nmR 2 (⟨iU ((q7).l),((q7).bad)⟩:Rr)).l),((nmR 2 (⟨iU ((q7).l),((q7).bad)⟩:Rr)).bad)⟩:Rr)).l)),Cl.d (dQ ((nmR 1 (⟨iU ((nmR 2 (⟨iU ((q7).l),((q7).bad)⟩:Rr)).l),((nmR 2 (⟨iU ((q7).l),((q7).bad)⟩:Rr)).bad)⟩:Rr)).bad))]]; let zz12:=[dJ (nmV 1 false (oR0 r)),dJ (nmV 1 false (oR1 r)),dJ (nmV 4 true (oR2 r)),dJ (nmV 4 true (oR3 r)),dJ (nmV 1 false (oR4 r)),dJ (nmV 4 true (oR5 r)),dJ (nmV 4 true (oR6 r)),dK (nmV 2 false (oR7 r)),dJ (nmV 1 false (oR8 r)),dJ (nmV 1 false (oR9 r)),dQ false,dQ false]; let zz13:=fun (q11:Rr)=>[dS ((q11).l.length) (u8s (q11).l),dQ ((q11).bad)]; True∧(True∧(AnsG Try.prog 47 1 zz0 [bC [Cl.d (dS r.l.length (u8s r.l)),Cl.d (dQ r.bad)]] ⟨aJ (((nmV 1 false (⟨iU (r.l),r.bad⟩:Rr)))),zz1,false⟩)∧True∧(AnsG Try.prog 47 1 zz0 zz1 ⟨aJ (((nmV 1 false (⟨iU ((nmR 1 (⟨iU (r.l),r.bad⟩:Rr)).l),((nmR 1 (⟨iU (r.l),r.bad⟩:Rr)).bad)⟩:Rr)))),zz2,false⟩)∧True∧(AnsG Try.prog 47 1 zz3 zz2 ⟨aJ (((nmV 4 true (⟨iU ((nmR 1 (⟨iU ((nmR 1 (⟨iU (r.l),r.bad⟩:Rr)).l),((nmR 1 (⟨iU (r.l),r.bad⟩:Rr)).bad)⟩:Rr)).l),((nmR 1 (⟨iU ((nmR 1 (⟨iU (r.l),r.bad⟩:Rr)).l),((nmR 1 (⟨iU (r.l),r.bad⟩:Rr)).bad)⟩:Rr)).bad)⟩:Rr)))),zz4,false⟩)∧True∧(AnsG Try.prog 47 1 zz3 zz4 ⟨aJ (((nmV 4 true (⟨iU ((nmR 4 (⟨iU ((nmR 1 (⟨iU ((nmR 1 (⟨iU (r.l),r.bad⟩:Rr)).l),((nmR 1 (⟨iU (r.l),r.bad⟩:Rr)).bad)⟩:Rr)).l),((nmR 1 (⟨iU ((nmR 1 (⟨iU (r.l),r.bad⟩:Rr)).l),((nmR 1 (⟨iU (r.l),r.bad⟩:Rr)).bad)⟩:Rr)).bad)⟩:Rr)).l),((nmR 4 (⟨iU ((nmR 1 (⟨iU ((nmR 1 (⟨iU (r.l),r.bad⟩:Rr)).l),((nmR 1 (⟨iU (r.l),r.bad⟩:Rr)).bad)⟩:Rr)).l),((nmR 1 (⟨iU ((nmR 1 (⟨iU (r.l),r.bad⟩:Rr)).l),((nmR 1 (⟨iU (r.l),r.bad⟩:Rr)).bad)⟩:Rr)).bad)⟩:Rr)).bad)⟩:Rr)))),[bC [Cl.d (dS ((nmR 4 (⟨iU ((nmR 4 (⟨iU ((nmR 1 (⟨iU ((nmR 1 (⟨iU (r.l),r.bad⟩:Rr)).l),((nmR 1 (⟨iU (r.l),r.bad⟩:Rr)).bad)⟩:Rr)).l),((nmR 1 (⟨iU ((nmR 1 (⟨iU (r.l),r.bad⟩:Rr)).l),((nmR 1 (⟨iU (r.l),r.bad⟩:Rr)).bad)⟩:Rr)).bad)⟩:Rr)).l),((nmR 4 (⟨iU ((nmR 1 (⟨iU ((nmR 1 (⟨iU (r.l),r.bad⟩:Rr)).l),((nmR 1 (⟨iU (r.l),r.bad⟩:Rr)).bad)⟩:Rr)).l),((nmR 1 (⟨iU ((nmR 1 (⟨iU (r.l),r.bad⟩:Rr)).l),((nmR 1 (⟨iU (r.l),r.bad⟩:Rr)).bad)⟩:Rr)).bad)⟩:Rr)).bad)⟩:Rr)).l.length) (u8s (nmR 4 (⟨iU ((nmR 4 (⟨iU ((nmR 1 (⟨iU ((nmR 1 (⟨iU (r.l),r.bad⟩:Rr)).l),((nmR 1 (⟨iU (r.l),r.bad⟩:Rr)).bad)⟩:Rr)).l),((nmR 1 (⟨iU ((nmR 1 (⟨iU (r.l),r.bad⟩:Rr)).l),((nmR 1 (⟨iU (r.l),r.bad⟩:Rr)).bad)⟩:Rr)).bad)⟩:Rr)).l),((nmR 4 (⟨iU ((nmR 1 (⟨iU ((nmR 1 (⟨iU (r.l),r.bad⟩:Rr)).l),((nmR 1 (⟨iU (r.l),r.bad⟩:Rr)).bad)⟩:Rr)).l),((nmR 1 (⟨iU ((nmR 1 (⟨iU (r.l),r.bad⟩:Rr)).l),((nmR 1 (⟨iU (r.l),r.bad⟩:Rr)).bad)⟩:Rr)).bad)⟩:Rr)).bad)⟩:Rr)).l)),Cl.d (dQ ((nmR 4 (⟨iU ((nmR 4 (⟨iU ((nmR 1 (⟨iU ((nmR 1 (⟨iU (r.l),r.bad⟩:Rr)).l),((nmR 1 (⟨iU (r.l),r.bad⟩:Rr)).bad)⟩:Rr)).l),((nmR 1 (⟨iU ((nmR 1 (⟨iU (r.l),r.bad⟩:Rr)).l),((nmR 1 (⟨iU (r.l),r.bad⟩:Rr)).bad)⟩:Rr)).bad)⟩:Rr)).l),((nmR 4 (⟨iU ((nmR 1 (⟨iU ((nmR 1 (⟨iU (r.l),r.bad⟩:Rr)).l),((nmR 1 (⟨iU (r.l),r.bad⟩:Rr)).bad)⟩:Rr)).l),((nmR 1 (⟨iU ((nmR 1 (⟨iU (r.l),r.bad⟩:Rr)).l),((nmR 1 (⟨iU (r.l),r.bad⟩:Rr)).bad)⟩:Rr)).bad)⟩:Rr)).bad)⟩:Rr)).bad))]],false⟩)∧tU3 (∃ q4:Rr,(q4=oR4 r)∧(zz5∧(([dS ((nmR 4 (⟨iU ((nmR 4 (⟨iU ((nmR 1 (⟨iU ((nmR 1 (⟨iU (r.l),r.bad⟩:Rr)).l),((nmR 1 (⟨iU (r.l),r.bad⟩:Rr)).bad)⟩:Rr)).l),((nmR 1 (⟨iU ((nmR 1 (⟨iU (r.l),r.bad⟩:Rr)).l),((nmR 1 (⟨iU (r.l),r.bad⟩:Rr)).bad)⟩:Rr)).bad)⟩:Rr)).l),((nmR 4 (⟨iU ((nmR 1 (⟨iU ((nmR 1 (⟨iU (r.l),r.bad⟩:Rr)).l),((nmR 1 (⟨iU (r.l),r.bad⟩:Rr)).bad)⟩:Rr)).l),((nmR 1 (⟨iU ((nmR 1 (⟨iU (r.l),r.bad⟩:Rr)).l),((nmR 1 (⟨iU (r.l),r.bad⟩:Rr)).bad)⟩:Rr)).bad)⟩:Rr)).bad)⟩:Rr)).l.length) (u8s (nmR 4 (⟨iU ((nmR 4 (⟨iU ((nmR 1 (⟨iU ((nmR 1 (⟨iU (r.l),r.bad⟩:Rr)).l),((nmR 1 (⟨iU (r.l),r.bad⟩:Rr)).bad)⟩:Rr)).l),((nmR 1 (⟨iU ((nmR 1 (⟨iU (r.l),r.bad⟩:Rr)).l),((nmR 1 (⟨iU (r.l),r.bad⟩:Rr)).bad)⟩:Rr)).bad)⟩:Rr)).l),((nmR 4 (⟨iU ((nmR 1 (⟨iU ((nmR 1 (⟨iU (r.l),r.bad⟩:Rr)).l),((nmR 1 (⟨iU (r.l),r.bad⟩:Rr)).bad)⟩:Rr)).l),((nmR 1 (⟨iU ((nmR 1 (⟨iU (r.l),r.bad⟩:Rr)).l),((nmR 1 (⟨iU (r.l),r.bad⟩:Rr)).bad)⟩:Rr)).bad)⟩:Rr)).bad)⟩:Rr)).l),dQ ((nmR 4 (⟨iU ((nmR 4 (⟨iU ((nmR 1 (⟨iU ((nmR 1 (⟨iU (r.l),r.bad⟩:Rr)).l),((nmR 1 (⟨iU (r.l),r.bad⟩:Rr)).bad)⟩:Rr)).l),((nmR 1 (⟨iU ((nmR 1 (⟨iU (r.l),r.bad⟩:Rr)).l),((nmR 1 (⟨iU (r.l),r.bad⟩:Rr)).bad)⟩:Rr)).bad)⟩:Rr)).l),((nmR 4 (⟨iU ((nmR 1 (⟨iU ((nmR 1 (⟨iU (r.l),r.bad⟩:Rr)).l),((nmR 1 (⟨iU (r.l),r.bad⟩:Rr)).bad)⟩:Rr)).l),((nmR 1 (⟨iU ((nmR 1 (⟨iU (r.l),r.bad⟩:Rr)).l),((nmR 1 (⟨iU (r.l),r.bad⟩:Rr)).bad)⟩:Rr)).bad)⟩:Rr)).bad)⟩:Rr)).bad)]=[dS ((q4).l.length) (u8s (q4).l),dQ ((q4).bad)])∧zz7∧([dJ (nmV 1 false (⟨iU (r.l),r.bad⟩:Rr)),dJ (nmV 1 false (⟨iU ((nmR 1 (⟨iU (r.l),r.bad⟩:Rr)).l),((nmR 1 (⟨iU (r.l),r.bad⟩:Rr)).bad)⟩:Rr)),dJ (nmV 4 true (⟨iU ((nmR 1 (⟨iU ((nmR 1 (⟨iU (r.l),r.bad⟩:Rr)).l),((nmR 1 (⟨iU (r.l),r.bad⟩:Rr)).bad)⟩:Rr)).l),((nmR 1 (⟨iU ((nmR 1 (⟨iU (r.l),r.bad⟩:Rr)).l),((nmR 1 (⟨iU (r.l),r.bad⟩:Rr)).bad)⟩:Rr)).bad)⟩:Rr)),dJ (nmV 4 true (⟨iU ((nmR 4 (⟨iU ((nmR 1 (⟨iU ((nmR 1 (⟨iU (r.l),r.bad⟩:Rr)).l),((nmR 1 (⟨iU (r.l),r.bad⟩:Rr)).bad)⟩:Rr)).l),((nmR 1 (⟨iU ((nmR 1 (⟨iU (r.l),r.bad⟩:Rr)).l),((nmR 1 (⟨iU (r.l),r.bad⟩:Rr)).bad)⟩:Rr)).bad)⟩:Rr)).l),((nmR 4 (⟨iU ((nmR 1 (⟨iU ((nmR 1 (⟨iU (r.l),r.bad⟩:Rr)).l),((nmR 1 (⟨iU (r.l),r.bad⟩:Rr)).bad)⟩:Rr)).l),((nmR 1 (⟨iU ((nmR 1 (⟨iU (r.l),r.bad⟩:Rr)).l),((nmR 1 (⟨iU (r.l),r.bad⟩:Rr)).bad)⟩:Rr)).bad)⟩:Rr)).bad)⟩:Rr)),dJ 0,dJ 0,dJ 0,dK 0,dJ 0,dJ 0,dQ false,dQ false]=[dJ (nmV 1 false (oR0 r)),dJ (nmV 1 false (oR1 r)),dJ (nmV 4 true (oR2 r)),dJ (nmV 4 true (oR3 r)),dJ 0,dJ 0,dJ 0,dK 0,dJ 0,dJ 0,dQ false,dQ false])∧True))))∧∀ q4:Rr,(q4=oR4 r)→(True∧(AnsG Try.prog 47 1 zz0 [bC [Cl.d (dS ((q4).l.length) (u8s (q4).l)),Cl.d (dQ ((q4).bad))]] ⟨aJ (((nmV 1 false (⟨iU ((q4).l),((q4).bad)⟩:Rr)))),(zz8 q4),false⟩)∧True∧(AnsG Try.prog 47 1 zz3 (zz8 q4) ⟨aJ (((nmV 4 true (⟨iU ((nmR 1 (⟨iU ((q4).l),((q4).bad)⟩:Rr)).l),((nmR 1 (⟨iU ((q4).l),((q4).bad)⟩:Rr)).bad)⟩:Rr)))),(zz9 q4),false⟩)∧True∧(AnsG Try.prog 47 1 zz3 (zz9 q4) ⟨aJ (((nmV 4 true (⟨iU ((nmR 4 (⟨iU ((nmR 1 (⟨iU ((q4).l),((q4).bad)⟩:Rr)).l),((nmR 1 (⟨iU ((q4).l),((q4).bad)⟩:Rr)).bad)⟩:Rr)).l),((nmR 4 (⟨iU ((nmR 1 (⟨iU ((q4).l),((q4).bad)⟩:Rr)).l),((nmR 1 (⟨iU ((q4).l),((q4).bad)⟩:Rr)).bad)⟩:Rr)).bad)⟩:Rr)))),[bC [Cl.d (dS ((nmR 4 (⟨iU ((nmR 4 (⟨iU ((nmR 1 (⟨iU ((q4).l),((q4).bad)⟩:Rr)).l),((nmR 1 (⟨iU ((q4).l),((q4).bad)⟩:Rr)).bad)⟩:Rr)).l),((nmR 4 (⟨iU ((nmR 1 (⟨iU ((q4).l),((q4).bad)⟩:Rr)).l),((nmR 1 (⟨iU ((q4).l),((q4).bad)⟩:Rr)).bad)⟩:Rr)).bad)⟩:Rr)).l.length) (u8s (nmR 4 (⟨iU ((nmR 4 (⟨iU ((nmR 1 (⟨iU ((q4).l),((q4).bad)⟩:Rr)).l),((nmR 1 (⟨iU ((q4).l),((q4).bad)⟩:Rr)).bad)⟩:Rr)).l),((nmR 4 (⟨iU ((nmR 1 (⟨iU ((q4).l),((q4).bad)⟩:Rr)).l),((nmR 1 (⟨iU ((q4).l),((q4).bad)⟩:Rr)).bad)⟩:Rr)).bad)⟩:Rr)).l)),Cl.d (dQ ((nmR 4 (⟨iU ((nmR 4 (⟨iU ((nmR 1 (⟨iU ((q4).l),((q4).bad)⟩:Rr)).l),((nmR 1 (⟨iU ((q4).l),((q4).bad)⟩:Rr)).bad)⟩:Rr)).l),((nmR 4 (⟨iU ((nmR 1 (⟨iU ((q4).l),((q4).bad)⟩:Rr)).l),((nmR 1 (⟨iU ((q4).l),((q4).bad)⟩:Rr)).bad)⟩:Rr)).bad)⟩:Rr)).bad))]],false⟩)∧tU6 (∃ q7:Rr,(q7=oR7 r)∧(zz5∧(([dS ((nmR 4 (⟨iU ((nmR 4 (⟨iU ((nmR 1 (⟨iU ((q4).l),((q4).bad)⟩:Rr)).l),((nmR 1 (⟨iU ((q4).l),((q4).bad)⟩:Rr)).bad)⟩:Rr)).l),((nmR 4 (⟨iU ((nmR 1 (⟨iU ((q4).l),((q4).bad)⟩:Rr)).l),((nmR 1 (⟨iU ((q4).l),((q4).bad)⟩:Rr)).bad)⟩:Rr)).bad)⟩:Rr)).l.length) (u8s (nmR 4 (⟨iU ((nmR 4 (⟨iU ((nmR 1 (⟨iU ((q4).l),((q4).bad)⟩:Rr)).l),((nmR 1 (⟨iU ((q4).l),((q4).bad)⟩:Rr)).bad)⟩:Rr)).l),((nmR 4 (⟨iU ((nmR 1 (⟨iU ((q4).l),((q4).bad)⟩:Rr)).l),((nmR 1 (⟨iU ((q4).l),((q4).bad)⟩:Rr)).bad)⟩:Rr)).bad)⟩:Rr)).l),dQ ((nmR 4 (⟨iU ((nmR 4 (⟨iU ((nmR 1 (⟨iU ((q4).l),((q4).bad)⟩:Rr)).l),((nmR 1 (⟨iU ((q4).l),((q4).bad)⟩:Rr)).bad)⟩:Rr)).l),((nmR 4 (⟨iU ((nmR 1 (⟨iU ((q4).l),((q4).bad)⟩:Rr)).l),((nmR 1 (⟨iU ((q4).l),((q4).bad)⟩:Rr)).bad)⟩:Rr)).bad)⟩:Rr)).bad)]=[dS ((q7).l.length) (u8s (q7).l),dQ ((q7).bad)])∧zz7∧([dJ (nmV 1 false (oR0 r)),dJ (nmV 1 false (oR1 r)),dJ (nmV 4 true (oR2 r)),dJ (nmV 4 true (oR3 r)),dJ (nmV 1 false (⟨iU ((q4).l),((q4).bad)⟩:Rr)),dJ (nmV 4 true (⟨iU ((nmR 1 (⟨iU ((q4).l),((q4).bad)⟩:Rr)).l),((nmR 1 (⟨iU ((q4).l),((q4).bad)⟩:Rr)).bad)⟩:Rr)),dJ (nmV 4 true (⟨iU ((nmR 4 (⟨iU ((nmR 1 (⟨iU ((q4).l),((q4).bad)⟩:Rr)).l),((nmR 1 (⟨iU ((q4).l),((q4).bad)⟩:Rr)).bad)⟩:Rr)).l),((nmR 4 (⟨iU ((nmR 1 (⟨iU ((q4).l),((q4).bad)⟩:Rr)).l),((nmR 1 (⟨iU ((q4).l),((q4).bad)⟩:Rr)).bad)⟩:Rr)).bad)⟩:Rr)),dK 0,dJ 0,dJ 0,dQ false,dQ false]=[dJ (nmV 1 false (oR0 r)),dJ (nmV 1 false (oR1 r)),dJ (nmV 4 true (oR2 r)),dJ (nmV 4 true (oR3 r)),dJ (nmV 1 false (oR4 r)),dJ (nmV 4 true (oR5 r)),dJ (nmV 4 true (oR6 r)),dK 0,dJ 0,dJ 0,dQ false,dQ false])∧True))))∧∀ q7:Rr,(q7=oR7 r)→(True∧(AnsG Try.prog 47 1 [aPz,aJ ((2)),AV.one (Cl.d (dQ false))] [bC [Cl.d (dS ((q7).l.length) (u8s (q7).l)),Cl.d (dQ ((q7).bad))]] ⟨aJ (((nmV 2 false (⟨iU ((q7).l),((q7).bad)⟩:Rr)))),(zz10 q7),false⟩)∧tU2 ((AnsG Try.prog 47 1 zz0 (zz10 q7) ⟨aJ (((nmV 1 false (⟨iU ((nmR 2 (⟨iU ((q7).l),((q7).bad)⟩:Rr)).l),((nmR 2 (⟨iU ((q7).l),((q7).bad)⟩:Rr)).bad)⟩:Rr)))),(zz11 q7),false⟩)∧True∧(AnsG Try.prog 47 1 zz0 (zz11 q7) ⟨aJ (((nmV 1 false (⟨iU ((nmR 1 (⟨iU ((nmR 2 (⟨iU ((q7).l),((q7).bad)⟩:Rr)).l),((nmR 2 (⟨iU ((q7).l),((q7).bad)⟩:Rr)).bad)⟩:Rr)).l),((nmR 1 (⟨iU ((nmR 2 (⟨iU ((q7).l),((q7).bad)⟩:Rr)).l),((nmR 2 (⟨iU ((q7).l),((q7).bad)⟩:Rr)).bad)⟩:Rr)).bad)⟩:Rr)))),[bC [Cl.d (dS ((nmR 1 (⟨iU ((nmR 1 (⟨iU ((nmR 2 (⟨iU ((q7).l),((q7).bad)⟩:Rr)).l),((nmR 2 (⟨iU ((q7).l),((q7).bad)⟩:Rr)).bad)⟩:Rr)).l),((nmR 1 (⟨iU ((nmR 2 (⟨iU ((q7).l),((q7).bad)⟩:Rr)).l),((nmR 2 (⟨iU ((q7).l),((q7).bad)⟩:Rr)).bad)⟩:Rr)).bad)⟩:Rr)).l.length) (u8s (nmR 1 (⟨iU ((nmR 1 (⟨iU ((nmR 2 (⟨iU ((q7).l),((q7).bad)⟩:Rr)).l),((nmR 2 (⟨iU ((q7).l),((q7).bad)⟩:Rr)).bad)⟩:Rr)).l),((nmR 1 (⟨iU ((nmR 2 (⟨iU ((q7).l),((q7).bad)⟩:Rr)).l),((nmR 2 (⟨iU ((q7).l),((q7).bad)⟩:Rr)).bad)⟩:Rr)).bad)⟩:Rr)).l)),Cl.d (dQ ((nmR 1 (⟨iU ((nmR 1 (⟨iU ((nmR 2 (⟨iU ((q7).l),((q7).bad)⟩:Rr)).l),((nmR 2 (⟨iU ((q7).l),((q7).bad)⟩:Rr)).bad)⟩:Rr)).l),((nmR 1 (⟨iU ((nmR 2 (⟨iU ((q7).l),((q7).bad)⟩:Rr)).l),((nmR 2 (⟨iU ((q7).l),((q7).bad)⟩:Rr)).bad)⟩:Rr)).bad)⟩:Rr)).bad))]],false⟩)∧tU6 (∃ q10:Rr,(q10=oR10 r)∧(zz5∧(([dS ((nmR 1 (⟨iU ((nmR 1 (⟨iU ((nmR 2 (⟨iU ((q7).l),((q7).bad)⟩:Rr)).l),((nmR 2 (⟨iU ((q7).l),((q7).bad)⟩:Rr)).bad)⟩:Rr)).l),((nmR 1 (⟨iU ((nmR 2 (⟨iU ((q7).l),((q7).bad)⟩:Rr)).l),((nmR 2 (⟨iU ((q7).l),((q7).bad)⟩:Rr)).bad)⟩:Rr)).bad)⟩:Rr)).l.length) (u8s (nmR 1 (⟨iU ((nmR 1 (⟨iU ((nmR 2 (⟨iU ((q7).l),((q7).bad)⟩:Rr)).l),((nmR 2 (⟨iU ((q7).l),((q7).bad)⟩:Rr)).bad)⟩:Rr)).l),((nmR 1 (⟨iU ((nmR 2 (⟨iU ((q7).l),((q7).bad)⟩:Rr)).l),((nmR 2 (⟨iU ((q7).l),((q7).bad)⟩:Rr)).bad)⟩:Rr)).bad)⟩:Rr)).l),dQ ((nmR 1 (⟨iU ((nmR 1 (⟨iU ((nmR 2 (⟨iU ((q7).l),((q7).bad)⟩:Rr)).l),((nmR 2 (⟨iU ((q7).l),((q7).bad)⟩:Rr)).bad)⟩:Rr)).l),((nmR 1 (⟨iU ((nmR 2 (⟨iU ((q7).l),((q7).bad)⟩:Rr)).l),((nmR 2 (⟨iU ((q7).l),((q7).bad)⟩:Rr)).bad)⟩:Rr)).bad)⟩:Rr)).bad)]=[dS ((q10).l.length) (u8s (q10).l),dQ ((q10).bad)])∧zz7∧([dJ (nmV 1 false (oR0 r)),dJ (nmV 1 false (oR1 r)),dJ (nmV 4 true (oR2 r)),dJ (nmV 4 true (oR3 r)),dJ (nmV 1 false (oR4 r)),dJ (nmV 4 true (oR5 r)),dJ (nmV 4 true (oR6 r)),dK (IntKind.wrap .u16 (nmV 2 false (⟨iU ((q7).l),((q7).bad)⟩:Rr))),dJ (nmV 1 false (⟨iU ((nmR 2 (⟨iU ((q7).l),((q7).bad)⟩:Rr)).l),((nmR 2 (⟨iU ((q7).l),((q7).bad)⟩:Rr)).bad)⟩:Rr)),dJ (nmV 1 false (⟨iU ((nmR 1 (⟨iU ((nmR 2 (⟨iU ((q7).l),((q7).bad)⟩:Rr)).l),((nmR 2 (⟨iU ((q7).l),((q7).bad)⟩:Rr)).bad)⟩:Rr)).l),((nmR 1 (⟨iU ((nmR 2 (⟨iU ((q7).l),((q7).bad)⟩:Rr)).l),((nmR 2 (⟨iU ((q7).l),((q7).bad)⟩:Rr)).bad)⟩:Rr)).bad)⟩:Rr)),dQ false,dQ false]=zz12)∧True)))))∧∀ q10:Rr,(q10=oR10 r)→(True∧(AnsG Try.prog 47 1 zz0 [bC [Cl.d (dS ((q10).l.length) (u8s (q10).l)),Cl.d (dQ ((q10).bad))]] ⟨aJ (((nmV 1 false (⟨iU ((q10).l),((q10).bad)⟩:Rr)))),[bC [Cl.d (dS ((nmR 1 (⟨iU ((q10).l),((q10).bad)⟩:Rr)).l.length) (u8s (nmR 1 (⟨iU ((q10).l),((q10).bad)⟩:Rr)).l)),Cl.d (dQ ((nmR 1 (⟨iU ((q10).l),((q10).bad)⟩:Rr)).bad))]],false⟩)∧True∧∃ q11:Rr,(q11=oR11 r)∧(((0=0)∧(0=0)∧(dJ (nmV 1 false (⟨iU ((q10).l),((q10).bad)⟩:Rr))=dJ (nmV 1 false (oR10 r)))∧True)∧(zz7∧(zz12=zz12)∧([dS ((nmR 1 (⟨iU ((q10).l),((q10).bad)⟩:Rr)).l.length) (u8s (nmR 1 (⟨iU ((q10).l),((q10).bad)⟩:Rr)).l),dQ ((nmR 1 (⟨iU ((q10).l),((q10).bad)⟩:Rr)).bad)]=(zz13 q11))∧True)))∧∀ q11:Rr,(q11=oR11 r)→tU4 (tU8 (((([dJ (nmV 1 false (oR0 r)),dJ (nmV 1 false (oR1 r)),dJ (nmV 4 true (oR2 r)),dJ (nmV 4 true (oR3 r)),dJ (nmV 1 false (oR4 r)),dJ (nmV 4 true (oR5 r)),dJ (nmV 4 true (oR6 r)),dK (nmV 2 false (oR7 r)),dJ (nmV 1 false (oR8 r)),dJ (nmV 1 false (oR9 r)),dQ ((wK (BitVec.ofInt 64 (nmV 1 false (oR10 r)) &&& BitVec.ofInt 64 (1:Int)).toNat)==(1:Int)),dQ ((wK (BitVec.ofInt 64 (nmV 1 false (oR10 r)) &&& BitVec.ofInt 64 (2:Int)).toNat)==(2:Int))]=(Oq.cells (opVr r)))∧True)∧(((zz13 q11)=[dS ((opRr r).l.length) (u8s (opRr r).l),dQ ((opRr r).bad)])∧True))∧zQx ⟨AV.agg [cJ (((opVr r).kind)),cJ (((opVr r).image)),cJ (((opVr r).x)),cJ (((opVr r).y)),cJ (((opVr r).mask)),cJ (((opVr r).mx)),cJ (((opVr r).my)),cK (((opVr r).opac)),cJ (((opVr r).oper)),cJ (((opVr r).mode)),Cl.d (dQ ((opVr r).iso)),Cl.d (dQ ((opVr r).kno))],[bC [Cl.d (dS ((opRr r).l.length) (u8s (opRr r).l)),Cl.d (dQ ((opRr r).bad))]],false⟩))):=by kernel_rfl
theorem zVA (r:Rr):AnsG Try.prog 49 1 [AV.one (Cl.ptr 0 0)] [Bx.cells [Cl.d (DV.sl r.l.length (u8s r.l)),Cl.d (DV.bool r.bad)]] ⟨AV.agg [Cl.d (DV.int .i64 ((opVr r).kind)),Cl.d (DV.int .i64 ((opVr r).image)),Cl.d (DV.int .i64 ((opVr r).x)),Cl.d (DV.int .i64 ((opVr r).y)),Cl.d (DV.int .i64 ((opVr r).mask)),Cl.d (DV.int .i64 ((opVr r).mx)),Cl.d (DV.int .i64 ((opVr r).my)),Cl.d (DV.int .u16 ((opVr r).opac)),Cl.d (DV.int .i64 ((opVr r).oper)),Cl.d (DV.int .i64 ((opVr r).mode)),Cl.d (DV.bool ((opVr r).iso)),Cl.d (DV.bool ((opVr r).kno))],[Bx.cells [Cl.d (DV.sl ((opRr r).l.length) (u8s (opRr r).l)),Cl.d (DV.bool ((opRr r).bad))]],false⟩:=
  zQR (Γ:=jX0) (zYu r) zQq Try.func49 rfl (Nat.le_of_ble_eq_true rfl) rfl fun hwf hbx=>by
    refine Eq.mpr (zWq r) ?_
    delta tU2 tU3 tU4 tU6 tU8 dJ dK dQ cJ cK wK dS aJ aPz bC iU
    simp only [true_and,and_true,RV.d.injEq,RV.agg.injEq,RV.tup.injEq,DV.bool.injEq,DV.int.injEq,DV.sl.injEq,List.cons.injEq,forall_const,Bool.not_false,Bool.not_true,Bool.not_eq_true',Bool.not_eq_false',decide_eq_true_eq,decide_eq_false_iff_not,Int.toNat_natCast]
    simp only [zQZ,Rr.eta]
    simp only [Bx.wfL,Bx.wf,Cl.wfs,DV.wf,maxLen] at hbx
    have hB:=zKg hbx.1.1.2
    have n1:=fun q:Rr=>zQC q 1 false ⟨by omega,by omega⟩ (fun h=>by cases h)
    have n2:=fun q:Rr=>zQC q 2 false ⟨by omega,by omega⟩ (fun h=>by cases h)
    have n4:=fun q:Rr=>zQC q 4 true ⟨by omega,by omega⟩ (fun _=>rfl)
    have b7:isB (oR7 r).l:=zQG (zQG (zQG (zQG (zQG (zQG (zQG hB))))))
    have b10:isB (oR10 r).l:=zQG (zQG (zQG b7))
    have w7:IntKind.wrap .u16 (nmV 2 false (oR7 r))=nmV 2 false (oR7 r):=by
      have h1:=zK0 (n:=2) b7
      have h2:(256:Int) ^ 2=65536:=by decide
      exact IntWalk.u16_in _ ⟨by omega,by omega⟩
    have f1:=zK0 (n:=1) b10
    have p1:(256:Int) ^ 1=256:=by decide
    rw [p1] at f1
    obtain ⟨g1,g2⟩:=jVk f1
    refine ⟨⟨n1 _,n1 _,n4 _,n4 _,oR4 r,rfl,⟨⟨rfl,rfl⟩,rfl⟩,rfl,rfl,rfl,rfl⟩,fun q hq=>?_⟩
    subst hq
    refine ⟨⟨n1 _,n4 _,n4 _,oR7 r,rfl,⟨⟨rfl,rfl⟩,rfl⟩,rfl,rfl,rfl⟩,fun q hq=>?_⟩
    subst hq
    refine ⟨⟨n2 _,n1 _,n1 _,oR10 r,rfl,⟨⟨rfl,rfl⟩,rfl⟩,w7,rfl,rfl⟩,fun q hq=>?_⟩
    subst hq
    refine ⟨⟨n1 _,oR11 r,rfl,rfl,⟨rfl,rfl⟩,rfl⟩,fun q hq=>?_⟩
    subst hq
    rw [g1,g2]
    exact ⟨⟨rfl,⟨rfl,rfl⟩,rfl⟩,by simp [zQx]⟩
end Go.Proofs.Ytlnfgagmiogkgaa
namespace Go.Proofs.Ytlnfgagmiogkgaa
open Go.RowKit
set_option linter.unusedVariables false
set_option linter.unusedSimpArgs false
attribute [local irreducible] Ans AnsO AnsG AnsN AnsI
set_option maxRecDepth 4000
def kR (r:Rr):Int:=nmV 1 false r
def wR (r:Rr):Int:=nmV 4 false (nmR 1 r)
def hR (r:Rr):Int:=nmV 4 false (nmR 4 (nmR 1 r))
def r3R (r:Rr):Rr:=nmR 4 (nmR 4 (nmR 1 r))
def hdI (r:Rr):Bool:=decide (1≤wR r∧1≤hR r∧wR r*hR r≤16777216∧kR r≤1)
def nI (r:Rr):Nat:=(wR r*hR r).toNat
def shI (r:Rr):Bool:=decide ((r3R r).l.length < 10*nI r)
def imVr (r:Rr):Im:=if hdI r=true then (if kR r=1 then zQa (wR r) (hR r) (pxVr (r3R r)) else if shI r=true then Im.zero else imOf (wR r) (hR r) (zZn (nI r) (r3R r).l)) else Im.zero
def imRr (r:Rr):Rr:=if hdI r=true then (if kR r=1 then pxRr (r3R r) else if shI r=true then ⟨(r3R r).l,true⟩ else ⟨(r3R r).l.drop (10*nI r),false⟩) else ⟨(r3R r).l,true⟩
theorem zUZ (w h:Int) (l:List Px):Ans Try.prog 61 [RV.d (DV.int .i64 w),RV.d (DV.int .i64 h),RV.d (DV.sl l.length (pxs l))] (RV.tup [imR (imOf w h l),RV.d (DV.bool (ofOk w h l.length))]):=by
  have:=zYb w h l.length (pxs l) (zJo l)
  rw [zZf] at this
  exact this.ans rfl rfl
theorem jKO {n:Nat} {r:Rr} (h:1≤nmV n false r):(nmR n r).bad=false:=by
  unfold nmV at h
  unfold nmR
  split at h
  · omega
  · rename_i h2
    rw [if_neg h2]
theorem jZD {r:Rr} (h:hdI r=true):(r3R r).bad=false:=by
  have h:=of_decide_eq_true h
  exact jKO h.2.1
def jVO:Gam where
 pure:=fun f xs=>
  if f=27 then (match xs with | [.d (.int _ w),.d (.int _ h),.agg [.int _ c0,.int _ c1,.int _ c2,.int _ ca,.int _ cf]]=>some (RV.agg [dJ ((zQa w h ⟨c0,c1,c2,ca,cf⟩).w),dJ ((zQa w h ⟨c0,c1,c2,ca,cf⟩).h),dQ ((zQa w h ⟨c0,c1,c2,ca,cf⟩).so),dK (((zQa w h ⟨c0,c1,c2,ca,cf⟩).c).a),dK (((zQa w h ⟨c0,c1,c2,ca,cf⟩).c).b),dK (((zQa w h ⟨c0,c1,c2,ca,cf⟩).c).c),dK (((zQa w h ⟨c0,c1,c2,ca,cf⟩).c).al),dK (((zQa w h ⟨c0,c1,c2,ca,cf⟩).c).f),dJ (((zQa w h ⟨c0,c1,c2,ca,cf⟩).p0).w),dJ (((zQa w h ⟨c0,c1,c2,ca,cf⟩).p0).h),dJ (((zQa w h ⟨c0,c1,c2,ca,cf⟩).p0).s),dS (((zQa w h ⟨c0,c1,c2,ca,cf⟩).p0).n) (((zQa w h ⟨c0,c1,c2,ca,cf⟩).p0).xs),dJ (((zQa w h ⟨c0,c1,c2,ca,cf⟩).p1).w),dJ (((zQa w h ⟨c0,c1,c2,ca,cf⟩).p1).h),dJ (((zQa w h ⟨c0,c1,c2,ca,cf⟩).p1).s),dS (((zQa w h ⟨c0,c1,c2,ca,cf⟩).p1).n) (((zQa w h ⟨c0,c1,c2,ca,cf⟩).p1).xs),dJ (((zQa w h ⟨c0,c1,c2,ca,cf⟩).p2).w),dJ (((zQa w h ⟨c0,c1,c2,ca,cf⟩).p2).h),dJ (((zQa w h ⟨c0,c1,c2,ca,cf⟩).p2).s),dS (((zQa w h ⟨c0,c1,c2,ca,cf⟩).p2).n) (((zQa w h ⟨c0,c1,c2,ca,cf⟩).p2).xs),dJ (((zQa w h ⟨c0,c1,c2,ca,cf⟩).p3).w),dJ (((zQa w h ⟨c0,c1,c2,ca,cf⟩).p3).h),dJ (((zQa w h ⟨c0,c1,c2,ca,cf⟩).p3).s),dS (((zQa w h ⟨c0,c1,c2,ca,cf⟩).p3).n) (((zQa w h ⟨c0,c1,c2,ca,cf⟩).p3).xs),dJ (((zQa w h ⟨c0,c1,c2,ca,cf⟩).p4).w),dJ (((zQa w h ⟨c0,c1,c2,ca,cf⟩).p4).h),dJ (((zQa w h ⟨c0,c1,c2,ca,cf⟩).p4).s),dS (((zQa w h ⟨c0,c1,c2,ca,cf⟩).p4).n) (((zQa w h ⟨c0,c1,c2,ca,cf⟩).p4).xs)]) | _=>none) else
  if f=61 then (match xs with | [.d (.int _ w),.d (.int _ h),.d (.sl n xs)]=>some (RV.tup [RV.agg [dJ ((imOf w h (zQb xs)).w),dJ ((imOf w h (zQb xs)).h),dQ ((imOf w h (zQb xs)).so),dK (((imOf w h (zQb xs)).c).a),dK (((imOf w h (zQb xs)).c).b),dK (((imOf w h (zQb xs)).c).c),dK (((imOf w h (zQb xs)).c).al),dK (((imOf w h (zQb xs)).c).f),dJ (((imOf w h (zQb xs)).p0).w),dJ (((imOf w h (zQb xs)).p0).h),dJ (((imOf w h (zQb xs)).p0).s),dS (((imOf w h (zQb xs)).p0).n) (((imOf w h (zQb xs)).p0).xs),dJ (((imOf w h (zQb xs)).p1).w),dJ (((imOf w h (zQb xs)).p1).h),dJ (((imOf w h (zQb xs)).p1).s),dS (((imOf w h (zQb xs)).p1).n) (((imOf w h (zQb xs)).p1).xs),dJ (((imOf w h (zQb xs)).p2).w),dJ (((imOf w h (zQb xs)).p2).h),dJ (((imOf w h (zQb xs)).p2).s),dS (((imOf w h (zQb xs)).p2).n) (((imOf w h (zQb xs)).p2).xs),dJ (((imOf w h (zQb xs)).p3).w),dJ (((imOf w h (zQb xs)).p3).h),dJ (((imOf w h (zQb xs)).p3).s),dS (((imOf w h (zQb xs)).p3).n) (((imOf w h (zQb xs)).p3).xs),dJ (((imOf w h (zQb xs)).p4).w),dJ (((imOf w h (zQb xs)).p4).h),dJ (((imOf w h (zQb xs)).p4).s),dS (((imOf w h (zQb xs)).p4).n) (((imOf w h (zQb xs)).p4).xs)],RV.d (dQ (ofOk w h n))]) | _=>none) else
  none
 modes:=fun f=>
  if f=47 then some ([false,true,true],1,0) else
  if f=77 then some ([false],1,0) else
  none
 proc:=fun f xs bs=>
  if f=47 then (match xs,bs with | [AV.one (Cl.ptr 0 0),AV.one (Cl.d (DV.int _ n)),AV.one (Cl.d (DV.bool sg))],[Bx.cells [Cl.d (DV.sl bn bxs),Cl.d (DV.bool bad)]]=>some ⟨aJ (((nmV n.toNat sg (⟨ints bxs,bad⟩:Rr)))),[bC [Cl.d (dS ((nmR n.toNat (⟨ints bxs,bad⟩:Rr)).l.length) (u8s (nmR n.toNat (⟨ints bxs,bad⟩:Rr)).l)),Cl.d (dQ ((nmR n.toNat (⟨ints bxs,bad⟩:Rr)).bad))]],false⟩ | _,_=>none) else
  if f=77 then (match xs,bs with | [AV.one (Cl.ptr 0 0)],[Bx.cells [Cl.d (DV.sl bn bxs),Cl.d (DV.bool bad)]]=>some ⟨AV.agg [cK (((pxVr (⟨ints bxs,bad⟩:Rr)).a)),cK (((pxVr (⟨ints bxs,bad⟩:Rr)).b)),cK (((pxVr (⟨ints bxs,bad⟩:Rr)).c)),cK (((pxVr (⟨ints bxs,bad⟩:Rr)).al)),cK (((pxVr (⟨ints bxs,bad⟩:Rr)).f))],[bC [Cl.d (dS ((pxRr (⟨ints bxs,bad⟩:Rr)).l.length) (u8s (pxRr (⟨ints bxs,bad⟩:Rr)).l)),Cl.d (dQ ((pxRr (⟨ints bxs,bad⟩:Rr)).bad))]],false⟩ | _,_=>none) else
  none
 iter:=fun f cs=>
  none
def zXE (r:Rr):Ann:=let zz0:=(4,aJ (((wR r)))); let zz1:=(5,aJ (((hR r)))); let zz2:=(2,bC [cJ (0),cJ (0),Cl.d (dQ false),cK (0),cK (0),cK (0),cK (0),cK (0),cJ (0),cJ (0),cJ (0),Cl.nil,cJ (0),cJ (0),cJ (0),Cl.nil,cJ (0),cJ (0),cJ (0),Cl.nil,cJ (0),cJ (0),cJ (0),Cl.nil,cJ (0),cJ (0),cJ (0),Cl.nil]); (Ann.seq Ann.leaf (Ann.seq Ann.leaf (Ann.cut ⟨Rr,fun z:Rr=>z.l=(r3R r).l∧z.bad=!(hdI r),fun z:Rr=>⟨[(0,aPz),(2,AV.one (Cl.ptr 2 0)),(3,aJ (((kR r)))),zz0,zz1],[(0,bC [Cl.d (dS ((z).l.length) (u8s (z).l)),Cl.d (dQ ((z).bad))]),zz2]⟩,fun z:Rr=>0⟩ Ann.leaf fun z=>(Ann.seq Ann.leaf (Ann.seq Ann.leaf (Ann.seq Ann.leaf (Ann.seq Ann.leaf (Ann.seq (Ann.seq Ann.leaf (Ann.loop ⟨Nat,fun k=>k≤nI r∧hdI r=true∧kR r≠1∧shI r=false,fun k=>⟨[(0,aPz),(2,AV.one (Cl.ptr 2 0)),zz0,zz1,(6,AV.one (Cl.ref 9001 k)),(7,aJ (((k:Int))))],[(0,bC [Cl.d (dS (((r3R r).l.drop (10*k)).length) (u8s ((r3R r).l.drop (10*k)))),Cl.d (dQ false)]),zz2,(9001,Bx.row 37 5 (pxs (zZn k (r3R r).l)))]⟩,fun k=>nI r - k⟩ fun k=>Ann.leaf)) Ann.leaf))))))))
theorem zKK (r:Rr):vcg Try.prog jVO ⟨85,fun _=>false,List.range 1,false⟩ (zQl Try.f48) (zXE r) kn0 (zZq [AV.one (Cl.ptr 0 0)] [Bx.cells [Cl.d (DV.sl r.l.length (u8s r.l)),Cl.d (DV.bool r.bad)]]) (zXg Try.prog ⟨85,fun _=>false,List.range 1,false⟩ Try.f48.results.toList ⟨(imD (imVr r)),[Bx.cells [Cl.d (DV.sl ((imRr r).l.length) (u8s (imRr r).l)),Cl.d (DV.bool ((imRr r).bad))]],false⟩) =
  (let zz0:=[bC [Cl.d (dS ((nmR 1 (⟨iU (r.l),r.bad⟩:Rr)).l.length) (u8s (nmR 1 (⟨iU (r.l),r.bad⟩:Rr)).l)),Cl.d (dQ ((nmR 1 (⟨iU (r.l),r.bad⟩:Rr)).bad))]]; let zz1:=[aPz,aJ ((4)),AV.one (Cl.d (dQ false))]; let zz2:=[bC [Cl.d (dS ((nmR 4 (⟨iU ((nmR 1 (⟨iU (r.l),r.bad⟩:Rr)).l),((nmR 1 (⟨iU (r.l),r.bad⟩:Rr)).bad)⟩:Rr)).l.length) (u8s (nmR 4 (⟨iU ((nmR 1 (⟨iU (r.l),r.bad⟩:Rr)).l),((nmR 1 (⟨iU (r.l),r.bad⟩:Rr)).bad)⟩:Rr)).l)),Cl.d (dQ ((nmR 4 (⟨iU ((nmR 1 (⟨iU (r.l),r.bad⟩:Rr)).l),((nmR 1 (⟨iU (r.l),r.bad⟩:Rr)).bad)⟩:Rr)).bad))]]; let zz3:=fun (z:Rr)=>(z.l=(r3R r).l∧z.bad=!(hdI r)); let zz4:=((0=0)∧(0=0)∧(dJ (nmV 1 false (⟨iU (r.l),r.bad⟩:Rr))=dJ (kR r))∧(dJ (nmV 4 false (⟨iU ((nmR 1 (⟨iU (r.l),r.bad⟩:Rr)).l),((nmR 1 (⟨iU (r.l),r.bad⟩:Rr)).bad)⟩:Rr))=dJ (wR r))∧(dJ (nmV 4 false (⟨iU ((nmR 4 (⟨iU ((nmR 1 (⟨iU (r.l),r.bad⟩:Rr)).l),((nmR 1 (⟨iU (r.l),r.bad⟩:Rr)).bad)⟩:Rr)).l),((nmR 4 (⟨iU ((nmR 1 (⟨iU (r.l),r.bad⟩:Rr)).l),((nmR 1 (⟨iU (r.l),r.bad⟩:Rr)).bad)⟩:Rr)).bad)⟩:Rr))=dJ (hR r))∧True); let zz5:=fun (z:Rr)=>[dS ((z).l.length) (u8s (z).l),dQ ((z).bad)]; let zz6:=(dJ 0=dJ 0); let zz7:=(dK 0=dK 0); let zz8:=(zz6∧zz6∧(dQ false=dQ false)∧zz7∧zz7∧zz7∧zz7∧zz7∧zz6∧zz6∧zz6∧True∧zz6∧zz6∧zz6∧True∧zz6∧zz6∧zz6∧True∧zz6∧zz6∧zz6∧True∧zz6∧zz6∧zz6∧True∧True); let zz9:=fun (z:Rr)=>(zz4∧(([dS ((nmR 4 (⟨iU ((nmR 4 (⟨iU ((nmR 1 (⟨iU (r.l),r.bad⟩:Rr)).l),((nmR 1 (⟨iU (r.l),r.bad⟩:Rr)).bad)⟩:Rr)).l),((nmR 4 (⟨iU ((nmR 1 (⟨iU (r.l),r.bad⟩:Rr)).l),((nmR 1 (⟨iU (r.l),r.bad⟩:Rr)).bad)⟩:Rr)).bad)⟩:Rr)).l.length) (u8s (nmR 4 (⟨iU ((nmR 4 (⟨iU ((nmR 1 (⟨iU (r.l),r.bad⟩:Rr)).l),((nmR 1 (⟨iU (r.l),r.bad⟩:Rr)).bad)⟩:Rr)).l),((nmR 4 (⟨iU ((nmR 1 (⟨iU (r.l),r.bad⟩:Rr)).l),((nmR 1 (⟨iU (r.l),r.bad⟩:Rr)).bad)⟩:Rr)).bad)⟩:Rr)).l),dQ true]=(zz5 z))∧zz8∧True)); let zz10:=(([dJ 0,dJ 0,dQ false,dK 0,dK 0,dK 0,dK 0,dK 0,dJ 0,dJ 0,dJ 0,dS 0 ([]),dJ 0,dJ 0,dJ 0,dS 0 ([]),dJ 0,dJ 0,dJ 0,dS 0 ([]),dJ 0,dJ 0,dJ 0,dS 0 ([]),dJ 0,dJ 0,dJ 0,dS 0 ([])]=(Im.ds (imVr r)))∧True); let zz11:=[dS ((imRr r).l.length) (u8s (imRr r).l),dQ ((imRr r).bad)]; let zz12:=fun (k:Nat)=>(k≤nI r∧hdI r=true∧kR r≠1∧shI r=false); let zz13:=(dJ (wR r)=dJ (wR r)); let zz14:=(dJ (hR r)=dJ (hR r)); let zz15:=fun (k:Nat)=>[dS (((r3R r).l.drop (10*k)).length) (u8s ((r3R r).l.drop (10*k))),dQ false]; tU2 ((AnsG Try.prog 47 1 [aPz,aJ ((1)),AV.one (Cl.d (dQ false))] [bC [Cl.d (dS r.l.length (u8s r.l)),Cl.d (dQ r.bad)]] ⟨aJ (((nmV 1 false (⟨iU (r.l),r.bad⟩:Rr)))),zz0,false⟩)∧True∧(AnsG Try.prog 47 1 zz1 zz0 ⟨aJ (((nmV 4 false (⟨iU ((nmR 1 (⟨iU (r.l),r.bad⟩:Rr)).l),((nmR 1 (⟨iU (r.l),r.bad⟩:Rr)).bad)⟩:Rr)))),zz2,false⟩)∧True∧(AnsG Try.prog 47 1 zz1 zz2 ⟨aJ (((nmV 4 false (⟨iU ((nmR 4 (⟨iU ((nmR 1 (⟨iU (r.l),r.bad⟩:Rr)).l),((nmR 1 (⟨iU (r.l),r.bad⟩:Rr)).bad)⟩:Rr)).l),((nmR 4 (⟨iU ((nmR 1 (⟨iU (r.l),r.bad⟩:Rr)).l),((nmR 1 (⟨iU (r.l),r.bad⟩:Rr)).bad)⟩:Rr)).bad)⟩:Rr)))),[bC [Cl.d (dS ((nmR 4 (⟨iU ((nmR 4 (⟨iU ((nmR 1 (⟨iU (r.l),r.bad⟩:Rr)).l),((nmR 1 (⟨iU (r.l),r.bad⟩:Rr)).bad)⟩:Rr)).l),((nmR 4 (⟨iU ((nmR 1 (⟨iU (r.l),r.bad⟩:Rr)).l),((nmR 1 (⟨iU (r.l),r.bad⟩:Rr)).bad)⟩:Rr)).bad)⟩:Rr)).l.length) (u8s (nmR 4 (⟨iU ((nmR 4 (⟨iU ((nmR 1 (⟨iU (r.l),r.bad⟩:Rr)).l),((nmR 1 (⟨iU (r.l),r.bad⟩:Rr)).bad)⟩:Rr)).l),((nmR 4 (⟨iU ((nmR 1 (⟨iU (r.l),r.bad⟩:Rr)).l),((nmR 1 (⟨iU (r.l),r.bad⟩:Rr)).bad)⟩:Rr)).bad)⟩:Rr)).l)),Cl.d (dQ ((nmR 4 (⟨iU ((nmR 4 (⟨iU ((nmR 1 (⟨iU (r.l),r.bad⟩:Rr)).l),((nmR 1 (⟨iU (r.l),r.bad⟩:Rr)).bad)⟩:Rr)).l),((nmR 4 (⟨iU ((nmR 1 (⟨iU (r.l),r.bad⟩:Rr)).l),((nmR 1 (⟨iU (r.l),r.bad⟩:Rr)).bad)⟩:Rr)).bad)⟩:Rr)).bad))]],false⟩)∧tU3 ((tU3 ((((decide ((nmV 4 false (⟨iU ((nmR 1 (⟨iU (r.l),r.bad⟩:Rr)).l),((nmR 1 (⟨iU (r.l),r.bad⟩:Rr)).bad)⟩:Rr)) < (1:Int)))=false→tU4 ((((decide ((nmV 4 false (⟨iU ((nmR 4 (⟨iU ((nmR 1 (⟨iU (r.l),r.bad⟩:Rr)).l),((nmR 1 (⟨iU (r.l),r.bad⟩:Rr)).bad)⟩:Rr)).l),((nmR 4 (⟨iU ((nmR 1 (⟨iU (r.l),r.bad⟩:Rr)).l),((nmR 1 (⟨iU (r.l),r.bad⟩:Rr)).bad)⟩:Rr)).bad)⟩:Rr)) < (1:Int)))=false→tU4 ((((decide ((nmV 4 false (⟨iU ((nmR 1 (⟨iU (r.l),r.bad⟩:Rr)).l),((nmR 1 (⟨iU (r.l),r.bad⟩:Rr)).bad)⟩:Rr)) > (16777216:Int)))=false→tU2 (((nmV 4 false (⟨iU ((nmR 1 (⟨iU (r.l),r.bad⟩:Rr)).l),((nmR 1 (⟨iU (r.l),r.bad⟩:Rr)).bad)⟩:Rr))≠0)∧tU3 ((((decide ((nmV 4 false (⟨iU ((nmR 4 (⟨iU ((nmR 1 (⟨iU (r.l),r.bad⟩:Rr)).l),((nmR 1 (⟨iU (r.l),r.bad⟩:Rr)).bad)⟩:Rr)).l),((nmR 4 (⟨iU ((nmR 1 (⟨iU (r.l),r.bad⟩:Rr)).l),((nmR 1 (⟨iU (r.l),r.bad⟩:Rr)).bad)⟩:Rr)).bad)⟩:Rr)) > (wK (Int.tdiv (16777216:Int) (nmV 4 false (⟨iU ((nmR 1 (⟨iU (r.l),r.bad⟩:Rr)).l),((nmR 1 (⟨iU (r.l),r.bad⟩:Rr)).bad)⟩:Rr))))))=false→tU3 ((((decide ((nmV 1 false (⟨iU (r.l),r.bad⟩:Rr)) > (1:Int)))=true→tU4 (∃ z:Rr,(zz3 z)∧(zz9 z)))∧((decide ((nmV 1 false (⟨iU (r.l),r.bad⟩:Rr)) > (1:Int)))=false→∃ z:Rr,(zz3 z)∧(zz4∧(([dS ((nmR 4 (⟨iU ((nmR 4 (⟨iU ((nmR 1 (⟨iU (r.l),r.bad⟩:Rr)).l),((nmR 1 (⟨iU (r.l),r.bad⟩:Rr)).bad)⟩:Rr)).l),((nmR 4 (⟨iU ((nmR 1 (⟨iU (r.l),r.bad⟩:Rr)).l),((nmR 1 (⟨iU (r.l),r.bad⟩:Rr)).bad)⟩:Rr)).bad)⟩:Rr)).l.length) (u8s (nmR 4 (⟨iU ((nmR 4 (⟨iU ((nmR 1 (⟨iU (r.l),r.bad⟩:Rr)).l),((nmR 1 (⟨iU (r.l),r.bad⟩:Rr)).bad)⟩:Rr)).l),((nmR 4 (⟨iU ((nmR 1 (⟨iU (r.l),r.bad⟩:Rr)).l),((nmR 1 (⟨iU (r.l),r.bad⟩:Rr)).bad)⟩:Rr)).bad)⟩:Rr)).l),dQ ((nmR 4 (⟨iU ((nmR 4 (⟨iU ((nmR 1 (⟨iU (r.l),r.bad⟩:Rr)).l),((nmR 1 (⟨iU (r.l),r.bad⟩:Rr)).bad)⟩:Rr)).l),((nmR 4 (⟨iU ((nmR 1 (⟨iU (r.l),r.bad⟩:Rr)).l),((nmR 1 (⟨iU (r.l),r.bad⟩:Rr)).bad)⟩:Rr)).bad)⟩:Rr)).bad)]=(zz5 z))∧zz8∧True))))))∧((decide ((nmV 4 false (⟨iU ((nmR 4 (⟨iU ((nmR 1 (⟨iU (r.l),r.bad⟩:Rr)).l),((nmR 1 (⟨iU (r.l),r.bad⟩:Rr)).bad)⟩:Rr)).l),((nmR 4 (⟨iU ((nmR 1 (⟨iU (r.l),r.bad⟩:Rr)).l),((nmR 1 (⟨iU (r.l),r.bad⟩:Rr)).bad)⟩:Rr)).bad)⟩:Rr)) > (wK (Int.tdiv (16777216:Int) (nmV 4 false (⟨iU ((nmR 1 (⟨iU (r.l),r.bad⟩:Rr)).l),((nmR 1 (⟨iU (r.l),r.bad⟩:Rr)).bad)⟩:Rr))))))=(!false)→tU5 (∃ z:Rr,(zz3 z)∧(zz9 z)))))))∧((decide ((nmV 4 false (⟨iU ((nmR 1 (⟨iU (r.l),r.bad⟩:Rr)).l),((nmR 1 (⟨iU (r.l),r.bad⟩:Rr)).bad)⟩:Rr)) > (16777216:Int)))=(!false)→tU7 (∃ z:Rr,(zz3 z)∧(zz9 z))))))∧((decide ((nmV 4 false (⟨iU ((nmR 4 (⟨iU ((nmR 1 (⟨iU (r.l),r.bad⟩:Rr)).l),((nmR 1 (⟨iU (r.l),r.bad⟩:Rr)).bad)⟩:Rr)).l),((nmR 4 (⟨iU ((nmR 1 (⟨iU (r.l),r.bad⟩:Rr)).l),((nmR 1 (⟨iU (r.l),r.bad⟩:Rr)).bad)⟩:Rr)).bad)⟩:Rr)) < (1:Int)))=(!false)→True∧tU8 (∃ z:Rr,(zz3 z)∧(zz9 z))))))∧((decide ((nmV 4 false (⟨iU ((nmR 1 (⟨iU (r.l),r.bad⟩:Rr)).l),((nmR 1 (⟨iU (r.l),r.bad⟩:Rr)).bad)⟩:Rr)) < (1:Int)))=(!false)→tU3 (tU8 (∃ z:Rr,(zz3 z)∧(zz9 z)))))))∧∀ z:Rr,(zz3 z)→tU4 (((((z).bad)=true→tU2 ((zz10∧(((zz5 z)=zz11)∧True))∧zQx ⟨(imD (imVr r)),[bC [Cl.d (dS ((imRr r).l.length) (u8s (imRr r).l)),Cl.d (dQ ((imRr r).bad))]],false⟩))∧(((z).bad)=false→tU2 (((((kR r)==(1:Int))=true→tU3 ((AnsG Try.prog 77 1 [aPz] [bC [Cl.d (dS ((z).l.length) (u8s (z).l)),Cl.d (dQ ((z).bad))]] ⟨AV.agg [cK (((pxVr (⟨iU ((z).l),((z).bad)⟩:Rr)).a)),cK (((pxVr (⟨iU ((z).l),((z).bad)⟩:Rr)).b)),cK (((pxVr (⟨iU ((z).l),((z).bad)⟩:Rr)).c)),cK (((pxVr (⟨iU ((z).l),((z).bad)⟩:Rr)).al)),cK (((pxVr (⟨iU ((z).l),((z).bad)⟩:Rr)).f))],[bC [Cl.d (dS ((pxRr (⟨iU ((z).l),((z).bad)⟩:Rr)).l.length) (u8s (pxRr (⟨iU ((z).l),((z).bad)⟩:Rr)).l)),Cl.d (dQ ((pxRr (⟨iU ((z).l),((z).bad)⟩:Rr)).bad))]],false⟩)∧(Ans Try.prog 27 [rJ ((wR r)),rJ ((hR r)),RV.agg [dK ((pxVr (⟨iU ((z).l),((z).bad)⟩:Rr)).a),dK ((pxVr (⟨iU ((z).l),((z).bad)⟩:Rr)).b),dK ((pxVr (⟨iU ((z).l),((z).bad)⟩:Rr)).c),dK ((pxVr (⟨iU ((z).l),((z).bad)⟩:Rr)).al),dK ((pxVr (⟨iU ((z).l),((z).bad)⟩:Rr)).f)]] ((imR (zQa (wR r) (hR r) (pxVr (⟨iU ((z).l),((z).bad)⟩:Rr))))))∧True∧((((Im.ds (zQa (wR r) (hR r) (pxVr (⟨iU ((z).l),((z).bad)⟩:Rr))))=(Im.ds (imVr r)))∧True)∧(([dS ((pxRr (⟨iU ((z).l),((z).bad)⟩:Rr)).l.length) (u8s (pxRr (⟨iU ((z).l),((z).bad)⟩:Rr)).l),dQ ((pxRr (⟨iU ((z).l),((z).bad)⟩:Rr)).bad)]=zz11)∧True))∧zQx ⟨(imD (imVr r)),[bC [Cl.d (dS ((imRr r).l.length) (u8s (imRr r).l)),Cl.d (dQ ((imRr r).bad))]],false⟩))∧(((kR r)==(1:Int))=false→tU2 (tU8 ((((decide ((((z).l.length:Nat):Int) < (wK ((wK ((10:Int)*(wR r)))*(hR r)))))=true→tU6 ((zz10∧(([dS ((z).l.length) (u8s (z).l),dQ true]=zz11)∧True))∧zQx ⟨(imD (imVr r)),[bC [Cl.d (dS ((imRr r).l.length) (u8s (imRr r).l)),Cl.d (dQ ((imRr r).bad))]],false⟩))∧((decide ((((z).l.length:Nat):Int) < (wK ((wK ((10:Int)*(wR r)))*(hR r)))))=false→tU2 (((∃ k:Nat,(zz12 k)∧(((0=0)∧(0=0)∧zz13∧zz14∧(0=k)∧(dJ 0=dJ (k:Int))∧True)∧(((zz5 z)=(zz15 k))∧zz8∧([]=pxs (zZn k (r3R r).l))∧True)))∧∀ k:Nat,(zz12 k)→tU5 ((((decide ((k:Int) < (wK ((wR r)*(hR r)))))=true→tU2 ((AnsG Try.prog 77 1 [aPz] [bC [Cl.d (dS (((r3R r).l.drop (10*k)).length) (u8s ((r3R r).l.drop (10*k)))),Cl.d (dQ false)]] ⟨AV.agg [cK (((pxVr (⟨iU (((r3R r).l.drop (10*k))),false⟩:Rr)).a)),cK (((pxVr (⟨iU (((r3R r).l.drop (10*k))),false⟩:Rr)).b)),cK (((pxVr (⟨iU (((r3R r).l.drop (10*k))),false⟩:Rr)).c)),cK (((pxVr (⟨iU (((r3R r).l.drop (10*k))),false⟩:Rr)).al)),cK (((pxVr (⟨iU (((r3R r).l.drop (10*k))),false⟩:Rr)).f))],[bC [Cl.d (dS ((pxRr (⟨iU (((r3R r).l.drop (10*k))),false⟩:Rr)).l.length) (u8s (pxRr (⟨iU (((r3R r).l.drop (10*k))),false⟩:Rr)).l)),Cl.d (dQ ((pxRr (⟨iU (((r3R r).l.drop (10*k))),false⟩:Rr)).bad))]],false⟩)∧True∧(zQ8 5 10 k 1 (pxs (zZn k (r3R r).l)) ([dK ((pxVr (⟨iU (((r3R r).l.drop (10*k))),false⟩:Rr)).a),dK ((pxVr (⟨iU (((r3R r).l.drop (10*k))),false⟩:Rr)).b),dK ((pxVr (⟨iU (((r3R r).l.drop (10*k))),false⟩:Rr)).c),dK ((pxVr (⟨iU (((r3R r).l.drop (10*k))),false⟩:Rr)).al),dK ((pxVr (⟨iU (((r3R r).l.drop (10*k))),false⟩:Rr)).f)]))∧tU4 (∃ k':Nat,(k'≤nI r∧hdI r=true∧kR r≠1∧shI r=false)∧(nI r - k' < nI r - k)∧(((0=0)∧(0=0)∧zz13∧zz14∧(k+1=k')∧(dJ (wK ((k:Int)+(1:Int)))=dJ (k':Int))∧True)∧(([dS ((pxRr (⟨iU (((r3R r).l.drop (10*k))),false⟩:Rr)).l.length) (u8s (pxRr (⟨iU (((r3R r).l.drop (10*k))),false⟩:Rr)).l),dQ ((pxRr (⟨iU (((r3R r).l.drop (10*k))),false⟩:Rr)).bad)]=[dS (((r3R r).l.drop (10*k')).length) (u8s ((r3R r).l.drop (10*k'))),dQ false])∧zz8∧((pxs (zZn k (r3R r).l))++([dK ((pxVr (⟨iU (((r3R r).l.drop (10*k))),false⟩:Rr)).a),dK ((pxVr (⟨iU (((r3R r).l.drop (10*k))),false⟩:Rr)).b),dK ((pxVr (⟨iU (((r3R r).l.drop (10*k))),false⟩:Rr)).c),dK ((pxVr (⟨iU (((r3R r).l.drop (10*k))),false⟩:Rr)).al),dK ((pxVr (⟨iU (((r3R r).l.drop (10*k))),false⟩:Rr)).f)])=pxs (zZn k' (r3R r).l))∧True)))))∧((decide ((k:Int) < (wK ((wR r)*(hR r)))))=false→tU3 ((Ans Try.prog 61 [rJ ((wR r)),rJ ((hR r)),RV.d (dS k (pxs (zZn k (r3R r).l)))] (RV.tup [(imR (imOf (wR r) (hR r) (zQb (pxs (zZn k (r3R r).l))))),RV.d (dQ (ofOk (wR r) (hR r) k))]))∧tU8 (((((Im.ds (imOf (wR r) (hR r) (zQb (pxs (zZn k (r3R r).l)))))=(Im.ds (imVr r)))∧True)∧(((zz15 k)=zz11)∧True))∧zQx ⟨(imD (imVr r)),[bC [Cl.d (dS ((imRr r).l.length) (u8s (imRr r).l)),Cl.d (dQ ((imRr r).bad))]],false⟩)))))))))))))))))))):=by kernel_rfl
theorem zJ8 (r:Rr):AnsG Try.prog 48 1 [AV.one (Cl.ptr 0 0)] [Bx.cells [Cl.d (DV.sl r.l.length (u8s r.l)),Cl.d (DV.bool r.bad)]] ⟨(imD (imVr r)),[Bx.cells [Cl.d (DV.sl ((imRr r).l.length) (u8s (imRr r).l)),Cl.d (DV.bool ((imRr r).bad))]],false⟩:=
  zQR (Γ:=jVO) (zXE r) zQq Try.func48 rfl (Nat.le_of_ble_eq_true rfl) rfl fun hwf hbx=>by
    refine Eq.mpr (zKK r) ?_
    delta tU2 tU3 tU4 tU5 tU6 tU7 tU8 dJ dK dQ cK wK dS rJ aJ aPz bC iU
    simp only [true_and,and_true,RV.d.injEq,RV.agg.injEq,RV.tup.injEq,DV.bool.injEq,DV.int.injEq,DV.sl.injEq,List.cons.injEq,forall_const,Bool.not_false,Bool.not_true,Bool.not_eq_true',Bool.not_eq_false',decide_eq_true_eq,decide_eq_false_iff_not,Int.toNat_natCast]
    simp only [zQZ,Rr.eta]
    simp only [Bx.wfL,Bx.wf,Cl.wfs,DV.wf,maxLen] at hbx
    have hB:=zKg hbx.1.1.2
    have n1:=zQC r 1 false ⟨by omega,by omega⟩ (fun h=>by cases h)
    have n4:=fun q:Rr=>zQC q 4 false ⟨by omega,by omega⟩ (fun h=>by cases h)
    have px:=zJ7
    have p4:(256:Int) ^ 4=4294967296:=by decide
    have hw:0≤wR r∧wR r < 4294967296:=by have:=zK0 (n:=4) (zQG (n:=1) hB); rw [p4] at this; exact this
    have hh:0≤hR r∧hR r < 4294967296:=by have:=zK0 (n:=4) (zQG (n:=4) (zQG (n:=1) hB)); rw [p4] at this; exact this
    have e1:nmV 1 false r=kR r:=rfl
    have e2:nmV 4 false (nmR 1 r)=wR r:=rfl
    have e3:nmV 4 false (nmR 4 (nmR 1 r))=hR r:=rfl
    have e4:nmR 4 (nmR 4 (nmR 1 r))=r3R r:=rfl
    have hfit:1≤hR r→1≤wR r→(hR r≤IntKind.wrap .i64 (Int.tdiv 16777216 (wR r))↔hR r*wR r≤16777216):=fun a b=>zJd a b
    have big:wR r > 16777216→hdI r=false:=fun h=>decide_eq_false fun ⟨h1,h2,h3,h4⟩=>by
      have:=Int.mul_le_mul_of_nonneg_left h2 (by omega:0≤wR r)
      omega
    have fr:∀ (a:AV) (b:List Bx),zQx ⟨a,b,false⟩:=fun _ _=>by simp [zQx]
    have bad:hdI r=false→∃ z:Rr,(z.l=(r3R r).l∧z.bad=!hdI r)∧(kR r=kR r∧wR r=wR r∧hR r=hR r)∧((r3R r).l.length=z.l.length∧u8s (r3R r).l=u8s z.l)∧true=z.bad:=fun h=>⟨⟨(r3R r).l,true⟩,⟨rfl,by rw [h]; rfl⟩,⟨rfl,rfl,rfl⟩,⟨rfl,rfl⟩,rfl⟩
    have good:hdI r=true→∃ z:Rr,(z.l=(r3R r).l∧z.bad=!hdI r)∧(kR r=kR r∧wR r=wR r∧hR r=hR r)∧((r3R r).l.length=z.l.length∧u8s (r3R r).l=u8s z.l)∧(r3R r).bad=z.bad:=fun h=>⟨r3R r,⟨rfl,by rw [h]; exact jZD h⟩,⟨rfl,rfl,rfl⟩,⟨rfl,rfl⟩,rfl⟩
    refine ⟨n1,n4 _,n4 _,⟨fun a=>⟨fun b=>⟨fun c=>⟨?_,fun d=>⟨fun e=>bad ?_,fun e=>good ?_⟩,fun d=>bad ?_⟩,fun c=>bad ?_⟩,fun b=>bad ?_⟩,fun a=>bad ?_⟩,fun z hz=>?_⟩
    · rw [e2] at a ⊢; omega
    · rw [e1] at e; exact decide_eq_false fun h=>by omega
    · rw [e2] at a d; rw [e3] at b d; rw [e1] at e
      have:=(hfit (by omega) (by omega)).1 (by omega)
      rw [Int.mul_comm] at this
      exact decide_eq_true ⟨by omega,by omega,this,by omega⟩
    · rw [e2] at a d; rw [e3] at b d
      refine decide_eq_false fun h=>?_
      have h3:=h.2.2.1
      rw [Int.mul_comm] at h3
      have:=(hfit (by omega) (by omega)).2 h3
      omega
    · exact big c
    · rw [e3] at b; exact decide_eq_false fun h=>by omega
    · rw [e2] at a; exact decide_eq_false fun h=>by omega
    · clear bad good big
      obtain ⟨z1,z2⟩:=hz
      refine ⟨fun hb=>?_,fun hb=>?_⟩
      · have hd:hdI r=false:=by rw [hb] at z2; cases h:hdI r with
          | false=>rfl
          | true=>rw [h] at z2; cases z2
        have v:imVr r=Im.zero:=by unfold imVr; rw [hd]; rfl
        have v2:imRr r=⟨(r3R r).l,true⟩:=by unfold imRr; rw [hd]; rfl
        rw [v,v2]
        exact ⟨⟨rfl,⟨by rw [z1],by rw [z1]⟩,hb⟩,fr _ _⟩
      · have hd:hdI r=true:=by rw [hb] at z2; cases h:hdI r with
          | true=>rfl
          | false=>rw [h] at z2; cases z2
        have g:=jZD hd
        have ez:z=r3R r:=by
          rw [← Rr.eta z,← Rr.eta (r3R r),z1,hb,g]
        subst ez
        have hD:=of_decide_eq_true hd
        have hpos:0 < wR r*hR r:=Int.mul_pos (by omega) (by omega)
        have hN:wR r*hR r=(nI r:Int):=by unfold nI; omega
        have wN:IntKind.wrap .i64 (wR r*hR r)=(nI r:Int):=by rw [IntWalk.i64_in _ ⟨by omega,by omega⟩,hN]
        have wL:IntKind.wrap .i64 (IntKind.wrap .i64 (10*wR r)*hR r)=((10*nI r:Nat):Int):=by
          rw [IntWalk.i64_in (10*wR r) ⟨by omega,by omega⟩,Int.mul_assoc,hN,IntWalk.i64_in _ ⟨by omega,by omega⟩]
          omega
        have er:(⟨(r3R r).l,false⟩:Rr)=r3R r:=by rw [← g]
        simp only [wN,wL,zZf]
        refine ⟨fun h1=>⟨px _,zX2 _ _ _,?_,fr _ _⟩,fun h1=>⟨fun h2=>⟨?_,fr _ _⟩,fun h2=>⟨⟨0,⟨Nat.zero_le _,hd,?_,?_⟩,⟨rfl,rfl⟩,⟨⟨rfl,rfl⟩,g⟩,rfl⟩,fun k hk=>⟨fun hlt=>?_,fun hge=>?_⟩⟩⟩⟩
        · have hk:kR r=1:=by simpa using h1
          have v:imVr r=zQa (wR r) (hR r) (pxVr (r3R r)):=by unfold imVr; rw [if_pos hd,if_pos hk]
          have v2:imRr r=pxRr (r3R r):=by unfold imRr; rw [if_pos hd,if_pos hk]
          rw [v,v2]
          exact ⟨rfl,⟨rfl,rfl⟩,rfl⟩
        · have hk:¬ kR r=1:=by simpa using h1
          have sh:shI r=true:=decide_eq_true (by omega)
          have v:imVr r=Im.zero:=by unfold imVr; rw [if_pos hd,if_neg hk,if_pos sh]
          have v2:imRr r=⟨(r3R r).l,true⟩:=by unfold imRr; rw [if_pos hd,if_neg hk,if_pos sh]
          rw [v,v2]
          exact ⟨rfl,⟨rfl,rfl⟩,rfl⟩
        · simpa using h1
        · exact decide_eq_false (by omega)
        · obtain ⟨k1,k2,k3,k4⟩:=hk
          have hs:=of_decide_eq_false k4
          have hl:10≤((r3R r).l.drop (10*k)).length:=by rw [List.length_drop]; omega
          have gd:=jYD hl
          have w1:IntKind.wrap .i64 ((k:Int)+1)=((k+1:Nat):Int):=by rw [IntWalk.i64_in _ ⟨by omega,by omega⟩]; omega
          have pk:=px ⟨(r3R r).l.drop (10*k),false⟩
          simp only [gd.1,gd.2,List.drop_drop] at pk ⊢
          refine ⟨pk,⟨by rw [zQ4,zWX],rfl,by unfold maxLen; omega,by omega⟩,k+1,⟨by omega,k2,k3,k4⟩,by omega,⟨rfl,w1⟩,⟨⟨rfl,rfl⟩,by first | exact trivial | rfl⟩,?_⟩
          rw [zGE,← zGF]
          simp [pxs,Px.ds]
        · obtain ⟨k1,k2,k3,k4⟩:=hk
          have:k=nI r:=by omega
          subst this
          have o:=zUZ (wR r) (hR r) (zZn (nI r) (r3R r).l)
          rw [zWX] at o
          have v:imVr r=imOf (wR r) (hR r) (zZn (nI r) (r3R r).l):=by unfold imVr; rw [if_pos hd,if_neg k3,k4]; rfl
          have v2:imRr r=⟨(r3R r).l.drop (10*nI r),false⟩:=by unfold imRr; rw [if_pos hd,if_neg k3,k4]; rfl
          rw [v,v2]
          exact ⟨o,⟨rfl,⟨rfl,rfl⟩,rfl⟩,fr _ _⟩
end Go.Proofs.Ytlnfgagmiogkgaa
namespace Go.Proofs.Ytlnfgagmiogkgaa
open Go.RowKit
set_option linter.unusedVariables false
set_option linter.unusedSimpArgs false
theorem jKG {p:Px} {most:Int} (h:p.fine most) (hm:most≤65535):pxIn p:=by
  obtain ⟨h1,h2,h3,h4,h5⟩:=h
  simp [Px.ok] at h1
  exact ⟨by omega,by omega,by omega,by omega,by omega⟩
theorem jK6 {m:Im} (hf:m.formed=true) (hp:∀ p∈m.pixels,pxIn p):imIn m:=by
  refine ⟨hf,?_,hp⟩
  by_cases hs:m.so=true
  · have:=Im.count_pos hf
    refine hp _ ?_
    rw [Im.pixels_so hf hs]
    exact List.mem_replicate.2 ⟨by omega,rfl⟩
  · rw [(Im.inner_planes (Im.formed_of hf).2 (by simpa using hs)).1]
    exact ⟨⟨by decide,by decide⟩,⟨by decide,by decide⟩,⟨by decide,by decide⟩,⟨by decide,by decide⟩,⟨by decide,by decide⟩⟩
theorem Scn.ims_in (s:Scn):∀ m∈s.ims,imIn m:=by
  have hq:1≤s.c.c - s.c.a∧s.c.c - s.c.a≤100∧1≤s.c.d - s.c.b∧s.c.d - s.c.b≤100:=by have:=s.facts; have CF:=s.c_facts; omega
  have hm:0≤s.most∧s.most≤65535:=by rcases s.most_in with h | h <;> rw [h] <;> omega
  intro m hmem
  refine jK6 (s.fine m hmem).1 fun p hp=>jKG (most:=s.most) ?_ hm.2
  unfold Scn.ims at hmem
  split at hmem
  · rw [List.mem_singleton] at hmem
    subst hmem
    have F:=s.facts
    have hf:zQz s.gw s.gh=true:=by
      have:=Int.mul_le_mul F.2.2.1.2 F.2.2.2.1.2 (by omega) (by omega)
      simp [zQz]; omega
    change p∈(zQa s.gw s.gh ⟨s.most,0,0,s.most,s.most⟩).pixels at hp
    rw [Im.pixels_of (zZH _ hf),Im.list,List.mem_map] at hp
    obtain ⟨k,_,rfl⟩:=hp
    have e:(zQa s.gw s.gh ⟨s.most,0,0,s.most,s.most⟩).nth k=⟨s.most,0,0,s.most,s.most⟩:=by simp [Im.nth,Im.px,zQa]
    change ((zQa s.gw s.gh ⟨s.most,0,0,s.most,s.most⟩).nth k).fine s.most
    rw [e]
    exact ⟨by simp [Px.ok]; omega,by simp only; omega,by simp only; omega,by simp only; omega,by simp only; omega⟩
  · simp only [Scn.pics,List.mem_map] at hmem
    obtain ⟨k,_,rfl⟩:=hmem
    exact zUF _ _ _ _ _ _ _ _ _ _ hm.1 hm.2 hq p hp
theorem jJV (r:Rw) (push:Bool) (n:Int) (c:Rc) (free:Bool) {most:Int} (h0:0≤most) (h1:most≤65535):0≤(gOp r push n c free most).opac∧(gOp r push n c free most).opac≤65535:=by
  unfold gOp
  simp only
  split
  · have:=zXl (IntKind.wrap .i64 (Int.tdiv r.op 2)) h0 h1
    omega
  · omega
theorem Scn.run_opac (s:Scn):∀ k,∀ o∈(s.run k).1,0≤o.opac∧o.opac≤65535
  | 0,o,ho=>by cases ho
  | k+1,o,ho=>by
    have hm:0≤s.most∧s.most≤65535:=by rcases s.most_in with h | h <;> rw [h] <;> omega
    have ih:=s.run_opac k
    have ho:o∈(s.step (rwAt s.rxs (k*11)) (s.run k)).1:=ho
    unfold Scn.step at ho
    split at ho
    · rcases List.mem_append.1 ho with h | h
      · exact ih o h
      · rw [List.mem_singleton] at h
        subst h
        exact ⟨by decide,by decide⟩
    · rcases List.mem_append.1 ho with h | h
      · exact ih o h
      · rw [List.mem_singleton] at h
        subst h
        exact jJV _ _ _ _ _ hm.1 hm.2
theorem Scn.ops_opac (s:Scn):∀ o∈s.ops,0≤o.opac∧o.opac≤65535:=fun o ho=>by
  rcases List.mem_append.1 (show o∈(s.run (min s.rn 9)).1++List.replicate (s.run (min s.rn 9)).2.length popO from ho) with h | h
  · exact s.run_opac _ o h
  · rw [List.eq_of_mem_replicate h]
    exact ⟨by decide,by decide⟩
def Scn.scr (s:Scn):Scr:=⟨s.bits,s.c,s.gtw,s.gth,s.ord,s.ims,s.ops⟩
theorem Scn.inR (s:Scn):s.scr.inR:=by
  have li:=s.ims_len
  have hol:=s.ops_len
  exact ⟨s.enc (ms:=s.ims) (os:=s.ops) (by omega) (fun m hm=>⟨(s.fine m hm).1,(s.fine m hm).2.1⟩) (by omega) s.ops_fit,s.ims_in,s.ops_opac⟩
theorem zZF {l m:List Int} (h:isB l) (h2:isB m):isB (l++m):=fun v hv=>(List.mem_append.1 hv).elim (h v) (h2 v)
theorem jVV (v:Int) (i:Nat):0≤byI v i∧byI v i≤255:=by
  have w:∀ x:Int,IntKind.wrap .u8 x=x % 256:=fun x=>by simp [IntKind.wrap,IntKind.bits,IntKind.signed]
  unfold byI
  rw [w]
  omega
theorem jYV (v:Int):∀ n,isB (beI n v)
  | 0=>fun _ h=>by cases h
  | n+1=>fun u hu=>by
    rcases List.mem_cons.1 (show u∈byI v n::beI n v from hu) with rfl | hu
    · exact jVV v n
    · exact jYV v n u hu
theorem zWB {α:Type} {f:α→List Int} (h:∀ a,isB (f a)) (l:List α):isB (l.flatMap f):=fun v hv=>by
  obtain ⟨a,_,h2⟩:=List.mem_flatMap.1 hv
  exact h a v h2
theorem zZe (n:Nat) (l:List Int):isB (putL n l):=zWB (fun v=>jYV v n) l
theorem jYU (p:Px):isB (pxB p):=zZe _ _
theorem jKV (m:Im):isB (imB_ m):=by
  unfold imB_
  split
  · exact zZF (zZF (zZe _ _) (zZe _ _)) (jYU _)
  · exact zZF (zZF (zZe _ _) (zZe _ _)) (zWB jYU _)
theorem jKU (o:Oq):isB (opB o):=by
  unfold opB
  exact zZF (zZF (zZF (zZF (zZF (zZe _ _) (zZe _ _)) (zZe _ _)) (zZe _ _)) (zZe _ _)) (zZe _ _)
theorem jXi (s:Scr):isB (encB s):=by
  unfold encB
  refine zZF (zZF (zZF (zZF (zZF (zZF (zZF ?_ (zZe _ _)) (zZe _ _)) (zZe _ _)) (zZe _ _)) (zWB jKV _)) (zZe _ _)) (zWB jKU _)
  intro v hv
  simp only [List.mem_cons,List.not_mem_nil,or_false] at hv
  omega
theorem jQj {b:List Int}:∀ m∈(zQj b).ims,m.isU:=fun m hm=>by
  obtain ⟨i,hi,rfl⟩:=zHw _ _ m hm
  unfold rdIm
  split
  · exact zKs _ _ _
  · exact jXl _ _ _
end Go.Proofs.Ytlnfgagmiogkgaa
namespace Go.Proofs.Ytlnfgagmiogkgaa
open Go.RowKit
set_option linter.unusedVariables false
set_option linter.unusedSimpArgs false
attribute [local irreducible] Ans AnsO AnsG AnsN AnsI
set_option maxRecDepth 4000
structure St where
  r:Rr
  o:List Int
  m:List Im
  p:List Oq
  n:Int
  i:Nat
def J1 (b:List Int) (z:St):Prop:=isB z.r.l∧z.o.length=z.i∧z.i≤n1P b∧((z.r=⟨b.drop (31+4*z.i),false⟩∧z.o=ordL b z.i∧31+4*z.i≤b.length)∨(z.r.bad=true∧¬ zXU b))
def G2 (b:List Int) (y:St):Prop:=y.r=⟨(imsT (bBP b) y.i).2,false⟩∧y.o=ordL b (n1P b)∧y.m=(imsT (bBP b) y.i).1∧y.n=(n2P b:Int)∧∀ q,q < y.i→zQT (imsT (bBP b) q).2
def J2 (b:List Int) (y:St):Prop:=isB y.r.l∧y.m.length=y.i∧(0≤y.n∧y.n≤255)∧(y.i:Int)≤y.n∧(G2 b y∨(y.r.bad=true∧¬ zXU b))
def G3 (b:List Int) (x:St):Prop:=x.r=⟨(bDP b).drop (24*x.i),false⟩∧x.o=ordL b (n1P b)∧x.m=(imsT (bBP b) (n2P b)).1∧x.p=opsL (bDP b) x.i∧x.n=(n3P b:Int)∧24*x.i≤(bDP b).length∧∀ q,q < n2P b→zQT (imsT (bBP b) q).2
def J3 (b:List Int) (x:St):Prop:=isB x.r.l∧x.p.length=x.i∧(0≤x.n∧x.n≤65535)∧(x.i:Int)≤x.n∧(G3 b x∨(x.r.bad=true∧¬ zXU b))
def K1 (b:List Int) (z:St):Prop:=isB z.r.l∧((z.r=⟨bAP b,false⟩∧z.o=ordL b (n1P b))∨(z.r.bad=true∧¬ zXU b))
def K2 (b:List Int) (y:St):Prop:=isB y.r.l∧((y.r=⟨bCP b,false⟩∧y.o=ordL b (n1P b)∧y.m=(imsT (bBP b) (n2P b)).1∧∀ q,q < n2P b→zQT (imsT (bBP b) q).2)∨(y.r.bad=true∧¬ zXU b))
def K3 (b:List Int) (x:St):Prop:=((x.r.bad=false∧(0 < x.r.l.length→¬ zXU b)∧x.o=ordL b (n1P b)∧x.m=(imsT (bBP b) (n2P b)).1∧x.p=opsL (bDP b) (n3P b)∧∀ q,q < n2P b→zQT (imsT (bBP b) q).2)∨(x.r.bad=true∧¬ zXU b))
theorem jYo {l m:List Int} (hl:isB l) (hm:isB m):((strD (u8s l)).toList==(strD (u8s m)).toList)=decide (l=m):=by
  have inj:∀ {l m:List Int},isB l→isB m→(u8s l).map zGX=(u8s m).map zGX→l=m:=by
    intro l
    induction l with
    | nil=>
      intro m _ _ h
      cases m with
      | nil=>rfl
      | cons b m=>cases h
    | cons a l ih=>
      intro m h1 h2 h
      cases m with
      | nil=>cases h
      | cons b m=>
        simp only [u8s,List.map_cons,List.cons.injEq] at h
        have e:=ih (fun v hv=>h1 v (by simp [hv])) (fun v hv=>h2 v (by simp [hv])) h.2
        have ha:=h1 a (by simp)
        have hb:=h2 b (by simp)
        have e2:=congrArg UInt8.toNat h.1
        simp only [zGX,UInt8.toNat_ofNat'] at e2
        rw [e,show a=b by omega]
  unfold strD
  rw [ByteArray.toList_mk,ByteArray.toList_mk,Bool.eq_iff_iff,beq_iff_eq,decide_eq_true_eq]
  exact ⟨fun h=>inj hl hm h,fun h=>by rw [h]⟩
theorem zVU (b:List Int) (d n:Nat) (sg:Bool) (h:1≤n∧n≤4) (hs:sg=true→(n:Int)=4) (hd:d+n≤b.length):AnsG Try.prog 47 1 [AV.one (Cl.ptr 0 0),AV.one (Cl.d (DV.int .i64 (n:Int))),AV.one (Cl.d (DV.bool sg))] [Bx.cells [Cl.d (DV.sl (b.drop d).length (u8s (b.drop d))),Cl.d (DV.bool false)]] ⟨AV.one (Cl.d (DV.int .i64 (if sg=true then sgV (b.drop d) else tkV n (b.drop d)))),[Bx.cells [Cl.d (DV.sl (b.drop (d+n)).length (u8s (b.drop (d+n)))),Cl.d (DV.bool false)]],false⟩:=by
  have:=zQC ⟨b.drop d,false⟩ n sg ⟨by omega,by omega⟩ hs
  have g:=zJl (l:=b.drop d) (n:=n) (by rw [List.length_drop]; omega) sg
  simp only [Int.toNat_natCast,g.1,g.2,List.drop_drop] at this
  exact this
theorem zWm (b:List Int) (d n:Nat) (sg:Bool) (hd:d+n≤b.length):nmR n ⟨b.drop d,false⟩=⟨b.drop (d+n),false⟩∧nmV n sg ⟨b.drop d,false⟩=if sg=true then sgV (b.drop d) else tkV n (b.drop d):=by
  have g:=zJl (l:=b.drop d) (n:=n) (by rw [List.length_drop]; omega) sg
  rw [List.drop_drop] at g
  exact g
theorem jYN {n:Nat} {l:List Int} (h:¬ n≤l.length):(nmR n ⟨l,false⟩).bad=true:=by
  cases e:(nmR n ⟨l,false⟩).bad with
  | true=>rfl
  | false=>exact absurd (jZr e).2 h
theorem jYG {b:List Int} (hB:isB b) (h:zQH b):31+4*n1P b≤b.length:=by
  have h1:=h.1.1.1.2.2.2
  have h2:=h.1.1.1.2.1
  have c1:tkV 4 (b.drop 27)=(n1P b:Int):=by
    have:=zWG (hB.drop 27)
    unfold n1P; omega
  rw [c1,List.length_drop] at h1
  omega
theorem jYH {b:List Int} (h:zQH b):34≤b.length:=by
  have h1:=h.1.1.2.1.1
  have h2:=h.1.2.1.1
  obtain ⟨d,hd⟩:=zUs (bBP b) (n2P b)
  have e1:(bAP b).length=b.length - (31+4*n1P b):=List.length_drop
  have e2:(bBP b).length=(bAP b).length - 1:=List.length_drop
  have e3:(bCP b).length=(bBP b).length - d:=by unfold bCP; rw [hd,List.length_drop]
  omega
theorem jK5 {r:Rr} (h:isB r.l):isB (imRr r).l:=by
  have h3:isB (r3R r).l:=zQG (zQG (zQG h))
  unfold imRr
  split
  · split
    · exact zQG (zQG (zQG (zQG (zQG h3))))
    · split
      · exact h3
      · exact h3.drop _
  · exact h3
theorem jVH {l:List Int} (h:9≤l.length):kR ⟨l,false⟩=tkV 1 l∧wR ⟨l,false⟩=rdW l∧hR ⟨l,false⟩=rdH l∧r3R ⟨l,false⟩=⟨l.drop 9,false⟩:=by
  have g0:=zWm l 0 1 false (by omega)
  have g1:=zWm l 1 4 false (by omega)
  have g5:=zWm l 5 4 false (by omega)
  simp only [List.drop_zero,Nat.reduceAdd,Bool.false_eq_true,if_false] at g0 g1 g5
  unfold kR wR hR r3R rdW rdH
  simp only [g0,g1,g5,and_self]
theorem jK4 {l:List Int} (h:zQT l):imVr ⟨l,false⟩=rdIm l∧imRr ⟨l,false⟩=⟨zQ7 l,false⟩:=by
  obtain ⟨⟨h1,h2,h3,h4,h5⟩,h6⟩:=h
  obtain ⟨e1,e2,e3,e4⟩:=jVH h1
  have hd:hdI ⟨l,false⟩=true:=by
    unfold hdI
    rw [e1,e2,e3]
    exact decide_eq_true ⟨h3,h4,h5,h2⟩
  have en:nI ⟨l,false⟩=rdN l:=by unfold nI rdN; rw [e2,e3]
  unfold imVr imRr rdIm zQ7
  rw [if_pos hd,if_pos hd,e1,e2,e3,e4,en]
  by_cases hk:tkV 1 l=1
  · rw [if_pos hk] at h6
    have p:=jYD (l:=l.drop 9) (by rw [List.length_drop]; omega)
    rw [List.drop_drop] at p
    rw [if_pos hk,if_pos hk,if_pos hk,if_pos hk,p.1,p.2]
    exact ⟨rfl,rfl⟩
  · rw [if_neg hk] at h6
    have sh:shI ⟨l,false⟩=false:=by
      unfold shI
      rw [e4,en]
      refine decide_eq_false ?_
      simp only [List.length_drop]
      omega
    rw [if_neg hk,if_neg hk,if_neg hk,if_neg hk,sh]
    simp only [Bool.false_eq_true,if_false,List.drop_drop]
    exact ⟨trivial,trivial⟩
theorem jVF {l:List Int} (h:¬ zQT l):(imRr ⟨l,false⟩).bad=true:=by
  cases e:(imRr ⟨l,false⟩).bad with
  | true=>rfl
  | false=>
    refine absurd ?_ h
    unfold imRr at e
    by_cases hd:hdI ⟨l,false⟩=true
    · rw [if_pos hd] at e
      have hb:=jZD hd
      have h9:9≤l.length:=by
        have g1:=zXc (k:=0) ⟨hb,Nat.zero_le _⟩
        have g2:=zXc g1
        have g3:=zXc g2
        exact g3.2
      obtain ⟨e1,e2,e3,e4⟩:=jVH h9
      have en:nI ⟨l,false⟩=rdN l:=by unfold nI rdN; rw [e2,e3]
      have hD:=of_decide_eq_true hd
      rw [e1,e2,e3] at hD
      refine ⟨⟨h9,hD.2.2.2,hD.1,hD.2.1,hD.2.2.1⟩,?_⟩
      rw [e1] at e
      by_cases hk:tkV 1 l=1
      · rw [if_pos hk] at e ⊢
        rw [e4] at e
        have:=(jVw e).2
        simp only [List.length_drop] at this
        omega
      · rw [if_neg hk] at e ⊢
        by_cases sh:shI ⟨l,false⟩=true
        · rw [if_pos sh] at e; cases e
        · unfold shI at sh
          rw [e4,en] at sh
          simp only [List.length_drop,decide_eq_true_eq] at sh
          omega
    · rw [if_neg hd] at e; cases e
theorem zUY (s:Scr) (hM:∀ m∈s.ims,m.isU) (hos:s.ord.length≤17592186044416):Ans Try.prog 12 [RV.agg [DV.int .i64 s.bits,DV.int .i64 s.c.a,DV.int .i64 s.c.b,DV.int .i64 s.c.c,DV.int .i64 s.c.d,DV.int .i64 s.tw,DV.int .i64 s.th,DV.sl s.ord.length (is s.ord),DV.sl s.ims.length (ims s.ims),DV.sl s.ops.length (ops s.ops)]] (RV.tup [RV.d (DV.sl ((encS s).1.length) (u8s (encS s).1)),RV.d (DV.int .i64 ((encS s).2))]):=(zJB s hM hos).ans rfl rfl
def jVN:Gam where
 pure:=fun f xs=>
  if f=12 then (match xs with | [.agg [.int _ bits,.int _ cx0,.int _ cy0,.int _ cx1,.int _ cy1,.int _ tw,.int _ th,.sl on oxs,.sl mn mxs,.sl pn pxs]]=>some (RV.tup [RV.d (dS ((encS (⟨bits,⟨cx0,cy0,cx1,cy1⟩,tw,th,ints oxs,zQv mxs,zQp pxs⟩:Scr)).1.length) (u8s (encS (⟨bits,⟨cx0,cy0,cx1,cy1⟩,tw,th,ints oxs,zQv mxs,zQp pxs⟩:Scr)).1)),rJ (((encS (⟨bits,⟨cx0,cy0,cx1,cy1⟩,tw,th,ints oxs,zQv mxs,zQp pxs⟩:Scr)).2))]) | _=>none) else
  none
 modes:=fun f=>
  if f=47 then some ([false,true,true],1,0) else
  if f=48 then some ([false],1,0) else
  if f=49 then some ([false],1,0) else
  none
 proc:=fun f xs bs=>
  if f=47 then (match xs,bs with | [AV.one (Cl.ptr 0 0),AV.one (Cl.d (DV.int _ n)),AV.one (Cl.d (DV.bool sg))],[Bx.cells [Cl.d (DV.sl bn bxs),Cl.d (DV.bool bad)]]=>some ⟨aJ (((nmV n.toNat sg (⟨ints bxs,bad⟩:Rr)))),[bC [Cl.d (dS ((nmR n.toNat (⟨ints bxs,bad⟩:Rr)).l.length) (u8s (nmR n.toNat (⟨ints bxs,bad⟩:Rr)).l)),Cl.d (dQ ((nmR n.toNat (⟨ints bxs,bad⟩:Rr)).bad))]],false⟩ | _,_=>none) else
  if f=48 then (match xs,bs with | [AV.one (Cl.ptr 0 0)],[Bx.cells [Cl.d (DV.sl bn bxs),Cl.d (DV.bool bad)]]=>some ⟨AV.agg [cJ (((imVr (⟨ints bxs,bad⟩:Rr)).w)),cJ (((imVr (⟨ints bxs,bad⟩:Rr)).h)),Cl.d (dQ ((imVr (⟨ints bxs,bad⟩:Rr)).so)),cK (((imVr (⟨ints bxs,bad⟩:Rr)).c.a)),cK (((imVr (⟨ints bxs,bad⟩:Rr)).c.b)),cK (((imVr (⟨ints bxs,bad⟩:Rr)).c.c)),cK (((imVr (⟨ints bxs,bad⟩:Rr)).c.al)),cK (((imVr (⟨ints bxs,bad⟩:Rr)).c.f)),cJ (((imVr (⟨ints bxs,bad⟩:Rr)).p0.w)),cJ (((imVr (⟨ints bxs,bad⟩:Rr)).p0.h)),cJ (((imVr (⟨ints bxs,bad⟩:Rr)).p0.s)),Cl.d (dS ((imVr (⟨ints bxs,bad⟩:Rr)).p0.n) ((imVr (⟨ints bxs,bad⟩:Rr)).p0.xs)),cJ (((imVr (⟨ints bxs,bad⟩:Rr)).p1.w)),cJ (((imVr (⟨ints bxs,bad⟩:Rr)).p1.h)),cJ (((imVr (⟨ints bxs,bad⟩:Rr)).p1.s)),Cl.d (dS ((imVr (⟨ints bxs,bad⟩:Rr)).p1.n) ((imVr (⟨ints bxs,bad⟩:Rr)).p1.xs)),cJ (((imVr (⟨ints bxs,bad⟩:Rr)).p2.w)),cJ (((imVr (⟨ints bxs,bad⟩:Rr)).p2.h)),cJ (((imVr (⟨ints bxs,bad⟩:Rr)).p2.s)),Cl.d (dS ((imVr (⟨ints bxs,bad⟩:Rr)).p2.n) ((imVr (⟨ints bxs,bad⟩:Rr)).p2.xs)),cJ (((imVr (⟨ints bxs,bad⟩:Rr)).p3.w)),cJ (((imVr (⟨ints bxs,bad⟩:Rr)).p3.h)),cJ (((imVr (⟨ints bxs,bad⟩:Rr)).p3.s)),Cl.d (dS ((imVr (⟨ints bxs,bad⟩:Rr)).p3.n) ((imVr (⟨ints bxs,bad⟩:Rr)).p3.xs)),cJ (((imVr (⟨ints bxs,bad⟩:Rr)).p4.w)),cJ (((imVr (⟨ints bxs,bad⟩:Rr)).p4.h)),cJ (((imVr (⟨ints bxs,bad⟩:Rr)).p4.s)),Cl.d (dS ((imVr (⟨ints bxs,bad⟩:Rr)).p4.n) ((imVr (⟨ints bxs,bad⟩:Rr)).p4.xs))],[bC [Cl.d (dS ((imRr (⟨ints bxs,bad⟩:Rr)).l.length) (u8s (imRr (⟨ints bxs,bad⟩:Rr)).l)),Cl.d (dQ ((imRr (⟨ints bxs,bad⟩:Rr)).bad))]],false⟩ | _,_=>none) else
  if f=49 then (match xs,bs with | [AV.one (Cl.ptr 0 0)],[Bx.cells [Cl.d (DV.sl bn bxs),Cl.d (DV.bool bad)]]=>some ⟨AV.agg [cJ (((opVr (⟨ints bxs,bad⟩:Rr)).kind)),cJ (((opVr (⟨ints bxs,bad⟩:Rr)).image)),cJ (((opVr (⟨ints bxs,bad⟩:Rr)).x)),cJ (((opVr (⟨ints bxs,bad⟩:Rr)).y)),cJ (((opVr (⟨ints bxs,bad⟩:Rr)).mask)),cJ (((opVr (⟨ints bxs,bad⟩:Rr)).mx)),cJ (((opVr (⟨ints bxs,bad⟩:Rr)).my)),cK (((opVr (⟨ints bxs,bad⟩:Rr)).opac)),cJ (((opVr (⟨ints bxs,bad⟩:Rr)).oper)),cJ (((opVr (⟨ints bxs,bad⟩:Rr)).mode)),Cl.d (dQ ((opVr (⟨ints bxs,bad⟩:Rr)).iso)),Cl.d (dQ ((opVr (⟨ints bxs,bad⟩:Rr)).kno))],[bC [Cl.d (dS ((opRr (⟨ints bxs,bad⟩:Rr)).l.length) (u8s (opRr (⟨ints bxs,bad⟩:Rr)).l)),Cl.d (dQ ((opRr (⟨ints bxs,bad⟩:Rr)).bad))]],false⟩ | _,_=>none) else
  none
 iter:=fun f cs=>
  none
def zKm (b:List Int):Ann:=let zz0:=(0,AV.one (Cl.d (dS b.length (u8s b)))); let zz1:=[zz0,(2,AV.one (Cl.ptr 2 0)),(4,AV.one (Cl.ptr 30 0)),(5,AV.one (Cl.ptr 5 0))]; let zz2:=(2,bC [cJ (0),cJ (0),cJ (0),cJ (0),cJ (0),cJ (0),cJ (0),Cl.nil,Cl.nil,Cl.nil]); let zz3:=(dJ (tkV 1 (b.drop 2))); let zz4:=(dJ (sgV (b.drop 3))); let zz5:=(dJ (sgV (b.drop 7))); let zz6:=(dJ (sgV (b.drop 11))); let zz7:=(dJ (sgV (b.drop 15))); let zz8:=(dJ (tkV 4 (b.drop 19))); let zz9:=(dJ (tkV 4 (b.drop 23))); (Ann.seq Ann.leaf (Ann.seq Ann.leaf (Ann.seq Ann.leaf (Ann.cut ⟨Unit,fun u1:Unit=>34≤b.length∧b.length≤67108864∧tkV 1 b=76∧tkV 1 (b.drop 1)=67,fun u1:Unit=>⟨zz1,[zz2,(30,bC [Cl.d (dS ((b.drop 3).length) (u8s (b.drop 3))),Cl.d (dQ false)]),(5,bC [Cl.d zz3,cJ (0),cJ (0),cJ (0),cJ (0),cJ (0),cJ (0),Cl.nil,Cl.nil,Cl.nil])]⟩,fun u1:Unit=>0⟩ Ann.leaf fun u1=>(Ann.cut ⟨Unit,fun u2:Unit=>34≤b.length∧b.length≤67108864∧tkV 1 b=76∧tkV 1 (b.drop 1)=67,fun u2:Unit=>⟨zz1,[zz2,(30,bC [Cl.d (dS ((b.drop 19).length) (u8s (b.drop 19))),Cl.d (dQ false)]),(5,bC [Cl.d zz3,Cl.d zz4,Cl.d zz5,Cl.d zz6,Cl.d zz7,cJ (0),cJ (0),Cl.nil,Cl.nil,Cl.nil])]⟩,fun u2:Unit=>0⟩ Ann.leaf fun u2=>(Ann.cut ⟨Unit,fun u3:Unit=>34≤b.length∧b.length≤67108864∧tkV 1 b=76∧tkV 1 (b.drop 1)=67,fun u3:Unit=>⟨zz1,[zz2,(30,bC [Cl.d (dS ((b.drop 27).length) (u8s (b.drop 27))),Cl.d (dQ false)]),(5,bC [Cl.d zz3,Cl.d zz4,Cl.d zz5,Cl.d zz6,Cl.d zz7,Cl.d zz8,Cl.d zz9,Cl.nil,Cl.nil,Cl.nil])]⟩,fun u3:Unit=>0⟩ Ann.leaf fun u3=>(Ann.seq Ann.leaf (Ann.cut ⟨St,fun z1:St=>K1 b z1,fun z1:St=>⟨zz1,[zz2,(30,bC [Cl.d (dS ((z1.r).l.length) (u8s (z1.r).l)),Cl.d (dQ ((z1.r).bad))]),(5,bC [Cl.d zz3,Cl.d zz4,Cl.d zz5,Cl.d zz6,Cl.d zz7,Cl.d zz8,Cl.d zz9,Cl.ref 9111 z1.o.length,Cl.nil,Cl.nil]),(9111,Bx.row 3 1 (is z1.o))]⟩,fun z1:St=>0⟩ (Ann.seq Ann.leaf (Ann.loop ⟨St,fun z:St=>J1 b z,fun z:St=>⟨[zz0,(2,AV.one (Cl.ptr 2 0)),(4,AV.one (Cl.ptr 30 0)),(5,AV.one (Cl.ptr 5 0)),(6,aJ (((n1P b:Int)))),(7,aJ (((z.i:Int))))],[zz2,(30,bC [Cl.d (dS ((z.r).l.length) (u8s (z.r).l)),Cl.d (dQ ((z.r).bad))]),(5,bC [Cl.d zz3,Cl.d zz4,Cl.d zz5,Cl.d zz6,Cl.d zz7,Cl.d zz8,Cl.d zz9,Cl.ref 9001 z.o.length,Cl.nil,Cl.nil]),(9001,Bx.row 3 1 (is z.o))]⟩,fun z:St=>n1P b - z.i⟩ fun z=>Ann.leaf)) fun z1=>(Ann.seq Ann.leaf (Ann.cut ⟨St,fun y1:St=>K2 b y1,fun y1:St=>⟨zz1,[zz2,(30,bC [Cl.d (dS ((y1.r).l.length) (u8s (y1.r).l)),Cl.d (dQ ((y1.r).bad))]),(5,bC [Cl.d zz3,Cl.d zz4,Cl.d zz5,Cl.d zz6,Cl.d zz7,Cl.d zz8,Cl.d zz9,Cl.ref 9121 y1.o.length,Cl.ref 9122 y1.m.length,Cl.nil]),(9121,Bx.row 3 1 (is y1.o)),(9122,Bx.row 43 28 (ims y1.m))]⟩,fun y1:St=>0⟩ (Ann.seq Ann.leaf (Ann.loop ⟨St,fun y:St=>J2 b y,fun y:St=>⟨[zz0,(2,AV.one (Cl.ptr 2 0)),(4,AV.one (Cl.ptr 30 0)),(5,AV.one (Cl.ptr 5 0)),(6,aJ ((y.n))),(8,aJ (((y.i:Int))))],[zz2,(30,bC [Cl.d (dS ((y.r).l.length) (u8s (y.r).l)),Cl.d (dQ ((y.r).bad))]),(5,bC [Cl.d zz3,Cl.d zz4,Cl.d zz5,Cl.d zz6,Cl.d zz7,Cl.d zz8,Cl.d zz9,Cl.ref 9001 y.o.length,Cl.ref 9002 y.m.length,Cl.nil]),(9001,Bx.row 3 1 (is y.o)),(9002,Bx.row 43 28 (ims y.m))]⟩,fun y:St=>y.n.toNat - y.i⟩ fun y=>Ann.leaf)) fun y1=>(Ann.seq Ann.leaf (Ann.cut ⟨St,fun x1:St=>K3 b x1,fun x1:St=>⟨zz1,[zz2,(30,bC [Cl.d (dS ((x1.r).l.length) (u8s (x1.r).l)),Cl.d (dQ ((x1.r).bad))]),(5,bC [Cl.d zz3,Cl.d zz4,Cl.d zz5,Cl.d zz6,Cl.d zz7,Cl.d zz8,Cl.d zz9,Cl.ref 9131 x1.o.length,Cl.ref 9132 x1.m.length,Cl.ref 9133 x1.p.length]),(9131,Bx.row 3 1 (is x1.o)),(9132,Bx.row 43 28 (ims x1.m)),(9133,Bx.row 55 12 (ops x1.p))]⟩,fun x1:St=>0⟩ (Ann.seq Ann.leaf (Ann.loop ⟨St,fun x:St=>J3 b x,fun x:St=>⟨[zz0,(2,AV.one (Cl.ptr 2 0)),(4,AV.one (Cl.ptr 30 0)),(5,AV.one (Cl.ptr 5 0)),(6,aJ ((x.n))),(9,aJ (((x.i:Int))))],[zz2,(30,bC [Cl.d (dS ((x.r).l.length) (u8s (x.r).l)),Cl.d (dQ ((x.r).bad))]),(5,bC [Cl.d zz3,Cl.d zz4,Cl.d zz5,Cl.d zz6,Cl.d zz7,Cl.d zz8,Cl.d zz9,Cl.ref 9001 x.o.length,Cl.ref 9002 x.m.length,Cl.ref 9003 x.p.length]),(9001,Bx.row 3 1 (is x.o)),(9002,Bx.row 43 28 (ims x.m)),(9003,Bx.row 55 12 (ops x.p))]⟩,fun x:St=>x.n.toNat - x.i⟩ fun x=>Ann.leaf)) fun x1=>Ann.leaf))))))))))))
theorem zHP (b:List Int):vcg Try.prog jVN 142 (zQl Try.f20) (zKm b) kn0 (zQN [RV.d (DV.sl b.length (u8s b))]) (post Try.prog Try.f20.results.toList (·=RV.tup [RV.agg [DV.int .i64 ((decR (ints (u8s b))).bits),DV.int .i64 ((decR (ints (u8s b))).c.a),DV.int .i64 ((decR (ints (u8s b))).c.b),DV.int .i64 ((decR (ints (u8s b))).c.c),DV.int .i64 ((decR (ints (u8s b))).c.d),DV.int .i64 ((decR (ints (u8s b))).tw),DV.int .i64 ((decR (ints (u8s b))).th),DV.sl ((decR (ints (u8s b))).ord.length) (is (decR (ints (u8s b))).ord),DV.sl ((decR (ints (u8s b))).ims.length) (ims (decR (ints (u8s b))).ims),DV.sl ((decR (ints (u8s b))).ops.length) (ops (decR (ints (u8s b))).ops)],RV.d (DV.int .i64 (decE (ints (u8s b))))])) =
  (let zz0:=(List.take (((2:Int) - (0:Int)).toNat*1) (List.drop ((0:Int).toNat*1) (u8s b))); let zz1:=[RV.agg [dJ 0,dJ 0,dJ 0,dJ 0,dJ 0,dJ 0,dJ 0,dS 0 ([]),dS 0 ([]),dS 0 ([])],rJ (19)]; let zz2:=[RV.agg [dJ ((decR (iU (b))).bits),dJ ((decR (iU (b))).c.a),dJ ((decR (iU (b))).c.b),dJ ((decR (iU (b))).c.c),dJ ((decR (iU (b))).c.d),dJ ((decR (iU (b))).tw),dJ ((decR (iU (b))).th),dS ((decR (iU (b))).ord.length) (is (decR (iU (b))).ord),dS ((decR (iU (b))).ims.length) (ims (decR (iU (b))).ims),dS ((decR (iU (b))).ops.length) (ops (decR (iU (b))).ops)],rJ ((decE (iU (b))))]; let zz3:=[aPz,aJ ((1)),AV.one (Cl.d (dQ false))]; let zz4:=(34≤b.length∧b.length≤67108864∧tkV 1 b=76∧tkV 1 (b.drop 1)=67); let zz5:=(dS b.length (u8s b)=dS b.length (u8s b)); let zz6:=(zz5∧(0=0)∧(0=0)∧(0=0)∧True); let zz7:=(dJ 0=dJ 0); let zz8:=(zz7∧zz7∧zz7∧zz7∧zz7∧zz7∧zz7∧tU3 (True)); let zz9:=(dJ 0=dJ 0); let zz10:=(cJ (4)); let zz11:=[aPz,AV.one zz10,AV.one (Cl.d (dQ true))]; let zz12:=[bC [Cl.d (dS ((nmR 4 (⟨iU ((b.drop 3)),false⟩:Rr)).l.length) (u8s (nmR 4 (⟨iU ((b.drop 3)),false⟩:Rr)).l)),Cl.d (dQ ((nmR 4 (⟨iU ((b.drop 3)),false⟩:Rr)).bad))]]; let zz13:=[bC [Cl.d (dS ((nmR 4 (⟨iU ((nmR 4 (⟨iU ((b.drop 3)),false⟩:Rr)).l),((nmR 4 (⟨iU ((b.drop 3)),false⟩:Rr)).bad)⟩:Rr)).l.length) (u8s (nmR 4 (⟨iU ((nmR 4 (⟨iU ((b.drop 3)),false⟩:Rr)).l),((nmR 4 (⟨iU ((b.drop 3)),false⟩:Rr)).bad)⟩:Rr)).l)),Cl.d (dQ ((nmR 4 (⟨iU ((nmR 4 (⟨iU ((b.drop 3)),false⟩:Rr)).l),((nmR 4 (⟨iU ((b.drop 3)),false⟩:Rr)).bad)⟩:Rr)).bad))]]; let zz14:=[bC [Cl.d (dS ((nmR 4 (⟨iU ((nmR 4 (⟨iU ((nmR 4 (⟨iU ((b.drop 3)),false⟩:Rr)).l),((nmR 4 (⟨iU ((b.drop 3)),false⟩:Rr)).bad)⟩:Rr)).l),((nmR 4 (⟨iU ((nmR 4 (⟨iU ((b.drop 3)),false⟩:Rr)).l),((nmR 4 (⟨iU ((b.drop 3)),false⟩:Rr)).bad)⟩:Rr)).bad)⟩:Rr)).l.length) (u8s (nmR 4 (⟨iU ((nmR 4 (⟨iU ((nmR 4 (⟨iU ((b.drop 3)),false⟩:Rr)).l),((nmR 4 (⟨iU ((b.drop 3)),false⟩:Rr)).bad)⟩:Rr)).l),((nmR 4 (⟨iU ((nmR 4 (⟨iU ((b.drop 3)),false⟩:Rr)).l),((nmR 4 (⟨iU ((b.drop 3)),false⟩:Rr)).bad)⟩:Rr)).bad)⟩:Rr)).l)),Cl.d (dQ ((nmR 4 (⟨iU ((nmR 4 (⟨iU ((nmR 4 (⟨iU ((b.drop 3)),false⟩:Rr)).l),((nmR 4 (⟨iU ((b.drop 3)),false⟩:Rr)).bad)⟩:Rr)).l),((nmR 4 (⟨iU ((nmR 4 (⟨iU ((b.drop 3)),false⟩:Rr)).l),((nmR 4 (⟨iU ((b.drop 3)),false⟩:Rr)).bad)⟩:Rr)).bad)⟩:Rr)).bad))]]; let zz15:=(dJ (tkV 1 (b.drop 2))=dJ (tkV 1 (b.drop 2))); let zz16:=(dJ 0=dJ 0); let zz17:=[aPz,AV.one zz10,AV.one (Cl.d (dQ false))]; let zz18:=[bC [Cl.d (dS ((nmR 4 (⟨iU ((b.drop 19)),false⟩:Rr)).l.length) (u8s (nmR 4 (⟨iU ((b.drop 19)),false⟩:Rr)).l)),Cl.d (dQ ((nmR 4 (⟨iU ((b.drop 19)),false⟩:Rr)).bad))]]; let zz19:=(dJ (sgV (b.drop 3))=dJ (sgV (b.drop 3))); let zz20:=(dJ (sgV (b.drop 7))=dJ (sgV (b.drop 7))); let zz21:=(dJ (sgV (b.drop 11))=dJ (sgV (b.drop 11))); let zz22:=(dJ (sgV (b.drop 15))=dJ (sgV (b.drop 15))); let zz23:=fun (z:St)=>[dS ((z.r).l.length) (u8s (z.r).l),dQ ((z.r).bad)]; let zz24:=(dJ (tkV 4 (b.drop 19))=dJ (tkV 4 (b.drop 19))); let zz25:=(dJ (tkV 4 (b.drop 23))=dJ (tkV 4 (b.drop 23))); let zz26:=fun (z:St)=>fun (z1:St)=>(zz6∧(zz8∧((zz23 z)=[dS ((z1.r).l.length) (u8s (z1.r).l),dQ ((z1.r).bad)])∧(zz15∧zz19∧zz20∧zz21∧zz22∧zz24∧zz25∧(z.o.length=z1.o.length)∧tU2 (True))∧(is z.o=is z1.o)∧True)); let zz27:=fun (y:St)=>[dS ((y.r).l.length) (u8s (y.r).l),dQ ((y.r).bad)]; let zz28:=fun (y:St)=>fun (y1:St)=>(zz6∧(zz8∧((zz27 y)=[dS ((y1.r).l.length) (u8s (y1.r).l),dQ ((y1.r).bad)])∧(zz15∧zz19∧zz20∧zz21∧zz22∧zz24∧zz25∧(y.o.length=y1.o.length)∧(y.m.length=y1.m.length)∧True∧True)∧(is y.o=is y1.o)∧(ims y.m=ims y1.m)∧True)); let zz29:=fun (x:St)=>[dS ((x.r).l.length) (u8s (x.r).l),dQ ((x.r).bad)]; let zz30:=fun (x:St)=>fun (x1:St)=>(zz6∧(zz8∧((zz29 x)=[dS ((x1.r).l.length) (u8s (x1.r).l),dQ ((x1.r).bad)])∧(zz15∧zz19∧zz20∧zz21∧zz22∧zz24∧zz25∧(x.o.length=x1.o.length)∧(x.m.length=x1.m.length)∧(x.p.length=x1.p.length)∧True)∧(is x.o=is x1.o)∧(ims x.m=ims x1.m)∧(ops x.p=ops x1.p)∧True)); let zz31:=fun (x1:St)=>[dJ (tkV 1 (b.drop 2)),dJ (sgV (b.drop 3)),dJ (sgV (b.drop 7)),dJ (sgV (b.drop 11)),dJ (sgV (b.drop 15)),dJ (tkV 4 (b.drop 19)),dJ (tkV 4 (b.drop 23)),dS x1.o.length (is x1.o),dS x1.m.length (ims x1.m),dS x1.p.length (ops x1.p)]; tU6 ((((decide ((b.length:Int) < (34:Int)))=false→tU5 ((((decide ((b.length:Int) > (67108864:Int)))=false→True∧(0≤(0:Int)∧(0:Int)≤(2:Int)∧(2:Int)≤(b.length:Int))∧(((2:Int) - (0:Int)).toNat=zz0.length∧zXZ zz0)∧tU2 ((((!((strD zz0).toList==(⟨#[76,67]⟩:ByteArray).toList))=true→tU3 (RV.tup zz1=RV.tup zz2))∧((!((strD zz0).toList==(⟨#[76,67]⟩:ByteArray).toList))=false→True∧(0≤(2:Int)∧(2:Int)≤(b.length:Int)∧(b.length:Int)≤(b.length:Int))∧tU3 ((True∧(AnsG Try.prog 47 1 zz3 [bC [Cl.d (dS (((b.length:Int) - (2:Int)).toNat) (List.take (((b.length:Int) - (2:Int)).toNat*1) (List.drop ((2:Int).toNat*1) (u8s b)))),Cl.d (dQ false)]] ⟨aJ (((nmV 1 false (⟨ints (List.take (((b.length:Int) - (2:Int)).toNat*1) (List.drop ((2:Int).toNat*1) (u8s b))),false⟩:Rr)))),[bC [Cl.d (dS ((nmR 1 (⟨ints (List.take (((b.length:Int) - (2:Int)).toNat*1) (List.drop ((2:Int).toNat*1) (u8s b))),false⟩:Rr)).l.length) (u8s (nmR 1 (⟨ints (List.take (((b.length:Int) - (2:Int)).toNat*1) (List.drop ((2:Int).toNat*1) (u8s b))),false⟩:Rr)).l)),Cl.d (dQ ((nmR 1 (⟨ints (List.take (((b.length:Int) - (2:Int)).toNat*1) (List.drop ((2:Int).toNat*1) (u8s b))),false⟩:Rr)).bad))]],false⟩)∧tU3 (∃ u1:Unit,zz4∧(zz6∧(zz8∧([dS ((nmR 1 (⟨ints (List.take (((b.length:Int) - (2:Int)).toNat*1) (List.drop ((2:Int).toNat*1) (u8s b))),false⟩:Rr)).l.length) (u8s (nmR 1 (⟨ints (List.take (((b.length:Int) - (2:Int)).toNat*1) (List.drop ((2:Int).toNat*1) (u8s b))),false⟩:Rr)).l),dQ ((nmR 1 (⟨ints (List.take (((b.length:Int) - (2:Int)).toNat*1) (List.drop ((2:Int).toNat*1) (u8s b))),false⟩:Rr)).bad)]=[dS ((b.drop 3).length) (u8s (b.drop 3)),dQ false])∧((dJ (nmV 1 false (⟨ints (List.take (((b.length:Int) - (2:Int)).toNat*1) (List.drop ((2:Int).toNat*1) (u8s b))),false⟩:Rr))=dJ (tkV 1 (b.drop 2)))∧zz9∧zz9∧zz9∧zz9∧zz9∧zz9∧tU3 (True))∧True))))∧∀ u1:Unit,zz4→(True∧(AnsG Try.prog 47 1 zz11 [bC [Cl.d (dS ((b.drop 3).length) (u8s (b.drop 3))),Cl.d (dQ false)]] ⟨aJ (((nmV 4 true (⟨iU ((b.drop 3)),false⟩:Rr)))),zz12,false⟩)∧True∧(AnsG Try.prog 47 1 zz11 zz12 ⟨aJ (((nmV 4 true (⟨iU ((nmR 4 (⟨iU ((b.drop 3)),false⟩:Rr)).l),((nmR 4 (⟨iU ((b.drop 3)),false⟩:Rr)).bad)⟩:Rr)))),zz13,false⟩)∧True∧(AnsG Try.prog 47 1 zz11 zz13 ⟨aJ (((nmV 4 true (⟨iU ((nmR 4 (⟨iU ((nmR 4 (⟨iU ((b.drop 3)),false⟩:Rr)).l),((nmR 4 (⟨iU ((b.drop 3)),false⟩:Rr)).bad)⟩:Rr)).l),((nmR 4 (⟨iU ((nmR 4 (⟨iU ((b.drop 3)),false⟩:Rr)).l),((nmR 4 (⟨iU ((b.drop 3)),false⟩:Rr)).bad)⟩:Rr)).bad)⟩:Rr)))),zz14,false⟩)∧True∧(AnsG Try.prog 47 1 zz11 zz14 ⟨aJ (((nmV 4 true (⟨iU ((nmR 4 (⟨iU ((nmR 4 (⟨iU ((nmR 4 (⟨iU ((b.drop 3)),false⟩:Rr)).l),((nmR 4 (⟨iU ((b.drop 3)),false⟩:Rr)).bad)⟩:Rr)).l),((nmR 4 (⟨iU ((nmR 4 (⟨iU ((b.drop 3)),false⟩:Rr)).l),((nmR 4 (⟨iU ((b.drop 3)),false⟩:Rr)).bad)⟩:Rr)).bad)⟩:Rr)).l),((nmR 4 (⟨iU ((nmR 4 (⟨iU ((nmR 4 (⟨iU ((b.drop 3)),false⟩:Rr)).l),((nmR 4 (⟨iU ((b.drop 3)),false⟩:Rr)).bad)⟩:Rr)).l),((nmR 4 (⟨iU ((nmR 4 (⟨iU ((b.drop 3)),false⟩:Rr)).l),((nmR 4 (⟨iU ((b.drop 3)),false⟩:Rr)).bad)⟩:Rr)).bad)⟩:Rr)).bad)⟩:Rr)))),[bC [Cl.d (dS ((nmR 4 (⟨iU ((nmR 4 (⟨iU ((nmR 4 (⟨iU ((nmR 4 (⟨iU ((b.drop 3)),false⟩:Rr)).l),((nmR 4 (⟨iU ((b.drop 3)),false⟩:Rr)).bad)⟩:Rr)).l),((nmR 4 (⟨iU ((nmR 4 (⟨iU ((b.drop 3)),false⟩:Rr)).l),((nmR 4 (⟨iU ((b.drop 3)),false⟩:Rr)).bad)⟩:Rr)).bad)⟩:Rr)).l),((nmR 4 (⟨iU ((nmR 4 (⟨iU ((nmR 4 (⟨iU ((b.drop 3)),false⟩:Rr)).l),((nmR 4 (⟨iU ((b.drop 3)),false⟩:Rr)).bad)⟩:Rr)).l),((nmR 4 (⟨iU ((nmR 4 (⟨iU ((b.drop 3)),false⟩:Rr)).l),((nmR 4 (⟨iU ((b.drop 3)),false⟩:Rr)).bad)⟩:Rr)).bad)⟩:Rr)).bad)⟩:Rr)).l.length) (u8s (nmR 4 (⟨iU ((nmR 4 (⟨iU ((nmR 4 (⟨iU ((nmR 4 (⟨iU ((b.drop 3)),false⟩:Rr)).l),((nmR 4 (⟨iU ((b.drop 3)),false⟩:Rr)).bad)⟩:Rr)).l),((nmR 4 (⟨iU ((nmR 4 (⟨iU ((b.drop 3)),false⟩:Rr)).l),((nmR 4 (⟨iU ((b.drop 3)),false⟩:Rr)).bad)⟩:Rr)).bad)⟩:Rr)).l),((nmR 4 (⟨iU ((nmR 4 (⟨iU ((nmR 4 (⟨iU ((b.drop 3)),false⟩:Rr)).l),((nmR 4 (⟨iU ((b.drop 3)),false⟩:Rr)).bad)⟩:Rr)).l),((nmR 4 (⟨iU ((nmR 4 (⟨iU ((b.drop 3)),false⟩:Rr)).l),((nmR 4 (⟨iU ((b.drop 3)),false⟩:Rr)).bad)⟩:Rr)).bad)⟩:Rr)).bad)⟩:Rr)).l)),Cl.d (dQ ((nmR 4 (⟨iU ((nmR 4 (⟨iU ((nmR 4 (⟨iU ((nmR 4 (⟨iU ((b.drop 3)),false⟩:Rr)).l),((nmR 4 (⟨iU ((b.drop 3)),false⟩:Rr)).bad)⟩:Rr)).l),((nmR 4 (⟨iU ((nmR 4 (⟨iU ((b.drop 3)),false⟩:Rr)).l),((nmR 4 (⟨iU ((b.drop 3)),false⟩:Rr)).bad)⟩:Rr)).bad)⟩:Rr)).l),((nmR 4 (⟨iU ((nmR 4 (⟨iU ((nmR 4 (⟨iU ((b.drop 3)),false⟩:Rr)).l),((nmR 4 (⟨iU ((b.drop 3)),false⟩:Rr)).bad)⟩:Rr)).l),((nmR 4 (⟨iU ((nmR 4 (⟨iU ((b.drop 3)),false⟩:Rr)).l),((nmR 4 (⟨iU ((b.drop 3)),false⟩:Rr)).bad)⟩:Rr)).bad)⟩:Rr)).bad)⟩:Rr)).bad))]],false⟩)∧tU3 (∃ u2:Unit,zz4∧(zz6∧(zz8∧([dS ((nmR 4 (⟨iU ((nmR 4 (⟨iU ((nmR 4 (⟨iU ((nmR 4 (⟨iU ((b.drop 3)),false⟩:Rr)).l),((nmR 4 (⟨iU ((b.drop 3)),false⟩:Rr)).bad)⟩:Rr)).l),((nmR 4 (⟨iU ((nmR 4 (⟨iU ((b.drop 3)),false⟩:Rr)).l),((nmR 4 (⟨iU ((b.drop 3)),false⟩:Rr)).bad)⟩:Rr)).bad)⟩:Rr)).l),((nmR 4 (⟨iU ((nmR 4 (⟨iU ((nmR 4 (⟨iU ((b.drop 3)),false⟩:Rr)).l),((nmR 4 (⟨iU ((b.drop 3)),false⟩:Rr)).bad)⟩:Rr)).l),((nmR 4 (⟨iU ((nmR 4 (⟨iU ((b.drop 3)),false⟩:Rr)).l),((nmR 4 (⟨iU ((b.drop 3)),false⟩:Rr)).bad)⟩:Rr)).bad)⟩:Rr)).bad)⟩:Rr)).l.length) (u8s (nmR 4 (⟨iU ((nmR 4 (⟨iU ((nmR 4 (⟨iU ((nmR 4 (⟨iU ((b.drop 3)),false⟩:Rr)).l),((nmR 4 (⟨iU ((b.drop 3)),false⟩:Rr)).bad)⟩:Rr)).l),((nmR 4 (⟨iU ((nmR 4 (⟨iU ((b.drop 3)),false⟩:Rr)).l),((nmR 4 (⟨iU ((b.drop 3)),false⟩:Rr)).bad)⟩:Rr)).bad)⟩:Rr)).l),((nmR 4 (⟨iU ((nmR 4 (⟨iU ((nmR 4 (⟨iU ((b.drop 3)),false⟩:Rr)).l),((nmR 4 (⟨iU ((b.drop 3)),false⟩:Rr)).bad)⟩:Rr)).l),((nmR 4 (⟨iU ((nmR 4 (⟨iU ((b.drop 3)),false⟩:Rr)).l),((nmR 4 (⟨iU ((b.drop 3)),false⟩:Rr)).bad)⟩:Rr)).bad)⟩:Rr)).bad)⟩:Rr)).l),dQ ((nmR 4 (⟨iU ((nmR 4 (⟨iU ((nmR 4 (⟨iU ((nmR 4 (⟨iU ((b.drop 3)),false⟩:Rr)).l),((nmR 4 (⟨iU ((b.drop 3)),false⟩:Rr)).bad)⟩:Rr)).l),((nmR 4 (⟨iU ((nmR 4 (⟨iU ((b.drop 3)),false⟩:Rr)).l),((nmR 4 (⟨iU ((b.drop 3)),false⟩:Rr)).bad)⟩:Rr)).bad)⟩:Rr)).l),((nmR 4 (⟨iU ((nmR 4 (⟨iU ((nmR 4 (⟨iU ((b.drop 3)),false⟩:Rr)).l),((nmR 4 (⟨iU ((b.drop 3)),false⟩:Rr)).bad)⟩:Rr)).l),((nmR 4 (⟨iU ((nmR 4 (⟨iU ((b.drop 3)),false⟩:Rr)).l),((nmR 4 (⟨iU ((b.drop 3)),false⟩:Rr)).bad)⟩:Rr)).bad)⟩:Rr)).bad)⟩:Rr)).bad)]=[dS ((b.drop 19).length) (u8s (b.drop 19)),dQ false])∧(zz15∧(dJ (nmV 4 true (⟨iU ((b.drop 3)),false⟩:Rr))=dJ (sgV (b.drop 3)))∧(dJ (nmV 4 true (⟨iU ((nmR 4 (⟨iU ((b.drop 3)),false⟩:Rr)).l),((nmR 4 (⟨iU ((b.drop 3)),false⟩:Rr)).bad)⟩:Rr))=dJ (sgV (b.drop 7)))∧(dJ (nmV 4 true (⟨iU ((nmR 4 (⟨iU ((nmR 4 (⟨iU ((b.drop 3)),false⟩:Rr)).l),((nmR 4 (⟨iU ((b.drop 3)),false⟩:Rr)).bad)⟩:Rr)).l),((nmR 4 (⟨iU ((nmR 4 (⟨iU ((b.drop 3)),false⟩:Rr)).l),((nmR 4 (⟨iU ((b.drop 3)),false⟩:Rr)).bad)⟩:Rr)).bad)⟩:Rr))=dJ (sgV (b.drop 11)))∧(dJ (nmV 4 true (⟨iU ((nmR 4 (⟨iU ((nmR 4 (⟨iU ((nmR 4 (⟨iU ((b.drop 3)),false⟩:Rr)).l),((nmR 4 (⟨iU ((b.drop 3)),false⟩:Rr)).bad)⟩:Rr)).l),((nmR 4 (⟨iU ((nmR 4 (⟨iU ((b.drop 3)),false⟩:Rr)).l),((nmR 4 (⟨iU ((b.drop 3)),false⟩:Rr)).bad)⟩:Rr)).bad)⟩:Rr)).l),((nmR 4 (⟨iU ((nmR 4 (⟨iU ((nmR 4 (⟨iU ((b.drop 3)),false⟩:Rr)).l),((nmR 4 (⟨iU ((b.drop 3)),false⟩:Rr)).bad)⟩:Rr)).l),((nmR 4 (⟨iU ((nmR 4 (⟨iU ((b.drop 3)),false⟩:Rr)).l),((nmR 4 (⟨iU ((b.drop 3)),false⟩:Rr)).bad)⟩:Rr)).bad)⟩:Rr)).bad)⟩:Rr))=dJ (sgV (b.drop 15)))∧zz16∧zz16∧tU3 (True))∧True))))∧∀ u2:Unit,zz4→(True∧(AnsG Try.prog 47 1 zz17 [bC [Cl.d (dS ((b.drop 19).length) (u8s (b.drop 19))),Cl.d (dQ false)]] ⟨aJ (((nmV 4 false (⟨iU ((b.drop 19)),false⟩:Rr)))),zz18,false⟩)∧True∧(AnsG Try.prog 47 1 zz17 zz18 ⟨aJ (((nmV 4 false (⟨iU ((nmR 4 (⟨iU ((b.drop 19)),false⟩:Rr)).l),((nmR 4 (⟨iU ((b.drop 19)),false⟩:Rr)).bad)⟩:Rr)))),[bC [Cl.d (dS ((nmR 4 (⟨iU ((nmR 4 (⟨iU ((b.drop 19)),false⟩:Rr)).l),((nmR 4 (⟨iU ((b.drop 19)),false⟩:Rr)).bad)⟩:Rr)).l.length) (u8s (nmR 4 (⟨iU ((nmR 4 (⟨iU ((b.drop 19)),false⟩:Rr)).l),((nmR 4 (⟨iU ((b.drop 19)),false⟩:Rr)).bad)⟩:Rr)).l)),Cl.d (dQ ((nmR 4 (⟨iU ((nmR 4 (⟨iU ((b.drop 19)),false⟩:Rr)).l),((nmR 4 (⟨iU ((b.drop 19)),false⟩:Rr)).bad)⟩:Rr)).bad))]],false⟩)∧tU4 (∃ u3:Unit,zz4∧(zz6∧(zz8∧([dS ((nmR 4 (⟨iU ((nmR 4 (⟨iU ((b.drop 19)),false⟩:Rr)).l),((nmR 4 (⟨iU ((b.drop 19)),false⟩:Rr)).bad)⟩:Rr)).l.length) (u8s (nmR 4 (⟨iU ((nmR 4 (⟨iU ((b.drop 19)),false⟩:Rr)).l),((nmR 4 (⟨iU ((b.drop 19)),false⟩:Rr)).bad)⟩:Rr)).l),dQ ((nmR 4 (⟨iU ((nmR 4 (⟨iU ((b.drop 19)),false⟩:Rr)).l),((nmR 4 (⟨iU ((b.drop 19)),false⟩:Rr)).bad)⟩:Rr)).bad)]=[dS ((b.drop 27).length) (u8s (b.drop 27)),dQ false])∧(zz15∧zz19∧zz20∧zz21∧zz22∧(dJ (nmV 4 false (⟨iU ((b.drop 19)),false⟩:Rr))=dJ (tkV 4 (b.drop 19)))∧(dJ (nmV 4 false (⟨iU ((nmR 4 (⟨iU ((b.drop 19)),false⟩:Rr)).l),((nmR 4 (⟨iU ((b.drop 19)),false⟩:Rr)).bad)⟩:Rr))=dJ (tkV 4 (b.drop 23)))∧tU3 (True))∧True))))∧∀ u3:Unit,zz4→True∧(AnsG Try.prog 47 1 zz17 [bC [Cl.d (dS ((b.drop 27).length) (u8s (b.drop 27))),Cl.d (dQ false)]] ⟨aJ (((nmV 4 false (⟨iU ((b.drop 27)),false⟩:Rr)))),[bC [Cl.d (dS ((nmR 4 (⟨iU ((b.drop 27)),false⟩:Rr)).l.length) (u8s (nmR 4 (⟨iU ((b.drop 27)),false⟩:Rr)).l)),Cl.d (dQ ((nmR 4 (⟨iU ((b.drop 27)),false⟩:Rr)).bad))]],false⟩)∧True∧(True∧((∃ z:St,(J1 b z)∧((zz5∧(0=0)∧(0=0)∧(0=0)∧(dJ (nmV 4 false (⟨iU ((b.drop 27)),false⟩:Rr))=dJ (n1P b:Int))∧(dJ 0=dJ (z.i:Int))∧True)∧(zz8∧([dS ((nmR 4 (⟨iU ((b.drop 27)),false⟩:Rr)).l.length) (u8s (nmR 4 (⟨iU ((b.drop 27)),false⟩:Rr)).l),dQ ((nmR 4 (⟨iU ((b.drop 27)),false⟩:Rr)).bad)]=(zz23 z))∧(zz15∧zz19∧zz20∧zz21∧zz22∧zz24∧zz25∧(0=z.o.length)∧tU2 (True))∧([]=is z.o)∧True)))∧∀ z:St,(J1 b z)→tU4 ((((decide ((z.i:Int) < (n1P b:Int)))=true→tU6 ((((!((z.r).bad))=true→tU3 ((AnsG Try.prog 47 1 zz17 [bC [Cl.d (dS ((z.r).l.length) (u8s (z.r).l)),Cl.d (dQ ((z.r).bad))]] ⟨aJ (((nmV 4 false (⟨iU ((z.r).l),((z.r).bad)⟩:Rr)))),[bC [Cl.d (dS ((nmR 4 (⟨iU ((z.r).l),((z.r).bad)⟩:Rr)).l.length) (u8s (nmR 4 (⟨iU ((z.r).l),((z.r).bad)⟩:Rr)).l)),Cl.d (dQ ((nmR 4 (⟨iU ((z.r).l),((z.r).bad)⟩:Rr)).bad))]],false⟩)∧True∧(zQ8 1 8 z.o.length 1 (is z.o) ([dJ (nmV 4 false (⟨iU ((z.r).l),((z.r).bad)⟩:Rr))]))∧tU2 ((true=true)∧tU3 (∃ z':St,(J1 b z')∧(n1P b - z'.i < n1P b - z.i)∧((zz5∧(0=0)∧(0=0)∧(0=0)∧(dJ (n1P b:Int)=dJ (n1P b:Int))∧(dJ (wK ((z.i:Int)+(1:Int)))=dJ (z'.i:Int))∧True)∧(zz8∧([dS ((nmR 4 (⟨iU ((z.r).l),((z.r).bad)⟩:Rr)).l.length) (u8s (nmR 4 (⟨iU ((z.r).l),((z.r).bad)⟩:Rr)).l),dQ ((nmR 4 (⟨iU ((z.r).l),((z.r).bad)⟩:Rr)).bad)]=[dS ((z'.r).l.length) (u8s (z'.r).l),dQ ((z'.r).bad)])∧(zz15∧zz19∧zz20∧zz21∧zz22∧zz24∧zz25∧(z.o.length+1=z'.o.length)∧tU2 (True))∧((is z.o)++([dJ (nmV 4 false (⟨iU ((z.r).l),((z.r).bad)⟩:Rr))])=is z'.o)∧True))))))∧((!((z.r).bad))=false→∃ z1:St,(K1 b z1)∧(zz26 z z1)))))∧((decide ((z.i:Int) < (n1P b:Int)))=(!true)→True∧∃ z1:St,(K1 b z1)∧(zz26 z z1))))))∧∀ z1:St,(K1 b z1)→True∧(AnsG Try.prog 47 1 zz3 [bC [Cl.d (dS ((z1.r).l.length) (u8s (z1.r).l)),Cl.d (dQ ((z1.r).bad))]] ⟨aJ (((nmV 1 false (⟨iU ((z1.r).l),((z1.r).bad)⟩:Rr)))),[bC [Cl.d (dS ((nmR 1 (⟨iU ((z1.r).l),((z1.r).bad)⟩:Rr)).l.length) (u8s (nmR 1 (⟨iU ((z1.r).l),((z1.r).bad)⟩:Rr)).l)),Cl.d (dQ ((nmR 1 (⟨iU ((z1.r).l),((z1.r).bad)⟩:Rr)).bad))]],false⟩)∧True∧(True∧((∃ y:St,(J2 b y)∧((zz5∧(0=0)∧(0=0)∧(0=0)∧(dJ (nmV 1 false (⟨iU ((z1.r).l),((z1.r).bad)⟩:Rr))=dJ y.n)∧(dJ 0=dJ (y.i:Int))∧True)∧(zz8∧([dS ((nmR 1 (⟨iU ((z1.r).l),((z1.r).bad)⟩:Rr)).l.length) (u8s (nmR 1 (⟨iU ((z1.r).l),((z1.r).bad)⟩:Rr)).l),dQ ((nmR 1 (⟨iU ((z1.r).l),((z1.r).bad)⟩:Rr)).bad)]=(zz27 y))∧(zz15∧zz19∧zz20∧zz21∧zz22∧zz24∧zz25∧(z1.o.length=y.o.length)∧(0=y.m.length)∧True∧True)∧(is z1.o=is y.o)∧([]=ims y.m)∧True)))∧∀ y:St,(J2 b y)→tU4 ((((decide ((y.i:Int) < y.n))=true→tU6 ((((!((y.r).bad))=true→tU3 ((AnsG Try.prog 48 1 [aPz] [bC [Cl.d (dS ((y.r).l.length) (u8s (y.r).l)),Cl.d (dQ ((y.r).bad))]] ⟨(imD (imVr (⟨iU ((y.r).l),((y.r).bad)⟩:Rr))),[bC [Cl.d (dS ((imRr (⟨iU ((y.r).l),((y.r).bad)⟩:Rr)).l.length) (u8s (imRr (⟨iU ((y.r).l),((y.r).bad)⟩:Rr)).l)),Cl.d (dQ ((imRr (⟨iU ((y.r).l),((y.r).bad)⟩:Rr)).bad))]],false⟩)∧True∧(zQ8 28 272 y.m.length 1 (ims y.m) ((Im.ds (imVr (⟨iU ((y.r).l),((y.r).bad)⟩:Rr)))))∧tU2 ((true=true)∧tU3 (∃ y':St,(J2 b y')∧(y'.n.toNat - y'.i < y.n.toNat - y.i)∧((zz5∧(0=0)∧(0=0)∧(0=0)∧(dJ y.n=dJ y'.n)∧(dJ (wK ((y.i:Int)+(1:Int)))=dJ (y'.i:Int))∧True)∧(zz8∧([dS ((imRr (⟨iU ((y.r).l),((y.r).bad)⟩:Rr)).l.length) (u8s (imRr (⟨iU ((y.r).l),((y.r).bad)⟩:Rr)).l),dQ ((imRr (⟨iU ((y.r).l),((y.r).bad)⟩:Rr)).bad)]=[dS ((y'.r).l.length) (u8s (y'.r).l),dQ ((y'.r).bad)])∧(zz15∧zz19∧zz20∧zz21∧zz22∧zz24∧zz25∧(y.o.length=y'.o.length)∧(y.m.length+1=y'.m.length)∧True∧True)∧(is y.o=is y'.o)∧((ims y.m)++((Im.ds (imVr (⟨iU ((y.r).l),((y.r).bad)⟩:Rr))))=ims y'.m)∧True))))))∧((!((y.r).bad))=false→∃ y1:St,(K2 b y1)∧(zz28 y y1)))))∧((decide ((y.i:Int) < y.n))=(!true)→True∧∃ y1:St,(K2 b y1)∧(zz28 y y1))))))∧∀ y1:St,(K2 b y1)→True∧(AnsG Try.prog 47 1 [aPz,aJ ((2)),AV.one (Cl.d (dQ false))] [bC [Cl.d (dS ((y1.r).l.length) (u8s (y1.r).l)),Cl.d (dQ ((y1.r).bad))]] ⟨aJ (((nmV 2 false (⟨iU ((y1.r).l),((y1.r).bad)⟩:Rr)))),[bC [Cl.d (dS ((nmR 2 (⟨iU ((y1.r).l),((y1.r).bad)⟩:Rr)).l.length) (u8s (nmR 2 (⟨iU ((y1.r).l),((y1.r).bad)⟩:Rr)).l)),Cl.d (dQ ((nmR 2 (⟨iU ((y1.r).l),((y1.r).bad)⟩:Rr)).bad))]],false⟩)∧True∧(True∧((∃ x:St,(J3 b x)∧((zz5∧(0=0)∧(0=0)∧(0=0)∧(dJ (nmV 2 false (⟨iU ((y1.r).l),((y1.r).bad)⟩:Rr))=dJ x.n)∧(dJ 0=dJ (x.i:Int))∧True)∧(zz8∧([dS ((nmR 2 (⟨iU ((y1.r).l),((y1.r).bad)⟩:Rr)).l.length) (u8s (nmR 2 (⟨iU ((y1.r).l),((y1.r).bad)⟩:Rr)).l),dQ ((nmR 2 (⟨iU ((y1.r).l),((y1.r).bad)⟩:Rr)).bad)]=(zz29 x))∧(zz15∧zz19∧zz20∧zz21∧zz22∧zz24∧zz25∧(y1.o.length=x.o.length)∧(y1.m.length=x.m.length)∧(0=x.p.length)∧True)∧(is y1.o=is x.o)∧(ims y1.m=ims x.m)∧([]=ops x.p)∧True)))∧∀ x:St,(J3 b x)→tU4 ((((decide ((x.i:Int) < x.n))=true→tU6 ((((!((x.r).bad))=true→tU3 ((AnsG Try.prog 49 1 [aPz] [bC [Cl.d (dS ((x.r).l.length) (u8s (x.r).l)),Cl.d (dQ ((x.r).bad))]] ⟨AV.agg [cJ (((opVr (⟨iU ((x.r).l),((x.r).bad)⟩:Rr)).kind)),cJ (((opVr (⟨iU ((x.r).l),((x.r).bad)⟩:Rr)).image)),cJ (((opVr (⟨iU ((x.r).l),((x.r).bad)⟩:Rr)).x)),cJ (((opVr (⟨iU ((x.r).l),((x.r).bad)⟩:Rr)).y)),cJ (((opVr (⟨iU ((x.r).l),((x.r).bad)⟩:Rr)).mask)),cJ (((opVr (⟨iU ((x.r).l),((x.r).bad)⟩:Rr)).mx)),cJ (((opVr (⟨iU ((x.r).l),((x.r).bad)⟩:Rr)).my)),cK (((opVr (⟨iU ((x.r).l),((x.r).bad)⟩:Rr)).opac)),cJ (((opVr (⟨iU ((x.r).l),((x.r).bad)⟩:Rr)).oper)),cJ (((opVr (⟨iU ((x.r).l),((x.r).bad)⟩:Rr)).mode)),Cl.d (dQ ((opVr (⟨iU ((x.r).l),((x.r).bad)⟩:Rr)).iso)),Cl.d (dQ ((opVr (⟨iU ((x.r).l),((x.r).bad)⟩:Rr)).kno))],[bC [Cl.d (dS ((opRr (⟨iU ((x.r).l),((x.r).bad)⟩:Rr)).l.length) (u8s (opRr (⟨iU ((x.r).l),((x.r).bad)⟩:Rr)).l)),Cl.d (dQ ((opRr (⟨iU ((x.r).l),((x.r).bad)⟩:Rr)).bad))]],false⟩)∧True∧(zQ8 12 88 x.p.length 1 (ops x.p) ((Oq.cells (opVr (⟨iU ((x.r).l),((x.r).bad)⟩:Rr)))))∧tU2 ((true=true)∧tU3 (∃ x':St,(J3 b x')∧(x'.n.toNat - x'.i < x.n.toNat - x.i)∧((zz5∧(0=0)∧(0=0)∧(0=0)∧(dJ x.n=dJ x'.n)∧(dJ (wK ((x.i:Int)+(1:Int)))=dJ (x'.i:Int))∧True)∧(zz8∧([dS ((opRr (⟨iU ((x.r).l),((x.r).bad)⟩:Rr)).l.length) (u8s (opRr (⟨iU ((x.r).l),((x.r).bad)⟩:Rr)).l),dQ ((opRr (⟨iU ((x.r).l),((x.r).bad)⟩:Rr)).bad)]=[dS ((x'.r).l.length) (u8s (x'.r).l),dQ ((x'.r).bad)])∧(zz15∧zz19∧zz20∧zz21∧zz22∧zz24∧zz25∧(x.o.length=x'.o.length)∧(x.m.length=x'.m.length)∧(x.p.length+1=x'.p.length)∧True)∧(is x.o=is x'.o)∧(ims x.m=ims x'.m)∧((ops x.p)++((Oq.cells (opVr (⟨iU ((x.r).l),((x.r).bad)⟩:Rr))))=ops x'.p)∧True))))))∧((!((x.r).bad))=false→∃ x1:St,(K3 b x1)∧(zz30 x x1)))))∧((decide ((x.i:Int) < x.n))=(!true)→True∧∃ x1:St,(K3 b x1)∧(zz30 x x1))))))∧∀ x1:St,(K3 b x1)→tU5 (((((x1.r).bad)=false→tU7 ((((decide ((((x1.r).l.length:Nat):Int) > (0:Int)))=true→tU3 (RV.tup zz1=RV.tup zz2))∧((decide ((((x1.r).l.length:Nat):Int) > (0:Int)))=false→True∧(Ans Try.prog 12 [RV.agg (zz31 x1)] (RV.tup [RV.d (dS ((encS (⟨(tkV 1 (b.drop 2)),⟨(sgV (b.drop 3)),(sgV (b.drop 7)),(sgV (b.drop 11)),(sgV (b.drop 15))⟩,(tkV 4 (b.drop 19)),(tkV 4 (b.drop 23)),ints (is x1.o),zQv (ims x1.m),zQp (ops x1.p)⟩:Scr)).1.length) (u8s (encS (⟨(tkV 1 (b.drop 2)),⟨(sgV (b.drop 3)),(sgV (b.drop 7)),(sgV (b.drop 11)),(sgV (b.drop 15))⟩,(tkV 4 (b.drop 19)),(tkV 4 (b.drop 23)),ints (is x1.o),zQv (ims x1.m),zQp (ops x1.p)⟩:Scr)).1)),rJ (((encS (⟨(tkV 1 (b.drop 2)),⟨(sgV (b.drop 3)),(sgV (b.drop 7)),(sgV (b.drop 11)),(sgV (b.drop 15))⟩,(tkV 4 (b.drop 19)),(tkV 4 (b.drop 23)),ints (is x1.o),zQv (ims x1.m),zQp (ops x1.p)⟩:Scr)).2))]))∧tU8 ((((((encS (⟨(tkV 1 (b.drop 2)),⟨(sgV (b.drop 3)),(sgV (b.drop 7)),(sgV (b.drop 11)),(sgV (b.drop 15))⟩,(tkV 4 (b.drop 19)),(tkV 4 (b.drop 23)),ints (is x1.o),zQv (ims x1.m),zQp (ops x1.p)⟩:Scr)).2) != (0:Int))=false→True∧((encS (⟨(tkV 1 (b.drop 2)),⟨(sgV (b.drop 3)),(sgV (b.drop 7)),(sgV (b.drop 11)),(sgV (b.drop 15))⟩,(tkV 4 (b.drop 19)),(tkV 4 (b.drop 23)),ints (is x1.o),zQv (ims x1.m),zQp (ops x1.p)⟩:Scr)).1.length=(u8s (encS (⟨(tkV 1 (b.drop 2)),⟨(sgV (b.drop 3)),(sgV (b.drop 7)),(sgV (b.drop 11)),(sgV (b.drop 15))⟩,(tkV 4 (b.drop 19)),(tkV 4 (b.drop 23)),ints (is x1.o),zQv (ims x1.m),zQp (ops x1.p)⟩:Scr)).1).length∧zXZ (u8s (encS (⟨(tkV 1 (b.drop 2)),⟨(sgV (b.drop 3)),(sgV (b.drop 7)),(sgV (b.drop 11)),(sgV (b.drop 15))⟩,(tkV 4 (b.drop 19)),(tkV 4 (b.drop 23)),ints (is x1.o),zQv (ims x1.m),zQp (ops x1.p)⟩:Scr)).1))∧True∧(b.length=(u8s b).length∧zXZ (u8s b))∧tU2 ((((!((strD (u8s (encS (⟨(tkV 1 (b.drop 2)),⟨(sgV (b.drop 3)),(sgV (b.drop 7)),(sgV (b.drop 11)),(sgV (b.drop 15))⟩,(tkV 4 (b.drop 19)),(tkV 4 (b.drop 23)),ints (is x1.o),zQv (ims x1.m),zQp (ops x1.p)⟩:Scr)).1)).toList==(strD (u8s b)).toList))=true→tU3 (RV.tup zz1=RV.tup zz2))∧((!((strD (u8s (encS (⟨(tkV 1 (b.drop 2)),⟨(sgV (b.drop 3)),(sgV (b.drop 7)),(sgV (b.drop 11)),(sgV (b.drop 15))⟩,(tkV 4 (b.drop 19)),(tkV 4 (b.drop 23)),ints (is x1.o),zQv (ims x1.m),zQp (ops x1.p)⟩:Scr)).1)).toList==(strD (u8s b)).toList))=false→tU3 (RV.tup [RV.agg (zz31 x1),rJ (0)]=RV.tup zz2)))))∧((((encS (⟨(tkV 1 (b.drop 2)),⟨(sgV (b.drop 3)),(sgV (b.drop 7)),(sgV (b.drop 11)),(sgV (b.drop 15))⟩,(tkV 4 (b.drop 19)),(tkV 4 (b.drop 23)),ints (is x1.o),zQv (ims x1.m),zQp (ops x1.p)⟩:Scr)).2) != (0:Int))=(!false)→tU4 (RV.tup zz1=RV.tup zz2))))))))∧(((x1.r).bad)=(!false)→tU4 (RV.tup zz1=RV.tup zz2)))))))))∧((decide ((b.length:Int) > (67108864:Int)))=(!false)→tU4 (RV.tup zz1=RV.tup zz2)))))∧((decide ((b.length:Int) < (34:Int)))=(!false)→tU6 (RV.tup zz1=RV.tup zz2))))):=by kernel_rfl
theorem zGm (b:List Int):Ans Try.prog 20 [RV.d (DV.sl b.length (u8s b))] (RV.tup [RV.agg [DV.int .i64 ((decR (ints (u8s b))).bits),DV.int .i64 ((decR (ints (u8s b))).c.a),DV.int .i64 ((decR (ints (u8s b))).c.b),DV.int .i64 ((decR (ints (u8s b))).c.c),DV.int .i64 ((decR (ints (u8s b))).c.d),DV.int .i64 ((decR (ints (u8s b))).tw),DV.int .i64 ((decR (ints (u8s b))).th),DV.sl ((decR (ints (u8s b))).ord.length) (is (decR (ints (u8s b))).ord),DV.sl ((decR (ints (u8s b))).ims.length) (ims (decR (ints (u8s b))).ims),DV.sl ((decR (ints (u8s b))).ops.length) (ops (decR (ints (u8s b))).ops)],RV.d (DV.int .i64 (decE (ints (u8s b))))]):=
  zQf (Γ:=jVN) (zKm b) zQq Try.func20 rfl (Nat.le_of_ble_eq_true rfl) fun hwf=>by
    refine Eq.mpr (zHP b) ?_
    delta tU2 tU3 tU4 tU5 tU6 tU7 tU8 dJ dQ cJ cK wK dS rJ aJ aPz bC iU
    simp only [true_and,and_true,RV.d.injEq,RV.agg.injEq,RV.tup.injEq,DV.bool.injEq,DV.int.injEq,DV.sl.injEq,List.cons.injEq,forall_const,Bool.not_false,Bool.not_true,Bool.not_eq_true',Bool.not_eq_false',decide_eq_true_eq,decide_eq_false_iff_not,Int.toNat_natCast]
    simp only [zQZ,zZo,zXM,zXu,Rr.eta]
    have hB:isB b:=zKg (by simp only [RV.wfs,RV.wf,DV.wf] at hwf; exact hwf.1.2)
    clear hwf
    have Z:¬ zXU b→((0=(decR b).bits∧0=(decR b).c.a∧0=(decR b).c.b∧0=(decR b).c.c∧0=(decR b).c.d∧0=(decR b).tw∧0=(decR b).th∧(0=(decR b).ord.length∧[]=is (decR b).ord)∧(0=(decR b).ims.length∧[]=ims (decR b).ims)∧0=(decR b).ops.length∧[]=ops (decR b).ops)∧19=decE b):=fun h=>by
      rw [(zJx h).1,(zJx h).2]
      exact ⟨⟨rfl,rfl,rfl,rfl,rfl,rfl,rfl,⟨rfl,rfl⟩,⟨rfl,rfl⟩,rfl,rfl⟩,rfl⟩
    refine ⟨fun h34=>⟨fun hM=>?_,fun hM=>Z (fun h=>by have:=h.1; omega)⟩,fun h34=>Z (fun h=>by have:=jYH h.2.1; omega)⟩
    have L34:34≤b.length:=by omega
    have LM:b.length≤67108864:=by omega
    have t2:List.take ((2 - 0:Int).toNat*1) (List.drop (Int.toNat 0*1) (u8s b))=u8s (b.take 2):=by rw [← zWv]; rfl
    have tl2:List.take ((b.drop 2).length*1) (List.drop (Int.toNat 2*1) (u8s b))=u8s (b.drop 2):=by
      rw [show Int.toNat 2*1=2 from rfl,zG4,Nat.mul_one,List.take_of_length_le (by rw [zX4]; exact Nat.le_refl _)]
    have eL:((b.length:Int) - 2).toNat=(b.drop 2).length:=by rw [List.length_drop]; omega
    have lc:((strD (u8s (b.take 2))).toList==(⟨#[76,67]⟩:ByteArray).toList)=decide (b.take 2=[76,67]):=jYo (m:=[76,67]) (fun v hv=>hB v (List.mem_of_mem_take hv)) (fun v hv=>by
      simp only [List.mem_cons,List.not_mem_nil,or_false] at hv
      omega)
    have lc2:b.take 2=[76,67]↔tkV 1 b=76∧tkV 1 (b.drop 1)=67:=by
      match b,L34 with
      | x::y::l,_=>simp [tkV]
    have c1:tkV 4 (b.drop 27)=(n1P b:Int)∧n1P b≤4294967295:=by
      have:=zWG (hB.drop 27)
      unfold n1P; omega
    have hBA:isB (bAP b):=hB.drop _
    have hBB:isB (bBP b):=hBA.drop _
    have c2:tkV 1 (bAP b)=(n2P b:Int)∧n2P b≤255:=by
      have:=zKb hBA
      unfold n2P; omega
    have hBC:isB (bCP b):=zJS hBB _
    have c3:tkV 2 (bCP b)=(n3P b:Int)∧n3P b≤65535:=by
      have:=zVK hBC
      unfold n3P; omega
    have wS:∀ k:Nat,k≤4294967296→IntKind.wrap .i64 ((k:Int)+1)=((k+1:Nat):Int):=fun k hk=>by rw [IntWalk.i64_in _ ⟨by omega,by omega⟩]; omega
    have p1:(256:Int) ^ 1=256:=by decide
    have p2:(256:Int) ^ 2=65536:=by decide
    have g2:=zWm b 2 1 false (by omega)
    have g3:=zWm b 3 4 true (by omega)
    have g7:=zWm b 7 4 true (by omega)
    have g11:=zWm b 11 4 true (by omega)
    have g15:=zWm b 15 4 true (by omega)
    have g19:=zWm b 19 4 false (by omega)
    have g23:=zWm b 23 4 false (by omega)
    have g27:=zWm b 27 4 false (by omega)
    simp only [Nat.reduceAdd,Bool.false_eq_true,if_false,if_true] at g2 g3 g7 g11 g15 g19 g23 g27
    simp only [t2,tl2,eL,lc,zQZ,g2.1,g2.2,g3.1,g3.2,g7.1,g7.2,g11.1,g11.2,g15.1,g15.2,g19.1,g19.2,g23.1,g23.2,g27.1,g27.2]
    have n4:=fun q:Rr=>zQC q 4 false ⟨by omega,by omega⟩ (fun h=>by cases h)
    have n2:=fun q:Rr=>zQC q 2 false ⟨by omega,by omega⟩ (fun h=>by cases h)
    have n1:=fun q:Rr=>zQC q 1 false ⟨by omega,by omega⟩ (fun h=>by cases h)
    refine ⟨⟨by omega,by omega,by omega⟩,⟨by rw [zX4,List.length_take]; omega,zHJ _⟩,fun hs=>Z fun h=>?_,fun hs=>⟨⟨by omega,by omega,by omega⟩,⟨zVU b 2 1 false ⟨by omega,by omega⟩ (fun h=>by first | rfl | cases h) (by omega),(),⟨L34,LM,lc2.1 (of_decide_eq_true hs)⟩,(by (repeat' apply And.intro) <;> first | exact trivial | rfl)⟩,fun ok=>⟨⟨zVU b 3 4 true ⟨by omega,by omega⟩ (fun h=>by first | rfl | cases h) (by omega),zVU b 7 4 true ⟨by omega,by omega⟩ (fun h=>by first | rfl | cases h) (by omega),zVU b 11 4 true ⟨by omega,by omega⟩ (fun h=>by first | rfl | cases h) (by omega),zVU b 15 4 true ⟨by omega,by omega⟩ (fun h=>by first | rfl | cases h) (by omega),(),ok,(by (repeat' apply And.intro) <;> first | exact trivial | rfl)⟩,fun _=>⟨⟨zVU b 19 4 false ⟨by omega,by omega⟩ (fun h=>by first | rfl | cases h) (by omega),zVU b 23 4 false ⟨by omega,by omega⟩ (fun h=>by first | rfl | cases h) (by omega),(),ok,(by (repeat' apply And.intro) <;> first | exact trivial | rfl)⟩,fun _=>⟨zVU b 27 4 false ⟨by omega,by omega⟩ (fun h=>by first | rfl | cases h) (by omega),⟨⟨⟨⟨b.drop 31,false⟩,[],[],[],0,0⟩,⟨hB.drop _,rfl,Nat.zero_le _,.inl ⟨rfl,rfl,by show 31+4*0≤_; omega⟩⟩,⟨c1.1,rfl⟩,(by (repeat' apply And.intro) <;> first | exact trivial | rfl)⟩,fun z hz=>?_⟩,fun z1 hz1=>?_⟩⟩⟩⟩⟩
    · exact absurd (lc2.2 ⟨h.2.1.1.1.1.1.2.1,h.2.1.1.1.1.1.2.2⟩) (of_decide_eq_false hs)
    · obtain ⟨j1,j2,j3,j4⟩:=hz
      refine ⟨fun hi=>⟨fun hb=>?_,fun hb=>?_⟩,fun hi=>?_⟩
      · rcases j4 with ⟨e1,e2,e3⟩ | ⟨e1,_⟩
        · refine ⟨n4 _,⟨by rw [zQW,Nat.mul_one],rfl,by unfold maxLen; omega,by omega⟩,⟨⟨nmR 4 z.r,z.o++[nmV 4 false z.r],z.m,z.p,z.n,z.i+1⟩,⟨zQG j1,by simp [j2],by show z.i+1≤n1P b; omega,?_⟩,by show n1P b - (z.i+1) < n1P b - z.i; omega,wS _ (by omega),⟨⟨rfl,rfl⟩,rfl⟩,by simp,jYS _ _⟩⟩
          by_cases hl:31+4*z.i+4≤b.length
          · have g:=zWm b (31+4*z.i) 4 false hl
            simp only [Bool.false_eq_true,if_false] at g
            refine .inl ⟨?_,?_,by show 31+4*(z.i+1)≤_; omega⟩
            · show nmR 4 z.r=(⟨b.drop (31+4*z.i+4),false⟩:Rr)
              rw [e1,g.1]
            · show z.o++[nmV 4 false z.r]=ordL b (z.i+1)
              rw [e1,g.2,zW9,e2]
          · refine .inr ⟨?_,fun h=>?_⟩
            · show (nmR 4 z.r).bad=true
              rw [e1]
              exact jYN (by rw [List.length_drop]; omega)
            · have:=jYG hB h.2.1
              omega
        · rw [hb] at e1; cases e1
      · refine ⟨z,⟨j1,?_⟩,⟨⟨rfl,rfl⟩,rfl⟩,rfl,rfl⟩
        rcases j4 with ⟨e1,e2,e3⟩ | e
        · rw [e1] at hb; cases hb
        · exact .inr e
      · refine ⟨z,⟨j1,?_⟩,⟨⟨rfl,rfl⟩,rfl⟩,rfl,rfl⟩
        rcases j4 with ⟨e1,e2,e3⟩ | e
        · have:z.i=n1P b:=by omega
          exact .inl ⟨by rw [e1,this]; rfl,by rw [e2,this]⟩
        · exact .inr e
    obtain ⟨a1,a2⟩:=hz1
    refine ⟨n1 _,⟨⟨⟨nmR 1 z1.r,z1.o,[],[],nmV 1 false z1.r,0⟩,⟨zQG a1,rfl,?_,?_,?_⟩,⟨rfl,rfl⟩,(by (repeat' apply And.intro) <;> first | exact trivial | rfl)⟩,fun y hy=>?_⟩,fun y1 hy1=>?_⟩
    · have:=zK0 (n:=1) a1
      rw [p1] at this
      show 0≤nmV 1 false z1.r∧nmV 1 false z1.r≤255
      omega
    · have:=zK0 (n:=1) a1
      exact this.1
    · rcases a2 with ⟨e1,e2⟩ | ⟨e1,e2⟩
      · by_cases hl:1≤(bAP b).length
        · have g:=zJl hl false
          simp only [Bool.false_eq_true,if_false] at g
          refine .inl ⟨?_,e2,rfl,?_,fun q hq=>absurd hq (Nat.not_lt_zero q)⟩
          · show nmR 1 z1.r=_
            rw [e1,g.1]; rfl
          · show nmV 1 false z1.r=_
            rw [e1,g.2]; exact c2.1
        · refine .inr ⟨?_,fun h=>hl h.2.1.1.1.2.1.1⟩
          show (nmR 1 z1.r).bad=true
          rw [e1]
          exact jYN hl
      · refine .inr ⟨?_,e2⟩
        show (nmR 1 z1.r).bad=true
        rw [(jXf e1).1]; exact e1
    · obtain ⟨j1,j2,j3,j5,j4⟩:=hy
      refine ⟨fun hi=>⟨fun hb=>?_,fun hb=>?_⟩,fun hi=>?_⟩
      · rcases j4 with ⟨e1,e2,e3,e4,e5⟩ | ⟨e1,_⟩
        · refine ⟨zJ8 _,⟨by rw [zZk],rfl,by unfold maxLen; omega,by omega⟩,⟨⟨imRr y.r,y.o,y.m++[imVr y.r],y.p,y.n,y.i+1⟩,⟨jK5 j1,by simp [j2],j3,by show ((y.i+1:Nat):Int)≤y.n; omega,?_⟩,by show y.n.toNat - (y.i+1) < y.n.toNat - y.i; omega,⟨rfl,wS _ (by omega)⟩,⟨⟨rfl,rfl⟩,rfl⟩,⟨rfl,by simp⟩,rfl,jXj _ _⟩⟩
          by_cases hl:zQT (imsT (bBP b) y.i).2
          · have g:=jK4 hl
            refine .inl ⟨?_,e2,?_,e4,fun q hq=>?_⟩
            · show imRr y.r=_
              rw [e1,g.2]; rfl
            · show y.m++[imVr y.r]=(imsT (bBP b) (y.i+1)).1
              rw [e1,g.1,e3]; rfl
            · by_cases e:q=y.i
              · subst e; exact hl
              · exact e5 q (by have hq:q < y.i+1:=hq; omega)
          · refine .inr ⟨?_,fun h=>hl (h.2.1.1.1.2.2 y.i (by omega))⟩
            show (imRr y.r).bad=true
            rw [e1]
            exact jVF hl
        · rw [hb] at e1; cases e1
      · refine ⟨y,⟨j1,?_⟩,⟨⟨rfl,rfl⟩,rfl⟩,⟨rfl,rfl⟩,rfl,rfl⟩
        rcases j4 with ⟨e1,e2,e3,e4,e5⟩ | e
        · rw [e1] at hb; cases hb
        · exact .inr e
      · refine ⟨y,⟨j1,?_⟩,⟨⟨rfl,rfl⟩,rfl⟩,⟨rfl,rfl⟩,rfl,rfl⟩
        rcases j4 with ⟨e1,e2,e3,e4,e5⟩ | e
        · have:y.i=n2P b:=by omega
          exact .inl ⟨by rw [e1,this]; rfl,e2,by rw [e3,this],by rw [← this]; exact e5⟩
        · exact .inr e
    obtain ⟨b1,b2⟩:=hy1
    refine ⟨n2 _,⟨⟨⟨nmR 2 y1.r,y1.o,y1.m,[],nmV 2 false y1.r,0⟩,⟨zQG b1,rfl,?_,?_,?_⟩,⟨rfl,rfl⟩,(by (repeat' apply And.intro) <;> first | exact trivial | rfl)⟩,fun x hx=>?_⟩,fun x1 hx1=>?_⟩
    · have:=zK0 (n:=2) b1
      rw [p2] at this
      show 0≤nmV 2 false y1.r∧nmV 2 false y1.r≤65535
      omega
    · have:=zK0 (n:=2) b1
      exact this.1
    · rcases b2 with ⟨e1,e2,e3,e5⟩ | ⟨e1,e2⟩
      · by_cases hl:2≤(bCP b).length
        · have g:=zJl hl false
          simp only [Bool.false_eq_true,if_false] at g
          refine .inl ⟨?_,e2,e3,rfl,?_,Nat.zero_le _,e5⟩
          · show nmR 2 y1.r=_
            rw [e1,g.1]; rfl
          · show nmV 2 false y1.r=_
            rw [e1,g.2]; exact c3.1
        · refine .inr ⟨?_,fun h=>hl h.2.1.1.2.1.1⟩
          show (nmR 2 y1.r).bad=true
          rw [e1]
          exact jYN hl
      · refine .inr ⟨?_,e2⟩
        show (nmR 2 y1.r).bad=true
        rw [(jXf e1).1]; exact e1
    · obtain ⟨j1,j2,j3,j5,j4⟩:=hx
      refine ⟨fun hi=>⟨fun hb=>?_,fun hb=>?_⟩,fun hi=>?_⟩
      · rcases j4 with ⟨e1,e2,e3,e4,e6,e7,e5⟩ | ⟨e1,_⟩
        · refine ⟨zVA _,⟨by rw [zQY],rfl,by unfold maxLen; omega,by omega⟩,⟨⟨opRr x.r,x.o,x.m,x.p++[opVr x.r],x.n,x.i+1⟩,⟨?_,by simp [j2],j3,by show ((x.i+1:Nat):Int)≤x.n; omega,?_⟩,by show x.n.toNat - (x.i+1) < x.n.toNat - x.i; omega,⟨rfl,wS _ (by omega)⟩,⟨⟨rfl,rfl⟩,rfl⟩,⟨rfl,rfl,by simp⟩,rfl,rfl,jZ8 _ _⟩⟩
          · exact zQG (zQG (zQG (zQG (zQG (zQG (zQG (zQG (zQG (zQG (zQG j1))))))))))
          · by_cases hl:24≤((bDP b).drop (24*x.i)).length
            · have g:=jKK hl
              rw [List.drop_drop] at g
              refine .inl ⟨?_,e2,e3,?_,e6,?_,e5⟩
              · show opRr x.r=_
                rw [e1,g.2]; rfl
              · show x.p++[opVr x.r]=opsL (bDP b) (x.i+1)
                rw [e1,g.1,e4,zUd]
              · rw [List.length_drop] at hl
                show 24*(x.i+1)≤_
                omega
            · refine .inr ⟨?_,fun h=>hl (h.2.1.1.2.2 x.i (by omega)).1⟩
              show (opRr x.r).bad=true
              cases e:(opRr x.r).bad with
              | true=>rfl
              | false=>
                have:=(jVA e).2
                rw [e1] at this
                exact absurd this hl
        · rw [hb] at e1; cases e1
      · refine ⟨x,?_,⟨⟨rfl,rfl⟩,rfl⟩,⟨rfl,rfl,rfl⟩,rfl,rfl,rfl⟩
        rcases j4 with ⟨e1,e2,e3,e4,e6,e7,e5⟩ | e
        · rw [e1] at hb; cases hb
        · exact .inr e
      · refine ⟨x,?_,⟨⟨rfl,rfl⟩,rfl⟩,⟨rfl,rfl,rfl⟩,rfl,rfl,rfl⟩
        rcases j4 with ⟨e1,e2,e3,e4,e6,e7,e5⟩ | e
        · have:x.i=n3P b:=by omega
          refine .inl ⟨by rw [e1],fun hl h=>?_,e2,e3,by rw [e4,this],e5⟩
          rw [e1,this] at hl
          have hl:0 < ((bDP b).drop (24*n3P b)).length:=hl
          have:=h.2.1.2
          omega
        · exact .inr e
    · refine ⟨fun hb=>?_,fun hb=>?_⟩
      · rcases hx1 with ⟨k0,k1,k2,k3,k4,k5⟩ | ⟨k0,_⟩
        · have eP:(⟨tkV 1 (b.drop 2),⟨sgV (b.drop 3),sgV (b.drop 7),sgV (b.drop 11),sgV (b.drop 15)⟩,tkV 4 (b.drop 19),tkV 4 (b.drop 23),x1.o,x1.m,x1.p⟩:Scr)=zQj b:=by rw [k2,k3,k4]; rfl
          have di:=jVe hB k5
          have a:=zUY (zQj b) jQj (by show (ordL b (n1P b)).length≤_; rw [zWy]; omega)
          have eO:x1.o=(zQj b).ord:=k2
          have eM:x1.m=(zQj b).ims:=k3
          have eQ:x1.p=(zQj b).ops:=k4
          simp only [eP]
          rw [eO,eM,eQ]
          refine ⟨fun hl=>Z (k1 (by omega)),fun hl=>⟨a,fun he=>⟨⟨(zX4 _).symm,zHJ _⟩,⟨(zX4 b).symm,zHJ b⟩,fun hs=>Z fun h=>?_,fun hs=>?_⟩,fun he=>Z fun h=>?_⟩⟩
          · have h2:=di.2 h
            have eS:encS (zQj b)=(encB (zQj b),0):=by unfold encS; rw [if_pos h2.1]
            rw [eS,h2.2] at hs
            rw [beq_self_eq_true] at hs
            cases hs
          · by_cases hk:zQO (zQj b)=true
            · have eS:encS (zQj b)=(encB (zQj b),0):=by unfold encS; rw [if_pos hk]
              rw [eS,jYo (jXi _) hB] at hs
              have h:=di.1 ⟨hk,of_decide_eq_true hs⟩
              rw [(zUN h).1,(zUN h).2]
              exact ⟨⟨rfl,rfl,rfl,rfl,rfl,rfl,rfl,⟨rfl,rfl⟩,⟨rfl,rfl⟩,rfl,rfl⟩,rfl⟩
            · have eS:encS (zQj b)=([],19):=by unfold encS; rw [if_neg hk]
              rw [eS] at he
              cases he
          · have h2:=di.2 h
            have eS:encS (zQj b)=(encB (zQj b),0):=by unfold encS; rw [if_pos h2.1]
            rw [eS] at he
            cases he
        · rw [hb] at k0; cases k0
      · rcases hx1 with ⟨k0,_⟩ | ⟨_,k1⟩
        · rw [hb] at k0; cases k0
        · exact Z k1
end Go.Proofs.Ytlnfgagmiogkgaa
namespace Go.Proofs.Ytlnfgagmiogkgaa
open Go.RowKit
set_option linter.unusedVariables false
set_option linter.unusedSimpArgs false
def IsB8 (n:Nat) (xs:List DV):Prop:=xs=u8s (ints xs)∧n=xs.length
theorem jKW {n:Nat} {xs:List DV} (hn:xs.length=n) (hx:∀ (j:Nat) d,xs[j]?=some d→∃ v,d=.int .u8 v):IsB8 n xs:=by
  refine ⟨?_,hn.symm⟩
  clear hn
  induction xs with
  | nil=>rfl
  | cons x xs ih=>
    obtain ⟨v,rfl⟩:=hx 0 _ rfl
    have:=ih fun j d hj=>hx (j+1) d hj
    simp only [u8s,ints,List.map_cons] at this ⊢
    rw [← this]
theorem jKT {l:List Int} (h:isB l) (k:Nat) {x:Int} (hx:0≤x∧x≤255):isB (l.set k x):=fun v hv=>by
  rcases List.mem_or_eq_of_mem_set hv with hv | hv
  · exact h v hv
  · rw [hv]; exact hx
theorem jKv (l:List Int) (k:Nat) (x:Int):(u8s l).set k (.int .u8 x)=u8s (l.set k x):=by simp [u8s,List.map_set]
theorem jJ0 {m:Im} (h:m.formed=true):eqI m m=true:=by
  unfold eqI Im.equal
  simp [h]
theorem jJZ {s:Scr} (h:∀ m∈s.ims,m.formed=true):eqS s s=true:=by
  have h1:zGh s.ims s.ims=true:=by
    unfold zGh eqTo
    rw [decide_eq_true rfl,Bool.true_and,List.all_eq_true]
    intro i hi
    have hi:=List.mem_range.1 hi
    rw [jQt hi]
    exact jJ0 (h _ (List.getElem_mem hi))
  unfold eqS
  rw [h1]
  simp
theorem jXx {b:List Int}:∀ m∈(decR b).ims,m.isU:=by
  unfold decR
  split
  · exact jQj
  · intro m hm; cases hm
theorem jVg {b:List Int} (hB:isB b):eqS (decR b) (decR b)=true:=by
  refine jJZ fun m hm=>?_
  unfold decR at hm
  split at hm
  · rename_i h
    exact ((jJf hB h).1.im m hm).1
  · cases hm
theorem jVh {b:List Int}:decE b=0∨(decE b=19∧(decR b).ops.length=0∧(decR b).ims.length=0):=by
  by_cases h:zXU b
  · exact .inl (zUN h).2
  · exact .inr ⟨(zJx h).2,by rw [(zJx h).1]; rfl,by rw [(zJx h).1]; rfl⟩
def Leaves (P:Program) (ls:List TypeId) (n:Nat) (xs:List DV):Prop:=
  xs.length=n*ls.length∧∀ (j:Nat) d,xs[j]?=some d→∃ t',ls[j % ls.length]?=some t'∧∃ q,zZS P q t' d
theorem Leaves.at_ {P:Program} {ls:List TypeId} {n:Nat} {xs:List DV} (h:Leaves P ls n xs) {k r:Nat} {t:TypeId} (hk:k < n) (hr:ls[r]?=some t):∃ d q,xs[k*ls.length+r]?=some d∧zZS P q t d:=by
  obtain ⟨hn,hx⟩:=h
  have hr':r < ls.length:=(List.getElem?_eq_some_iff.1 hr).1
  have hle:(k+1)*ls.length≤n*ls.length:=Nat.mul_le_mul_right _ (by omega)
  rw [Nat.add_mul] at hle
  have hj:k*ls.length+r < xs.length:=by omega
  obtain ⟨t',a,q,b⟩:=hx _ _ (List.getElem?_eq_getElem hj)
  rw [Nat.mul_comm k,Nat.mul_add_mod,Nat.mod_eq_of_lt hr',hr] at a
  injection a with a
  subst a
  exact ⟨_,q,List.getElem?_eq_getElem hj,b⟩
theorem Leaves.int {P:Program} {ls:List TypeId} {n:Nat} {xs:List DV} (h:Leaves P ls n xs) {k r:Nat} {t:TypeId} {kk:IntKind} (hk:k < n) (hr:ls[r]?=some t) (hu:P.underlying t=some (.int kk)):xs[k*ls.length+r]?=some (.int kk (nAt xs (k*ls.length+r))):=by
  obtain ⟨d,q,e,b⟩:=h.at_ hk hr
  obtain ⟨v,rfl⟩:=b.int hu
  simp only [nAt,e]
theorem Leaves.bool {P:Program} {ls:List TypeId} {n:Nat} {xs:List DV} (h:Leaves P ls n xs) {k r:Nat} {t:TypeId} (hk:k < n) (hr:ls[r]?=some t) (hu:P.underlying t=some .bool):xs[k*ls.length+r]?=some (.bool (bAt xs (k*ls.length+r))):=by
  obtain ⟨d,q,e,b⟩:=h.at_ hk hr
  obtain ⟨v,rfl⟩:=b.bool hu
  simp only [bAt,e]
theorem Leaves.sl {P:Program} {ls:List TypeId} {n:Nat} {xs:List DV} (h:Leaves P ls n xs) {k r:Nat} {t e:TypeId} {ms:List TypeId} (hk:k < n) (hr:ls[r]?=some t) (hu:P.underlying t=some (.slice e)) (hl:lv P e=some ms) :
    xs[k*ls.length+r]?=some (.sl (lAt xs (k*ls.length+r)) (cAt xs (k*ls.length+r)))∧Leaves P ms (lAt xs (k*ls.length+r)) (cAt xs (k*ls.length+r)):=by
  obtain ⟨d,q,e1,b⟩:=h.at_ hk hr
  obtain ⟨m,ys,rfl,_,h1,h2⟩:=b.slice hu hl
  simp only [lAt,cAt,e1]
  exact ⟨trivial,h1,h2⟩
theorem Leaves.ints {P:Program} {t:TypeId} {n:Nat} {xs:List DV} (h:Leaves P [t] n xs) (hu:P.underlying t=some (.int .i64)):xs=is (ints xs)∧n=xs.length:=
  jKk (by have:=h.1; simpa using this) fun j d hj=>by obtain ⟨t',a,q,b⟩:=h.2 j d hj; exact zHv hu a b
theorem Leaves.five {P:Program} {t:TypeId} {n:Nat} {xs:List DV} (h:Leaves P [t,t,t,t,t] n xs) (hu:P.underlying t=some (.int .i64)):Is5 n xs:=
  jVE h.1 fun j d hj=>by obtain ⟨t',a,q,b⟩:=h.2 j d hj; exact jJN hu a b
theorem Leaves.pics {P:Program} {t ts e:TypeId} {n:Nat} {xs:List DV} (h:Leaves P [t,t,t,t,ts] n xs) (hu:P.underlying t=some (.int .i64)) (hs:P.underlying ts=some (.slice e)) (hl:lv P e=some [t,t,t,t,t]):jKt n xs:=
  ⟨h.1,fun k hk=>⟨h.int (r:=0) hk rfl hu,h.int (r:=1) hk rfl hu,h.int (r:=2) hk rfl hu,h.int (r:=3) hk rfl hu,(h.sl (r:=4) hk rfl hs hl).1,(h.sl (r:=4) hk rfl hs hl).2.five hu⟩⟩
theorem Leaves.raws {P:Program} {t:TypeId} {n:Nat} {xs:List DV} (h:Leaves P [t,t,t,t,t,t,t,t,t,t,t] n xs) (hu:P.underlying t=some (.int .i64)):jVW n xs:=by
  refine ⟨h.1,fun i hi=>?_⟩
  have hr:[t,t,t,t,t,t,t,t,t,t,t][i % 11]?=some t:=by
    have h2:i % 11 < 11:=Nat.mod_lt _ (by omega)
    generalize i % 11=r at *
    match r,h2 with
    | 0,_ | 1,_ | 2,_ | 3,_ | 4,_ | 5,_ | 6,_ | 7,_ | 8,_ | 9,_ | 10,_=>rfl
  have:=h.int (k:=i / 11) (r:=i % 11) (by omega) hr hu
  have e:i / 11*[t,t,t,t,t,t,t,t,t,t,t].length+i % 11=i:=by show i / 11*11+i % 11=i; omega
  rw [e] at this
  exact this
theorem jJj {xs ys:List DV} {n m:Nat} (hx:xs.length=n*m) (hy:ys.length=n*m) (h:∀ k,k < n→∀ j,j < m→xs[k*m+j]?=ys[k*m+j]?):xs=ys:=by
  refine List.ext_getElem? fun i=>?_
  by_cases hi:i < n*m
  · have hm:0 < m:=by
      rcases Nat.eq_zero_or_pos m with h0 | h0
      · subst h0; simp at hi
      · exact h0
    have:=h (i / m) (Nat.div_lt_of_lt_mul (by rw [Nat.mul_comm]; exact hi)) (i % m) (Nat.mod_lt _ hm)
    have e:i / m*m+i % m=i:=by rw [Nat.mul_comm]; exact Nat.div_add_mod i m
    rw [e] at this
    exact this
  · rw [List.getElem?_eq_none (by omega),List.getElem?_eq_none (by omega)]
theorem Leaves.ops {P:Program} {t u b:TypeId} {n:Nat} {xs:List DV} (h:Leaves P [t,t,t,t,t,t,t,u,t,t,b,b] n xs) (ht:P.underlying t=some (.int .i64)) (hu:P.underlying u=some (.int .u16)) (hb:P.underlying b=some .bool):jV2 n xs:=by
  have hl:xs.length=n*12:=h.1
  have hn:(zQp xs).length=n:=by unfold zQp; rw [List.length_map,List.length_range,hl]; omega
  refine ⟨jJj hl (by rw [zQY,hn]) fun k hk j hj=>?_,hn.symm⟩
  have e:(zQp xs)[k]'(by omega)=oqAt xs (k*12):=by simp [zQp]
  rw [zHe (by omega) j hj,e]
  have key:=fun r (hr:r < 12)=>h.at_ (k:=k) (r:=r) (t:=[t,t,t,t,t,t,t,u,t,t,b,b][r]) hk (List.getElem?_eq_getElem hr)
  match j,hj with
  | 0,_=>exact h.int (r:=0) hk rfl ht
  | 1,_=>exact h.int (r:=1) hk rfl ht
  | 2,_=>exact h.int (r:=2) hk rfl ht
  | 3,_=>exact h.int (r:=3) hk rfl ht
  | 4,_=>exact h.int (r:=4) hk rfl ht
  | 5,_=>exact h.int (r:=5) hk rfl ht
  | 6,_=>exact h.int (r:=6) hk rfl ht
  | 7,_=>exact h.int (r:=7) hk rfl hu
  | 8,_=>exact h.int (r:=8) hk rfl ht
  | 9,_=>exact h.int (r:=9) hk rfl ht
  | 10,_=>exact h.bool (r:=10) hk rfl hb
  | 11,_=>exact h.bool (r:=11) hk rfl hb
def IsBs (n:Nat) (xs:List DV):Prop:=xs.length=n∧∀ i,i < n→xs[i]?=some (.bool (bAt xs i))
theorem Leaves.bools {P:Program} {b:TypeId} {n:Nat} {xs:List DV} (h:Leaves P [b] n xs) (hb:P.underlying b=some .bool):IsBs n xs:=
  ⟨by have:=h.1; simpa using this,fun i hi=>by
    have:=h.bool (k:=i) (r:=0) hi rfl hb
    simpa using this⟩
end Go.Proofs.Ytlnfgagmiogkgaa
namespace Go.Proofs.Ytlnfgagmiogkgaa
open Go.RowKit
set_option linter.unusedVariables false
set_option linter.unusedSimpArgs false
attribute [local irreducible] Ans AnsO AnsG AnsN AnsI
set_option maxRecDepth 4000
def zXy:Gam where
 pure:=fun f xs=>
  if f=16 then (match xs with | [.d (.int _ n),.d (.int _ k)]=>some (rJ ((modS n k))) | _=>none) else
  if f=16 then (match xs with | [.d (.int _ n),.d (.int _ k)]=>some (rJ ((modS n k))) | _=>none) else
  if f=19 then (match xs with | [.d (.sl n xs)]=>some (RV.tup [RV.agg [dJ ((decR (ints (xs))).bits),dJ ((decR (ints (xs))).c.a),dJ ((decR (ints (xs))).c.b),dJ ((decR (ints (xs))).c.c),dJ ((decR (ints (xs))).c.d),dJ ((decR (ints (xs))).tw),dJ ((decR (ints (xs))).th),dS ((decR (ints (xs))).ord.length) (is (decR (ints (xs))).ord),dS ((decR (ints (xs))).ims.length) (ims (decR (ints (xs))).ims),dS ((decR (ints (xs))).ops.length) (ops (decR (ints (xs))).ops)],rJ ((decE (ints (xs))))]) | _=>none) else
  if f=20 then (match xs with | [.d (.sl n xs)]=>some (RV.tup [RV.agg [dJ ((decR (ints (xs))).bits),dJ ((decR (ints (xs))).c.a),dJ ((decR (ints (xs))).c.b),dJ ((decR (ints (xs))).c.c),dJ ((decR (ints (xs))).c.d),dJ ((decR (ints (xs))).tw),dJ ((decR (ints (xs))).th),dS ((decR (ints (xs))).ord.length) (is (decR (ints (xs))).ord),dS ((decR (ints (xs))).ims.length) (ims (decR (ints (xs))).ims),dS ((decR (ints (xs))).ops.length) (ops (decR (ints (xs))).ops)],rJ ((decE (ints (xs))))]) | _=>none) else
  if f=19 then (match xs with | [.d (.sl n xs)]=>some (RV.tup [RV.agg [dJ ((decR (ints (xs))).bits),dJ ((decR (ints (xs))).c.a),dJ ((decR (ints (xs))).c.b),dJ ((decR (ints (xs))).c.c),dJ ((decR (ints (xs))).c.d),dJ ((decR (ints (xs))).tw),dJ ((decR (ints (xs))).th),dS ((decR (ints (xs))).ord.length) (is (decR (ints (xs))).ord),dS ((decR (ints (xs))).ims.length) (ims (decR (ints (xs))).ims),dS ((decR (ints (xs))).ops.length) (ops (decR (ints (xs))).ops)],rJ ((decE (ints (xs))))]) | _=>none) else
  if f=20 then (match xs with | [.d (.sl n xs)]=>some (RV.tup [RV.agg [dJ ((decR (ints (xs))).bits),dJ ((decR (ints (xs))).c.a),dJ ((decR (ints (xs))).c.b),dJ ((decR (ints (xs))).c.c),dJ ((decR (ints (xs))).c.d),dJ ((decR (ints (xs))).tw),dJ ((decR (ints (xs))).th),dS ((decR (ints (xs))).ord.length) (is (decR (ints (xs))).ord),dS ((decR (ints (xs))).ims.length) (ims (decR (ints (xs))).ims),dS ((decR (ints (xs))).ops.length) (ops (decR (ints (xs))).ops)],rJ ((decE (ints (xs))))]) | _=>none) else
  if f=13 then (match xs with | []=>some (RV.d (dQ true)) | _=>none) else
  if f=21 then (match xs with | [.agg [.int _ bits,.int _ cx0,.int _ cy0,.int _ cx1,.int _ cy1,.int _ tw,.int _ th,.sl on oxs,.sl mn mxs,.sl pn pxs],.agg [.int _ bitsq,.int _ cx0q,.int _ cy0q,.int _ cx1q,.int _ cy1q,.int _ twq,.int _ thq,.sl onq oxsq,.sl mnq mxsq,.sl pnq pxsq]]=>some (RV.d (dQ (eqS (⟨bits,⟨cx0,cy0,cx1,cy1⟩,tw,th,ints oxs,zQv mxs,zQp pxs⟩:Scr) (⟨bitsq,⟨cx0q,cy0q,cx1q,cy1q⟩,twq,thq,ints oxsq,zQv mxsq,zQp pxsq⟩:Scr)))) | _=>none) else
  if f=21 then (match xs with | [.agg [.int _ bits,.int _ cx0,.int _ cy0,.int _ cx1,.int _ cy1,.int _ tw,.int _ th,.sl on oxs,.sl mn mxs,.sl pn pxs],.agg [.int _ bitsq,.int _ cx0q,.int _ cy0q,.int _ cx1q,.int _ cy1q,.int _ twq,.int _ thq,.sl onq oxsq,.sl mnq mxsq,.sl pnq pxsq]]=>some (RV.d (dQ (eqS (⟨bits,⟨cx0,cy0,cx1,cy1⟩,tw,th,ints oxs,zQv mxs,zQp pxs⟩:Scr) (⟨bitsq,⟨cx0q,cy0q,cx1q,cy1q⟩,twq,thq,ints oxsq,zQv mxsq,zQp pxsq⟩:Scr)))) | _=>none) else
  none
 modes:=fun f=>
  if f=9 then some ([true],0,3) else
  if f=12 then some ([true],0,1) else
  none
 proc:=fun f xs bs=>
  if f=9 then (match xs,bs with | [AV.agg [Cl.d (DV.int _ sb),Cl.d (DV.int _ sx),Cl.d (DV.int _ sy),Cl.d (DV.int _ sw),Cl.d (DV.int _ sh),Cl.d (DV.int _ stw),Cl.d (DV.int _ sth),Cl.d (DV.sl son soxs),Cl.d (DV.sl spn spxs),Cl.d (DV.sl srn srxs)]],[]=>some ⟨AV.agg [cJ ((((⟨sb,sx,sy,sw,sh,stw,sth,son,soxs,spn,spxs,srn,srxs⟩:Scn)).bits)),cJ ((((⟨sb,sx,sy,sw,sh,stw,sth,son,soxs,spn,spxs,srn,srxs⟩:Scn)).c.a)),cJ ((((⟨sb,sx,sy,sw,sh,stw,sth,son,soxs,spn,spxs,srn,srxs⟩:Scn)).c.b)),cJ ((((⟨sb,sx,sy,sw,sh,stw,sth,son,soxs,spn,spxs,srn,srxs⟩:Scn)).c.c)),cJ ((((⟨sb,sx,sy,sw,sh,stw,sth,son,soxs,spn,spxs,srn,srxs⟩:Scn)).c.d)),cJ ((((⟨sb,sx,sy,sw,sh,stw,sth,son,soxs,spn,spxs,srn,srxs⟩:Scn)).gtw)),cJ ((((⟨sb,sx,sy,sw,sh,stw,sth,son,soxs,spn,spxs,srn,srxs⟩:Scn)).gth)),Cl.ref 0 (((⟨sb,sx,sy,sw,sh,stw,sth,son,soxs,spn,spxs,srn,srxs⟩:Scn)).ord.length),Cl.ref 1 (((⟨sb,sx,sy,sw,sh,stw,sth,son,soxs,spn,spxs,srn,srxs⟩:Scn)).ims.length),Cl.ref 2 (((⟨sb,sx,sy,sw,sh,stw,sth,son,soxs,spn,spxs,srn,srxs⟩:Scn)).ops.length)],[Bx.row 3 1 (is ((⟨sb,sx,sy,sw,sh,stw,sth,son,soxs,spn,spxs,srn,srxs⟩:Scn)).ord),Bx.row 43 28 (ims ((⟨sb,sx,sy,sw,sh,stw,sth,son,soxs,spn,spxs,srn,srxs⟩:Scn)).ims),Bx.row 55 12 (ops ((⟨sb,sx,sy,sw,sh,stw,sth,son,soxs,spn,spxs,srn,srxs⟩:Scn)).ops)],false⟩ | _,_=>none) else
  if f=12 then (match xs,bs with | [AV.agg [Cl.d (DV.int _ bits),Cl.d (DV.int _ cx0),Cl.d (DV.int _ cy0),Cl.d (DV.int _ cx1),Cl.d (DV.int _ cy1),Cl.d (DV.int _ tw),Cl.d (DV.int _ th),Cl.d (DV.sl on oxs),Cl.d (DV.sl mn mxs),Cl.d (DV.sl pn pxs)]],[]=>some ⟨AV.tup [AV.one (Cl.ref 0 ((encS (⟨bits,⟨cx0,cy0,cx1,cy1⟩,tw,th,ints oxs,zQv mxs,zQp pxs⟩:Scr)).1.length)),aJ ((((encS (⟨bits,⟨cx0,cy0,cx1,cy1⟩,tw,th,ints oxs,zQv mxs,zQp pxs⟩:Scr)).2)))],[Bx.row 5 1 (u8s (encS (⟨bits,⟨cx0,cy0,cx1,cy1⟩,tw,th,ints oxs,zQv mxs,zQp pxs⟩:Scr)).1)],true⟩ | _,_=>none) else
  none
 iter:=fun f cs=>
  none
def zZE (rn:Nat) (rxs:List DV) (s:Scn) (at_:Int) (by_:Int):Ann:=(Ann.seq Ann.leaf (Ann.seq Ann.leaf (Ann.seq Ann.leaf (Ann.cut ⟨List Int,fun z:List Int=>isB z,fun z:List Int=>⟨[(0,AV.one (Cl.d (dS rn rxs))),(9,AV.one (Cl.ref 9001 z.length))],[(9001,Bx.row 5 1 (u8s z))]⟩,fun z:List Int=>0⟩ Ann.leaf fun z=>Ann.leaf))))
theorem zYc (rn:Nat) (rxs:List DV) (s:Scn) (at_:Int) (by_:Int):vcg Try.prog zXy 103 (zQl Try.f5) (zZE rn rxs s at_ by_) kn0 (zQN [RV.d (DV.sl rn rxs),RV.agg [DV.int .i64 s.b,DV.int .i64 s.x,DV.int .i64 s.y,DV.int .i64 s.w,DV.int .i64 s.h,DV.int .i64 s.tw,DV.int .i64 s.th,DV.sl s.on s.oxs,DV.sl s.pn s.pxs,DV.sl s.rn s.rxs],RV.d (DV.int .i64 at_),RV.d (DV.int .i64 by_)]) (post Try.prog Try.f5.results.toList (·=RV.d (DV.bool true))) =
  (let zz0:=(0≤modS at_ (((encS (⟨((s).bits),((s).c),((s).gtw),((s).gth),ints (is (s).ord),zQv (ims (s).ims),zQp (ops (s).ops)⟩:Scr)).1.length:Nat):Int)∧modS at_ (((encS (⟨((s).bits),((s).c),((s).gtw),((s).gth),ints (is (s).ord),zQv (ims (s).ims),zQp (ops (s).ops)⟩:Scr)).1.length:Nat):Int) < (((encS (⟨((s).bits),((s).c),((s).gtw),((s).gth),ints (is (s).ord),zQv (ims (s).ims),zQp (ops (s).ops)⟩:Scr)).1.length:Nat):Int)); let zz1:=fun (z:List Int)=>[RV.d (dS z.length (u8s z))]; let zz2:=fun (z:List Int)=>[dJ ((decR (ints ((u8s z)))).bits),dJ ((decR (ints ((u8s z)))).c.a),dJ ((decR (ints ((u8s z)))).c.b),dJ ((decR (ints ((u8s z)))).c.c),dJ ((decR (ints ((u8s z)))).c.d),dJ ((decR (ints ((u8s z)))).tw),dJ ((decR (ints ((u8s z)))).th),dS ((decR (ints ((u8s z)))).ord.length) (is (decR (ints ((u8s z)))).ord),dS ((decR (ints ((u8s z)))).ims.length) (ims (decR (ints ((u8s z)))).ims),dS ((decR (ints ((u8s z)))).ops.length) (ops (decR (ints ((u8s z)))).ops)]; let zz3:=fun (z:List Int)=>(RV.tup [RV.agg (zz2 z),rJ ((decE (ints ((u8s z)))))]); let zz4:=[dJ ((decR (ints (rxs))).bits),dJ ((decR (ints (rxs))).c.a),dJ ((decR (ints (rxs))).c.b),dJ ((decR (ints (rxs))).c.c),dJ ((decR (ints (rxs))).c.d),dJ ((decR (ints (rxs))).tw),dJ ((decR (ints (rxs))).th),dS ((decR (ints (rxs))).ord.length) (is (decR (ints (rxs))).ord),dS ((decR (ints (rxs))).ims.length) (ims (decR (ints (rxs))).ims),dS ((decR (ints (rxs))).ops.length) (ops (decR (ints (rxs))).ops)]; let zz5:=(RV.tup [RV.agg zz4,rJ ((decE (ints (rxs))))]); let zz6:=fun (z:List Int)=>((((decE (ints ((u8s z))))==(0:Int))=false→tU3 (tU8 (RV.d (dQ ((wK ((((decR (ints ((u8s z)))).ops.length:Nat):Int)+(((decR (ints ((u8s z)))).ims.length:Nat):Int)))==(0:Int)))=RV.d (dQ true))))∧(((decE (ints ((u8s z))))==(0:Int))=(!false)→tU3 (RV.d (dQ true)=RV.d (dQ true)))); let zz7:=fun (z:List Int)=>((((decE (ints (rxs)))==(decE (ints (rxs))))=true→tU3 (((((decE (ints (rxs))) != (0:Int))=false→tU2 ((Ans Try.prog 21 [RV.agg zz4,RV.agg zz4] (RV.d (dQ (eqS (⟨((decR (ints (rxs))).bits),((decR (ints (rxs))).c),((decR (ints (rxs))).tw),((decR (ints (rxs))).th),ints (is (decR (ints (rxs))).ord),zQv (ims (decR (ints (rxs))).ims),zQp (ops (decR (ints (rxs))).ops)⟩:Scr) (⟨((decR (ints (rxs))).bits),((decR (ints (rxs))).c),((decR (ints (rxs))).tw),((decR (ints (rxs))).th),ints (is (decR (ints (rxs))).ord),zQv (ims (decR (ints (rxs))).ims),zQp (ops (decR (ints (rxs))).ops)⟩:Scr)))))∧tU3 ((((eqS (⟨((decR (ints (rxs))).bits),((decR (ints (rxs))).c),((decR (ints (rxs))).tw),((decR (ints (rxs))).th),ints (is (decR (ints (rxs))).ord),zQv (ims (decR (ints (rxs))).ims),zQp (ops (decR (ints (rxs))).ops)⟩:Scr) (⟨((decR (ints (rxs))).bits),((decR (ints (rxs))).c),((decR (ints (rxs))).tw),((decR (ints (rxs))).th),ints (is (decR (ints (rxs))).ord),zQv (ims (decR (ints (rxs))).ims),zQp (ops (decR (ints (rxs))).ops)⟩:Scr))=true→tU3 ((zz6 z)))∧((eqS (⟨((decR (ints (rxs))).bits),((decR (ints (rxs))).c),((decR (ints (rxs))).tw),((decR (ints (rxs))).th),ints (is (decR (ints (rxs))).ord),zQv (ims (decR (ints (rxs))).ims),zQp (ops (decR (ints (rxs))).ops)⟩:Scr) (⟨((decR (ints (rxs))).bits),((decR (ints (rxs))).c),((decR (ints (rxs))).tw),((decR (ints (rxs))).th),ints (is (decR (ints (rxs))).ord),zQv (ims (decR (ints (rxs))).ims),zQp (ops (decR (ints (rxs))).ops)⟩:Scr))=(!true)→tU2 (RV.d (dQ false)=RV.d (dQ true)))))))∧(((decE (ints (rxs))) != (0:Int))=(!false)→tU6 ((zz6 z))))))∧(((decE (ints (rxs)))==(decE (ints (rxs))))=(!true)→tU4 (RV.d (dQ false)=RV.d (dQ true)))); tU3 ((AnsG Try.prog 9 0 [AV.agg [cJ (s.b),cJ (s.x),cJ (s.y),cJ (s.w),cJ (s.h),cJ (s.tw),cJ (s.th),Cl.d (dS s.on s.oxs),Cl.d (dS s.pn s.pxs),Cl.d (dS s.rn s.rxs)]] [] ⟨AV.agg [cJ (((s).bits)),cJ (((s).c.a)),cJ (((s).c.b)),cJ (((s).c.c)),cJ (((s).c.d)),cJ (((s).gtw)),cJ (((s).gth)),Cl.ref 0 ((s).ord.length),Cl.ref 1 ((s).ims.length),Cl.ref 2 ((s).ops.length)],[Bx.row 3 1 (is (s).ord),Bx.row 43 28 (ims (s).ims),Bx.row 55 12 (ops (s).ops)],false⟩)∧(AnsG Try.prog 12 0 [AV.agg [cJ (((s).bits)),cJ (((s).c.a)),cJ (((s).c.b)),cJ (((s).c.c)),cJ (((s).c.d)),cJ (((s).gtw)),cJ (((s).gth)),Cl.d (dS ((s).ord.length) (is (s).ord)),Cl.d (dS ((s).ims.length) (ims (s).ims)),Cl.d (dS ((s).ops.length) (ops (s).ops))]] [] ⟨AV.tup [AV.one (Cl.ref 0 ((encS (⟨((s).bits),((s).c),((s).gtw),((s).gth),ints (is (s).ord),zQv (ims (s).ims),zQp (ops (s).ops)⟩:Scr)).1.length)),aJ ((((encS (⟨((s).bits),((s).c),((s).gtw),((s).gth),ints (is (s).ord),zQv (ims (s).ims),zQp (ops (s).ops)⟩:Scr)).2)))],[Bx.row 5 1 (u8s (encS (⟨((s).bits),((s).c),((s).gtw),((s).gth),ints (is (s).ord),zQv (ims (s).ims),zQp (ops (s).ops)⟩:Scr)).1)],true⟩)∧tU7 ((((((encS (⟨((s).bits),((s).c),((s).gtw),((s).gth),ints (is (s).ord),zQv (ims (s).ims),zQp (ops (s).ops)⟩:Scr)).2) != (0:Int))=true→True∧RV.d (dQ false)=RV.d (dQ true))∧((((encS (⟨((s).bits),((s).c),((s).gtw),((s).gth),ints (is (s).ord),zQv (ims (s).ims),zQp (ops (s).ops)⟩:Scr)).2) != (0:Int))=false→(tU3 (((encS (⟨((s).bits),((s).c),((s).gtw),((s).gth),ints (is (s).ord),zQv (ims (s).ims),zQp (ops (s).ops)⟩:Scr)).1.length≤maxLen)∧(Ans Try.prog 16 [rJ (at_),rJ ((((encS (⟨((s).bits),((s).c),((s).gtw),((s).gth),ints (is (s).ord),zQv (ims (s).ims),zQp (ops (s).ops)⟩:Scr)).1.length:Nat):Int))] (rJ ((modS at_ (((encS (⟨((s).bits),((s).c),((s).gtw),((s).gth),ints (is (s).ord),zQv (ims (s).ims),zQp (ops (s).ops)⟩:Scr)).1.length:Nat):Int)))))∧zz0∧(((u8s (encS (⟨((s).bits),((s).c),((s).gtw),((s).gth),ints (is (s).ord),zQv (ims (s).ims),zQp (ops (s).ops)⟩:Scr)).1)[(modS at_ (((encS (⟨((s).bits),((s).c),((s).gtw),((s).gth),ints (is (s).ord),zQv (ims (s).ims),zQp (ops (s).ops)⟩:Scr)).1.length:Nat):Int)).toNat*1]?=some (DV.int .u8 (nAt (u8s (encS (⟨((s).bits),((s).c),((s).gtw),((s).gth),ints (is (s).ord),zQv (ims (s).ims),zQp (ops (s).ops)⟩:Scr)).1) ((modS at_ (((encS (⟨((s).bits),((s).c),((s).gtw),((s).gth),ints (is (s).ord),zQv (ims (s).ims),zQp (ops (s).ops)⟩:Scr)).1.length:Nat):Int)).toNat*1))))∧True)∧True∧(Ans Try.prog 16 [rJ (by_),rJ (255)] (rJ ((modS by_ (255:Int)))))∧tU3 (zz0∧((modS at_ (((encS (⟨((s).bits),((s).c),((s).gtw),((s).gth),ints (is (s).ord),zQv (ims (s).ims),zQp (ops (s).ops)⟩:Scr)).1.length:Nat):Int)).toNat*1+1≤(u8s (encS (⟨((s).bits),((s).c),((s).gtw),((s).gth),ints (is (s).ord),zQv (ims (s).ims),zQp (ops (s).ops)⟩:Scr)).1).length)∧(true=true)∧∃ z:List Int,(isB z)∧(((dS rn rxs=dS rn rxs)∧((encS (⟨((s).bits),((s).c),((s).gtw),((s).gth),ints (is (s).ord),zQv (ims (s).ims),zQp (ops (s).ops)⟩:Scr)).1.length=z.length)∧True)∧((List.set (u8s (encS (⟨((s).bits),((s).c),((s).gtw),((s).gth),ints (is (s).ord),zQv (ims (s).ims),zQp (ops (s).ops)⟩:Scr)).1) ((modS at_ (((encS (⟨((s).bits),((s).c),((s).gtw),((s).gth),ints (is (s).ord),zQv (ims (s).ims),zQp (ops (s).ops)⟩:Scr)).1.length:Nat):Int)).toNat*1) (DV.int .u8 (IntKind.wrap .u8 (BitVec.ofInt 8 (nAt (u8s (encS (⟨((s).bits),((s).c),((s).gtw),((s).gth),ints (is (s).ord),zQv (ims (s).ims),zQp (ops (s).ops)⟩:Scr)).1) ((modS at_ (((encS (⟨((s).bits),((s).c),((s).gtw),((s).gth),ints (is (s).ord),zQv (ims (s).ims),zQp (ops (s).ops)⟩:Scr)).1.length:Nat):Int)).toNat*1)) ^^^ BitVec.ofInt 8 (IntKind.wrap .u8 (wK ((1:Int)+(modS by_ (255:Int)))))).toNat))=u8s z)∧True)))))∧∀ z:List Int,(isB z)→True∧(Ans Try.prog 19 (zz1 z) (zz3 z))∧tU7 ((Ans Try.prog 20 (zz1 z) (zz3 z))∧tU7 ((Ans Try.prog 19 [RV.d (dS rn rxs)] zz5)∧tU7 ((Ans Try.prog 20 [RV.d (dS rn rxs)] zz5)∧tU6 ((Ans Try.prog 13 [] (RV.d (dQ true)))∧True∧((true=true→tU5 (((((decE (ints ((u8s z))))==(decE (ints ((u8s z)))))=true→tU3 (((((decE (ints ((u8s z)))) != (0:Int))=false→tU2 ((Ans Try.prog 21 [RV.agg (zz2 z),RV.agg (zz2 z)] (RV.d (dQ (eqS (⟨((decR (ints ((u8s z)))).bits),((decR (ints ((u8s z)))).c),((decR (ints ((u8s z)))).tw),((decR (ints ((u8s z)))).th),ints (is (decR (ints ((u8s z)))).ord),zQv (ims (decR (ints ((u8s z)))).ims),zQp (ops (decR (ints ((u8s z)))).ops)⟩:Scr) (⟨((decR (ints ((u8s z)))).bits),((decR (ints ((u8s z)))).c),((decR (ints ((u8s z)))).tw),((decR (ints ((u8s z)))).th),ints (is (decR (ints ((u8s z)))).ord),zQv (ims (decR (ints ((u8s z)))).ims),zQp (ops (decR (ints ((u8s z)))).ops)⟩:Scr)))))∧tU3 ((((eqS (⟨((decR (ints ((u8s z)))).bits),((decR (ints ((u8s z)))).c),((decR (ints ((u8s z)))).tw),((decR (ints ((u8s z)))).th),ints (is (decR (ints ((u8s z)))).ord),zQv (ims (decR (ints ((u8s z)))).ims),zQp (ops (decR (ints ((u8s z)))).ops)⟩:Scr) (⟨((decR (ints ((u8s z)))).bits),((decR (ints ((u8s z)))).c),((decR (ints ((u8s z)))).tw),((decR (ints ((u8s z)))).th),ints (is (decR (ints ((u8s z)))).ord),zQv (ims (decR (ints ((u8s z)))).ims),zQp (ops (decR (ints ((u8s z)))).ops)⟩:Scr))=true→tU5 ((zz7 z)))∧((eqS (⟨((decR (ints ((u8s z)))).bits),((decR (ints ((u8s z)))).c),((decR (ints ((u8s z)))).tw),((decR (ints ((u8s z)))).th),ints (is (decR (ints ((u8s z)))).ord),zQv (ims (decR (ints ((u8s z)))).ims),zQp (ops (decR (ints ((u8s z)))).ops)⟩:Scr) (⟨((decR (ints ((u8s z)))).bits),((decR (ints ((u8s z)))).c),((decR (ints ((u8s z)))).tw),((decR (ints ((u8s z)))).th),ints (is (decR (ints ((u8s z)))).ord),zQv (ims (decR (ints ((u8s z)))).ims),zQp (ops (decR (ints ((u8s z)))).ops)⟩:Scr))=(!true)→tU6 (RV.d (dQ false)=RV.d (dQ true)))))))∧(((decE (ints ((u8s z)))) != (0:Int))=(!false)→tU8 ((zz7 z))))))∧(((decE (ints ((u8s z))))==(decE (ints ((u8s z)))))=(!true)→tU8 (RV.d (dQ false)=RV.d (dQ true))))))∧(true=(!true)→tU2 (tU8 (RV.d (dQ false)=RV.d (dQ true)))))))))))))):=by kernel_rfl
theorem zXV (rn:Nat) (rxs:List DV) (s:Scn) (at_:Int) (by_:Int) (hr:IsB8 rn rxs) (hs:s.ok):Ans Try.prog 5 [RV.d (DV.sl rn rxs),RV.agg [DV.int .i64 s.b,DV.int .i64 s.x,DV.int .i64 s.y,DV.int .i64 s.w,DV.int .i64 s.h,DV.int .i64 s.tw,DV.int .i64 s.th,DV.sl s.on s.oxs,DV.sl s.pn s.pxs,DV.sl s.rn s.rxs],RV.d (DV.int .i64 at_),RV.d (DV.int .i64 by_)] (RV.d (DV.bool true)):=
  zQf (Γ:=zXy) (zZE rn rxs s at_ by_) zQq Try.func5 rfl (Nat.le_of_ble_eq_true rfl) fun hwf=>by
    refine Eq.mpr (zYc rn rxs s at_ by_) ?_
    delta tU2 tU3 tU4 tU5 tU6 tU7 tU8 dJ dQ cJ wK dS rJ aJ
    simp only [true_and,and_true,RV.d.injEq,RV.agg.injEq,RV.tup.injEq,DV.bool.injEq,DV.int.injEq,DV.sl.injEq,List.cons.injEq,forall_const,Bool.not_false,Bool.not_true,Bool.not_eq_true',Bool.not_eq_false',decide_eq_true_eq,decide_eq_false_iff_not,Int.toNat_natCast,zQr]
    have hol:=s.ops_len
    have hod:=s.ord_len
    have hIU:=s.ims_isU
    have hin:=s.inR
    have eS:encS ⟨s.bits,s.c,s.gtw,s.gth,s.ord,s.ims,s.ops⟩=(encB s.scr,0):=by
      have hok:zQO ⟨s.bits,s.c,s.gtw,s.gth,s.ord,s.ims,s.ops⟩=true:=hin.ok
      unfold encS; rw [if_pos hok]; rfl
    obtain ⟨hr,rfl⟩:=hr
    have hrB:isB (ints rxs):=zKg (by
      simp only [RV.wfs,RV.wf,DV.wf] at hwf
      rw [← hr]
      exact hwf.1.2)
    generalize ints rxs=a at *
    subst hr
    rw [zX4] at *
    have a1:=zJB ⟨s.bits,s.c,s.gtw,s.gth,s.ord,s.ims,s.ops⟩ hIU (by show s.ord.length≤_; omega)
    have gs:=jQX s hs
    simp only [zZo,zXM,zXu,zQZ,eS] at a1 gs ⊢
    have hBB:=jXi s.scr
    have hdec:=(jVf hin).1
    have hle:(encB s.scr).length≤67108864:=hdec.1
    have hlen:34≤(encB s.scr).length:=by
      have:=hdec.2.1.1.1.1.2.1
      have h0:0 < (encB s.scr).length:=by omega
      have h1:=hin.ok
      have hl:=zVa (zUM h1).fm
      have hz:=zZr (zUM h1).fm
      unfold zZm at hl
      have hz0:0≤zQL s.scr.ims:=by
        have:=zJT (zUM h1).fm
        omega
      omega
    have hq:=@zQ6 at_ ((encB s.scr).length:Int) (by omega) (by omega)
    have hKl:(modS at_ ((encB s.scr).length:Int)).toNat < (encB s.scr).length:=by omega
    have hKK:(modS at_ ((encB s.scr).length:Int)).toNat+1≤(encB s.scr).length:=by omega
    generalize (modS at_ ((encB s.scr).length:Int)).toNat=K at *
    obtain ⟨q1,q2⟩:=jYi hKl
    have hx:∀ n:Nat,0≤IntKind.wrap .u8 (n:Int)∧IntKind.wrap .u8 (n:Int)≤255:=fun n=>by
      have w:IntKind.wrap .u8 (n:Int)=(n:Int) % 256:=by simp [IntKind.wrap,IntKind.bits,IntKind.signed]
      rw [w]; omega
    simp only [Nat.mul_one,q2]
    generalize (BitVec.ofInt 8 ((encB s.scr)[K]) ^^^ BitVec.ofInt 8 (IntKind.wrap .u8 (IntKind.wrap .i64 (1+modS by_ 255)))).toNat=n
    refine ⟨gs,a1,fun h=>absurd h (by decide),fun _=>⟨⟨by unfold maxLen; omega,⟨by omega,by omega⟩,q1,⟨by omega,by omega⟩,hKK,(encB s.scr).set K (IntKind.wrap .u8 (n:Int)),jKT hBB K (hx n),by simp,jKv _ _ _⟩,fun z hz=>?_⟩⟩
    have D:=fun b:List Int=>zYk b
    have D2:=fun b:List Int=>zGm b
    have EQ:=fun b:List Int=>zHO (decR b) (decR b) jXx jXx
    have EB:∀ b:List Int,isB b→eqS ⟨(decR b).bits,(decR b).c,(decR b).tw,(decR b).th,(decR b).ord,(decR b).ims,(decR b).ops⟩ ⟨(decR b).bits,(decR b).c,(decR b).tw,(decR b).th,(decR b).ord,(decR b).ims,(decR b).ops⟩=true:=fun b hb=>jVg hb
    have Ez:=EB z hz
    have Ea:=EB a hrB
    unfold scrD at D
    simp only [zZo,zXM,zXu,zQZ,zX4] at D D2 EQ ⊢
    have EQz:=EQ z
    have EQa:=EQ a
    rw [Ez] at EQz
    rw [Ea] at EQa
    rw [Ez,Ea]
    have fin:(decE z==0)=false→(IntKind.wrap .i64 (((decR z).ops.length:Int)+((decR z).ims.length:Int))==0)=true:=fun h=>by
      rcases jVh (b:=z) with e | ⟨_,e1,e2⟩
      · rw [e] at h; cases h
      · rw [e1,e2]; rfl
    have nf:∀ {p:Prop},(true=false)→p:=fun h=>by cases h
    (repeat' (first | exact fin | apply And.intro | intro _)) <;> first | exact D z | exact D2 z | exact D a | exact D2 a | exact zGp | exact EQz | exact EQa | exact trivial | exact beq_self_eq_true _ | (rename_i h; first | exact nf h | (rw [beq_self_eq_true] at h; exact nf h))
end Go.Proofs.Ytlnfgagmiogkgaa
namespace Go.Proofs.Ytlnfgagmiogkgaa.closed
open Go
set_option linter.unusedVariables false
set_option linter.unusedSimpArgs false
set_option maxRecDepth 100000 in
theorem jJQ:Try.prog.initOrder=String.ofList [Char.ofNat 104,Char.ofNat 97,Char.ofNat 114,Char.ofNat 110,Char.ofNat 101,Char.ofNat 115,Char.ofNat 115,Char.ofNat 32,Char.ofNat 52,Char.ofNat 101,Char.ofNat 55,Char.ofNat 100,Char.ofNat 98,Char.ofNat 99,Char.ofNat 99,Char.ofNat 49,Char.ofNat 49,Char.ofNat 55,Char.ofNat 98,Char.ofNat 100,Char.ofNat 53,Char.ofNat 57,Char.ofNat 49,Char.ofNat 102,Char.ofNat 97,Char.ofNat 57,Char.ofNat 97,Char.ofNat 101,Char.ofNat 100,Char.ofNat 56,Char.ofNat 101,Char.ofNat 97,Char.ofNat 97,Char.ofNat 56,Char.ofNat 101,Char.ofNat 102,Char.ofNat 57,Char.ofNat 50,Char.ofNat 100,Char.ofNat 52,Char.ofNat 48,Char.ofNat 100,Char.ofNat 49,Char.ofNat 101,Char.ofNat 99,Char.ofNat 101,Char.ofNat 57,Char.ofNat 98,Char.ofNat 97,Char.ofNat 49,Char.ofNat 54,Char.ofNat 99,Char.ofNat 52,Char.ofNat 102,Char.ofNat 99,Char.ofNat 55,Char.ofNat 55,Char.ofNat 100,Char.ofNat 101,Char.ofNat 52,Char.ofNat 48,Char.ofNat 56,Char.ofNat 54,Char.ofNat 98,Char.ofNat 100,Char.ofNat 97,Char.ofNat 53,Char.ofNat 52,Char.ofNat 99,Char.ofNat 48,Char.ofNat 56,Char.ofNat 56,Char.ofNat 32,Char.ofNat 99,Char.ofNat 117,Char.ofNat 116,Char.ofNat 32,Char.ofNat 97,Char.ofNat 116,Char.ofNat 32,Char.ofNat 99,Char.ofNat 111,Char.ofNat 109,Char.ofNat 112,Char.ofNat 111,Char.ofNat 115,Char.ofNat 105,Char.ofNat 116,Char.ofNat 111,Char.ofNat 114,Char.ofNat 47,Char.ofNat 99,Char.ofNat 111,Char.ofNat 109,Char.ofNat 112,Char.ofNat 111,Char.ofNat 115,Char.ofNat 105,Char.ofNat 116,Char.ofNat 111,Char.ofNat 114,Char.ofNat 108,Char.ofNat 97,Char.ofNat 119,Char.ofNat 49,Char.ofNat 56,Char.ofNat 46,Char.ofNat 83,Char.ofNat 99,Char.ofNat 114,Char.ofNat 105,Char.ofNat 112,Char.ofNat 116,Char.ofNat 69,Char.ofNat 110,Char.ofNat 99,Char.ofNat 111,Char.ofNat 100,Char.ofNat 101,Char.ofNat 65,Char.ofNat 103,Char.ofNat 114,Char.ofNat 101,Char.ofNat 101,Char.ofNat 115,Char.ofNat 32,Char.ofNat 99,Char.ofNat 111,Char.ofNat 109,Char.ofNat 112,Char.ofNat 111,Char.ofNat 115,Char.ofNat 105,Char.ofNat 116,Char.ofNat 111,Char.ofNat 114,Char.ofNat 47,Char.ofNat 99,Char.ofNat 111,Char.ofNat 109,Char.ofNat 112,Char.ofNat 111,Char.ofNat 115,Char.ofNat 105,Char.ofNat 116,Char.ofNat 111,Char.ofNat 114,Char.ofNat 108,Char.ofNat 97,Char.ofNat 119,Char.ofNat 49,Char.ofNat 56,Char.ofNat 46,Char.ofNat 83,Char.ofNat 99,Char.ofNat 114,Char.ofNat 105,Char.ofNat 112,Char.ofNat 116,Char.ofNat 69,Char.ofNat 110,Char.ofNat 99,Char.ofNat 111,Char.ofNat 100,Char.ofNat 97,Char.ofNat 98,Char.ofNat 108,Char.ofNat 101,Char.ofNat 65,Char.ofNat 103,Char.ofNat 114,Char.ofNat 101,Char.ofNat 101,Char.ofNat 115,Char.ofNat 32,Char.ofNat 99,Char.ofNat 111,Char.ofNat 109,Char.ofNat 112,Char.ofNat 111,Char.ofNat 115,Char.ofNat 105,Char.ofNat 116,Char.ofNat 111,Char.ofNat 114,Char.ofNat 47,Char.ofNat 99,Char.ofNat 111,Char.ofNat 109,Char.ofNat 112,Char.ofNat 111,Char.ofNat 115,Char.ofNat 105,Char.ofNat 116,Char.ofNat 111,Char.ofNat 114,Char.ofNat 108,Char.ofNat 97,Char.ofNat 119,Char.ofNat 49,Char.ofNat 56,Char.ofNat 46,Char.ofNat 83,Char.ofNat 99,Char.ofNat 114,Char.ofNat 105,Char.ofNat 112,Char.ofNat 116,Char.ofNat 68,Char.ofNat 101,Char.ofNat 99,Char.ofNat 111,Char.ofNat 100,Char.ofNat 101,Char.ofNat 65,Char.ofNat 103,Char.ofNat 114,Char.ofNat 101,Char.ofNat 101,Char.ofNat 115,Char.ofNat 32,Char.ofNat 99,Char.ofNat 111,Char.ofNat 109,Char.ofNat 112,Char.ofNat 111,Char.ofNat 115,Char.ofNat 105,Char.ofNat 116,Char.ofNat 111,Char.ofNat 114,Char.ofNat 47,Char.ofNat 99,Char.ofNat 111,Char.ofNat 109,Char.ofNat 112,Char.ofNat 111,Char.ofNat 115,Char.ofNat 105,Char.ofNat 116,Char.ofNat 111,Char.ofNat 114,Char.ofNat 108,Char.ofNat 97,Char.ofNat 119,Char.ofNat 49,Char.ofNat 56,Char.ofNat 46,Char.ofNat 83,Char.ofNat 99,Char.ofNat 114,Char.ofNat 105,Char.ofNat 112,Char.ofNat 116,Char.ofNat 68,Char.ofNat 101,Char.ofNat 99,Char.ofNat 111,Char.ofNat 100,Char.ofNat 101,Char.ofNat 78,Char.ofNat 101,Char.ofNat 101,Char.ofNat 100,Char.ofNat 115,Char.ofNat 65,Char.ofNat 108,Char.ofNat 108,Char.ofNat 66,Char.ofNat 121,Char.ofNat 116,Char.ofNat 101,Char.ofNat 115,Char.ofNat 32,Char.ofNat 99,Char.ofNat 111,Char.ofNat 109,Char.ofNat 112,Char.ofNat 111,Char.ofNat 115,Char.ofNat 105,Char.ofNat 116,Char.ofNat 111,Char.ofNat 114,Char.ofNat 47,Char.ofNat 99,Char.ofNat 111,Char.ofNat 109,Char.ofNat 112,Char.ofNat 111,Char.ofNat 115,Char.ofNat 105,Char.ofNat 116,Char.ofNat 111,Char.ofNat 114,Char.ofNat 108,Char.ofNat 97,Char.ofNat 119,Char.ofNat 49,Char.ofNat 56,Char.ofNat 46,Char.ofNat 83,Char.ofNat 99,Char.ofNat 114,Char.ofNat 105,Char.ofNat 112,Char.ofNat 116,Char.ofNat 82,Char.ofNat 111,Char.ofNat 117,Char.ofNat 110,Char.ofNat 100,Char.ofNat 84,Char.ofNat 114,Char.ofNat 105,Char.ofNat 112,Char.ofNat 32,Char.ofNat 99,Char.ofNat 111,Char.ofNat 109,Char.ofNat 112,Char.ofNat 111,Char.ofNat 115,Char.ofNat 105,Char.ofNat 116,Char.ofNat 111,Char.ofNat 114,Char.ofNat 47,Char.ofNat 99,Char.ofNat 111,Char.ofNat 109,Char.ofNat 112,Char.ofNat 111,Char.ofNat 115,Char.ofNat 105,Char.ofNat 116,Char.ofNat 111,Char.ofNat 114,Char.ofNat 108,Char.ofNat 97,Char.ofNat 119,Char.ofNat 49,Char.ofNat 56,Char.ofNat 46,Char.ofNat 83,Char.ofNat 99,Char.ofNat 114,Char.ofNat 105,Char.ofNat 112,Char.ofNat 116,Char.ofNat 69,Char.ofNat 113,Char.ofNat 117,Char.ofNat 97,Char.ofNat 108,Char.ofNat 65,Char.ofNat 103,Char.ofNat 114,Char.ofNat 101,Char.ofNat 101,Char.ofNat 115]:=by kernel_rfl
set_option maxRecDepth 100000 in
theorem zUA:Try.prog.initOrder.toList=[Char.ofNat 104,Char.ofNat 97,Char.ofNat 114,Char.ofNat 110,Char.ofNat 101,Char.ofNat 115,Char.ofNat 115,Char.ofNat 32,Char.ofNat 52,Char.ofNat 101,Char.ofNat 55,Char.ofNat 100,Char.ofNat 98,Char.ofNat 99,Char.ofNat 99,Char.ofNat 49,Char.ofNat 49,Char.ofNat 55,Char.ofNat 98,Char.ofNat 100,Char.ofNat 53,Char.ofNat 57,Char.ofNat 49,Char.ofNat 102,Char.ofNat 97,Char.ofNat 57,Char.ofNat 97,Char.ofNat 101,Char.ofNat 100,Char.ofNat 56,Char.ofNat 101,Char.ofNat 97,Char.ofNat 97,Char.ofNat 56,Char.ofNat 101,Char.ofNat 102,Char.ofNat 57,Char.ofNat 50,Char.ofNat 100,Char.ofNat 52,Char.ofNat 48,Char.ofNat 100,Char.ofNat 49,Char.ofNat 101,Char.ofNat 99,Char.ofNat 101,Char.ofNat 57,Char.ofNat 98,Char.ofNat 97,Char.ofNat 49,Char.ofNat 54,Char.ofNat 99,Char.ofNat 52,Char.ofNat 102,Char.ofNat 99,Char.ofNat 55,Char.ofNat 55,Char.ofNat 100,Char.ofNat 101,Char.ofNat 52,Char.ofNat 48,Char.ofNat 56,Char.ofNat 54,Char.ofNat 98,Char.ofNat 100,Char.ofNat 97,Char.ofNat 53,Char.ofNat 52,Char.ofNat 99,Char.ofNat 48,Char.ofNat 56,Char.ofNat 56,Char.ofNat 32,Char.ofNat 99,Char.ofNat 117,Char.ofNat 116,Char.ofNat 32,Char.ofNat 97,Char.ofNat 116,Char.ofNat 32,Char.ofNat 99,Char.ofNat 111,Char.ofNat 109,Char.ofNat 112,Char.ofNat 111,Char.ofNat 115,Char.ofNat 105,Char.ofNat 116,Char.ofNat 111,Char.ofNat 114,Char.ofNat 47,Char.ofNat 99,Char.ofNat 111,Char.ofNat 109,Char.ofNat 112,Char.ofNat 111,Char.ofNat 115,Char.ofNat 105,Char.ofNat 116,Char.ofNat 111,Char.ofNat 114,Char.ofNat 108,Char.ofNat 97,Char.ofNat 119,Char.ofNat 49,Char.ofNat 56,Char.ofNat 46,Char.ofNat 83,Char.ofNat 99,Char.ofNat 114,Char.ofNat 105,Char.ofNat 112,Char.ofNat 116,Char.ofNat 69,Char.ofNat 110,Char.ofNat 99,Char.ofNat 111,Char.ofNat 100,Char.ofNat 101,Char.ofNat 65,Char.ofNat 103,Char.ofNat 114,Char.ofNat 101,Char.ofNat 101,Char.ofNat 115,Char.ofNat 32,Char.ofNat 99,Char.ofNat 111,Char.ofNat 109,Char.ofNat 112,Char.ofNat 111,Char.ofNat 115,Char.ofNat 105,Char.ofNat 116,Char.ofNat 111,Char.ofNat 114,Char.ofNat 47,Char.ofNat 99,Char.ofNat 111,Char.ofNat 109,Char.ofNat 112,Char.ofNat 111,Char.ofNat 115,Char.ofNat 105,Char.ofNat 116,Char.ofNat 111,Char.ofNat 114,Char.ofNat 108,Char.ofNat 97,Char.ofNat 119,Char.ofNat 49,Char.ofNat 56,Char.ofNat 46,Char.ofNat 83,Char.ofNat 99,Char.ofNat 114,Char.ofNat 105,Char.ofNat 112,Char.ofNat 116,Char.ofNat 69,Char.ofNat 110,Char.ofNat 99,Char.ofNat 111,Char.ofNat 100,Char.ofNat 97,Char.ofNat 98,Char.ofNat 108,Char.ofNat 101,Char.ofNat 65,Char.ofNat 103,Char.ofNat 114,Char.ofNat 101,Char.ofNat 101,Char.ofNat 115,Char.ofNat 32,Char.ofNat 99,Char.ofNat 111,Char.ofNat 109,Char.ofNat 112,Char.ofNat 111,Char.ofNat 115,Char.ofNat 105,Char.ofNat 116,Char.ofNat 111,Char.ofNat 114,Char.ofNat 47,Char.ofNat 99,Char.ofNat 111,Char.ofNat 109,Char.ofNat 112,Char.ofNat 111,Char.ofNat 115,Char.ofNat 105,Char.ofNat 116,Char.ofNat 111,Char.ofNat 114,Char.ofNat 108,Char.ofNat 97,Char.ofNat 119,Char.ofNat 49,Char.ofNat 56,Char.ofNat 46,Char.ofNat 83,Char.ofNat 99,Char.ofNat 114,Char.ofNat 105,Char.ofNat 112,Char.ofNat 116,Char.ofNat 68,Char.ofNat 101,Char.ofNat 99,Char.ofNat 111,Char.ofNat 100,Char.ofNat 101,Char.ofNat 65,Char.ofNat 103,Char.ofNat 114,Char.ofNat 101,Char.ofNat 101,Char.ofNat 115,Char.ofNat 32,Char.ofNat 99,Char.ofNat 111,Char.ofNat 109,Char.ofNat 112,Char.ofNat 111,Char.ofNat 115,Char.ofNat 105,Char.ofNat 116,Char.ofNat 111,Char.ofNat 114,Char.ofNat 47,Char.ofNat 99,Char.ofNat 111,Char.ofNat 109,Char.ofNat 112,Char.ofNat 111,Char.ofNat 115,Char.ofNat 105,Char.ofNat 116,Char.ofNat 111,Char.ofNat 114,Char.ofNat 108,Char.ofNat 97,Char.ofNat 119,Char.ofNat 49,Char.ofNat 56,Char.ofNat 46,Char.ofNat 83,Char.ofNat 99,Char.ofNat 114,Char.ofNat 105,Char.ofNat 112,Char.ofNat 116,Char.ofNat 68,Char.ofNat 101,Char.ofNat 99,Char.ofNat 111,Char.ofNat 100,Char.ofNat 101,Char.ofNat 78,Char.ofNat 101,Char.ofNat 101,Char.ofNat 100,Char.ofNat 115,Char.ofNat 65,Char.ofNat 108,Char.ofNat 108,Char.ofNat 66,Char.ofNat 121,Char.ofNat 116,Char.ofNat 101,Char.ofNat 115,Char.ofNat 32,Char.ofNat 99,Char.ofNat 111,Char.ofNat 109,Char.ofNat 112,Char.ofNat 111,Char.ofNat 115,Char.ofNat 105,Char.ofNat 116,Char.ofNat 111,Char.ofNat 114,Char.ofNat 47,Char.ofNat 99,Char.ofNat 111,Char.ofNat 109,Char.ofNat 112,Char.ofNat 111,Char.ofNat 115,Char.ofNat 105,Char.ofNat 116,Char.ofNat 111,Char.ofNat 114,Char.ofNat 108,Char.ofNat 97,Char.ofNat 119,Char.ofNat 49,Char.ofNat 56,Char.ofNat 46,Char.ofNat 83,Char.ofNat 99,Char.ofNat 114,Char.ofNat 105,Char.ofNat 112,Char.ofNat 116,Char.ofNat 82,Char.ofNat 111,Char.ofNat 117,Char.ofNat 110,Char.ofNat 100,Char.ofNat 84,Char.ofNat 114,Char.ofNat 105,Char.ofNat 112,Char.ofNat 32,Char.ofNat 99,Char.ofNat 111,Char.ofNat 109,Char.ofNat 112,Char.ofNat 111,Char.ofNat 115,Char.ofNat 105,Char.ofNat 116,Char.ofNat 111,Char.ofNat 114,Char.ofNat 47,Char.ofNat 99,Char.ofNat 111,Char.ofNat 109,Char.ofNat 112,Char.ofNat 111,Char.ofNat 115,Char.ofNat 105,Char.ofNat 116,Char.ofNat 111,Char.ofNat 114,Char.ofNat 108,Char.ofNat 97,Char.ofNat 119,Char.ofNat 49,Char.ofNat 56,Char.ofNat 46,Char.ofNat 83,Char.ofNat 99,Char.ofNat 114,Char.ofNat 105,Char.ofNat 112,Char.ofNat 116,Char.ofNat 69,Char.ofNat 113,Char.ofNat 117,Char.ofNat 97,Char.ofNat 108,Char.ofNat 65,Char.ofNat 103,Char.ofNat 114,Char.ofNat 101,Char.ofNat 101,Char.ofNat 115]:=by rw [jJQ,String.toList_ofList]
set_option maxRecDepth 100000 in
theorem enters:Try.prog.mayEnter=true:=by
  unfold Program.mayEnter Program.doorFits
  rw [zUA]
  kernel_rfl
set_option maxRecDepth 100000 in
theorem liftsNot:Try.prog.liftsFinal=false:=by
  unfold Program.liftsFinal Program.headLifts
  rw [zUA]
  kernel_rfl
set_option maxRecDepth 100000 in
theorem made:Try.prog.make=some .cut:=by
  unfold Program.make
  rw [zUA]
  kernel_rfl
theorem own:ownKnob Try.prog.godebug=none:=by kernel_rfl
theorem laidOut:laidOutB Try.prog=true:=by kernel_rfl
theorem mapsRow:mapsRowed Try.prog=true:=by kernel_rfl
theorem noStops:(Try.prog.stops==[])=true:=by kernel_rfl
theorem noKnobs:(Try.prog.stopKnobs==[])=true:=by kernel_rfl
theorem plain:Try.prog.plainKeys=true:=by kernel_rfl
theorem heard:Try.prog.stopsHeard=true:=by kernel_rfl
end Go.Proofs.Ytlnfgagmiogkgaa.closed
