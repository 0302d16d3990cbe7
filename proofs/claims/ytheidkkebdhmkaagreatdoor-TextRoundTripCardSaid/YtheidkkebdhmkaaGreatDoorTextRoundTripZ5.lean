/-
  Part 5 of what TextRoundTrip rests on.
-/
import Derived.Test.YtheidkkebdhmkaaGreatDoorTextRoundTripZ4
import Derived.Test.YtheidkkebdhmkaaGreatDoorTextRoundTripZ2
import Derived.Lib.Builder
import Derived.BigCall
namespace Go.Proofs.YtheidkkebdhmkaaGreatDoor
open Go.RowKit
set_option linter.unusedVariables false
set_option linter.unusedSimpArgs false
attribute [local irreducible] Ans AnsO AnsG AnsN AnsI
set_option maxHeartbeats 4000000
set_option maxRecDepth 4000
open Go.Lib
structure LQ where
  ws:List Lb
  bad:Bool
def reQ (q:LQ):LQ:=⟨zQB (strs q.ws),q.bad⟩
theorem zZQ (q:LQ):reQ q=q:=by unfold reQ; rw [zQL]
def zQ6 (ws:List Lb):Lb:=ws.headD []
def zQX (q:LQ):LQ:=⟨q.ws.drop 1,q.bad⟩
def zQ1 (q:LQ):LQ:=⟨q.ws.drop 1,q.bad || q.ws.isEmpty⟩
def numQ (q:LQ) (lo hi:Int):Int × LQ:=if okN lo hi (zQ6 q.ws)=true then (numV (zQ6 q.ws),zQ1 q) else (0,⟨q.ws.drop 1,true⟩)
theorem jUo {q:LQ} {lo hi:Int} (h:lo≤0∧0≤hi):lo≤(numQ q lo hi).1∧(numQ q lo hi).1≤hi:=by
 unfold numQ
 split
 ·rename_i e
  exact zH3 e
 ·exact h
def namQ (f:Int→ByteArray) (q:LQ):Int × LQ:=((nmR f (zQ6 q.ws)).1,⟨q.ws.drop 1,(zQ1 q).bad || !(nmR f (zQ6 q.ws)).2⟩)
def okQ (q:LQ):Prop:=∀ w∈q.ws,w.length≤281474976710656
theorem jVV {q:LQ} (h:okQ q):(zQ6 q.ws).length≤281474976710656:=by
 unfold zQ6
 cases hq:q.ws with
 | nil=>simp
 | cons w r=>exact h w (by rw [hq]; exact List.mem_cons_self ..)
theorem jQQ {q:LQ} (h:okQ q) (b:Bool):okQ ⟨q.ws.drop 1,b⟩:=fun w hw=>h w (List.mem_of_mem_drop hw)
theorem jYV {q:LQ} (h:okQ q):okQ (zQ1 q):=jQQ h _
theorem zQe {q:LQ} (h:okQ q) {lo hi:Int}:okQ (numQ q lo hi).2:=by
 unfold numQ
 split
 ·exact jYV h
 ·exact jQQ h _
theorem zQg {q:LQ} (h:okQ q) {f:Int→ByteArray}:okQ (namQ f q).2:=jQQ h _
def zXD:Gam where
 pure:=fun f xs=>
  if f=112 then (match xs with | [.d (.str s)]=>some (RV.tup [rJ (((numP (ofS (s))).1)),RV.d (dQ ((numP (ofS (s))).2))]) | _=>none) else
  if f=157 then (match xs with | [.d (.str s)]=>some (RV.tup [rJ (((nmR zQj (ofS (s))).1)),RV.d (dQ ((nmR zQj (ofS (s))).2))]) | _=>none) else
  if f=158 then (match xs with | [.d (.str s)]=>some (RV.tup [rJ (((nmR zQc (ofS (s))).1)),RV.d (dQ ((nmR zQc (ofS (s))).2))]) | _=>none) else
  none
 modes:=fun f=>
  if f=105 then some ([false],1,0) else
  if f=74 then some ([false],2,0) else
  if f=136 then some ([false],2,0) else
  if f=137 then some ([false,true,true],2,0) else
  if f=109 then some ([false],2,0) else
  if f=110 then some ([false],2,0) else
  if f=111 then some ([false],2,0) else
  if f=135 then some ([false],2,0) else
  if f=142 then some ([false],2,0) else
  if f=140 then some ([false],2,0) else
  if f=141 then some ([false],2,0) else
  if f=156 then some ([false,true],2,0) else
  if f=107 then some ([false],2,0) else
  none
 proc:=fun f xs bs=>
  if f=105 then (match xs,bs with | [AV.one (Cl.ptr 0 0)],[Bx.cells [Cl.d (DV.sl wn wxs)]]=>some ⟨AV.tup [AV.one (Cl.d (DV.str (toS (zQ6 (zQB (wxs)))))),AV.one (Cl.d (dQ (!(zQB (wxs)).isEmpty)))],[bC [Cl.d (dS (((zQB (wxs)).drop 1).length) (strs ((zQB (wxs)).drop 1)))]],false⟩ | _,_=>none) else
  if f=74 then (match xs,bs with | [AV.one (Cl.ptr 0 0)],[Bx.cells [Cl.clo 105 [Cap.ptr 1 0],Cl.d (DV.bool bad)],Bx.cells [Cl.d (DV.sl wn wxs)]]=>some ⟨AV.one (Cl.d (DV.str (toS (zQ6 ((⟨zQB (wxs),bad⟩:LQ)).ws)))),[bC [Cl.clo 105 [Cap.ptr 1 0],Cl.d (dQ ((zQ1 (⟨zQB (wxs),bad⟩:LQ)).bad))],bC [Cl.d (dS ((zQ1 (⟨zQB (wxs),bad⟩:LQ)).ws.length) (strs (zQ1 (⟨zQB (wxs),bad⟩:LQ)).ws))]],false⟩ | _,_=>none) else
  if f=136 then (match xs,bs with | [AV.one (Cl.ptr 0 0)],[Bx.cells [Cl.clo 105 [Cap.ptr 1 0],Cl.d (DV.bool bad)],Bx.cells [Cl.d (DV.sl wn wxs)]]=>some ⟨AV.one (Cl.d (dQ (!(((⟨zQB (wxs),bad⟩:LQ)).ws).isEmpty))),[bC [Cl.clo 105 [Cap.ptr 1 0],Cl.d (dQ ((zQX (⟨zQB (wxs),bad⟩:LQ)).bad))],bC [Cl.d (dS ((zQX (⟨zQB (wxs),bad⟩:LQ)).ws.length) (strs (zQX (⟨zQB (wxs),bad⟩:LQ)).ws))]],false⟩ | _,_=>none) else
  if f=137 then (match xs,bs with | [AV.one (Cl.ptr 0 0),AV.one (Cl.d (DV.int _ lo)),AV.one (Cl.d (DV.int _ hi))],[Bx.cells [Cl.clo 105 [Cap.ptr 1 0],Cl.d (DV.bool bad)],Bx.cells [Cl.d (DV.sl wn wxs)]]=>let yy0:=(numQ (⟨zQB (wxs),bad⟩:LQ) lo hi); some ⟨AV.one (Cl.d (DV.int .i64 (yy0.1))),[Bx.cells [Cl.clo 105 [Cap.ptr 1 0],Cl.d (DV.bool ((yy0.2).bad))],Bx.cells [Cl.d (DV.sl ((yy0.2).ws.length) (strs (yy0.2).ws))]],false⟩ | _,_=>none) else
  if f=109 then (match xs,bs with | [AV.one (Cl.ptr 0 0)],[Bx.cells [Cl.clo 105 [Cap.ptr 1 0],Cl.d (DV.bool bad)],Bx.cells [Cl.d (DV.sl wn wxs)]]=>let yy0:=(numQ (⟨zQB (wxs),bad⟩:LQ) 0 255); some ⟨AV.one (Cl.d (DV.int .i64 (yy0.1))),[Bx.cells [Cl.clo 105 [Cap.ptr 1 0],Cl.d (DV.bool ((yy0.2).bad))],Bx.cells [Cl.d (DV.sl ((yy0.2).ws.length) (strs (yy0.2).ws))]],false⟩ | _,_=>none) else
  if f=110 then (match xs,bs with | [AV.one (Cl.ptr 0 0)],[Bx.cells [Cl.clo 105 [Cap.ptr 1 0],Cl.d (DV.bool bad)],Bx.cells [Cl.d (DV.sl wn wxs)]]=>let yy0:=(numQ (⟨zQB (wxs),bad⟩:LQ) (-2147483648) 2147483647); some ⟨AV.one (Cl.d (DV.int .i64 (yy0.1))),[Bx.cells [Cl.clo 105 [Cap.ptr 1 0],Cl.d (DV.bool ((yy0.2).bad))],Bx.cells [Cl.d (DV.sl ((yy0.2).ws.length) (strs (yy0.2).ws))]],false⟩ | _,_=>none) else
  if f=111 then (match xs,bs with | [AV.one (Cl.ptr 0 0)],[Bx.cells [Cl.clo 105 [Cap.ptr 1 0],Cl.d (DV.bool bad)],Bx.cells [Cl.d (DV.sl wn wxs)]]=>let yy0:=(numQ (⟨zQB (wxs),bad⟩:LQ) 0 4294967295); some ⟨AV.one (Cl.d (DV.int .i64 (yy0.1))),[Bx.cells [Cl.clo 105 [Cap.ptr 1 0],Cl.d (DV.bool ((yy0.2).bad))],Bx.cells [Cl.d (DV.sl ((yy0.2).ws.length) (strs (yy0.2).ws))]],false⟩ | _,_=>none) else
  if f=135 then (match xs,bs with | [AV.one (Cl.ptr 0 0)],[Bx.cells [Cl.clo 105 [Cap.ptr 1 0],Cl.d (DV.bool bad)],Bx.cells [Cl.d (DV.sl wn wxs)]]=>let yy0:=(numQ (⟨zQB (wxs),bad⟩:LQ) 0 65535); some ⟨AV.one (Cl.d (DV.int .u16 (yy0.1))),[Bx.cells [Cl.clo 105 [Cap.ptr 1 0],Cl.d (DV.bool ((yy0.2).bad))],Bx.cells [Cl.d (DV.sl ((yy0.2).ws.length) (strs (yy0.2).ws))]],false⟩ | _,_=>none) else
  if f=142 then (match xs,bs with | [AV.one (Cl.ptr 0 0)],[Bx.cells [Cl.clo 105 [Cap.ptr 1 0],Cl.d (DV.bool bad)],Bx.cells [Cl.d (DV.sl wn wxs)]]=>let yy0:=(numQ (⟨zQB (wxs),bad⟩:LQ) 0 1); some ⟨AV.one (Cl.d (DV.bool (decide (yy0.1=1)))),[Bx.cells [Cl.clo 105 [Cap.ptr 1 0],Cl.d (DV.bool ((yy0.2).bad))],Bx.cells [Cl.d (DV.sl ((yy0.2).ws.length) (strs (yy0.2).ws))]],false⟩ | _,_=>none) else
  if f=140 then (match xs,bs with | [AV.one (Cl.ptr 0 0)],[Bx.cells [Cl.clo 105 [Cap.ptr 1 0],Cl.d (DV.bool bad)],Bx.cells [Cl.d (DV.sl wn wxs)]]=>let yy0:=(namQ zQj (⟨zQB (wxs),bad⟩:LQ)); some ⟨AV.one (Cl.d (DV.int .i64 (yy0.1))),[Bx.cells [Cl.clo 105 [Cap.ptr 1 0],Cl.d (DV.bool ((yy0.2).bad))],Bx.cells [Cl.d (DV.sl ((yy0.2).ws.length) (strs (yy0.2).ws))]],false⟩ | _,_=>none) else
  if f=141 then (match xs,bs with | [AV.one (Cl.ptr 0 0)],[Bx.cells [Cl.clo 105 [Cap.ptr 1 0],Cl.d (DV.bool bad)],Bx.cells [Cl.d (DV.sl wn wxs)]]=>let yy0:=(namQ zQc (⟨zQB (wxs),bad⟩:LQ)); some ⟨AV.one (Cl.d (DV.int .i64 (yy0.1))),[Bx.cells [Cl.clo 105 [Cap.ptr 1 0],Cl.d (DV.bool ((yy0.2).bad))],Bx.cells [Cl.d (DV.sl ((yy0.2).ws.length) (strs (yy0.2).ws))]],false⟩ | _,_=>none) else
  if f=156 then (match xs,bs with | [AV.one (Cl.ptr 0 0),AV.one (Cl.d (DV.fn 157))],[Bx.cells [Cl.clo 105 [Cap.ptr 1 0],Cl.d (DV.bool bad)],Bx.cells [Cl.d (DV.sl wn wxs)]]=>let yy0:=(namQ zQj (⟨zQB (wxs),bad⟩:LQ)); some ⟨AV.one (Cl.d (DV.int .i64 (yy0.1))),[Bx.cells [Cl.clo 105 [Cap.ptr 1 0],Cl.d (DV.bool ((yy0.2).bad))],Bx.cells [Cl.d (DV.sl ((yy0.2).ws.length) (strs (yy0.2).ws))]],false⟩ | [AV.one (Cl.ptr 0 0),AV.one (Cl.d (DV.fn 158))],[Bx.cells [Cl.clo 105 [Cap.ptr 1 0],Cl.d (DV.bool bad)],Bx.cells [Cl.d (DV.sl wn wxs)]]=>let yy0:=(namQ zQc (⟨zQB (wxs),bad⟩:LQ)); some ⟨AV.one (Cl.d (DV.int .i64 (yy0.1))),[Bx.cells [Cl.clo 105 [Cap.ptr 1 0],Cl.d (DV.bool ((yy0.2).bad))],Bx.cells [Cl.d (DV.sl ((yy0.2).ws.length) (strs (yy0.2).ws))]],false⟩ | _,_=>none) else
  if f=107 then (match xs,bs with | [AV.one (Cl.ptr 0 0)],[Bx.cells [Cl.clo 105 [Cap.ptr 1 0],Cl.d (DV.bool bad)],Bx.cells [Cl.d (DV.sl wn wxs)]]=>let yy0:=(⟨zQB (wxs),bad⟩:LQ); some ⟨AV.one (Cl.d (DV.bool (((yy0).ws).isEmpty && !(yy0).bad))),[Bx.cells [Cl.clo 105 [Cap.ptr 1 0],Cl.d (DV.bool ((zQX yy0).bad))],Bx.cells [Cl.d (DV.sl ((zQX yy0).ws.length) (strs (zQX yy0).ws))]],false⟩ | _,_=>none) else
  none
 iter:=fun f cs=>
  none
def zKc (ws:List Lb):Ann:=Ann.leaf
theorem zHo (ws:List Lb):vcg Tryz.prog zXD ⟨13,fun _=>false,List.range 1,false⟩ (zQA Tryz.f105) (zKc ws) kn0 (zZc [aPz] [bC [Cl.d (dS ws.length (strs ws))]]) (zZJ Tryz.prog ⟨13,fun _=>false,List.range 1,false⟩ Tryz.f105.results.toList ⟨AV.tup [AV.one (Cl.d (DV.str (toS (zQ6 (zQB (strs ws)))))),AV.one (Cl.d (dQ (!(zQB (strs ws)).isEmpty)))],[bC [Cl.d (dS (((zQB (strs ws)).drop 1).length) (strs ((zQB (strs ws)).drop 1)))]],false⟩) =
 (let yy0:=((zQB (strs ws)).drop 1); let yy1:=(toS (zQ6 (zQB (strs ws)))); let zz0:=[dS (yy0.length) (strs yy0)]; tU5 (((((ws.length:Int)==(0:Int))=true→tU2 (((((DV.str (⟨#[]⟩:ByteArray)=DV.str yy1)∧(dQ false=dQ (!(zQB (strs ws)).isEmpty))∧True)∧True)∧(([dS ws.length (strs ws)]=zz0)∧True))∧zQv ⟨AV.tup [AV.one (Cl.d (DV.str yy1)),AV.one (Cl.d (dQ (!(zQB (strs ws)).isEmpty)))],[bC [Cl.d (dS (yy0.length) (strs yy0))]],false⟩))∧(((ws.length:Int)==(0:Int))=false→True∧(0≤(0:Int)∧(0:Int) < (ws.length:Int)∧0 < (strs ws).length)∧(((strs ws)[0]?=some (DV.str (sAt (strs ws) 0)))∧True)∧tU2 ((0≤(1:Int)∧(1:Int)≤(ws.length:Int)∧(ws.length:Int)≤(ws.length:Int))∧tU4 (((((DV.str (sAt (strs ws) 0)=DV.str yy1)∧(dQ true=dQ (!(zQB (strs ws)).isEmpty))∧True)∧True)∧(([dS (((ws.length:Int) - (1:Int)).toNat) (List.take (((ws.length:Int) - (1:Int)).toNat*1) (List.drop ((1:Int).toNat*1) (strs ws)))]=zz0)∧True))∧zQv ⟨AV.tup [AV.one (Cl.d (DV.str yy1)),AV.one (Cl.d (dQ (!(zQB (strs ws)).isEmpty)))],[bC [Cl.d (dS (yy0.length) (strs yy0))]],false⟩)))))):=by kernel_rfl
theorem zKb (ws:List Lb):AnsG Tryz.prog 105 1 [AV.one (Cl.ptr 0 0)] [Bx.cells [Cl.d (DV.sl ws.length (strs ws))]] ⟨AV.tup [AV.one (Cl.d (DV.str (toS (zQ6 (zQB (strs ws)))))),AV.one (Cl.d (DV.bool (!(zQB (strs ws)).isEmpty)))],[Bx.cells [Cl.d (DV.sl (((zQB (strs ws)).drop 1).length) (strs ((zQB (strs ws)).drop 1)))]],false⟩:=
 zQz (Γ:=zXD) (zKc ws) zQC Tryz.func105 rfl (Nat.le_of_ble_eq_true rfl) rfl fun hwf hbx=>by
  refine Eq.mpr (zHo ws) ?_
  delta tU2 tU4 tU5 dQ dS bC
  simp only [true_and,and_true,RV.d.injEq,RV.agg.injEq,RV.tup.injEq,DV.bool.injEq,DV.int.injEq,DV.sl.injEq,List.cons.injEq,forall_const,Bool.not_false,Bool.not_true,Bool.not_eq_true',Bool.not_eq_false',decide_eq_true_eq,decide_eq_false_iff_not,Int.toNat_natCast]
  simp only [zZQ,zQL,zZh]
  cases ws with
  | nil=>
   refine ⟨fun _=>(by (repeat' apply And.intro) <;> first | rfl | trivial),fun h=>absurd h (by decide)⟩
  | cons w r=>
   have s0:sAt (strs (w::r)) 0=toS w:=rfl
   have q0:(strs (w::r))[0]?=some (DV.str (toS w)):=rfl
   have dr:List.take (r.length*1) (List.drop (Int.toNat 1*1) (strs (w::r)))=strs r:=jW6 1 _ rfl rfl
   have drn:((((w::r).length:Nat):Int) - 1).toNat=r.length:=by simp
   simp only [s0,q0,drn,dr]
   refine ⟨fun h=>absurd h (by simp; omega),fun _=>⟨⟨by omega,by simp <;> omega,by simp [zXe]⟩,trivial,⟨by omega,by simp <;> omega,by omega⟩,(by (repeat' apply And.intro) <;> first | rfl | trivial)⟩⟩
def zYN (q:LQ):Ann:=Ann.leaf
theorem zWY (q:LQ):vcg Tryz.prog zXD ⟨25,fun _=>false,List.range 2,false⟩ (zQA Tryz.f74) (zYN q) kn0 (zZc [aPz] [bC [Cl.clo 105 [Cap.ptr 1 0],Cl.d (dQ q.bad)],bC [Cl.d (dS q.ws.length (strs q.ws))]]) (zZJ Tryz.prog ⟨25,fun _=>false,List.range 2,false⟩ Tryz.f74.results.toList ⟨AV.one (Cl.d (DV.str (toS (zQ6 (q).ws)))),[bC [Cl.clo 105 [Cap.ptr 1 0],Cl.d (dQ ((zQ1 q).bad))],bC [Cl.d (dS ((zQ1 q).ws.length) (strs (zQ1 q).ws))]],false⟩) =
 (let zz0:=((DV.str (toS (zQ6 (zQB ((strs q.ws)))))=DV.str (toS (zQ6 (q).ws)))∧True); let zz1:=([dS (((zQB ((strs q.ws))).drop 1).length) (strs ((zQB ((strs q.ws))).drop 1))]=[dS ((zQ1 q).ws.length) (strs (zQ1 q).ws)]); tU5 ((AnsG Tryz.prog 105 1 [aPz] [bC [Cl.d (dS q.ws.length (strs q.ws))]] ⟨AV.tup [AV.one (Cl.d (DV.str (toS (zQ6 (zQB ((strs q.ws))))))),AV.one (Cl.d (dQ (!(zQB ((strs q.ws))).isEmpty)))],[bC [Cl.d (dS (((zQB ((strs q.ws))).drop 1).length) (strs ((zQB ((strs q.ws))).drop 1)))]],false⟩)∧tU3 (tU8 (((q.bad=false→tU8 ((zz0∧((((0=0)∧True)∧(dQ (!(!(zQB ((strs q.ws))).isEmpty))=dQ ((zQ1 q).bad))∧True)∧zz1∧True))∧zQv ⟨AV.one (Cl.d (DV.str (toS (zQ6 (q).ws)))),[bC [Cl.clo 105 [Cap.ptr 1 0],Cl.d (dQ ((zQ1 q).bad))],bC [Cl.d (dS ((zQ1 q).ws.length) (strs (zQ1 q).ws))]],false⟩))∧(q.bad=(!false)→tU6 ((zz0∧((((0=0)∧True)∧(dQ true=dQ ((zQ1 q).bad))∧True)∧zz1∧True))∧zQv ⟨AV.one (Cl.d (DV.str (toS (zQ6 (q).ws)))),[bC [Cl.clo 105 [Cap.ptr 1 0],Cl.d (dQ ((zQ1 q).bad))],bC [Cl.d (dS ((zQ1 q).ws.length) (strs (zQ1 q).ws))]],false⟩))))))):=by kernel_rfl
theorem zZW (q:LQ):AnsG Tryz.prog 74 2 [AV.one (Cl.ptr 0 0)] [Bx.cells [Cl.clo 105 [Cap.ptr 1 0],Cl.d (DV.bool q.bad)],Bx.cells [Cl.d (DV.sl q.ws.length (strs q.ws))]] ⟨AV.one (Cl.d (DV.str (toS (zQ6 (q).ws)))),[Bx.cells [Cl.clo 105 [Cap.ptr 1 0],Cl.d (DV.bool ((zQ1 q).bad))],Bx.cells [Cl.d (DV.sl ((zQ1 q).ws.length) (strs (zQ1 q).ws))]],false⟩:=
 zQz (Γ:=zXD) (zYN q) zQC Tryz.func74 rfl (Nat.le_of_ble_eq_true rfl) rfl fun hwf hbx=>by
  refine Eq.mpr (zWY q) ?_
  delta tU3 tU5 tU6 tU8 dQ dS aPz bC
  simp only [true_and,and_true,RV.d.injEq,RV.agg.injEq,RV.tup.injEq,DV.bool.injEq,DV.int.injEq,DV.sl.injEq,List.cons.injEq,forall_const,Bool.not_false,Bool.not_true,Bool.not_eq_true',Bool.not_eq_false',decide_eq_true_eq,decide_eq_false_iff_not,Int.toNat_natCast]
  simp only [zZQ,zQL,zZh]
  have aO:=zKb q.ws
  simp only [zQL] at aO
  refine ⟨aO,fun h=>?_,fun h=>?_⟩
  ·have e:(!!q.ws.isEmpty)=(zQ1 q).bad:=by unfold zQ1; rw [h]; simp
   rw [e]; exact (by (repeat' apply And.intro) <;> first | rfl | trivial)
  ·have e:true=(zQ1 q).bad:=by unfold zQ1; rw [h]; rfl
   rw [e]; exact (by (repeat' apply And.intro) <;> first | rfl | trivial)
def zYO (q:LQ):Ann:=Ann.leaf
theorem zWZ (q:LQ):vcg Tryz.prog zXD ⟨14,fun _=>false,List.range 2,false⟩ (zQA Tryz.f136) (zYO q) kn0 (zZc [aPz] [bC [Cl.clo 105 [Cap.ptr 1 0],Cl.d (dQ q.bad)],bC [Cl.d (dS q.ws.length (strs q.ws))]]) (zZJ Tryz.prog ⟨14,fun _=>false,List.range 2,false⟩ Tryz.f136.results.toList ⟨AV.one (Cl.d (dQ (!((q).ws).isEmpty))),[bC [Cl.clo 105 [Cap.ptr 1 0],Cl.d (dQ ((zQX q).bad))],bC [Cl.d (dS ((zQX q).ws.length) (strs (zQX q).ws))]],false⟩) =
 (tU5 ((AnsG Tryz.prog 105 1 [aPz] [bC [Cl.d (dS q.ws.length (strs q.ws))]] ⟨AV.tup [AV.one (Cl.d (DV.str (toS (zQ6 (zQB ((strs q.ws))))))),AV.one (Cl.d (dQ (!(zQB ((strs q.ws))).isEmpty)))],[bC [Cl.d (dS (((zQB ((strs q.ws))).drop 1).length) (strs ((zQB ((strs q.ws))).drop 1)))]],false⟩)∧tU7 ((((dQ (!(zQB ((strs q.ws))).isEmpty)=dQ (!((q).ws).isEmpty))∧True)∧((((0=0)∧True)∧(dQ q.bad=dQ ((zQX q).bad))∧True)∧([dS (((zQB ((strs q.ws))).drop 1).length) (strs ((zQB ((strs q.ws))).drop 1))]=[dS ((zQX q).ws.length) (strs (zQX q).ws)])∧True))∧zQv ⟨AV.one (Cl.d (dQ (!((q).ws).isEmpty))),[bC [Cl.clo 105 [Cap.ptr 1 0],Cl.d (dQ ((zQX q).bad))],bC [Cl.d (dS ((zQX q).ws.length) (strs (zQX q).ws))]],false⟩))):=by kernel_rfl
theorem zWh (q:LQ):AnsG Tryz.prog 136 2 [AV.one (Cl.ptr 0 0)] [Bx.cells [Cl.clo 105 [Cap.ptr 1 0],Cl.d (DV.bool q.bad)],Bx.cells [Cl.d (DV.sl q.ws.length (strs q.ws))]] ⟨AV.one (Cl.d (DV.bool (!((q).ws).isEmpty))),[Bx.cells [Cl.clo 105 [Cap.ptr 1 0],Cl.d (DV.bool ((zQX q).bad))],Bx.cells [Cl.d (DV.sl ((zQX q).ws.length) (strs (zQX q).ws))]],false⟩:=
 zQz (Γ:=zXD) (zYO q) zQC Tryz.func136 rfl (Nat.le_of_ble_eq_true rfl) rfl fun hwf hbx=>by
  refine Eq.mpr (zWZ q) ?_
  delta tU5 tU7 dQ dS aPz bC
  simp only [true_and,and_true,RV.d.injEq,RV.agg.injEq,RV.tup.injEq,DV.bool.injEq,DV.int.injEq,DV.sl.injEq,List.cons.injEq,forall_const,Bool.not_false,Bool.not_true,Bool.not_eq_true',Bool.not_eq_false',decide_eq_true_eq,decide_eq_false_iff_not,Int.toNat_natCast]
  simp only [zZQ,zQL,zZh]
  have aO:=zKb q.ws
  simp only [zQL] at aO
  exact ⟨aO,(by (repeat' apply And.intro) <;> first | rfl | trivial)⟩
def zYe (q:LQ) (lo hi:Int):Ann:=Ann.leaf
theorem zVN (q:LQ) (lo hi:Int):vcg Tryz.prog zXD ⟨31,fun _=>false,List.range 2,false⟩ (zQA Tryz.f137) (zYe q lo hi) kn0 (zZc [aPz,aJ ((lo)),aJ ((hi))] [bC [Cl.clo 105 [Cap.ptr 1 0],Cl.d (dQ q.bad)],bC [Cl.d (dS q.ws.length (strs q.ws))]]) (zZJ Tryz.prog ⟨31,fun _=>false,List.range 2,false⟩ Tryz.f137.results.toList ⟨aJ ((((numQ q lo hi).1))),[bC [Cl.clo 105 [Cap.ptr 1 0],Cl.d (dQ (((numQ q lo hi).2).bad))],bC [Cl.d (dS (((numQ q lo hi).2).ws.length) (strs ((numQ q lo hi).2).ws))]],false⟩) =
 (let yy3:=(cJ (((numQ q lo hi).1))); let yy2:=[Cl.clo 105 [Cap.ptr 1 0],Cl.d (dQ (((numQ q lo hi).2).bad))]; let yy0:=(numP (ofS ((toS (zQ6 ((reQ q)).ws))))); let yy1:=(dS (((numQ q lo hi).2).ws.length) (strs ((numQ q lo hi).2).ws)); let zz0:=(DV.str (toS (zQ6 ((reQ q)).ws))); let zz1:=([dS ((zQ1 (reQ q)).ws.length) (strs (zQ1 (reQ q)).ws)]=[dS (((numQ q lo hi).2).ws.length) (strs ((numQ q lo hi).2).ws)]); let zz2:=(((dJ 0=dJ ((numQ q lo hi).1))∧True)∧((((0=0)∧True)∧(dQ true=dQ (((numQ q lo hi).2).bad))∧True)∧zz1∧True)); tU2 ((AnsG Tryz.prog 74 2 [aPz] [bC [Cl.clo 105 [Cap.ptr 1 0],Cl.d (dQ q.bad)],bC [Cl.d (dS q.ws.length (strs q.ws))]] ⟨AV.one (Cl.d zz0),[bC [Cl.clo 105 [Cap.ptr 1 0],Cl.d (dQ ((zQ1 (reQ q)).bad))],bC [Cl.d (dS ((zQ1 (reQ q)).ws.length) (strs (zQ1 (reQ q)).ws))]],false⟩)∧(Ans Tryz.prog 112 [RV.d zz0] (RV.tup [rJ ((yy0.1)),RV.d (dQ (yy0.2))]))∧tU8 ((((!(yy0.2))=false→tU5 ((((decide ((yy0.1) < lo))=false→tU4 ((((decide ((yy0.1) > hi))=true→tU5 (zz2∧zQv ⟨AV.one yy3,[Bx.cells yy2,bC [Cl.d yy1]],false⟩))∧((decide ((yy0.1) > hi))=false→tU2 ((((dJ (yy0.1)=dJ ((numQ q lo hi).1))∧True)∧((((0=0)∧True)∧(dQ ((zQ1 (reQ q)).bad)=dQ (((numQ q lo hi).2).bad))∧True)∧zz1∧True))∧zQv ⟨AV.one yy3,[Bx.cells yy2,bC [Cl.d yy1]],false⟩)))))∧((decide ((yy0.1) < lo))=(!false)→tU6 (zz2∧zQv ⟨AV.one yy3,[Bx.cells yy2,bC [Cl.d yy1]],false⟩)))))∧((!(yy0.2))=(!false)→tU8 (zz2∧zQv ⟨AV.one yy3,[Bx.cells yy2,bC [Cl.d yy1]],false⟩)))))):=by kernel_rfl
theorem zQ2 (q:LQ) (lo hi:Int) (hq:okQ q):AnsG Tryz.prog 137 2 [AV.one (Cl.ptr 0 0),AV.one (Cl.d (DV.int .i64 lo)),AV.one (Cl.d (DV.int .i64 hi))] [Bx.cells [Cl.clo 105 [Cap.ptr 1 0],Cl.d (DV.bool q.bad)],Bx.cells [Cl.d (DV.sl q.ws.length (strs q.ws))]] ⟨AV.one (Cl.d (DV.int .i64 ((numQ q lo hi).1))),[Bx.cells [Cl.clo 105 [Cap.ptr 1 0],Cl.d (DV.bool (((numQ q lo hi).2).bad))],Bx.cells [Cl.d (DV.sl (((numQ q lo hi).2).ws.length) (strs ((numQ q lo hi).2).ws))]],false⟩:=
 zQz (Γ:=zXD) (zYe q lo hi) zQC Tryz.func137 rfl (Nat.le_of_ble_eq_true rfl) rfl fun hwf hbx=>by
  refine Eq.mpr (zVN q lo hi) ?_
  delta tU2 tU4 tU5 tU6 tU8 dJ dQ cJ dS rJ aPz bC
  simp only [true_and,and_true,RV.d.injEq,RV.agg.injEq,RV.tup.injEq,DV.bool.injEq,DV.int.injEq,DV.sl.injEq,List.cons.injEq,forall_const,Bool.not_false,Bool.not_true,Bool.not_eq_true',Bool.not_eq_false',decide_eq_true_eq,decide_eq_false_iff_not,Int.toNat_natCast]
  simp only [zZQ,zQL,zZh]
  have aN:=zZW q
  have v:(numP (zQ6 q.ws)).2=true→(numP (zQ6 q.ws)).1=numV (zQ6 q.ws):=fun h=>by
   show zV0 (zQ6 q.ws)=_
   unfold zV0
   rw [zJo h]
  have yes:(numP (zQ6 q.ws)).2=true→¬ (numP (zQ6 q.ws)).1 < lo→¬ (numP (zQ6 q.ws)).1 > hi→numQ q lo hi=(numV (zQ6 q.ws),zQ1 q):=fun h h1 h2=>by
   rw [v h] at h1 h2
   have e:okN lo hi (zQ6 q.ws)=true:=by unfold okN; rw [show zY6 (zQ6 q.ws)=true from h]; simp; omega
   unfold numQ; rw [if_pos e]
  have no:¬ ((numP (zQ6 q.ws)).2=true∧¬ (numP (zQ6 q.ws)).1 < lo∧¬ (numP (zQ6 q.ws)).1 > hi)→numQ q lo hi=(0,⟨q.ws.drop 1,true⟩):=fun h=>by
   unfold numQ
   rw [if_neg]
   intro e
   unfold okN at e
   simp only [Bool.and_eq_true,decide_eq_true_eq] at e
   have hc:(numP (zQ6 q.ws)).2=true:=e.1.1
   exact h ⟨hc,by rw [v hc]; omega,by rw [v hc]; omega⟩
  refine ⟨aN,zKh (zQ6 q.ws) (jVV hq),fun h=>⟨fun h1=>⟨fun h2=>?_,fun h2=>?_⟩,fun h1=>?_⟩,fun h=>?_⟩
  ·rw [no (fun g=>g.2.2 h2)]; exact (by (repeat' apply And.intro) <;> first | rfl | trivial)
  ·rw [yes h h1 h2,v h]; exact (by (repeat' apply And.intro) <;> first | rfl | trivial)
  ·rw [no (fun g=>g.2.1 h1)]; exact (by (repeat' apply And.intro) <;> first | rfl | trivial)
  ·rw [no (fun g=>by rw [h] at g; exact absurd g.1 (by decide))]; exact (by (repeat' apply And.intro) <;> first | rfl | trivial)
def zXt (q:LQ):Ann:=Ann.leaf
theorem zJ1 (q:LQ):vcg Tryz.prog zXD ⟨26,fun _=>false,List.range 2,false⟩ (zQA Tryz.f156) (zXt q) kn0 (zZc [aPz,AV.one (Cl.d (DV.fn 157))] [bC [Cl.clo 105 [Cap.ptr 1 0],Cl.d (dQ q.bad)],bC [Cl.d (dS q.ws.length (strs q.ws))]]) (zZJ Tryz.prog ⟨26,fun _=>false,List.range 2,false⟩ Tryz.f156.results.toList ⟨aJ ((((namQ zQj q).1))),[bC [Cl.clo 105 [Cap.ptr 1 0],Cl.d (dQ (((namQ zQj q).2).bad))],bC [Cl.d (dS (((namQ zQj q).2).ws.length) (strs ((namQ zQj q).2).ws))]],false⟩) =
 (let yy0:=(nmR zQj (ofS ((toS (zQ6 ((reQ q)).ws))))); let zz0:=(DV.str (toS (zQ6 ((reQ q)).ws))); let zz1:=((dJ (yy0.1)=dJ ((namQ zQj q).1))∧True); let zz2:=([dS ((zQ1 (reQ q)).ws.length) (strs (zQ1 (reQ q)).ws)]=[dS (((namQ zQj q).2).ws.length) (strs ((namQ zQj q).2).ws)]); tU3 ((AnsG Tryz.prog 74 2 [aPz] [bC [Cl.clo 105 [Cap.ptr 1 0],Cl.d (dQ q.bad)],bC [Cl.d (dS q.ws.length (strs q.ws))]] ⟨AV.one (Cl.d zz0),[bC [Cl.clo 105 [Cap.ptr 1 0],Cl.d (dQ ((zQ1 (reQ q)).bad))],bC [Cl.d (dS ((zQ1 (reQ q)).ws.length) (strs (zQ1 (reQ q)).ws))]],false⟩)∧(Ans Tryz.prog 157 [RV.d zz0] (RV.tup [rJ ((yy0.1)),RV.d (dQ (yy0.2))]))∧tU3 (tU8 (((((zQ1 (reQ q)).bad)=false→tU8 ((zz1∧((((0=0)∧True)∧(dQ (!(yy0.2))=dQ (((namQ zQj q).2).bad))∧True)∧zz2∧True))∧zQv ⟨aJ ((((namQ zQj q).1))),[bC [Cl.clo 105 [Cap.ptr 1 0],Cl.d (dQ (((namQ zQj q).2).bad))],bC [Cl.d (dS (((namQ zQj q).2).ws.length) (strs ((namQ zQj q).2).ws))]],false⟩))∧(((zQ1 (reQ q)).bad)=(!false)→tU6 ((zz1∧((((0=0)∧True)∧(dQ true=dQ (((namQ zQj q).2).bad))∧True)∧zz2∧True))∧zQv ⟨aJ ((((namQ zQj q).1))),[bC [Cl.clo 105 [Cap.ptr 1 0],Cl.d (dQ (((namQ zQj q).2).bad))],bC [Cl.d (dS (((namQ zQj q).2).ws.length) (strs ((namQ zQj q).2).ws))]],false⟩))))))):=by kernel_rfl
theorem zJu (q:LQ):AnsG Tryz.prog 156 2 [AV.one (Cl.ptr 0 0),AV.one (Cl.d (DV.fn 157))] [Bx.cells [Cl.clo 105 [Cap.ptr 1 0],Cl.d (DV.bool q.bad)],Bx.cells [Cl.d (DV.sl q.ws.length (strs q.ws))]] ⟨AV.one (Cl.d (DV.int .i64 ((namQ zQj q).1))),[Bx.cells [Cl.clo 105 [Cap.ptr 1 0],Cl.d (DV.bool (((namQ zQj q).2).bad))],Bx.cells [Cl.d (DV.sl (((namQ zQj q).2).ws.length) (strs ((namQ zQj q).2).ws))]],false⟩:=
 zQz (Γ:=zXD) (zXt q) zQC Tryz.func156 rfl (Nat.le_of_ble_eq_true rfl) rfl fun hwf hbx=>by
  refine Eq.mpr (zJ1 q) ?_
  delta tU3 tU6 tU8 dJ dQ dS rJ aJ aPz bC
  simp only [true_and,and_true,RV.d.injEq,RV.agg.injEq,RV.tup.injEq,DV.bool.injEq,DV.int.injEq,DV.sl.injEq,List.cons.injEq,forall_const,Bool.not_false,Bool.not_true,Bool.not_eq_true',Bool.not_eq_false',decide_eq_true_eq,decide_eq_false_iff_not,Int.toNat_natCast]
  simp only [zZQ,zQL,zZh]
  refine ⟨zZW q,zWs (zQ6 q.ws),fun h=>?_,fun h=>?_⟩
  ·have h:(zQ1 q).bad=false:=h
   have e:(!(nmR zQj (zQ6 q.ws)).2)=(namQ zQj q).2.bad:=by unfold namQ; rw [h]; rfl
   rw [e]; exact (by (repeat' apply And.intro) <;> first | rfl | trivial)
  ·have h:(zQ1 q).bad=true:=h
   have e:true=(namQ zQj q).2.bad:=by unfold namQ; rw [h]; rfl
   rw [e]; exact (by (repeat' apply And.intro) <;> first | rfl | trivial)
def zYt (q:LQ):Ann:=Ann.leaf
theorem zWd (q:LQ):vcg Tryz.prog zXD ⟨26,fun _=>false,List.range 2,false⟩ (zQA Tryz.f156) (zYt q) kn0 (zZc [aPz,AV.one (Cl.d (DV.fn 158))] [bC [Cl.clo 105 [Cap.ptr 1 0],Cl.d (dQ q.bad)],bC [Cl.d (dS q.ws.length (strs q.ws))]]) (zZJ Tryz.prog ⟨26,fun _=>false,List.range 2,false⟩ Tryz.f156.results.toList ⟨aJ ((((namQ zQc q).1))),[bC [Cl.clo 105 [Cap.ptr 1 0],Cl.d (dQ (((namQ zQc q).2).bad))],bC [Cl.d (dS (((namQ zQc q).2).ws.length) (strs ((namQ zQc q).2).ws))]],false⟩) =
 (let yy0:=(nmR zQc (ofS ((toS (zQ6 ((reQ q)).ws))))); let zz0:=(DV.str (toS (zQ6 ((reQ q)).ws))); let zz1:=((dJ (yy0.1)=dJ ((namQ zQc q).1))∧True); let zz2:=([dS ((zQ1 (reQ q)).ws.length) (strs (zQ1 (reQ q)).ws)]=[dS (((namQ zQc q).2).ws.length) (strs ((namQ zQc q).2).ws)]); tU3 ((AnsG Tryz.prog 74 2 [aPz] [bC [Cl.clo 105 [Cap.ptr 1 0],Cl.d (dQ q.bad)],bC [Cl.d (dS q.ws.length (strs q.ws))]] ⟨AV.one (Cl.d zz0),[bC [Cl.clo 105 [Cap.ptr 1 0],Cl.d (dQ ((zQ1 (reQ q)).bad))],bC [Cl.d (dS ((zQ1 (reQ q)).ws.length) (strs (zQ1 (reQ q)).ws))]],false⟩)∧(Ans Tryz.prog 158 [RV.d zz0] (RV.tup [rJ ((yy0.1)),RV.d (dQ (yy0.2))]))∧tU3 (tU8 (((((zQ1 (reQ q)).bad)=false→tU8 ((zz1∧((((0=0)∧True)∧(dQ (!(yy0.2))=dQ (((namQ zQc q).2).bad))∧True)∧zz2∧True))∧zQv ⟨aJ ((((namQ zQc q).1))),[bC [Cl.clo 105 [Cap.ptr 1 0],Cl.d (dQ (((namQ zQc q).2).bad))],bC [Cl.d (dS (((namQ zQc q).2).ws.length) (strs ((namQ zQc q).2).ws))]],false⟩))∧(((zQ1 (reQ q)).bad)=(!false)→tU6 ((zz1∧((((0=0)∧True)∧(dQ true=dQ (((namQ zQc q).2).bad))∧True)∧zz2∧True))∧zQv ⟨aJ ((((namQ zQc q).1))),[bC [Cl.clo 105 [Cap.ptr 1 0],Cl.d (dQ (((namQ zQc q).2).bad))],bC [Cl.d (dS (((namQ zQc q).2).ws.length) (strs ((namQ zQc q).2).ws))]],false⟩))))))):=by kernel_rfl
theorem zVL (q:LQ):AnsG Tryz.prog 156 2 [AV.one (Cl.ptr 0 0),AV.one (Cl.d (DV.fn 158))] [Bx.cells [Cl.clo 105 [Cap.ptr 1 0],Cl.d (DV.bool q.bad)],Bx.cells [Cl.d (DV.sl q.ws.length (strs q.ws))]] ⟨AV.one (Cl.d (DV.int .i64 ((namQ zQc q).1))),[Bx.cells [Cl.clo 105 [Cap.ptr 1 0],Cl.d (DV.bool (((namQ zQc q).2).bad))],Bx.cells [Cl.d (DV.sl (((namQ zQc q).2).ws.length) (strs ((namQ zQc q).2).ws))]],false⟩:=
 zQz (Γ:=zXD) (zYt q) zQC Tryz.func156 rfl (Nat.le_of_ble_eq_true rfl) rfl fun hwf hbx=>by
  refine Eq.mpr (zWd q) ?_
  delta tU3 tU6 tU8 dJ dQ dS rJ aJ aPz bC
  simp only [true_and,and_true,RV.d.injEq,RV.agg.injEq,RV.tup.injEq,DV.bool.injEq,DV.int.injEq,DV.sl.injEq,List.cons.injEq,forall_const,Bool.not_false,Bool.not_true,Bool.not_eq_true',Bool.not_eq_false',decide_eq_true_eq,decide_eq_false_iff_not,Int.toNat_natCast]
  simp only [zZQ,zQL,zZh]
  refine ⟨zZW q,zHd (zQ6 q.ws),fun h=>?_,fun h=>?_⟩
  ·have h:(zQ1 q).bad=false:=h
   have e:(!(nmR zQc (zQ6 q.ws)).2)=(namQ zQc q).2.bad:=by unfold namQ; rw [h]; rfl
   rw [e]; exact (by (repeat' apply And.intro) <;> first | rfl | trivial)
  ·have h:(zQ1 q).bad=true:=h
   have e:true=(namQ zQc q).2.bad:=by unfold namQ; rw [h]; rfl
   rw [e]; exact (by (repeat' apply And.intro) <;> first | rfl | trivial)
def zYR (q:LQ):Ann:=Ann.leaf
theorem zW2 (q:LQ):vcg Tryz.prog zXD ⟨5,fun _=>false,List.range 2,false⟩ (zQA Tryz.f109) (zYR q) kn0 (zZc [aPz] [bC [Cl.clo 105 [Cap.ptr 1 0],Cl.d (dQ q.bad)],bC [Cl.d (dS q.ws.length (strs q.ws))]]) (zZJ Tryz.prog ⟨5,fun _=>false,List.range 2,false⟩ Tryz.f109.results.toList ⟨aJ ((((numQ q 0 255).1))),[bC [Cl.clo 105 [Cap.ptr 1 0],Cl.d (dQ (((numQ q 0 255).2).bad))],bC [Cl.d (dS (((numQ q 0 255).2).ws.length) (strs ((numQ q 0 255).2).ws))]],false⟩) =
 (tU2 ((AnsG Tryz.prog 137 2 [aPz,aJ ((0)),aJ ((255))] [bC [Cl.clo 105 [Cap.ptr 1 0],Cl.d (dQ q.bad)],bC [Cl.d (dS q.ws.length (strs q.ws))]] ⟨aJ ((((numQ (reQ q) (0:Int) (255:Int)).1))),[bC [Cl.clo 105 [Cap.ptr 1 0],Cl.d (dQ (((numQ (reQ q) (0:Int) (255:Int)).2).bad))],bC [Cl.d (dS (((numQ (reQ q) (0:Int) (255:Int)).2).ws.length) (strs ((numQ (reQ q) (0:Int) (255:Int)).2).ws))]],false⟩)∧True∧(((dJ ((numQ (reQ q) (0:Int) (255:Int)).1)=dJ ((numQ q 0 255).1))∧True)∧((((0=0)∧True)∧(dQ (((numQ (reQ q) (0:Int) (255:Int)).2).bad)=dQ (((numQ q 0 255).2).bad))∧True)∧([dS (((numQ (reQ q) (0:Int) (255:Int)).2).ws.length) (strs ((numQ (reQ q) (0:Int) (255:Int)).2).ws)]=[dS (((numQ q 0 255).2).ws.length) (strs ((numQ q 0 255).2).ws)])∧True))∧zQv ⟨aJ ((((numQ q 0 255).1))),[bC [Cl.clo 105 [Cap.ptr 1 0],Cl.d (dQ (((numQ q 0 255).2).bad))],bC [Cl.d (dS (((numQ q 0 255).2).ws.length) (strs ((numQ q 0 255).2).ws))]],false⟩)):=by kernel_rfl
theorem zQr (q:LQ) (hq:okQ q):AnsG Tryz.prog 109 2 [AV.one (Cl.ptr 0 0)] [Bx.cells [Cl.clo 105 [Cap.ptr 1 0],Cl.d (DV.bool q.bad)],Bx.cells [Cl.d (DV.sl q.ws.length (strs q.ws))]] ⟨AV.one (Cl.d (DV.int .i64 ((numQ q 0 255).1))),[Bx.cells [Cl.clo 105 [Cap.ptr 1 0],Cl.d (DV.bool (((numQ q 0 255).2).bad))],Bx.cells [Cl.d (DV.sl (((numQ q 0 255).2).ws.length) (strs ((numQ q 0 255).2).ws))]],false⟩:=
 zQz (Γ:=zXD) (zYR q) zQC Tryz.func109 rfl (Nat.le_of_ble_eq_true rfl) rfl fun hwf hbx=>by
  refine Eq.mpr (zW2 q) ?_
  delta tU2 dJ dQ dS aJ aPz bC
  simp only [true_and,and_true,RV.d.injEq,RV.agg.injEq,RV.tup.injEq,DV.bool.injEq,DV.int.injEq,DV.sl.injEq,List.cons.injEq,forall_const,Bool.not_false,Bool.not_true,Bool.not_eq_true',Bool.not_eq_false',decide_eq_true_eq,decide_eq_false_iff_not,Int.toNat_natCast]
  simp only [zZQ,zQL,zZh]
  have aN:=zQ2 q 0 255 hq
  exact ⟨aN,(by (repeat' apply And.intro) <;> first | rfl | trivial)⟩
def zYv (q:LQ):Ann:=Ann.leaf
theorem zWf (q:LQ):vcg Tryz.prog zXD ⟨5,fun _=>false,List.range 2,false⟩ (zQA Tryz.f110) (zYv q) kn0 (zZc [aPz] [bC [Cl.clo 105 [Cap.ptr 1 0],Cl.d (dQ q.bad)],bC [Cl.d (dS q.ws.length (strs q.ws))]]) (zZJ Tryz.prog ⟨5,fun _=>false,List.range 2,false⟩ Tryz.f110.results.toList ⟨aJ ((((numQ q (-2147483648) 2147483647).1))),[bC [Cl.clo 105 [Cap.ptr 1 0],Cl.d (dQ (((numQ q (-2147483648) 2147483647).2).bad))],bC [Cl.d (dS (((numQ q (-2147483648) 2147483647).2).ws.length) (strs ((numQ q (-2147483648) 2147483647).2).ws))]],false⟩) =
 (let yy0:=(numQ (reQ q) (-2147483648:Int) (2147483647:Int)); let yy1:=((numQ q (-2147483648) 2147483647).2); tU2 ((AnsG Tryz.prog 137 2 [aPz,aJ (((-2147483648:Int))),aJ ((2147483647))] [bC [Cl.clo 105 [Cap.ptr 1 0],Cl.d (dQ q.bad)],bC [Cl.d (dS q.ws.length (strs q.ws))]] ⟨aJ (((yy0.1))),[bC [Cl.clo 105 [Cap.ptr 1 0],Cl.d (dQ ((yy0.2).bad))],bC [Cl.d (dS ((yy0.2).ws.length) (strs (yy0.2).ws))]],false⟩)∧True∧(((dJ (yy0.1)=dJ ((numQ q (-2147483648) 2147483647).1))∧True)∧((((0=0)∧True)∧(dQ ((yy0.2).bad)=dQ (yy1.bad))∧True)∧([dS ((yy0.2).ws.length) (strs (yy0.2).ws)]=[dS (yy1.ws.length) (strs yy1.ws)])∧True))∧zQv ⟨aJ ((((numQ q (-2147483648) 2147483647).1))),[bC [Cl.clo 105 [Cap.ptr 1 0],Cl.d (dQ (yy1.bad))],bC [Cl.d (dS (yy1.ws.length) (strs yy1.ws))]],false⟩)):=by kernel_rfl
theorem zQn (q:LQ) (hq:okQ q):AnsG Tryz.prog 110 2 [AV.one (Cl.ptr 0 0)] [Bx.cells [Cl.clo 105 [Cap.ptr 1 0],Cl.d (DV.bool q.bad)],Bx.cells [Cl.d (DV.sl q.ws.length (strs q.ws))]] ⟨AV.one (Cl.d (DV.int .i64 ((numQ q (-2147483648) 2147483647).1))),[Bx.cells [Cl.clo 105 [Cap.ptr 1 0],Cl.d (DV.bool (((numQ q (-2147483648) 2147483647).2).bad))],Bx.cells [Cl.d (DV.sl (((numQ q (-2147483648) 2147483647).2).ws.length) (strs ((numQ q (-2147483648) 2147483647).2).ws))]],false⟩:=
 zQz (Γ:=zXD) (zYv q) zQC Tryz.func110 rfl (Nat.le_of_ble_eq_true rfl) rfl fun hwf hbx=>by
  refine Eq.mpr (zWf q) ?_
  delta tU2 dJ dQ dS aJ aPz bC
  simp only [true_and,and_true,RV.d.injEq,RV.agg.injEq,RV.tup.injEq,DV.bool.injEq,DV.int.injEq,DV.sl.injEq,List.cons.injEq,forall_const,Bool.not_false,Bool.not_true,Bool.not_eq_true',Bool.not_eq_false',decide_eq_true_eq,decide_eq_false_iff_not,Int.toNat_natCast]
  simp only [zZQ,zQL,zZh]
  have aN:=zQ2 q (-2147483648) 2147483647 hq
  exact ⟨aN,(by (repeat' apply And.intro) <;> first | rfl | trivial)⟩
def zXG (q:LQ):Ann:=Ann.leaf
theorem zKd (q:LQ):vcg Tryz.prog zXD ⟨5,fun _=>false,List.range 2,false⟩ (zQA Tryz.f111) (zXG q) kn0 (zZc [aPz] [bC [Cl.clo 105 [Cap.ptr 1 0],Cl.d (dQ q.bad)],bC [Cl.d (dS q.ws.length (strs q.ws))]]) (zZJ Tryz.prog ⟨5,fun _=>false,List.range 2,false⟩ Tryz.f111.results.toList ⟨aJ ((((numQ q 0 4294967295).1))),[bC [Cl.clo 105 [Cap.ptr 1 0],Cl.d (dQ (((numQ q 0 4294967295).2).bad))],bC [Cl.d (dS (((numQ q 0 4294967295).2).ws.length) (strs ((numQ q 0 4294967295).2).ws))]],false⟩) =
 (tU2 ((AnsG Tryz.prog 137 2 [aPz,aJ ((0)),aJ ((4294967295))] [bC [Cl.clo 105 [Cap.ptr 1 0],Cl.d (dQ q.bad)],bC [Cl.d (dS q.ws.length (strs q.ws))]] ⟨aJ ((((numQ (reQ q) (0:Int) (4294967295:Int)).1))),[bC [Cl.clo 105 [Cap.ptr 1 0],Cl.d (dQ (((numQ (reQ q) (0:Int) (4294967295:Int)).2).bad))],bC [Cl.d (dS (((numQ (reQ q) (0:Int) (4294967295:Int)).2).ws.length) (strs ((numQ (reQ q) (0:Int) (4294967295:Int)).2).ws))]],false⟩)∧True∧(((dJ ((numQ (reQ q) (0:Int) (4294967295:Int)).1)=dJ ((numQ q 0 4294967295).1))∧True)∧((((0=0)∧True)∧(dQ (((numQ (reQ q) (0:Int) (4294967295:Int)).2).bad)=dQ (((numQ q 0 4294967295).2).bad))∧True)∧([dS (((numQ (reQ q) (0:Int) (4294967295:Int)).2).ws.length) (strs ((numQ (reQ q) (0:Int) (4294967295:Int)).2).ws)]=[dS (((numQ q 0 4294967295).2).ws.length) (strs ((numQ q 0 4294967295).2).ws)])∧True))∧zQv ⟨aJ ((((numQ q 0 4294967295).1))),[bC [Cl.clo 105 [Cap.ptr 1 0],Cl.d (dQ (((numQ q 0 4294967295).2).bad))],bC [Cl.d (dS (((numQ q 0 4294967295).2).ws.length) (strs ((numQ q 0 4294967295).2).ws))]],false⟩)):=by kernel_rfl
theorem zQl (q:LQ) (hq:okQ q):AnsG Tryz.prog 111 2 [AV.one (Cl.ptr 0 0)] [Bx.cells [Cl.clo 105 [Cap.ptr 1 0],Cl.d (DV.bool q.bad)],Bx.cells [Cl.d (DV.sl q.ws.length (strs q.ws))]] ⟨AV.one (Cl.d (DV.int .i64 ((numQ q 0 4294967295).1))),[Bx.cells [Cl.clo 105 [Cap.ptr 1 0],Cl.d (DV.bool (((numQ q 0 4294967295).2).bad))],Bx.cells [Cl.d (DV.sl (((numQ q 0 4294967295).2).ws.length) (strs ((numQ q 0 4294967295).2).ws))]],false⟩:=
 zQz (Γ:=zXD) (zXG q) zQC Tryz.func111 rfl (Nat.le_of_ble_eq_true rfl) rfl fun hwf hbx=>by
  refine Eq.mpr (zKd q) ?_
  delta tU2 dJ dQ dS aJ aPz bC
  simp only [true_and,and_true,RV.d.injEq,RV.agg.injEq,RV.tup.injEq,DV.bool.injEq,DV.int.injEq,DV.sl.injEq,List.cons.injEq,forall_const,Bool.not_false,Bool.not_true,Bool.not_eq_true',Bool.not_eq_false',decide_eq_true_eq,decide_eq_false_iff_not,Int.toNat_natCast]
  simp only [zZQ,zQL,zZh]
  have aN:=zQ2 q 0 4294967295 hq
  exact ⟨aN,(by (repeat' apply And.intro) <;> first | rfl | trivial)⟩
def zYd (q:LQ):Ann:=Ann.leaf
theorem zVM (q:LQ):vcg Tryz.prog zXD ⟨6,fun _=>false,List.range 2,false⟩ (zQA Tryz.f135) (zYd q) kn0 (zZc [aPz] [bC [Cl.clo 105 [Cap.ptr 1 0],Cl.d (dQ q.bad)],bC [Cl.d (dS q.ws.length (strs q.ws))]]) (zZJ Tryz.prog ⟨6,fun _=>false,List.range 2,false⟩ Tryz.f135.results.toList ⟨AV.one (cK (((numQ q 0 65535).1))),[bC [Cl.clo 105 [Cap.ptr 1 0],Cl.d (dQ (((numQ q 0 65535).2).bad))],bC [Cl.d (dS (((numQ q 0 65535).2).ws.length) (strs ((numQ q 0 65535).2).ws))]],false⟩) =
 (tU2 ((AnsG Tryz.prog 137 2 [aPz,aJ ((0)),aJ ((65535))] [bC [Cl.clo 105 [Cap.ptr 1 0],Cl.d (dQ q.bad)],bC [Cl.d (dS q.ws.length (strs q.ws))]] ⟨aJ ((((numQ (reQ q) (0:Int) (65535:Int)).1))),[bC [Cl.clo 105 [Cap.ptr 1 0],Cl.d (dQ (((numQ (reQ q) (0:Int) (65535:Int)).2).bad))],bC [Cl.d (dS (((numQ (reQ q) (0:Int) (65535:Int)).2).ws.length) (strs ((numQ (reQ q) (0:Int) (65535:Int)).2).ws))]],false⟩)∧tU2 ((((dK (IntKind.wrap .u16 ((numQ (reQ q) (0:Int) (65535:Int)).1))=dK ((numQ q 0 65535).1))∧True)∧((((0=0)∧True)∧(dQ (((numQ (reQ q) (0:Int) (65535:Int)).2).bad)=dQ (((numQ q 0 65535).2).bad))∧True)∧([dS (((numQ (reQ q) (0:Int) (65535:Int)).2).ws.length) (strs ((numQ (reQ q) (0:Int) (65535:Int)).2).ws)]=[dS (((numQ q 0 65535).2).ws.length) (strs ((numQ q 0 65535).2).ws)])∧True))∧zQv ⟨AV.one (cK (((numQ q 0 65535).1))),[bC [Cl.clo 105 [Cap.ptr 1 0],Cl.d (dQ (((numQ q 0 65535).2).bad))],bC [Cl.d (dS (((numQ q 0 65535).2).ws.length) (strs ((numQ q 0 65535).2).ws))]],false⟩))):=by kernel_rfl
theorem zZ7 (q:LQ) (hq:okQ q):AnsG Tryz.prog 135 2 [AV.one (Cl.ptr 0 0)] [Bx.cells [Cl.clo 105 [Cap.ptr 1 0],Cl.d (DV.bool q.bad)],Bx.cells [Cl.d (DV.sl q.ws.length (strs q.ws))]] ⟨AV.one (Cl.d (DV.int .u16 ((numQ q 0 65535).1))),[Bx.cells [Cl.clo 105 [Cap.ptr 1 0],Cl.d (DV.bool (((numQ q 0 65535).2).bad))],Bx.cells [Cl.d (DV.sl (((numQ q 0 65535).2).ws.length) (strs ((numQ q 0 65535).2).ws))]],false⟩:=
 zQz (Γ:=zXD) (zYd q) zQC Tryz.func135 rfl (Nat.le_of_ble_eq_true rfl) rfl fun hwf hbx=>by
  refine Eq.mpr (zVM q) ?_
  delta tU2 dK dQ cK dS aJ aPz bC
  simp only [true_and,and_true,RV.d.injEq,RV.agg.injEq,RV.tup.injEq,DV.bool.injEq,DV.int.injEq,DV.sl.injEq,List.cons.injEq,forall_const,Bool.not_false,Bool.not_true,Bool.not_eq_true',Bool.not_eq_false',decide_eq_true_eq,decide_eq_false_iff_not,Int.toNat_natCast]
  simp only [zZQ,zQL,zZh]
  have aN:=zQ2 q 0 65535 hq
  have hr:0≤(numQ q 0 65535).1∧(numQ q 0 65535).1≤65535:=jUo (by decide)
  have w:IntKind.wrap .u16 (numQ q 0 65535).1=(numQ q 0 65535).1:=by simp [IntKind.wrap,IntKind.bits,IntKind.signed]; omega
  have w':IntKind.wrap .u16 (numQ { ws:=q.ws,bad:=q.bad } 0 65535).1=(numQ q 0 65535).1:=w
  rw [w']
  exact ⟨aN,(by (repeat' apply And.intro) <;> first | rfl | trivial)⟩
def zYu (q:LQ):Ann:=Ann.leaf
theorem zWe (q:LQ):vcg Tryz.prog zXD ⟨6,fun _=>false,List.range 2,false⟩ (zQA Tryz.f142) (zYu q) kn0 (zZc [aPz] [bC [Cl.clo 105 [Cap.ptr 1 0],Cl.d (dQ q.bad)],bC [Cl.d (dS q.ws.length (strs q.ws))]]) (zZJ Tryz.prog ⟨6,fun _=>false,List.range 2,false⟩ Tryz.f142.results.toList ⟨AV.one (Cl.d (dQ (decide ((numQ q 0 1).1=1)))),[bC [Cl.clo 105 [Cap.ptr 1 0],Cl.d (dQ (((numQ q 0 1).2).bad))],bC [Cl.d (dS (((numQ q 0 1).2).ws.length) (strs ((numQ q 0 1).2).ws))]],false⟩) =
 (tU2 ((AnsG Tryz.prog 137 2 [aPz,aJ ((0)),aJ ((1))] [bC [Cl.clo 105 [Cap.ptr 1 0],Cl.d (dQ q.bad)],bC [Cl.d (dS q.ws.length (strs q.ws))]] ⟨aJ ((((numQ (reQ q) (0:Int) (1:Int)).1))),[bC [Cl.clo 105 [Cap.ptr 1 0],Cl.d (dQ (((numQ (reQ q) (0:Int) (1:Int)).2).bad))],bC [Cl.d (dS (((numQ (reQ q) (0:Int) (1:Int)).2).ws.length) (strs ((numQ (reQ q) (0:Int) (1:Int)).2).ws))]],false⟩)∧tU2 ((((dQ (((numQ (reQ q) (0:Int) (1:Int)).1)==(1:Int))=dQ (decide ((numQ q 0 1).1=1)))∧True)∧((((0=0)∧True)∧(dQ (((numQ (reQ q) (0:Int) (1:Int)).2).bad)=dQ (((numQ q 0 1).2).bad))∧True)∧([dS (((numQ (reQ q) (0:Int) (1:Int)).2).ws.length) (strs ((numQ (reQ q) (0:Int) (1:Int)).2).ws)]=[dS (((numQ q 0 1).2).ws.length) (strs ((numQ q 0 1).2).ws)])∧True))∧zQv ⟨AV.one (Cl.d (dQ (decide ((numQ q 0 1).1=1)))),[bC [Cl.clo 105 [Cap.ptr 1 0],Cl.d (dQ (((numQ q 0 1).2).bad))],bC [Cl.d (dS (((numQ q 0 1).2).ws.length) (strs ((numQ q 0 1).2).ws))]],false⟩))):=by kernel_rfl
theorem zXh (q:LQ) (hq:okQ q):AnsG Tryz.prog 142 2 [AV.one (Cl.ptr 0 0)] [Bx.cells [Cl.clo 105 [Cap.ptr 1 0],Cl.d (DV.bool q.bad)],Bx.cells [Cl.d (DV.sl q.ws.length (strs q.ws))]] ⟨AV.one (Cl.d (DV.bool (decide ((numQ q 0 1).1=1)))),[Bx.cells [Cl.clo 105 [Cap.ptr 1 0],Cl.d (DV.bool (((numQ q 0 1).2).bad))],Bx.cells [Cl.d (DV.sl (((numQ q 0 1).2).ws.length) (strs ((numQ q 0 1).2).ws))]],false⟩:=
 zQz (Γ:=zXD) (zYu q) zQC Tryz.func142 rfl (Nat.le_of_ble_eq_true rfl) rfl fun hwf hbx=>by
  refine Eq.mpr (zWe q) ?_
  delta tU2 dQ dS aJ aPz bC
  simp only [true_and,and_true,RV.d.injEq,RV.agg.injEq,RV.tup.injEq,DV.bool.injEq,DV.int.injEq,DV.sl.injEq,List.cons.injEq,forall_const,Bool.not_false,Bool.not_true,Bool.not_eq_true',Bool.not_eq_false',decide_eq_true_eq,decide_eq_false_iff_not,Int.toNat_natCast]
  simp only [zZQ,zQL,zZh]
  have aN:=zQ2 q 0 1 hq
  have e:((numQ { ws:=q.ws,bad:=q.bad } 0 1).1==1)=decide ((numQ q 0 1).1=1):=by rw [Bool.eq_iff_iff]; simp
  rw [e]
  exact ⟨aN,(by (repeat' apply And.intro) <;> first | rfl | trivial)⟩
def zXH (q:LQ):Ann:=Ann.leaf
theorem zKe (q:LQ):vcg Tryz.prog zXD ⟨5,fun _=>false,List.range 2,false⟩ (zQA Tryz.f140) (zXH q) kn0 (zZc [aPz] [bC [Cl.clo 105 [Cap.ptr 1 0],Cl.d (dQ q.bad)],bC [Cl.d (dS q.ws.length (strs q.ws))]]) (zZJ Tryz.prog ⟨5,fun _=>false,List.range 2,false⟩ Tryz.f140.results.toList ⟨aJ ((((namQ zQj q).1))),[bC [Cl.clo 105 [Cap.ptr 1 0],Cl.d (dQ (((namQ zQj q).2).bad))],bC [Cl.d (dS (((namQ zQj q).2).ws.length) (strs ((namQ zQj q).2).ws))]],false⟩) =
 (tU2 ((AnsG Tryz.prog 156 2 [aPz,AV.one (Cl.d (DV.fn 157))] [bC [Cl.clo 105 [Cap.ptr 1 0],Cl.d (dQ q.bad)],bC [Cl.d (dS q.ws.length (strs q.ws))]] ⟨aJ ((((namQ zQj (reQ q)).1))),[bC [Cl.clo 105 [Cap.ptr 1 0],Cl.d (dQ (((namQ zQj (reQ q)).2).bad))],bC [Cl.d (dS (((namQ zQj (reQ q)).2).ws.length) (strs ((namQ zQj (reQ q)).2).ws))]],false⟩)∧True∧(((dJ ((namQ zQj (reQ q)).1)=dJ ((namQ zQj q).1))∧True)∧((((0=0)∧True)∧(dQ (((namQ zQj (reQ q)).2).bad)=dQ (((namQ zQj q).2).bad))∧True)∧([dS (((namQ zQj (reQ q)).2).ws.length) (strs ((namQ zQj (reQ q)).2).ws)]=[dS (((namQ zQj q).2).ws.length) (strs ((namQ zQj q).2).ws)])∧True))∧zQv ⟨aJ ((((namQ zQj q).1))),[bC [Cl.clo 105 [Cap.ptr 1 0],Cl.d (dQ (((namQ zQj q).2).bad))],bC [Cl.d (dS (((namQ zQj q).2).ws.length) (strs ((namQ zQj q).2).ws))]],false⟩)):=by kernel_rfl
theorem zZU (q:LQ):AnsG Tryz.prog 140 2 [AV.one (Cl.ptr 0 0)] [Bx.cells [Cl.clo 105 [Cap.ptr 1 0],Cl.d (DV.bool q.bad)],Bx.cells [Cl.d (DV.sl q.ws.length (strs q.ws))]] ⟨AV.one (Cl.d (DV.int .i64 ((namQ zQj q).1))),[Bx.cells [Cl.clo 105 [Cap.ptr 1 0],Cl.d (DV.bool (((namQ zQj q).2).bad))],Bx.cells [Cl.d (DV.sl (((namQ zQj q).2).ws.length) (strs ((namQ zQj q).2).ws))]],false⟩:=
 zQz (Γ:=zXD) (zXH q) zQC Tryz.func140 rfl (Nat.le_of_ble_eq_true rfl) rfl fun hwf hbx=>by
  refine Eq.mpr (zKe q) ?_
  delta tU2 dJ dQ dS aJ aPz bC
  simp only [true_and,and_true,RV.d.injEq,RV.agg.injEq,RV.tup.injEq,DV.bool.injEq,DV.int.injEq,DV.sl.injEq,List.cons.injEq,forall_const,Bool.not_false,Bool.not_true,Bool.not_eq_true',Bool.not_eq_false',decide_eq_true_eq,decide_eq_false_iff_not,Int.toNat_natCast]
  simp only [zZQ,zQL,zZh]
  exact ⟨zJu q,(by (repeat' apply And.intro) <;> first | rfl | trivial)⟩
def zYP (q:LQ):Ann:=Ann.leaf
theorem zW0 (q:LQ):vcg Tryz.prog zXD ⟨5,fun _=>false,List.range 2,false⟩ (zQA Tryz.f141) (zYP q) kn0 (zZc [aPz] [bC [Cl.clo 105 [Cap.ptr 1 0],Cl.d (dQ q.bad)],bC [Cl.d (dS q.ws.length (strs q.ws))]]) (zZJ Tryz.prog ⟨5,fun _=>false,List.range 2,false⟩ Tryz.f141.results.toList ⟨aJ ((((namQ zQc q).1))),[bC [Cl.clo 105 [Cap.ptr 1 0],Cl.d (dQ (((namQ zQc q).2).bad))],bC [Cl.d (dS (((namQ zQc q).2).ws.length) (strs ((namQ zQc q).2).ws))]],false⟩) =
 (tU2 ((AnsG Tryz.prog 156 2 [aPz,AV.one (Cl.d (DV.fn 158))] [bC [Cl.clo 105 [Cap.ptr 1 0],Cl.d (dQ q.bad)],bC [Cl.d (dS q.ws.length (strs q.ws))]] ⟨aJ ((((namQ zQc (reQ q)).1))),[bC [Cl.clo 105 [Cap.ptr 1 0],Cl.d (dQ (((namQ zQc (reQ q)).2).bad))],bC [Cl.d (dS (((namQ zQc (reQ q)).2).ws.length) (strs ((namQ zQc (reQ q)).2).ws))]],false⟩)∧True∧(((dJ ((namQ zQc (reQ q)).1)=dJ ((namQ zQc q).1))∧True)∧((((0=0)∧True)∧(dQ (((namQ zQc (reQ q)).2).bad)=dQ (((namQ zQc q).2).bad))∧True)∧([dS (((namQ zQc (reQ q)).2).ws.length) (strs ((namQ zQc (reQ q)).2).ws)]=[dS (((namQ zQc q).2).ws.length) (strs ((namQ zQc q).2).ws)])∧True))∧zQv ⟨aJ ((((namQ zQc q).1))),[bC [Cl.clo 105 [Cap.ptr 1 0],Cl.d (dQ (((namQ zQc q).2).bad))],bC [Cl.d (dS (((namQ zQc q).2).ws.length) (strs ((namQ zQc q).2).ws))]],false⟩)):=by kernel_rfl
theorem zXu (q:LQ):AnsG Tryz.prog 141 2 [AV.one (Cl.ptr 0 0)] [Bx.cells [Cl.clo 105 [Cap.ptr 1 0],Cl.d (DV.bool q.bad)],Bx.cells [Cl.d (DV.sl q.ws.length (strs q.ws))]] ⟨AV.one (Cl.d (DV.int .i64 ((namQ zQc q).1))),[Bx.cells [Cl.clo 105 [Cap.ptr 1 0],Cl.d (DV.bool (((namQ zQc q).2).bad))],Bx.cells [Cl.d (DV.sl (((namQ zQc q).2).ws.length) (strs ((namQ zQc q).2).ws))]],false⟩:=
 zQz (Γ:=zXD) (zYP q) zQC Tryz.func141 rfl (Nat.le_of_ble_eq_true rfl) rfl fun hwf hbx=>by
  refine Eq.mpr (zW0 q) ?_
  delta tU2 dJ dQ dS aJ aPz bC
  simp only [true_and,and_true,RV.d.injEq,RV.agg.injEq,RV.tup.injEq,DV.bool.injEq,DV.int.injEq,DV.sl.injEq,List.cons.injEq,forall_const,Bool.not_false,Bool.not_true,Bool.not_eq_true',Bool.not_eq_false',decide_eq_true_eq,decide_eq_false_iff_not,Int.toNat_natCast]
  simp only [zZQ,zQL,zZh]
  exact ⟨zVL q,(by (repeat' apply And.intro) <;> first | rfl | trivial)⟩
def zXI (q:LQ):Ann:=Ann.leaf
theorem zKf (q:LQ):vcg Tryz.prog zXD ⟨13,fun _=>false,List.range 2,false⟩ (zQA Tryz.f107) (zXI q) kn0 (zZc [aPz] [bC [Cl.clo 105 [Cap.ptr 1 0],Cl.d (dQ q.bad)],bC [Cl.d (dS q.ws.length (strs q.ws))]]) (zZJ Tryz.prog ⟨13,fun _=>false,List.range 2,false⟩ Tryz.f107.results.toList ⟨AV.one (Cl.d (dQ (((q).ws).isEmpty && !(q).bad))),[bC [Cl.clo 105 [Cap.ptr 1 0],Cl.d (dQ ((zQX q).bad))],bC [Cl.d (dS ((zQX q).ws.length) (strs (zQX q).ws))]],false⟩) =
 (let zz0:=((((0=0)∧True)∧(dQ ((zQX (reQ q)).bad)=dQ ((zQX q).bad))∧True)∧([dS ((zQX (reQ q)).ws.length) (strs (zQX (reQ q)).ws)]=[dS ((zQX q).ws.length) (strs (zQX q).ws)])∧True); tU2 ((AnsG Tryz.prog 136 2 [aPz] [bC [Cl.clo 105 [Cap.ptr 1 0],Cl.d (dQ q.bad)],bC [Cl.d (dS q.ws.length (strs q.ws))]] ⟨AV.one (Cl.d (dQ (!(((reQ q)).ws).isEmpty))),[bC [Cl.clo 105 [Cap.ptr 1 0],Cl.d (dQ ((zQX (reQ q)).bad))],bC [Cl.d (dS ((zQX (reQ q)).ws.length) (strs (zQX (reQ q)).ws))]],false⟩)∧tU2 ((((!(!(((reQ q)).ws).isEmpty))=true→tU7 ((((dQ (!((zQX (reQ q)).bad))=dQ (((q).ws).isEmpty && !(q).bad))∧True)∧zz0)∧zQv ⟨AV.one (Cl.d (dQ (((q).ws).isEmpty && !(q).bad))),[bC [Cl.clo 105 [Cap.ptr 1 0],Cl.d (dQ ((zQX q).bad))],bC [Cl.d (dS ((zQX q).ws.length) (strs (zQX q).ws))]],false⟩))∧((!(!(((reQ q)).ws).isEmpty))=(!true)→tU2 ((((dQ false=dQ (((q).ws).isEmpty && !(q).bad))∧True)∧zz0)∧zQv ⟨AV.one (Cl.d (dQ (((q).ws).isEmpty && !(q).bad))),[bC [Cl.clo 105 [Cap.ptr 1 0],Cl.d (dQ ((zQX q).bad))],bC [Cl.d (dS ((zQX q).ws.length) (strs (zQX q).ws))]],false⟩)))))):=by kernel_rfl
theorem zQm (q:LQ):AnsG Tryz.prog 107 2 [AV.one (Cl.ptr 0 0)] [Bx.cells [Cl.clo 105 [Cap.ptr 1 0],Cl.d (DV.bool q.bad)],Bx.cells [Cl.d (DV.sl q.ws.length (strs q.ws))]] ⟨AV.one (Cl.d (DV.bool (((q).ws).isEmpty && !(q).bad))),[Bx.cells [Cl.clo 105 [Cap.ptr 1 0],Cl.d (DV.bool ((zQX q).bad))],Bx.cells [Cl.d (DV.sl ((zQX q).ws.length) (strs (zQX q).ws))]],false⟩:=
 zQz (Γ:=zXD) (zXI q) zQC Tryz.func107 rfl (Nat.le_of_ble_eq_true rfl) rfl fun hwf hbx=>by
  refine Eq.mpr (zKf q) ?_
  delta tU2 tU7 dQ dS aPz bC
  simp only [true_and,and_true,RV.d.injEq,RV.agg.injEq,RV.tup.injEq,DV.bool.injEq,DV.int.injEq,DV.sl.injEq,List.cons.injEq,forall_const,Bool.not_false,Bool.not_true,Bool.not_eq_true',Bool.not_eq_false',decide_eq_true_eq,decide_eq_false_iff_not,Int.toNat_natCast]
  simp only [zZQ,zQL,zZh]
  have aM:=zWh q
  refine ⟨aM,fun h=>?_,fun h=>?_⟩
  ·have e:(!(zQX { ws:=q.ws,bad:=q.bad }).bad)=(q.ws.isEmpty && !q.bad):=by rw [h]; rfl
   rw [e]; exact (by (repeat' apply And.intro) <;> first | rfl | trivial)
  ·have e:false=(q.ws.isEmpty && !q.bad):=by rw [h]; rfl
   rw [← e]; exact (by (repeat' apply And.intro) <;> first | rfl | trivial)
end Go.Proofs.YtheidkkebdhmkaaGreatDoor
namespace Go.Proofs.YtheidkkebdhmkaaGreatDoor
open Go.RowKit
set_option linter.unusedVariables false
set_option linter.unusedSimpArgs false
attribute [local irreducible] Ans AnsO AnsG AnsN AnsI
set_option maxHeartbeats 4000000
set_option maxRecDepth 4000
open Go.Lib
def pixQ (q:LQ):Px × LQ:=
 let a:=numQ q 0 65535; let b:=numQ a.2 0 65535; let c:=numQ b.2 0 65535; let d:=numQ c.2 0 65535; let e:=numQ d.2 0 65535
 (⟨a.1,b.1,c.1,d.1,e.1⟩,e.2)
def sizQ (q:LQ):(Int × Int) × LQ:=
 let a:=numQ q 1 16777216; let b:=numQ a.2 1 16777216
 if b.2.bad=true∨16777216 / b.1 < a.1 then ((0,0),⟨b.2.ws,true⟩) else ((a.1,b.1),b.2)
theorem jKI {q:LQ} {lo hi:Int} (h:(numQ q lo hi).2.bad=false):lo≤(numQ q lo hi).1∧(numQ q lo hi).1≤hi:=by
 unfold numQ at h ⊢
 split at h
 ·rename_i e
  rw [if_pos e]
  exact zH3 e
 ·exact absurd h (by simp)
def byQ (q:LQ):=numQ q 0 255
def plQ (q:LQ):=numQ q (-2147483648) 2147483647
def smQ (q:LQ):=numQ q 0 65535
def trQ (q:LQ):Bool × LQ:=(decide ((numQ q 0 1).1=1),(numQ q 0 1).2)
def zQT (q:LQ):Oq × LQ:=
 let i:=byQ q; let x:=plQ i.2; let y:=plQ x.2; let m:=byQ y.2; let mx:=plQ m.2; let my:=plQ mx.2; let a:=smQ my.2; let o:=namQ zQj a.2; let k:=namQ zQc o.2
 (⟨1,i.1,x.1,y.1,m.1,mx.1,my.1,a.1,o.1,k.1,false,false⟩,k.2)
def zQS (q:LQ):Oq × LQ:=
 let m:=byQ q; let mx:=plQ m.2; let my:=plQ mx.2; let a:=smQ my.2; let o:=namQ zQj a.2; let k:=namQ zQc o.2; let i:=trQ k.2; let n:=trQ i.2
 (⟨2,0,0,0,m.1,mx.1,my.1,a.1,o.1,k.1,i.1,n.1⟩,n.2)
def zHE:Gam where
 pure:=fun f xs=>
  if f=104 then (match xs with | [.d (.str s),.d (.str sep)]=>some (RV.d (dS ((zQp (ofS (s))).length) (strs (zQp (ofS (s)))))) | _=>none) else
  none
 modes:=fun f=>
  if f=137 then some ([false,true,true],2,0) else
  if f=109 then some ([false],2,0) else
  if f=110 then some ([false],2,0) else
  if f=135 then some ([false],2,0) else
  if f=142 then some ([false],2,0) else
  if f=140 then some ([false],2,0) else
  if f=141 then some ([false],2,0) else
  none
 proc:=fun f xs bs=>
  if f=137 then (match xs,bs with | [AV.one (Cl.ptr 0 0),AV.one (Cl.d (DV.int _ lo)),AV.one (Cl.d (DV.int _ hi))],[Bx.cells [Cl.clo 105 [Cap.ptr 1 0],Cl.d (DV.bool bad)],Bx.cells [Cl.d (DV.sl wn wxs)]]=>let yy0:=(numQ (⟨zQB (wxs),bad⟩:LQ) lo hi); some ⟨AV.one (Cl.d (DV.int .i64 (yy0.1))),[Bx.cells [Cl.clo 105 [Cap.ptr 1 0],Cl.d (DV.bool ((yy0.2).bad))],Bx.cells [Cl.d (DV.sl ((yy0.2).ws.length) (strs (yy0.2).ws))]],false⟩ | _,_=>none) else
  if f=109 then (match xs,bs with | [AV.one (Cl.ptr 0 0)],[Bx.cells [Cl.clo 105 [Cap.ptr 1 0],Cl.d (DV.bool bad)],Bx.cells [Cl.d (DV.sl wn wxs)]]=>let yy0:=(numQ (⟨zQB (wxs),bad⟩:LQ) 0 255); some ⟨AV.one (Cl.d (DV.int .i64 (yy0.1))),[Bx.cells [Cl.clo 105 [Cap.ptr 1 0],Cl.d (DV.bool ((yy0.2).bad))],Bx.cells [Cl.d (DV.sl ((yy0.2).ws.length) (strs (yy0.2).ws))]],false⟩ | _,_=>none) else
  if f=110 then (match xs,bs with | [AV.one (Cl.ptr 0 0)],[Bx.cells [Cl.clo 105 [Cap.ptr 1 0],Cl.d (DV.bool bad)],Bx.cells [Cl.d (DV.sl wn wxs)]]=>let yy0:=(numQ (⟨zQB (wxs),bad⟩:LQ) (-2147483648) 2147483647); some ⟨AV.one (Cl.d (DV.int .i64 (yy0.1))),[Bx.cells [Cl.clo 105 [Cap.ptr 1 0],Cl.d (DV.bool ((yy0.2).bad))],Bx.cells [Cl.d (DV.sl ((yy0.2).ws.length) (strs (yy0.2).ws))]],false⟩ | _,_=>none) else
  if f=135 then (match xs,bs with | [AV.one (Cl.ptr 0 0)],[Bx.cells [Cl.clo 105 [Cap.ptr 1 0],Cl.d (DV.bool bad)],Bx.cells [Cl.d (DV.sl wn wxs)]]=>let yy0:=(numQ (⟨zQB (wxs),bad⟩:LQ) 0 65535); some ⟨AV.one (Cl.d (DV.int .u16 (yy0.1))),[Bx.cells [Cl.clo 105 [Cap.ptr 1 0],Cl.d (DV.bool ((yy0.2).bad))],Bx.cells [Cl.d (DV.sl ((yy0.2).ws.length) (strs (yy0.2).ws))]],false⟩ | _,_=>none) else
  if f=142 then (match xs,bs with | [AV.one (Cl.ptr 0 0)],[Bx.cells [Cl.clo 105 [Cap.ptr 1 0],Cl.d (DV.bool bad)],Bx.cells [Cl.d (DV.sl wn wxs)]]=>let yy0:=(numQ (⟨zQB (wxs),bad⟩:LQ) 0 1); some ⟨AV.one (Cl.d (DV.bool (decide (yy0.1=1)))),[Bx.cells [Cl.clo 105 [Cap.ptr 1 0],Cl.d (DV.bool ((yy0.2).bad))],Bx.cells [Cl.d (DV.sl ((yy0.2).ws.length) (strs (yy0.2).ws))]],false⟩ | _,_=>none) else
  if f=140 then (match xs,bs with | [AV.one (Cl.ptr 0 0)],[Bx.cells [Cl.clo 105 [Cap.ptr 1 0],Cl.d (DV.bool bad)],Bx.cells [Cl.d (DV.sl wn wxs)]]=>let yy0:=(namQ zQj (⟨zQB (wxs),bad⟩:LQ)); some ⟨AV.one (Cl.d (DV.int .i64 (yy0.1))),[Bx.cells [Cl.clo 105 [Cap.ptr 1 0],Cl.d (DV.bool ((yy0.2).bad))],Bx.cells [Cl.d (DV.sl ((yy0.2).ws.length) (strs (yy0.2).ws))]],false⟩ | _,_=>none) else
  if f=141 then (match xs,bs with | [AV.one (Cl.ptr 0 0)],[Bx.cells [Cl.clo 105 [Cap.ptr 1 0],Cl.d (DV.bool bad)],Bx.cells [Cl.d (DV.sl wn wxs)]]=>let yy0:=(namQ zQc (⟨zQB (wxs),bad⟩:LQ)); some ⟨AV.one (Cl.d (DV.int .i64 (yy0.1))),[Bx.cells [Cl.clo 105 [Cap.ptr 1 0],Cl.d (DV.bool ((yy0.2).bad))],Bx.cells [Cl.d (DV.sl ((yy0.2).ws.length) (strs (yy0.2).ws))]],false⟩ | _,_=>none) else
  none
 iter:=fun f cs=>
  none
def zYw (q:LQ):Ann:=Ann.leaf
theorem zWg (q:LQ):vcg Tryz.prog zHE ⟨15,fun _=>false,List.range 2,false⟩ (zQA Tryz.f106) (zYw q) kn0 (zZc [AV.one (Cl.ptr 0 0)] [Bx.cells [Cl.clo 105 [Cap.ptr 1 0],Cl.d (DV.bool q.bad)],Bx.cells [Cl.d (DV.sl q.ws.length (strs q.ws))]]) (zZJ Tryz.prog ⟨15,fun _=>false,List.range 2,false⟩ Tryz.f106.results.toList ⟨AV.agg [Cl.d (DV.int .u16 ((pixQ q).1.a)),Cl.d (DV.int .u16 ((pixQ q).1.b)),Cl.d (DV.int .u16 ((pixQ q).1.c)),Cl.d (DV.int .u16 ((pixQ q).1.al)),Cl.d (DV.int .u16 ((pixQ q).1.f))],[Bx.cells [Cl.clo 105 [Cap.ptr 1 0],Cl.d (DV.bool (((pixQ q).2).bad))],Bx.cells [Cl.d (DV.sl (((pixQ q).2).ws.length) (strs ((pixQ q).2).ws))]],false⟩) =
 (let yy2:=(numQ (reQ ((numQ (reQ q) 0 65535).2)) 0 65535); let yy0:=(numQ (reQ (yy2.2)) 0 65535); let yy1:=(numQ (reQ ((numQ (reQ (yy0.2)) 0 65535).2)) 0 65535); let zz0:=[Bx.cells [Cl.clo 105 [Cap.ptr 1 0],Cl.d (DV.bool (((numQ (reQ q) 0 65535).2).bad))],Bx.cells [Cl.d (DV.sl (((numQ (reQ q) 0 65535).2).ws.length) (strs ((numQ (reQ q) 0 65535).2).ws))]]; let zz1:=[Bx.cells [Cl.clo 105 [Cap.ptr 1 0],Cl.d (DV.bool ((yy2.2).bad))],Bx.cells [Cl.d (DV.sl ((yy2.2).ws.length) (strs (yy2.2).ws))]]; let zz2:=[Bx.cells [Cl.clo 105 [Cap.ptr 1 0],Cl.d (DV.bool ((yy0.2).bad))],Bx.cells [Cl.d (DV.sl ((yy0.2).ws.length) (strs (yy0.2).ws))]]; let zz3:=[Bx.cells [Cl.clo 105 [Cap.ptr 1 0],Cl.d (DV.bool (((numQ (reQ (yy0.2)) 0 65535).2).bad))],Bx.cells [Cl.d (DV.sl (((numQ (reQ (yy0.2)) 0 65535).2).ws.length) (strs ((numQ (reQ (yy0.2)) 0 65535).2).ws))]]; True∧True∧(AnsG Tryz.prog 135 2 [AV.one (Cl.ptr 0 0)] [Bx.cells [Cl.clo 105 [Cap.ptr 1 0],Cl.d (DV.bool q.bad)],Bx.cells [Cl.d (DV.sl q.ws.length (strs q.ws))]] ⟨AV.one (Cl.d (DV.int .u16 ((numQ (reQ q) 0 65535).1))),zz0,false⟩)∧True∧(AnsG Tryz.prog 135 2 [AV.one (Cl.ptr 0 0)] zz0 ⟨AV.one (Cl.d (DV.int .u16 (yy2.1))),zz1,false⟩)∧True∧(AnsG Tryz.prog 135 2 [AV.one (Cl.ptr 0 0)] zz1 ⟨AV.one (Cl.d (DV.int .u16 (yy0.1))),zz2,false⟩)∧True∧True∧(AnsG Tryz.prog 135 2 [AV.one (Cl.ptr 0 0)] zz2 ⟨AV.one (Cl.d (DV.int .u16 ((numQ (reQ (yy0.2)) 0 65535).1))),zz3,false⟩)∧True∧(AnsG Tryz.prog 135 2 [AV.one (Cl.ptr 0 0)] zz3 ⟨AV.one (Cl.d (DV.int .u16 (yy1.1))),[Bx.cells [Cl.clo 105 [Cap.ptr 1 0],Cl.d (DV.bool ((yy1.2).bad))],Bx.cells [Cl.d (DV.sl ((yy1.2).ws.length) (strs (yy1.2).ws))]],false⟩)∧True∧True∧((([DV.int .u16 ((numQ (reQ q) 0 65535).1),DV.int .u16 (yy2.1),DV.int .u16 (yy0.1),DV.int .u16 ((numQ (reQ (yy0.2)) 0 65535).1),DV.int .u16 (yy1.1)]=[DV.int .u16 ((pixQ q).1.a),DV.int .u16 ((pixQ q).1.b),DV.int .u16 ((pixQ q).1.c),DV.int .u16 ((pixQ q).1.al),DV.int .u16 ((pixQ q).1.f)])∧True)∧((((0=0)∧True)∧(DV.bool ((yy1.2).bad)=DV.bool (((pixQ q).2).bad))∧True)∧([DV.sl ((yy1.2).ws.length) (strs (yy1.2).ws)]=[DV.sl (((pixQ q).2).ws.length) (strs ((pixQ q).2).ws)])∧True))∧zQv ⟨AV.agg [Cl.d (DV.int .u16 ((pixQ q).1.a)),Cl.d (DV.int .u16 ((pixQ q).1.b)),Cl.d (DV.int .u16 ((pixQ q).1.c)),Cl.d (DV.int .u16 ((pixQ q).1.al)),Cl.d (DV.int .u16 ((pixQ q).1.f))],[Bx.cells [Cl.clo 105 [Cap.ptr 1 0],Cl.d (DV.bool (((pixQ q).2).bad))],Bx.cells [Cl.d (DV.sl (((pixQ q).2).ws.length) (strs ((pixQ q).2).ws))]],false⟩):=by kernel_rfl
theorem zQt (q:LQ) (hq:okQ q):AnsG Tryz.prog 106 2 [AV.one (Cl.ptr 0 0)] [Bx.cells [Cl.clo 105 [Cap.ptr 1 0],Cl.d (DV.bool q.bad)],Bx.cells [Cl.d (DV.sl q.ws.length (strs q.ws))]] ⟨AV.agg [Cl.d (DV.int .u16 ((pixQ q).1.a)),Cl.d (DV.int .u16 ((pixQ q).1.b)),Cl.d (DV.int .u16 ((pixQ q).1.c)),Cl.d (DV.int .u16 ((pixQ q).1.al)),Cl.d (DV.int .u16 ((pixQ q).1.f))],[Bx.cells [Cl.clo 105 [Cap.ptr 1 0],Cl.d (DV.bool (((pixQ q).2).bad))],Bx.cells [Cl.d (DV.sl (((pixQ q).2).ws.length) (strs ((pixQ q).2).ws))]],false⟩:=
 zQz (Γ:=zHE) (zYw q) zQC Tryz.func106 rfl (Nat.le_of_ble_eq_true rfl) rfl fun hwf hbx=>by
  refine Eq.mpr (zWg q) ?_
  simp only [zZQ,true_and,and_true,RV.d.injEq,RV.agg.injEq,RV.tup.injEq,DV.bool.injEq,DV.int.injEq,DV.sl.injEq,List.cons.injEq,forall_const,Bool.not_false,Bool.not_true,Bool.not_eq_true',Bool.not_eq_false',decide_eq_true_eq,decide_eq_false_iff_not,Int.toNat_natCast]
  (repeat' apply And.intro) <;> first | exact zZ7 _ (by repeat (first | assumption | apply zQe | apply zQg)) | exact zQn _ (by repeat (first | assumption | apply zQe | apply zQg)) | exact zQr _ (by repeat (first | assumption | apply zQe | apply zQg)) | exact zZU _ | exact zXu _ | exact zXh _ (by repeat (first | assumption | apply zQe | apply zQg)) | rfl | trivial
def zYL (q:LQ):Ann:=Ann.leaf
theorem zWW (q:LQ):vcg Tryz.prog zHE ⟨23,fun _=>false,List.range 2,false⟩ (zQA Tryz.f113) (zYL q) kn0 (zZc [AV.one (Cl.ptr 0 0)] [Bx.cells [Cl.clo 105 [Cap.ptr 1 0],Cl.d (DV.bool q.bad)],Bx.cells [Cl.d (DV.sl q.ws.length (strs q.ws))]]) (zZJ Tryz.prog ⟨23,fun _=>false,List.range 2,false⟩ Tryz.f113.results.toList ⟨AV.tup [AV.one (Cl.d (DV.int .i64 ((sizQ q).1.1))),AV.one (Cl.d (DV.int .i64 ((sizQ q).1.2)))],[Bx.cells [Cl.clo 105 [Cap.ptr 1 0],Cl.d (DV.bool (((sizQ q).2).bad))],Bx.cells [Cl.d (DV.sl (((sizQ q).2).ws.length) (strs ((sizQ q).2).ws))]],false⟩) =
 (let yy2:=[Bx.cells [Cl.clo 105 [Cap.ptr 1 0],Cl.d (DV.bool (((sizQ q).2).bad))],Bx.cells [Cl.d (DV.sl (((sizQ q).2).ws.length) (strs ((sizQ q).2).ws))]]; let yy3:=[AV.one (Cl.d (DV.int .i64 ((sizQ q).1.1))),AV.one (Cl.d (DV.int .i64 ((sizQ q).1.2)))]; let yy1:=(numQ (reQ q) (1:Int) (16777216:Int)); let yy0:=(numQ (reQ (yy1.2)) (1:Int) (16777216:Int)); let zz0:=[AV.one (Cl.ptr 0 0),AV.one (Cl.d (DV.int .i64 1)),AV.one (Cl.d (DV.int .i64 16777216))]; let zz1:=[Bx.cells [Cl.clo 105 [Cap.ptr 1 0],Cl.d (DV.bool ((yy1.2).bad))],Bx.cells [Cl.d (DV.sl ((yy1.2).ws.length) (strs (yy1.2).ws))]]; let zz2:=([DV.sl ((yy0.2).ws.length) (strs (yy0.2).ws)]=[DV.sl (((sizQ q).2).ws.length) (strs ((sizQ q).2).ws)]); let zz3:=((((DV.int .i64 0=DV.int .i64 ((sizQ q).1.1))∧(DV.int .i64 0=DV.int .i64 ((sizQ q).1.2))∧True)∧True)∧((((0=0)∧True)∧(DV.bool true=DV.bool (((sizQ q).2).bad))∧True)∧zz2∧True)); True∧True∧True∧(AnsG Tryz.prog 137 2 zz0 [Bx.cells [Cl.clo 105 [Cap.ptr 1 0],Cl.d (DV.bool q.bad)],Bx.cells [Cl.d (DV.sl q.ws.length (strs q.ws))]] ⟨AV.one (Cl.d (DV.int .i64 (yy1.1))),zz1,false⟩)∧True∧(AnsG Tryz.prog 137 2 zz0 zz1 ⟨AV.one (Cl.d (DV.int .i64 (yy0.1))),[Bx.cells [Cl.clo 105 [Cap.ptr 1 0],Cl.d (DV.bool ((yy0.2).bad))],Bx.cells [Cl.d (DV.sl ((yy0.2).ws.length) (strs (yy0.2).ws))]],false⟩)∧True∧True∧True∧True∧True∧True∧True∧((((yy0.2).bad)=false→True∧True∧(yy0.1≠0)∧True∧True∧(((decide ((yy1.1) > (IntKind.wrap .i64 (Int.tdiv (16777216:Int) (yy0.1)))))=true→True∧True∧True∧True∧True∧True∧zz3∧zQv ⟨AV.tup yy3,yy2,false⟩)∧((decide ((yy1.1) > (IntKind.wrap .i64 (Int.tdiv (16777216:Int) (yy0.1)))))=false→True∧True∧True∧True∧((((DV.int .i64 (yy1.1)=DV.int .i64 ((sizQ q).1.1))∧(DV.int .i64 (yy0.1)=DV.int .i64 ((sizQ q).1.2))∧True)∧True)∧((((0=0)∧True)∧(DV.bool ((yy0.2).bad)=DV.bool (((sizQ q).2).bad))∧True)∧zz2∧True))∧zQv ⟨AV.tup yy3,yy2,false⟩)))∧(((yy0.2).bad)=(!false)→True∧True∧True∧True∧True∧True∧True∧zz3∧zQv ⟨AV.tup yy3,yy2,false⟩))):=by kernel_rfl
theorem zQw (q:LQ) (hq:okQ q):AnsG Tryz.prog 113 2 [AV.one (Cl.ptr 0 0)] [Bx.cells [Cl.clo 105 [Cap.ptr 1 0],Cl.d (DV.bool q.bad)],Bx.cells [Cl.d (DV.sl q.ws.length (strs q.ws))]] ⟨AV.tup [AV.one (Cl.d (DV.int .i64 ((sizQ q).1.1))),AV.one (Cl.d (DV.int .i64 ((sizQ q).1.2)))],[Bx.cells [Cl.clo 105 [Cap.ptr 1 0],Cl.d (DV.bool (((sizQ q).2).bad))],Bx.cells [Cl.d (DV.sl (((sizQ q).2).ws.length) (strs ((sizQ q).2).ws))]],false⟩:=
 zQz (Γ:=zHE) (zYL q) zQC Tryz.func113 rfl (Nat.le_of_ble_eq_true rfl) rfl fun hwf hbx=>by
  refine Eq.mpr (zWW q) ?_
  simp only [zZQ,true_and,and_true,RV.d.injEq,RV.agg.injEq,RV.tup.injEq,DV.bool.injEq,DV.int.injEq,DV.sl.injEq,List.cons.injEq,forall_const,Bool.not_false,Bool.not_true,Bool.not_eq_true',Bool.not_eq_false',decide_eq_true_eq,decide_eq_false_iff_not,Int.toNat_natCast]
  have aA:=zQ2 q 1 16777216 hq
  have aB:=zQ2 (numQ q 1 16777216).2 1 16777216 (zQe hq)
  have hb:(numQ (numQ q 1 16777216).2 1 16777216).2.bad=false→1≤(numQ (numQ q 1 16777216).2 1 16777216).1∧(numQ (numQ q 1 16777216).2 1 16777216).1≤16777216:=fun h=>jKI h
  have e:sizQ q=(if (numQ (numQ q 1 16777216).2 1 16777216).2.bad=true∨16777216 / (numQ (numQ q 1 16777216).2 1 16777216).1 < (numQ q 1 16777216).1 then ((0,0),⟨(numQ (numQ q 1 16777216).2 1 16777216).2.ws,true⟩) else (((numQ q 1 16777216).1,(numQ (numQ q 1 16777216).2 1 16777216).1),(numQ (numQ q 1 16777216).2 1 16777216).2)):=rfl
  generalize numQ (numQ q 1 16777216).2 1 16777216=B at *
  generalize numQ q 1 16777216=A at *
  have hw:B.2.bad=false→IntKind.wrap .i64 (Int.tdiv 16777216 B.1)=16777216 / B.1:=fun h=>by
   obtain ⟨h1,h2⟩:=hb h
   rw [Int.tdiv_eq_ediv_of_nonneg (by omega)]
   have hq:=Int.ediv_nonneg (by omega:(0:Int)≤16777216) (by omega:0≤B.1)
   have hq1:16777216 / B.1≤16777216:=Int.ediv_le_self _ (by omega)
   exact IntWalk.i64_in _ ⟨by omega,by omega⟩
  refine ⟨aA,aB,fun h=>⟨by have:=hb h; omega,fun h2=>?_,fun h2=>?_⟩,fun h=>?_⟩
  ·rw [hw h] at h2
   rw [if_pos (.inr (by omega))] at e
   rw [e]; ((repeat' apply And.intro) <;> first | rfl | trivial)
  ·rw [hw h] at h2
   rw [if_neg (by rw [h]; simp; omega)] at e
   rw [e]; ((repeat' apply And.intro) <;> first | rfl | trivial)
  ·rw [if_pos (.inl (by simpa using h))] at e
   rw [e]; ((repeat' apply And.intro) <;> first | rfl | trivial)
def zYQ (q:LQ):Ann:=Ann.leaf
theorem zW1 (q:LQ):vcg Tryz.prog zHE ⟨22,fun _=>false,List.range 2,false⟩ (zQA Tryz.f115) (zYQ q) kn0 (zZc [AV.one (Cl.ptr 0 0)] [Bx.cells [Cl.clo 105 [Cap.ptr 1 0],Cl.d (DV.bool q.bad)],Bx.cells [Cl.d (DV.sl q.ws.length (strs q.ws))]]) (zZJ Tryz.prog ⟨22,fun _=>false,List.range 2,false⟩ Tryz.f115.results.toList ⟨AV.agg [Cl.d (DV.int .i64 (((zQT q).1).kind)),Cl.d (DV.int .i64 (((zQT q).1).image)),Cl.d (DV.int .i64 (((zQT q).1).x)),Cl.d (DV.int .i64 (((zQT q).1).y)),Cl.d (DV.int .i64 (((zQT q).1).mask)),Cl.d (DV.int .i64 (((zQT q).1).mx)),Cl.d (DV.int .i64 (((zQT q).1).my)),Cl.d (DV.int .u16 (((zQT q).1).opac)),Cl.d (DV.int .i64 (((zQT q).1).oper)),Cl.d (DV.int .i64 (((zQT q).1).mode)),Cl.d (DV.bool (((zQT q).1).iso)),Cl.d (DV.bool (((zQT q).1).kno))],[Bx.cells [Cl.clo 105 [Cap.ptr 1 0],Cl.d (DV.bool (((zQT q).2).bad))],Bx.cells [Cl.d (DV.sl (((zQT q).2).ws.length) (strs ((zQT q).2).ws))]],false⟩) =
 (let yy4:=(numQ (reQ ((numQ (reQ q) 0 255).2)) (-2147483648) 2147483647); let yy1:=(numQ (reQ (yy4.2)) (-2147483648) 2147483647); let yy3:=(numQ (reQ ((numQ (reQ (yy1.2)) 0 255).2)) (-2147483648) 2147483647); let yy0:=(numQ (reQ (yy3.2)) (-2147483648) 2147483647); let yy2:=(namQ zQj (reQ ((numQ (reQ (yy0.2)) 0 65535).2))); let zz0:=[Bx.cells [Cl.clo 105 [Cap.ptr 1 0],Cl.d (DV.bool (((numQ (reQ q) 0 255).2).bad))],Bx.cells [Cl.d (DV.sl (((numQ (reQ q) 0 255).2).ws.length) (strs ((numQ (reQ q) 0 255).2).ws))]]; let zz1:=[Bx.cells [Cl.clo 105 [Cap.ptr 1 0],Cl.d (DV.bool ((yy4.2).bad))],Bx.cells [Cl.d (DV.sl ((yy4.2).ws.length) (strs (yy4.2).ws))]]; let zz2:=[Bx.cells [Cl.clo 105 [Cap.ptr 1 0],Cl.d (DV.bool ((yy1.2).bad))],Bx.cells [Cl.d (DV.sl ((yy1.2).ws.length) (strs (yy1.2).ws))]]; let zz3:=[Bx.cells [Cl.clo 105 [Cap.ptr 1 0],Cl.d (DV.bool (((numQ (reQ (yy1.2)) 0 255).2).bad))],Bx.cells [Cl.d (DV.sl (((numQ (reQ (yy1.2)) 0 255).2).ws.length) (strs ((numQ (reQ (yy1.2)) 0 255).2).ws))]]; let zz4:=[Bx.cells [Cl.clo 105 [Cap.ptr 1 0],Cl.d (DV.bool ((yy3.2).bad))],Bx.cells [Cl.d (DV.sl ((yy3.2).ws.length) (strs (yy3.2).ws))]]; let zz5:=[Bx.cells [Cl.clo 105 [Cap.ptr 1 0],Cl.d (DV.bool ((yy0.2).bad))],Bx.cells [Cl.d (DV.sl ((yy0.2).ws.length) (strs (yy0.2).ws))]]; let zz6:=[Bx.cells [Cl.clo 105 [Cap.ptr 1 0],Cl.d (DV.bool (((numQ (reQ (yy0.2)) 0 65535).2).bad))],Bx.cells [Cl.d (DV.sl (((numQ (reQ (yy0.2)) 0 65535).2).ws.length) (strs ((numQ (reQ (yy0.2)) 0 65535).2).ws))]]; let zz7:=[Bx.cells [Cl.clo 105 [Cap.ptr 1 0],Cl.d (DV.bool ((yy2.2).bad))],Bx.cells [Cl.d (DV.sl ((yy2.2).ws.length) (strs (yy2.2).ws))]]; True∧True∧(AnsG Tryz.prog 109 2 [AV.one (Cl.ptr 0 0)] [Bx.cells [Cl.clo 105 [Cap.ptr 1 0],Cl.d (DV.bool q.bad)],Bx.cells [Cl.d (DV.sl q.ws.length (strs q.ws))]] ⟨AV.one (Cl.d (DV.int .i64 ((numQ (reQ q) 0 255).1))),zz0,false⟩)∧True∧(AnsG Tryz.prog 110 2 [AV.one (Cl.ptr 0 0)] zz0 ⟨AV.one (Cl.d (DV.int .i64 (yy4.1))),zz1,false⟩)∧True∧(AnsG Tryz.prog 110 2 [AV.one (Cl.ptr 0 0)] zz1 ⟨AV.one (Cl.d (DV.int .i64 (yy1.1))),zz2,false⟩)∧True∧(AnsG Tryz.prog 109 2 [AV.one (Cl.ptr 0 0)] zz2 ⟨AV.one (Cl.d (DV.int .i64 ((numQ (reQ (yy1.2)) 0 255).1))),zz3,false⟩)∧True∧(AnsG Tryz.prog 110 2 [AV.one (Cl.ptr 0 0)] zz3 ⟨AV.one (Cl.d (DV.int .i64 (yy3.1))),zz4,false⟩)∧True∧(AnsG Tryz.prog 110 2 [AV.one (Cl.ptr 0 0)] zz4 ⟨AV.one (Cl.d (DV.int .i64 (yy0.1))),zz5,false⟩)∧True∧(AnsG Tryz.prog 135 2 [AV.one (Cl.ptr 0 0)] zz5 ⟨AV.one (Cl.d (DV.int .u16 ((numQ (reQ (yy0.2)) 0 65535).1))),zz6,false⟩)∧True∧(AnsG Tryz.prog 140 2 [AV.one (Cl.ptr 0 0)] zz6 ⟨AV.one (Cl.d (DV.int .i64 (yy2.1))),zz7,false⟩)∧True∧(AnsG Tryz.prog 141 2 [AV.one (Cl.ptr 0 0)] zz7 ⟨AV.one (Cl.d (DV.int .i64 ((namQ zQc (reQ (yy2.2))).1))),[Bx.cells [Cl.clo 105 [Cap.ptr 1 0],Cl.d (DV.bool (((namQ zQc (reQ (yy2.2))).2).bad))],Bx.cells [Cl.d (DV.sl (((namQ zQc (reQ (yy2.2))).2).ws.length) (strs ((namQ zQc (reQ (yy2.2))).2).ws))]],false⟩)∧True∧True∧((([DV.int .i64 1,DV.int .i64 ((numQ (reQ q) 0 255).1),DV.int .i64 (yy4.1),DV.int .i64 (yy1.1),DV.int .i64 ((numQ (reQ (yy1.2)) 0 255).1),DV.int .i64 (yy3.1),DV.int .i64 (yy0.1),DV.int .u16 ((numQ (reQ (yy0.2)) 0 65535).1),DV.int .i64 (yy2.1),DV.int .i64 ((namQ zQc (reQ (yy2.2))).1),DV.bool false,DV.bool false]=(Oq.cells ((zQT q).1)))∧True)∧((((0=0)∧True)∧(DV.bool (((namQ zQc (reQ (yy2.2))).2).bad)=DV.bool (((zQT q).2).bad))∧True)∧([DV.sl (((namQ zQc (reQ (yy2.2))).2).ws.length) (strs ((namQ zQc (reQ (yy2.2))).2).ws)]=[DV.sl (((zQT q).2).ws.length) (strs ((zQT q).2).ws)])∧True))∧zQv ⟨AV.agg [Cl.d (DV.int .i64 (((zQT q).1).kind)),Cl.d (DV.int .i64 (((zQT q).1).image)),Cl.d (DV.int .i64 (((zQT q).1).x)),Cl.d (DV.int .i64 (((zQT q).1).y)),Cl.d (DV.int .i64 (((zQT q).1).mask)),Cl.d (DV.int .i64 (((zQT q).1).mx)),Cl.d (DV.int .i64 (((zQT q).1).my)),Cl.d (DV.int .u16 (((zQT q).1).opac)),Cl.d (DV.int .i64 (((zQT q).1).oper)),Cl.d (DV.int .i64 (((zQT q).1).mode)),Cl.d (DV.bool (((zQT q).1).iso)),Cl.d (DV.bool (((zQT q).1).kno))],[Bx.cells [Cl.clo 105 [Cap.ptr 1 0],Cl.d (DV.bool (((zQT q).2).bad))],Bx.cells [Cl.d (DV.sl (((zQT q).2).ws.length) (strs ((zQT q).2).ws))]],false⟩):=by kernel_rfl
theorem zQy (q:LQ) (hq:okQ q):AnsG Tryz.prog 115 2 [AV.one (Cl.ptr 0 0)] [Bx.cells [Cl.clo 105 [Cap.ptr 1 0],Cl.d (DV.bool q.bad)],Bx.cells [Cl.d (DV.sl q.ws.length (strs q.ws))]] ⟨AV.agg [Cl.d (DV.int .i64 (((zQT q).1).kind)),Cl.d (DV.int .i64 (((zQT q).1).image)),Cl.d (DV.int .i64 (((zQT q).1).x)),Cl.d (DV.int .i64 (((zQT q).1).y)),Cl.d (DV.int .i64 (((zQT q).1).mask)),Cl.d (DV.int .i64 (((zQT q).1).mx)),Cl.d (DV.int .i64 (((zQT q).1).my)),Cl.d (DV.int .u16 (((zQT q).1).opac)),Cl.d (DV.int .i64 (((zQT q).1).oper)),Cl.d (DV.int .i64 (((zQT q).1).mode)),Cl.d (DV.bool (((zQT q).1).iso)),Cl.d (DV.bool (((zQT q).1).kno))],[Bx.cells [Cl.clo 105 [Cap.ptr 1 0],Cl.d (DV.bool (((zQT q).2).bad))],Bx.cells [Cl.d (DV.sl (((zQT q).2).ws.length) (strs ((zQT q).2).ws))]],false⟩:=
 zQz (Γ:=zHE) (zYQ q) zQC Tryz.func115 rfl (Nat.le_of_ble_eq_true rfl) rfl fun hwf hbx=>by
  refine Eq.mpr (zW1 q) ?_
  simp only [zZQ,true_and,and_true,RV.d.injEq,RV.agg.injEq,RV.tup.injEq,DV.bool.injEq,DV.int.injEq,DV.sl.injEq,List.cons.injEq,forall_const,Bool.not_false,Bool.not_true,Bool.not_eq_true',Bool.not_eq_false',decide_eq_true_eq,decide_eq_false_iff_not,Int.toNat_natCast]
  (repeat' apply And.intro) <;> first | exact zZ7 _ (by repeat (first | assumption | apply zQe | apply zQg)) | exact zQn _ (by repeat (first | assumption | apply zQe | apply zQg)) | exact zQr _ (by repeat (first | assumption | apply zQe | apply zQg)) | exact zZU _ | exact zXu _ | exact zXh _ (by repeat (first | assumption | apply zQe | apply zQg)) | rfl | trivial
def zYM (q:LQ):Ann:=Ann.leaf
theorem zWX (q:LQ):vcg Tryz.prog zHE ⟨20,fun _=>false,List.range 2,false⟩ (zQA Tryz.f116) (zYM q) kn0 (zZc [AV.one (Cl.ptr 0 0)] [Bx.cells [Cl.clo 105 [Cap.ptr 1 0],Cl.d (DV.bool q.bad)],Bx.cells [Cl.d (DV.sl q.ws.length (strs q.ws))]]) (zZJ Tryz.prog ⟨20,fun _=>false,List.range 2,false⟩ Tryz.f116.results.toList ⟨AV.agg [Cl.d (DV.int .i64 (((zQS q).1).kind)),Cl.d (DV.int .i64 (((zQS q).1).image)),Cl.d (DV.int .i64 (((zQS q).1).x)),Cl.d (DV.int .i64 (((zQS q).1).y)),Cl.d (DV.int .i64 (((zQS q).1).mask)),Cl.d (DV.int .i64 (((zQS q).1).mx)),Cl.d (DV.int .i64 (((zQS q).1).my)),Cl.d (DV.int .u16 (((zQS q).1).opac)),Cl.d (DV.int .i64 (((zQS q).1).oper)),Cl.d (DV.int .i64 (((zQS q).1).mode)),Cl.d (DV.bool (((zQS q).1).iso)),Cl.d (DV.bool (((zQS q).1).kno))],[Bx.cells [Cl.clo 105 [Cap.ptr 1 0],Cl.d (DV.bool (((zQS q).2).bad))],Bx.cells [Cl.d (DV.sl (((zQS q).2).ws.length) (strs ((zQS q).2).ws))]],false⟩) =
 (let yy2:=(numQ (reQ ((numQ (reQ q) 0 255).2)) (-2147483648) 2147483647); let yy4:=(numQ (reQ (yy2.2)) (-2147483648) 2147483647); let yy0:=(numQ (reQ (yy4.2)) 0 65535); let yy1:=(namQ zQc (reQ ((namQ zQj (reQ (yy0.2))).2))); let yy3:=(numQ (reQ ((numQ (reQ (yy1.2)) 0 1).2)) 0 1); let zz0:=[Bx.cells [Cl.clo 105 [Cap.ptr 1 0],Cl.d (DV.bool (((numQ (reQ q) 0 255).2).bad))],Bx.cells [Cl.d (DV.sl (((numQ (reQ q) 0 255).2).ws.length) (strs ((numQ (reQ q) 0 255).2).ws))]]; let zz1:=[Bx.cells [Cl.clo 105 [Cap.ptr 1 0],Cl.d (DV.bool ((yy2.2).bad))],Bx.cells [Cl.d (DV.sl ((yy2.2).ws.length) (strs (yy2.2).ws))]]; let zz2:=[Bx.cells [Cl.clo 105 [Cap.ptr 1 0],Cl.d (DV.bool ((yy4.2).bad))],Bx.cells [Cl.d (DV.sl ((yy4.2).ws.length) (strs (yy4.2).ws))]]; let zz3:=[Bx.cells [Cl.clo 105 [Cap.ptr 1 0],Cl.d (DV.bool ((yy0.2).bad))],Bx.cells [Cl.d (DV.sl ((yy0.2).ws.length) (strs (yy0.2).ws))]]; let zz4:=[Bx.cells [Cl.clo 105 [Cap.ptr 1 0],Cl.d (DV.bool (((namQ zQj (reQ (yy0.2))).2).bad))],Bx.cells [Cl.d (DV.sl (((namQ zQj (reQ (yy0.2))).2).ws.length) (strs ((namQ zQj (reQ (yy0.2))).2).ws))]]; let zz5:=[Bx.cells [Cl.clo 105 [Cap.ptr 1 0],Cl.d (DV.bool ((yy1.2).bad))],Bx.cells [Cl.d (DV.sl ((yy1.2).ws.length) (strs (yy1.2).ws))]]; let zz6:=[Bx.cells [Cl.clo 105 [Cap.ptr 1 0],Cl.d (DV.bool (((numQ (reQ (yy1.2)) 0 1).2).bad))],Bx.cells [Cl.d (DV.sl (((numQ (reQ (yy1.2)) 0 1).2).ws.length) (strs ((numQ (reQ (yy1.2)) 0 1).2).ws))]]; True∧True∧(AnsG Tryz.prog 109 2 [AV.one (Cl.ptr 0 0)] [Bx.cells [Cl.clo 105 [Cap.ptr 1 0],Cl.d (DV.bool q.bad)],Bx.cells [Cl.d (DV.sl q.ws.length (strs q.ws))]] ⟨AV.one (Cl.d (DV.int .i64 ((numQ (reQ q) 0 255).1))),zz0,false⟩)∧True∧(AnsG Tryz.prog 110 2 [AV.one (Cl.ptr 0 0)] zz0 ⟨AV.one (Cl.d (DV.int .i64 (yy2.1))),zz1,false⟩)∧True∧(AnsG Tryz.prog 110 2 [AV.one (Cl.ptr 0 0)] zz1 ⟨AV.one (Cl.d (DV.int .i64 (yy4.1))),zz2,false⟩)∧True∧(AnsG Tryz.prog 135 2 [AV.one (Cl.ptr 0 0)] zz2 ⟨AV.one (Cl.d (DV.int .u16 (yy0.1))),zz3,false⟩)∧True∧(AnsG Tryz.prog 140 2 [AV.one (Cl.ptr 0 0)] zz3 ⟨AV.one (Cl.d (DV.int .i64 ((namQ zQj (reQ (yy0.2))).1))),zz4,false⟩)∧True∧(AnsG Tryz.prog 141 2 [AV.one (Cl.ptr 0 0)] zz4 ⟨AV.one (Cl.d (DV.int .i64 (yy1.1))),zz5,false⟩)∧True∧(AnsG Tryz.prog 142 2 [AV.one (Cl.ptr 0 0)] zz5 ⟨AV.one (Cl.d (DV.bool (decide ((numQ (reQ (yy1.2)) 0 1).1=1)))),zz6,false⟩)∧True∧(AnsG Tryz.prog 142 2 [AV.one (Cl.ptr 0 0)] zz6 ⟨AV.one (Cl.d (DV.bool (decide (yy3.1=1)))),[Bx.cells [Cl.clo 105 [Cap.ptr 1 0],Cl.d (DV.bool ((yy3.2).bad))],Bx.cells [Cl.d (DV.sl ((yy3.2).ws.length) (strs (yy3.2).ws))]],false⟩)∧True∧True∧((([DV.int .i64 2,DV.int .i64 0,DV.int .i64 0,DV.int .i64 0,DV.int .i64 ((numQ (reQ q) 0 255).1),DV.int .i64 (yy2.1),DV.int .i64 (yy4.1),DV.int .u16 (yy0.1),DV.int .i64 ((namQ zQj (reQ (yy0.2))).1),DV.int .i64 (yy1.1),DV.bool (decide ((numQ (reQ (yy1.2)) 0 1).1=1)),DV.bool (decide (yy3.1=1))]=(Oq.cells ((zQS q).1)))∧True)∧((((0=0)∧True)∧(DV.bool ((yy3.2).bad)=DV.bool (((zQS q).2).bad))∧True)∧([DV.sl ((yy3.2).ws.length) (strs (yy3.2).ws)]=[DV.sl (((zQS q).2).ws.length) (strs ((zQS q).2).ws)])∧True))∧zQv ⟨AV.agg [Cl.d (DV.int .i64 (((zQS q).1).kind)),Cl.d (DV.int .i64 (((zQS q).1).image)),Cl.d (DV.int .i64 (((zQS q).1).x)),Cl.d (DV.int .i64 (((zQS q).1).y)),Cl.d (DV.int .i64 (((zQS q).1).mask)),Cl.d (DV.int .i64 (((zQS q).1).mx)),Cl.d (DV.int .i64 (((zQS q).1).my)),Cl.d (DV.int .u16 (((zQS q).1).opac)),Cl.d (DV.int .i64 (((zQS q).1).oper)),Cl.d (DV.int .i64 (((zQS q).1).mode)),Cl.d (DV.bool (((zQS q).1).iso)),Cl.d (DV.bool (((zQS q).1).kno))],[Bx.cells [Cl.clo 105 [Cap.ptr 1 0],Cl.d (DV.bool (((zQS q).2).bad))],Bx.cells [Cl.d (DV.sl (((zQS q).2).ws.length) (strs ((zQS q).2).ws))]],false⟩):=by kernel_rfl
theorem zQx (q:LQ) (hq:okQ q):AnsG Tryz.prog 116 2 [AV.one (Cl.ptr 0 0)] [Bx.cells [Cl.clo 105 [Cap.ptr 1 0],Cl.d (DV.bool q.bad)],Bx.cells [Cl.d (DV.sl q.ws.length (strs q.ws))]] ⟨AV.agg [Cl.d (DV.int .i64 (((zQS q).1).kind)),Cl.d (DV.int .i64 (((zQS q).1).image)),Cl.d (DV.int .i64 (((zQS q).1).x)),Cl.d (DV.int .i64 (((zQS q).1).y)),Cl.d (DV.int .i64 (((zQS q).1).mask)),Cl.d (DV.int .i64 (((zQS q).1).mx)),Cl.d (DV.int .i64 (((zQS q).1).my)),Cl.d (DV.int .u16 (((zQS q).1).opac)),Cl.d (DV.int .i64 (((zQS q).1).oper)),Cl.d (DV.int .i64 (((zQS q).1).mode)),Cl.d (DV.bool (((zQS q).1).iso)),Cl.d (DV.bool (((zQS q).1).kno))],[Bx.cells [Cl.clo 105 [Cap.ptr 1 0],Cl.d (DV.bool (((zQS q).2).bad))],Bx.cells [Cl.d (DV.sl (((zQS q).2).ws.length) (strs ((zQS q).2).ws))]],false⟩:=
 zQz (Γ:=zHE) (zYM q) zQC Tryz.func116 rfl (Nat.le_of_ble_eq_true rfl) rfl fun hwf hbx=>by
  refine Eq.mpr (zWX q) ?_
  simp only [zZQ,true_and,and_true,RV.d.injEq,RV.agg.injEq,RV.tup.injEq,DV.bool.injEq,DV.int.injEq,DV.sl.injEq,List.cons.injEq,forall_const,Bool.not_false,Bool.not_true,Bool.not_eq_true',Bool.not_eq_false',decide_eq_true_eq,decide_eq_false_iff_not,Int.toNat_natCast]
  (repeat' apply And.intro) <;> first | exact zZ7 _ (by repeat (first | assumption | apply zQe | apply zQg)) | exact zQn _ (by repeat (first | assumption | apply zQe | apply zQg)) | exact zQr _ (by repeat (first | assumption | apply zQe | apply zQg)) | exact zZU _ | exact zXu _ | exact zXh _ (by repeat (first | assumption | apply zQe | apply zQg)) | rfl | trivial
def zWc (w:Lb):Ann:=Ann.leaf
theorem jZq (w:Lb):vcg Tryz.prog zHE ⟨9,fun _=>false,List.range 0,false⟩ (zQA Tryz.f72) (zWc w) kn0 (zZc [AV.one (Cl.d (DV.str (toS w)))] []) (zZJ Tryz.prog ⟨9,fun _=>false,List.range 0,false⟩ Tryz.f72.results.toList ⟨aPz,[bC [Cl.clo 105 [Cap.ptr 1 0],Cl.d (dQ (((⟨zQp (ofS (toS w)),false⟩:LQ)).bad))],bC [Cl.d (dS (((⟨zQp (ofS (toS w)),false⟩:LQ)).ws.length) (strs ((⟨zQp (ofS (toS w)),false⟩:LQ)).ws))]],false⟩) =
 (tU2 ((Ans Tryz.prog 104 [RV.d (DV.str (toS w)),RV.d (DV.str (⟨#[32]⟩:ByteArray))] (RV.d (dS ((zQp (ofS ((toS w)))).length) (strs (zQp (ofS ((toS w))))))))∧tU6 ((((0=0)∧True)∧((((0=0)∧True)∧(dQ false=dQ (((⟨zQp (ofS (toS w)),false⟩:LQ)).bad))∧True)∧([dS ((zQp (ofS ((toS w)))).length) (strs (zQp (ofS ((toS w)))))]=[dS (((⟨zQp (ofS (toS w)),false⟩:LQ)).ws.length) (strs ((⟨zQp (ofS (toS w)),false⟩:LQ)).ws)])∧True))∧zQv ⟨aPz,[bC [Cl.clo 105 [Cap.ptr 1 0],Cl.d (dQ (((⟨zQp (ofS (toS w)),false⟩:LQ)).bad))],bC [Cl.d (dS (((⟨zQp (ofS (toS w)),false⟩:LQ)).ws.length) (strs ((⟨zQp (ofS (toS w)),false⟩:LQ)).ws))]],false⟩))):=by kernel_rfl
theorem jQs (w:Lb) (hw:w.length < 4294967281):AnsG Tryz.prog 72 0 [AV.one (Cl.d (DV.str (toS w)))] [] ⟨AV.one (Cl.ptr 0 0),[Bx.cells [Cl.clo 105 [Cap.ptr 1 0],Cl.d (DV.bool (((⟨zQp (ofS (toS w)),false⟩:LQ)).bad))],Bx.cells [Cl.d (DV.sl (((⟨zQp (ofS (toS w)),false⟩:LQ)).ws.length) (strs ((⟨zQp (ofS (toS w)),false⟩:LQ)).ws))]],false⟩:=
 zQz (Γ:=zHE) (zWc w) zQC Tryz.func72 rfl (Nat.le_of_ble_eq_true rfl) rfl fun hwf hbx=>by
  refine Eq.mpr (jZq w) ?_
  delta tU2 tU6 dQ dS aPz bC
  simp only [true_and,and_true,RV.d.injEq,RV.agg.injEq,RV.tup.injEq,DV.bool.injEq,DV.int.injEq,DV.sl.injEq,List.cons.injEq,forall_const,Bool.not_false,Bool.not_true,Bool.not_eq_true',Bool.not_eq_false',decide_eq_true_eq,decide_eq_false_iff_not,Int.toNat_natCast]
  simp only [zZh]
  exact ⟨jXr w hw,trivial⟩
end Go.Proofs.YtheidkkebdhmkaaGreatDoor
namespace Go.Proofs.YtheidkkebdhmkaaGreatDoor
open Go.RowKit
set_option linter.unusedVariables false
set_option linter.unusedSimpArgs false
theorem zJI {off:Nat} {ins:List Bx} {ρ:Nat→Nat} (b:Nat):zQO (List.replicate off .fresh++ins.map (Bx.ren ρ)) (b+off)=(zQO ins b).ren ρ:=by
 unfold zQO
 simp only [List.getD_eq_getElem?_getD]
 rw [List.getElem?_append_right (by simp),List.length_replicate,Nat.add_sub_cancel,List.getElem?_map]
 cases ins[b]? <;> rfl
theorem jXo {off:Nat} {l:List Bx} {b:Nat} (h:b < off):zQO (List.replicate off .fresh++l) b=.fresh:=by
 unfold zQO
 simp only [List.getD_eq_getElem?_getD]
 rw [List.getElem?_append_left (by simpa using h)]
 simp [h]
theorem AnsG.shift {P:Program} {f:FuncId} {args:List AV} {ins:List Bx} {r:Ret} (off:Nat) (h:AnsG P f 0 (AV.renL (·+off) args) (List.replicate off .fresh++ins.map (Bx.ren (·+off))) r):AnsG P f 0 args ins r:=by
 intro w S ι vs hg hh
 have hlo:∀ b,(zQO (List.replicate off .fresh++ins.map (Bx.ren (·+off))) b).live=true→∃ b',b=b'+off∧(zQO ins b').live=true:=fun b hl=>by
  by_cases e:b < off
  ·rw [jXo e] at hl; cases hl
  ·refine ⟨b - off,by omega,?_⟩
   have:=zJI (off:=off) (ins:=ins) (ρ:=(·+off)) (b - off)
   rw [show b - off+off=b from by omega] at this
   rw [this,Bx.ren_live] at hl
   exact hl
 have hι:∀ b,(fun b=>if b < off then none else ι (b - off)) (b+off)=ι b:=fun b=>by
  simp only
  rw [if_neg (by omega),Nat.add_sub_cancel]
 have hturn:∀ b,zHh ι (zQO ins) (fun b=>if b < off then none else ι (b - off)) (zQO (List.replicate off .fresh++ins.map (Bx.ren (·+off)))) (·+off) b:=fun b hk=>⟨hι b,by
  rw [zJI,Bx.ren_known]; exact hk⟩
 have hown:OwnB (zQO (List.replicate off .fresh++ins.map (Bx.ren (·+off)))) (fun b=>if b < off then none else ι (b - off))=OwnB (zQO ins) ι:=by
  funext g
  refine propext ⟨fun ⟨b,c,hl,e⟩=>?_,fun ⟨b,c,hl,e⟩=>?_⟩
  ·obtain ⟨b',rfl,hl'⟩:=hlo b hl
   exact ⟨b',c,hl',by rw [← hι b']; exact e⟩
  ·exact ⟨b+off,c,by rw [zJI,Bx.ren_live]; exact hl,by rw [hι]; exact e⟩
 have hh2:zKT w S (fun b=>if b < off then none else ι (b - off)) (AV.renL (·+off) args) (List.replicate off .fresh++ins.map (Bx.ren (·+off))) vs.toList:=by
  refine ⟨fun b g c hl e=>?_,fun b b2 g c c' hl hl2 hne e=>?_,fun b=>?_,hh.args.turn fun b _=>hturn b⟩
  ·obtain ⟨b',rfl,hl'⟩:=hlo b hl
   exact hh.own b' g c hl' (by rw [← hι b']; exact e)
  ·obtain ⟨b',rfl,hl'⟩:=hlo b hl
   obtain ⟨b2',rfl,hl2'⟩:=hlo b2 hl2
   have:=hh.dist b' b2' g c c' hl' hl2' (by omega) (by rw [← hι b']; exact e)
   rw [← hι b2'] at this
   exact this
  ·by_cases e:b < off
   ·rw [jXo e]; trivial
   ·obtain ⟨b',rfl⟩:∃ b',b=b'+off:=⟨b - off,by omega⟩
    rw [zJI]
    exact (hh.bx b').turn (hι b') fun x _=>hturn x
 have hc:=h w S _ vs hg hh2
 refine hc.mono fun ed w' hp=>?_
 obtain ⟨v,ι',rfl,ha⟩:=hp
 have hb:zJ0 w S (fun b=>if b < off then none else ι (b - off)) (List.replicate off .fresh++ins.map (Bx.ren (·+off))) r ι'=zJ0 w S ι ins r ι':=by
  unfold zJ0
  rw [hown]
 refine ⟨v,ι',rfl,?_,?_,?_,ha.dist,fun b hb=>absurd hb (by omega),?_⟩
 ·rw [← hb]; exact ha.rep
 ·rw [← hb]; exact ha.bx
 ·rw [← hown]; exact ha.own
 ·rw [← hown]; exact ha.bel
def shp (pin off b:Nat):Nat:=if b < pin then b else b+off
def zGg (pin off:Nat) (ins:List Bx):List Bx:=(ins.take pin).map (Bx.ren (shp pin off))++(List.replicate off .fresh++(ins.drop pin).map (Bx.ren (shp pin off)))
theorem zU1 {pin off:Nat} {ins:List Bx} (hp:pin≤ins.length) (b:Nat):zQO (zGg pin off ins) (shp pin off b)=(zQO ins b).ren (shp pin off):=by
 unfold zQO zGg shp
 simp only [List.getD_eq_getElem?_getD]
 by_cases h:b < pin
 ·rw [if_pos h,List.getElem?_append_left (by simp; omega),List.getElem?_map,List.getElem?_take,if_pos h]
  cases ins[b]? <;> rfl
 ·rw [if_neg h,List.getElem?_append_right (by simp; omega),List.getElem?_append_right (by simp; omega),List.length_replicate,List.length_map,List.length_take,List.getElem?_map,List.getElem?_drop,show pin+(b+off - min pin ins.length - off)=b by omega]
  cases ins[b]? <;> rfl
theorem jZz {pin off:Nat} {ins:List Bx} (hp:pin≤ins.length) (b:Nat):(∃ b',b=shp pin off b')∨zQO (zGg pin off ins) b=.fresh:=by
 by_cases h:b < pin
 ·exact .inl ⟨b,by unfold shp; rw [if_pos h]⟩
 ·by_cases h2:b < pin+off
  ·refine .inr ?_
   unfold zQO zGg
   simp only [List.getD_eq_getElem?_getD]
   rw [List.getElem?_append_right (by simp; omega),List.getElem?_append_left (by simp; omega),List.getElem?_replicate]
   split <;> rfl
  ·exact .inl ⟨b - off,by unfold shp; rw [if_neg (by omega)]; omega⟩
theorem AnsG.shiftP {P:Program} {f:FuncId} {args:List AV} {ins:List Bx} {r:Ret} {pin:Nat} (off:Nat) (hp:pin≤ins.length) (h:AnsG P f pin (AV.renL (shp pin off) args) (zGg pin off ins) r):AnsG P f pin args ins r:=by
 intro w S ι vs hg hh
 have hinj:∀ {a b},shp pin off a=shp pin off b→a=b:=fun {a b} e=>by
  unfold shp at e
  split at e <;> split at e <;> omega
 have hlo:∀ b,(zQO (zGg pin off ins) b).live=true→∃ b',b=shp pin off b'∧(zQO ins b').live=true:=fun b hl=>by
  rcases jZz (off:=off) hp b with ⟨b',rfl⟩ | e
  ·refine ⟨b',rfl,?_⟩
   rw [zU1 hp,Bx.ren_live] at hl
   exact hl
  ·rw [e] at hl; cases hl
 obtain ⟨ι2,hι,hpin⟩:∃ ι2:zQF,(∀ b,ι2 (shp pin off b)=ι b)∧∀ b,b < pin→ι2 b=ι b:=by
  refine ⟨fun b=>if b < pin then ι b else ι (b - off),fun b=>?_,fun b hb=>by simp only; rw [if_pos hb]⟩
  unfold shp
  by_cases h:b < pin
  ·simp only [if_pos h]
  ·simp only [if_neg h]; rw [if_neg (by omega),Nat.add_sub_cancel]
 have hturn:∀ b,zHh ι (zQO ins) ι2 (zQO (zGg pin off ins)) (shp pin off) b:=fun b hk=>⟨hι b,by
  rw [zU1 hp,Bx.ren_known]; exact hk⟩
 have hown:OwnB (zQO (zGg pin off ins)) ι2=OwnB (zQO ins) ι:=by
  funext g
  refine propext ⟨fun ⟨b,c,hl,e⟩=>?_,fun ⟨b,c,hl,e⟩=>?_⟩
  ·obtain ⟨b',rfl,hl'⟩:=hlo b hl
   exact ⟨b',c,hl',by rw [← hι b']; exact e⟩
  ·exact ⟨shp pin off b,c,by rw [zU1 hp,Bx.ren_live]; exact hl,by rw [hι]; exact e⟩
 have hh2:zKT w S ι2 (AV.renL (shp pin off) args) (zGg pin off ins) vs.toList:=by
  refine ⟨fun b g c hl e=>?_,fun b b2 g c c' hl hl2 hne e=>?_,fun b=>?_,hh.args.turn fun b _=>hturn b⟩
  ·obtain ⟨b',rfl,hl'⟩:=hlo b hl
   exact hh.own b' g c hl' (by rw [← hι b']; exact e)
  ·obtain ⟨b',rfl,hl'⟩:=hlo b hl
   obtain ⟨b2',rfl,hl2'⟩:=hlo b2 hl2
   have:=hh.dist b' b2' g c c' hl' hl2' (fun e=>hne (by rw [e])) (by rw [← hι b']; exact e)
   rw [← hι b2'] at this
   exact this
  ·rcases jZz (off:=off) hp b with ⟨b',rfl⟩ | e
   ·rw [zU1 hp]
    exact (hh.bx b').turn (hι b') fun x _=>hturn x
   ·rw [e]; trivial
 have hc:=h w S _ vs hg hh2
 refine hc.mono fun ed w' hp=>?_
 obtain ⟨v,ι',rfl,ha⟩:=hp
 have hb:zJ0 w S ι2 (zGg pin off ins) r ι'=zJ0 w S ι ins r ι':=by
  unfold zJ0
  rw [hown]
 refine ⟨v,ι',rfl,?_,?_,?_,ha.dist,fun b hb=>(ha.pin b hb).trans (hpin b hb),?_⟩
 ·rw [← hb]; exact ha.rep
 ·rw [← hb]; exact ha.bx
 ·rw [← hown]; exact ha.own
 ·rw [← hown]; exact ha.bel
end Go.Proofs.YtheidkkebdhmkaaGreatDoor
namespace Go.Proofs.YtheidkkebdhmkaaGreatDoor
open Go.RowKit
set_option linter.unusedVariables false
set_option linter.unusedSimpArgs false
attribute [local irreducible] Ans AnsO AnsG AnsN AnsI
set_option maxHeartbeats 4000000
set_option maxRecDepth 4000
open Go.Lib
structure PP where
  s:Scr
  part:Int
  w:Int
  h:Int
  px:List Px
def cmpQ (q:LQ):Bool:=q.ws.isEmpty && !q.bad
def zQJ (p:PP) (q:LQ):PP × Bool:=
 if cmpQ (pixQ q).2=true then
  (if ((p.px.length:Int)+1)=p.w*p.h then (⟨{ p.s with ims:=p.s.ims++[imOf p.w p.h (p.px++[(pixQ q).1])] },p.part,0,0,[]⟩,true) else ({ p with px:=p.px++[(pixQ q).1] },true))
 else ({ p with px:=p.px++[(pixQ q).1] },false)
def zZO (p:PP) (q:LQ) (w:Lb):PP × Bool:=
 if p.part=0 then ({ p with part:=p.part+1,s:={ p.s with bits:=(byQ q).1 } },decide (w=zYG) && cmpQ (byQ q).2)
 else if p.part=1 then
  (let a:=plQ q; let b:=plQ a.2; let c:=plQ b.2; let d:=plQ c.2
   ({ p with part:=p.part+1,s:={ p.s with c:=⟨a.1,b.1,c.1,d.1⟩ } },decide (w=zZL) && cmpQ d.2))
 else
  (let a:=numQ q 0 4294967295; let b:=numQ a.2 0 4294967295
   ({ p with part:=p.part+1,s:={ p.s with tw:=a.1,th:=b.1 } },decide (w=zXo) && cmpQ b.2))
def zZj (p:PP) (q:LQ) (w:Lb):PP × Bool:=
 if 64≤p.s.ims.length then (p,false)
 else if w=zQ5 then ({ p with w:=(sizQ q).1.1,h:=(sizQ q).1.2 },cmpQ (sizQ q).2)
 else ({ p with s:={ p.s with ims:=p.s.ims++[zQd (sizQ q).1.1 (sizQ q).1.2 (pixQ (sizQ q).2).1] } },cmpQ (pixQ (sizQ q).2).2)
def pOp (p:PP) (q:LQ) (w:Lb):PP × Bool:=
 if 4096≤p.s.ops.length then (p,false)
 else if w=zZ9 then ({ p with s:={ p.s with ops:=p.s.ops++[(zQT q).1] } },cmpQ (zQT q).2)
 else if w=zXi then ({ p with s:={ p.s with ops:=p.s.ops++[(zQS q).1] } },cmpQ (zQS q).2)
 else if w=sPop then ({ p with s:={ p.s with ops:=p.s.ops++[⟨3,0,0,0,0,0,0,0,0,0,false,false⟩] } },cmpQ q)
 else (p,false)
def zWr:List Lb→List Int
 | []=>[]
 | w::ws=>if okN 0 4294967295 w=true then numV w::zWr ws else []
theorem zQY (l:List Oq):ops l++[DV.int .i64 3,DV.int .i64 0,DV.int .i64 0,DV.int .i64 0,DV.int .i64 0,DV.int .i64 0,DV.int .i64 0,DV.int .u16 0,DV.int .i64 0,DV.int .i64 0,DV.bool false,DV.bool false]=ops (l++[⟨3,0,0,0,0,0,0,0,0,0,false,false⟩]):=by
 unfold ops
 rw [List.flatMap_append]
 rfl
theorem jYN {l:List Lb} (h:l.all (okN 0 4294967295)=true):zWr l=l.map numV:=by
 induction l with
 | nil=>rfl
 | cons w l ih=>
  simp only [List.all_cons,Bool.and_eq_true] at h
  unfold zWr
  rw [if_pos h.1,ih h.2]; rfl
theorem jKD {l m:List Lb} {x:Lb} (h:l.all (okN 0 4294967295)=true) (hx:okN 0 4294967295 x=false):zWr (l++x::m)=l.map numV:=by
 induction l with
 | nil=>show zWr (x::m)=[]; unfold zWr; rw [if_neg (by rw [hx]; decide)]
 | cons w l ih=>
  simp only [List.all_cons,Bool.and_eq_true] at h
  rw [List.cons_append,zWr,if_pos h.1,ih h.2]; rfl
def zZr (p:PP) (t:Lb):PP × Bool:=
 ({ p with s:={ p.s with ord:=p.s.ord++zWr ((zQp t).drop 1) } },((zQp t).drop 1).all (okN 0 4294967295) && decide (1 < (zQp t).length))
def zZY (p:PP) (t:Lb):PP × Bool:=
 if 0 < p.h then zQJ p ⟨zQp t,false⟩
 else
  (let q:=zQ1 ⟨zQp t,false⟩; let w:=zQ6 (zQp t)
   if p.part≤2 then zZO p q w
   else if w=zZD∧p.part=3 then zZr { p with part:=4 } t
   else if (w=zQ9∨w=zQ5)∧p.part≤4 then zZj { p with part:=4 } q w
   else pOp { p with part:=5 } q w)
theorem zQi {q:LQ} (h:okQ q):okQ (pixQ q).2:=zQe (zQe (zQe (zQe (zQe h))))
theorem zQh {q:LQ} (h:okQ q):okQ (sizQ q).2:=by
 have:=zQe (zQe h (lo:=1) (hi:=16777216)) (lo:=1) (hi:=16777216)
 unfold sizQ
 simp only
 split
 ·exact this
 ·exact this
theorem image_Of_dat' (w h:Int) (l:List Px):Ans Tryz.prog 108 [RV.d (DV.int .i64 w),RV.d (DV.int .i64 h),RV.d (DV.sl l.length (pxs l))] (RV.tup [imR (imOf w h l),RV.d (DV.bool (ofOk w h l.length))]):=by
 have:=jYc w h l.length (pxs l) (zWx l)
 rw [zZg] at this
 exact this.ans rfl rfl
theorem image_Solid_dat' (w h:Int) (p:Px):Ans Tryz.prog 114 [RV.d (DV.int .i64 w),RV.d (DV.int .i64 h),RV.agg [DV.int .u16 p.a,DV.int .u16 p.b,DV.int .u16 p.c,DV.int .u16 p.al,DV.int .u16 p.f]] (imR (zQd w h p)):=zKD w h p.a p.b p.c p.al p.f
def ppC (p:PP) (n:Int) (i:Nat):List Cl:=[Cl.d (DV.int .i64 p.s.bits),Cl.d (DV.int .i64 p.s.c.a),Cl.d (DV.int .i64 p.s.c.b),Cl.d (DV.int .i64 p.s.c.c),Cl.d (DV.int .i64 p.s.c.d),Cl.d (DV.int .i64 p.s.tw),Cl.d (DV.int .i64 p.s.th),Cl.ref i p.s.ord.length,Cl.ref (i+1) p.s.ims.length,Cl.ref (i+2) p.s.ops.length,Cl.d (DV.int .i64 n),Cl.d (DV.int .i64 p.w),Cl.d (DV.int .i64 p.h),Cl.ref (i+3) p.px.length]
def ppE (A B:PP):Prop:=((DV.int .i64 A.s.bits=DV.int .i64 B.s.bits)∧(DV.int .i64 A.s.c.a=DV.int .i64 B.s.c.a)∧(DV.int .i64 A.s.c.b=DV.int .i64 B.s.c.b)∧(DV.int .i64 A.s.c.c=DV.int .i64 B.s.c.c)∧(DV.int .i64 A.s.c.d=DV.int .i64 B.s.c.d)∧(DV.int .i64 A.s.tw=DV.int .i64 B.s.tw)∧(DV.int .i64 A.s.th=DV.int .i64 B.s.th)∧(A.s.ord.length=B.s.ord.length)∧(A.s.ims.length=B.s.ims.length)∧(A.s.ops.length=B.s.ops.length)∧(DV.int .i64 A.part=DV.int .i64 B.part)∧(DV.int .i64 A.w=DV.int .i64 B.w)∧(DV.int .i64 A.h=DV.int .i64 B.h)∧(A.px.length=B.px.length)∧True)∧(is A.s.ord=is B.s.ord)∧(ims A.s.ims=ims B.s.ims)∧(ops A.s.ops=ops B.s.ops)∧(pxs A.px=pxs B.px)∧True
def zWC:Gam where
 pure:=fun f xs=>
  if f=112 then (match xs with | [.d (.str s)]=>some (RV.tup [rJ (((numP (ofS (s))).1)),RV.d (dQ ((numP (ofS (s))).2))]) | _=>none) else
  if f=104 then (match xs with | [.d (.str s),.d (.str sep)]=>some (RV.d (dS ((zQp (ofS (s))).length) (strs (zQp (ofS (s)))))) | _=>none) else
  if f=108 then (match xs with | [.d (.int _ w),.d (.int _ h),.d (.sl n xs)]=>let yy0:=((imOf w h (zQb xs)).p0); let yy1:=((imOf w h (zQb xs)).p1); let yy2:=((imOf w h (zQb xs)).p2); let yy3:=((imOf w h (zQb xs)).p3); let yy4:=((imOf w h (zQb xs)).p4); some (RV.tup [RV.agg [DV.int .i64 ((imOf w h (zQb xs)).w),DV.int .i64 ((imOf w h (zQb xs)).h),DV.bool ((imOf w h (zQb xs)).so),DV.int .u16 (((imOf w h (zQb xs)).c).a),DV.int .u16 (((imOf w h (zQb xs)).c).b),DV.int .u16 (((imOf w h (zQb xs)).c).c),DV.int .u16 (((imOf w h (zQb xs)).c).al),DV.int .u16 (((imOf w h (zQb xs)).c).f),DV.int .i64 (yy0.w),DV.int .i64 (yy0.h),DV.int .i64 (yy0.s),DV.sl (yy0.n) (yy0.xs),DV.int .i64 (yy1.w),DV.int .i64 (yy1.h),DV.int .i64 (yy1.s),DV.sl (yy1.n) (yy1.xs),DV.int .i64 (yy2.w),DV.int .i64 (yy2.h),DV.int .i64 (yy2.s),DV.sl (yy2.n) (yy2.xs),DV.int .i64 (yy3.w),DV.int .i64 (yy3.h),DV.int .i64 (yy3.s),DV.sl (yy3.n) (yy3.xs),DV.int .i64 (yy4.w),DV.int .i64 (yy4.h),DV.int .i64 (yy4.s),DV.sl (yy4.n) (yy4.xs)],RV.d (DV.bool (ofOk w h n))]) | _=>none) else
  if f=114 then (match xs with | [.d (.int _ w),.d (.int _ h),.agg [.int _ c0,.int _ c1,.int _ c2,.int _ ca,.int _ cf]]=>let yy0:=(zQd w h ⟨c0,c1,c2,ca,cf⟩); some (RV.agg [DV.int .i64 (yy0.w),DV.int .i64 (yy0.h),DV.bool (yy0.so),DV.int .u16 ((yy0.c).a),DV.int .u16 ((yy0.c).b),DV.int .u16 ((yy0.c).c),DV.int .u16 ((yy0.c).al),DV.int .u16 ((yy0.c).f),DV.int .i64 ((yy0.p0).w),DV.int .i64 ((yy0.p0).h),DV.int .i64 ((yy0.p0).s),DV.sl ((yy0.p0).n) ((yy0.p0).xs),DV.int .i64 ((yy0.p1).w),DV.int .i64 ((yy0.p1).h),DV.int .i64 ((yy0.p1).s),DV.sl ((yy0.p1).n) ((yy0.p1).xs),DV.int .i64 ((yy0.p2).w),DV.int .i64 ((yy0.p2).h),DV.int .i64 ((yy0.p2).s),DV.sl ((yy0.p2).n) ((yy0.p2).xs),DV.int .i64 ((yy0.p3).w),DV.int .i64 ((yy0.p3).h),DV.int .i64 ((yy0.p3).s),DV.sl ((yy0.p3).n) ((yy0.p3).xs),DV.int .i64 ((yy0.p4).w),DV.int .i64 ((yy0.p4).h),DV.int .i64 ((yy0.p4).s),DV.sl ((yy0.p4).n) ((yy0.p4).xs)]) | _=>none) else
  none
 modes:=fun f=>
  if f=72 then some ([true],0,2) else
  if f=74 then some ([false],2,0) else
  if f=109 then some ([false],2,0) else
  if f=110 then some ([false],2,0) else
  if f=111 then some ([false],2,0) else
  if f=106 then some ([false],2,0) else
  if f=113 then some ([false],2,0) else
  if f=115 then some ([false],2,0) else
  if f=116 then some ([false],2,0) else
  if f=107 then some ([false],2,0) else
  if f=37 then some ([false],5,0) else
  if f=73 then some ([false,false],1,4) else
  if f=75 then some ([false,false,true],1,4) else
  if f=77 then some ([false,false,true],1,4) else
  if f=78 then some ([false,false,true],1,4) else
  if f=76 then some ([false,true],1,4) else
  none
 proc:=fun f xs bs=>
  if f=72 then (match xs,bs with | [AV.one (Cl.d (DV.str t))],[]=>some ⟨aPz,[bC [Cl.clo 105 [Cap.ptr 1 0],Cl.d (dQ (((⟨zQp (ofS (t)),false⟩:LQ)).bad))],bC [Cl.d (dS (((⟨zQp (ofS (t)),false⟩:LQ)).ws.length) (strs ((⟨zQp (ofS (t)),false⟩:LQ)).ws))]],false⟩ | _,_=>none) else
  if f=74 then (match xs,bs with | [AV.one (Cl.ptr 0 0)],[Bx.cells [Cl.clo 105 [Cap.ptr 1 0],Cl.d (DV.bool bad)],Bx.cells [Cl.d (DV.sl wn wxs)]]=>some ⟨AV.one (Cl.d (DV.str (toS (zQ6 ((⟨zQB (wxs),bad⟩:LQ)).ws)))),[bC [Cl.clo 105 [Cap.ptr 1 0],Cl.d (dQ ((zQ1 (⟨zQB (wxs),bad⟩:LQ)).bad))],bC [Cl.d (dS ((zQ1 (⟨zQB (wxs),bad⟩:LQ)).ws.length) (strs (zQ1 (⟨zQB (wxs),bad⟩:LQ)).ws))]],false⟩ | _,_=>none) else
  if f=109 then (match xs,bs with | [AV.one (Cl.ptr 0 0)],[Bx.cells [Cl.clo 105 [Cap.ptr 1 0],Cl.d (DV.bool bad)],Bx.cells [Cl.d (DV.sl wn wxs)]]=>let yy0:=(numQ (⟨zQB (wxs),bad⟩:LQ) 0 255); some ⟨AV.one (Cl.d (DV.int .i64 (yy0.1))),[Bx.cells [Cl.clo 105 [Cap.ptr 1 0],Cl.d (DV.bool ((yy0.2).bad))],Bx.cells [Cl.d (DV.sl ((yy0.2).ws.length) (strs (yy0.2).ws))]],false⟩ | _,_=>none) else
  if f=110 then (match xs,bs with | [AV.one (Cl.ptr 0 0)],[Bx.cells [Cl.clo 105 [Cap.ptr 1 0],Cl.d (DV.bool bad)],Bx.cells [Cl.d (DV.sl wn wxs)]]=>let yy0:=(numQ (⟨zQB (wxs),bad⟩:LQ) (-2147483648) 2147483647); some ⟨AV.one (Cl.d (DV.int .i64 (yy0.1))),[Bx.cells [Cl.clo 105 [Cap.ptr 1 0],Cl.d (DV.bool ((yy0.2).bad))],Bx.cells [Cl.d (DV.sl ((yy0.2).ws.length) (strs (yy0.2).ws))]],false⟩ | _,_=>none) else
  if f=111 then (match xs,bs with | [AV.one (Cl.ptr 0 0)],[Bx.cells [Cl.clo 105 [Cap.ptr 1 0],Cl.d (DV.bool bad)],Bx.cells [Cl.d (DV.sl wn wxs)]]=>let yy0:=(numQ (⟨zQB (wxs),bad⟩:LQ) 0 4294967295); some ⟨AV.one (Cl.d (DV.int .i64 (yy0.1))),[Bx.cells [Cl.clo 105 [Cap.ptr 1 0],Cl.d (DV.bool ((yy0.2).bad))],Bx.cells [Cl.d (DV.sl ((yy0.2).ws.length) (strs (yy0.2).ws))]],false⟩ | _,_=>none) else
  if f=106 then (match xs,bs with | [AV.one (Cl.ptr 0 0)],[Bx.cells [Cl.clo 105 [Cap.ptr 1 0],Cl.d (DV.bool bad)],Bx.cells [Cl.d (DV.sl wn wxs)]]=>let yy0:=(pixQ (⟨zQB (wxs),bad⟩:LQ)); some ⟨AV.agg [Cl.d (DV.int .u16 (yy0.1.a)),Cl.d (DV.int .u16 (yy0.1.b)),Cl.d (DV.int .u16 (yy0.1.c)),Cl.d (DV.int .u16 (yy0.1.al)),Cl.d (DV.int .u16 (yy0.1.f))],[Bx.cells [Cl.clo 105 [Cap.ptr 1 0],Cl.d (DV.bool ((yy0.2).bad))],Bx.cells [Cl.d (DV.sl ((yy0.2).ws.length) (strs (yy0.2).ws))]],false⟩ | _,_=>none) else
  if f=113 then (match xs,bs with | [AV.one (Cl.ptr 0 0)],[Bx.cells [Cl.clo 105 [Cap.ptr 1 0],Cl.d (DV.bool bad)],Bx.cells [Cl.d (DV.sl wn wxs)]]=>let yy0:=(sizQ (⟨zQB (wxs),bad⟩:LQ)); some ⟨AV.tup [AV.one (Cl.d (DV.int .i64 (yy0.1.1))),AV.one (Cl.d (DV.int .i64 (yy0.1.2)))],[Bx.cells [Cl.clo 105 [Cap.ptr 1 0],Cl.d (DV.bool ((yy0.2).bad))],Bx.cells [Cl.d (DV.sl ((yy0.2).ws.length) (strs (yy0.2).ws))]],false⟩ | _,_=>none) else
  if f=115 then (match xs,bs with | [AV.one (Cl.ptr 0 0)],[Bx.cells [Cl.clo 105 [Cap.ptr 1 0],Cl.d (DV.bool bad)],Bx.cells [Cl.d (DV.sl wn wxs)]]=>let yy0:=(zQT (⟨zQB (wxs),bad⟩:LQ)); some ⟨AV.agg [Cl.d (DV.int .i64 ((yy0.1).kind)),Cl.d (DV.int .i64 ((yy0.1).image)),Cl.d (DV.int .i64 ((yy0.1).x)),Cl.d (DV.int .i64 ((yy0.1).y)),Cl.d (DV.int .i64 ((yy0.1).mask)),Cl.d (DV.int .i64 ((yy0.1).mx)),Cl.d (DV.int .i64 ((yy0.1).my)),Cl.d (DV.int .u16 ((yy0.1).opac)),Cl.d (DV.int .i64 ((yy0.1).oper)),Cl.d (DV.int .i64 ((yy0.1).mode)),Cl.d (DV.bool ((yy0.1).iso)),Cl.d (DV.bool ((yy0.1).kno))],[Bx.cells [Cl.clo 105 [Cap.ptr 1 0],Cl.d (DV.bool ((yy0.2).bad))],Bx.cells [Cl.d (DV.sl ((yy0.2).ws.length) (strs (yy0.2).ws))]],false⟩ | _,_=>none) else
  if f=116 then (match xs,bs with | [AV.one (Cl.ptr 0 0)],[Bx.cells [Cl.clo 105 [Cap.ptr 1 0],Cl.d (DV.bool bad)],Bx.cells [Cl.d (DV.sl wn wxs)]]=>let yy0:=(zQS (⟨zQB (wxs),bad⟩:LQ)); some ⟨AV.agg [Cl.d (DV.int .i64 ((yy0.1).kind)),Cl.d (DV.int .i64 ((yy0.1).image)),Cl.d (DV.int .i64 ((yy0.1).x)),Cl.d (DV.int .i64 ((yy0.1).y)),Cl.d (DV.int .i64 ((yy0.1).mask)),Cl.d (DV.int .i64 ((yy0.1).mx)),Cl.d (DV.int .i64 ((yy0.1).my)),Cl.d (DV.int .u16 ((yy0.1).opac)),Cl.d (DV.int .i64 ((yy0.1).oper)),Cl.d (DV.int .i64 ((yy0.1).mode)),Cl.d (DV.bool ((yy0.1).iso)),Cl.d (DV.bool ((yy0.1).kno))],[Bx.cells [Cl.clo 105 [Cap.ptr 1 0],Cl.d (DV.bool ((yy0.2).bad))],Bx.cells [Cl.d (DV.sl ((yy0.2).ws.length) (strs (yy0.2).ws))]],false⟩ | _,_=>none) else
  if f=107 then (match xs,bs with | [AV.one (Cl.ptr 0 0)],[Bx.cells [Cl.clo 105 [Cap.ptr 1 0],Cl.d (DV.bool bad)],Bx.cells [Cl.d (DV.sl wn wxs)]]=>let yy0:=(⟨zQB (wxs),bad⟩:LQ); some ⟨AV.one (Cl.d (DV.bool (((yy0).ws).isEmpty && !(yy0).bad))),[Bx.cells [Cl.clo 105 [Cap.ptr 1 0],Cl.d (DV.bool ((zQX yy0).bad))],Bx.cells [Cl.d (DV.sl ((zQX yy0).ws.length) (strs (zQX yy0).ws))]],false⟩ | _,_=>none) else
  if f=37 then (match xs,bs with | [AV.one (Cl.ptr 0 0)],[Bx.cells [Cl.d (DV.int _ bits),Cl.d (DV.int _ cx0),Cl.d (DV.int _ cy0),Cl.d (DV.int _ cx1),Cl.d (DV.int _ cy1),Cl.d (DV.int _ tw),Cl.d (DV.int _ th),Cl.ref 1 on,Cl.ref 2 mn,Cl.ref 3 qn,Cl.d (DV.int _ part),Cl.d (DV.int _ w),Cl.d (DV.int _ h),Cl.ref 4 ln],Bx.row _ _ oxs,Bx.row _ _ mxs,Bx.row _ _ qxs,Bx.row _ _ lxs]=>some ⟨AV.one (Cl.d (dQ (decide (h > (0:Int))))),[bC [cJ (bits),cJ (cx0),cJ (cy0),cJ (cx1),cJ (cy1),cJ (tw),cJ (th),Cl.ref 1 on,Cl.ref 2 mn,Cl.ref 3 qn,cJ (part),cJ (w),cJ (h),Cl.ref 4 ln],Bx.row 3 1 oxs,Bx.row 43 28 mxs,Bx.row 51 12 qxs,Bx.row 37 5 lxs],false⟩ | _,_=>none) else
  if f=73 then (match xs,bs with | [AV.one (Cl.ptr 0 0),AV.one (Cl.ptr 1 0)],[Bx.cells [Cl.d (DV.int _ bits),Cl.d (DV.int _ cx0),Cl.d (DV.int _ cy0),Cl.d (DV.int _ cx1),Cl.d (DV.int _ cy1),Cl.d (DV.int _ tw),Cl.d (DV.int _ th),Cl.ref 2 on,Cl.ref 3 mn,Cl.ref 4 qn,Cl.d (DV.int _ part),Cl.d (DV.int _ w),Cl.d (DV.int _ h),Cl.ref 5 ln],Bx.cells [Cl.clo 105 [Cap.ptr 6 0],Cl.d (DV.bool bad)],Bx.row _ _ oxs,Bx.row _ _ mxs,Bx.row _ _ qxs,Bx.row _ _ lxs,Bx.cells [Cl.d (DV.sl wn wxs)]]=>let yy0:=(zQJ (⟨⟨bits,⟨cx0,cy0,cx1,cy1⟩,tw,th,ints oxs,zZ6 mxs,zZb qxs⟩,part,w,h,zQb lxs⟩:PP) (⟨zQB (wxs),bad⟩:LQ)); some ⟨AV.one (Cl.d (DV.bool (yy0.2))),[Bx.cells (ppC (yy0.1) ((yy0.1).part) 1),Bx.row 3 1 (is (yy0.1).s.ord),Bx.row 43 28 (ims (yy0.1).s.ims),Bx.row 51 12 (ops (yy0.1).s.ops),Bx.row 37 5 (pxs (yy0.1).px)],false⟩ | _,_=>none) else
  if f=75 then (match xs,bs with | [AV.one (Cl.ptr 0 0),AV.one (Cl.ptr 1 0),AV.one (Cl.d (DV.str t))],[Bx.cells [Cl.d (DV.int _ bits),Cl.d (DV.int _ cx0),Cl.d (DV.int _ cy0),Cl.d (DV.int _ cx1),Cl.d (DV.int _ cy1),Cl.d (DV.int _ tw),Cl.d (DV.int _ th),Cl.ref 2 on,Cl.ref 3 mn,Cl.ref 4 qn,Cl.d (DV.int _ part),Cl.d (DV.int _ w),Cl.d (DV.int _ h),Cl.ref 5 ln],Bx.cells [Cl.clo 105 [Cap.ptr 6 0],Cl.d (DV.bool bad)],Bx.row _ _ oxs,Bx.row _ _ mxs,Bx.row _ _ qxs,Bx.row _ _ lxs,Bx.cells [Cl.d (DV.sl wn wxs)]]=>let yy0:=(zZO (⟨⟨bits,⟨cx0,cy0,cx1,cy1⟩,tw,th,ints oxs,zZ6 mxs,zZb qxs⟩,part,w,h,zQb lxs⟩:PP) (⟨zQB (wxs),bad⟩:LQ) (ofS (t))); some ⟨AV.one (Cl.d (DV.bool (yy0.2))),[Bx.cells (ppC (yy0.1) ((yy0.1).part) 1),Bx.row 3 1 (is (yy0.1).s.ord),Bx.row 43 28 (ims (yy0.1).s.ims),Bx.row 51 12 (ops (yy0.1).s.ops),Bx.row 37 5 (pxs (yy0.1).px)],false⟩ | _,_=>none) else
  if f=77 then (match xs,bs with | [AV.one (Cl.ptr 0 0),AV.one (Cl.ptr 1 0),AV.one (Cl.d (DV.str t))],[Bx.cells [Cl.d (DV.int _ bits),Cl.d (DV.int _ cx0),Cl.d (DV.int _ cy0),Cl.d (DV.int _ cx1),Cl.d (DV.int _ cy1),Cl.d (DV.int _ tw),Cl.d (DV.int _ th),Cl.ref 2 on,Cl.ref 3 mn,Cl.ref 4 qn,Cl.d (DV.int _ part),Cl.d (DV.int _ w),Cl.d (DV.int _ h),Cl.ref 5 ln],Bx.cells [Cl.clo 105 [Cap.ptr 6 0],Cl.d (DV.bool bad)],Bx.row _ _ oxs,Bx.row _ _ mxs,Bx.row _ _ qxs,Bx.row _ _ lxs,Bx.cells [Cl.d (DV.sl wn wxs)]]=>let yy0:=(zZj (⟨⟨bits,⟨cx0,cy0,cx1,cy1⟩,tw,th,ints oxs,zZ6 mxs,zZb qxs⟩,part,w,h,zQb lxs⟩:PP) (⟨zQB (wxs),bad⟩:LQ) (ofS (t))); some ⟨AV.one (Cl.d (DV.bool (yy0.2))),[Bx.cells (ppC (yy0.1) ((yy0.1).part) 1),Bx.row 3 1 (is (yy0.1).s.ord),Bx.row 43 28 (ims (yy0.1).s.ims),Bx.row 51 12 (ops (yy0.1).s.ops),Bx.row 37 5 (pxs (yy0.1).px)],false⟩ | _,_=>none) else
  if f=78 then (match xs,bs with | [AV.one (Cl.ptr 0 0),AV.one (Cl.ptr 1 0),AV.one (Cl.d (DV.str t))],[Bx.cells [Cl.d (DV.int _ bits),Cl.d (DV.int _ cx0),Cl.d (DV.int _ cy0),Cl.d (DV.int _ cx1),Cl.d (DV.int _ cy1),Cl.d (DV.int _ tw),Cl.d (DV.int _ th),Cl.ref 2 on,Cl.ref 3 mn,Cl.ref 4 qn,Cl.d (DV.int _ part),Cl.d (DV.int _ w),Cl.d (DV.int _ h),Cl.ref 5 ln],Bx.cells [Cl.clo 105 [Cap.ptr 6 0],Cl.d (DV.bool bad)],Bx.row _ _ oxs,Bx.row _ _ mxs,Bx.row _ _ qxs,Bx.row _ _ lxs,Bx.cells [Cl.d (DV.sl wn wxs)]]=>let yy0:=(pOp (⟨⟨bits,⟨cx0,cy0,cx1,cy1⟩,tw,th,ints oxs,zZ6 mxs,zZb qxs⟩,part,w,h,zQb lxs⟩:PP) (⟨zQB (wxs),bad⟩:LQ) (ofS (t))); some ⟨AV.one (Cl.d (DV.bool (yy0.2))),[Bx.cells (ppC (yy0.1) ((yy0.1).part) 1),Bx.row 3 1 (is (yy0.1).s.ord),Bx.row 43 28 (ims (yy0.1).s.ims),Bx.row 51 12 (ops (yy0.1).s.ops),Bx.row 37 5 (pxs (yy0.1).px)],false⟩ | _,_=>none) else
  if f=76 then (match xs,bs with | [AV.one (Cl.ptr 0 0),AV.one (Cl.d (DV.str t))],[Bx.cells [Cl.d (DV.int _ bits),Cl.d (DV.int _ cx0),Cl.d (DV.int _ cy0),Cl.d (DV.int _ cx1),Cl.d (DV.int _ cy1),Cl.d (DV.int _ tw),Cl.d (DV.int _ th),Cl.ref 1 on,Cl.ref 2 mn,Cl.ref 3 qn,Cl.d (DV.int _ part),Cl.d (DV.int _ w),Cl.d (DV.int _ h),Cl.ref 4 ln],Bx.row _ _ oxs,Bx.row _ _ mxs,Bx.row _ _ qxs,Bx.row _ _ lxs]=>let yy0:=(zZr (⟨⟨bits,⟨cx0,cy0,cx1,cy1⟩,tw,th,ints oxs,zZ6 mxs,zZb qxs⟩,part,w,h,zQb lxs⟩:PP) (ofS (t))); some ⟨AV.one (Cl.d (DV.bool (yy0.2))),[Bx.cells (ppC (yy0.1) ((yy0.1).part) 1),Bx.row 3 1 (is (yy0.1).s.ord),Bx.row 43 28 (ims (yy0.1).s.ims),Bx.row 51 12 (ops (yy0.1).s.ops),Bx.row 37 5 (pxs (yy0.1).px)],false⟩ | _,_=>none) else
  none
 iter:=fun f cs=>
  none
def zXZ (p:PP) (q:LQ):Ann:=Ann.leaf
theorem zVe (p:PP) (q:LQ):vcg Tryz.prog zWC ⟨73,fun _=>false,List.range 1,false⟩ (zQA Tryz.f73) (zXZ p q) kn0 (zZc (AV.renL (shp 1 900) [AV.one (Cl.ptr 0 0),AV.one (Cl.ptr 1 0)]) (zGg 1 900 [Bx.cells (ppC p p.part 2),Bx.cells [Cl.clo 105 [Cap.ptr 6 0],Cl.d (DV.bool q.bad)],Bx.row 3 1 (is p.s.ord),Bx.row 43 28 (ims p.s.ims),Bx.row 51 12 (ops p.s.ops),Bx.row 37 5 (pxs p.px),Bx.cells [Cl.d (DV.sl q.ws.length (strs q.ws))]])) (zZJ Tryz.prog ⟨73,fun _=>false,List.range 1,false⟩ Tryz.f73.results.toList ⟨AV.one (Cl.d (DV.bool ((zQJ p q).2))),[Bx.cells (ppC ((zQJ p q).1) (((zQJ p q).1).part) 1),Bx.row 3 1 (is ((zQJ p q).1).s.ord),Bx.row 43 28 (ims ((zQJ p q).1).s.ims),Bx.row 51 12 (ops ((zQJ p q).1).s.ops),Bx.row 37 5 (pxs ((zQJ p q).1).px)],false⟩) =
 (let yy2:=((reQ ((pixQ (reQ q)).2))); let yy0:=[Bx.cells (ppC ((zQJ p q).1) (((zQJ p q).1).part) 1),Bx.row 3 1 (is ((zQJ p q).1).s.ord),Bx.row 43 28 (ims ((zQJ p q).1).s.ims),Bx.row 51 12 (ops ((zQJ p q).1).s.ops),Bx.row 37 5 (pxs ((zQJ p q).1).px)]; let yy1:=([dK ((pixQ (reQ q)).1.a),dK ((pixQ (reQ q)).1.b),dK ((pixQ (reQ q)).1.c),dK ((pixQ (reQ q)).1.al),dK ((pixQ (reQ q)).1.f)]); let zz0:=[bC [Cl.clo 105 [Cap.ptr 1 0],Cl.d (dQ (((pixQ (reQ q)).2).bad))],bC [Cl.d (dS (((pixQ (reQ q)).2).ws.length) (strs ((pixQ (reQ q)).2).ws))]]; let zz1:=(dJ p.s.bits=dJ (((zQJ p q).1).s.bits)); let zz2:=(dJ p.s.c.a=dJ (((zQJ p q).1).s.c.a)); let zz3:=(dJ p.s.c.b=dJ (((zQJ p q).1).s.c.b)); let zz4:=(dJ p.s.c.c=dJ (((zQJ p q).1).s.c.c)); let zz5:=(dJ p.s.c.d=dJ (((zQJ p q).1).s.c.d)); let zz6:=(dJ p.s.tw=dJ (((zQJ p q).1).s.tw)); let zz7:=(dJ p.s.th=dJ (((zQJ p q).1).s.th)); let zz8:=(p.s.ord.length=((zQJ p q).1).s.ord.length); let zz9:=(p.s.ops.length=((zQJ p q).1).s.ops.length); let zz10:=(dJ p.part=dJ (((zQJ p q).1).part)); let zz11:=(is p.s.ord=is ((zQJ p q).1).s.ord); let zz12:=(ops p.s.ops=ops ((zQJ p q).1).s.ops); let zz13:=((zz1∧zz2∧zz3∧zz4∧zz5∧zz6∧zz7∧zz8∧(p.s.ims.length=((zQJ p q).1).s.ims.length)∧zz9∧zz10∧(dJ p.w=dJ (((zQJ p q).1).w))∧(dJ p.h=dJ (((zQJ p q).1).h))∧(p.px.length+1=((zQJ p q).1).px.length)∧True)∧zz11∧(ims p.s.ims=ims ((zQJ p q).1).s.ims)∧zz12∧((pxs p.px)++yy1=pxs ((zQJ p q).1).px)∧True); let zz14:=((pxs p.px)++yy1); let zz15:=((Im.ds (imOf p.w p.h (zQb zz14)))); let zz16:=((dQ true=dQ ((zQJ p q).2))∧True); tU7 ((AnsG Tryz.prog 106 2 [aPz] [bC [Cl.clo 105 [Cap.ptr 1 0],Cl.d (dQ q.bad)],bC [Cl.d (dS q.ws.length (strs q.ws))]] ⟨AV.agg [cK (((pixQ (reQ q)).1.a)),cK (((pixQ (reQ q)).1.b)),cK (((pixQ (reQ q)).1.c)),cK (((pixQ (reQ q)).1.al)),cK (((pixQ (reQ q)).1.f))],zz0,false⟩)∧True∧(zZf 5 10 p.px.length 1 (pxs p.px) yy1)∧tU3 ((true=true)∧True∧(AnsG Tryz.prog 107 2 [aPz] zz0 ⟨AV.one (Cl.d (dQ ((yy2.ws).isEmpty && !yy2.bad))),[bC [Cl.clo 105 [Cap.ptr 1 0],Cl.d (dQ ((zQX (reQ ((pixQ (reQ q)).2))).bad))],bC [Cl.d (dS ((zQX (reQ ((pixQ (reQ q)).2))).ws.length) (strs (zQX (reQ ((pixQ (reQ q)).2))).ws))]],false⟩)∧True∧(((!((yy2.ws).isEmpty && !yy2.bad))=true→True∧(((dQ false=dQ ((zQJ p q).2))∧True)∧zz13)∧zQv ⟨AV.one (Cl.d (dQ ((zQJ p q).2))),yy0,false⟩)∧((!((yy2.ws).isEmpty && !yy2.bad))=false→tU4 ((p.px.length+1≤maxLen)∧tU2 (tU8 ((true=true)∧(((((p.px.length+1:Nat):Int)==(wK (p.w*p.h)))=true→tU4 (tU8 ((Ans Tryz.prog 108 [rJ (p.w),rJ (p.h),RV.d (dS (p.px.length+1) zz14)] (RV.tup [(imR (imOf p.w p.h (zQb zz14))),RV.d (dQ (ofOk p.w p.h (p.px.length+1)))]))∧tU6 ((true=true)∧tU8 ((zZf 28 272 p.s.ims.length 1 (ims p.s.ims) zz15)∧tU4 ((true=true)∧tU5 (tU8 ((zz16∧((zz1∧zz2∧zz3∧zz4∧zz5∧zz6∧zz7∧zz8∧(p.s.ims.length+1=((zQJ p q).1).s.ims.length)∧zz9∧zz10∧(dJ 0=dJ (((zQJ p q).1).w))∧(dJ 0=dJ (((zQJ p q).1).h))∧(0=((zQJ p q).1).px.length)∧True)∧zz11∧((ims p.s.ims)++zz15=ims ((zQJ p q).1).s.ims)∧zz12∧([]=pxs ((zQJ p q).1).px)∧True))∧zQv ⟨AV.one (Cl.d (dQ ((zQJ p q).2))),yy0,false⟩))))))))∧((((p.px.length+1:Nat):Int)==(wK (p.w*p.h)))=false→True∧(zz16∧zz13)∧zQv ⟨AV.one (Cl.d (dQ ((zQJ p q).2))),yy0,false⟩)))))))))):=by kernel_rfl
theorem zJ7 (p:PP) (q:LQ) (hq:okQ q) (hx:p.px.length≤68719476736) (hi:p.s.ims.length≤68719476736) (hp:p.s.ops.length≤68719476736) (hn:p.s.ord.length≤68719476736) (hf:0≤p.w*p.h∧p.w*p.h≤16777216) (hd:0≤p.part∧p.part≤5):AnsG Tryz.prog 73 1 [AV.one (Cl.ptr 0 0),AV.one (Cl.ptr 1 0)] [Bx.cells (ppC p p.part 2),Bx.cells [Cl.clo 105 [Cap.ptr 6 0],Cl.d (DV.bool q.bad)],Bx.row 3 1 (is p.s.ord),Bx.row 43 28 (ims p.s.ims),Bx.row 51 12 (ops p.s.ops),Bx.row 37 5 (pxs p.px),Bx.cells [Cl.d (DV.sl q.ws.length (strs q.ws))]] ⟨AV.one (Cl.d (DV.bool ((zQJ p q).2))),[Bx.cells (ppC ((zQJ p q).1) (((zQJ p q).1).part) 1),Bx.row 3 1 (is ((zQJ p q).1).s.ord),Bx.row 43 28 (ims ((zQJ p q).1).s.ims),Bx.row 51 12 (ops ((zQJ p q).1).s.ops),Bx.row 37 5 (pxs ((zQJ p q).1).px)],false⟩:=
 AnsG.shiftP 900 (Nat.le_of_ble_eq_true rfl) <| zQz (Γ:=zWC) (zXZ p q) zQC Tryz.func73 rfl (Nat.le_of_ble_eq_true rfl) rfl fun hwf hbx=>by
  refine Eq.mpr (zVe p q) ?_
  delta tU2 tU3 tU4 tU5 tU6 tU7 tU8 dJ dK dQ cK wK dS rJ aPz bC
  simp only [true_and,and_true,RV.d.injEq,RV.agg.injEq,RV.tup.injEq,DV.bool.injEq,DV.int.injEq,DV.sl.injEq,List.cons.injEq,forall_const,Bool.not_false,Bool.not_true,Bool.not_eq_true',Bool.not_eq_false',decide_eq_true_eq,decide_eq_false_iff_not,Int.toNat_natCast,ppC,ppE]
  simp only [zZQ,zQZ,zZP,zZu,zZg,zQL,zZh]
  clear hwf hbx
  have aI:=image_Of_dat' p.w p.h (p.px++[(pixQ q).1])
  have pl:(p.px++[(pixQ q).1]).length=p.px.length+1:=by simp
  have pe:pxs p.px++[DV.int .u16 (pixQ q).1.a,DV.int .u16 (pixQ q).1.b,DV.int .u16 (pixQ q).1.c,DV.int .u16 (pixQ q).1.al,DV.int .u16 (pixQ q).1.f]=pxs (p.px++[(pixQ q).1]):=by simp [pxs,Px.ds]
  have w1:IntKind.wrap .i64 (p.w*p.h)=p.w*p.h:=IntWalk.i64_in _ ⟨by omega,by omega⟩
  simp only [pe,zZg,w1]
  rw [pl] at aI
  refine ⟨(by (first | exact zQr _ (by repeat (first | assumption | apply zQe | apply zQg | apply zQi | apply zQh)) | exact zQn _ (by repeat (first | assumption | apply zQe | apply zQg | apply zQi | apply zQh)) | exact zQl _ (by repeat (first | assumption | apply zQe | apply zQg | apply zQi | apply zQh)) | exact zQm _ | exact zQt _ (by repeat (first | assumption | apply zQe | apply zQg | apply zQi | apply zQh)) | exact zQw _ (by repeat (first | assumption | apply zQe | apply zQg | apply zQi | apply zQh)) | exact zQy _ (by repeat (first | assumption | apply zQe | apply zQg | apply zQi | apply zQh)) | exact zQx _ (by repeat (first | assumption | apply zQe | apply zQg | apply zQi | apply zQh)))),⟨zZC _,rfl,by unfold maxLen; omega,by omega⟩,(by (first | exact zQr _ (by repeat (first | assumption | apply zQe | apply zQg | apply zQi | apply zQh)) | exact zQn _ (by repeat (first | assumption | apply zQe | apply zQg | apply zQi | apply zQh)) | exact zQl _ (by repeat (first | assumption | apply zQe | apply zQg | apply zQi | apply zQh)) | exact zQm _ | exact zQt _ (by repeat (first | assumption | apply zQe | apply zQg | apply zQi | apply zQh)) | exact zQw _ (by repeat (first | assumption | apply zQe | apply zQg | apply zQi | apply zQh)) | exact zQy _ (by repeat (first | assumption | apply zQe | apply zQg | apply zQi | apply zQh)) | exact zQx _ (by repeat (first | assumption | apply zQe | apply zQg | apply zQi | apply zQh)))),fun h=>?_,fun h=>⟨by unfold maxLen; omega,fun h2=>⟨aI,⟨zXq _,Im.ds_len _,by unfold maxLen; omega,by omega⟩,?_⟩,fun h2=>?_⟩⟩
  ·have e:zQJ p q=({ p with px:=p.px++[(pixQ q).1] },false):=by unfold zQJ cmpQ; rw [if_neg (by rw [h]; decide)]
   rw [e]; ((repeat' apply And.intro) <;> first | rfl | trivial | (simp only [List.length_append,List.length_cons,List.length_nil]; done) | (simp [ims]; done) | (simp [ops]; done) | (simp [ops,Oq.cells]; done) | exact zQY _ | (simp [pxs]; done))
  ·have h2:(p.px.length:Int)+1=p.w*p.h:=by simpa using h2
   have e:zQJ p q=(⟨{ p.s with ims:=p.s.ims++[imOf p.w p.h (p.px++[(pixQ q).1])] },p.part,0,0,[]⟩,true):=by unfold zQJ cmpQ; rw [if_pos h,if_pos h2]
   rw [e]; ((repeat' apply And.intro) <;> first | rfl | trivial | (simp only [List.length_append,List.length_cons,List.length_nil]; done) | (simp [ims]; done) | (simp [ops]; done) | (simp [ops,Oq.cells]; done) | exact zQY _ | (simp [pxs]; done))
  ·have h2:¬(p.px.length:Int)+1=p.w*p.h:=by simpa using h2
   have e:zQJ p q=({ p with px:=p.px++[(pixQ q).1] },true):=by unfold zQJ cmpQ; rw [if_pos h,if_neg h2]
   rw [e]; ((repeat' apply And.intro) <;> first | rfl | trivial | (simp only [List.length_append,List.length_cons,List.length_nil]; done) | (simp [ims]; done) | (simp [ops]; done) | (simp [ops,Oq.cells]; done) | exact zQY _ | (simp [pxs]; done))
def zYc (p:PP) (q:LQ) (w:Lb):Ann:=Ann.leaf
theorem zVK (p:PP) (q:LQ) (w:Lb):vcg Tryz.prog zWC ⟨73,fun _=>false,List.range 1,false⟩ (zQA Tryz.f75) (zYc p q w) kn0 (zZc [aPz,AV.one (Cl.ptr 1 0),AV.one (Cl.d (DV.str (toS w)))] [Bx.cells (ppC p p.part 2),bC [Cl.clo 105 [Cap.ptr 6 0],Cl.d (dQ q.bad)],Bx.row 3 1 (is p.s.ord),Bx.row 43 28 (ims p.s.ims),Bx.row 51 12 (ops p.s.ops),Bx.row 37 5 (pxs p.px),bC [Cl.d (dS q.ws.length (strs q.ws))]]) (zZJ Tryz.prog ⟨73,fun _=>false,List.range 1,false⟩ Tryz.f75.results.toList ⟨AV.one (Cl.d (dQ ((zZO p q (ofS (toS w))).2))),[Bx.cells (ppC ((zZO p q (ofS (toS w))).1) (((zZO p q (ofS (toS w))).1).part) 1),Bx.row 3 1 (is ((zZO p q (ofS (toS w))).1).s.ord),Bx.row 43 28 (ims ((zZO p q (ofS (toS w))).1).s.ims),Bx.row 51 12 (ops ((zZO p q (ofS (toS w))).1).s.ops),Bx.row 37 5 (pxs ((zZO p q (ofS (toS w))).1).px)],false⟩) =
 (let yy7:=((zZO p q (ofS (toS w))).1); let yy8:=(reQ ((numQ (reQ q) 0 255).2)); let yy9:=(numQ (reQ q) 0 4294967295); let yy10:=((zZO p q (ofS (toS w))).2); let yy1:=[Bx.cells (ppC yy7 (yy7.part) 1),Bx.row 3 1 (is yy7.s.ord),Bx.row 43 28 (ims yy7.s.ims),Bx.row 51 12 (ops yy7.s.ops),Bx.row 37 5 (pxs yy7.px)]; let yy2:=(numQ (reQ (yy9.2)) 0 4294967295); let yy5:=(Cl.d (dQ yy10)); let yy6:=(numQ (reQ q) (-2147483648) 2147483647); let yy4:=(numQ (reQ (yy6.2)) (-2147483648) 2147483647); let yy0:=(numQ (reQ (yy4.2)) (-2147483648) 2147483647); let yy3:=(numQ (reQ (yy0.2)) (-2147483648) 2147483647); let zz0:=[bC [Cl.clo 105 [Cap.ptr 1 0],Cl.d (dQ q.bad)],bC [Cl.d (dS q.ws.length (strs q.ws))]]; let zz1:=[bC [Cl.clo 105 [Cap.ptr 1 0],Cl.d (dQ (((numQ (reQ q) 0 255).2).bad))],bC [Cl.d (dS (((numQ (reQ q) 0 255).2).ws.length) (strs ((numQ (reQ q) 0 255).2).ws))]]; let zz2:=(dJ p.s.c.a=dJ (yy7.s.c.a)); let zz3:=(dJ p.s.c.b=dJ (yy7.s.c.b)); let zz4:=(dJ p.s.c.c=dJ (yy7.s.c.c)); let zz5:=(dJ p.s.c.d=dJ (yy7.s.c.d)); let zz6:=(dJ p.s.tw=dJ (yy7.s.tw)); let zz7:=(dJ p.s.th=dJ (yy7.s.th)); let zz8:=(p.s.ord.length=yy7.s.ord.length); let zz9:=(p.s.ims.length=yy7.s.ims.length); let zz10:=(p.s.ops.length=yy7.s.ops.length); let zz11:=(dJ (wK (p.part+(1:Int)))=dJ (yy7.part)); let zz12:=(dJ p.w=dJ (yy7.w)); let zz13:=(dJ p.h=dJ (yy7.h)); let zz14:=(p.px.length=yy7.px.length); let zz15:=(is p.s.ord=is yy7.s.ord); let zz16:=(ims p.s.ims=ims yy7.s.ims); let zz17:=(ops p.s.ops=ops yy7.s.ops); let zz18:=(pxs p.px=pxs yy7.px); let zz19:=(((dJ ((numQ (reQ q) 0 255).1)=dJ (yy7.s.bits))∧zz2∧zz3∧zz4∧zz5∧zz6∧zz7∧zz8∧zz9∧zz10∧zz11∧zz12∧zz13∧zz14∧True)∧zz15∧zz16∧zz17∧zz18∧True); let zz20:=((dQ false=dQ yy10)∧True); let zz21:=[bC [Cl.clo 105 [Cap.ptr 1 0],Cl.d (dQ ((yy6.2).bad))],bC [Cl.d (dS ((yy6.2).ws.length) (strs (yy6.2).ws))]]; let zz22:=[bC [Cl.clo 105 [Cap.ptr 1 0],Cl.d (dQ ((yy4.2).bad))],bC [Cl.d (dS ((yy4.2).ws.length) (strs (yy4.2).ws))]]; let zz23:=[bC [Cl.clo 105 [Cap.ptr 1 0],Cl.d (dQ ((yy0.2).bad))],bC [Cl.d (dS ((yy0.2).ws.length) (strs (yy0.2).ws))]]; let zz24:=[bC [Cl.clo 105 [Cap.ptr 1 0],Cl.d (dQ ((yy3.2).bad))],bC [Cl.d (dS ((yy3.2).ws.length) (strs (yy3.2).ws))]]; let zz25:=(dJ p.s.bits=dJ (yy7.s.bits)); let zz26:=((zz25∧(dJ (yy6.1)=dJ (yy7.s.c.a))∧(dJ (yy4.1)=dJ (yy7.s.c.b))∧(dJ (yy0.1)=dJ (yy7.s.c.c))∧(dJ (yy3.1)=dJ (yy7.s.c.d))∧zz6∧zz7∧zz8∧zz9∧zz10∧zz11∧zz12∧zz13∧zz14∧True)∧zz15∧zz16∧zz17∧zz18∧True); let zz27:=[bC [Cl.clo 105 [Cap.ptr 1 0],Cl.d (dQ ((yy9.2).bad))],bC [Cl.d (dS ((yy9.2).ws.length) (strs (yy9.2).ws))]]; let zz28:=[bC [Cl.clo 105 [Cap.ptr 1 0],Cl.d (dQ ((yy2.2).bad))],bC [Cl.d (dS ((yy2.2).ws.length) (strs (yy2.2).ws))]]; let zz29:=((zz25∧zz2∧zz3∧zz4∧zz5∧(dJ (yy9.1)=dJ (yy7.s.tw))∧(dJ (yy2.1)=dJ (yy7.s.th))∧zz8∧zz9∧zz10∧zz11∧zz12∧zz13∧zz14∧True)∧zz15∧zz16∧zz17∧zz18∧True); True∧tU8 (tU8 ((((p.part==(0:Int))=true→tU2 ((AnsG Tryz.prog 109 2 [aPz] zz0 ⟨aJ ((((numQ (reQ q) 0 255).1))),zz1,false⟩)∧tU7 (((((toS w).toList==(⟨#[98,105,116,115]⟩:ByteArray).toList)=true→True∧(AnsG Tryz.prog 107 2 [aPz] zz1 ⟨AV.one (Cl.d (dQ (((yy8).ws).isEmpty && !(yy8).bad))),[bC [Cl.clo 105 [Cap.ptr 1 0],Cl.d (dQ ((zQX yy8).bad))],bC [Cl.d (dS ((zQX yy8).ws.length) (strs (zQX yy8).ws))]],false⟩)∧tU2 ((((dQ (((yy8).ws).isEmpty && !(yy8).bad)=dQ yy10)∧True)∧zz19)∧zQv ⟨AV.one yy5,yy1,false⟩))∧(((toS w).toList==(⟨#[98,105,116,115]⟩:ByteArray).toList)=(!true)→tU2 ((zz20∧zz19)∧zQv ⟨AV.one yy5,yy1,false⟩))))))∧((p.part==(0:Int))=false→tU2 ((((p.part==(1:Int))=true→tU2 ((AnsG Tryz.prog 110 2 [aPz] zz0 ⟨aJ (((yy6.1))),zz21,false⟩)∧True∧(AnsG Tryz.prog 110 2 [aPz] zz21 ⟨aJ (((yy4.1))),zz22,false⟩)∧True∧(AnsG Tryz.prog 110 2 [aPz] zz22 ⟨aJ (((yy0.1))),zz23,false⟩)∧True∧(AnsG Tryz.prog 110 2 [aPz] zz23 ⟨aJ (((yy3.1))),zz24,false⟩)∧tU8 (((((toS w).toList==(⟨#[99,97,110,118,97,115]⟩:ByteArray).toList)=true→True∧(AnsG Tryz.prog 107 2 [aPz] zz24 ⟨AV.one (Cl.d (dQ ((((reQ (yy3.2))).ws).isEmpty && !((reQ (yy3.2))).bad))),[bC [Cl.clo 105 [Cap.ptr 1 0],Cl.d (dQ ((zQX (reQ (yy3.2))).bad))],bC [Cl.d (dS ((zQX (reQ (yy3.2))).ws.length) (strs (zQX (reQ (yy3.2))).ws))]],false⟩)∧tU2 ((((dQ ((((reQ (yy3.2))).ws).isEmpty && !((reQ (yy3.2))).bad)=dQ yy10)∧True)∧zz26)∧zQv ⟨AV.one yy5,yy1,false⟩))∧(((toS w).toList==(⟨#[99,97,110,118,97,115]⟩:ByteArray).toList)=(!true)→tU2 ((zz20∧zz26)∧zQv ⟨AV.one yy5,yy1,false⟩))))))∧((p.part==(1:Int))=false→tU3 ((AnsG Tryz.prog 111 2 [aPz] zz0 ⟨aJ (((yy9.1))),zz27,false⟩)∧True∧(AnsG Tryz.prog 111 2 [aPz] zz27 ⟨aJ (((yy2.1))),zz28,false⟩)∧tU3 (tU8 (((((toS w).toList==(⟨#[116,105,108,101,115]⟩:ByteArray).toList)=true→True∧(AnsG Tryz.prog 107 2 [aPz] zz28 ⟨AV.one (Cl.d (dQ ((((reQ (yy2.2))).ws).isEmpty && !((reQ (yy2.2))).bad))),[bC [Cl.clo 105 [Cap.ptr 1 0],Cl.d (dQ ((zQX (reQ (yy2.2))).bad))],bC [Cl.d (dS ((zQX (reQ (yy2.2))).ws.length) (strs (zQX (reQ (yy2.2))).ws))]],false⟩)∧tU2 ((((dQ ((((reQ (yy2.2))).ws).isEmpty && !((reQ (yy2.2))).bad)=dQ yy10)∧True)∧zz29)∧zQv ⟨AV.one yy5,yy1,false⟩))∧(((toS w).toList==(⟨#[116,105,108,101,115]⟩:ByteArray).toList)=(!true)→tU2 ((zz20∧zz29)∧zQv ⟨AV.one yy5,yy1,false⟩)))))))))))))):=by kernel_rfl
theorem zVi (p:PP) (q:LQ) (w:Lb) (hq:okQ q) (hx:p.px.length≤68719476736) (hi:p.s.ims.length≤68719476736) (hp:p.s.ops.length≤68719476736) (hn:p.s.ord.length≤68719476736) (hf:0≤p.w*p.h∧p.w*p.h≤16777216) (hd:0≤p.part∧p.part≤5):AnsG Tryz.prog 75 1 [AV.one (Cl.ptr 0 0),AV.one (Cl.ptr 1 0),AV.one (Cl.d (DV.str (toS w)))] [Bx.cells (ppC p p.part 2),Bx.cells [Cl.clo 105 [Cap.ptr 6 0],Cl.d (DV.bool q.bad)],Bx.row 3 1 (is p.s.ord),Bx.row 43 28 (ims p.s.ims),Bx.row 51 12 (ops p.s.ops),Bx.row 37 5 (pxs p.px),Bx.cells [Cl.d (DV.sl q.ws.length (strs q.ws))]] ⟨AV.one (Cl.d (DV.bool ((zZO p q (ofS (toS w))).2))),[Bx.cells (ppC ((zZO p q (ofS (toS w))).1) (((zZO p q (ofS (toS w))).1).part) 1),Bx.row 3 1 (is ((zZO p q (ofS (toS w))).1).s.ord),Bx.row 43 28 (ims ((zZO p q (ofS (toS w))).1).s.ims),Bx.row 51 12 (ops ((zZO p q (ofS (toS w))).1).s.ops),Bx.row 37 5 (pxs ((zZO p q (ofS (toS w))).1).px)],false⟩:=
 zQz (Γ:=zWC) (zYc p q w) zQC Tryz.func75 rfl (Nat.le_of_ble_eq_true rfl) rfl fun hwf hbx=>by
  refine Eq.mpr (zVK p q w) ?_
  delta tU2 tU3 tU7 tU8 dJ dQ wK dS aJ aPz bC
  simp only [true_and,and_true,RV.d.injEq,RV.agg.injEq,RV.tup.injEq,DV.bool.injEq,DV.int.injEq,DV.sl.injEq,List.cons.injEq,forall_const,Bool.not_false,Bool.not_true,Bool.not_eq_true',Bool.not_eq_false',decide_eq_true_eq,decide_eq_false_iff_not,Int.toNat_natCast,ppC,ppE]
  simp only [zZQ,zQZ,zZP,zZu,zZg,zQL,zZh]
  clear hwf hbx
  have lb:(⟨#[98,105,116,115]⟩:ByteArray)=toS zYG:=rfl
  have lc:(⟨#[99,97,110,118,97,115]⟩:ByteArray)=toS zZL:=rfl
  have lt:(⟨#[116,105,108,101,115]⟩:ByteArray)=toS zXo:=rfl
  have li:(⟨#[105,109,97,103,101]⟩:ByteArray)=toS zQ5:=rfl
  have ld:(⟨#[100,114,97,119]⟩:ByteArray)=toS zZ9:=rfl
  have lu:(⟨#[112,117,115,104]⟩:ByteArray)=toS zXi:=rfl
  have lo:(⟨#[112,111,112]⟩:ByteArray)=toS sPop:=rfl
  have lr:(⟨#[111,114,100,101,114]⟩:ByteArray)=toS zZD:=rfl
  have ls:(⟨#[115,111,108,105,100]⟩:ByteArray)=toS zQ9:=rfl
  have w1:IntKind.wrap .i64 (p.part+1)=p.part+1:=IntWalk.i64_in _ ⟨by omega,by omega⟩
  simp only [lb,lc,lt,zVZ,decide_eq_true_eq,decide_eq_false_iff_not,w1,beq_iff_eq,beq_eq_false_iff_ne]
  refine ⟨fun h1=>⟨(by (first | exact zQr _ (by repeat (first | assumption | apply zQe | apply zQg | apply zQi | apply zQh)) | exact zQn _ (by repeat (first | assumption | apply zQe | apply zQg | apply zQi | apply zQh)) | exact zQl _ (by repeat (first | assumption | apply zQe | apply zQg | apply zQi | apply zQh)) | exact zQm _ | exact zQt _ (by repeat (first | assumption | apply zQe | apply zQg | apply zQi | apply zQh)) | exact zQw _ (by repeat (first | assumption | apply zQe | apply zQg | apply zQi | apply zQh)) | exact zQy _ (by repeat (first | assumption | apply zQe | apply zQg | apply zQi | apply zQh)) | exact zQx _ (by repeat (first | assumption | apply zQe | apply zQg | apply zQi | apply zQh)))),fun h2=>⟨(by (first | exact zQr _ (by repeat (first | assumption | apply zQe | apply zQg | apply zQi | apply zQh)) | exact zQn _ (by repeat (first | assumption | apply zQe | apply zQg | apply zQi | apply zQh)) | exact zQl _ (by repeat (first | assumption | apply zQe | apply zQg | apply zQi | apply zQh)) | exact zQm _ | exact zQt _ (by repeat (first | assumption | apply zQe | apply zQg | apply zQi | apply zQh)) | exact zQw _ (by repeat (first | assumption | apply zQe | apply zQg | apply zQi | apply zQh)) | exact zQy _ (by repeat (first | assumption | apply zQe | apply zQg | apply zQi | apply zQh)) | exact zQx _ (by repeat (first | assumption | apply zQe | apply zQg | apply zQi | apply zQh)))),?_⟩,fun h2=>?_⟩,fun h1=>⟨fun h3=>⟨(by (first | exact zQr _ (by repeat (first | assumption | apply zQe | apply zQg | apply zQi | apply zQh)) | exact zQn _ (by repeat (first | assumption | apply zQe | apply zQg | apply zQi | apply zQh)) | exact zQl _ (by repeat (first | assumption | apply zQe | apply zQg | apply zQi | apply zQh)) | exact zQm _ | exact zQt _ (by repeat (first | assumption | apply zQe | apply zQg | apply zQi | apply zQh)) | exact zQw _ (by repeat (first | assumption | apply zQe | apply zQg | apply zQi | apply zQh)) | exact zQy _ (by repeat (first | assumption | apply zQe | apply zQg | apply zQi | apply zQh)) | exact zQx _ (by repeat (first | assumption | apply zQe | apply zQg | apply zQi | apply zQh)))),(by (first | exact zQr _ (by repeat (first | assumption | apply zQe | apply zQg | apply zQi | apply zQh)) | exact zQn _ (by repeat (first | assumption | apply zQe | apply zQg | apply zQi | apply zQh)) | exact zQl _ (by repeat (first | assumption | apply zQe | apply zQg | apply zQi | apply zQh)) | exact zQm _ | exact zQt _ (by repeat (first | assumption | apply zQe | apply zQg | apply zQi | apply zQh)) | exact zQw _ (by repeat (first | assumption | apply zQe | apply zQg | apply zQi | apply zQh)) | exact zQy _ (by repeat (first | assumption | apply zQe | apply zQg | apply zQi | apply zQh)) | exact zQx _ (by repeat (first | assumption | apply zQe | apply zQg | apply zQi | apply zQh)))),(by (first | exact zQr _ (by repeat (first | assumption | apply zQe | apply zQg | apply zQi | apply zQh)) | exact zQn _ (by repeat (first | assumption | apply zQe | apply zQg | apply zQi | apply zQh)) | exact zQl _ (by repeat (first | assumption | apply zQe | apply zQg | apply zQi | apply zQh)) | exact zQm _ | exact zQt _ (by repeat (first | assumption | apply zQe | apply zQg | apply zQi | apply zQh)) | exact zQw _ (by repeat (first | assumption | apply zQe | apply zQg | apply zQi | apply zQh)) | exact zQy _ (by repeat (first | assumption | apply zQe | apply zQg | apply zQi | apply zQh)) | exact zQx _ (by repeat (first | assumption | apply zQe | apply zQg | apply zQi | apply zQh)))),(by (first | exact zQr _ (by repeat (first | assumption | apply zQe | apply zQg | apply zQi | apply zQh)) | exact zQn _ (by repeat (first | assumption | apply zQe | apply zQg | apply zQi | apply zQh)) | exact zQl _ (by repeat (first | assumption | apply zQe | apply zQg | apply zQi | apply zQh)) | exact zQm _ | exact zQt _ (by repeat (first | assumption | apply zQe | apply zQg | apply zQi | apply zQh)) | exact zQw _ (by repeat (first | assumption | apply zQe | apply zQg | apply zQi | apply zQh)) | exact zQy _ (by repeat (first | assumption | apply zQe | apply zQg | apply zQi | apply zQh)) | exact zQx _ (by repeat (first | assumption | apply zQe | apply zQg | apply zQi | apply zQh)))),fun h2=>⟨(by (first | exact zQr _ (by repeat (first | assumption | apply zQe | apply zQg | apply zQi | apply zQh)) | exact zQn _ (by repeat (first | assumption | apply zQe | apply zQg | apply zQi | apply zQh)) | exact zQl _ (by repeat (first | assumption | apply zQe | apply zQg | apply zQi | apply zQh)) | exact zQm _ | exact zQt _ (by repeat (first | assumption | apply zQe | apply zQg | apply zQi | apply zQh)) | exact zQw _ (by repeat (first | assumption | apply zQe | apply zQg | apply zQi | apply zQh)) | exact zQy _ (by repeat (first | assumption | apply zQe | apply zQg | apply zQi | apply zQh)) | exact zQx _ (by repeat (first | assumption | apply zQe | apply zQg | apply zQi | apply zQh)))),?_⟩,fun h2=>?_⟩,fun h3=>⟨(by (first | exact zQr _ (by repeat (first | assumption | apply zQe | apply zQg | apply zQi | apply zQh)) | exact zQn _ (by repeat (first | assumption | apply zQe | apply zQg | apply zQi | apply zQh)) | exact zQl _ (by repeat (first | assumption | apply zQe | apply zQg | apply zQi | apply zQh)) | exact zQm _ | exact zQt _ (by repeat (first | assumption | apply zQe | apply zQg | apply zQi | apply zQh)) | exact zQw _ (by repeat (first | assumption | apply zQe | apply zQg | apply zQi | apply zQh)) | exact zQy _ (by repeat (first | assumption | apply zQe | apply zQg | apply zQi | apply zQh)) | exact zQx _ (by repeat (first | assumption | apply zQe | apply zQg | apply zQi | apply zQh)))),(by (first | exact zQr _ (by repeat (first | assumption | apply zQe | apply zQg | apply zQi | apply zQh)) | exact zQn _ (by repeat (first | assumption | apply zQe | apply zQg | apply zQi | apply zQh)) | exact zQl _ (by repeat (first | assumption | apply zQe | apply zQg | apply zQi | apply zQh)) | exact zQm _ | exact zQt _ (by repeat (first | assumption | apply zQe | apply zQg | apply zQi | apply zQh)) | exact zQw _ (by repeat (first | assumption | apply zQe | apply zQg | apply zQi | apply zQh)) | exact zQy _ (by repeat (first | assumption | apply zQe | apply zQg | apply zQi | apply zQh)) | exact zQx _ (by repeat (first | assumption | apply zQe | apply zQg | apply zQi | apply zQh)))),fun h2=>⟨(by (first | exact zQr _ (by repeat (first | assumption | apply zQe | apply zQg | apply zQi | apply zQh)) | exact zQn _ (by repeat (first | assumption | apply zQe | apply zQg | apply zQi | apply zQh)) | exact zQl _ (by repeat (first | assumption | apply zQe | apply zQg | apply zQi | apply zQh)) | exact zQm _ | exact zQt _ (by repeat (first | assumption | apply zQe | apply zQg | apply zQi | apply zQh)) | exact zQw _ (by repeat (first | assumption | apply zQe | apply zQg | apply zQi | apply zQh)) | exact zQy _ (by repeat (first | assumption | apply zQe | apply zQg | apply zQi | apply zQh)) | exact zQx _ (by repeat (first | assumption | apply zQe | apply zQg | apply zQi | apply zQh)))),?_⟩,fun h2=>?_⟩⟩⟩
  ·have e:zZO p q w=({ p with part:=p.part+1,s:={ p.s with bits:=(byQ q).1 } },cmpQ (byQ q).2):=by unfold zZO; rw [if_pos h1,decide_eq_true h2]; rfl
   rw [e]; ((repeat' apply And.intro) <;> first | rfl | trivial | (simp only [List.length_append,List.length_cons,List.length_nil]; done) | (simp [ims]; done) | (simp [ops]; done) | (simp [ops,Oq.cells]; done) | exact zQY _ | (simp [pxs]; done))
  ·have e:zZO p q w=({ p with part:=p.part+1,s:={ p.s with bits:=(byQ q).1 } },false):=by unfold zZO; rw [if_pos h1,decide_eq_false h2]; rfl
   rw [e]; ((repeat' apply And.intro) <;> first | rfl | trivial | (simp only [List.length_append,List.length_cons,List.length_nil]; done) | (simp [ims]; done) | (simp [ops]; done) | (simp [ops,Oq.cells]; done) | exact zQY _ | (simp [pxs]; done))
  ·have e:zZO p q w=({ p with part:=p.part+1,s:={ p.s with c:=⟨(plQ q).1,(plQ (plQ q).2).1,(plQ (plQ (plQ q).2).2).1,(plQ (plQ (plQ (plQ q).2).2).2).1⟩ } },cmpQ (plQ (plQ (plQ (plQ q).2).2).2).2):=by unfold zZO; rw [if_neg h1,if_pos h3,decide_eq_true h2]; rfl
   rw [e]; ((repeat' apply And.intro) <;> first | rfl | trivial | (simp only [List.length_append,List.length_cons,List.length_nil]; done) | (simp [ims]; done) | (simp [ops]; done) | (simp [ops,Oq.cells]; done) | exact zQY _ | (simp [pxs]; done))
  ·have e:zZO p q w=({ p with part:=p.part+1,s:={ p.s with c:=⟨(plQ q).1,(plQ (plQ q).2).1,(plQ (plQ (plQ q).2).2).1,(plQ (plQ (plQ (plQ q).2).2).2).1⟩ } },false):=by unfold zZO; rw [if_neg h1,if_pos h3,decide_eq_false h2]; rfl
   rw [e]; ((repeat' apply And.intro) <;> first | rfl | trivial | (simp only [List.length_append,List.length_cons,List.length_nil]; done) | (simp [ims]; done) | (simp [ops]; done) | (simp [ops,Oq.cells]; done) | exact zQY _ | (simp [pxs]; done))
  ·have e:zZO p q w=({ p with part:=p.part+1,s:={ p.s with tw:=(numQ q 0 4294967295).1,th:=(numQ (numQ q 0 4294967295).2 0 4294967295).1 } },cmpQ (numQ (numQ q 0 4294967295).2 0 4294967295).2):=by unfold zZO; rw [if_neg h1,if_neg h3,decide_eq_true h2]; rfl
   rw [e]; ((repeat' apply And.intro) <;> first | rfl | trivial | (simp only [List.length_append,List.length_cons,List.length_nil]; done) | (simp [ims]; done) | (simp [ops]; done) | (simp [ops,Oq.cells]; done) | exact zQY _ | (simp [pxs]; done))
  ·have e:zZO p q w=({ p with part:=p.part+1,s:={ p.s with tw:=(numQ q 0 4294967295).1,th:=(numQ (numQ q 0 4294967295).2 0 4294967295).1 } },false):=by unfold zZO; rw [if_neg h1,if_neg h3,decide_eq_false h2]; rfl
   rw [e]; ((repeat' apply And.intro) <;> first | rfl | trivial | (simp only [List.length_append,List.length_cons,List.length_nil]; done) | (simp [ims]; done) | (simp [ops]; done) | (simp [ops,Oq.cells]; done) | exact zQY _ | (simp [pxs]; done))
def zX1 (p:PP) (q:LQ) (w:Lb):Ann:=Ann.leaf
theorem zVh (p:PP) (q:LQ) (w:Lb):vcg Tryz.prog zWC ⟨51,fun _=>false,List.range 1,false⟩ (zQA Tryz.f77) (zX1 p q w) kn0 (zZc [aPz,AV.one (Cl.ptr 1 0),AV.one (Cl.d (DV.str (toS w)))] [Bx.cells (ppC p p.part 2),bC [Cl.clo 105 [Cap.ptr 6 0],Cl.d (dQ q.bad)],Bx.row 3 1 (is p.s.ord),Bx.row 43 28 (ims p.s.ims),Bx.row 51 12 (ops p.s.ops),Bx.row 37 5 (pxs p.px),bC [Cl.d (dS q.ws.length (strs q.ws))]]) (zZJ Tryz.prog ⟨51,fun _=>false,List.range 1,false⟩ Tryz.f77.results.toList ⟨AV.one (Cl.d (dQ ((zZj p q (ofS (toS w))).2))),[Bx.cells (ppC ((zZj p q (ofS (toS w))).1) (((zZj p q (ofS (toS w))).1).part) 1),Bx.row 3 1 (is ((zZj p q (ofS (toS w))).1).s.ord),Bx.row 43 28 (ims ((zZj p q (ofS (toS w))).1).s.ims),Bx.row 51 12 (ops ((zZj p q (ofS (toS w))).1).s.ops),Bx.row 37 5 (pxs ((zZj p q (ofS (toS w))).1).px)],false⟩) =
 (let yy2:=(zZj p q (ofS (toS w))); let yy3:=(pixQ (reQ ((sizQ (reQ q)).2))); let yy0:=[Bx.cells (ppC (yy2.1) ((yy2.1).part) 1),Bx.row 3 1 (is (yy2.1).s.ord),Bx.row 43 28 (ims (yy2.1).s.ims),Bx.row 51 12 (ops (yy2.1).s.ops),Bx.row 37 5 (pxs (yy2.1).px)]; let yy1:=(reQ (yy3.2)); let zz0:=(dJ p.s.bits=dJ ((yy2.1).s.bits)); let zz1:=(dJ p.s.c.a=dJ ((yy2.1).s.c.a)); let zz2:=(dJ p.s.c.b=dJ ((yy2.1).s.c.b)); let zz3:=(dJ p.s.c.c=dJ ((yy2.1).s.c.c)); let zz4:=(dJ p.s.c.d=dJ ((yy2.1).s.c.d)); let zz5:=(dJ p.s.tw=dJ ((yy2.1).s.tw)); let zz6:=(dJ p.s.th=dJ ((yy2.1).s.th)); let zz7:=(p.s.ord.length=(yy2.1).s.ord.length); let zz8:=(p.s.ims.length=(yy2.1).s.ims.length); let zz9:=(p.s.ops.length=(yy2.1).s.ops.length); let zz10:=(dJ p.part=dJ ((yy2.1).part)); let zz11:=(dJ p.w=dJ ((yy2.1).w)); let zz12:=(dJ p.h=dJ ((yy2.1).h)); let zz13:=(p.px.length=(yy2.1).px.length); let zz14:=(is p.s.ord=is (yy2.1).s.ord); let zz15:=(ims p.s.ims=ims (yy2.1).s.ims); let zz16:=(ops p.s.ops=ops (yy2.1).s.ops); let zz17:=(pxs p.px=pxs (yy2.1).px); let zz18:=(dJ ((sizQ (reQ q)).1.1)); let zz19:=(dJ ((sizQ (reQ q)).1.2)); let zz20:=[bC [Cl.clo 105 [Cap.ptr 1 0],Cl.d (dQ (((sizQ (reQ q)).2).bad))],bC [Cl.d (dS (((sizQ (reQ q)).2).ws.length) (strs ((sizQ (reQ q)).2).ws))]]; let zz21:=[bC [Cl.clo 105 [Cap.ptr 1 0],Cl.d (dQ ((yy3.2).bad))],bC [Cl.d (dS ((yy3.2).ws.length) (strs (yy3.2).ws))]]; let zz22:=((Im.ds (zQd ((sizQ (reQ q)).1.1) ((sizQ (reQ q)).1.2) (yy3.1)))); tU6 ((p.s.ims.length≤maxLen)∧True∧(((decide ((p.s.ims.length:Int)≥(64:Int)))=true→True∧(((dQ false=dQ (yy2.2))∧True)∧((zz0∧zz1∧zz2∧zz3∧zz4∧zz5∧zz6∧zz7∧zz8∧zz9∧zz10∧zz11∧zz12∧zz13∧True)∧zz14∧zz15∧zz16∧zz17∧True))∧zQv ⟨AV.one (Cl.d (dQ (yy2.2))),yy0,false⟩)∧((decide ((p.s.ims.length:Int)≥(64:Int)))=false→True∧(AnsG Tryz.prog 113 2 [aPz] [bC [Cl.clo 105 [Cap.ptr 1 0],Cl.d (dQ q.bad)],bC [Cl.d (dS q.ws.length (strs q.ws))]] ⟨AV.tup [AV.one (Cl.d zz18),AV.one (Cl.d zz19)],zz20,false⟩)∧tU7 (((((toS w).toList==(⟨#[105,109,97,103,101]⟩:ByteArray).toList)=true→tU3 (tU8 ((AnsG Tryz.prog 107 2 [aPz] zz20 ⟨AV.one (Cl.d (dQ ((((reQ ((sizQ (reQ q)).2))).ws).isEmpty && !((reQ ((sizQ (reQ q)).2))).bad))),[bC [Cl.clo 105 [Cap.ptr 1 0],Cl.d (dQ ((zQX (reQ ((sizQ (reQ q)).2))).bad))],bC [Cl.d (dS ((zQX (reQ ((sizQ (reQ q)).2))).ws.length) (strs (zQX (reQ ((sizQ (reQ q)).2))).ws))]],false⟩)∧True∧(((dQ ((((reQ ((sizQ (reQ q)).2))).ws).isEmpty && !((reQ ((sizQ (reQ q)).2))).bad)=dQ (yy2.2))∧True)∧((zz0∧zz1∧zz2∧zz3∧zz4∧zz5∧zz6∧zz7∧zz8∧zz9∧zz10∧(dJ ((sizQ (reQ q)).1.1)=dJ ((yy2.1).w))∧(dJ ((sizQ (reQ q)).1.2)=dJ ((yy2.1).h))∧zz13∧True)∧zz14∧zz15∧zz16∧zz17∧True))∧zQv ⟨AV.one (Cl.d (dQ (yy2.2))),yy0,false⟩)))∧(((toS w).toList==(⟨#[105,109,97,103,101]⟩:ByteArray).toList)=false→True∧tU8 ((AnsG Tryz.prog 106 2 [aPz] zz20 ⟨AV.agg [cK ((yy3.1.a)),cK ((yy3.1.b)),cK ((yy3.1.c)),cK ((yy3.1.al)),cK ((yy3.1.f))],zz21,false⟩)∧(Ans Tryz.prog 114 [RV.d zz18,RV.d zz19,RV.agg [dK (yy3.1.a),dK (yy3.1.b),dK (yy3.1.c),dK (yy3.1.al),dK (yy3.1.f)]] ((imR (zQd ((sizQ (reQ q)).1.1) ((sizQ (reQ q)).1.2) (yy3.1)))))∧True∧(zZf 28 272 p.s.ims.length 1 (ims p.s.ims) zz22)∧tU4 ((true=true)∧True∧(AnsG Tryz.prog 107 2 [aPz] zz21 ⟨AV.one (Cl.d (dQ (((yy1).ws).isEmpty && !(yy1).bad))),[bC [Cl.clo 105 [Cap.ptr 1 0],Cl.d (dQ ((zQX yy1).bad))],bC [Cl.d (dS ((zQX yy1).ws.length) (strs (zQX yy1).ws))]],false⟩)∧True∧(((dQ (((yy1).ws).isEmpty && !(yy1).bad)=dQ (yy2.2))∧True)∧((zz0∧zz1∧zz2∧zz3∧zz4∧zz5∧zz6∧zz7∧(p.s.ims.length+1=(yy2.1).s.ims.length)∧zz9∧zz10∧zz11∧zz12∧zz13∧True)∧zz14∧((ims p.s.ims)++zz22=ims (yy2.1).s.ims)∧zz16∧zz17∧True))∧zQv ⟨AV.one (Cl.d (dQ (yy2.2))),yy0,false⟩))))))))):=by kernel_rfl
theorem zKa (p:PP) (q:LQ) (w:Lb) (hq:okQ q) (hx:p.px.length≤68719476736) (hi:p.s.ims.length≤68719476736) (hp:p.s.ops.length≤68719476736) (hn:p.s.ord.length≤68719476736) (hf:0≤p.w*p.h∧p.w*p.h≤16777216) (hd:0≤p.part∧p.part≤5):AnsG Tryz.prog 77 1 [AV.one (Cl.ptr 0 0),AV.one (Cl.ptr 1 0),AV.one (Cl.d (DV.str (toS w)))] [Bx.cells (ppC p p.part 2),Bx.cells [Cl.clo 105 [Cap.ptr 6 0],Cl.d (DV.bool q.bad)],Bx.row 3 1 (is p.s.ord),Bx.row 43 28 (ims p.s.ims),Bx.row 51 12 (ops p.s.ops),Bx.row 37 5 (pxs p.px),Bx.cells [Cl.d (DV.sl q.ws.length (strs q.ws))]] ⟨AV.one (Cl.d (DV.bool ((zZj p q (ofS (toS w))).2))),[Bx.cells (ppC ((zZj p q (ofS (toS w))).1) (((zZj p q (ofS (toS w))).1).part) 1),Bx.row 3 1 (is ((zZj p q (ofS (toS w))).1).s.ord),Bx.row 43 28 (ims ((zZj p q (ofS (toS w))).1).s.ims),Bx.row 51 12 (ops ((zZj p q (ofS (toS w))).1).s.ops),Bx.row 37 5 (pxs ((zZj p q (ofS (toS w))).1).px)],false⟩:=
 zQz (Γ:=zWC) (zX1 p q w) zQC Tryz.func77 rfl (Nat.le_of_ble_eq_true rfl) rfl fun hwf hbx=>by
  refine Eq.mpr (zVh p q w) ?_
  delta tU3 tU4 tU6 tU7 tU8 dJ dK dQ cK dS aPz bC
  simp only [true_and,and_true,RV.d.injEq,RV.agg.injEq,RV.tup.injEq,DV.bool.injEq,DV.int.injEq,DV.sl.injEq,List.cons.injEq,forall_const,Bool.not_false,Bool.not_true,Bool.not_eq_true',Bool.not_eq_false',decide_eq_true_eq,decide_eq_false_iff_not,Int.toNat_natCast,ppC,ppE]
  simp only [zZQ,zQZ,zZP,zZu,zZg,zQL,zZh]
  clear hwf hbx
  have lb:(⟨#[98,105,116,115]⟩:ByteArray)=toS zYG:=rfl
  have lc:(⟨#[99,97,110,118,97,115]⟩:ByteArray)=toS zZL:=rfl
  have lt:(⟨#[116,105,108,101,115]⟩:ByteArray)=toS zXo:=rfl
  have li:(⟨#[105,109,97,103,101]⟩:ByteArray)=toS zQ5:=rfl
  have ld:(⟨#[100,114,97,119]⟩:ByteArray)=toS zZ9:=rfl
  have lu:(⟨#[112,117,115,104]⟩:ByteArray)=toS zXi:=rfl
  have lo:(⟨#[112,111,112]⟩:ByteArray)=toS sPop:=rfl
  have lr:(⟨#[111,114,100,101,114]⟩:ByteArray)=toS zZD:=rfl
  have ls:(⟨#[115,111,108,105,100]⟩:ByteArray)=toS zQ9:=rfl
  have aS:=image_Solid_dat' (sizQ q).1.1 (sizQ q).1.2 (pixQ (sizQ q).2).1
  simp only [li,zVZ,decide_eq_true_eq,decide_eq_false_iff_not]
  refine ⟨by unfold maxLen; omega,fun h1=>?_,fun h1=>⟨(by (first | exact zQr _ (by repeat (first | assumption | apply zQe | apply zQg | apply zQi | apply zQh)) | exact zQn _ (by repeat (first | assumption | apply zQe | apply zQg | apply zQi | apply zQh)) | exact zQl _ (by repeat (first | assumption | apply zQe | apply zQg | apply zQi | apply zQh)) | exact zQm _ | exact zQt _ (by repeat (first | assumption | apply zQe | apply zQg | apply zQi | apply zQh)) | exact zQw _ (by repeat (first | assumption | apply zQe | apply zQg | apply zQi | apply zQh)) | exact zQy _ (by repeat (first | assumption | apply zQe | apply zQg | apply zQi | apply zQh)) | exact zQx _ (by repeat (first | assumption | apply zQe | apply zQg | apply zQi | apply zQh)))),fun h2=>⟨(by (first | exact zQr _ (by repeat (first | assumption | apply zQe | apply zQg | apply zQi | apply zQh)) | exact zQn _ (by repeat (first | assumption | apply zQe | apply zQg | apply zQi | apply zQh)) | exact zQl _ (by repeat (first | assumption | apply zQe | apply zQg | apply zQi | apply zQh)) | exact zQm _ | exact zQt _ (by repeat (first | assumption | apply zQe | apply zQg | apply zQi | apply zQh)) | exact zQw _ (by repeat (first | assumption | apply zQe | apply zQg | apply zQi | apply zQh)) | exact zQy _ (by repeat (first | assumption | apply zQe | apply zQg | apply zQi | apply zQh)) | exact zQx _ (by repeat (first | assumption | apply zQe | apply zQg | apply zQi | apply zQh)))),?_⟩,fun h2=>⟨(by (first | exact zQr _ (by repeat (first | assumption | apply zQe | apply zQg | apply zQi | apply zQh)) | exact zQn _ (by repeat (first | assumption | apply zQe | apply zQg | apply zQi | apply zQh)) | exact zQl _ (by repeat (first | assumption | apply zQe | apply zQg | apply zQi | apply zQh)) | exact zQm _ | exact zQt _ (by repeat (first | assumption | apply zQe | apply zQg | apply zQi | apply zQh)) | exact zQw _ (by repeat (first | assumption | apply zQe | apply zQg | apply zQi | apply zQh)) | exact zQy _ (by repeat (first | assumption | apply zQe | apply zQg | apply zQi | apply zQh)) | exact zQx _ (by repeat (first | assumption | apply zQe | apply zQg | apply zQi | apply zQh)))),aS,⟨zXq _,Im.ds_len _,by unfold maxLen; omega,by omega⟩,(by (first | exact zQr _ (by repeat (first | assumption | apply zQe | apply zQg | apply zQi | apply zQh)) | exact zQn _ (by repeat (first | assumption | apply zQe | apply zQg | apply zQi | apply zQh)) | exact zQl _ (by repeat (first | assumption | apply zQe | apply zQg | apply zQi | apply zQh)) | exact zQm _ | exact zQt _ (by repeat (first | assumption | apply zQe | apply zQg | apply zQi | apply zQh)) | exact zQw _ (by repeat (first | assumption | apply zQe | apply zQg | apply zQi | apply zQh)) | exact zQy _ (by repeat (first | assumption | apply zQe | apply zQg | apply zQi | apply zQh)) | exact zQx _ (by repeat (first | assumption | apply zQe | apply zQg | apply zQi | apply zQh)))),?_⟩⟩⟩
  ·have e:zZj p q w=(p,false):=by unfold zZj; rw [if_pos (by omega)]
   rw [e]; ((repeat' apply And.intro) <;> first | rfl | trivial | (simp only [List.length_append,List.length_cons,List.length_nil]; done) | (simp [ims]; done) | (simp [ops]; done) | (simp [ops,Oq.cells]; done) | exact zQY _ | (simp [pxs]; done))
  ·have e:zZj p q w=({ p with w:=(sizQ q).1.1,h:=(sizQ q).1.2 },cmpQ (sizQ q).2):=by unfold zZj; rw [if_neg (by omega),if_pos h2]
   rw [e]; ((repeat' apply And.intro) <;> first | rfl | trivial | (simp only [List.length_append,List.length_cons,List.length_nil]; done) | (simp [ims]; done) | (simp [ops]; done) | (simp [ops,Oq.cells]; done) | exact zQY _ | (simp [pxs]; done))
  ·have e:zZj p q w=({ p with s:={ p.s with ims:=p.s.ims++[zQd (sizQ q).1.1 (sizQ q).1.2 (pixQ (sizQ q).2).1] } },cmpQ (pixQ (sizQ q).2).2):=by unfold zZj; rw [if_neg (by omega),if_neg h2]
   rw [e]; ((repeat' apply And.intro) <;> first | rfl | trivial | (simp only [List.length_append,List.length_cons,List.length_nil]; done) | (simp [ims]; done) | (simp [ops]; done) | (simp [ops,Oq.cells]; done) | exact zQY _ | (simp [pxs]; done))
def zYK (p:PP) (q:LQ) (w:Lb):Ann:=Ann.leaf
theorem zWV (p:PP) (q:LQ) (w:Lb):vcg Tryz.prog zWC ⟨41,fun _=>false,List.range 1,false⟩ (zQA Tryz.f78) (zYK p q w) kn0 (zZc [aPz,AV.one (Cl.ptr 1 0),AV.one (Cl.d (DV.str (toS w)))] [Bx.cells (ppC p p.part 2),bC [Cl.clo 105 [Cap.ptr 6 0],Cl.d (dQ q.bad)],Bx.row 3 1 (is p.s.ord),Bx.row 43 28 (ims p.s.ims),Bx.row 51 12 (ops p.s.ops),Bx.row 37 5 (pxs p.px),bC [Cl.d (dS q.ws.length (strs q.ws))]]) (zZJ Tryz.prog ⟨41,fun _=>false,List.range 1,false⟩ Tryz.f78.results.toList ⟨AV.one (Cl.d (dQ ((pOp p q (ofS (toS w))).2))),[Bx.cells (ppC ((pOp p q (ofS (toS w))).1) (((pOp p q (ofS (toS w))).1).part) 1),Bx.row 3 1 (is ((pOp p q (ofS (toS w))).1).s.ord),Bx.row 43 28 (ims ((pOp p q (ofS (toS w))).1).s.ims),Bx.row 51 12 (ops ((pOp p q (ofS (toS w))).1).s.ops),Bx.row 37 5 (pxs ((pOp p q (ofS (toS w))).1).px)],false⟩) =
 (let yy2:=((pOp p q (ofS (toS w))).1); let yy3:=((pOp p q (ofS (toS w))).2); let yy0:=[Bx.cells (ppC yy2 (yy2.part) 1),Bx.row 3 1 (is yy2.s.ord),Bx.row 43 28 (ims yy2.s.ims),Bx.row 51 12 (ops yy2.s.ops),Bx.row 37 5 (pxs yy2.px)]; let yy1:=(Cl.d (dQ yy3)); let zz0:=(dJ p.s.bits=dJ (yy2.s.bits)); let zz1:=(dJ p.s.c.a=dJ (yy2.s.c.a)); let zz2:=(dJ p.s.c.b=dJ (yy2.s.c.b)); let zz3:=(dJ p.s.c.c=dJ (yy2.s.c.c)); let zz4:=(dJ p.s.c.d=dJ (yy2.s.c.d)); let zz5:=(dJ p.s.tw=dJ (yy2.s.tw)); let zz6:=(dJ p.s.th=dJ (yy2.s.th)); let zz7:=(p.s.ord.length=yy2.s.ord.length); let zz8:=(p.s.ims.length=yy2.s.ims.length); let zz9:=(dJ p.part=dJ (yy2.part)); let zz10:=(dJ p.w=dJ (yy2.w)); let zz11:=(dJ p.h=dJ (yy2.h)); let zz12:=(p.px.length=yy2.px.length); let zz13:=(is p.s.ord=is yy2.s.ord); let zz14:=(ims p.s.ims=ims yy2.s.ims); let zz15:=(pxs p.px=pxs yy2.px); let zz16:=(((dQ false=dQ yy3)∧True)∧((zz0∧zz1∧zz2∧zz3∧zz4∧zz5∧zz6∧zz7∧zz8∧(p.s.ops.length=yy2.s.ops.length)∧zz9∧zz10∧zz11∧zz12∧True)∧zz13∧zz14∧(ops p.s.ops=ops yy2.s.ops)∧zz15∧True)); let zz17:=[bC [Cl.clo 105 [Cap.ptr 1 0],Cl.d (dQ q.bad)],bC [Cl.d (dS q.ws.length (strs q.ws))]]; let zz18:=[bC [Cl.clo 105 [Cap.ptr 1 0],Cl.d (dQ (((zQT (reQ q)).2).bad))],bC [Cl.d (dS (((zQT (reQ q)).2).ws.length) (strs ((zQT (reQ q)).2).ws))]]; let zz19:=(zz0∧zz1∧zz2∧zz3∧zz4∧zz5∧zz6∧zz7∧zz8∧(p.s.ops.length+1=yy2.s.ops.length)∧zz9∧zz10∧zz11∧zz12∧True); let zz20:=[bC [Cl.clo 105 [Cap.ptr 1 0],Cl.d (dQ (((zQS (reQ q)).2).bad))],bC [Cl.d (dS (((zQS (reQ q)).2).ws.length) (strs ((zQS (reQ q)).2).ws))]]; tU6 ((p.s.ops.length≤maxLen)∧True∧(((decide ((p.s.ops.length:Int)≥(4096:Int)))=true→True∧zz16∧zQv ⟨AV.one yy1,yy0,false⟩)∧((decide ((p.s.ops.length:Int)≥(4096:Int)))=false→tU6 (((((toS w).toList==(⟨#[100,114,97,119]⟩:ByteArray).toList)=true→True∧(AnsG Tryz.prog 115 2 [aPz] zz17 ⟨AV.agg [cJ ((((zQT (reQ q)).1).kind)),cJ ((((zQT (reQ q)).1).image)),cJ ((((zQT (reQ q)).1).x)),cJ ((((zQT (reQ q)).1).y)),cJ ((((zQT (reQ q)).1).mask)),cJ ((((zQT (reQ q)).1).mx)),cJ ((((zQT (reQ q)).1).my)),cK ((((zQT (reQ q)).1).opac)),cJ ((((zQT (reQ q)).1).oper)),cJ ((((zQT (reQ q)).1).mode)),Cl.d (dQ (((zQT (reQ q)).1).iso)),Cl.d (dQ (((zQT (reQ q)).1).kno))],zz18,false⟩)∧True∧tU8 ((zZf 12 88 p.s.ops.length 1 (ops p.s.ops) ((Oq.cells ((zQT (reQ q)).1))))∧tU4 ((true=true)∧True∧(AnsG Tryz.prog 107 2 [aPz] zz18 ⟨AV.one (Cl.d (dQ ((((reQ ((zQT (reQ q)).2))).ws).isEmpty && !((reQ ((zQT (reQ q)).2))).bad))),[bC [Cl.clo 105 [Cap.ptr 1 0],Cl.d (dQ ((zQX (reQ ((zQT (reQ q)).2))).bad))],bC [Cl.d (dS ((zQX (reQ ((zQT (reQ q)).2))).ws.length) (strs (zQX (reQ ((zQT (reQ q)).2))).ws))]],false⟩)∧True∧(((dQ ((((reQ ((zQT (reQ q)).2))).ws).isEmpty && !((reQ ((zQT (reQ q)).2))).bad)=dQ yy3)∧True)∧(zz19∧zz13∧zz14∧((ops p.s.ops)++((Oq.cells ((zQT (reQ q)).1)))=ops yy2.s.ops)∧zz15∧True))∧zQv ⟨AV.one yy1,yy0,false⟩)))∧(((toS w).toList==(⟨#[100,114,97,119]⟩:ByteArray).toList)=false→tU2 (((((toS w).toList==(⟨#[112,117,115,104]⟩:ByteArray).toList)=true→True∧(AnsG Tryz.prog 116 2 [aPz] zz17 ⟨AV.agg [cJ ((((zQS (reQ q)).1).kind)),cJ ((((zQS (reQ q)).1).image)),cJ ((((zQS (reQ q)).1).x)),cJ ((((zQS (reQ q)).1).y)),cJ ((((zQS (reQ q)).1).mask)),cJ ((((zQS (reQ q)).1).mx)),cJ ((((zQS (reQ q)).1).my)),cK ((((zQS (reQ q)).1).opac)),cJ ((((zQS (reQ q)).1).oper)),cJ ((((zQS (reQ q)).1).mode)),Cl.d (dQ (((zQS (reQ q)).1).iso)),Cl.d (dQ (((zQS (reQ q)).1).kno))],zz20,false⟩)∧True∧tU8 ((zZf 12 88 p.s.ops.length 1 (ops p.s.ops) ((Oq.cells ((zQS (reQ q)).1))))∧tU4 ((true=true)∧True∧(AnsG Tryz.prog 107 2 [aPz] zz20 ⟨AV.one (Cl.d (dQ ((((reQ ((zQS (reQ q)).2))).ws).isEmpty && !((reQ ((zQS (reQ q)).2))).bad))),[bC [Cl.clo 105 [Cap.ptr 1 0],Cl.d (dQ ((zQX (reQ ((zQS (reQ q)).2))).bad))],bC [Cl.d (dS ((zQX (reQ ((zQS (reQ q)).2))).ws.length) (strs (zQX (reQ ((zQS (reQ q)).2))).ws))]],false⟩)∧True∧(((dQ ((((reQ ((zQS (reQ q)).2))).ws).isEmpty && !((reQ ((zQS (reQ q)).2))).bad)=dQ yy3)∧True)∧(zz19∧zz13∧zz14∧((ops p.s.ops)++((Oq.cells ((zQS (reQ q)).1)))=ops yy2.s.ops)∧zz15∧True))∧zQv ⟨AV.one yy1,yy0,false⟩)))∧(((toS w).toList==(⟨#[112,117,115,104]⟩:ByteArray).toList)=false→tU2 (((((toS w).toList==(⟨#[112,111,112]⟩:ByteArray).toList)=true→tU8 ((zZf 12 88 p.s.ops.length 1 (ops p.s.ops) ([dJ 3,dJ 0,dJ 0,dJ 0,dJ 0,dJ 0,dJ 0,dK 0,dJ 0,dJ 0,dQ false,dQ false]))∧tU4 ((true=true)∧True∧(AnsG Tryz.prog 107 2 [aPz] zz17 ⟨AV.one (Cl.d (dQ ((((reQ q)).ws).isEmpty && !((reQ q)).bad))),[bC [Cl.clo 105 [Cap.ptr 1 0],Cl.d (dQ ((zQX (reQ q)).bad))],bC [Cl.d (dS ((zQX (reQ q)).ws.length) (strs (zQX (reQ q)).ws))]],false⟩)∧True∧(((dQ ((((reQ q)).ws).isEmpty && !((reQ q)).bad)=dQ yy3)∧True)∧(zz19∧zz13∧zz14∧((ops p.s.ops)++([dJ 3,dJ 0,dJ 0,dJ 0,dJ 0,dJ 0,dJ 0,dK 0,dJ 0,dJ 0,dQ false,dQ false])=ops yy2.s.ops)∧zz15∧True))∧zQv ⟨AV.one yy1,yy0,false⟩)))∧(((toS w).toList==(⟨#[112,111,112]⟩:ByteArray).toList)=false→True∧zz16∧zQv ⟨AV.one yy1,yy0,false⟩))))))))))))):=by kernel_rfl
theorem zWb (p:PP) (q:LQ) (w:Lb) (hq:okQ q) (hx:p.px.length≤68719476736) (hi:p.s.ims.length≤68719476736) (hp:p.s.ops.length≤68719476736) (hn:p.s.ord.length≤68719476736) (hf:0≤p.w*p.h∧p.w*p.h≤16777216) (hd:0≤p.part∧p.part≤5):AnsG Tryz.prog 78 1 [AV.one (Cl.ptr 0 0),AV.one (Cl.ptr 1 0),AV.one (Cl.d (DV.str (toS w)))] [Bx.cells (ppC p p.part 2),Bx.cells [Cl.clo 105 [Cap.ptr 6 0],Cl.d (DV.bool q.bad)],Bx.row 3 1 (is p.s.ord),Bx.row 43 28 (ims p.s.ims),Bx.row 51 12 (ops p.s.ops),Bx.row 37 5 (pxs p.px),Bx.cells [Cl.d (DV.sl q.ws.length (strs q.ws))]] ⟨AV.one (Cl.d (DV.bool ((pOp p q (ofS (toS w))).2))),[Bx.cells (ppC ((pOp p q (ofS (toS w))).1) (((pOp p q (ofS (toS w))).1).part) 1),Bx.row 3 1 (is ((pOp p q (ofS (toS w))).1).s.ord),Bx.row 43 28 (ims ((pOp p q (ofS (toS w))).1).s.ims),Bx.row 51 12 (ops ((pOp p q (ofS (toS w))).1).s.ops),Bx.row 37 5 (pxs ((pOp p q (ofS (toS w))).1).px)],false⟩:=
 zQz (Γ:=zWC) (zYK p q w) zQC Tryz.func78 rfl (Nat.le_of_ble_eq_true rfl) rfl fun hwf hbx=>by
  refine Eq.mpr (zWV p q w) ?_
  delta tU2 tU4 tU6 tU8 dJ dK dQ cJ cK dS aPz bC
  simp only [true_and,and_true,RV.d.injEq,RV.agg.injEq,RV.tup.injEq,DV.bool.injEq,DV.int.injEq,DV.sl.injEq,List.cons.injEq,forall_const,Bool.not_false,Bool.not_true,Bool.not_eq_true',Bool.not_eq_false',decide_eq_true_eq,decide_eq_false_iff_not,Int.toNat_natCast,ppC,ppE]
  simp only [zZQ,zQZ,zZP,zZu,zZg,zQL,zZh]
  clear hwf hbx
  have lb:(⟨#[98,105,116,115]⟩:ByteArray)=toS zYG:=rfl
  have lc:(⟨#[99,97,110,118,97,115]⟩:ByteArray)=toS zZL:=rfl
  have lt:(⟨#[116,105,108,101,115]⟩:ByteArray)=toS zXo:=rfl
  have li:(⟨#[105,109,97,103,101]⟩:ByteArray)=toS zQ5:=rfl
  have ld:(⟨#[100,114,97,119]⟩:ByteArray)=toS zZ9:=rfl
  have lu:(⟨#[112,117,115,104]⟩:ByteArray)=toS zXi:=rfl
  have lo:(⟨#[112,111,112]⟩:ByteArray)=toS sPop:=rfl
  have lr:(⟨#[111,114,100,101,114]⟩:ByteArray)=toS zZD:=rfl
  have ls:(⟨#[115,111,108,105,100]⟩:ByteArray)=toS zQ9:=rfl
  simp only [ld,lu,lo,zVZ,decide_eq_true_eq,decide_eq_false_iff_not]
  refine ⟨by unfold maxLen; omega,fun h1=>?_,fun h1=>⟨fun h2=>⟨(by (first | exact zQr _ (by repeat (first | assumption | apply zQe | apply zQg | apply zQi | apply zQh)) | exact zQn _ (by repeat (first | assumption | apply zQe | apply zQg | apply zQi | apply zQh)) | exact zQl _ (by repeat (first | assumption | apply zQe | apply zQg | apply zQi | apply zQh)) | exact zQm _ | exact zQt _ (by repeat (first | assumption | apply zQe | apply zQg | apply zQi | apply zQh)) | exact zQw _ (by repeat (first | assumption | apply zQe | apply zQg | apply zQi | apply zQh)) | exact zQy _ (by repeat (first | assumption | apply zQe | apply zQg | apply zQi | apply zQh)) | exact zQx _ (by repeat (first | assumption | apply zQe | apply zQg | apply zQi | apply zQh)))),⟨zZl _,rfl,by unfold maxLen; omega,by omega⟩,(by (first | exact zQr _ (by repeat (first | assumption | apply zQe | apply zQg | apply zQi | apply zQh)) | exact zQn _ (by repeat (first | assumption | apply zQe | apply zQg | apply zQi | apply zQh)) | exact zQl _ (by repeat (first | assumption | apply zQe | apply zQg | apply zQi | apply zQh)) | exact zQm _ | exact zQt _ (by repeat (first | assumption | apply zQe | apply zQg | apply zQi | apply zQh)) | exact zQw _ (by repeat (first | assumption | apply zQe | apply zQg | apply zQi | apply zQh)) | exact zQy _ (by repeat (first | assumption | apply zQe | apply zQg | apply zQi | apply zQh)) | exact zQx _ (by repeat (first | assumption | apply zQe | apply zQg | apply zQi | apply zQh)))),?_⟩,fun h2=>⟨fun h3=>⟨(by (first | exact zQr _ (by repeat (first | assumption | apply zQe | apply zQg | apply zQi | apply zQh)) | exact zQn _ (by repeat (first | assumption | apply zQe | apply zQg | apply zQi | apply zQh)) | exact zQl _ (by repeat (first | assumption | apply zQe | apply zQg | apply zQi | apply zQh)) | exact zQm _ | exact zQt _ (by repeat (first | assumption | apply zQe | apply zQg | apply zQi | apply zQh)) | exact zQw _ (by repeat (first | assumption | apply zQe | apply zQg | apply zQi | apply zQh)) | exact zQy _ (by repeat (first | assumption | apply zQe | apply zQg | apply zQi | apply zQh)) | exact zQx _ (by repeat (first | assumption | apply zQe | apply zQg | apply zQi | apply zQh)))),⟨zZl _,rfl,by unfold maxLen; omega,by omega⟩,(by (first | exact zQr _ (by repeat (first | assumption | apply zQe | apply zQg | apply zQi | apply zQh)) | exact zQn _ (by repeat (first | assumption | apply zQe | apply zQg | apply zQi | apply zQh)) | exact zQl _ (by repeat (first | assumption | apply zQe | apply zQg | apply zQi | apply zQh)) | exact zQm _ | exact zQt _ (by repeat (first | assumption | apply zQe | apply zQg | apply zQi | apply zQh)) | exact zQw _ (by repeat (first | assumption | apply zQe | apply zQg | apply zQi | apply zQh)) | exact zQy _ (by repeat (first | assumption | apply zQe | apply zQg | apply zQi | apply zQh)) | exact zQx _ (by repeat (first | assumption | apply zQe | apply zQg | apply zQi | apply zQh)))),?_⟩,fun h3=>⟨fun h4=>⟨⟨zZl _,rfl,by unfold maxLen; omega,by omega⟩,(by (first | exact zQr _ (by repeat (first | assumption | apply zQe | apply zQg | apply zQi | apply zQh)) | exact zQn _ (by repeat (first | assumption | apply zQe | apply zQg | apply zQi | apply zQh)) | exact zQl _ (by repeat (first | assumption | apply zQe | apply zQg | apply zQi | apply zQh)) | exact zQm _ | exact zQt _ (by repeat (first | assumption | apply zQe | apply zQg | apply zQi | apply zQh)) | exact zQw _ (by repeat (first | assumption | apply zQe | apply zQg | apply zQi | apply zQh)) | exact zQy _ (by repeat (first | assumption | apply zQe | apply zQg | apply zQi | apply zQh)) | exact zQx _ (by repeat (first | assumption | apply zQe | apply zQg | apply zQi | apply zQh)))),?_⟩,fun h4=>?_⟩⟩⟩⟩
  ·have e:pOp p q w=(p,false):=by unfold pOp; rw [if_pos (by omega)]
   rw [e]; ((repeat' apply And.intro) <;> first | rfl | trivial | (simp only [List.length_append,List.length_cons,List.length_nil]; done) | (simp [ims]; done) | (simp [ops]; done) | (simp [ops,Oq.cells]; done) | exact zQY _ | (simp [pxs]; done))
  ·have e:pOp p q w=({ p with s:={ p.s with ops:=p.s.ops++[(zQT q).1] } },cmpQ (zQT q).2):=by unfold pOp; rw [if_neg (by omega),if_pos h2]
   rw [e]; ((repeat' apply And.intro) <;> first | rfl | trivial | (simp only [List.length_append,List.length_cons,List.length_nil]; done) | (simp [ims]; done) | (simp [ops]; done) | (simp [ops,Oq.cells]; done) | exact zQY _ | (simp [pxs]; done))
  ·have e:pOp p q w=({ p with s:={ p.s with ops:=p.s.ops++[(zQS q).1] } },cmpQ (zQS q).2):=by unfold pOp; rw [if_neg (by omega),if_neg h2,if_pos h3]
   rw [e]; ((repeat' apply And.intro) <;> first | rfl | trivial | (simp only [List.length_append,List.length_cons,List.length_nil]; done) | (simp [ims]; done) | (simp [ops]; done) | (simp [ops,Oq.cells]; done) | exact zQY _ | (simp [pxs]; done))
  ·have e:pOp p q w=({ p with s:={ p.s with ops:=p.s.ops++[⟨3,0,0,0,0,0,0,0,0,0,false,false⟩] } },cmpQ q):=by unfold pOp; rw [if_neg (by omega),if_neg h2,if_neg h3,if_pos h4]
   rw [e]; ((repeat' apply And.intro) <;> first | rfl | trivial | (simp only [List.length_append,List.length_cons,List.length_nil]; done) | (simp [ims]; done) | (simp [ops]; done) | (simp [ops,Oq.cells]; done) | exact zQY _ | (simp [pxs]; done))
  ·have e:pOp p q w=(p,false):=by unfold pOp; rw [if_neg (by omega),if_neg h2,if_neg h3,if_neg h4]
   rw [e]; ((repeat' apply And.intro) <;> first | rfl | trivial | (simp only [List.length_append,List.length_cons,List.length_nil]; done) | (simp [ims]; done) | (simp [ops]; done) | (simp [ops,Oq.cells]; done) | exact zQY _ | (simp [pxs]; done))
def zXF (p:PP):Ann:=Ann.leaf
theorem zJ9 (p:PP):vcg Tryz.prog zWC ⟨8,fun _=>false,List.range 5,false⟩ (zQA Tryz.f37) (zXF p) kn0 (zZc [aPz] [Bx.cells (ppC p p.part 1),Bx.row 3 1 (is p.s.ord),Bx.row 43 28 (ims p.s.ims),Bx.row 51 12 (ops p.s.ops),Bx.row 37 5 (pxs p.px)]) (zZJ Tryz.prog ⟨8,fun _=>false,List.range 5,false⟩ Tryz.f37.results.toList ⟨AV.one (Cl.d (dQ (decide (p.h > (0:Int))))),[Bx.cells (ppC p p.part 1),Bx.row 3 1 (is p.s.ord),Bx.row 43 28 (ims p.s.ims),Bx.row 51 12 (ops p.s.ops),Bx.row 37 5 (pxs p.px)],false⟩) =
 (tU7 ((((dQ (decide (p.h > (0:Int)))=dQ (decide (p.h > (0:Int))))∧True)∧(ppE p p))∧zQv ⟨AV.one (Cl.d (dQ (decide (p.h > (0:Int))))),[Bx.cells (ppC p p.part 1),Bx.row 3 1 (is p.s.ord),Bx.row 43 28 (ims p.s.ims),Bx.row 51 12 (ops p.s.ops),Bx.row 37 5 (pxs p.px)],false⟩)):=by kernel_rfl
theorem zXE (p:PP):AnsG Tryz.prog 37 5 [AV.one (Cl.ptr 0 0)] [Bx.cells (ppC p p.part 1),Bx.row 3 1 (is p.s.ord),Bx.row 43 28 (ims p.s.ims),Bx.row 51 12 (ops p.s.ops),Bx.row 37 5 (pxs p.px)] ⟨AV.one (Cl.d (DV.bool (decide (p.h > (0:Int))))),[Bx.cells (ppC p p.part 1),Bx.row 3 1 (is p.s.ord),Bx.row 43 28 (ims p.s.ims),Bx.row 51 12 (ops p.s.ops),Bx.row 37 5 (pxs p.px)],false⟩:=
 zQz (Γ:=zWC) (zXF p) zQC Tryz.func37 rfl (Nat.le_of_ble_eq_true rfl) rfl fun hwf hbx=>by
  refine Eq.mpr (zJ9 p) ?_
  delta tU7 dQ
  simp only [true_and,and_true,RV.d.injEq,RV.agg.injEq,RV.tup.injEq,DV.bool.injEq,DV.int.injEq,DV.sl.injEq,List.cons.injEq,forall_const,Bool.not_false,Bool.not_true,Bool.not_eq_true',Bool.not_eq_false',decide_eq_true_eq,decide_eq_false_iff_not,Int.toNat_natCast,ppC,ppE]
  ((repeat' apply And.intro) <;> first | rfl | trivial | (simp only [List.length_append,List.length_cons,List.length_nil]; done) | (simp [ims]; done) | (simp [ops]; done) | (simp [ops,Oq.cells]; done) | exact zQY _ | (simp [pxs]; done))
def zX0 (p:PP) (w:Lb):Ann:=(Ann.seq Ann.leaf (Ann.seq Ann.leaf (Ann.seq (Ann.seq Ann.leaf (Ann.loop ⟨Nat,fun k=>k≤(zQp w).length - 1∧(((zQp w).drop 1).take k).all (okN 0 4294967295)=true,fun k=>⟨[(0,aPz),(5,AV.one (Cl.d (dS (((((zQp (ofS ((toS w)))).length:Nat):Int) - (1:Int)).toNat) (List.take (((((zQp (ofS ((toS w)))).length:Nat):Int) - (1:Int)).toNat*1) (List.drop ((1:Int).toNat*1) (strs (zQp (ofS ((toS w)))))))))),(13,AV.one (Cl.d (dS (((((zQp (ofS ((toS w)))).length:Nat):Int) - (1:Int)).toNat) (List.take (((((zQp (ofS ((toS w)))).length:Nat):Int) - (1:Int)).toNat*1) (List.drop ((1:Int).toNat*1) (strs (zQp (ofS ((toS w)))))))))),(14,aJ ((((((((zQp (ofS ((toS w)))).length:Nat):Int) - (1:Int)).toNat:Nat):Int)))),(15,aJ (((k:Int))))],[(0,bC [cJ (((p).s.bits)),cJ (((p).s.c.a)),cJ (((p).s.c.b)),cJ (((p).s.c.c)),cJ (((p).s.c.d)),cJ (((p).s.tw)),cJ (((p).s.th)),Cl.ref 2001 ((p.s.ord++(((zQp w).drop 1).take k).map numV).length),Cl.ref 2 ((p).s.ims.length),Cl.ref 3 ((p).s.ops.length),cJ (((p).part)),cJ (((p).w)),cJ (((p).h)),Cl.ref 4 ((p).px.length)]),(2001,Bx.row 3 1 (is (p.s.ord++(((zQp w).drop 1).take k).map numV))),(2,Bx.row 43 28 (ims p.s.ims)),(3,Bx.row 51 12 (ops p.s.ops)),(4,Bx.row 37 5 (pxs p.px))]⟩,fun k=>(zQp w).length - 1 - k⟩ fun k=>Ann.leaf)) Ann.leaf)))
theorem zVf (p:PP) (w:Lb):vcg Tryz.prog zWC ⟨50,fun _=>false,List.range 1,false⟩ (zQA Tryz.f76) (zX0 p w) kn0 (zZc [aPz,AV.one (Cl.d (DV.str (toS w)))] [Bx.cells (ppC p p.part 1),Bx.row 3 1 (is p.s.ord),Bx.row 43 28 (ims p.s.ims),Bx.row 51 12 (ops p.s.ops),Bx.row 37 5 (pxs p.px)]) (zZJ Tryz.prog ⟨50,fun _=>false,List.range 1,false⟩ Tryz.f76.results.toList ⟨AV.one (Cl.d (dQ ((zZr p (ofS (toS w))).2))),[Bx.cells (ppC ((zZr p (ofS (toS w))).1) (((zZr p (ofS (toS w))).1).part) 1),Bx.row 3 1 (is ((zZr p (ofS (toS w))).1).s.ord),Bx.row 43 28 (ims ((zZr p (ofS (toS w))).1).s.ims),Bx.row 51 12 (ops ((zZr p (ofS (toS w))).1).s.ops),Bx.row 37 5 (pxs ((zZr p (ofS (toS w))).1).px)],false⟩) =
 (let yy6:=((zZr p (ofS (toS w))).1); let yy7:=((zZr p (ofS (toS w))).2); let yy1:=[Bx.cells (ppC yy6 (yy6.part) 1),Bx.row 3 1 (is yy6.s.ord),Bx.row 43 28 (ims yy6.s.ims),Bx.row 51 12 (ops yy6.s.ops),Bx.row 37 5 (pxs yy6.px)]; let yy2:=(((zQp (ofS ((toS w)))).length:Nat):Int); let yy0:=(List.take ((yy2 - (1:Int)).toNat*1) (List.drop ((1:Int).toNat*1) (strs (zQp (ofS ((toS w))))))); let yy3:=(((yy2 - (1:Int)).toNat:Nat):Int); let zz0:=fun (k:Nat)=>(k≤(zQp w).length - 1∧(((zQp w).drop 1).take k).all (okN 0 4294967295)=true); let zz1:=(dS ((yy2 - (1:Int)).toNat) yy0=dS ((yy2 - (1:Int)).toNat) yy0); let zz2:=(dJ yy3=dJ yy3); let zz3:=fun (k:Nat)=>(((dJ ((p).s.bits)=dJ (yy6.s.bits))∧(dJ ((p).s.c.a)=dJ (yy6.s.c.a))∧(dJ ((p).s.c.b)=dJ (yy6.s.c.b))∧(dJ ((p).s.c.c)=dJ (yy6.s.c.c))∧(dJ ((p).s.c.d)=dJ (yy6.s.c.d))∧(dJ ((p).s.tw)=dJ (yy6.s.tw))∧(dJ ((p).s.th)=dJ (yy6.s.th))∧((p.s.ord++(((zQp w).drop 1).take k).map numV).length=yy6.s.ord.length)∧((p).s.ims.length=yy6.s.ims.length)∧((p).s.ops.length=yy6.s.ops.length)∧(dJ ((p).part)=dJ (yy6.part))∧(dJ ((p).w)=dJ (yy6.w))∧(dJ ((p).h)=dJ (yy6.h))∧((p).px.length=yy6.px.length)∧True)∧(is (p.s.ord++(((zQp w).drop 1).take k).map numV)=is yy6.s.ord)∧(ims p.s.ims=ims yy6.s.ims)∧(ops p.s.ops=ops yy6.s.ops)∧(pxs p.px=pxs yy6.px)∧True); let zz4:=fun (k:Nat)=>(((dQ false=dQ yy7)∧True)∧(zz3 k)); tU2 ((Ans Tryz.prog 104 [RV.d (DV.str (toS w)),RV.d (DV.str (⟨#[32]⟩:ByteArray))] (RV.d (dS ((zQp (ofS ((toS w)))).length) (strs (zQp (ofS ((toS w))))))))∧(0≤(1:Int)∧(1:Int)≤yy2∧yy2≤yy2)∧tU4 (((∃ k:Nat,(zz0 k)∧(((0=0)∧zz1∧zz1∧zz2∧(dJ 0=dJ (k:Int))∧True)∧(((dJ p.s.bits=dJ ((p).s.bits))∧(dJ p.s.c.a=dJ ((p).s.c.a))∧(dJ p.s.c.b=dJ ((p).s.c.b))∧(dJ p.s.c.c=dJ ((p).s.c.c))∧(dJ p.s.c.d=dJ ((p).s.c.d))∧(dJ p.s.tw=dJ ((p).s.tw))∧(dJ p.s.th=dJ ((p).s.th))∧(p.s.ord.length=(p.s.ord++(((zQp w).drop 1).take k).map numV).length)∧(p.s.ims.length=(p).s.ims.length)∧(p.s.ops.length=(p).s.ops.length)∧(dJ p.part=dJ ((p).part))∧(dJ p.w=dJ ((p).w))∧(dJ p.h=dJ ((p).h))∧(p.px.length=(p).px.length)∧True)∧(is p.s.ord=is (p.s.ord++(((zQp w).drop 1).take k).map numV))∧(ims p.s.ims=ims p.s.ims)∧(ops p.s.ops=ops p.s.ops)∧(pxs p.px=pxs p.px)∧True)))∧∀ k:Nat,let yy4:=(numP (ofS ((sAt yy0 ((k:Int).toNat*1))))); let yy5:=(p.s.ord++(((zQp w).drop 1).take k).map numV); (zz0 k)→True∧(((decide ((k:Int) < yy3))=true→(0≤(k:Int)∧(k:Int) < yy3∧(k:Int).toNat*1 < yy0.length)∧((yy0[(k:Int).toNat*1]?=some (DV.str (sAt yy0 ((k:Int).toNat*1))))∧True)∧tU2 ((Ans Tryz.prog 112 [RV.d (DV.str (sAt yy0 ((k:Int).toNat*1)))] (RV.tup [rJ ((yy4.1)),RV.d (dQ (yy4.2))]))∧tU8 ((((!(yy4.2))=false→tU4 ((((decide ((yy4.1) < (0:Int)))=false→tU3 ((((decide ((yy4.1) > (4294967295:Int)))=true→True∧(zz4 k)∧zQv ⟨AV.one (Cl.d (dQ yy7)),yy1,false⟩)∧((decide ((yy4.1) > (4294967295:Int)))=false→tU8 ((zZf 1 8 (yy5.length) 1 (is yy5) ([dJ (yy4.1)]))∧tU6 (∃ k':Nat,(k'≤(zQp w).length - 1∧(((zQp w).drop 1).take k').all (okN 0 4294967295)=true)∧((zQp w).length - 1 - k' < (zQp w).length - 1 - k)∧(((0=0)∧zz1∧zz1∧zz2∧(dJ (wK ((k:Int)+(1:Int)))=dJ (k':Int))∧True)∧(((dJ ((p).s.bits)=dJ ((p).s.bits))∧(dJ ((p).s.c.a)=dJ ((p).s.c.a))∧(dJ ((p).s.c.b)=dJ ((p).s.c.b))∧(dJ ((p).s.c.c)=dJ ((p).s.c.c))∧(dJ ((p).s.c.d)=dJ ((p).s.c.d))∧(dJ ((p).s.tw)=dJ ((p).s.tw))∧(dJ ((p).s.th)=dJ ((p).s.th))∧((yy5.length)+1=(p.s.ord++(((zQp w).drop 1).take k').map numV).length)∧((p).s.ims.length=(p).s.ims.length)∧((p).s.ops.length=(p).s.ops.length)∧(dJ ((p).part)=dJ ((p).part))∧(dJ ((p).w)=dJ ((p).w))∧(dJ ((p).h)=dJ ((p).h))∧((p).px.length=(p).px.length)∧True)∧((is yy5)++([dJ (yy4.1)])=is (p.s.ord++(((zQp w).drop 1).take k').map numV))∧(ims p.s.ims=ims p.s.ims)∧(ops p.s.ops=ops p.s.ops)∧(pxs p.px=pxs p.px)∧True))))))))∧((decide ((yy4.1) < (0:Int)))=(!false)→tU2 ((zz4 k)∧zQv ⟨AV.one (Cl.d (dQ yy7)),yy1,false⟩)))))∧((!(yy4.2))=(!false)→tU4 ((zz4 k)∧zQv ⟨AV.one (Cl.d (dQ yy7)),yy1,false⟩))))))∧((decide ((k:Int) < yy3))=false→tU4 ((((dQ (decide (yy3 > (0:Int)))=dQ yy7)∧True)∧(zz3 k))∧zQv ⟨AV.one (Cl.d (dQ yy7)),yy1,false⟩))))))):=by kernel_rfl
theorem zJ8 (p:PP) (w:Lb) (hw:w.length≤4294967280) (hx:p.px.length≤68719476736) (hi:p.s.ims.length≤68719476736) (hp:p.s.ops.length≤68719476736) (hn:p.s.ord.length≤68719476736) (hf:0≤p.w*p.h∧p.w*p.h≤16777216) (hd:0≤p.part∧p.part≤5):AnsG Tryz.prog 76 1 [AV.one (Cl.ptr 0 0),AV.one (Cl.d (DV.str (toS w)))] [Bx.cells (ppC p p.part 1),Bx.row 3 1 (is p.s.ord),Bx.row 43 28 (ims p.s.ims),Bx.row 51 12 (ops p.s.ops),Bx.row 37 5 (pxs p.px)] ⟨AV.one (Cl.d (DV.bool ((zZr p (ofS (toS w))).2))),[Bx.cells (ppC ((zZr p (ofS (toS w))).1) (((zZr p (ofS (toS w))).1).part) 1),Bx.row 3 1 (is ((zZr p (ofS (toS w))).1).s.ord),Bx.row 43 28 (ims ((zZr p (ofS (toS w))).1).s.ims),Bx.row 51 12 (ops ((zZr p (ofS (toS w))).1).s.ops),Bx.row 37 5 (pxs ((zZr p (ofS (toS w))).1).px)],false⟩:=
 zQz (Γ:=zWC) (zX0 p w) zQC Tryz.func76 rfl (Nat.le_of_ble_eq_true rfl) rfl fun hwf hbx=>by
  refine Eq.mpr (zVf p w) ?_
  delta tU2 tU3 tU4 tU6 tU8 dJ dQ wK dS rJ
  simp only [true_and,and_true,RV.d.injEq,RV.agg.injEq,RV.tup.injEq,DV.bool.injEq,DV.int.injEq,DV.sl.injEq,List.cons.injEq,forall_const,Bool.not_false,Bool.not_true,Bool.not_eq_true',Bool.not_eq_false',decide_eq_true_eq,decide_eq_false_iff_not,Int.toNat_natCast,ppC,ppE]
  simp only [zZQ,zQZ,zZP,zZu,zZg,zQL,zZh]
  clear hwf hbx
  have aS:=jXr w (by omega)
  have hne:=jZu w
  have hsl:=zW5 w
  have hwl:=zW4 _ w (Nat.le_refl _)
  have go:zZr p w=({ p with s:={ p.s with ord:=p.s.ord++zWr ((zQp w).drop 1) } },((zQp w).drop 1).all (okN 0 4294967295) && decide (1 < (zQp w).length)):=rfl
  obtain ⟨ws,hws⟩:∃ ws,zQp w=ws:=⟨_,rfl⟩
  simp only [hws] at aS hne hsl hwl go ⊢
  clear hws
  match ws,hne with
  | k0::r,_=>
  have dr:List.take r.length (List.drop 1 (strs (k0::r)))=strs r:=by
   rw [show (strs (k0::r)).drop 1=strs r from rfl]
   exact List.take_of_length_le (by rw [zXe]; simp)
  have drn:((((k0::r).length:Nat):Int) - 1).toNat=r.length:=by simp
  have d1:(k0::r).drop 1=r:=rfl
  have hl:(k0::r).length=r.length+1:=rfl
  have hi1:Int.toNat 1=1:=rfl
  simp only [Nat.mul_one,hi1,dr,drn,d1,zXe]
  rw [d1] at go
  refine ⟨aS,⟨by omega,by omega,by omega⟩,⟨0,⟨by omega,rfl⟩,by rfl,by simp⟩,fun k hk=>⟨fun hlt=>?_,fun hge=>?_⟩⟩
  ·have h:k < r.length:=by omega
   obtain ⟨hk1,hk2⟩:=hk
   obtain ⟨q1,q2⟩:=jQu h
   obtain ⟨x,hx'⟩:∃ x,r[k]=x:=⟨_,rfl⟩
   have hxl:x.length≤281474976710656:=by have:=hwl x (List.mem_cons_of_mem _ (by rw [← hx']; exact List.getElem_mem h)); omega
   have hts:r.take (k+1)=r.take k++[x]:=by rw [List.take_add_one,List.getElem?_eq_getElem h,hx']; rfl
   have hsp:r=r.take k++x::r.drop (k+1):=by rw [← hx',List.getElem_cons_drop,List.take_append_drop]
   rw [hx'] at q1 q2
   have aN:=zKh x hxl
   have v:(numP x).2=true→(numP x).1=numV x:=fun h=>by
    show zV0 x=_
    unfold zV0
    rw [zJo h]
   have bad:okN 0 4294967295 x=false→zZr p w=({ p with s:={ p.s with ord:=p.s.ord++(r.take k).map numV } },false):=fun hb=>by
    rw [go]
    have h1:r.all (okN 0 4294967295)=false:=by rw [hsp,List.all_append,List.all_cons,hb]; simp
    have h2:zWr r=(r.take k).map numV:=by
     conv=>lhs; rw [hsp]
     exact jKD hk2 hb
    rw [h1,h2]; rfl
   simp only [q2,zZh]
   have no:¬((numP x).2=true∧¬(numP x).1 < 0∧¬(numP x).1 > 4294967295)→okN 0 4294967295 x=false:=fun h=>by
    cases hb:okN 0 4294967295 x with
    | false=>rfl
    | true=>
     unfold okN at hb
     simp only [Bool.and_eq_true,decide_eq_true_eq] at hb
     have hc:(numP x).2=true:=hb.1.1
     exact absurd ⟨hc,by rw [v hc]; omega,by rw [v hc]; omega⟩ h
   refine ⟨⟨by omega,by omega,h⟩,q1,aN,fun h1=>⟨fun h2=>⟨fun h3=>?_,fun h3=>⟨?_,k+1,⟨by omega,?_⟩,by omega,?_⟩⟩,fun h2=>?_⟩,fun h1=>?_⟩
   ·rw [bad (no fun g=>g.2.2 h3)]; ((repeat' apply And.intro) <;> first | rfl | trivial | (simp only [List.length_append,List.length_cons,List.length_nil]; done) | (simp [ims]; done) | (simp [ops]; done) | (simp [ops,Oq.cells]; done) | exact zQY _ | (simp [pxs]; done))
   ·exact ⟨by simp [is],rfl,by simp; unfold maxLen; omega,by simp; omega⟩
   ·have hb:okN 0 4294967295 x=true:=by
     have e:=v h1
     have h1:zY6 x=true:=h1
     rw [e] at h2 h3
     unfold okN; rw [h1]; simp; omega
    rw [hts,List.all_append,hk2,List.all_cons,hb]; rfl
   ·have w1:IntKind.wrap .i64 ((k:Int)+1)=((k+1:Nat):Int):=by rw [IntWalk.i64_in _ ⟨by omega,by omega⟩]; omega
    rw [hts,v h1,w1]
    (repeat' apply And.intro) <;> first | rfl | trivial | (simp; done) | (simp [is]; done) | (simp; omega)
   ·rw [bad (no fun g=>g.2.1 h2)]; ((repeat' apply And.intro) <;> first | rfl | trivial | (simp only [List.length_append,List.length_cons,List.length_nil]; done) | (simp [ims]; done) | (simp [ops]; done) | (simp [ops,Oq.cells]; done) | exact zQY _ | (simp [pxs]; done))
   ·rw [bad (no fun g=>by rw [h1] at g; exact absurd g.1 (by decide))]; ((repeat' apply And.intro) <;> first | rfl | trivial | (simp only [List.length_append,List.length_cons,List.length_nil]; done) | (simp [ims]; done) | (simp [ops]; done) | (simp [ops,Oq.cells]; done) | exact zQY _ | (simp [pxs]; done))
  ·have:k=r.length:=by omega
   subst this
   obtain ⟨_,hk2⟩:=hk
   rw [List.take_length] at hk2
   have e:zZr p w=({ p with s:={ p.s with ord:=p.s.ord++r.map numV } },decide (0 < r.length)):=by
    rw [go,hk2,jYN hk2,Bool.true_and]
    congr 1
    simp
   rw [e,List.take_length]
   have e2:decide ((r.length:Int) > 0)=decide (0 < r.length):=by rw [Bool.eq_iff_iff]; simp
   rw [e2]
   ((repeat' apply And.intro) <;> first | rfl | trivial | (simp only [List.length_append,List.length_cons,List.length_nil]; done) | (simp [ims]; done) | (simp [ops]; done) | (simp [ops,Oq.cells]; done) | exact zQY _ | (simp [pxs]; done))
def zYb (p:PP) (w:Lb):Ann:=Ann.leaf
theorem zVJ (p:PP) (w:Lb):vcg Tryz.prog zWC ⟨69,fun _=>false,List.range 1,false⟩ (zQA Tryz.f36) (zYb p w) kn0 (zZc [aPz,AV.one (Cl.d (DV.str (toS w)))] [Bx.cells (ppC p p.part 1),Bx.row 3 1 (is p.s.ord),Bx.row 43 28 (ims p.s.ims),Bx.row 51 12 (ops p.s.ops),Bx.row 37 5 (pxs p.px)]) (zZJ Tryz.prog ⟨69,fun _=>false,List.range 1,false⟩ Tryz.f36.results.toList ⟨AV.one (Cl.d (dQ ((zZY p (ofS (toS w))).2))),[Bx.cells (ppC ((zZY p (ofS (toS w))).1) (((zZY p (ofS (toS w))).1).part) 1),Bx.row 3 1 (is ((zZY p (ofS (toS w))).1).s.ord),Bx.row 43 28 (ims ((zZY p (ofS (toS w))).1).s.ims),Bx.row 51 12 (ops ((zZY p (ofS (toS w))).1).s.ops),Bx.row 37 5 (pxs ((zZY p (ofS (toS w))).1).px)],false⟩) =
 (let yy9:=((zZY p (ofS (toS w))).1); let yy10:=((zZY p (ofS (toS w))).2); let yy1:=(⟨⟨p.s.bits,p.s.c,p.s.tw,p.s.th,ints (is p.s.ord),zZ6 (ims p.s.ims),zZb (ops p.s.ops)⟩,(4:Int),p.w,p.h,zQb (pxs p.px)⟩:PP); let yy3:=(⟨⟨p.s.bits,p.s.c,p.s.tw,p.s.th,ints (is p.s.ord),zZ6 (ims p.s.ims),zZb (ops p.s.ops)⟩,p.part,p.w,p.h,zQb (pxs p.px)⟩:PP); let yy4:=[Bx.cells (ppC yy9 (yy9.part) 1),Bx.row 3 1 (is yy9.s.ord),Bx.row 43 28 (ims yy9.s.ims),Bx.row 51 12 (ops yy9.s.ops),Bx.row 37 5 (pxs yy9.px)]; let yy7:=(Cl.d (dQ yy10)); let yy8:=(⟨zQp (ofS ((toS w))),false⟩:LQ); let yy2:=(reQ yy8); let yy0:=(pOp (⟨⟨p.s.bits,p.s.c,p.s.tw,p.s.th,ints (is p.s.ord),zZ6 (ims p.s.ims),zZb (ops p.s.ops)⟩,(5:Int),p.w,p.h,zQb (pxs p.px)⟩:PP) (reQ (zQ1 yy2)) (ofS ((toS (zQ6 (yy2).ws))))); let yy5:=(zZj yy1 (reQ (zQ1 yy2)) (ofS ((toS (zQ6 (yy2).ws))))); let yy6:=(zZO yy3 (reQ (zQ1 yy2)) (ofS ((toS (zQ6 (yy2).ws))))); let zz0:=[Cl.d (dS ((yy8).ws.length) (strs (yy8).ws))]; let zz1:=[bC [Cl.clo 105 [Cap.ptr 1 0],Cl.d (dQ ((yy8).bad))],Bx.cells zz0]; let zz2:=[Bx.cells (ppC p p.part 1),Bx.row 3 1 (is p.s.ord),Bx.row 43 28 (ims p.s.ims),Bx.row 51 12 (ops p.s.ops),Bx.row 37 5 (pxs p.px)]; let zz3:=(ppC p p.part 2); let zz4:=[Cl.d (dS ((zQ1 yy2).ws.length) (strs (zQ1 yy2).ws))]; let zz5:=[aPz,AV.one (Cl.ptr 1 0),AV.one (Cl.d (DV.str (toS (zQ6 (yy2).ws))))]; let zz6:=[Cl.clo 105 [Cap.ptr 6 0],Cl.d (dQ ((zQ1 yy2).bad))]; let zz7:=(((dQ (yy0.2)=dQ yy10)∧True)∧(ppE (yy0.1) yy9)); let zz8:=(((decide (p.part≤(4:Int)))=true→tU7 ((AnsG Tryz.prog 77 1 zz5 [Bx.cells (ppC p 4 2),Bx.cells zz6,Bx.row 3 1 (is p.s.ord),Bx.row 43 28 (ims p.s.ims),Bx.row 51 12 (ops p.s.ops),Bx.row 37 5 (pxs p.px),Bx.cells zz4] ⟨AV.one (Cl.d (dQ (yy5.2))),[Bx.cells (ppC (yy5.1) ((yy5.1).part) 1),Bx.row 3 1 (is (yy5.1).s.ord),Bx.row 43 28 (ims (yy5.1).s.ims),Bx.row 51 12 (ops (yy5.1).s.ops),Bx.row 37 5 (pxs (yy5.1).px)],false⟩)∧True∧(((dQ (yy5.2)=dQ yy10)∧True)∧(ppE (yy5.1) yy9))∧zQv ⟨AV.one yy7,yy4,false⟩))∧((decide (p.part≤(4:Int)))=false→tU7 ((AnsG Tryz.prog 78 1 zz5 [Bx.cells (ppC p 5 2),Bx.cells zz6,Bx.row 3 1 (is p.s.ord),Bx.row 43 28 (ims p.s.ims),Bx.row 51 12 (ops p.s.ops),Bx.row 37 5 (pxs p.px),Bx.cells zz4] ⟨AV.one (Cl.d (dQ (yy0.2))),[Bx.cells (ppC (yy0.1) ((yy0.1).part) 1),Bx.row 3 1 (is (yy0.1).s.ord),Bx.row 43 28 (ims (yy0.1).s.ims),Bx.row 51 12 (ops (yy0.1).s.ops),Bx.row 37 5 (pxs (yy0.1).px)],false⟩)∧True∧zz7∧zQv ⟨AV.one yy7,yy4,false⟩))); let zz9:=((((toS (zQ6 (yy2).ws)).toList==(⟨#[115,111,108,105,100]⟩:ByteArray).toList)=false→tU4 (((((toS (zQ6 (yy2).ws)).toList==(⟨#[105,109,97,103,101]⟩:ByteArray).toList)=true→tU7 (zz8))∧(((toS (zQ6 (yy2).ws)).toList==(⟨#[105,109,97,103,101]⟩:ByteArray).toList)=(!true)→True∧tU8 ((AnsG Tryz.prog 78 1 zz5 [Bx.cells (ppC p 5 2),Bx.cells zz6,Bx.row 3 1 (is p.s.ord),Bx.row 43 28 (ims p.s.ims),Bx.row 51 12 (ops p.s.ops),Bx.row 37 5 (pxs p.px),Bx.cells zz4] ⟨AV.one (Cl.d (dQ (yy0.2))),[Bx.cells (ppC (yy0.1) ((yy0.1).part) 1),Bx.row 3 1 (is (yy0.1).s.ord),Bx.row 43 28 (ims (yy0.1).s.ims),Bx.row 51 12 (ops (yy0.1).s.ops),Bx.row 37 5 (pxs (yy0.1).px)],false⟩)∧True∧zz7∧zQv ⟨AV.one yy7,yy4,false⟩)))))∧(((toS (zQ6 (yy2).ws)).toList==(⟨#[115,111,108,105,100]⟩:ByteArray).toList)=(!false)→True∧tU8 (zz8))); tU2 ((AnsG Tryz.prog 72 0 [AV.one (Cl.d (DV.str (toS w)))] [] ⟨aPz,zz1,false⟩)∧tU2 ((AnsG Tryz.prog 37 5 [aPz] zz2 ⟨AV.one (Cl.d (dQ (decide (p.h > (0:Int))))),zz2,false⟩)∧(((decide (p.h > (0:Int)))=true→tU2 ((AnsG Tryz.prog 73 1 [aPz,AV.one (Cl.ptr 1 0)] [Bx.cells zz3,bC [Cl.clo 105 [Cap.ptr 6 0],Cl.d (dQ ((yy8).bad))],Bx.row 3 1 (is p.s.ord),Bx.row 43 28 (ims p.s.ims),Bx.row 51 12 (ops p.s.ops),Bx.row 37 5 (pxs p.px),Bx.cells zz0] ⟨AV.one (Cl.d (dQ ((zQJ yy3 yy2).2))),[Bx.cells (ppC ((zQJ yy3 yy2).1) (((zQJ yy3 yy2).1).part) 1),Bx.row 3 1 (is ((zQJ yy3 yy2).1).s.ord),Bx.row 43 28 (ims ((zQJ yy3 yy2).1).s.ims),Bx.row 51 12 (ops ((zQJ yy3 yy2).1).s.ops),Bx.row 37 5 (pxs ((zQJ yy3 yy2).1).px)],false⟩)∧True∧(((dQ ((zQJ yy3 yy2).2)=dQ yy10)∧True)∧(ppE ((zQJ yy3 yy2).1) yy9))∧zQv ⟨AV.one yy7,yy4,false⟩))∧((decide (p.h > (0:Int)))=false→True∧(AnsG Tryz.prog 74 2 [aPz] zz1 ⟨AV.one (Cl.d (DV.str (toS (zQ6 (yy2).ws)))),[bC [Cl.clo 105 [Cap.ptr 1 0],Cl.d (dQ ((zQ1 yy2).bad))],Bx.cells zz4],false⟩)∧tU6 ((((decide (p.part≤(2:Int)))=true→tU3 ((AnsG Tryz.prog 75 1 zz5 [Bx.cells zz3,Bx.cells zz6,Bx.row 3 1 (is p.s.ord),Bx.row 43 28 (ims p.s.ims),Bx.row 51 12 (ops p.s.ops),Bx.row 37 5 (pxs p.px),Bx.cells zz4] ⟨AV.one (Cl.d (dQ (yy6.2))),[Bx.cells (ppC (yy6.1) ((yy6.1).part) 1),Bx.row 3 1 (is (yy6.1).s.ord),Bx.row 43 28 (ims (yy6.1).s.ims),Bx.row 51 12 (ops (yy6.1).s.ops),Bx.row 37 5 (pxs (yy6.1).px)],false⟩)∧True∧(((dQ (yy6.2)=dQ yy10)∧True)∧(ppE (yy6.1) yy9))∧zQv ⟨AV.one yy7,yy4,false⟩))∧((decide (p.part≤(2:Int)))=false→tU3 (((((toS (zQ6 (yy2).ws)).toList==(⟨#[111,114,100,101,114]⟩:ByteArray).toList)=true→tU7 ((((p.part==(3:Int))=true→tU6 ((AnsG Tryz.prog 76 1 [aPz,AV.one (Cl.d (DV.str (toS w)))] [Bx.cells (ppC p 4 1),Bx.row 3 1 (is p.s.ord),Bx.row 43 28 (ims p.s.ims),Bx.row 51 12 (ops p.s.ops),Bx.row 37 5 (pxs p.px)] ⟨AV.one (Cl.d (dQ ((zZr yy1 (ofS ((toS w)))).2))),[Bx.cells (ppC ((zZr yy1 (ofS ((toS w)))).1) (((zZr yy1 (ofS ((toS w)))).1).part) 1),Bx.row 3 1 (is ((zZr yy1 (ofS ((toS w)))).1).s.ord),Bx.row 43 28 (ims ((zZr yy1 (ofS ((toS w)))).1).s.ims),Bx.row 51 12 (ops ((zZr yy1 (ofS ((toS w)))).1).s.ops),Bx.row 37 5 (pxs ((zZr yy1 (ofS ((toS w)))).1).px)],false⟩)∧True∧(((dQ ((zZr yy1 (ofS ((toS w)))).2)=dQ yy10)∧True)∧(ppE ((zZr yy1 (ofS ((toS w)))).1) yy9))∧zQv ⟨AV.one yy7,yy4,false⟩))∧((p.part==(3:Int))=false→tU3 (zz9)))))∧(((toS (zQ6 (yy2).ws)).toList==(⟨#[111,114,100,101,114]⟩:ByteArray).toList)=(!true)→tU5 (zz9)))))))))))):=by kernel_rfl
theorem zVg (p:PP) (w:Lb) (hw:w.length≤4294967280) (hx:p.px.length≤68719476736) (hi:p.s.ims.length≤68719476736) (hp:p.s.ops.length≤68719476736) (hn:p.s.ord.length≤68719476736) (hf:0≤p.w*p.h∧p.w*p.h≤16777216) (hd:0≤p.part∧p.part≤5):AnsG Tryz.prog 36 1 [AV.one (Cl.ptr 0 0),AV.one (Cl.d (DV.str (toS w)))] [Bx.cells (ppC p p.part 1),Bx.row 3 1 (is p.s.ord),Bx.row 43 28 (ims p.s.ims),Bx.row 51 12 (ops p.s.ops),Bx.row 37 5 (pxs p.px)] ⟨AV.one (Cl.d (DV.bool ((zZY p (ofS (toS w))).2))),[Bx.cells (ppC ((zZY p (ofS (toS w))).1) (((zZY p (ofS (toS w))).1).part) 1),Bx.row 3 1 (is ((zZY p (ofS (toS w))).1).s.ord),Bx.row 43 28 (ims ((zZY p (ofS (toS w))).1).s.ims),Bx.row 51 12 (ops ((zZY p (ofS (toS w))).1).s.ops),Bx.row 37 5 (pxs ((zZY p (ofS (toS w))).1).px)],false⟩:=
 zQz (Γ:=zWC) (zYb p w) zQC Tryz.func36 rfl (Nat.le_of_ble_eq_true rfl) rfl fun hwf hbx=>by
  refine Eq.mpr (zVJ p w) ?_
  delta tU2 tU3 tU4 tU5 tU6 tU7 tU8 dQ dS aPz bC
  simp only [true_and,and_true,RV.d.injEq,RV.agg.injEq,RV.tup.injEq,DV.bool.injEq,DV.int.injEq,DV.sl.injEq,List.cons.injEq,forall_const,Bool.not_false,Bool.not_true,Bool.not_eq_true',Bool.not_eq_false',decide_eq_true_eq,decide_eq_false_iff_not,Int.toNat_natCast,ppC,ppE]
  simp only [zZQ,zQZ,zZP,zZu,zZg,zQL,zZh]
  clear hwf hbx
  have lb:(⟨#[98,105,116,115]⟩:ByteArray)=toS zYG:=rfl
  have lc:(⟨#[99,97,110,118,97,115]⟩:ByteArray)=toS zZL:=rfl
  have lt:(⟨#[116,105,108,101,115]⟩:ByteArray)=toS zXo:=rfl
  have li:(⟨#[105,109,97,103,101]⟩:ByteArray)=toS zQ5:=rfl
  have ld:(⟨#[100,114,97,119]⟩:ByteArray)=toS zZ9:=rfl
  have lu:(⟨#[112,117,115,104]⟩:ByteArray)=toS zXi:=rfl
  have lo:(⟨#[112,111,112]⟩:ByteArray)=toS sPop:=rfl
  have lr:(⟨#[111,114,100,101,114]⟩:ByteArray)=toS zZD:=rfl
  have ls:(⟨#[115,111,108,105,100]⟩:ByteArray)=toS zQ9:=rfl
  have hq:okQ ⟨zQp w,false⟩:=fun x hx=>by have:=zW4 _ w (Nat.le_refl _) x hx; omega
  have aO:=jQs w (by omega)
  have aN:=zZW ⟨zQp w,false⟩
  have aIn:=zXE p
  have q1:okQ (zQ1 ⟨zQp w,false⟩):=jYV hq
  obtain ⟨Q,hQ⟩:∃ Q:LQ,zQ1 ⟨zQp w,false⟩=Q:=⟨_,rfl⟩
  obtain ⟨W,hW⟩:∃ W:Lb,zQ6 (zQp w)=W:=⟨_,rfl⟩
  have go:zZY p w=(if 0 < p.h then zQJ p ⟨zQp w,false⟩ else if p.part≤2 then zZO p Q W
   else if W=zZD∧p.part=3 then zZr { p with part:=4 } w
   else if (W=zQ9∨W=zQ5)∧p.part≤4 then zZj { p with part:=4 } Q W
   else pOp { p with part:=5 } Q W):=by rw [← hQ,← hW]; rfl
  simp only [hQ,hW] at aN q1 ⊢
  simp only [lr,ls,li,zVZ,decide_eq_true_eq,decide_eq_false_iff_not,beq_iff_eq,beq_eq_false_iff_ne]
  have gPx:=zJ7 p ⟨zQp w,false⟩ hq hx hi hp hn hf hd
  have gHd:=zVi p Q W q1 hx hi hp hn hf hd
  have gOr:=zJ8 { p with part:=4 } w hw hx hi hp hn hf ⟨by simp,by simp⟩
  have gIm:=zKa { p with part:=4 } Q W q1 hx hi hp hn hf ⟨by simp,by simp⟩
  have gOp:=zWb { p with part:=5 } Q W q1 hx hi hp hn hf ⟨by simp,by simp⟩
  have eIm:0 < p.h→False∨True:=fun _=>.inr trivial
  refine ⟨aO,aIn,fun h1=>⟨gPx,?_⟩,fun h1=>⟨aN,fun h2=>⟨gHd,?_⟩,fun h2=>?_⟩⟩
  ·rw [if_pos h1] at go
   rw [go]; ((repeat' apply And.intro) <;> first | rfl | trivial | (simp only [List.length_append,List.length_cons,List.length_nil]; done) | (simp [ims]; done) | (simp [ops]; done) | (simp [ops,Oq.cells]; done) | exact zQY _ | (simp [pxs]; done))
  ·rw [if_neg h1,if_pos h2] at go
   rw [go]; ((repeat' apply And.intro) <;> first | rfl | trivial | (simp only [List.length_append,List.length_cons,List.length_nil]; done) | (simp [ims]; done) | (simp [ops]; done) | (simp [ops,Oq.cells]; done) | exact zQY _ | (simp [pxs]; done))
  ·rw [if_neg h1,if_neg h2] at go
   refine ⟨fun h3=>⟨fun h4=>⟨gOr,?_⟩,fun h4=>⟨fun h5=>⟨fun h7=>⟨fun h6=>⟨gIm,?_⟩,fun h6=>⟨gOp,?_⟩⟩,fun h7=>⟨gOp,?_⟩⟩,fun h5=>⟨fun h6=>⟨gIm,?_⟩,fun h6=>⟨gOp,?_⟩⟩⟩⟩,fun h3=>⟨fun h5=>⟨fun h7=>⟨fun h6=>⟨gIm,?_⟩,fun h6=>⟨gOp,?_⟩⟩,fun h7=>⟨gOp,?_⟩⟩,fun h5=>⟨fun h6=>⟨gIm,?_⟩,fun h6=>⟨gOp,?_⟩⟩⟩⟩
   ·rw [if_pos ⟨h3,h4⟩] at go
    rw [go]; ((repeat' apply And.intro) <;> first | rfl | trivial | (simp only [List.length_append,List.length_cons,List.length_nil]; done) | (simp [ims]; done) | (simp [ops]; done) | (simp [ops,Oq.cells]; done) | exact zQY _ | (simp [pxs]; done))
   ·rw [if_neg (fun h=>h4 h.2),if_pos ⟨.inr h7,h6⟩] at go
    rw [go]; ((repeat' apply And.intro) <;> first | rfl | trivial | (simp only [List.length_append,List.length_cons,List.length_nil]; done) | (simp [ims]; done) | (simp [ops]; done) | (simp [ops,Oq.cells]; done) | exact zQY _ | (simp [pxs]; done))
   ·rw [if_neg (fun h=>h4 h.2),if_neg (fun h=>h6 h.2)] at go
    rw [go]; ((repeat' apply And.intro) <;> first | rfl | trivial | (simp only [List.length_append,List.length_cons,List.length_nil]; done) | (simp [ims]; done) | (simp [ops]; done) | (simp [ops,Oq.cells]; done) | exact zQY _ | (simp [pxs]; done))
   ·rw [if_neg (fun h=>h4 h.2),if_neg (fun h=>h.1.elim h5 h7)] at go
    rw [go]; ((repeat' apply And.intro) <;> first | rfl | trivial | (simp only [List.length_append,List.length_cons,List.length_nil]; done) | (simp [ims]; done) | (simp [ops]; done) | (simp [ops,Oq.cells]; done) | exact zQY _ | (simp [pxs]; done))
   ·rw [if_neg (fun h=>h4 h.2),if_pos ⟨.inl h5,h6⟩] at go
    rw [go]; ((repeat' apply And.intro) <;> first | rfl | trivial | (simp only [List.length_append,List.length_cons,List.length_nil]; done) | (simp [ims]; done) | (simp [ops]; done) | (simp [ops,Oq.cells]; done) | exact zQY _ | (simp [pxs]; done))
   ·rw [if_neg (fun h=>h4 h.2),if_neg (fun h=>h6 h.2)] at go
    rw [go]; ((repeat' apply And.intro) <;> first | rfl | trivial | (simp only [List.length_append,List.length_cons,List.length_nil]; done) | (simp [ims]; done) | (simp [ops]; done) | (simp [ops,Oq.cells]; done) | exact zQY _ | (simp [pxs]; done))
   ·rw [if_neg (fun h=>h3 h.1),if_pos ⟨.inr h7,h6⟩] at go
    rw [go]; ((repeat' apply And.intro) <;> first | rfl | trivial | (simp only [List.length_append,List.length_cons,List.length_nil]; done) | (simp [ims]; done) | (simp [ops]; done) | (simp [ops,Oq.cells]; done) | exact zQY _ | (simp [pxs]; done))
   ·rw [if_neg (fun h=>h3 h.1),if_neg (fun h=>h6 h.2)] at go
    rw [go]; ((repeat' apply And.intro) <;> first | rfl | trivial | (simp only [List.length_append,List.length_cons,List.length_nil]; done) | (simp [ims]; done) | (simp [ops]; done) | (simp [ops,Oq.cells]; done) | exact zQY _ | (simp [pxs]; done))
   ·rw [if_neg (fun h=>h3 h.1),if_neg (fun h=>h.1.elim h5 h7)] at go
    rw [go]; ((repeat' apply And.intro) <;> first | rfl | trivial | (simp only [List.length_append,List.length_cons,List.length_nil]; done) | (simp [ims]; done) | (simp [ops]; done) | (simp [ops,Oq.cells]; done) | exact zQY _ | (simp [pxs]; done))
   ·rw [if_neg (fun h=>h3 h.1),if_pos ⟨.inl h5,h6⟩] at go
    rw [go]; ((repeat' apply And.intro) <;> first | rfl | trivial | (simp only [List.length_append,List.length_cons,List.length_nil]; done) | (simp [ims]; done) | (simp [ops]; done) | (simp [ops,Oq.cells]; done) | exact zQY _ | (simp [pxs]; done))
   ·rw [if_neg (fun h=>h3 h.1),if_neg (fun h=>h6 h.2)] at go
    rw [go]; ((repeat' apply And.intro) <;> first | rfl | trivial | (simp only [List.length_append,List.length_cons,List.length_nil]; done) | (simp [ims]; done) | (simp [ops]; done) | (simp [ops,Oq.cells]; done) | exact zQY _ | (simp [pxs]; done))
end Go.Proofs.YtheidkkebdhmkaaGreatDoor
namespace Go.Proofs.YtheidkkebdhmkaaGreatDoor
open Go.RowKit
set_option linter.unusedVariables false
set_option linter.unusedSimpArgs false
attribute [local irreducible] Ans AnsO AnsG AnsN AnsI
set_option maxHeartbeats 4000000
set_option maxRecDepth 4000
open Go.Lib
def fixO (l:List Oq):Int:=match l.findIdx? (fun o=>!prtO o) with
 | some i=>(i:Int)
 | none => -1
def zPP:PP:=⟨zScr,0,0,0,[]⟩
def pEnd (p:PP) (n:Int):Scr × Int × Int:=if p.part≤2∨0 < p.h then (zScr,n+1,19) else if zXc p.s=true∧p.s.ops.all prtO=true then (p.s,0,0) else (zScr,0,19)
def pGo (p:PP) (n:Int) (acc:Lb):Lb→Scr × Int × Int
 | []=>if acc≠[] then (zScr,n+1,19) else pEnd p n
 | c::r=>if c=10 then (if (zZY p acc).2=true then pGo (zZY p acc).1 (n+1) [] r else (zScr,n+1,19)) else pGo p n (acc++[c]) r
def zQD (t:Lb):Scr × Int × Int:=pGo zPP 0 [] t
theorem jWE {p:PP} {n:Int}:∀ {t acc:Lb},(10:UInt8) ∉ t→pGo p n acc t=if acc++t≠[] then (zScr,n+1,19) else pEnd p n
 | [],acc,_=>by rw [List.append_nil]; rfl
 | c::t,acc,h=>by
  simp only [List.mem_cons,not_or] at h
  rw [pGo,if_neg (fun e=>h.1 e.symm),jWE h.2,List.append_assoc]; rfl
theorem jWF {p:PP} {n:Int} {b:Lb}:∀ {a acc:Lb},(10:UInt8) ∉ a→pGo p n acc (a++10::b)=if (zZY p (acc++a)).2=true then pGo (zZY p (acc++a)).1 (n+1) [] b else (zScr,n+1,19)
 | [],acc,_=>by rw [List.append_nil,List.nil_append,pGo,if_pos rfl]
 | c::a,acc,h=>by
  simp only [List.mem_cons,not_or] at h
  rw [List.cons_append,pGo,if_neg (fun e=>h.1 e.symm),jWF h.2,List.append_assoc]; rfl
structure PP.ok (p:PP) (k:Nat):Prop where
  od:p.s.ord.length≤k
  im:p.s.ims.length≤k
  op:p.s.ops.length≤k
  px:p.px.length≤k
  f0:0≤p.w*p.h
  f1:p.w*p.h≤16777216
  d0:0≤p.part
  d1:p.part≤5
  hU:∀ m∈p.s.ims,m.isU
theorem jKB {p:PP} {k:Nat} (h:p.ok k) (q:LQ):(zQJ p q).1.ok (k+1):=by
 obtain ⟨h1,h2,h3,h4,h5,h6,h7,h8,h9⟩:=h
 unfold zQJ
 split
 ·split
  ·exact ⟨by show _≤_; simp; omega,by simp; omega,by simp; omega,by simp,by simp,by simp,h7,h8,fun m hm=>by
    rcases List.mem_append.1 hm with hm | hm
    ·exact h9 m hm
    ·rw [List.mem_singleton.1 hm]; exact jQ0 _ _ _⟩
  ·exact ⟨by simp; omega,by simp; omega,by simp; omega,by simp; omega,h5,h6,h7,h8,h9⟩
 ·exact ⟨by simp; omega,by simp; omega,by simp; omega,by simp; omega,h5,h6,h7,h8,h9⟩
theorem jVK {p:PP} {k:Nat} (h:p.ok k) (q:LQ) (w:Lb) (hp:p.part≤2):(zZO p q w).1.ok (k+1):=by
 obtain ⟨h1,h2,h3,h4,h5,h6,h7,h8,h9⟩:=h
 unfold zZO
 (repeat' split) <;> exact ⟨by simp; omega,by simp; omega,by simp; omega,by simp; omega,h5,h6,by simp; omega,by simp; omega,h9⟩
theorem jKf (q:LQ):0≤(sizQ q).1.1*(sizQ q).1.2∧(sizQ q).1.1*(sizQ q).1.2≤16777216:=by
 unfold sizQ
 simp only
 split
 ·simp
 ·rename_i h
  simp only [not_or] at h
  obtain ⟨h1,h2⟩:=h
  have hb:=jKI (by simpa using h1:(numQ (numQ q 1 16777216).2 1 16777216).2.bad=false)
  have ha:0≤(numQ q 1 16777216).1:=by
   by_cases e:okN 1 16777216 (zQ6 q.ws)=true
   ·have:=zH3 e
    unfold numQ; rw [if_pos e]; show (0:Int)≤numV (zQ6 q.ws); omega
   ·unfold numQ; rw [if_neg e]; simp
  generalize (numQ (numQ q 1 16777216).2 1 16777216).1=B at *
  generalize (numQ q 1 16777216).1=A at *
  refine ⟨Int.mul_nonneg ha (by show 0≤B; omega),?_⟩
  have h3:A≤16777216 / B:=by omega
  have h4:=Int.mul_le_mul_of_nonneg_right h3 (by omega:0≤B)
  have h5:=Int.ediv_mul_le 16777216 (by omega:B≠0)
  show A*B≤16777216
  omega
theorem jKE {p:PP} {k:Nat} (h:p.ok k) (q:LQ) (w:Lb):(zZj p q w).1.ok (k+1):=by
 obtain ⟨h1,h2,h3,h4,h5,h6,h7,h8,h9⟩:=h
 unfold zZj
 split
 ·exact ⟨by simp; omega,by simp; omega,by simp; omega,by simp; omega,h5,h6,h7,h8,h9⟩
 ·split
  ·exact ⟨by simp; omega,by simp; omega,by simp; omega,by simp; omega,(jKf q).1,(jKf q).2,h7,h8,h9⟩
  ·exact ⟨by simp; omega,by simp; omega,by simp; omega,by simp; omega,h5,h6,h7,h8,fun m hm=>by
    rcases List.mem_append.1 hm with hm | hm
    ·exact h9 m hm
    ·rw [List.mem_singleton.1 hm]; exact zYx _ _ _⟩
theorem jU3 {p:PP} {k:Nat} (h:p.ok k) (q:LQ) (w:Lb):(pOp p q w).1.ok (k+1):=by
 obtain ⟨h1,h2,h3,h4,h5,h6,h7,h8,h9⟩:=h
 unfold pOp
 (repeat' split) <;> exact ⟨by simp; omega,by simp; omega,by simp; omega,by simp; omega,h5,h6,h7,h8,h9⟩
theorem jKC (l:List Lb):(zWr l).length≤l.length:=by
 induction l with
 | nil=>exact Nat.le_refl _
 | cons w l ih=>
  unfold zWr
  split
  ·simp; exact ih
  ·simp
theorem jVJ {p:PP} {k:Nat} (h:p.ok k) (t:Lb):(zZY p t).1.ok (k+t.length+1):=by
 have up:∀ {P:PP} {a b:Nat},P.ok a→a≤b→P.ok b:=fun {P a b} h hab=>⟨Nat.le_trans h.1 hab,Nat.le_trans h.2 hab,Nat.le_trans h.3 hab,Nat.le_trans h.4 hab,h.5,h.6,h.7,h.8,h.9⟩
 have p4:PP.ok { p with part:=4 } k:=⟨h.1,h.2,h.3,h.4,h.5,h.6,by simp,by simp,h.9⟩
 have p5:PP.ok { p with part:=5 } k:=⟨h.1,h.2,h.3,h.4,h.5,h.6,by simp,by simp,h.9⟩
 unfold zZY
 split
 ·exact up (jKB h _) (by omega)
 ·simp only
  split
  ·rename_i hp; exact up (jVK h _ _ hp) (by omega)
  ·split
   ·obtain ⟨h1,h2,h3,h4,h5,h6,h7,h8,h9⟩:=p4
    have hn:=jKC ((zQp t).drop 1)
    have hs:=zW5 t
    rw [List.length_drop] at hn
    unfold zZr
    generalize zWr ((zQp t).drop 1)=L at *
    obtain ⟨g1,g2,g3,g4,g5,g6,g7,g8,g9⟩:=h
    exact ⟨by simp; omega,by simp; omega,by simp; omega,by simp; omega,h5,h6,h7,h8,h9⟩
   ·split
    ·exact up (jKE p4 _ _) (by omega)
    ·exact up (jU3 p5 _ _) (by omega)
theorem jUh (p:PP) (n:Int) (t:Lb):((cutL t).2.2=true→pGo p n [] t=(if (zZY p (cutL t).1).2=true then pGo (zZY p (cutL t).1).1 (n+1) [] (cutL t).2.1 else (zScr,n+1,19))∧(cutL t).1.length+(cutL t).2.1.length+1=t.length) ∧
  ((cutL t).2.2=false→t≠[]→pGo p n [] t=(zScr,n+1,19)):=by
 rcases idx1 10 t with ⟨_,h⟩ | ⟨a,b,rfl,h,_⟩
 ·rw [jVg h]
  refine ⟨fun h=>(by cases h),fun _ hne=>?_⟩
  rw [jWE h,List.nil_append,if_pos hne]
 ·rw [jVh h]
  refine ⟨fun _=>⟨?_,by simp; omega⟩,fun h=>(by cases h)⟩
  rw [jWF h,List.nil_append]
theorem PP.eta_ (p:PP):(⟨p.s,p.part,p.w,p.h,p.px⟩:PP)=p:=rfl
theorem jUQ (t:Lb):((toS t).toList==(⟨#[]⟩:ByteArray).toList)=decide (t=[]):=zVZ t []
def v13 (n:Int):Bool:=decide (1≤n∧n < 13)
theorem jUJ {l:List Oq} {k:Nat} (h:k < l.length) (hb:(l.take k).all prtO=true) (hk:prtO l[k]=false):fixO l=(k:Int):=by
 unfold fixO
 have:l.findIdx? (fun o=>!prtO o)=some k:=by
  rw [List.findIdx?_eq_some_iff_getElem]
  refine ⟨h,by simp [hk],fun j hj=>?_⟩
  have:=List.all_eq_true.1 hb l[j] (by rw [List.mem_take_iff_getElem]; exact ⟨j,by omega,rfl⟩)
  simp [this]
 rw [this]
theorem jUH {l:List Oq} (hb:l.all prtO=true):fixO l = -1:=by
 unfold fixO
 have:l.findIdx? (fun o=>!prtO o)=none:=by
  rw [List.findIdx?_eq_none_iff]
  intro o ho
  simp [List.all_eq_true.1 hb o ho]
 rw [this]
theorem jUI (l:List Oq):decide (fixO l≥0)=!l.all prtO:=by
 unfold fixO
 cases h:l.findIdx? (fun o=>!prtO o) with
 | some i=>
  rw [List.findIdx?_eq_some_iff_getElem] at h
  obtain ⟨hi,h1,_⟩:=h
  have:l.all prtO=false:=by
   rw [List.all_eq_false]
   exact ⟨l[i],List.getElem_mem hi,by simpa using h1⟩
  rw [this]; simp
 | none=>
  rw [List.findIdx?_eq_none_iff] at h
  have:l.all prtO=true:=List.all_eq_true.2 fun o ho=>by simpa using h o ho
  rw [this]; simp
def zHD:Gam where
 pure:=fun f xs=>
  if f=55 then (match xs with | [.d (.int _ op)]=>some (RV.d (DV.str (zQj op))) | _=>none) else
  if f=56 then (match xs with | [.d (.int _ op)]=>some (RV.d (DV.str (zQc op))) | _=>none) else
  if f=25 then (match xs with | [.agg [.int _ okind,.int _ oimage,.int _ ox,.int _ oy,.int _ omask,.int _ omx,.int _ omy,.int _ oopac,.int _ ooper,.int _ omode,.bool oiso,.bool okno]]=>some (RV.d (dQ (prtO (⟨okind,oimage,ox,oy,omask,omx,omy,oopac,ooper,omode,oiso,okno⟩:Oq)))) | _=>none) else
  if f=39 then (match xs with | [.agg [.int _ okind,.int _ oimage,.int _ ox,.int _ oy,.int _ omask,.int _ omx,.int _ omy,.int _ oopac,.int _ ooper,.int _ omode,.bool oiso,.bool okno]]=>some (RV.d (dQ (!prtO (⟨okind,oimage,ox,oy,omask,omx,omy,oopac,ooper,omode,oiso,okno⟩:Oq)))) | _=>none) else
  if f=79 then (match xs with | [.d (.sl qn qxs),.d (.fn 39)]=>some (rJ ((fixO (zZb (qxs))))) | _=>none) else
  if f=38 then (match xs with | [.d (.sl qn qxs),.d (.fn 39)]=>some (RV.d (dQ (!(zZb (qxs)).all prtO))) | _=>none) else
  if f=35 then (match xs with | [.d (.str s),.d (.str sep)]=>some (RV.tup [RV.d (DV.str (toS (cutL (ofS (s))).1)),RV.d (DV.str (toS (cutL (ofS (s))).2.1)),RV.d (dQ ((cutL (ofS (s))).2.2))]) | _=>none) else
  if f=24 then (match xs with | [.agg [.int _ bits,.int _ cx0,.int _ cy0,.int _ cx1,.int _ cy1,.int _ tw,.int _ th,.sl on oxs,.sl mn mxs,.sl pn pxs]]=>some (RV.d (dQ (zXc (⟨bits,⟨cx0,cy0,cx1,cy1⟩,tw,th,ints oxs,zZ6 mxs,zZb pxs⟩:Scr)))) | _=>none) else
  none
 modes:=fun f=>
  if f=36 then some ([false,true],1,4) else
  if f=37 then some ([false],5,0) else
  none
 proc:=fun f xs bs=>
  if f=36 then (match xs,bs with | [AV.one (Cl.ptr 0 0),AV.one (Cl.d (DV.str t))],[Bx.cells [Cl.d (DV.int _ bits),Cl.d (DV.int _ cx0),Cl.d (DV.int _ cy0),Cl.d (DV.int _ cx1),Cl.d (DV.int _ cy1),Cl.d (DV.int _ tw),Cl.d (DV.int _ th),Cl.ref 1 on,Cl.ref 2 mn,Cl.ref 3 qn,Cl.d (DV.int _ part),Cl.d (DV.int _ w),Cl.d (DV.int _ h),Cl.ref 4 ln],Bx.row _ _ oxs,Bx.row _ _ mxs,Bx.row _ _ qxs,Bx.row _ _ lxs]=>let yy0:=(zZY (⟨⟨bits,⟨cx0,cy0,cx1,cy1⟩,tw,th,ints oxs,zZ6 mxs,zZb qxs⟩,part,w,h,zQb lxs⟩:PP) (ofS (t))); some ⟨AV.one (Cl.d (DV.bool (yy0.2))),[Bx.cells (ppC (yy0.1) ((yy0.1).part) 1),Bx.row 3 1 (is (yy0.1).s.ord),Bx.row 43 28 (ims (yy0.1).s.ims),Bx.row 51 12 (ops (yy0.1).s.ops),Bx.row 37 5 (pxs (yy0.1).px)],false⟩ | _,_=>none) else
  if f=37 then (match xs,bs with | [AV.one (Cl.ptr 0 0)],[Bx.cells [Cl.d (DV.int _ bits),Cl.d (DV.int _ cx0),Cl.d (DV.int _ cy0),Cl.d (DV.int _ cx1),Cl.d (DV.int _ cy1),Cl.d (DV.int _ tw),Cl.d (DV.int _ th),Cl.ref 1 on,Cl.ref 2 mn,Cl.ref 3 qn,Cl.d (DV.int _ part),Cl.d (DV.int _ w),Cl.d (DV.int _ h),Cl.ref 4 ln],Bx.row _ _ oxs,Bx.row _ _ mxs,Bx.row _ _ qxs,Bx.row _ _ lxs]=>some ⟨AV.one (Cl.d (dQ (decide (h > (0:Int))))),[bC [cJ (bits),cJ (cx0),cJ (cy0),cJ (cx1),cJ (cy1),cJ (tw),cJ (th),Cl.ref 1 on,Cl.ref 2 mn,Cl.ref 3 qn,cJ (part),cJ (w),cJ (h),Cl.ref 4 ln],Bx.row 3 1 oxs,Bx.row 43 28 mxs,Bx.row 51 12 qxs,Bx.row 37 5 lxs],false⟩ | _,_=>none) else
  none
 iter:=fun f cs=>
  none
def zYJ (o:Oq):Ann:=Ann.leaf
theorem zWU (o:Oq):vcg Tryz.prog zHD 43 (zQA Tryz.f25) (zYJ o) kn0 (zQ0 [RV.agg [dJ o.kind,dJ o.image,dJ o.x,dJ o.y,dJ o.mask,dJ o.mx,dJ o.my,dK o.opac,dJ o.oper,dJ o.mode,dQ o.iso,dQ o.kno]]) (post Tryz.prog Tryz.f25.results.toList (·=RV.d (dQ (prtO o)))) =
 (let zz0:=(Ans Tryz.prog 55 [rJ (o.oper)] (RV.d (DV.str (zQj o.oper)))); let zz1:=(((!((zQj o.oper).toList==(⟨#[]⟩:ByteArray).toList))=true→tU2 ((Ans Tryz.prog 56 [rJ (o.mode)] (RV.d (DV.str (zQc o.mode))))∧tU3 (RV.d (dQ (!((zQc o.mode).toList==(⟨#[]⟩:ByteArray).toList)))=RV.d (dQ (prtO o)))))∧((!((zQj o.oper).toList==(⟨#[]⟩:ByteArray).toList))=(!true)→tU2 (RV.d (dQ false)=RV.d (dQ (prtO o))))); tU6 ((((o.kind==(1:Int))=true→tU3 (((o.iso=false→tU3 (((o.kno=true→True∧RV.d (dQ false)=RV.d (dQ (prtO o)))∧(o.kno=false→tU2 (zz0∧tU2 (zz1))))))∧(o.iso=(!false)→tU2 (RV.d (dQ false)=RV.d (dQ (prtO o)))))))∧((o.kind==(1:Int))=false→tU2 ((((o.kind==(2:Int))=true→tU4 ((((o.image != (0:Int))=false→tU5 ((((o.x != (0:Int))=false→tU4 ((((o.y != (0:Int))=true→True∧RV.d (dQ false)=RV.d (dQ (prtO o)))∧((o.y != (0:Int))=false→tU2 (zz0∧tU2 (zz1))))))∧((o.x != (0:Int))=(!false)→tU2 (RV.d (dQ false)=RV.d (dQ (prtO o)))))))∧((o.image != (0:Int))=(!false)→tU4 (RV.d (dQ false)=RV.d (dQ (prtO o)))))))∧((o.kind==(2:Int))=false→tU2 ((((o.kind==(3:Int))=true→tU4 (RV.d (dQ ((o.kind==(3:Int)) && ((o.image==(0:Int)) && ((o.x==(0:Int)) && ((o.y==(0:Int)) && ((o.mask==(0:Int)) && ((o.mx==(0:Int)) && ((o.my==(0:Int)) && ((o.opac==(0:Int)) && ((o.oper==(0:Int)) && ((o.mode==(0:Int)) && ((o.iso==false) && ((o.kno==false) && true)))))))))))))=RV.d (dQ (prtO o))))∧((o.kind==(3:Int))=false→True∧RV.d (dQ false)=RV.d (dQ (prtO o)))))))))))):=by kernel_rfl
theorem zYI (o:Oq):Ans Tryz.prog 25 [RV.agg [DV.int .i64 o.kind,DV.int .i64 o.image,DV.int .i64 o.x,DV.int .i64 o.y,DV.int .i64 o.mask,DV.int .i64 o.mx,DV.int .i64 o.my,DV.int .u16 o.opac,DV.int .i64 o.oper,DV.int .i64 o.mode,DV.bool o.iso,DV.bool o.kno]] (RV.d (DV.bool (prtO o))):=
 zQo (Γ:=zHD) (zYJ o) zQC Tryz.func25 rfl (Nat.le_of_ble_eq_true rfl) fun hwf=>by
  refine Eq.mpr (zWU o) ?_
  delta tU2 tU3 tU4 tU5 tU6 dQ rJ
  simp only [true_and,and_true,RV.d.injEq,RV.agg.injEq,RV.tup.injEq,DV.bool.injEq,DV.int.injEq,DV.sl.injEq,List.cons.injEq,forall_const,Bool.not_false,Bool.not_true,Bool.not_eq_true',Bool.not_eq_false',decide_eq_true_eq,decide_eq_false_iff_not,Int.toNat_natCast,ppC,ppE]
  have en:∀ op:Int,((zQj op).toList=(⟨#[]⟩:ByteArray).toList)↔v13 op=false:=fun op=>by
   unfold v13
   by_cases h:1≤op∧op < 13
   ·rw [decide_eq_true h]
    refine ⟨fun e=>absurd e ?_,fun e=>by cases e⟩
    rcases zKY h with rfl | rfl | rfl | rfl | rfl | rfl | rfl | rfl | rfl | rfl | rfl | rfl <;> decide +kernel
   ·rw [decide_eq_false h]
    exact ⟨fun _=>rfl,fun _=>by simp [zQj,h]⟩
  have em:∀ op:Int,(!((zQc op).toList==(⟨#[]⟩:ByteArray).toList))=v13 op:=fun op=>by
   unfold v13
   by_cases h:1≤op∧op < 13
   ·rw [decide_eq_true h]
    rcases zKY h with rfl | rfl | rfl | rfl | rfl | rfl | rfl | rfl | rfl | rfl | rfl | rfl <;> decide +kernel
   ·rw [decide_eq_false h]
    simp [zQc,h]
  have aN:=zZ4 o.oper
  have aM:=zVx o.mode
  have pe:o.kind=3→(o.kind==3 && (o.image==0 && (o.x==0 && (o.y==0 && (o.mask==0 && (o.mx==0 && (o.my==0 && (o.opac==0 && (o.oper==0 && (o.mode==0 && (o.iso==false && (o.kno==false && true))))))))))))=decide (o=popO):=fun h=>by
   rw [Bool.eq_iff_iff]
   obtain ⟨a,b,c,d,e,f,g,h,i,j,k,l⟩:=o
   simp [popO]
  have p0:prtO o=(if o.kind=1 then !o.iso && !o.kno && v13 o.oper && v13 o.mode
   else if o.kind=2 then decide (o.image=0) && decide (o.x=0) && decide (o.y=0) && v13 o.oper && v13 o.mode
   else if o.kind=3 then decide (o=popO) else false):=rfl
  clear hwf
  simp only [ne_eq,en,em,beq_iff_eq,beq_eq_false_iff_ne,bne_iff_ne,bne_eq_false_iff_eq] at *
  rw [p0]
  clear p0 en em
  generalize v13 o.oper=vo at *
  generalize v13 o.mode=vm at *
  (repeat' (first | apply And.intro | intro _)) <;> first | exact aN | exact aM | (simp only [*]; done) | (clear aN aM; simp_all; done) | (clear aN aM; cases vo <;> cases vm <;> simp_all; done)
def zJM (o:Oq):Ann:=Ann.leaf
theorem zGb (o:Oq):vcg Tryz.prog zHD 6 (zQA Tryz.f39) (zJM o) kn0 (zQ0 [RV.agg [dJ o.kind,dJ o.image,dJ o.x,dJ o.y,dJ o.mask,dJ o.mx,dJ o.my,dK o.opac,dJ o.oper,dJ o.mode,dQ o.iso,dQ o.kno]]) (post Tryz.prog Tryz.f39.results.toList (·=RV.d (dQ (!prtO o)))) =
 (tU3 ((Ans Tryz.prog 25 [RV.agg (Oq.cells (o))] (RV.d (dQ (prtO o))))∧tU2 (RV.d (dQ (!(prtO o)))=RV.d (dQ (!prtO o))))):=by kernel_rfl
theorem zUM (o:Oq):Ans Tryz.prog 39 [RV.agg [DV.int .i64 o.kind,DV.int .i64 o.image,DV.int .i64 o.x,DV.int .i64 o.y,DV.int .i64 o.mask,DV.int .i64 o.mx,DV.int .i64 o.my,DV.int .u16 o.opac,DV.int .i64 o.oper,DV.int .i64 o.mode,DV.bool o.iso,DV.bool o.kno]] (RV.d (DV.bool (!prtO o))):=
 zQo (Γ:=zHD) (zJM o) zQC Tryz.func39 rfl (Nat.le_of_ble_eq_true rfl) fun hwf=>by
  refine Eq.mpr (zGb o) ?_
  delta tU2 tU3 dQ
  simp only [true_and,and_true,RV.d.injEq,RV.agg.injEq,RV.tup.injEq,DV.bool.injEq,DV.int.injEq,DV.sl.injEq,List.cons.injEq,forall_const,Bool.not_false,Bool.not_true,Bool.not_eq_true',Bool.not_eq_false',decide_eq_true_eq,decide_eq_false_iff_not,Int.toNat_natCast,ppC,ppE]
  exact zYI o
def zJr (l:List Oq):Ann:=(Ann.seq Ann.leaf (Ann.seq (Ann.seq Ann.leaf (Ann.loop ⟨Nat,fun k=>k≤l.length∧(l.take k).all prtO=true,fun k=>⟨[(0,AV.one (Cl.d (dS l.length (ops l)))),(1,AV.one (Cl.d (DV.fn 39))),(7,aJ (((l.length:Int)))),(8,aJ (((k:Int))))],[]⟩,fun k=>l.length - k⟩ fun k=>Ann.leaf)) Ann.leaf))
theorem zUZ (l:List Oq):vcg Tryz.prog zHD 19 (zQA Tryz.f79) (zJr l) kn0 (zQ0 [RV.d (dS l.length (ops l)),RV.d (DV.fn 39)]) (post Tryz.prog Tryz.f79.results.toList (·=rJ ((fixO (zZb (ops l)))))) =
 (let zz0:=fun (k:Nat)=>(k≤l.length∧(l.take k).all prtO=true); let zz1:=(dS l.length (ops l)=dS l.length (ops l)); let zz2:=(DV.fn 39=DV.fn 39); let zz3:=(dJ (l.length:Int)=dJ (l.length:Int)); let zz4:=(dJ (fixO (zZb (ops l)))); tU4 (((∃ k:Nat,(zz0 k)∧((zz1∧zz2∧zz3∧(dJ 0=dJ (k:Int))∧True)∧(True)))∧∀ k:Nat,let yy2:=(bAt (ops l) ((k:Int).toNat*12+1+1+1+1+1+1+1+1+1+1)); let yy3:=(nAt (ops l) ((k:Int).toNat*12+1+1+1+1+1+1+1+1+1)); let yy4:=(nAt (ops l) ((k:Int).toNat*12+1+1+1+1+1+1+1+1)); let yy5:=(nAt (ops l) ((k:Int).toNat*12+1+1+1+1+1+1+1)); let yy6:=(nAt (ops l) ((k:Int).toNat*12+1+1+1+1+1+1)); let yy7:=(nAt (ops l) ((k:Int).toNat*12+1+1+1+1+1)); let yy8:=(nAt (ops l) ((k:Int).toNat*12+1+1+1+1)); let yy1:=(bAt (ops l) ((k:Int).toNat*12+1+1+1+1+1+1+1+1+1+1+1)); let yy0:=(!prtO (⟨(nAt (ops l) ((k:Int).toNat*12)),(nAt (ops l) ((k:Int).toNat*12+1)),(nAt (ops l) ((k:Int).toNat*12+1+1)),(nAt (ops l) ((k:Int).toNat*12+1+1+1)),yy8,yy7,yy6,yy5,yy4,yy3,yy2,yy1⟩:Oq)); (zz0 k)→True∧(((decide ((k:Int) < (l.length:Int)))=true→tU5 ((0≤(k:Int)∧(k:Int) < (l.length:Int)∧(k:Int).toNat*12 < (ops l).length)∧(((ops l)[(k:Int).toNat*12]?=some (dJ (nAt (ops l) ((k:Int).toNat*12))))∧((ops l)[(k:Int).toNat*12+1]?=some (dJ (nAt (ops l) ((k:Int).toNat*12+1))))∧((ops l)[(k:Int).toNat*12+1+1]?=some (dJ (nAt (ops l) ((k:Int).toNat*12+1+1))))∧((ops l)[(k:Int).toNat*12+1+1+1]?=some (dJ (nAt (ops l) ((k:Int).toNat*12+1+1+1))))∧((ops l)[(k:Int).toNat*12+1+1+1+1]?=some (dJ yy8))∧((ops l)[(k:Int).toNat*12+1+1+1+1+1]?=some (dJ yy7))∧((ops l)[(k:Int).toNat*12+1+1+1+1+1+1]?=some (dJ yy6))∧((ops l)[(k:Int).toNat*12+1+1+1+1+1+1+1]?=some (dK yy5))∧((ops l)[(k:Int).toNat*12+1+1+1+1+1+1+1+1]?=some (dJ yy4))∧((ops l)[(k:Int).toNat*12+1+1+1+1+1+1+1+1+1]?=some (dJ yy3))∧((ops l)[(k:Int).toNat*12+1+1+1+1+1+1+1+1+1+1]?=some (dQ yy2))∧((ops l)[(k:Int).toNat*12+1+1+1+1+1+1+1+1+1+1+1]?=some (dQ yy1))∧True)∧(Ans Tryz.prog 39 [RV.agg [dJ (nAt (ops l) ((k:Int).toNat*12)),dJ (nAt (ops l) ((k:Int).toNat*12+1)),dJ (nAt (ops l) ((k:Int).toNat*12+1+1)),dJ (nAt (ops l) ((k:Int).toNat*12+1+1+1)),dJ yy8,dJ yy7,dJ yy6,dK yy5,dJ yy4,dJ yy3,dQ yy2,dQ yy1]] (RV.d (dQ yy0)))∧((yy0=true→tU2 (rJ ((k:Int))=RV.d zz4))∧(yy0=false→tU2 (∃ k':Nat,(k'≤l.length∧(l.take k').all prtO=true)∧(l.length - k' < l.length - k)∧((zz1∧zz2∧zz3∧(dJ (wK ((k:Int)+(1:Int)))=dJ (k':Int))∧True)∧(True)))))))∧((decide ((k:Int) < (l.length:Int)))=false→True∧rJ ((-1:Int))=RV.d zz4))))):=by kernel_rfl
theorem zUq (l:List Oq):Ans Tryz.prog 79 [RV.d (DV.sl l.length (ops l)),RV.d (DV.fn 39)] (RV.d (DV.int .i64 (fixO (zZb (ops l))))):=
 zQo (Γ:=zHD) (zJr l) zQC Tryz.func79 rfl (Nat.le_of_ble_eq_true rfl) fun hwf=>by
  refine Eq.mpr (zUZ l) ?_
  delta tU2 tU4 tU5 dJ dK dQ wK dS rJ
  simp only [true_and,and_true,RV.d.injEq,RV.agg.injEq,RV.tup.injEq,DV.bool.injEq,DV.int.injEq,DV.sl.injEq,List.cons.injEq,forall_const,Bool.not_false,Bool.not_true,Bool.not_eq_true',Bool.not_eq_false',decide_eq_true_eq,decide_eq_false_iff_not,Int.toNat_natCast,ppC,ppE]
  have hos:l.length≤9223372036854775807:=by
   simp only [RV.wfs,RV.wf,DV.wf,DV.wfs,maxLen] at hwf
   omega
  clear hwf
  rw [zZu]
  refine ⟨⟨0,⟨Nat.zero_le _,rfl⟩,rfl⟩,fun k hk=>⟨fun hlt=>?_,fun hge=>?_⟩⟩
  ·have h:k < l.length:=by omega
   obtain ⟨hk1,hk2⟩:=hk
   obtain ⟨q0,q1,q2,q3,q4,q5,q6,q7,q8,q9,q10,q11⟩:=zGA h
   obtain ⟨r0,r1,r2,r3,r4,r5,r6,r7,r8,r9,r10,r11⟩:=zGC h
   have hml:=zZl l
   have aP:=zUM l[k]
   have wi:IntKind.wrap .i64 ((k:Int)+1)=((k+1:Nat):Int):=by rw [IntWalk.i64_in _ ⟨by omega,by omega⟩]; omega
   have hts:l.take (k+1)=l.take k++[l[k]]:=by rw [List.take_add_one,List.getElem?_eq_getElem h]; rfl
   simp only [r0,r1,r2,r3,r4,r5,r6,r7,r8,r9,r10,r11,wi]
   refine ⟨⟨by omega,by omega,by omega⟩,⟨q0,q1,q2,q3,q4,q5,q6,q7,q8,q9,q10,q11⟩,aP,fun hp=>?_,fun hp=>⟨k+1,⟨by omega,?_⟩,by omega,rfl⟩⟩
   ·exact (jUJ h hk2 hp).symm
   ·rw [hts,List.all_append,hk2]
    have hp:prtO l[k]=true:=hp
    simp [hp]
  ·have:k=l.length:=by omega
   subst this
   have hk2:=hk.2
   rw [List.take_length] at hk2
   exact (jUH hk2).symm
def zYj (l:List Oq):Ann:=Ann.leaf
theorem zV7 (l:List Oq):vcg Tryz.prog zHD 9 (zQA Tryz.f38) (zYj l) kn0 (zQ0 [RV.d (dS l.length (ops l)),RV.d (DV.fn 39)]) (post Tryz.prog Tryz.f38.results.toList (·=RV.d (dQ (!(zZb (ops l)).all prtO)))) =
 (tU3 ((Ans Tryz.prog 79 [RV.d (dS l.length (ops l)),RV.d (DV.fn 39)] (rJ ((fixO (zZb ((ops l)))))))∧tU2 (RV.d (dQ (decide ((fixO (zZb ((ops l))))≥(0:Int))))=RV.d (dQ (!(zZb (ops l)).all prtO))))):=by kernel_rfl
theorem zVm (l:List Oq):Ans Tryz.prog 38 [RV.d (DV.sl l.length (ops l)),RV.d (DV.fn 39)] (RV.d (DV.bool (!(zZb (ops l)).all prtO))):=
 zQo (Γ:=zHD) (zYj l) zQC Tryz.func38 rfl (Nat.le_of_ble_eq_true rfl) fun hwf=>by
  refine Eq.mpr (zV7 l) ?_
  delta tU2 tU3 dQ dS rJ
  simp only [true_and,and_true,RV.d.injEq,RV.agg.injEq,RV.tup.injEq,DV.bool.injEq,DV.int.injEq,DV.sl.injEq,List.cons.injEq,forall_const,Bool.not_false,Bool.not_true,Bool.not_eq_true',Bool.not_eq_false',decide_eq_true_eq,decide_eq_false_iff_not,Int.toNat_natCast,ppC,ppE]
  rw [zZu]
  exact ⟨(by have:=zUq l; rw [zZu] at this; exact this),jUI l⟩
def zVp (w:Lb):Ann:=(Ann.seq Ann.leaf (Ann.seq Ann.leaf (Ann.seq Ann.leaf (Ann.seq (Ann.loop ⟨PP × Int × Lb,fun x:PP × Int × Lb=>pGo x.1 x.2.1 [] x.2.2=zQD w∧x.1.ok (w.length - x.2.2.length)∧x.2.2.length≤w.length∧0≤x.2.1∧x.2.1≤w.length - x.2.2.length,fun x:PP × Int × Lb=>⟨[(0,AV.one (Cl.d (DV.str (toS x.2.2)))),(2,AV.one (Cl.ptr 2 0)),(5,AV.one (Cl.ptr 11 0)),(6,aJ ((x.2.1)))],[(2,bC [cJ (0),cJ (0),cJ (0),cJ (0),cJ (0),cJ (0),cJ (0),Cl.nil,Cl.nil,Cl.nil]),(11,Bx.cells (ppC (x.1) ((x.1).part) 9001)),(9001,Bx.row 3 1 (is (x.1).s.ord)),(9002,Bx.row 43 28 (ims (x.1).s.ims)),(9003,Bx.row 51 12 (ops (x.1).s.ops)),(9004,Bx.row 37 5 (pxs (x.1).px))]⟩,fun x:PP × Int × Lb=>x.2.2.length⟩ fun x=>Ann.leaf) Ann.leaf))))
theorem jQt (w:Lb):vcg Tryz.prog zHD 64 (zQA Tryz.f15) (zVp w) kn0 (zQ0 [RV.d (DV.str (toS w))]) (post Tryz.prog Tryz.f15.results.toList (·=RV.tup [RV.agg [dJ ((zQD (ofS (toS w))).1.bits),dJ ((zQD (ofS (toS w))).1.c.a),dJ ((zQD (ofS (toS w))).1.c.b),dJ ((zQD (ofS (toS w))).1.c.c),dJ ((zQD (ofS (toS w))).1.c.d),dJ ((zQD (ofS (toS w))).1.tw),dJ ((zQD (ofS (toS w))).1.th),dS ((zQD (ofS (toS w))).1.ord.length) (is (zQD (ofS (toS w))).1.ord),dS ((zQD (ofS (toS w))).1.ims.length) (ims (zQD (ofS (toS w))).1.ims),dS ((zQD (ofS (toS w))).1.ops.length) (ops (zQD (ofS (toS w))).1.ops)],rJ (((zQD (ofS (toS w))).2.1)),rJ (((zQD (ofS (toS w))).2.2))])) =
 (let zz0:=fun (x:PP × Int × Lb)=>(pGo x.1 x.2.1 [] x.2.2=zQD w∧x.1.ok (w.length - x.2.2.length)∧x.2.2.length≤w.length∧0≤x.2.1∧x.2.1≤w.length - x.2.2.length); let zz1:=(dJ 0=dJ 0); let zz2:=(zz1∧zz1∧zz1∧zz1∧zz1∧zz1∧zz1∧tU3 (True)); let zz3:=fun (x:PP × Int × Lb)=>(DV.str (toS (cutL (ofS ((toS x.2.2)))).1)); let zz4:=fun (x:PP × Int × Lb)=>[Bx.cells (ppC (x.1) ((x.1).part) 1),Bx.row 3 1 (is (x.1).s.ord),Bx.row 43 28 (ims (x.1).s.ims),Bx.row 51 12 (ops (x.1).s.ops),Bx.row 37 5 (pxs (x.1).px)]; let zz5:=[dJ 0,dJ 0,dJ 0,dJ 0,dJ 0,dJ 0,dJ 0,dS 0 ([]),dS 0 ([]),dS 0 ([])]; let zz6:=fun (x:PP × Int × Lb)=>(wK (x.2.1+(1:Int))); let zz7:=fun (x:PP × Int × Lb)=>[RV.agg zz5,rJ ((zz6 x)),rJ (19)]; let zz8:=[RV.agg [dJ ((zQD (ofS (toS w))).1.bits),dJ ((zQD (ofS (toS w))).1.c.a),dJ ((zQD (ofS (toS w))).1.c.b),dJ ((zQD (ofS (toS w))).1.c.c),dJ ((zQD (ofS (toS w))).1.c.d),dJ ((zQD (ofS (toS w))).1.tw),dJ ((zQD (ofS (toS w))).1.th),dS ((zQD (ofS (toS w))).1.ord.length) (is (zQD (ofS (toS w))).1.ord),dS ((zQD (ofS (toS w))).1.ims.length) (ims (zQD (ofS (toS w))).1.ims),dS ((zQD (ofS (toS w))).1.ops.length) (ops (zQD (ofS (toS w))).1.ops)],rJ (((zQD (ofS (toS w))).2.1)),rJ (((zQD (ofS (toS w))).2.2))]; let zz9:=fun (x:PP × Int × Lb)=>[dJ ((x.1).s.bits),dJ ((x.1).s.c.a),dJ ((x.1).s.c.b),dJ ((x.1).s.c.c),dJ ((x.1).s.c.d),dJ ((x.1).s.tw),dJ ((x.1).s.th),dS ((x.1).s.ord.length) (is (x.1).s.ord),dS ((x.1).s.ims.length) (ims (x.1).s.ims),dS ((x.1).s.ops.length) (ops (x.1).s.ops)]; let zz10:=[RV.agg zz5,rJ (0),rJ (19)]; tU7 (((∃ x:PP × Int × Lb,(zz0 x)∧(((DV.str (toS w)=DV.str (toS x.2.2))∧(0=0)∧(0=0)∧(dJ 0=dJ x.2.1)∧True)∧(zz2∧((dJ 0=dJ ((x.1).s.bits))∧(dJ 0=dJ ((x.1).s.c.a))∧(dJ 0=dJ ((x.1).s.c.b))∧(dJ 0=dJ ((x.1).s.c.c))∧(dJ 0=dJ ((x.1).s.c.d))∧(dJ 0=dJ ((x.1).s.tw))∧(dJ 0=dJ ((x.1).s.th))∧(0=(x.1).s.ord.length)∧(0=(x.1).s.ims.length)∧(0=(x.1).s.ops.length)∧(dJ 0=dJ ((x.1).part))∧(dJ 0=dJ ((x.1).w))∧(dJ 0=dJ ((x.1).h))∧(0=(x.1).px.length)∧True)∧([]=is (x.1).s.ord)∧([]=ims (x.1).s.ims)∧([]=ops (x.1).s.ops)∧([]=pxs (x.1).px)∧True)))∧∀ x:PP × Int × Lb,let yy2:=(cutL (ofS ((toS x.2.2)))); let yy0:=(zZY (⟨⟨((x.1).s.bits),((x.1).s.c),((x.1).s.tw),((x.1).s.th),ints (is (x.1).s.ord),zZ6 (ims (x.1).s.ims),zZb (ops (x.1).s.ops)⟩,((x.1).part),((x.1).w),((x.1).h),zQb (pxs (x.1).px)⟩:PP) (ofS ((toS yy2.1)))); let yy1:=(zXc (⟨((x.1).s.bits),((x.1).s.c),((x.1).s.tw),((x.1).s.th),ints (is (x.1).s.ord),zZ6 (ims (x.1).s.ims),zZb (ops (x.1).s.ops)⟩:Scr)); (zz0 x)→tU2 ((((!((toS x.2.2).toList==(⟨#[]⟩:ByteArray).toList))=true→tU4 ((Ans Tryz.prog 35 [RV.d (DV.str (toS x.2.2)),RV.d (DV.str (⟨#[10]⟩:ByteArray))] (RV.tup [RV.d (zz3 x),RV.d (DV.str (toS yy2.2.1)),RV.d (dQ (yy2.2.2))]))∧tU2 (tU8 ((((!(yy2.2.2))=false→tU2 ((AnsG Tryz.prog 36 1 [aPz,AV.one (Cl.d (zz3 x))] (zz4 x) ⟨AV.one (Cl.d (dQ (yy0.2))),[Bx.cells (ppC (yy0.1) ((yy0.1).part) 1),Bx.row 3 1 (is (yy0.1).s.ord),Bx.row 43 28 (ims (yy0.1).s.ims),Bx.row 51 12 (ops (yy0.1).s.ops),Bx.row 37 5 (pxs (yy0.1).px)],false⟩)∧tU2 ((((!(yy0.2))=true→tU5 (RV.tup (zz7 x)=RV.tup zz8))∧((!(yy0.2))=false→tU2 (∃ x':PP × Int × Lb,(pGo x'.1 x'.2.1 [] x'.2.2=zQD w∧x'.1.ok (w.length - x'.2.2.length)∧x'.2.2.length≤w.length∧0≤x'.2.1∧x'.2.1≤w.length - x'.2.2.length)∧(x'.2.2.length < x.2.2.length)∧(((DV.str (toS yy2.2.1)=DV.str (toS x'.2.2))∧(0=0)∧(0=0)∧(dJ (zz6 x)=dJ x'.2.1)∧True)∧(zz2∧ppE (yy0.1) (x'.1)))))))))∧((!(yy2.2.2))=(!false)→tU6 (RV.tup (zz7 x)=RV.tup zz8)))))))∧((!((toS x.2.2).toList==(⟨#[]⟩:ByteArray).toList))=false→tU6 ((((decide (((x.1).part)≤(2:Int)))=false→True∧(AnsG Tryz.prog 37 5 [aPz] (zz4 x) ⟨AV.one (Cl.d (dQ (decide (((x.1).h) > (0:Int))))),(zz4 x),false⟩)∧True∧(((decide (((x.1).h) > (0:Int)))=true→tU6 (RV.tup (zz7 x)=RV.tup zz8))∧((decide (((x.1).h) > (0:Int)))=false→tU4 ((Ans Tryz.prog 24 [RV.agg (zz9 x)] (RV.d (dQ yy1)))∧tU2 ((((!yy1)=false→tU5 ((Ans Tryz.prog 38 [RV.d (dS ((x.1).s.ops.length) (ops (x.1).s.ops)),RV.d (DV.fn 39)] (RV.d (dQ (!(zZb ((ops (x.1).s.ops))).all prtO))))∧True∧(((!(zZb ((ops (x.1).s.ops))).all prtO)=true→tU4 (RV.tup zz10=RV.tup zz8))∧((!(zZb ((ops (x.1).s.ops))).all prtO)=false→tU7 (RV.tup [RV.agg (zz9 x),rJ (0),rJ (0)]=RV.tup zz8)))))∧((!yy1)=(!false)→tU5 (RV.tup zz10=RV.tup zz8))))))))∧((decide (((x.1).part)≤(2:Int)))=(!false)→tU7 (RV.tup (zz7 x)=RV.tup zz8)))))))))):=by kernel_rfl
theorem zY2 (w:Lb) (hw:w.length < 4294967281):Ans Tryz.prog 15 [RV.d (DV.str (toS w))] (RV.tup [RV.agg [DV.int .i64 ((zQD (ofS (toS w))).1.bits),DV.int .i64 ((zQD (ofS (toS w))).1.c.a),DV.int .i64 ((zQD (ofS (toS w))).1.c.b),DV.int .i64 ((zQD (ofS (toS w))).1.c.c),DV.int .i64 ((zQD (ofS (toS w))).1.c.d),DV.int .i64 ((zQD (ofS (toS w))).1.tw),DV.int .i64 ((zQD (ofS (toS w))).1.th),DV.sl ((zQD (ofS (toS w))).1.ord.length) (is (zQD (ofS (toS w))).1.ord),DV.sl ((zQD (ofS (toS w))).1.ims.length) (ims (zQD (ofS (toS w))).1.ims),DV.sl ((zQD (ofS (toS w))).1.ops.length) (ops (zQD (ofS (toS w))).1.ops)],RV.d (DV.int .i64 ((zQD (ofS (toS w))).2.1)),RV.d (DV.int .i64 ((zQD (ofS (toS w))).2.2))]):=
 zQo (Γ:=zHD) (zVp w) zQC Tryz.func15 rfl (Nat.le_of_ble_eq_true rfl) fun hwf=>by
  refine Eq.mpr (jQt w) ?_
  delta tU2 tU3 tU4 tU5 tU6 tU7 tU8 dJ dQ wK dS rJ aPz
  simp only [true_and,and_true,RV.d.injEq,RV.agg.injEq,RV.tup.injEq,DV.bool.injEq,DV.int.injEq,DV.sl.injEq,List.cons.injEq,forall_const,Bool.not_false,Bool.not_true,Bool.not_eq_true',Bool.not_eq_false',decide_eq_true_eq,decide_eq_false_iff_not,Int.toNat_natCast,ppC,ppE]
  simp only [zZQ,zQZ,zZP,zZu,zZg,zQL,zZh]
  clear hwf
  refine ⟨⟨(zPP,0,w),⟨rfl,⟨by simp [zPP,zScr],by simp [zPP,zScr],by simp [zPP,zScr],by simp [zPP,zScr],by simp [zPP],by simp [zPP],by simp [zPP],by simp [zPP],fun m hm=>by simp [zPP,zScr] at hm⟩,Nat.le_refl _,Int.le_refl _,by simp⟩,⟨rfl,rfl⟩,(by (repeat' apply And.intro) <;> first | rfl | trivial)⟩,fun x hx=>?_⟩
  obtain ⟨p,n,t⟩:=x
  obtain ⟨e,ok,hl,n0,n1⟩:=hx
  simp only [Scr.eta_,PP.eta_,jUQ,decide_eq_true_eq,decide_eq_false_iff_not] at *
  obtain ⟨c1,c2⟩:=jUh p n t
  have hcl:=jJo t
  obtain ⟨k1,k2,k3,k4,k5,k6,k7,k8,k9⟩:=ok
  have aL:=zVg p (cutL t).1 (by omega) (by omega) (by omega) (by omega) (by omega) ⟨k5,k6⟩ ⟨k7,k8⟩
  have aI:=zXE p
  have aE:=zYf p.s k9 (by omega)
  have aC:=zVm p.s.ops
  simp only [zQZ,zZP,zZu,zZg,zZh,Scr.eta_,PP.eta_] at aL aE aC
  have wn:IntKind.wrap .i64 (n+1)=n+1:=IntWalk.i64_in _ ⟨by omega,by omega⟩
  rw [wn]
  refine ⟨fun h1=>⟨jUU t (by omega),fun h2=>⟨aL,fun h3=>?_,fun h3=>?_⟩,fun h2=>?_⟩,fun h1=>⟨fun h2=>⟨aI,fun h3=>?_,fun h3=>⟨aE,fun h4=>⟨aC,fun h5=>?_,fun h5=>?_⟩,fun h4=>?_⟩⟩,fun h2=>?_⟩⟩
  ·rw [← e,(c1 h2).1,h3,if_neg (by decide)]; exact (by (repeat' apply And.intro) <;> first | rfl | trivial)
  ·obtain ⟨d1,d2⟩:=c1 h2
   rw [h3,if_pos rfl] at d1
   have ok':=jVJ ⟨k1,k2,k3,k4,k5,k6,k7,k8,k9⟩ (cutL t).1
   refine ⟨((zZY p (cutL t).1).1,n+1,(cutL t).2.1),⟨d1.symm.trans e,?_,by show (cutL t).2.1.length≤_; omega,by show 0≤n+1; omega,by show n+1≤_ - (((cutL t).2.1.length:Nat):Int); omega⟩,by show (cutL t).2.1.length < _; omega,⟨rfl,rfl⟩,(by (repeat' apply And.intro) <;> first | rfl | trivial)⟩
   rw [show w.length - (cutL t).2.1.length=w.length - t.length+(cutL t).1.length+1 by omega]
   exact ok'
  ·rw [← e,c2 h2 h1]; exact (by (repeat' apply And.intro) <;> first | rfl | trivial)
  ·subst h1
   have e:pEnd p n=zQD w:=e
   rw [← e]; unfold pEnd; rw [if_pos (.inr h3)]; exact (by (repeat' apply And.intro) <;> first | rfl | trivial)
  ·subst h1
   have e:pEnd p n=zQD w:=e
   rw [← e]; unfold pEnd; rw [if_neg (fun h=>h.elim h2 h3),if_neg (fun h=>by rw [h5] at h; exact absurd h.2 (by decide))]; exact (by (repeat' apply And.intro) <;> first | rfl | trivial)
  ·subst h1
   have e:pEnd p n=zQD w:=e
   rw [← e]; unfold pEnd; rw [if_neg (fun h=>h.elim h2 h3),if_pos ⟨h4,h5⟩]; exact (by (repeat' apply And.intro) <;> first | rfl | trivial)
  ·subst h1
   have e:pEnd p n=zQD w:=e
   rw [← e]; unfold pEnd; rw [if_neg (fun h=>h.elim h2 h3),if_neg (fun h=>by rw [h4] at h; exact absurd h.1 (by decide))]; exact (by (repeat' apply And.intro) <;> first | rfl | trivial)
  ·subst h1
   have e:pEnd p n=zQD w:=e
   rw [← e]; unfold pEnd; rw [if_pos (.inl h2)]; exact (by (repeat' apply And.intro) <;> first | rfl | trivial)
end Go.Proofs.YtheidkkebdhmkaaGreatDoor
namespace Go.Proofs.YtheidkkebdhmkaaGreatDoor
open Go.RowKit
set_option linter.unusedVariables false
set_option linter.unusedSimpArgs false
set_option maxRecDepth 100000 in
theorem jXl (g:Nat) (w:World) (h0:w.cell? ⟨g,0,none⟩=some (.pointer (some ⟨g,0,none⟩))) :
  Calls Tryz.prog 98 #[.pointer (some ⟨g,0,none⟩)] w fun e w'=>e=.returned (.tuple #[])∧w'=w:=by
 have hi:(Tryz.prog.info? 82).map (·.size)=some 2:=by kernel_rfl
 obtain ⟨j,hj,_⟩:=Option.map_eq_some_iff.1 hi
 go_enter Tryz.func98,Tryz.ntmps98
 go_wp2
 rw [Lib.run_neq_ptr_same w _ Tryz.underlying79 hj]
 go_wp2
 go_end0
 exact ⟨rfl,rfl⟩
set_option maxHeartbeats 1000000 in
set_option maxRecDepth 100000 in
theorem jQ7 (g T:Nat) (w:World) (h0:w.cell? ⟨g,0,none⟩=some (.pointer none)) (hsh:w.shape? g=some (T,2)) (hT:T∈zX6) (hfz:w.frozen? ⟨g,0,none⟩=false) :
  Calls Tryz.prog 98 #[.pointer (some ⟨g,0,none⟩)] w fun e w'=>e=.returned (.tuple #[])∧w'=w.setCell ⟨g,0,none⟩ (.pointer (some ⟨g,0,none⟩)):=by
 have hi:(Tryz.prog.info? 82).map (·.size)=some 2:=by kernel_rfl
 obtain ⟨j,hj,hjs'⟩:=Option.map_eq_some_iff.1 hi
 have hjs:j.size≠0:=by rw [hjs']; decide
 have hlies:liesAt Tryz.prog Tryz.prog.depth T (2 / Tryz.prog.cellsOf T) 0 82 1=true:=by
  simp only [zX6,List.mem_cons,List.not_mem_nil,or_false] at hT
  rcases hT with rfl | rfl <;> kernel_rfl
 have hto:=Lib.run_to_unsafe (P:=Tryz.prog) w ⟨g,0,none⟩ Tryz.underlying79 Tryz.underlying177 hj hjs hsh (Nat.zero_lt_succ 1)
 have hfrom:=Lib.run_from_unsafe (P:=Tryz.prog) w ⟨g,0,none⟩ Tryz.underlying177 Tryz.underlying79 hj hsh hlies
 go_enter Tryz.func98,Tryz.ntmps98
 go_wp2
 rw [run_callFunc_extern Tryz.func124 (by kernel_rfl) (by kernel_rfl) (by kernel_rfl) (e:=Extern.AbiNoEscape.same) (by kernel_rfl)]
 rw [Lib.run_noEscape]
 simp only [Result.andThen]
 rw [Oper.upon_value]
 go_wp2
 go_end0
 exact ⟨rfl,rfl⟩
theorem jJ1 {w:World} {S:Nat→Prop} {ι:zQF} {args:List AV} {ins:List Bx} {vs:List Value} {res:AV} {v:Value} (pin:Nat) (hh:zKT w S ι args ins vs)
  (hr:zQs w (zJ0 w S ι ins ⟨res,ins,false⟩ ι) ι (zQO ins) res v):jWx w S ι pin ins ⟨res,ins,false⟩ w ι v:=by
 have hk:zZA w S w (zJ0 w S ι ins ⟨res,ins,false⟩ ι):=fun g off u hV hu=>⟨⟨.inl ⟨rfl,hV⟩,fun ⟨b,c,hl,e⟩=>(hh.own b g c hl e).1 hV⟩,hu⟩
 exact ⟨hr,fun b=>(hh.bx b).seen hk,fun b g c hl e=>⟨.inr ⟨b,c,hl,e⟩,(hh.own b g c hl e).2⟩,hh.dist,fun b _=>rfl,Bel.refl _ _⟩
theorem zYY (n:Nat) (xs:List DV):AnsG Tryz.prog 98 1 [AV.one (Cl.ptr 0 0)] [Bx.cells [Cl.ptr 0 0,Cl.ref 1 n],Bx.row 5 1 xs] ⟨AV.tup [],[Bx.cells [Cl.ptr 0 0,Cl.ref 1 n],Bx.row 5 1 xs],false⟩:=by
 intro w S ι vs hG hh
 obtain ⟨vs⟩:=vs
 have ha:=hh.args
 match vs,ha with
 | [v],ha=>
  simp only [RepAVs,zQs,zQM,and_true] at ha
  obtain ⟨_,g,c,hι,rfl⟩:=ha
  have h0:=hh.bx 0
  have hb0:zQO [Bx.cells [Cl.ptr 0 0,Cl.ref 1 n],Bx.row 5 1 xs] 0=Bx.cells [Cl.ptr 0 0,Cl.ref 1 n]:=rfl
  rw [hb0] at h0
  obtain ⟨g',c',cur,T,e1,e2,e0,e3⟩:=h0
  rw [hι] at e1
  simp only [Option.some.injEq,Prod.mk.injEq] at e1
  obtain ⟨rfl,rfl⟩:=e1
  obtain ⟨cur⟩:=cur
  match cur,e3 with
  | [a,b],e3=>
   simp only [zQW,zQM] at e3
   obtain ⟨⟨_,g2,c2,e4,rfl⟩,_⟩:=e3
   rw [hι] at e4
   simp only [Option.some.injEq,Prod.mk.injEq] at e4
   obtain ⟨rfl,rfl⟩:=e4
   refine (jXl g w (by simp [World.cell?,e2])).mono ?_
   rintro e w' ⟨rfl,rfl⟩
   exact ⟨_,ι,rfl,jJ1 1 hh (by simp only [zQs]; exact ⟨_,rfl,trivial⟩)⟩
theorem zVY:AnsG Tryz.prog 98 1 [AV.one (Cl.ptr 0 0)] [Bx.cells [Cl.lit (Value.pointer none),Cl.nil]] ⟨AV.tup [],[Bx.cells [Cl.ptr 0 0,Cl.ref 1 0],Bx.row 5 1 []],false⟩:=by
 intro w S ι vs hG hh
 obtain ⟨vs⟩:=vs
 have ha:=hh.args
 match vs,ha with
 | [v],ha=>
  simp only [RepAVs,zQs,zQM,and_true] at ha
  obtain ⟨_,g,c,hι,rfl⟩:=ha
  have h0:=hh.bx 0
  have hb0:zQO [Bx.cells [Cl.lit (Value.pointer none),Cl.nil]] 0=Bx.cells [Cl.lit (Value.pointer none),Cl.nil]:=rfl
  rw [hb0] at h0
  obtain ⟨g',c',cur,T,e1,e2,e0,e3⟩:=h0
  rw [hι] at e1
  simp only [Option.some.injEq,Prod.mk.injEq] at e1
  obtain ⟨rfl,rfl⟩:=e1
  obtain ⟨cur⟩:=cur
  match cur,e3 with
  | [a,b],e3=>
   simp only [zQW,zQM] at e3
   obtain ⟨⟨rfl,_⟩,rfl,_⟩:=e3
   have hT:T∈zX6:=(e0 rfl).resolve_left (by simp [zX6])
   have hg:g < w.heap.size:=(Array.getElem?_eq_some_iff.1 e2).1
   refine (jQ7 g T w (by simp [World.cell?,e2]) (by simp [World.shape?,e2]) hT (Lib.frozen_of_heap e2 0)).mono ?_
   rintro e w' ⟨rfl,rfl⟩
   have hsz:(w.setCell ⟨g,0,none⟩ (.pointer (some ⟨g,0,none⟩))).heap.size=w.heap.size:=by simp [World.setCell]
   have hnew:(w.setCell ⟨g,0,none⟩ (.pointer (some ⟨g,0,none⟩))).heap[g]?=some (.cells #[.pointer (some ⟨g,0,none⟩),.slice none 0 0] T (0,0)):=by
    obtain ⟨hlt,hk⟩:=Array.getElem?_eq_some_iff.1 e2
    show (w.heap.modify g _)[g]?=_
    rw [Array.getElem?_eq_getElem (by rw [Array.size_modify]; exact hlt),Array.getElem_modify_self,hk]
    rfl
   refine ⟨_,fun b=>if b=1 then none else ι b,rfl,?_,fun b=>?_,fun b g' c' hl e=>?_,fun b b' g' c' c'' hl hl' hne e=>?_,fun b hb=>?_,?_⟩
   ·simp only [zQs]; exact ⟨_,rfl,trivial⟩
   ·match b with
    | 0=>exact ⟨g,c,_,T,by simpa using hι,hnew,(fun h=>by cases h),⟨rfl,g,c,by simpa using hι,rfl⟩,⟨rfl,.inl ⟨rfl,rfl,rfl⟩⟩,trivial⟩
    | 1=>exact .inl ⟨rfl,rfl⟩
    | b+2=>trivial
   ·match b with
    | 0=>
     have e:ι 0=some (g',c'):=by simpa using e
     rw [hι] at e
     simp only [Option.some.injEq,Prod.mk.injEq] at e
     obtain ⟨rfl,rfl⟩:=e
     exact ⟨.inr ⟨0,c,rfl,hι⟩,by rw [hsz]; exact hg⟩
    | 1=>simp at e
    | b+2=>cases hl
   ·match b,b' with
    | 0,0=>exact absurd rfl hne
    | 0,1=>simp
    | 1,_=>simp at e
    | b+2,_=>cases hl
    | 0,b'+2=>cases hl'
   ·have:b=0:=by omega
    subst this; rfl
   ·refine ⟨rfl,rfl,rfl,by rw [hsz]; exact Nat.le_refl _,fun g' hg' hl=>?_⟩
    refine Below.heap_setCell w _ _ g' fun e=>hl ?_
    exact ⟨0,c,rfl,by rw [hι]; simp at e; rw [e]⟩
end Go.Proofs.YtheidkkebdhmkaaGreatDoor
namespace Go.Proofs.YtheidkkebdhmkaaGreatDoor
open Go.RowKit
set_option linter.unusedVariables false
set_option linter.unusedSimpArgs false
attribute [local irreducible] Ans AnsO AnsG AnsN AnsI
set_option maxHeartbeats 4000000
set_option maxRecDepth 4000
open Go.Lib
def digW (l:List Int):List Lb:=l.map itoa
def zZd:List Lb→Lb
 | []=>[]
 | w::ws=>w++ws.flatMap fun x=>32::x
def zQ4 (ws:List Lb):Lb:=zZd ws++[10]
theorem jQa {l:List Lb} {k:Nat} (h:k < l.length):zZd (l.take (k+1))=(if k=0 then l[k] else zZd (l.take k)++32::l[k]):=by
 cases l with
 | nil=>simp at h
 | cons w ws=>
  cases k with
  | zero=>simp [zZd]
  | succ k=>
   have h':k < ws.length:=by simpa using h
   rw [if_neg (by omega),List.take_succ_cons,List.take_succ_cons,zZd,zZd,List.take_add_one,List.getElem?_eq_getElem h',List.flatMap_append,List.getElem_cons_succ]
   simp
theorem jY6 (l:List Lb) (k:Nat):(zZd (l.take k)).length≤(zZd l).length:=by
 cases l with
 | nil=>simp
 | cons w ws=>
  cases k with
  | zero=>simp [zZd]
  | succ k=>
   rw [List.take_succ_cons,zZd,zZd]
   conv=>rhs; rw [← List.take_append_drop k ws]
   rw [List.flatMap_append]
   simp
theorem b32:[DV.int .u8 32]=zQf (toS [32]):=rfl
theorem b10:[DV.int .u8 10]=zQf (toS [10]):=rfl
theorem zZx (l m:Lb):zQf (toS l)++zQf (toS m)=zQf (toS (l++m)):=by simp [zQf,toS]
theorem zK9 (s:ByteArray):(zQf s).length=s.size:=by simp [zQf]
def zUW:Gam where
 pure:=fun f xs=>
  if f=97 then (match xs with | [.d (.int _ n)]=>some (RV.d (DV.str (toS (itoa n)))) | _=>none) else
  none
 modes:=fun f=>
  if f=57 then some ([true],0,1) else
  if f=98 then some ([false],1,1) else
  if f=58 then some ([false,true],1,1) else
  if f=59 then some ([false,true],1,1) else
  none
 proc:=fun f xs bs=>
  if f=57 then (match xs,bs with | [AV.one (Cl.d (DV.sl kn kxs))],[]=>some ⟨AV.one (Cl.ref 0 ((digW (ints (kxs))).length)),[Bx.row 9 1 (strs (digW (ints (kxs))))],false⟩ | _,_=>none) else
  if f=98 then (match xs,bs with | [AV.one (Cl.ptr 0 0)],[Bx.cells [Cl.ptr 0 0,Cl.ref 1 n],Bx.row _ _ xs]=>some ⟨AV.tup [],[bC [Cl.ptr 0 0,Cl.ref 1 n],Bx.row 5 1 xs],false⟩ | [AV.one (Cl.ptr 0 0)],[Bx.cells [Cl.lit (Value.pointer none),Cl.nil]]=>some ⟨AV.tup [],[bC [Cl.ptr 0 0,Cl.ref 1 0],Bx.row 5 1 ([])],false⟩ | _,_=>none) else
  if f=58 then (match xs,bs with | [AV.one (Cl.ptr 0 0),AV.one (Cl.d (DV.int _ c))],[Bx.cells [Cl.ptr 0 0,Cl.ref 1 n],Bx.row _ _ xs]=>some ⟨AV.one (Cl.lit (Value.nilIface)),[bC [Cl.ptr 0 0,Cl.ref 1 (n+1)],Bx.row 5 1 (xs++[DV.int .u8 c])],false⟩ | _,_=>none) else
  if f=59 then (match xs,bs with | [AV.one (Cl.ptr 0 0),AV.one (Cl.d (DV.str s))],[Bx.cells [Cl.ptr 0 0,Cl.ref 1 n],Bx.row _ _ xs]=>some ⟨AV.tup [aJ (((((s).size:Nat):Int))),AV.one (Cl.lit (Value.nilIface))],[bC [Cl.ptr 0 0,Cl.ref 1 (n+(s).size)],Bx.row 5 1 (xs++zQf s)],false⟩ | [AV.one (Cl.ptr 0 0),AV.one (Cl.d (DV.str s))],[Bx.cells [Cl.lit (Value.pointer none),Cl.nil]]=>some ⟨AV.tup [aJ (((((s).size:Nat):Int))),AV.one (Cl.lit (Value.nilIface))],[bC [Cl.ptr 0 0,Cl.ref 1 (0+(s).size)],Bx.row 5 1 ([]++zQf s)],false⟩ | _,_=>none) else
  none
 iter:=fun f cs=>
  none
def zYZ (n:Nat) (xs:List DV) (c:Int):Ann:=Ann.leaf
theorem zUk (n:Nat) (xs:List DV) (c:Int):vcg Tryz.prog zUW ⟨17,fun _=>false,List.range 1,false⟩ (zQA Tryz.f58) (zYZ n xs c) kn0 (zZc [aPz,AV.one (Cl.d (DV.int .u8 c))] [bC [Cl.ptr 0 0,Cl.ref 1 n],Bx.row 5 1 xs]) (zZJ Tryz.prog ⟨17,fun _=>false,List.range 1,false⟩ Tryz.f58.results.toList ⟨AV.one (Cl.lit (Value.nilIface)),[bC [Cl.ptr 0 0,Cl.ref 1 (n+1)],Bx.row 5 1 (xs++[DV.int .u8 c])],false⟩) =
 (let zz0:=[bC [Cl.ptr 0 0,Cl.ref 1 n],Bx.row 5 1 xs]; tU2 ((AnsG Tryz.prog 98 1 [aPz] zz0 ⟨AV.tup [],zz0,false⟩)∧tU7 ((zZf 1 1 n 1 xs ([DV.int .u8 c]))∧tU4 (((((Value.nilIface:Value)=Value.nilIface)∧True)∧(((0=0)∧(n+1=n+1)∧True)∧(xs++([DV.int .u8 c])=xs++[DV.int .u8 c])∧True))∧zQv ⟨AV.one (Cl.lit (Value.nilIface)),[bC [Cl.ptr 0 0,Cl.ref 1 (n+1)],Bx.row 5 1 (xs++[DV.int .u8 c])],false⟩)))):=by kernel_rfl
theorem zZs (n:Nat) (xs:List DV) (c:Int) (hn:xs.length=n) (hb:n≤35184372088832):AnsG Tryz.prog 58 1 [AV.one (Cl.ptr 0 0),AV.one (Cl.d (DV.int .u8 c))] [Bx.cells [Cl.ptr 0 0,Cl.ref 1 n],Bx.row 5 1 xs] ⟨AV.one (Cl.lit (Value.nilIface)),[Bx.cells [Cl.ptr 0 0,Cl.ref 1 (n+1)],Bx.row 5 1 (xs++[DV.int .u8 c])],false⟩:=
 zQz (Γ:=zUW) (zYZ n xs c) zQC Tryz.func58 rfl (Nat.le_of_ble_eq_true rfl) rfl fun hwf hbx=>by
  refine Eq.mpr (zUk n xs c) ?_
  delta tU2 tU4 tU7 aPz bC
  simp only [true_and,and_true,RV.d.injEq,RV.agg.injEq,RV.tup.injEq,DV.bool.injEq,DV.int.injEq,DV.sl.injEq,List.cons.injEq,forall_const,Bool.not_false,Bool.not_true,Bool.not_eq_true',Bool.not_eq_false',decide_eq_true_eq,decide_eq_false_iff_not,Int.toNat_natCast]
  exact ⟨zYY n xs,⟨by rw [hn,Nat.mul_one],by simp [zQf],by unfold maxLen; omega,by omega⟩,trivial⟩
def zYi (n:Nat) (xs:List DV) (s:ByteArray):Ann:=Ann.leaf
theorem zV3 (n:Nat) (xs:List DV) (s:ByteArray):vcg Tryz.prog zUW ⟨19,fun _=>false,List.range 1,false⟩ (zQA Tryz.f59) (zYi n xs s) kn0 (zZc [aPz,AV.one (Cl.d (DV.str s))] [bC [Cl.ptr 0 0,Cl.ref 1 n],Bx.row 5 1 xs]) (zZJ Tryz.prog ⟨19,fun _=>false,List.range 1,false⟩ Tryz.f59.results.toList ⟨AV.tup [aJ (((((s).size:Nat):Int))),AV.one (Cl.lit (Value.nilIface))],[bC [Cl.ptr 0 0,Cl.ref 1 (n+(s).size)],Bx.row 5 1 (xs++zQf s)],false⟩) =
 (let zz0:=[bC [Cl.ptr 0 0,Cl.ref 1 n],Bx.row 5 1 xs]; tU3 ((AnsG Tryz.prog 98 1 [aPz] zz0 ⟨AV.tup [],zz0,false⟩)∧tU6 ((zZf 1 1 n s.size xs (zQf s))∧tU7 (((((dJ (s.size:Int)=dJ (((s).size:Nat):Int))∧((Value.nilIface:Value)=Value.nilIface)∧True)∧True)∧(((0=0)∧(n+s.size=n+(s).size)∧True)∧(xs++(zQf s)=xs++zQf s)∧True))∧zQv ⟨AV.tup [aJ (((((s).size:Nat):Int))),AV.one (Cl.lit (Value.nilIface))],[bC [Cl.ptr 0 0,Cl.ref 1 (n+(s).size)],Bx.row 5 1 (xs++zQf s)],false⟩)))):=by kernel_rfl
theorem zZv (n:Nat) (xs:List DV) (s:ByteArray) (hn:xs.length=n) (hb:n≤35184372088832) (hs:s.size≤35184372088832):AnsG Tryz.prog 59 1 [AV.one (Cl.ptr 0 0),AV.one (Cl.d (DV.str s))] [Bx.cells [Cl.ptr 0 0,Cl.ref 1 n],Bx.row 5 1 xs] ⟨AV.tup [AV.one (Cl.d (DV.int .i64 (((s).size:Nat):Int))),AV.one (Cl.lit (Value.nilIface))],[Bx.cells [Cl.ptr 0 0,Cl.ref 1 (n+(s).size)],Bx.row 5 1 (xs++zQf s)],false⟩:=
 zQz (Γ:=zUW) (zYi n xs s) zQC Tryz.func59 rfl (Nat.le_of_ble_eq_true rfl) rfl fun hwf hbx=>by
  refine Eq.mpr (zV3 n xs s) ?_
  delta tU3 tU6 tU7 dJ aJ aPz bC
  simp only [true_and,and_true,RV.d.injEq,RV.agg.injEq,RV.tup.injEq,DV.bool.injEq,DV.int.injEq,DV.sl.injEq,List.cons.injEq,forall_const,Bool.not_false,Bool.not_true,Bool.not_eq_true',Bool.not_eq_false',decide_eq_true_eq,decide_eq_false_iff_not,Int.toNat_natCast]
  exact ⟨zYY n xs,⟨by rw [hn,Nat.mul_one],by simp [zQf],by unfold maxLen; omega,by omega⟩,trivial⟩
def zX7 (s:ByteArray):Ann:=Ann.leaf
theorem zVk (s:ByteArray):vcg Tryz.prog zUW ⟨19,fun _=>false,List.range 1,false⟩ (zQA Tryz.f59) (zX7 s) kn0 (zZc [aPz,AV.one (Cl.d (DV.str s))] [bC [Cl.lit (Value.pointer none),Cl.nil]]) (zZJ Tryz.prog ⟨19,fun _=>false,List.range 1,false⟩ Tryz.f59.results.toList ⟨AV.tup [aJ (((((s).size:Nat):Int))),AV.one (Cl.lit (Value.nilIface))],[bC [Cl.ptr 0 0,Cl.ref 1 (0+(s).size)],Bx.row 5 1 ([]++zQf s)],false⟩) =
 (tU3 ((AnsG Tryz.prog 98 1 [aPz] [bC [Cl.lit (Value.pointer none),Cl.nil]] ⟨AV.tup [],[bC [Cl.ptr 0 0,Cl.ref 1 0],Bx.row 5 1 ([])],false⟩)∧tU6 ((zZf 1 1 0 s.size ([]) (zQf s))∧tU7 (((((dJ (s.size:Int)=dJ (((s).size:Nat):Int))∧((Value.nilIface:Value)=Value.nilIface)∧True)∧True)∧(((0=0)∧(0+s.size=0+(s).size)∧True)∧(([])++(zQf s)=[]++zQf s)∧True))∧zQv ⟨AV.tup [aJ (((((s).size:Nat):Int))),AV.one (Cl.lit (Value.nilIface))],[bC [Cl.ptr 0 0,Cl.ref 1 (0+(s).size)],Bx.row 5 1 ([]++zQf s)],false⟩)))):=by kernel_rfl
theorem zKM (s:ByteArray) (hs:s.size≤35184372088832):AnsG Tryz.prog 59 1 [AV.one (Cl.ptr 0 0),AV.one (Cl.d (DV.str s))] [Bx.cells [Cl.lit (Value.pointer none),Cl.nil]] ⟨AV.tup [AV.one (Cl.d (DV.int .i64 (((s).size:Nat):Int))),AV.one (Cl.lit (Value.nilIface))],[Bx.cells [Cl.ptr 0 0,Cl.ref 1 (0+(s).size)],Bx.row 5 1 ([]++zQf s)],false⟩:=
 zQz (Γ:=zUW) (zX7 s) zQC Tryz.func59 rfl (Nat.le_of_ble_eq_true rfl) rfl fun hwf hbx=>by
  refine Eq.mpr (zVk s) ?_
  delta tU3 tU6 tU7 dJ aJ aPz bC
  simp only [true_and,and_true,RV.d.injEq,RV.agg.injEq,RV.tup.injEq,DV.bool.injEq,DV.int.injEq,DV.sl.injEq,List.cons.injEq,forall_const,Bool.not_false,Bool.not_true,Bool.not_eq_true',Bool.not_eq_false',decide_eq_true_eq,decide_eq_false_iff_not,Int.toNat_natCast]
  exact ⟨zVY,⟨rfl,by simp [zQf],by unfold maxLen; omega,by omega⟩,trivial⟩
def zKg (l:List Int):Ann:=(Ann.seq Ann.leaf (Ann.seq Ann.leaf (Ann.seq (Ann.seq Ann.leaf (Ann.loop ⟨Nat,fun k=>k≤l.length,fun k=>⟨[(3,AV.one (Cl.ref 1003 ((digW (l.take k)).length))),(6,AV.one (Cl.d (dS l.length (is l)))),(7,aJ (((l.length:Int)))),(8,aJ (((k:Int))))],[(1003,Bx.row 9 1 (strs (digW (l.take k))))]⟩,fun k=>l.length - k⟩ fun k=>Ann.leaf)) Ann.leaf)))
theorem zHp (l:List Int):vcg Tryz.prog zUW ⟨19,fun _=>false,List.range 0,false⟩ (zQA Tryz.f57) (zKg l) kn0 (zZc [AV.one (Cl.d (dS l.length (is l)))] []) (zZJ Tryz.prog ⟨19,fun _=>false,List.range 0,false⟩ Tryz.f57.results.toList ⟨AV.one (Cl.ref 0 ((digW (ints (is l))).length)),[Bx.row 9 1 (strs (digW (ints (is l))))],false⟩) =
 (let zz0:=(dS l.length (is l)=dS l.length (is l)); let zz1:=(dJ (l.length:Int)=dJ (l.length:Int)); tU5 (((∃ k:Nat,(k≤l.length)∧(((0=(digW (l.take k)).length)∧zz0∧zz1∧(dJ 0=dJ (k:Int))∧True)∧(([]=strs (digW (l.take k)))∧True)))∧∀ k:Nat,let yy0:=(nAt (is l) ((k:Int).toNat*1)); (k≤l.length)→True∧(((decide ((k:Int) < (l.length:Int)))=true→(0≤(k:Int)∧(k:Int) < (l.length:Int)∧(k:Int).toNat*1 < (is l).length)∧(((is l)[(k:Int).toNat*1]?=some (dJ yy0))∧True)∧tU3 ((Ans Tryz.prog 97 [rJ (yy0)] (RV.d (DV.str (toS (itoa yy0)))))∧True∧(zZf 1 16 ((digW (l.take k)).length) 1 (strs (digW (l.take k))) ([DV.str (toS (itoa yy0))]))∧tU3 (∃ k':Nat,(k'≤l.length)∧(l.length - k' < l.length - k)∧(((((digW (l.take k)).length)+1=(digW (l.take k')).length)∧zz0∧zz1∧(dJ (wK ((k:Int)+(1:Int)))=dJ (k':Int))∧True)∧(((strs (digW (l.take k)))++([DV.str (toS (itoa yy0))])=strs (digW (l.take k')))∧True)))))∧((decide ((k:Int) < (l.length:Int)))=false→tU2 (((((digW (l.take k)).length=(digW (ints (is l))).length)∧True)∧((strs (digW (l.take k))=strs (digW (ints (is l))))∧True))∧zQv ⟨AV.one (Cl.ref 0 ((digW (ints (is l))).length)),[Bx.row 9 1 (strs (digW (ints (is l))))],false⟩)))))):=by kernel_rfl
theorem zXv (l:List Int) (hl:l.length≤1099511627776):AnsG Tryz.prog 57 0 [AV.one (Cl.d (DV.sl l.length (is l)))] [] ⟨AV.one (Cl.ref 0 ((digW (ints (is l))).length)),[Bx.row 9 1 (strs (digW (ints (is l))))],false⟩:=
 zQz (Γ:=zUW) (zKg l) zQC Tryz.func57 rfl (Nat.le_of_ble_eq_true rfl) rfl fun hwf hbx=>by
  refine Eq.mpr (zHp l) ?_
  delta tU2 tU3 tU5 dJ wK dS rJ
  simp only [true_and,and_true,RV.d.injEq,RV.agg.injEq,RV.tup.injEq,DV.bool.injEq,DV.int.injEq,DV.sl.injEq,List.cons.injEq,forall_const,Bool.not_false,Bool.not_true,Bool.not_eq_true',Bool.not_eq_false',decide_eq_true_eq,decide_eq_false_iff_not,Int.toNat_natCast]
  clear hwf hbx
  rw [zQZ]
  refine ⟨⟨0,Nat.zero_le _,⟨rfl,rfl⟩,rfl⟩,fun k hk=>⟨fun hlt=>?_,fun hge=>?_⟩⟩
  ·have h:k < l.length:=by omega
   have hts:l.take (k+1)=l.take k++[l[k]]:=by rw [List.take_add_one,List.getElem?_eq_getElem h]; rfl
   have wi:IntKind.wrap .i64 ((k:Int)+1)=((k+1:Nat):Int):=by rw [IntWalk.i64_in _ ⟨by omega,by omega⟩]; omega
   have q1:(is l)[k*1]?=some (DV.int .i64 l[k]):=by rw [Nat.mul_one]; simp [is,h]
   have q2:nAt (is l) (k*1)=l[k]:=by unfold nAt; rw [q1]
   rw [q2]
   have hd:∀ k,k≤l.length→(digW (l.take k)).length=k:=fun k hk=>by unfold digW; rw [List.length_map,List.length_take]; omega
   refine ⟨⟨by omega,by omega,by rw [zZF]; omega⟩,q1,jWs _,⟨by rw [zXe]; omega,rfl,by rw [hd k (by omega)]; unfold maxLen; omega,by rw [hd k (by omega)]; omega⟩,k+1,by omega,by omega,⟨by rw [hd k (by omega),hd (k+1) (by omega)],wi⟩,?_⟩
   rw [hts]
   unfold digW strs
   rw [List.map_append,List.map_append]; rfl
  ·have:k=l.length:=by omega
   subst this
   rw [List.take_length]
   exact ⟨⟨rfl,rfl⟩,trivial⟩
def zYa (n:Nat) (xs:List DV) (ws:List Lb) (l:List Int):Ann:=(Ann.seq (Ann.seq Ann.leaf (Ann.loop ⟨Nat,fun k=>k≤(ws++digW l).length,fun k=>⟨[(0,aPz),(11,AV.one (Cl.ref 11 (ws.length+((digW (ints ((is l)))).length)))),(12,aJ ((((ws.length+((digW (ints ((is l)))).length):Nat):Int)))),(13,aJ (((k:Int))))],[(0,bC [Cl.ptr 0 0,Cl.ref 1002 (n+(zZd ((ws++digW l).take k)).length)]),(11,Bx.row 9 1 ((strs ws)++(strs (digW (ints ((is l))))))),(1002,Bx.row 5 1 (xs++zQf (toS (zZd ((ws++digW l).take k)))))]⟩,fun k=>(ws++digW l).length - k⟩ fun k=>Ann.leaf)) Ann.leaf)
theorem zVF (n:Nat) (xs:List DV) (ws:List Lb) (l:List Int):vcg Tryz.prog zUW ⟨34,fun _=>false,List.range 1,false⟩ (zQA Tryz.f26) (zYa n xs ws l) kn0 (zZc [aPz,AV.one (Cl.ref 1 ws.length),AV.one (Cl.d (dS l.length (is l)))] [bC [Cl.ptr 0 0,Cl.ref 2 n],Bx.row 9 1 (strs ws),Bx.row 5 1 xs]) (zZJ Tryz.prog ⟨34,fun _=>false,List.range 1,false⟩ Tryz.f26.results.toList ⟨AV.tup [],[bC [Cl.ptr 0 0,Cl.ref 1 (n+(zQ4 (zQB (strs ws)++digW (ints (is l)))).length)],Bx.row 5 1 (xs++zQf (toS (zQ4 (zQB (strs ws)++digW (ints (is l))))))],false⟩) =
 (let yy1:=((digW (ints ((is l)))).length); let yy2:=(zQ4 (zQB (strs ws)++digW (ints (is l)))); let yy3:=((ws.length+yy1:Nat):Int); let yy4:=(strs (digW (ints ((is l))))); let yy0:=((strs ws)++yy4); let zz0:=(ws.length+yy1=ws.length+yy1); let zz1:=(dJ yy3=dJ yy3); let zz2:=((strs ws)++yy4=(strs ws)++yy4); let zz3:=fun (k:Nat)=>[bC [Cl.ptr 0 0,Cl.ref 1 (n+(zZd ((ws++digW l).take k)).length)],Bx.row 5 1 (xs++zQf (toS (zZd ((ws++digW l).take k))))]; let zz4:=fun (k:Nat)=>[Cl.ptr 0 0,Cl.ref 1 ((n+(zZd ((ws++digW l).take k)).length)+1)]; let zz5:=fun (k:Nat)=>[Bx.cells (zz4 k),Bx.row 5 1 ((xs++zQf (toS (zZd ((ws++digW l).take k))))++[DV.int .u8 (32:Int)])]; let zz6:=fun (k:Nat)=>[aPz,AV.one (Cl.d (DV.str (sAt yy0 ((k:Int).toNat*1))))]; let zz7:=fun (k:Nat)=>[aJ ((((((sAt yy0 ((k:Int).toNat*1))).size:Nat):Int))),AV.one (Cl.lit (Value.nilIface))]; let zz8:=fun (k':Nat)=>(k'≤(ws++digW l).length); let zz9:=fun (k:Nat)=>fun (k':Nat)=>((ws++digW l).length - k' < (ws++digW l).length - k); let zz10:=fun (k:Nat)=>fun (k':Nat)=>((0=0)∧zz0∧zz1∧(dJ (wK ((k:Int)+(1:Int)))=dJ (k':Int))∧True); tU2 ((AnsG Tryz.prog 57 0 [AV.one (Cl.d (dS l.length (is l)))] [] ⟨AV.one (Cl.ref 0 yy1),[Bx.row 9 1 yy4],false⟩)∧(zZf 1 16 ws.length yy1 (strs ws) yy4)∧(ws.length+yy1≤maxLen)∧True∧((∃ k:Nat,(k≤(ws++digW l).length)∧(((0=0)∧zz0∧zz1∧(dJ 0=dJ (k:Int))∧True)∧(((0=0)∧(n=n+(zZd ((ws++digW l).take k)).length)∧True)∧zz2∧(xs=xs++zQf (toS (zZd ((ws++digW l).take k))))∧True)))∧∀ k:Nat,let yy5:=(sAt yy0 ((k:Int).toNat*1)); let yy6:=(zZd ((ws++digW l).take k)); (k≤(ws++digW l).length)→True∧(((decide ((k:Int) < yy3))=true→True∧(0≤(k:Int)∧(k:Int) < yy3)∧((yy0[(k:Int).toNat*1]?=some (DV.str yy5))∧True)∧tU4 ((((decide ((k:Int) > (0:Int)))=true→tU3 ((AnsG Tryz.prog 58 1 [aPz,AV.one (Cl.d (DV.int .u8 (32:Int)))] (zz3 k) ⟨AV.one (Cl.lit (Value.nilIface)),(zz5 k),false⟩)∧tU4 ((AnsG Tryz.prog 59 1 (zz6 k) (zz5 k) ⟨AV.tup (zz7 k),[bC [Cl.ptr 0 0,Cl.ref 1 (((n+yy6.length)+1)+(yy5).size)],Bx.row 5 1 (((xs++zQf (toS yy6))++[DV.int .u8 (32:Int)])++zQf yy5)],false⟩)∧tU2 (∃ k':Nat,(zz8 k')∧(zz9 k k')∧((zz10 k k')∧(((0=0)∧(((n+yy6.length)+1)+(yy5).size=n+(zZd ((ws++digW l).take k')).length)∧True)∧zz2∧(((xs++zQf (toS yy6))++[DV.int .u8 (32:Int)])++zQf yy5=xs++zQf (toS (zZd ((ws++digW l).take k'))))∧True))))))∧((decide ((k:Int) > (0:Int)))=false→tU4 ((AnsG Tryz.prog 59 1 (zz6 k) (zz3 k) ⟨AV.tup (zz7 k),[bC [Cl.ptr 0 0,Cl.ref 1 ((n+yy6.length)+(yy5).size)],Bx.row 5 1 ((xs++zQf (toS yy6))++zQf yy5)],false⟩)∧tU2 (∃ k':Nat,(zz8 k')∧(zz9 k k')∧((zz10 k k')∧(((0=0)∧((n+yy6.length)+(yy5).size=n+(zZd ((ws++digW l).take k')).length)∧True)∧zz2∧((xs++zQf (toS yy6))++zQf yy5=xs++zQf (toS (zZd ((ws++digW l).take k'))))∧True))))))))∧((decide ((k:Int) < yy3))=false→tU3 ((AnsG Tryz.prog 58 1 [aPz,AV.one (Cl.d (DV.int .u8 (10:Int)))] (zz3 k) ⟨AV.one (Cl.lit (Value.nilIface)),[Bx.cells (zz4 k),Bx.row 5 1 ((xs++zQf (toS yy6))++[DV.int .u8 (10:Int)])],false⟩)∧((True∧True)∧(((0=0)∧((n+yy6.length)+1=n+yy2.length)∧True)∧((xs++zQf (toS yy6))++[DV.int .u8 (10:Int)]=xs++zQf (toS yy2))∧True))∧zQv ⟨AV.tup [],[bC [Cl.ptr 0 0,Cl.ref 1 (n+yy2.length)],Bx.row 5 1 (xs++zQf (toS yy2))],false⟩)))))):=by kernel_rfl
theorem zVb (n:Nat) (xs:List DV) (ws:List Lb) (l:List Int) (hn:xs.length=n) (hb:n+(zQ4 (ws++digW l)).length≤17592186044416) (hl:l.length≤1099511627776) (hw:ws.length≤1099511627776):AnsG Tryz.prog 26 1 [AV.one (Cl.ptr 0 0),AV.one (Cl.ref 1 ws.length),AV.one (Cl.d (DV.sl l.length (is l)))] [Bx.cells [Cl.ptr 0 0,Cl.ref 2 n],Bx.row 9 1 (strs ws),Bx.row 5 1 xs] ⟨AV.tup [],[Bx.cells [Cl.ptr 0 0,Cl.ref 1 (n+(zQ4 (zQB (strs ws)++digW (ints (is l)))).length)],Bx.row 5 1 (xs++zQf (toS (zQ4 (zQB (strs ws)++digW (ints (is l))))))],false⟩:=
 zQz (Γ:=zUW) (zYa n xs ws l) zQC Tryz.func26 rfl (Nat.le_of_ble_eq_true rfl) rfl fun hwf hbx=>by
  refine Eq.mpr (zVF n xs ws l) ?_
  delta tU2 tU3 tU4 dJ wK dS aJ aPz bC
  simp only [true_and,and_true,RV.d.injEq,RV.agg.injEq,RV.tup.injEq,DV.bool.injEq,DV.int.injEq,DV.sl.injEq,List.cons.injEq,forall_const,Bool.not_false,Bool.not_true,Bool.not_eq_true',Bool.not_eq_false',decide_eq_true_eq,decide_eq_false_iff_not,Int.toNat_natCast]
  clear hwf hbx
  have hD:(digW l).length=l.length:=by simp [digW]
  have hlb:(zQ4 (ws++digW l)).length=(zZd (ws++digW l)).length+1:=by simp [zQ4]
  have aD:=zXv l hl
  rw [zQZ] at aD
  simp only [zQZ,zQL,← jYw]
  have hWl:ws.length+(digW l).length=(ws++digW l).length:=by rw [List.length_append]
  obtain ⟨W,hW⟩:∃ W,ws++digW l=W:=⟨_,rfl⟩
  rw [hW] at hlb hb hWl
  try rw [hW] at aD
  simp only [hW]
  have hxb:∀ k,(xs++zQf (toS (zZd (W.take k)))).length=n+(zZd (W.take k)).length:=fun k=>by rw [List.length_append,zK9,zZe,hn]
  refine ⟨aD,⟨by rw [zXe,Nat.mul_one],by rw [zXe,Nat.mul_one],by unfold maxLen; omega,by omega⟩,by unfold maxLen; omega,⟨0,Nat.zero_le _,rfl,by simp [zZd],by simp [zZd,zQf,toS]⟩,fun k hk=>⟨fun hlt=>?_,fun hge=>?_⟩⟩
  ·have h:k < W.length:=by omega
   obtain ⟨q1,q2⟩:=jQu h
   rw [Nat.mul_one,q2]
   have jt:=jQa h
   have jm:=jY6 W (k+1)
   have jk:=hxb k
   have wi:IntKind.wrap .i64 ((k:Int)+1)=((k+1:Nat):Int):=by rw [IntWalk.i64_in _ ⟨by omega,by omega⟩]; omega
   obtain ⟨x,hx⟩:∃ x,W[k]=x:=⟨_,rfl⟩
   rw [hx] at q1 jt
   simp only [hx]
   refine ⟨⟨by omega,by omega⟩,q1,fun hp=>?_,fun hp=>?_⟩
   ·rw [if_neg (by omega)] at jt
    have jl:(zZd (W.take (k+1))).length=(zZd (W.take k)).length+1+x.length:=by rw [jt]; simp; omega
    refine ⟨zZs _ _ 32 jk (by omega),zZv _ _ _ (by rw [List.length_append,jk]; rfl) (by omega) (by rw [zZe]; omega),k+1,by omega,by omega,wi,by rw [zZe,jl]; omega,?_⟩
    rw [jt,b32,List.append_assoc,List.append_assoc,zZx,zZx]; rfl
   ·rw [if_pos (by omega)] at jt
    have hk0:k=0:=by omega
    subst hk0
    have jl:(zZd (W.take (0+1))).length=x.length:=by rw [jt]
    have j0:zZd (W.take 0)=[]:=rfl
    rw [j0] at jk
    rw [j0]
    refine ⟨zZv _ _ _ jk (by simp; omega) (by rw [zZe]; omega),0+1,by omega,by omega,wi,by rw [zZe,jl]; simp,?_⟩
    rw [jt,List.append_assoc,zZx]; rfl
  ·have:k=W.length:=by omega
   subst this
   have jk:=hxb W.length
   rw [List.take_length] at jk ⊢
   refine ⟨zZs _ _ 10 jk (by omega),⟨by rw [hlb]; omega,?_⟩,trivial⟩
   rw [b10,List.append_assoc,zZx]; rfl
def zYs (n:Nat) (xs:List DV) (l:List Int):Ann:=(Ann.seq (Ann.seq Ann.leaf (Ann.loop ⟨Nat,fun k=>k≤(digW l).length,fun k=>⟨[(0,aPz),(11,AV.one (Cl.ref 11 ((digW (ints ((is l)))).length))),(12,aJ (((((digW (ints ((is l)))).length:Nat):Int)))),(13,aJ (((k:Int))))],[(0,bC [Cl.ptr 0 0,Cl.ref 1002 (n+(zZd ((digW l).take k)).length)]),(11,Bx.row 9 1 (strs (digW (ints ((is l)))))),(1002,Bx.row 5 1 (xs++zQf (toS (zZd ((digW l).take k)))))]⟩,fun k=>(digW l).length - k⟩ fun k=>Ann.leaf)) Ann.leaf)
theorem zV8 (n:Nat) (xs:List DV) (l:List Int):vcg Tryz.prog zUW ⟨34,fun _=>false,List.range 1,false⟩ (zQA Tryz.f26) (zYs n xs l) kn0 (zZc [aPz,AV.one (Cl.nil),AV.one (Cl.d (dS l.length (is l)))] [bC [Cl.ptr 0 0,Cl.ref 1 n],Bx.row 5 1 xs]) (zZJ Tryz.prog ⟨34,fun _=>false,List.range 1,false⟩ Tryz.f26.results.toList ⟨AV.tup [],[bC [Cl.ptr 0 0,Cl.ref 1 (n+(zQ4 ([]++digW (ints (is l)))).length)],Bx.row 5 1 (xs++zQf (toS (zQ4 ([]++digW (ints (is l))))))],false⟩) =
 (let yy0:=(strs (digW (ints ((is l))))); let yy1:=(((digW (ints ((is l)))).length:Nat):Int); let yy2:=(zQ4 ([]++digW (ints (is l)))); let zz0:=((digW (ints ((is l)))).length=(digW (ints ((is l)))).length); let zz1:=(dJ yy1=dJ yy1); let zz2:=(strs (digW (ints ((is l))))=strs (digW (ints ((is l))))); let zz3:=fun (k:Nat)=>[bC [Cl.ptr 0 0,Cl.ref 1 (n+(zZd ((digW l).take k)).length)],Bx.row 5 1 (xs++zQf (toS (zZd ((digW l).take k))))]; let zz4:=fun (k:Nat)=>[Cl.ptr 0 0,Cl.ref 1 ((n+(zZd ((digW l).take k)).length)+1)]; let zz5:=fun (k:Nat)=>[Bx.cells (zz4 k),Bx.row 5 1 ((xs++zQf (toS (zZd ((digW l).take k))))++[DV.int .u8 (32:Int)])]; let zz6:=fun (k:Nat)=>[aPz,AV.one (Cl.d (DV.str (sAt yy0 ((k:Int).toNat*1))))]; let zz7:=fun (k:Nat)=>[aJ ((((((sAt yy0 ((k:Int).toNat*1))).size:Nat):Int))),AV.one (Cl.lit (Value.nilIface))]; let zz8:=fun (k:Nat)=>fun (k':Nat)=>((digW l).length - k' < (digW l).length - k); let zz9:=fun (k:Nat)=>fun (k':Nat)=>((0=0)∧zz0∧zz1∧(dJ (wK ((k:Int)+(1:Int)))=dJ (k':Int))∧True); tU2 ((AnsG Tryz.prog 57 0 [AV.one (Cl.d (dS l.length (is l)))] [] ⟨AV.one (Cl.ref 0 ((digW (ints ((is l)))).length)),[Bx.row 9 1 yy0],false⟩)∧(zZf 1 16 0 ((digW (ints ((is l)))).length) ([]) yy0)∧((digW (ints ((is l)))).length≤maxLen)∧True∧((∃ k:Nat,(k≤(digW l).length)∧(((0=0)∧zz0∧zz1∧(dJ 0=dJ (k:Int))∧True)∧(((0=0)∧(n=n+(zZd ((digW l).take k)).length)∧True)∧zz2∧(xs=xs++zQf (toS (zZd ((digW l).take k))))∧True)))∧∀ k:Nat,let yy3:=(sAt yy0 ((k:Int).toNat*1)); let yy4:=(xs++zQf (toS (zZd ((digW l).take k)))); let yy5:=(n+(zZd ((digW l).take k)).length); (k≤(digW l).length)→True∧(((decide ((k:Int) < yy1))=true→True∧(0≤(k:Int)∧(k:Int) < yy1)∧((yy0[(k:Int).toNat*1]?=some (DV.str yy3))∧True)∧tU4 ((((decide ((k:Int) > (0:Int)))=true→tU3 ((AnsG Tryz.prog 58 1 [aPz,AV.one (Cl.d (DV.int .u8 (32:Int)))] (zz3 k) ⟨AV.one (Cl.lit (Value.nilIface)),(zz5 k),false⟩)∧tU4 ((AnsG Tryz.prog 59 1 (zz6 k) (zz5 k) ⟨AV.tup (zz7 k),[bC [Cl.ptr 0 0,Cl.ref 1 ((yy5+1)+(yy3).size)],Bx.row 5 1 ((yy4++[DV.int .u8 (32:Int)])++zQf yy3)],false⟩)∧tU2 (∃ k':Nat,(k'≤(digW l).length)∧(zz8 k k')∧((zz9 k k')∧(((0=0)∧((yy5+1)+(yy3).size=n+(zZd ((digW l).take k')).length)∧True)∧zz2∧((yy4++[DV.int .u8 (32:Int)])++zQf yy3=xs++zQf (toS (zZd ((digW l).take k'))))∧True))))))∧((decide ((k:Int) > (0:Int)))=false→tU4 ((AnsG Tryz.prog 59 1 (zz6 k) (zz3 k) ⟨AV.tup (zz7 k),[bC [Cl.ptr 0 0,Cl.ref 1 (yy5+(yy3).size)],Bx.row 5 1 (yy4++zQf yy3)],false⟩)∧tU2 (∃ k':Nat,(k'≤(digW l).length)∧(zz8 k k')∧((zz9 k k')∧(((0=0)∧(yy5+(yy3).size=n+(zZd ((digW l).take k')).length)∧True)∧zz2∧(yy4++zQf yy3=xs++zQf (toS (zZd ((digW l).take k'))))∧True))))))))∧((decide ((k:Int) < yy1))=false→tU3 ((AnsG Tryz.prog 58 1 [aPz,AV.one (Cl.d (DV.int .u8 (10:Int)))] (zz3 k) ⟨AV.one (Cl.lit (Value.nilIface)),[Bx.cells (zz4 k),Bx.row 5 1 (yy4++[DV.int .u8 (10:Int)])],false⟩)∧((True∧True)∧(((0=0)∧(yy5+1=n+yy2.length)∧True)∧(yy4++[DV.int .u8 (10:Int)]=xs++zQf (toS yy2))∧True))∧zQv ⟨AV.tup [],[bC [Cl.ptr 0 0,Cl.ref 1 (n+yy2.length)],Bx.row 5 1 (xs++zQf (toS yy2))],false⟩)))))):=by kernel_rfl
theorem zVG (n:Nat) (xs:List DV) (l:List Int) (hn:xs.length=n) (hb:n+(zQ4 (digW l)).length≤17592186044416) (hl:l.length≤1099511627776):AnsG Tryz.prog 26 1 [AV.one (Cl.ptr 0 0),AV.one (Cl.nil),AV.one (Cl.d (DV.sl l.length (is l)))] [Bx.cells [Cl.ptr 0 0,Cl.ref 1 n],Bx.row 5 1 xs] ⟨AV.tup [],[Bx.cells [Cl.ptr 0 0,Cl.ref 1 (n+(zQ4 ([]++digW (ints (is l)))).length)],Bx.row 5 1 (xs++zQf (toS (zQ4 ([]++digW (ints (is l))))))],false⟩:=
 zQz (Γ:=zUW) (zYs n xs l) zQC Tryz.func26 rfl (Nat.le_of_ble_eq_true rfl) rfl fun hwf hbx=>by
  refine Eq.mpr (zV8 n xs l) ?_
  delta tU2 tU3 tU4 dJ wK dS aJ aPz bC
  simp only [true_and,and_true,RV.d.injEq,RV.agg.injEq,RV.tup.injEq,DV.bool.injEq,DV.int.injEq,DV.sl.injEq,List.cons.injEq,forall_const,Bool.not_false,Bool.not_true,Bool.not_eq_true',Bool.not_eq_false',decide_eq_true_eq,decide_eq_false_iff_not,Int.toNat_natCast]
  clear hwf hbx
  have hD:(digW l).length=l.length:=by simp [digW]
  have hlb:(zQ4 (digW l)).length=(zZd (digW l)).length+1:=by simp [zQ4]
  have aD:=zXv l hl
  rw [zQZ] at aD
  simp only [zQZ,zQL,List.nil_append]
  have hWl:=hD
  obtain ⟨W,hW⟩:∃ W,digW l=W:=⟨_,rfl⟩
  rw [hW] at hlb hb hWl
  try rw [hW] at aD
  simp only [hW]
  have hxb:∀ k,(xs++zQf (toS (zZd (W.take k)))).length=n+(zZd (W.take k)).length:=fun k=>by rw [List.length_append,zK9,zZe,hn]
  refine ⟨aD,⟨rfl,by rw [zXe,Nat.mul_one],by unfold maxLen; omega,by omega⟩,by unfold maxLen; omega,⟨0,Nat.zero_le _,rfl,by simp [zZd],by simp [zZd,zQf,toS]⟩,fun k hk=>⟨fun hlt=>?_,fun hge=>?_⟩⟩
  ·have h:k < W.length:=by omega
   obtain ⟨q1,q2⟩:=jQu h
   rw [Nat.mul_one,q2]
   have jt:=jQa h
   have jm:=jY6 W (k+1)
   have jk:=hxb k
   have wi:IntKind.wrap .i64 ((k:Int)+1)=((k+1:Nat):Int):=by rw [IntWalk.i64_in _ ⟨by omega,by omega⟩]; omega
   obtain ⟨x,hx⟩:∃ x,W[k]=x:=⟨_,rfl⟩
   rw [hx] at q1 jt
   simp only [hx]
   refine ⟨⟨by omega,by omega⟩,q1,fun hp=>?_,fun hp=>?_⟩
   ·rw [if_neg (by omega)] at jt
    have jl:(zZd (W.take (k+1))).length=(zZd (W.take k)).length+1+x.length:=by rw [jt]; simp; omega
    refine ⟨zZs _ _ 32 jk (by omega),zZv _ _ _ (by rw [List.length_append,jk]; rfl) (by omega) (by rw [zZe]; omega),k+1,by omega,by omega,wi,by rw [zZe,jl]; omega,?_⟩
    rw [jt,b32,List.append_assoc,List.append_assoc,zZx,zZx]; rfl
   ·rw [if_pos (by omega)] at jt
    have hk0:k=0:=by omega
    subst hk0
    have jl:(zZd (W.take (0+1))).length=x.length:=by rw [jt]
    have j0:zZd (W.take 0)=[]:=rfl
    rw [j0] at jk
    rw [j0]
    refine ⟨zZv _ _ _ jk (by simp; omega) (by rw [zZe]; omega),0+1,by omega,by omega,wi,by rw [zZe,jl]; simp,?_⟩
    rw [jt,List.append_assoc,zZx]; rfl
  ·have:k=W.length:=by omega
   subst this
   have jk:=hxb W.length
   rw [List.take_length] at jk ⊢
   refine ⟨zZs _ _ 10 jk (by omega),⟨by rw [hlb]; omega,?_⟩,trivial⟩
   rw [b10,List.append_assoc,zZx]; rfl
end Go.Proofs.YtheidkkebdhmkaaGreatDoor
namespace Go.Proofs.YtheidkkebdhmkaaGreatDoor
open Go.RowKit
set_option linter.unusedVariables false
set_option linter.unusedSimpArgs false
attribute [local irreducible] Ans AnsO AnsG AnsN AnsI
set_option maxHeartbeats 4000000
set_option maxRecDepth 4000
open Go.Lib
def jWO:Gam where
 pure:=fun f xs=>
  none
 modes:=fun f=>
  if f=57 then some ([true],0,1) else
  if f=58 then some ([false,true],1,1) else
  if f=59 then some ([false,true],1,1) else
  none
 proc:=fun f xs bs=>
  if f=57 then (match xs,bs with | [AV.one (Cl.d (DV.sl 1 ([DV.int .i64 m])))],[]=>some ⟨AV.one (Cl.ref 0 1),[Bx.row 9 1 ([DV.str (toS (itoa m))])],false⟩ | _,_=>none) else
  if f=58 then (match xs,bs with | [AV.one (Cl.ptr 0 0),AV.one (Cl.d (DV.int _ c))],[Bx.cells [Cl.ptr 0 0,Cl.ref 1 n],Bx.row _ _ xs]=>some ⟨AV.one (Cl.lit (Value.nilIface)),[bC [Cl.ptr 0 0,Cl.ref 1 (n+1)],Bx.row 5 1 (xs++[DV.int .u8 c])],false⟩ | _,_=>none) else
  if f=59 then (match xs,bs with | [AV.one (Cl.ptr 0 0),AV.one (Cl.d (DV.str s))],[Bx.cells [Cl.ptr 0 0,Cl.ref 1 n],Bx.row _ _ xs]=>some ⟨AV.tup [aJ (((((s).size:Nat):Int))),AV.one (Cl.lit (Value.nilIface))],[bC [Cl.ptr 0 0,Cl.ref 1 (n+(s).size)],Bx.row 5 1 (xs++zQf s)],false⟩ | [AV.one (Cl.ptr 0 0),AV.one (Cl.d (DV.str s))],[Bx.cells [Cl.lit (Value.pointer none),Cl.nil]]=>some ⟨AV.tup [aJ (((((s).size:Nat):Int))),AV.one (Cl.lit (Value.nilIface))],[bC [Cl.ptr 0 0,Cl.ref 1 (0+(s).size)],Bx.row 5 1 ([]++zQf s)],false⟩ | _,_=>none) else
  none
 iter:=fun f cs=>
  none
def zXW (s:ByteArray) (m:Int):Ann:=let zz0:=(cJ (2)); let zz1:=(12,AV.one zz0); let zz2:=(11,Bx.row 9 1 ([DV.str s,DV.str (toS (itoa m))])); (Ann.seq (Ann.seq Ann.leaf (Ann.link ⟨Unit,fun _u=>True,fun _u=>⟨[(0,aPz),(11,AV.one (Cl.ref 11 2)),zz1,(13,aJ ((0)))],[(0,bC [Cl.lit (Value.pointer none),Cl.nil]),zz2]⟩,fun _u=>0⟩ (fun _u=>(Ann.seq Ann.leaf (Ann.seq (Ann.sure true Ann.leaf) (Ann.seq (Ann.seq Ann.leaf (Ann.seq (Ann.seq Ann.leaf (Ann.sure false Ann.leaf)) Ann.leaf)) Ann.leaf)))) (Ann.link ⟨Unit,fun _u=>True,fun _u=>⟨[(0,aPz),(11,AV.one (Cl.ref 11 2)),zz1,(13,aJ ((1)))],[(0,bC [Cl.ptr 0 0,Cl.ref 201028 (0+(s).size)]),zz2,(201028,Bx.row 5 1 ([]++zQf s))]⟩,fun _u=>0⟩ (fun _u=>(Ann.seq Ann.leaf (Ann.seq (Ann.sure true Ann.leaf) (Ann.seq (Ann.seq Ann.leaf (Ann.seq (Ann.seq Ann.leaf (Ann.sure true Ann.leaf)) Ann.leaf)) Ann.leaf)))) (Ann.link ⟨Unit,fun _u=>True,fun _u=>⟨[(0,aPz),(11,AV.one (Cl.ref 11 2)),zz1,(13,AV.one zz0)],[(0,bC [Cl.ptr 0 0,Cl.ref 301028 (((0+(s).size)+1)+((toS (itoa m))).size)]),zz2,(301028,Bx.row 5 1 ((([]++zQf s)++[DV.int .u8 (32:Int)])++zQf (toS (itoa m))))]⟩,fun _u=>0⟩ (fun _u=>(Ann.seq Ann.leaf (Ann.seq (Ann.sure false Ann.leaf) Ann.leaf))) Ann.leaf)))) Ann.leaf)
theorem zVc (s:ByteArray) (m:Int):vcg Tryz.prog jWO ⟨34,fun _=>false,List.range 1,false⟩ (zQA Tryz.f26) (zXW s m) kn0 (zZc [aPz,AV.one (Cl.ref 1 1),AV.one (Cl.d (dS 1 ([dJ m])))] [bC [Cl.lit (Value.pointer none),Cl.nil],Bx.row 9 1 ([DV.str s])]) (zZJ Tryz.prog ⟨34,fun _=>false,List.range 1,false⟩ Tryz.f26.results.toList ⟨AV.tup [],[bC [Cl.ptr 0 0,Cl.ref 1 ((s).size+(32::itoa m++[10]).length)],Bx.row 5 1 (zQf s++zQf (toS (32::itoa m++[10])))],false⟩) =
 (let yy0:=(([]++zQf s)++[DV.int .u8 (32:Int)]); let zz0:=[DV.str s,DV.str (toS (itoa m))]; let zz1:=(zz0=zz0); let zz2:=[bC [Cl.ptr 0 0,Cl.ref 1 (0+(s).size)],Bx.row 5 1 ([]++zQf s)]; let zz3:=(dJ 2=dJ 2); let zz4:=[bC [Cl.ptr 0 0,Cl.ref 1 ((0+(s).size)+1)],Bx.row 5 1 yy0]; let zz5:=[bC [Cl.ptr 0 0,Cl.ref 1 (((0+(s).size)+1)+((toS (itoa m))).size)],Bx.row 5 1 (yy0++zQf (toS (itoa m)))]; tU2 ((AnsG Tryz.prog 57 0 [AV.one (Cl.d (dS 1 ([dJ m])))] [] ⟨AV.one (Cl.ref 0 1),[Bx.row 9 1 ([DV.str (toS (itoa m))])],false⟩)∧(zZf 1 16 1 1 ([DV.str s]) ([DV.str (toS (itoa m))]))∧(2≤maxLen)∧True∧(∃ _u:Unit,True∧(((0=0)∧(2=2)∧(dJ ((2:Nat):Int)=dJ 2)∧(dJ 0=dJ 0)∧True)∧((((Value.pointer none:Value)=Value.pointer none)∧True∧True)∧zz1∧True)))∧((∀ _u:Unit,(True)→True∧(decide ((0:Int) < (2:Int))=true∧True∧(0≤(0:Int)∧(0:Int) < ((2:Nat):Int))∧((some (DV.str s)=some (DV.str s))∧True)∧tU4 ((decide ((0:Int) > (0:Int))=false∧tU4 ((AnsG Tryz.prog 59 1 [aPz,AV.one (Cl.d (DV.str s))] [bC [Cl.lit (Value.pointer none),Cl.nil]] ⟨AV.tup [aJ (((((s).size:Nat):Int))),AV.one (Cl.lit (Value.nilIface))],zz2,false⟩)∧tU2 (∃ _u:Unit,True∧(((0=0)∧(2=2)∧zz3∧(dJ (wK ((0:Int)+(1:Int)))=dJ 1)∧True)∧(((0=0)∧(0+(s).size=0+(s).size)∧True)∧zz1∧([]++zQf s=[]++zQf s)∧True))))))))∧(∀ _u:Unit,(True)→True∧(decide ((1:Int) < (2:Int))=true∧True∧(0≤(1:Int)∧(1:Int) < ((2:Nat):Int))∧((some (DV.str (toS (itoa m)))=some (DV.str (toS (itoa m))))∧True)∧tU4 ((decide ((1:Int) > (0:Int))=true∧tU3 ((AnsG Tryz.prog 58 1 [aPz,AV.one (Cl.d (DV.int .u8 (32:Int)))] zz2 ⟨AV.one (Cl.lit (Value.nilIface)),zz4,false⟩)∧tU4 ((AnsG Tryz.prog 59 1 [aPz,AV.one (Cl.d (DV.str (toS (itoa m))))] zz4 ⟨AV.tup [aJ ((((((toS (itoa m))).size:Nat):Int))),AV.one (Cl.lit (Value.nilIface))],zz5,false⟩)∧tU2 (∃ _u:Unit,True∧(((0=0)∧(2=2)∧zz3∧(dJ (wK ((1:Int)+(1:Int)))=dJ 2)∧True)∧(((0=0)∧(((0+(s).size)+1)+((toS (itoa m))).size=((0+(s).size)+1)+((toS (itoa m))).size)∧True)∧zz1∧(yy0++zQf (toS (itoa m))=yy0++zQf (toS (itoa m)))∧True)))))))))∧(∀ _u:Unit,(True)→True∧(decide ((2:Int) < (2:Int))=false∧tU3 ((AnsG Tryz.prog 58 1 [aPz,AV.one (Cl.d (DV.int .u8 (10:Int)))] zz5 ⟨AV.one (Cl.lit (Value.nilIface)),[bC [Cl.ptr 0 0,Cl.ref 1 ((((0+(s).size)+1)+((toS (itoa m))).size)+1)],Bx.row 5 1 ((yy0++zQf (toS (itoa m)))++[DV.int .u8 (10:Int)])],false⟩)∧((True∧True)∧(((0=0)∧((((0+(s).size)+1)+((toS (itoa m))).size)+1=(s).size+(32::itoa m++[10]).length)∧True)∧((yy0++zQf (toS (itoa m)))++[DV.int .u8 (10:Int)]=zQf s++zQf (toS (32::itoa m++[10])))∧True))∧zQv ⟨AV.tup [],[bC [Cl.ptr 0 0,Cl.ref 1 ((s).size+(32::itoa m++[10]).length)],Bx.row 5 1 (zQf s++zQf (toS (32::itoa m++[10])))],false⟩)))∧True))):=by kernel_rfl
theorem zJ4 (s:ByteArray) (m:Int) (hs:s.size≤1000000) (hm : -9223372036854775808≤m∧m≤9223372036854775807):AnsG Tryz.prog 26 1 [AV.one (Cl.ptr 0 0),AV.one (Cl.ref 1 1),AV.one (Cl.d (DV.sl 1 ([DV.int .i64 m])))] [Bx.cells [Cl.lit (Value.pointer none),Cl.nil],Bx.row 9 1 ([DV.str s])] ⟨AV.tup [],[Bx.cells [Cl.ptr 0 0,Cl.ref 1 ((s).size+(32::itoa m++[10]).length)],Bx.row 5 1 (zQf s++zQf (toS (32::itoa m++[10])))],false⟩:=
 zQz (Γ:=jWO) (zXW s m) zQC Tryz.func26 rfl (Nat.le_of_ble_eq_true rfl) rfl fun hwf hbx=>by
  refine Eq.mpr (zVc s m) ?_
  delta tU2 tU3 tU4 dJ wK dS aJ aPz bC
  simp only [true_and,and_true,RV.d.injEq,RV.agg.injEq,RV.tup.injEq,DV.bool.injEq,DV.int.injEq,DV.sl.injEq,List.cons.injEq,forall_const,Bool.not_false,Bool.not_true,Bool.not_eq_true',Bool.not_eq_false',decide_eq_true_eq,decide_eq_false_iff_not,Int.toNat_natCast]
  have aD:=zXv [m] (by simp)
  have eD:digW (ints (is [m]))=[itoa m]:=by rw [zQZ]; rfl
  rw [eD] at aD
  clear hwf hbx
  have hm':=jQX m hm
  have e1:(toS (itoa m)).size=(itoa m).length:=zZe _
  refine ⟨aD,⟨rfl,rfl,by decide,by decide⟩,by decide,⟨(),rfl⟩,⟨by decide,⟨by decide,by decide⟩,by decide,zKM s (by omega),(),by decide⟩,⟨by decide,⟨by decide,by decide⟩,by decide,zZs _ _ 32 (by simp [zQf]) (by omega),zZv _ _ _ (by simp [zQf]) (by omega) (by omega),(),by decide⟩,by decide,zZs _ _ 10 (by simp [zQf]; omega) (by omega),⟨by rw [e1]; simp; omega,?_⟩,trivial⟩
  rw [b32,b10,List.nil_append,List.append_assoc,List.append_assoc,zZx,zZx]; rfl
end Go.Proofs.YtheidkkebdhmkaaGreatDoor
