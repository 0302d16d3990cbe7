/-
  Part 6 of what TextFormatRejects rests on.
-/
import Derived.Test.YtheidkkebdhmkaaGreatDoorTextFormatRejectsZ5
import Derived.Test.YtheidkkebdhmkaaGreatDoorTextFormatRejectsZ4
import Derived.Test.YtheidkkebdhmkaaGreatDoorTextFormatRejectsZ2
import Derived.Test.YtheidkkebdhmkaaGreatDoorRows
import Derived.JoinedOf
import Derived.KernelRfl
import Derived.Test.YtheidkkebdhmkaaGreatDoorTextFormatRejectsZ1
import Derived.MakeChecks
import Derived.LaidHandle
import Derived.LaidMore
import Derived.Stop.Joined
import Derived.Shelf.Vars
import Derived.Lay
namespace Go.Proofs.YtheidkkebdhmkaaGreatDoor
open Go.RowKit
set_option linter.unusedVariables false
set_option linter.unusedSimpArgs false
set_option maxRecDepth 20000
set_option maxHeartbeats 4000000
open Go.Proofs.Tryz (prog)
section
attribute [local irreducible] Ans AnsO AnsG AnsN AnsI
def zJ4:Gam where
 pure:=fun f xs=>
  if f=14 then gZ0 xs else
  if f=14 then gZ0 xs else
  if f=14 then gZ0 xs else
  if f=14 then gZ0 xs else
  if f=14 then gZ0 xs else
  if f=14 then gZ0 xs else
  if f=11 then gZ47 xs else
  if f=12 then gZ47 xs else
  if f=13 then (match xs with | []=>some (RV.d (dQ true)) | _=>none) else
  none
 modes:=fun f=>
  if f=9 then some ([true],0,3) else
  none
 proc:=fun f xs bs=>
  if f=9 then (match xs,bs with | [AV.agg [Cl.d (DV.int _ sb),Cl.d (DV.int _ sx),Cl.d (DV.int _ sy),Cl.d (DV.int _ sw),Cl.d (DV.int _ sh),Cl.d (DV.int _ stw),Cl.d (DV.int _ sth),Cl.d (DV.sl son soxs),Cl.d (DV.sl spn spxs),Cl.d (DV.sl srn srxs)]],[]=>some ⟨AV.agg [cJ (⟨sb,sx,sy,sw,sh,stw,sth,son,soxs,spn,spxs,srn,srxs⟩:Scn).bits,cJ (⟨sb,sx,sy,sw,sh,stw,sth,son,soxs,spn,spxs,srn,srxs⟩:Scn).c.a,cJ (⟨sb,sx,sy,sw,sh,stw,sth,son,soxs,spn,spxs,srn,srxs⟩:Scn).c.b,cJ (⟨sb,sx,sy,sw,sh,stw,sth,son,soxs,spn,spxs,srn,srxs⟩:Scn).c.c,cJ (⟨sb,sx,sy,sw,sh,stw,sth,son,soxs,spn,spxs,srn,srxs⟩:Scn).c.d,cJ (⟨sb,sx,sy,sw,sh,stw,sth,son,soxs,spn,spxs,srn,srxs⟩:Scn).gtw,cJ (⟨sb,sx,sy,sw,sh,stw,sth,son,soxs,spn,spxs,srn,srxs⟩:Scn).gth,Cl.ref 0 (⟨sb,sx,sy,sw,sh,stw,sth,son,soxs,spn,spxs,srn,srxs⟩:Scn).ord.length,Cl.ref 1 (⟨sb,sx,sy,sw,sh,stw,sth,son,soxs,spn,spxs,srn,srxs⟩:Scn).ims.length,Cl.ref 2 (⟨sb,sx,sy,sw,sh,stw,sth,son,soxs,spn,spxs,srn,srxs⟩:Scn).ops.length],[Bx.row 3 1 (is (⟨sb,sx,sy,sw,sh,stw,sth,son,soxs,spn,spxs,srn,srxs⟩:Scn).ord),Bx.row 43 28 (ims (⟨sb,sx,sy,sw,sh,stw,sth,son,soxs,spn,spxs,srn,srxs⟩:Scn).ims),Bx.row 51 12 (ops (⟨sb,sx,sy,sw,sh,stw,sth,son,soxs,spn,spxs,srn,srxs⟩:Scn).ops)],false⟩ | _,_=>none) else
  none
 iter:=fun f cs=>
  none
theorem zYv (s:Scn) (o:Oq) (what by_:Int) (hs:s.ok):Ans prog 4 [RV.agg [dJ s.b,dJ s.x,dJ s.y,dJ s.w,dJ s.h,dJ s.tw,dJ s.th,dS s.on s.oxs,dS s.pn s.pxs,dS s.rn s.rxs],RV.agg [dJ o.kind,dJ o.image,dJ o.x,dJ o.y,dJ o.mask,dJ o.mx,dJ o.my,dK o.opac,dJ o.oper,dJ o.mode,dQ o.iso,dQ o.kno],rJ (what),rJ (by_)] (RV.d (dQ true)):=
 zQj (Γ:=zJ4) (Ann.seq Ann.leaf (Ann.seq Ann.leaf (Ann.seq Ann.leaf (Ann.cut ⟨Oq,fun z:Oq=>0≤z.opac∧z.opac≤65535,fun z:Oq=>⟨[(5,AV.one (Cl.ptr 5 0)),(9,AV.one (Cl.ptr 9 0))],[(5,bC [cJ z.kind,cJ z.image,cJ z.x,cJ z.y,cJ z.mask,cJ z.mx,cJ z.my,cK z.opac,cJ z.oper,cJ z.mode,Cl.d (dQ z.iso),Cl.d (dQ z.kno)]),(9,bC [cJ s.bits,cJ s.c.a,cJ s.c.b,cJ s.c.c,cJ s.c.d,cJ s.gtw,cJ s.gth,Cl.ref 9000 s.ord.length,Cl.ref 9001 s.ims.length,Cl.ref 9002 s.ops.length]),(9000,Bx.row 3 1 (is s.ord)),(9001,Bx.row 43 28 (ims s.ims)),(9002,Bx.row 51 12 (ops s.ops))]⟩,fun z:Oq=>0⟩ Ann.leaf fun z=>(Ann.cut ⟨Scr,fun t:Scr=>(∀ m∈t.ims,m.isU∧imIn m)∧(∀ o∈t.ops,0≤o.opac∧o.opac≤65535)∧t.ord.length≤100,fun t:Scr=>⟨[(9,AV.one (Cl.ptr 9 0))],[(9,bC [cJ t.bits,cJ t.c.a,cJ t.c.b,cJ t.c.c,cJ t.c.d,cJ t.tw,cJ t.th,Cl.ref 7100 t.ord.length,Cl.ref 7101 t.ims.length,Cl.ref 7102 t.ops.length]),(7100,Bx.row 3 1 (is t.ord)),(7101,Bx.row 43 28 (ims t.ims)),(7102,Bx.row 51 12 (ops t.ops))]⟩,fun t:Scr=>0⟩ Ann.leaf fun t=>Ann.leaf))))) zQx Tryz.func4 rfl (Nat.le_of_ble_eq_true rfl) fun hwf=>by
  refine Eq.mpr (by kernel_rfl:_=(let l:=(RV.d (dQ false)=RV.d (dQ true)); let d:=((0=0)∧(0=0)∧True); let e:=(is s.ord=is s.ord); let f:=(ops s.ops=ops s.ops); let g:=(ims s.ims=ims s.ims); let a:=(modS what (4:Int)); let i:=(wK (Int.tdiv by_ (4:Int))); let j:=(wK (Int.tdiv by_ (60:Int))); let c:=fun (z:Oq)=>(0≤z.opac∧z.opac≤65535); let h:=((dJ s.bits=dJ s.bits)∧(dJ s.c.a=dJ s.c.a)∧(dJ s.c.b=dJ s.c.b)∧(dJ s.c.c=dJ s.c.c)∧(dJ s.c.d=dJ s.c.d)∧(dJ s.gtw=dJ s.gtw)∧(dJ s.gth=dJ s.gth)∧(s.ord.length=s.ord.length)∧(s.ims.length=s.ims.length)∧(s.ops.length=s.ops.length)∧True); let n:=fun (t:Scr)=>[RV.agg [dJ t.bits,dJ t.c.a,dJ t.c.b,dJ t.c.c,dJ t.c.d,dJ t.tw,dJ t.th,dS t.ord.length (is t.ord),dS t.ims.length (ims t.ims),dS t.ops.length (ops t.ops)]]; tU4 ((AnsG prog 9 0 [AV.agg [cJ s.b,cJ s.x,cJ s.y,cJ s.w,cJ s.h,cJ s.tw,cJ s.th,Cl.d (dS s.on s.oxs),Cl.d (dS s.pn s.pxs),Cl.d (dS s.rn s.rxs)]] [] ⟨AV.agg [cJ s.bits,cJ s.c.a,cJ s.c.b,cJ s.c.c,cJ s.c.d,cJ s.gtw,cJ s.gth,Cl.ref 0 s.ord.length,Cl.ref 1 s.ims.length,Cl.ref 2 s.ops.length],[Bx.row 3 1 (is s.ord),Bx.row 43 28 (ims s.ims),Bx.row 51 12 (ops s.ops)],false⟩)∧tU4 ((Ans prog 14 [rJ o.kind,rJ 5] (rJ (modS o.kind (5:Int))))∧tU2 ((True∧(Ans prog 14 [rJ what,rJ 4] (rJ a))∧tU2 (((a==0)=true→True∧(Ans prog 14 [rJ by_,rJ 4] (rJ (modS by_ (4:Int))))∧True∧((4:Int)≠0)∧(Ans prog 14 [rJ i,rJ 14] (rJ (modS i (14:Int))))∧True∧((60:Int)≠0)∧(Ans prog 14 [rJ j,rJ 14] (rJ (modS j (14:Int))))∧tU2 (∃ z:Oq,(c z)∧(d∧(([dJ (modS by_ (4:Int)),dJ 0,dJ 0,dJ 0,dJ 0,dJ 0,dJ 0,dK 9,dJ (modS i (14:Int)),dJ (modS j (14:Int)),dQ false,dQ false]=(Oq.cells z))∧h∧e∧g∧f∧True))))∧((a==0)=false→tU2 (((a==1)=true→tU3 (∃ z:Oq,(c z)∧(d∧(([dJ 1,dJ 0,dJ by_,dJ 0,dJ 0,dJ 0,dJ 0,dK 0,dJ 4,dJ 1,dQ false,dQ false]=(Oq.cells z))∧h∧e∧g∧f∧True))))∧((a==1)=false→tU2 (((a==2)=true→True∧(Ans prog 14 [rJ by_,rJ 2] (rJ (modS by_ (2:Int))))∧tU2 (∃ z:Oq,(c z)∧(d∧(([dJ 2,dJ (modS by_ (2:Int)),dJ 0,dJ 0,dJ 0,dJ 0,dJ 0,dK 0,dJ 4,dJ 1,dQ true,dQ false]=(Oq.cells z))∧h∧e∧g∧f∧True))))∧((a==2)=false→∃ z:Oq,(c z)∧(d∧(([dJ (modS o.kind (5:Int)),dJ o.image,dJ o.x,dJ o.y,dJ o.mask,dJ o.mx,dJ o.my,dK o.opac,dJ o.oper,dJ o.mode,dQ o.iso,dQ o.kno]=(Oq.cells z))∧h∧e∧g∧f∧True)))))))))∧∀ z:Oq,(c z)→(tU2 ((zZd 12 88 0 s.ops.length ([]) (ops s.ops))∧tU2 ((zZd 12 88 s.ops.length 1 (ops s.ops) (Oq.cells z))∧tU2 ((true=true)∧∃ t:Scr,((∀ m∈t.ims,m.isU∧imIn m)∧(∀ o∈t.ops,0≤o.opac∧o.opac≤65535)∧t.ord.length≤100)∧(((0=0)∧True)∧(((dJ s.bits=dJ t.bits)∧(dJ s.c.a=dJ t.c.a)∧(dJ s.c.b=dJ t.c.b)∧(dJ s.c.c=dJ t.c.c)∧(dJ s.c.d=dJ t.c.d)∧(dJ s.gtw=dJ t.tw)∧(dJ s.gth=dJ t.th)∧(s.ord.length=t.ord.length)∧(s.ims.length=t.ims.length)∧(s.ops.length+1=t.ops.length)∧True)∧(is s.ord=is t.ord)∧(ims s.ims=ims t.ims)∧((ops s.ops)++(Oq.cells z)=ops t.ops)∧True))))))∧∀ t:Scr,let b:=(fmtR ((sE t):Scr)); let k:=(toS b.1); let p:=(RV.tup [RV.d (DV.str k),rJ b.2]); ((∀ m∈t.ims,m.isU∧imIn m)∧(∀ o∈t.ops,0≤o.opac∧o.opac≤65535)∧t.ord.length≤100)→True∧(Ans prog 11 (n t) p)∧tU6 ((Ans prog 12 (n t) p)∧tU5 ((Ans prog 13 [] (RV.d (dQ true)))∧True∧((true=true→tU5 (((b.2==b.2)=true→tU5 (RV.d (dQ (k.toList==k.toList))=RV.d (dQ true)))∧((b.2==b.2)=(!true)→tU2 l)))∧(true=(!true)→tU4 l))))))))) ?_
  delta sE tU2 tU3 tU4 tU5 tU6 dJ dK dQ cJ wK dS rJ
  simp only [sS,zGS,zQG]
  have li:=s.ims_len
  have hol:=s.ops_len
  have hod:=s.ord_len
  have hIU:=s.ims_isU
  have hq:0≤o.opac∧o.opac≤65535:=by
   simp [RV.wfs,RV.wf,DV.wf,DV.wfs,Lit.wf,IntKind.min,IntKind.max,IntKind.signed,IntKind.bits] at hwf
   omega
  clear hwf
  have hM:∀ n:Nat,n≤1000→n≤maxLen:=fun n h=>by unfold maxLen; omega
  refine ⟨zHX s hs,⟨?_,fun z hz=>?_⟩⟩
  ·(repeat' (first | apply And.intro | intro _)) <;> first
    | exact ⟨{ o with kind:=modS o.kind 5 },hq,rfl⟩
    | exact ⟨⟨modS by_ 4,0,0,0,0,0,0,9,modS (IntKind.wrap .i64 (Int.tdiv by_ 4)) 14,modS (IntKind.wrap .i64 (Int.tdiv by_ 60)) 14,false,false⟩,⟨(show (0:Int)≤9 from by decide),(show (9:Int)≤65535 from by decide)⟩,rfl⟩
    | exact ⟨⟨1,0,by_,0,0,0,0,0,4,1,false,false⟩,⟨(show (0:Int)≤0 from by decide),(show (0:Int)≤65535 from by decide)⟩,rfl⟩
    | exact ⟨⟨2,modS by_ 2,0,0,0,0,0,0,4,1,true,false⟩,⟨(show (0:Int)≤0 from by decide),(show (0:Int)≤65535 from by decide)⟩,rfl⟩
    |(rename_i h; exact absurd h (by decide))
  ·have ap1:zZd 12 88 0 s.ops.length [] (ops s.ops):=⟨rfl,zQZ _,hM _ (by omega),by omega⟩
   have ap2:zZd 12 88 s.ops.length 1 (ops s.ops) z.cells:=⟨zQZ _,rfl,hM _ (by omega),by omega⟩
   refine ⟨⟨ap1,ap2,⟨s.bits,s.c,s.gtw,s.gth,s.ord,s.ims,s.ops++[z]⟩,⟨fun m hm=>⟨hIU m hm,s.ims_in m hm⟩,fun x hx=>?_,by show s.ord.length≤100; omega⟩,⟨rfl,rfl,rfl,rfl,rfl,rfl,rfl,rfl,rfl,by simp⟩,rfl,rfl,by simp [ops]⟩,fun t ht=>?_⟩
   ·rcases List.mem_append.1 hx with hx | hx
    ·exact s.ops_opac x hx
    ·rw [List.mem_singleton.1 hx]; exact hz
   ·obtain ⟨t1,t2,t3⟩:=ht
    have e1:=zJl t (fun m hm=>(t1 m hm).1) (fun m hm _=>(t1 m hm).2) t2 (by omega)
    have e2:=zUf t (fun m hm=>(t1 m hm).1) (fun m hm _=>(t1 m hm).2) t2
    have et:(⟨t.bits,t.c,t.tw,t.th,t.ord,t.ims,t.ops⟩:Scr)=t:=rfl
    simp only [zQM,zZx,zZf,et]
    have nf:∀ {p:Prop},(true=false)→p:=fun h=>by cases h
    refine ⟨e1,e2,?_⟩
    (repeat' (first | apply And.intro | intro _)) <;> first | exact beq_self_eq_true _ | (rename_i h; first | exact nf h | (rw [beq_self_eq_true] at h; exact nf h))
end
end Go.Proofs.YtheidkkebdhmkaaGreatDoor
namespace Go.Proofs.YtheidkkebdhmkaaGreatDoor.closed
open Go
set_option linter.unusedVariables false
set_option linter.unusedSimpArgs false
def headL:List Nat:=[104,97,114,110,101,115,115,32,101,102,101,98,55,102,102,55,100,48,100,97,100,54,55,52,54,48,98,50,53,49,49,97,52,97,100,100,52,101,50,101,100,54,50,52,97,99,99,55,102,56,56,99,100,49,54,48,98,52,48,52,49,52,48,101,100,50,57,51,50,48,48,57,32,99,117,116,32,97,116,32,99,111,109,112,111,115,105,116,111,114,47,99,111,109,112,111,115,105,116,111,114,108,97,119,49,57,46,84,101,120,116,70,111,114,109,97,116,65,103,114,101,101,115,32,99,111,109,112,111,115,105,116,111,114,47,99,111,109,112,111,115,105,116,111,114,108,97,119,49,57,46,84,101,120,116,70,111,114,109,97,116,82,101,106,101,99,116,115,32,99,111,109,112,111,115,105,116,111,114,47,99,111,109,112,111,115,105,116,111,114,108,97,119,49,57,46,84,101,120,116,82,111,117,110,100,84,114,105,112,32,99,111,109,112,111,115,105,116,111,114,47,99,111,109,112,111,115,105,116,111,114,108,97,119,49,57,46,84,101,120,116,80,97,114,115,101,65,103,114,101,101,115,32,99,111,109,112,111,115,105,116,111,114,47,99,111,109,112,111,115,105,116,111,114,108,97,119,49,57,46,84,101,120,116,80,97,114,115,101,79,102,68,97,109,97,103,101,32,99,111,109,112,111,115,105,116,111,114,47,99,111,109,112,111,115,105,116,111,114,108,97,119,49,57,46,84,101,120,116,82,101,112,111,114,116,115,84,104,101,76,105,110,101]
set_option maxRecDepth 100000 in
theorem jJf:Tryz.prog.initOrder=String.ofList (headL.map Char.ofNat):=by kernel_rfl
set_option maxRecDepth 100000 in
theorem zWE:Tryz.prog.initOrder.toList=(headL.map Char.ofNat):=by rw [jJf,String.toList_ofList]
set_option maxRecDepth 100000 in
theorem enters:Tryz.prog.mayEnter=true:=by
 unfold Program.mayEnter Program.doorFits
 rw [zWE]
 kernel_rfl
set_option maxRecDepth 100000 in
theorem liftsNot:Tryz.prog.liftsFinal=false:=by
 unfold Program.liftsFinal Program.headLifts
 rw [zWE]
 kernel_rfl
set_option maxRecDepth 100000 in
theorem made:Tryz.prog.make=some .cut:=by
 unfold Program.make
 rw [zWE]
 kernel_rfl
theorem own:ownKnob Tryz.prog.godebug=none:=by kernel_rfl
theorem laidOut:laidOutB Tryz.prog=true:=by kernel_rfl
theorem mapsRow:mapsRowed Tryz.prog=true:=by kernel_rfl
theorem noStops:(Tryz.prog.stops==[])=true:=by kernel_rfl
theorem noKnobs:(Tryz.prog.stopKnobs==[])=true:=by kernel_rfl
theorem plain:Tryz.prog.plainKeys=true:=by kernel_rfl
theorem heard:Tryz.prog.stopsHeard=true:=by kernel_rfl
end Go.Proofs.YtheidkkebdhmkaaGreatDoor.closed
namespace Go.Proofs.YtheidkkebdhmkaaGreatDoor
open Go.RowKit
set_option linter.unusedVariables false
set_option linter.unusedSimpArgs false
set_option maxRecDepth 20000
section
open Go.ChangeShapes
open Go.WideShapes
def zWR {H:Type} (P:Program):Nat→TypeId→DataW H→Nat→Option DV
 | 0,_,_,_=>none
 | fuel+1,t,d,i=>
  match P.underlying t,d with
  | some (.int k),.lit (.int k' n)=>if i=0∧k'=k then some (.int k n) else none
  | some .bool,.lit (.bool b)=>if i=0 then some (.bool b) else none
  | some .string,.lit (.string s)=>if i=0∧s.length≤maxLen then some (.str ⟨s.toArray⟩) else none
  | some (.struct fs),.agg ds=>(fs.toList.zip ds).findSome? fun x=>if x.1.offset≤i∧i < x.1.offset+P.cellsOf x.1.type then zWR P fuel x.1.type x.2 (i - x.1.offset) else none
  | some (.array _ e),.agg ds=>if P.cellsOf e=0 then none else match ds[i / P.cellsOf e]? with
   | some d=>zWR P fuel e d (i % P.cellsOf e)
   | none=>none
  | _,_=>none
section
variable {H:Type} {enc:TypeId × Value→H} {P:Program} {w:World}
theorem zHM {sp:Nat→Bool} {va:Bool} {V:Nat→Prop}:∀ (fuel:Nat) (t:TypeId) (cs:List Value) (d:DataW H) (ps:List MemPlace) (q i:Nat) (dv:DV),
  DataW.trod enc P w 0 sp va fuel t cs=some (d,ps)→zWR P q t d i=some dv→∃ u,cs[i]?=some u∧RepD w V dv u:=by
 intro fuel
 induction fuel with
 | zero=>intro t cs d ps q i dv h; simp [DataW.trod] at h
 | succ fuel ih=>
  intro t cs d ps q i dv h hq
  cases q with
  | zero=>simp [zWR] at hq
  | succ q=>
  unfold DataW.trod at h
  unfold zWR at hq
  split at h
  ·rename_i b hu
   simp only [Option.some.injEq,Prod.mk.injEq] at h
   obtain ⟨rfl,_⟩:=h
   simp only [hu] at hq
   split at hq
   ·rename_i e; subst e; cases hq; exact ⟨_,rfl,by simp only [RepD]⟩
   ·cases hq
  ·rename_i k k' n hu
   split at h
   ·rename_i hk
    obtain ⟨rfl,hwf⟩:=hk
    simp only [Option.some.injEq,Prod.mk.injEq] at h
    obtain ⟨rfl,_⟩:=h
    simp only [hu] at hq
    split at hq
    ·rename_i e; obtain ⟨rfl,_⟩:=e; cases hq; exact ⟨_,rfl,by simp only [RepD]; exact ⟨trivial,hwf⟩⟩
    ·cases hq
   ·cases h
  ·rename_i hu
   simp only [hu] at hq
   cases hq
  ·rename_i s hu
   split at h
   ·simp only [Option.some.injEq,Prod.mk.injEq] at h
    obtain ⟨rfl,_⟩:=h
    simp only [hu] at hq
    split at hq
    ·rename_i e; obtain ⟨rfl,hl⟩:=e; cases hq
     exact ⟨_,rfl,by simp only [RepD]; exact ⟨by simp,by simpa using hl⟩⟩
    ·cases hq
   ·cases h
  ·rename_i hu; simp only [hu] at hq; cases hq
  ·rename_i hu; simp only [hu] at hq; cases hq
  ·rename_i hu; simp only [hu] at hq; cases hq
  ·rename_i hu; simp only [hu] at hq; cases hq
  ·rename_i fs hu
   split at h
   ·obtain ⟨xs,hxs,h⟩:=Option.map_eq_some_iff.1 h
    simp only [Prod.mk.injEq] at h
    obtain ⟨rfl,_⟩:=h
    simp only [hu] at hq
    obtain ⟨x,hx,hx2⟩:=List.exists_of_findSome?_eq_some hq
    split at hx2
    ·rename_i hr
     obtain ⟨j,hj,e⟩:=List.getElem_of_mem hx
     rw [List.getElem_zip] at e
     simp only [List.length_zip,List.length_map] at hj
     have h1:=mapM_some_get hxs j _ (List.getElem?_eq_getElem (by omega))
     rw [List.getElem?_eq_getElem (show j < xs.length by omega)] at h1
     subst e
     simp only [List.getElem_map] at hx2 hr
     obtain ⟨u,hu1,hu2⟩:=ih _ _ _ _ q _ dv h1 hx2
     refine ⟨u,?_,hu2⟩
     rw [List.getElem?_take,if_pos (by omega),List.getElem?_drop] at hu1
     rwa [show _+(i - _)=i from Nat.add_sub_of_le hr.1] at hu1
    ·cases hx2
   ·cases h
  ·rename_i n e hu
   split at h
   ·obtain ⟨xs,hxs,h⟩:=Option.map_eq_some_iff.1 h
    simp only [Prod.mk.injEq] at h
    obtain ⟨rfl,_⟩:=h
    simp only [hu] at hq
    split at hq
    ·cases hq
    ·rename_i hne
     split at hq
     ·rename_i d hd
      rw [List.getElem?_map] at hd
      obtain ⟨x,hx,rfl⟩:=Option.map_eq_some_iff.1 hd
      have hl:=mapM_some_length hxs
      simp only [List.length_range] at hl
      have hlt:i / P.cellsOf e < xs.length:=(List.getElem?_eq_some_iff.1 hx).1
      have h1:=mapM_some_get hxs (i / P.cellsOf e) (i / P.cellsOf e) (List.getElem?_range (by omega))
      rw [hx] at h1
      obtain ⟨u,hu1,hu2⟩:=ih _ _ _ _ q _ dv h1 hq
      refine ⟨u,?_,hu2⟩
      rw [List.getElem?_take,if_pos (Nat.mod_lt _ (Nat.pos_of_ne_zero hne)),List.getElem?_drop,Nat.mul_comm] at hu1
      rwa [Nat.div_add_mod] at hu1
     ·cases hq
   ·cases h
  all_goals first | (cases h; done) | (clear h ih; simp_all; done) | (clear h ih; split at hq <;> simp_all; done)
end
def jJ1 (P:Program) (laid:List (String × DataW Unit)) (p:Nat × List DV):Prop:=
 ∃ x t,x∈laid∧P.globalNamed x.1=some p.1∧(P.globals[p.1]?).map (·.type)=some t∧(List.range p.2.length).map (zWR P 6 t x.2)=p.2.map some
def jXz (P:Program) (laid:List (String × DataW Unit)) (g:Nat):Prop:=∃ x,x∈laid∧P.globalNamed x.1=some g∧∃ nm d,x.2=.iface nm d
def jVb (P:Program) (g:Nat):Prop:=∀ w:World,w.ShapedOpen P→∃ m,w.cell? ⟨g,0,none⟩=some (.int .i64 m)
theorem zGu {H:Type} {enc:TypeId × Value→H} {P:Program} {w:World} {sp:Nat→Bool} {va:Bool}:∀ {fuel:Nat} {t:TypeId} {cs:List Value} {nm:String} {d:DataW H} {ps:List MemPlace},DataW.trod enc P w 0 sp va fuel t cs=some (.iface nm d,ps)→∃ u v,cs=[.iface u v]:=by
 intro fuel t cs nm d ps h
 cases fuel with
 | zero=>simp [DataW.trod] at h
 | succ fuel=>
  unfold DataW.trod at h
  split at h
  all_goals first
   | exact ⟨_,_,rfl⟩
   |(simp at h; done)
   |(split at h <;> simp at h; done)
   |(exfalso; obtain ⟨x,_,h⟩:=Option.map_eq_some_iff.1 h; cases h; done)
   |(exfalso; split at h; (obtain ⟨x,_,h⟩:=Option.bind_eq_some_iff.1 h; obtain ⟨y,_,h⟩:=Option.map_eq_some_iff.1 h; cases h); cases h)
   |(exfalso; split at h; (split at h; (obtain ⟨x,_,h⟩:=Option.bind_eq_some_iff.1 h; simp only at h; split at h <;> cases h); cases h); cases h)
theorem zJv {P:Program} {w:World}:∀ {l:List (String × DataW Unit)} {ps:List MemPlace},DataW.LaidVars P w l ps→∀ x∈l,∃ g t cs fuel p,P.globalNamed x.1=some g∧(P.globals[g]?).map (·.type)=some t∧w.var? P x.1=some cs∧DataW.trod (fun _=>()) P w 0 (fun _=>true) false fuel t cs.toList=some (x.2,p)
 | [],_,_,x,hx=>by cases hx
 |(n,d)::r,ps,h,x,hx=>by
  obtain ⟨g,t,cs,fuel,p,q,h1,h2,h3,h4,h5,_⟩:=h
  rcases List.mem_cons.1 hx with rfl | hx
  ·exact ⟨g,t,cs,fuel,p,h1,h2,h3,h4⟩
  ·exact zJv h5 x hx
theorem jX8 {P:Program} {laid:List (String × DataW Unit)} {w:World} (hm:laidMetH P laid w) (hp:(laid.all fun x=>x.2.handleName?.isNone)=true) (ht:∀ p∈zJB,jJ1 P laid p) (hs:∀ g∈zYX,jXz P laid g) (hi:∀ g∈zJW,∃ m,w.cell? ⟨g,0,none⟩=some (.int .i64 m)):zXD w (fun _=>True):=by
 rw [MakeChecks.laidMetH_plain _ _ _ hp] at hm
 obtain ⟨ps,hl,_⟩:=hm
 refine ⟨fun p hp _=>?_,fun g hg=>⟨trivial,?_⟩,fun g hg=>⟨trivial,hi g hg⟩⟩
 rotate_left
 ·obtain ⟨x,hx,h1,nm,d,hd⟩:=hs g hg
  obtain ⟨g',t',cs,fuel,q,g1,g2,g3,g4⟩:=zJv hl x hx
  rw [g1] at h1; injection h1 with h1; subst h1
  rw [hd] at g4
  obtain ⟨u,v,hc⟩:=zGu g4
  refine ⟨u,v,?_⟩
  rw [World.var?_cell g1 g3 0,← Array.getElem?_toList,hc]
  rfl
 obtain ⟨x,t,hx,h1,h2,h3⟩:=ht p hp
 obtain ⟨g,t',cs,fuel,q,g1,g2,g3,g4⟩:=zJv hl x hx
 rw [g1] at h1; injection h1 with h1; subst h1
 rw [g2] at h2; injection h2 with h2; subst h2
 refine ⟨trivial,RepCells.of_at fun i d hi=>?_⟩
 have hlt:i < p.2.length:=(List.getElem?_eq_some_iff.1 hi).1
 have h4:((List.range p.2.length).map (zWR P 6 t' x.2))[i]?=(p.2.map some)[i]?:=by rw [h3]
 rw [List.getElem?_map,List.getElem?_range hlt,List.getElem?_map,hi] at h4
 simp only [Option.map_some,Option.some.injEq] at h4
 obtain ⟨u,hu1,hu2⟩:=zHM (V:=fun _=>True) fuel t' cs.toList x.2 q 6 i d g4 h4
 refine ⟨u,?_,hu2⟩
 rw [Nat.zero_add,World.var?_cell g1 g3 i,← Array.getElem?_toList]
 exact hu1
theorem zGr {H:Type} {enc:TypeId × Value→H} {C:Checked} {os:Os} {f:FuncId} {fn:Func} {s:ChangeSpec} {tb:TypeId} {laid:List (String × DataW Unit)}
  (own:ownKnob C.prog.godebug=none) (started:os.Started) (noInit:C.prog.inits.idxOf? f=none) (hfn:C.prog.funcs[f]?=some fn)
  (witness:∃ (w:World) (tape:Tape) (i:Input),w.os=os∧(w.forCall tape i).Shaped C.prog∧i.vars=[]∧Input.okWide C.prog (w.forCall tape i) .any w.heap.size f i ∧
   ((s.pre enc C.prog fn [] false (w.forCall tape i).memory i.args∧laidMetH C.prog laid (w.forCall tape i).memory)∧sizedMet enc C.prog fn (OpenSpec.ofChange s) false (w.forCall tape i).memory i.args)∧({}:Assume).holds C.prog (lone (Frame.enter C.prog f i.args .normal) [] (w.forCall tape i)))
  (hspec:∀ ds:List (DataW H),ds.length=fn.params.toList.length→s.fn H ds={ results:=[.lit (.bool true)],args:=ds }) (hvars:s.vars=[])
  (hres:fn.resultTypes=#[tb]) (hb:C.prog.underlying tb=some .bool) (laidO:laidOutB C.prog=true)
  (hread:∀ t∈fn.params.toList,C.prog.readableRec t=true∧t < C.prog.types.size)
  (hp:(laid.all fun x=>x.2.handleName?.isNone)=true) (ht:∀ p∈zJB,jJ1 C.prog laid p) (hsn:∀ g∈zYX,jXz C.prog laid g) (hin:∀ g∈zJW,jVb C.prog g)
  (walk:∀ (W:World) (args:Array Value),zXD W (fun _=>True)→Args C.prog W fn.params.toList args.toList→Calls C.prog f args W fun e W'=>e=.returned (.bool true)∧Below W.heap.size W W') :
  ReturnsInHanded {} C os f .any (fun w args=>(s.pre enc C.prog fn [] false w args∧laidMetH C.prog laid w)∧sizedMet enc C.prog fn (OpenSpec.ofChange s) false w args) (s.post enc C.prog fn false true false false):=by
 refine returnsInHanded_of_calls own started noInit witness ?_
 intro w0 tape i0 _ hshape _ hok hpre _
 obtain ⟨_,_,_,fn',hfn',_,_,_,_,hval⟩:=hok
 have efn:=Option.some.inj (hfn'.symm.trans hfn)
 subst efn
 obtain ⟨⟨⟨ds,gs,before,hW0,_⟩,hlaid0⟩,hz⟩:=hpre
 have hW:=DataW.Whole.of_heap (w':=w0.forCall tape i0) (by rfl) hW0
 have hsz:(DataW.weightsEach C.prog (fn'.params.toList++s.plain.varTypes C.prog) (ds++gs)).all (·≤reachBytes)=true:=hz.weights hW0
 have hlaid:laidMetH C.prog laid (w0.forCall tape i0):=laidMetH.of_heap (w:=(w0.forCall tape i0).memory) (by rfl) hlaid0
 suffices h:Calls C.prog f i0.args (w0.forCall tape i0) fun e W'=>∃ v,e=.returned v∧s.post enc C.prog fn' false true false false (w0.forCall tape i0) i0.args v W' from
  h.mono fun e W' ⟨v,he,hp⟩=>by subst he; exact ChangeSpec.post_blind hp
 generalize w0.forCall tape i0=W at *
 generalize i0.args=args at *
 have hW':=hW
 obtain ⟨p,q,hA,hV,rfl,_,_⟩:=hW
 rw [hvars] at hV
 obtain ⟨rfl,rfl⟩:=trodVars_none hV
 have hvt:s.plain.varTypes C.prog=[]:=by simp [ChangeSpec.plain,DataSpec.varTypes,hvars]
 rw [hvt,List.append_nil,List.append_nil] at hsz
 obtain ⟨ha,hlen⟩:=zJF hA (fun n hn=>by simpa using List.all_eq_true.1 hsz n hn) (fun j t v ht hv=>zWQ (hval j t v (by simpa using ht) (by simpa using hv)))
 refine (walk W args (jX8 hlaid hp ht hsn fun g hg=>hin g hg W hshape) ha).mono fun e W' ⟨he,bel⟩=>?_
 subst he
 have hs:=hspec ds hlen
 refine ⟨_,rfl,ds,[],p++[],[],p,[],hW',?_,?_,?_,bel.frame _,fun h=>by cases h⟩
 ·rw [List.append_nil,hs,hres]
  exact trodAll_mk1 (shut_bool hb _)
 ·rw [List.append_nil,hs]
  exact zKz laidO bel hread hA
 ·rw [List.append_nil,hs,hvars]
  rfl
end
open Go.Proofs.Tryz (prog)
abbrev zGs:List (String × DataW Unit):=[("math/bits.deBruijn32tab", Rows.laid_math_bits_deBruijn32tab),("math/bits.deBruijn64tab", Rows.laid_math_bits_deBruijn64tab),("compositor/operator.rules", Rows.laid_compositor_operator_rules),("compositor/blend.names", Rows.laid_compositor_blend_names),("internal/strconv.uint64pow10", Rows.laid_internal_strconv_uint64pow10),("unicode/utf8.acceptRanges", Rows.laid_unicode_utf8_acceptRanges),("strconv.ErrRange", Rows.laid_strconv_ErrRange),("strconv.ErrSyntax", Rows.laid_strconv_ErrSyntax),("unicode/utf8.first", Rows.laid_unicode_utf8_first)]
set_option maxRecDepth 100000 in
theorem jKY:∀ p∈zJB,jJ1 prog zGs p:=by
 intro p hp
 simp only [zJB,List.mem_cons,List.not_mem_nil,or_false] at hp
 rcases hp with rfl | rfl | rfl | rfl | rfl | rfl
 ·exact ⟨("compositor/blend.names", Rows.laid_compositor_blend_names),151,(List.mem_cons_of_mem _ (List.mem_cons_of_mem _ (List.mem_cons_of_mem _ List.mem_cons_self))),by kernel_rfl,by kernel_rfl,by kernel_rfl⟩
 ·exact ⟨("compositor/operator.rules", Rows.laid_compositor_operator_rules),176,(List.mem_cons_of_mem _ (List.mem_cons_of_mem _ List.mem_cons_self)),by kernel_rfl,by kernel_rfl,by kernel_rfl⟩
 ·exact ⟨("internal/strconv.uint64pow10", Rows.laid_internal_strconv_uint64pow10),209,(List.mem_cons_of_mem _ (List.mem_cons_of_mem _ (List.mem_cons_of_mem _ (List.mem_cons_of_mem _ List.mem_cons_self)))),by kernel_rfl,by kernel_rfl,by kernel_rfl⟩
 ·exact ⟨("unicode/utf8.acceptRanges", Rows.laid_unicode_utf8_acceptRanges),222,(List.mem_cons_of_mem _ (List.mem_cons_of_mem _ (List.mem_cons_of_mem _ (List.mem_cons_of_mem _ (List.mem_cons_of_mem _ List.mem_cons_self))))),by kernel_rfl,by kernel_rfl,by kernel_rfl⟩
 ·exact ⟨("math/bits.deBruijn32tab", Rows.laid_math_bits_deBruijn32tab),227,List.mem_cons_self,by kernel_rfl,by kernel_rfl,by kernel_rfl⟩
 ·exact ⟨("math/bits.deBruijn64tab", Rows.laid_math_bits_deBruijn64tab),228,(List.mem_cons_of_mem _ List.mem_cons_self),by kernel_rfl,by kernel_rfl,by kernel_rfl⟩
set_option maxRecDepth 100000 in
theorem jJ6:∀ g∈zYX,jXz prog zGs g:=by
 intro g hg
 simp only [zYX,List.mem_cons,List.not_mem_nil,or_false] at hg
 rcases hg with rfl | rfl
 ·exact ⟨("strconv.ErrSyntax", Rows.laid_strconv_ErrSyntax),(List.mem_cons_of_mem _ (List.mem_cons_of_mem _ (List.mem_cons_of_mem _ (List.mem_cons_of_mem _ (List.mem_cons_of_mem _ (List.mem_cons_of_mem _ (List.mem_cons_of_mem _ List.mem_cons_self))))))),by kernel_rfl,_,_,rfl⟩
 ·exact ⟨("strconv.ErrRange", Rows.laid_strconv_ErrRange),(List.mem_cons_of_mem _ (List.mem_cons_of_mem _ (List.mem_cons_of_mem _ (List.mem_cons_of_mem _ (List.mem_cons_of_mem _ (List.mem_cons_of_mem _ List.mem_cons_self)))))),by kernel_rfl,_,_,rfl⟩
theorem jKA:∀ g∈zJW,jVb prog g:=by
 intro g hg
 simp only [zJW,List.mem_cons,List.not_mem_nil,or_false] at hg
 subst hg
 exact fun w h=>cell_of_shapedOpen_int (t:=3) (zero:=#[.int .i64 0]) h (Nat.le_of_ble_eq_true (by kernel_rfl)) (by kernel_rfl) (by kernel_rfl) (by kernel_rfl) (by kernel_rfl) (by kernel_rfl)
theorem zUG:(zGs.all fun x=>x.2.handleName?.isNone)=true:=by kernel_rfl
set_option maxRecDepth 100000 in
theorem jJl (os:Os) (args:Array Value):laidMetH prog zGs ((World.laidAll prog os zGs).forCall (fun _ _=>0) ⟨#[],args,[]⟩).memory:=by
 rw [MakeChecks.laidMetH_plain _ _ _ zUG]
 exact laidMet_laidAll _ (by kernel_rfl) (by kernel_rfl)
end Go.Proofs.YtheidkkebdhmkaaGreatDoor
