/-
  Part 6 of what TextReportsTheLineUpto rests on.
-/
import Derived.Test.YtheidkkebdhmkaaGreatDoorTextReportsTheLineUptoZ5
import Derived.Test.YtheidkkebdhmkaaGreatDoorTextReportsTheLineUptoZ4
import Derived.Test.YtheidkkebdhmkaaGreatDoorTextReportsTheLineUptoZ2
import Derived.Test.YtheidkkebdhmkaaGreatDoorRows
import Derived.JoinedOf
import Derived.KernelRfl
import Derived.Test.YtheidkkebdhmkaaGreatDoorTextReportsTheLineUptoZ1
import Derived.MakeChecks
import Derived.LaidHandle
import Derived.LaidMore
import Derived.Stop.Joined
import Derived.Shelf.Vars
import Derived.Lay
import Derived.Deep.DeepHandedRow
namespace Go.Proofs.YtheidkkebdhmkaaGreatDoor
open Go.RowKit
set_option linter.unusedVariables false
set_option linter.unusedSimpArgs false
set_option maxRecDepth 20000
set_option maxHeartbeats 4000000
open Go.Proofs.Tryz (prog)
section
attribute [local irreducible] Ans AnsO AnsG AnsN AnsI
theorem bads (q:Nat) (h:q < 11):([DV.str ⟨#[112,111,112,32,49]⟩,DV.str ⟨#[100,114,97,119,32,48,32,48,32,48,32,48,32,48,32,48,32,50,53,53,32,111,118,101,114,32,110,111,114,109,97,108]⟩,DV.str ⟨#[100,114,97,119,32,48,32,48,32,48,32,48,32,48,32,48,32,50,53,54,48,48,48,32,115,114,99,45,111,118,101,114,32,110,111,114,109,97,108]⟩,DV.str ⟨#[112,117,115,104,32,48,32,48,32,48,32,50,53,53,32,115,114,99,45,111,118,101,114,32,110,111,114,109,97,108,32,49]⟩,DV.str ⟨#[112,117,115,104,32,48,32,48,32,48,32,50,53,53,32,115,114,99,45,111,118,101,114,32,110,111,114,109,97,108,32,49,32,50]⟩,DV.str ⟨#[32,112,111,112]⟩,DV.str ⟨#[]⟩,DV.str ⟨#[98,105,116,115,32,56]⟩,DV.str ⟨#[100,114,97,119,32,48,48,32,48,32,48,32,48,32,48,32,48,32,50,53,53,32,115,114,99,45,111,118,101,114,32,110,111,114,109,97,108]⟩,DV.str ⟨#[100,114,97,119,32,48,32,45,48,32,48,32,48,32,48,32,48,32,50,53,53,32,115,114,99,45,111,118,101,114,32,110,111,114,109,97,108]⟩,DV.str ⟨#[100,114,97,119,32,48,32,50,49,52,55,52,56,51,54,52,56,32,48,32,48,32,48,32,48,32,50,53,53,32,115,114,99,45,111,118,101,114,32,110,111,114,109,97,108]⟩])[q]?=some (DV.str (sAt [DV.str ⟨#[112,111,112,32,49]⟩,DV.str ⟨#[100,114,97,119,32,48,32,48,32,48,32,48,32,48,32,48,32,50,53,53,32,111,118,101,114,32,110,111,114,109,97,108]⟩,DV.str ⟨#[100,114,97,119,32,48,32,48,32,48,32,48,32,48,32,48,32,50,53,54,48,48,48,32,115,114,99,45,111,118,101,114,32,110,111,114,109,97,108]⟩,DV.str ⟨#[112,117,115,104,32,48,32,48,32,48,32,50,53,53,32,115,114,99,45,111,118,101,114,32,110,111,114,109,97,108,32,49]⟩,DV.str ⟨#[112,117,115,104,32,48,32,48,32,48,32,50,53,53,32,115,114,99,45,111,118,101,114,32,110,111,114,109,97,108,32,49,32,50]⟩,DV.str ⟨#[32,112,111,112]⟩,DV.str ⟨#[]⟩,DV.str ⟨#[98,105,116,115,32,56]⟩,DV.str ⟨#[100,114,97,119,32,48,48,32,48,32,48,32,48,32,48,32,48,32,50,53,53,32,115,114,99,45,111,118,101,114,32,110,111,114,109,97,108]⟩,DV.str ⟨#[100,114,97,119,32,48,32,45,48,32,48,32,48,32,48,32,48,32,50,53,53,32,115,114,99,45,111,118,101,114,32,110,111,114,109,97,108]⟩,DV.str ⟨#[100,114,97,119,32,48,32,50,49,52,55,52,56,51,54,52,56,32,48,32,48,32,48,32,48,32,50,53,53,32,115,114,99,45,111,118,101,114,32,110,111,114,109,97,108]⟩] q))∧∃ x:Lb,sAt [DV.str ⟨#[112,111,112,32,49]⟩,DV.str ⟨#[100,114,97,119,32,48,32,48,32,48,32,48,32,48,32,48,32,50,53,53,32,111,118,101,114,32,110,111,114,109,97,108]⟩,DV.str ⟨#[100,114,97,119,32,48,32,48,32,48,32,48,32,48,32,48,32,50,53,54,48,48,48,32,115,114,99,45,111,118,101,114,32,110,111,114,109,97,108]⟩,DV.str ⟨#[112,117,115,104,32,48,32,48,32,48,32,50,53,53,32,115,114,99,45,111,118,101,114,32,110,111,114,109,97,108,32,49]⟩,DV.str ⟨#[112,117,115,104,32,48,32,48,32,48,32,50,53,53,32,115,114,99,45,111,118,101,114,32,110,111,114,109,97,108,32,49,32,50]⟩,DV.str ⟨#[32,112,111,112]⟩,DV.str ⟨#[]⟩,DV.str ⟨#[98,105,116,115,32,56]⟩,DV.str ⟨#[100,114,97,119,32,48,48,32,48,32,48,32,48,32,48,32,48,32,50,53,53,32,115,114,99,45,111,118,101,114,32,110,111,114,109,97,108]⟩,DV.str ⟨#[100,114,97,119,32,48,32,45,48,32,48,32,48,32,48,32,48,32,50,53,53,32,115,114,99,45,111,118,101,114,32,110,111,114,109,97,108]⟩,DV.str ⟨#[100,114,97,119,32,48,32,50,49,52,55,52,56,51,54,52,56,32,48,32,48,32,48,32,48,32,50,53,53,32,115,114,99,45,111,118,101,114,32,110,111,114,109,97,108]⟩] q=toS x∧x.length≤60∧badW x=true:=by
 match q,h with
 | 0,_ | 1,_ | 2,_ | 3,_ | 4,_ | 5,_ | 6,_ | 7,_ | 8,_ | 9,_ | 10,_=>exact ⟨rfl,_,rfl,by decide,by decide +kernel⟩
theorem jKy {t:Lb} {i:Nat} (h:i < t.length):nl (t.take (i+1))=nl (t.take i)+if (t[i]?).getD 0=10 then 1 else 0:=by
 rw [List.take_add_one,List.getElem?_eq_getElem h,Option.toList_some,jX3]
 congr 1
 unfold nl
 rw [List.count_singleton]
 simp
theorem jVw {c:UInt8} (h:(c.toNat:Int)=10):c=10:=UInt8.toNat_inj.1 (by show c.toNat=10; omega)
theorem jVh (t:Lb):nl t≤t.length:=List.count_le_length
def zJD:Gam where
 pure:=fun f xs=>
  if f=12 then gZ48 xs else
  if f=13 then (match xs with | []=>some (RV.d (dQ true)) | _=>none) else
  if f=14 then gZ0 xs else
  if f=15 then gZ47 xs else
  if f=15 then gZ47 xs else
  none
 modes:=fun f=>
  if f=9 then some ([true],0,3) else
  none
 proc:=fun f xs bs=>
  if f=9 then (match xs,bs with | [AV.agg [Cl.d (DV.int _ sb),Cl.d (DV.int _ sx),Cl.d (DV.int _ sy),Cl.d (DV.int _ sw),Cl.d (DV.int _ sh),Cl.d (DV.int _ stw),Cl.d (DV.int _ sth),Cl.d (DV.sl son soxs),Cl.d (DV.sl spn spxs),Cl.d (DV.sl srn srxs)]],[]=>let a:=(⟨sb,sx,sy,sw,sh,stw,sth,son,soxs,spn,spxs,srn,srxs⟩:Scn); some ⟨AV.agg [Cl.d (DV.int .i64 a.bits),Cl.d (DV.int .i64 a.c.a),Cl.d (DV.int .i64 a.c.b),Cl.d (DV.int .i64 a.c.c),Cl.d (DV.int .i64 a.c.d),Cl.d (DV.int .i64 a.gtw),Cl.d (DV.int .i64 a.gth),Cl.ref 0 a.ord.length,Cl.ref 1 a.ims.length,Cl.ref 2 a.ops.length],[Bx.row 3 1 (is a.ord),Bx.row 43 28 (ims a.ims),Bx.row 51 12 (ops a.ops)],false⟩ | _,_=>none) else
  none
 iter:=fun f cs=>
  none
theorem zYm (s:Scn) (what:Int) (w:List UInt8) (hs:s.ok) (hw:w.length≤1048576):Ans prog 8 [RV.agg [dJ s.b,dJ s.x,dJ s.y,dJ s.w,dJ s.h,dJ s.tw,dJ s.th,dS s.on s.oxs,dS s.pn s.pxs,dS s.rn s.rxs],rJ (what),RV.d (DV.str (toS w))] (RV.d (dQ true)):=
 zQj (Γ:=zJD) (let a:=(fmtT s.scr); let d:=(1,aJ what); let b:=(2,AV.one (Cl.d (DV.str (toS w)))); let c:=(8,AV.one (Cl.d (DV.str (toS (fmtR (⟨s.bits,⟨s.c.a,s.c.b,s.c.c,s.c.d⟩,s.gtw,s.gth,ints (is s.ord),zYu (ims s.ims),zZ8 (ops s.ops)⟩:Scr)).1)))); let f:=(10,aJ ((nl a:Nat):Int)); (Ann.seq Ann.leaf (Ann.seq Ann.leaf (Ann.seq Ann.leaf (Ann.seq Ann.leaf (Ann.seq Ann.leaf (Ann.cut ⟨Unit,fun e:Unit=>True,fun e:Unit=>⟨[d,b,c,f],[]⟩,fun e:Unit=>0⟩ (Ann.seq Ann.leaf (Ann.loop ⟨Nat,fun i=>i≤a.length,fun i=>⟨[d,b,c,(10,aJ ((nl (a.take i):Nat):Int)),(11,aJ (i:Int))],[]⟩,fun i=>a.length - i⟩ fun i=>Ann.leaf)) fun e=>(Ann.seq Ann.leaf (Ann.cut ⟨Lb,fun x:Lb=>x.length≤60∧badW x=true,fun x:Lb=>⟨[b,c,f,(13,AV.one (Cl.d (DV.str (toS x))))],[]⟩,fun x:Lb=>0⟩ Ann.leaf fun x=>Ann.leaf))))))))) zQy Tryz.func8 rfl (Nat.le_of_ble_eq_true rfl) fun hwf=>by
  refine Eq.mpr (by kernel_rfl:_=(let g:=((11:Nat):Int); let k:=(modS what g); let l:=(RV.d (dQ false)=RV.d (dQ true)); let d:=(fmtT s.scr); let o:=([DV.str (⟨#[112,111,112,32,49]⟩:ByteArray),DV.str (⟨#[100,114,97,119,32,48,32,48,32,48,32,48,32,48,32,48,32,50,53,53,32,111,118,101,114,32,110,111,114,109,97,108]⟩:ByteArray),DV.str (⟨#[100,114,97,119,32,48,32,48,32,48,32,48,32,48,32,48,32,50,53,54,48,48,48,32,115,114,99,45,111,118,101,114,32,110,111,114,109,97,108]⟩:ByteArray),DV.str (⟨#[112,117,115,104,32,48,32,48,32,48,32,50,53,53,32,115,114,99,45,111,118,101,114,32,110,111,114,109,97,108,32,49]⟩:ByteArray),DV.str (⟨#[112,117,115,104,32,48,32,48,32,48,32,50,53,53,32,115,114,99,45,111,118,101,114,32,110,111,114,109,97,108,32,49,32,50]⟩:ByteArray),DV.str (⟨#[32,112,111,112]⟩:ByteArray),DV.str (⟨#[]⟩:ByteArray),DV.str (⟨#[98,105,116,115,32,56]⟩:ByteArray),DV.str (⟨#[100,114,97,119,32,48,48,32,48,32,48,32,48,32,48,32,48,32,50,53,53,32,115,114,99,45,111,118,101,114,32,110,111,114,109,97,108]⟩:ByteArray),DV.str (⟨#[100,114,97,119,32,48,32,45,48,32,48,32,48,32,48,32,48,32,50,53,53,32,115,114,99,45,111,118,101,114,32,110,111,114,109,97,108]⟩:ByteArray),DV.str (⟨#[100,114,97,119,32,48,32,50,49,52,55,52,56,51,54,52,56,32,48,32,48,32,48,32,48,32,50,53,53,32,115,114,99,45,111,118,101,114,32,110,111,114,109,97,108]⟩:ByteArray)]); let m:=(fmtR (⟨s.bits,s.c,s.gtw,s.gth,ints (is s.ord),zYu (ims s.ims),zZ8 (ops s.ops)⟩:Scr)); let c:=(toS m.1); let b:=(zZn (ofS (c++(⟨#[112,111,112]⟩:ByteArray)))); let f:=((nl d:Nat):Int); let n:=(dJ what=dJ what); let h:=(DV.str (toS w)=DV.str (toS w)); let j:=(DV.str c=DV.str c); let q:=fun (i:Nat)=>fun (i':Nat)=>(d.length - i' < d.length - i); let r:=fun (i:Nat)=>fun (i':Nat)=>(dJ (wK ((i:Int)+1))=dJ (i':Int)); let t:=fun (x:Lb)=>(x.length≤60∧badW x=true); tU3 ((AnsG prog 9 0 [AV.agg [cJ s.b,cJ s.x,cJ s.y,cJ s.w,cJ s.h,cJ s.tw,cJ s.th,Cl.d (dS s.on s.oxs),Cl.d (dS s.pn s.pxs),Cl.d (dS s.rn s.rxs)]] [] ⟨AV.agg [cJ s.bits,cJ s.c.a,cJ s.c.b,cJ s.c.c,cJ s.c.d,cJ s.gtw,cJ s.gth,Cl.ref 0 s.ord.length,Cl.ref 1 s.ims.length,Cl.ref 2 s.ops.length],[Bx.row 3 1 (is s.ord),Bx.row 43 28 (ims s.ims),Bx.row 51 12 (ops s.ops)],false⟩)∧tU3 ((Ans prog 12 [RV.agg [dJ s.bits,dJ s.c.a,dJ s.c.b,dJ s.c.c,dJ s.c.d,dJ s.gtw,dJ s.gth,dS s.ord.length (is s.ord),dS s.ims.length (ims s.ims),dS s.ops.length (ops s.ops)]] (RV.tup [RV.d (DV.str c),rJ m.2]))∧tU8 (((m.2 != 0)=false→(Ans prog 13 [] (RV.d (dQ true)))∧tU2 (((!true)=true→True∧RV.d (dQ false)=RV.d (dQ true))∧((!true)=false→True∧(True∧((∃ i:Nat,(i≤d.length)∧((n∧h∧j∧(dJ 0=dJ ((nl (d.take i):Nat):Int))∧(dJ 0=dJ (i:Int))∧True)∧True))∧∀ i:Nat,let u:=(decide ((i:Int) < (c.size:Int))); let p:=((nl (d.take i):Nat):Int); let v:=((((c.data.toList[(i:Int).toNat]?.getD 0).toNat:Nat):Int)==10); (i≤d.length)→tU4 ((u=true→tU2 ((0≤(i:Int)∧(i:Int) < (c.size:Int))∧True∧((v=true→tU6 (∃ i':Nat,(i'≤d.length)∧(q i i')∧((n∧h∧j∧(dJ (wK (p+1))=dJ ((nl (d.take i'):Nat):Int))∧(r i i')∧True)∧True)))∧(v=false→tU3 (∃ i':Nat,(i'≤d.length)∧(q i i')∧((n∧h∧j∧(dJ p=dJ ((nl (d.take i'):Nat):Int))∧(r i i')∧True)∧True))))))∧(u=false→∃ e:Unit,True∧((n∧h∧j∧(dJ p=dJ f)∧True)∧True)))))∧∀ e:Unit,True→tU2 ((tU3 ((11≤maxLen)∧(Ans prog 14 [rJ what,rJ g] (rJ k))∧(0≤modS what g∧modS what g < g)∧((o[k.toNat*1]?=some (DV.str (sAt o (k.toNat*1))))∧True)∧True∧∃ x:Lb,(t x)∧((h∧j∧(dJ f=dJ f)∧(DV.str (sAt o (k.toNat*1))=DV.str (toS x))∧True)∧True)))∧∀ x:Lb,let a:=(zZn (ofS (((c++(toS x))++(⟨#[10]⟩:ByteArray))++(toS w)))); (t x)→tU2 ((c.size+(toS x).size≤maxLen)∧((c++(toS x)).size+(⟨#[10]⟩:ByteArray).size≤maxLen)∧True∧(((c++(toS x))++(⟨#[10]⟩:ByteArray)).size+(toS w).size≤maxLen)∧(Ans prog 15 [RV.d (DV.str (((c++(toS x))++(⟨#[10]⟩:ByteArray))++(toS w)))] (RV.tup [RV.agg [dJ a.1.bits,dJ a.1.c.a,dJ a.1.c.b,dJ a.1.c.c,dJ a.1.c.d,dJ a.1.tw,dJ a.1.th,dS a.1.ord.length (is a.1.ord),dS a.1.ims.length (ims a.1.ims),dS a.1.ops.length (ops a.1.ops)],rJ a.2.1,rJ a.2.2]))∧True∧tU8 ((c.size+(⟨#[112,111,112]⟩:ByteArray).size≤maxLen)∧(Ans prog 15 [RV.d (DV.str (c++(⟨#[112,111,112]⟩:ByteArray)))] (RV.tup [RV.agg [dJ b.1.bits,dJ b.1.c.a,dJ b.1.c.b,dJ b.1.c.c,dJ b.1.c.d,dJ b.1.tw,dJ b.1.th,dS b.1.ord.length (is b.1.ord),dS b.1.ims.length (ims b.1.ims),dS b.1.ops.length (ops b.1.ops)],rJ b.2.1,rJ b.2.2]))∧tU3 (tU8 (((a.2.2==19)=true→tU6 (((a.2.1==(wK (f+1)))=true→tU4 (((b.2.2==19)=true→tU6 (RV.d (dQ (b.2.1==(wK (f+1))))=RV.d (dQ true)))∧((b.2.2==19)=(!true)→tU2 l)))∧((a.2.1==(wK (f+1)))=(!true)→tU4 l)))∧((a.2.2==19)=(!true)→tU6 l)))))))))∧((m.2 != 0)=(!false)→tU2 l)))))) ?_
  delta tU2 tU3 tU4 tU6 tU8 dJ dQ cJ wK dS rJ
  simp only [sS,zGV,zQH]
  have li:=s.ims_len
  have hol:=s.ops_len
  have hod:=s.ord_len
  have hIU:=s.ims_isU
  have hl:=s.fmt_len
  have a1:=zUk ⟨s.bits,s.c,s.gtw,s.gth,s.ord,s.ims,s.ops⟩ s.ims_isU (fun m hm _=>s.ims_in m hm) s.ops_opac
  have eF:fmtR ⟨s.bits,s.c,s.gtw,s.gth,s.ord,s.ims,s.ops⟩=(fmtT s.scr,0):=s.fmt
  simp only [zQM,zZx,zZe,eF] at a1 ⊢
  have hM:∀ n:Nat,n≤20000000→n≤maxLen:=fun n h=>by unfold maxLen; omega
  have m11:=@zZr what ((11:Nat):Int) (by omega) (by omega)
  obtain ⟨D1,y,D2,D3,D4⟩:=bads ((modS what ((11:Nat):Int)).toNat*1) (by omega)
  have rB:=fun (x:Lb) (hx:badW x=true)=>s.bad_line hx w
  have rO:=s.open_line
  generalize fmtT s.scr=T at *
  have nT:=jVh T
  have k10:(⟨#[10]⟩:ByteArray)=toS [10]:=rfl
  have kP:(⟨#[112,111,112]⟩:ByteArray)=toS sPop:=rfl
  have lP:sPop.length=3:=rfl
  refine ⟨zH3 s hs,a1,fun _=>⟨fun h=>h,⟨⟨0,Nat.zero_le _,rfl,rfl⟩,fun i hi=>⟨fun hlt=>?_,fun hge=>⟨(),?_⟩⟩⟩,⟨⟨hM _ (by omega),⟨by omega,by omega⟩,D1,y,⟨D3,D4⟩,by rw [D2]⟩,fun x hx=>?_⟩⟩,fun h=>absurd h (by decide)⟩
  ·rw [zQF] at hlt
   have hi:i < T.length:=by omega
   have w1:IntKind.wrap .i64 ((i:Int)+1)=((i+1:Nat):Int):=by rw [IntWalk.i64_in _ ⟨by omega,by omega⟩]; omega
   have hn:=jKy hi
   have hle:=jVh (T.take i)
   rw [List.length_take] at hle
   have w2:IntKind.wrap .i64 ((nl (T.take i):Int)+1)=((nl (T.take i)+1:Nat):Int):=by rw [IntWalk.i64_in _ ⟨by omega,by omega⟩]; omega
   rw [zQF]
   refine ⟨⟨by omega,by omega⟩,fun h=>⟨i+1,by omega,by omega,?_,w1⟩,fun h=>⟨i+1,by omega,by omega,?_,w1⟩⟩
   ·have hb:(T[i]?).getD 0=10:=jVw (of_decide_eq_true h)
    rw [w2,hn,if_pos hb]
   ·rw [hn,if_neg (fun e=>by rw [zJ0,e] at h; exact absurd h (by decide))]; rfl
  ·rw [zQF] at hge
   rw [List.take_of_length_le (by omega)]
  ·obtain ⟨x1,x2⟩:=hx
   have b1:=rB x x2
   have a2:=zXJ (T++(x++10::w)) (by simp; omega)
   have a3:=zXJ (T++sPop) (by simp; omega)
   have w3:IntKind.wrap .i64 ((nl T:Int)+1)=(nl T:Int)+1:=IntWalk.i64_in _ ⟨by omega,by omega⟩
   have eT:T++x++[10]++w=T++(x++10::w):=by simp
   simp only [zQX,zGg,b1,rO] at a2 a3
   simp only [k10,kP,zYA,zQX,eT,zGg,b1,rO,zQF,w3,List.length_append,List.length_cons,List.length_nil]
   refine ⟨hM _ (by omega),hM _ (by omega),hM _ (by omega),a2,hM _ (by rw [lP]; omega),a3,fun _=>⟨fun _=>⟨fun _=>beq_self_eq_true _,fun h=>absurd h (by decide)⟩,fun h=>?_⟩,fun h=>absurd h (by decide)⟩
   rw [beq_self_eq_true] at h
   cases h
end
end Go.Proofs.YtheidkkebdhmkaaGreatDoor
namespace Go.Proofs.YtheidkkebdhmkaaGreatDoor.closed
open Go
set_option linter.unusedVariables false
set_option linter.unusedSimpArgs false
def headL:List Nat:=[104,97,114,110,101,115,115,32,101,102,101,98,55,102,102,55,100,48,100,97,100,54,55,52,54,48,98,50,53,49,49,97,52,97,100,100,52,101,50,101,100,54,50,52,97,99,99,55,102,56,56,99,100,49,54,48,98,52,48,52,49,52,48,101,100,50,57,51,50,48,48,57,32,99,117,116,32,97,116,32,99,111,109,112,111,115,105,116,111,114,47,99,111,109,112,111,115,105,116,111,114,108,97,119,49,57,46,84,101,120,116,70,111,114,109,97,116,65,103,114,101,101,115,32,99,111,109,112,111,115,105,116,111,114,47,99,111,109,112,111,115,105,116,111,114,108,97,119,49,57,46,84,101,120,116,70,111,114,109,97,116,82,101,106,101,99,116,115,32,99,111,109,112,111,115,105,116,111,114,47,99,111,109,112,111,115,105,116,111,114,108,97,119,49,57,46,84,101,120,116,82,111,117,110,100,84,114,105,112,32,99,111,109,112,111,115,105,116,111,114,47,99,111,109,112,111,115,105,116,111,114,108,97,119,49,57,46,84,101,120,116,80,97,114,115,101,65,103,114,101,101,115,32,99,111,109,112,111,115,105,116,111,114,47,99,111,109,112,111,115,105,116,111,114,108,97,119,49,57,46,84,101,120,116,80,97,114,115,101,79,102,68,97,109,97,103,101,32,99,111,109,112,111,115,105,116,111,114,47,99,111,109,112,111,115,105,116,111,114,108,97,119,49,57,46,84,101,120,116,82,101,112,111,114,116,115,84,104,101,76,105,110,101]
set_option maxRecDepth 100000 in
theorem jJp:Tryz.prog.initOrder=String.ofList (headL.map Char.ofNat):=by kernel_rfl
set_option maxRecDepth 100000 in
theorem zWJ:Tryz.prog.initOrder.toList=(headL.map Char.ofNat):=by rw [jJp,String.toList_ofList]
set_option maxRecDepth 100000 in
theorem enters:Tryz.prog.mayEnter=true:=by
 unfold Program.mayEnter Program.doorFits
 rw [zWJ]
 kernel_rfl
set_option maxRecDepth 100000 in
theorem liftsNot:Tryz.prog.liftsFinal=false:=by
 unfold Program.liftsFinal Program.headLifts
 rw [zWJ]
 kernel_rfl
set_option maxRecDepth 100000 in
theorem made:Tryz.prog.make=some .cut:=by
 unfold Program.make
 rw [zWJ]
 kernel_rfl
theorem own:ownKnob Tryz.prog.godebug=none:=by kernel_rfl
theorem laidOut:laidOutB Tryz.prog=true:=by kernel_rfl
theorem mapsRow:mapsRowed Tryz.prog=true:=by kernel_rfl
theorem noStops:(Tryz.prog.stops==[])=true:=by kernel_rfl
theorem noKnobs:(Tryz.prog.stopKnobs==[])=true:=by kernel_rfl
theorem plain:Tryz.prog.plainKeys=true:=by kernel_rfl
theorem heard:Tryz.prog.stopsHeard=true:=by kernel_rfl
end Go.Proofs.YtheidkkebdhmkaaGreatDoor.closed
namespace Go.Proofs.YtheidkkebdhmkaaGreatDoor
open Go.RowKit
set_option linter.unusedVariables false
set_option linter.unusedSimpArgs false
set_option maxRecDepth 20000
section
open Go.ChangeShapes
open Go.WideShapes
def zWW {H:Type} (P:Program):Nat→TypeId→DataW H→Nat→Option DV
 | 0,_,_,_=>none
 | fuel+1,t,d,i=>
  match P.underlying t,d with
  | some (.int k),.lit (.int k' n)=>if i=0∧k'=k then some (.int k n) else none
  | some .bool,.lit (.bool b)=>if i=0 then some (.bool b) else none
  | some .string,.lit (.string s)=>if i=0∧s.length≤maxLen then some (.str ⟨s.toArray⟩) else none
  | some (.struct fs),.agg ds=>(fs.toList.zip ds).findSome? fun x=>if x.1.offset≤i∧i < x.1.offset+P.cellsOf x.1.type then zWW P fuel x.1.type x.2 (i - x.1.offset) else none
  | some (.array _ e),.agg ds=>if P.cellsOf e=0 then none else match ds[i / P.cellsOf e]? with
   | some d=>zWW P fuel e d (i % P.cellsOf e)
   | none=>none
  | _,_=>none
section
variable {H:Type} {enc:TypeId × Value→H} {P:Program} {w:World}
theorem zHS {sp:Nat→Bool} {va:Bool} {V:Nat→Prop}:∀ (fuel:Nat) (t:TypeId) (cs:List Value) (d:DataW H) (ps:List MemPlace) (q i:Nat) (dv:DV),
  DataW.trod enc P w 0 sp va fuel t cs=some (d,ps)→zWW P q t d i=some dv→∃ u,cs[i]?=some u∧RepD w V dv u:=by
 intro fuel
 induction fuel with
 | zero=>intro t cs d ps q i dv h; simp [DataW.trod] at h
 | succ fuel ih=>
  intro t cs d ps q i dv h hq
  cases q with
  | zero=>simp [zWW] at hq
  | succ q=>
  unfold DataW.trod at h
  unfold zWW at hq
  split at h
  ·rename_i b hu
   simp only [Option.some.injEq,Prod.mk.injEq] at h
   obtain ⟨rfl,_⟩:=h
   simp only [hu] at hq
   split at hq
   ·rename_i e; subst e; cases hq; exact ⟨_,rfl,by simp only [RepD]⟩
   ·cases hq
  ·rename_i k k' n hu
   split at h
   ·rename_i hk
    obtain ⟨rfl,hwf⟩:=hk
    simp only [Option.some.injEq,Prod.mk.injEq] at h
    obtain ⟨rfl,_⟩:=h
    simp only [hu] at hq
    split at hq
    ·rename_i e; obtain ⟨rfl,_⟩:=e; cases hq; exact ⟨_,rfl,by simp only [RepD]; exact ⟨trivial,hwf⟩⟩
    ·cases hq
   ·cases h
  ·rename_i hu
   simp only [hu] at hq
   cases hq
  ·rename_i s hu
   split at h
   ·simp only [Option.some.injEq,Prod.mk.injEq] at h
    obtain ⟨rfl,_⟩:=h
    simp only [hu] at hq
    split at hq
    ·rename_i e; obtain ⟨rfl,hl⟩:=e; cases hq
     exact ⟨_,rfl,by simp only [RepD]; exact ⟨by simp,by simpa using hl⟩⟩
    ·cases hq
   ·cases h
  ·rename_i hu; simp only [hu] at hq; cases hq
  ·rename_i hu; simp only [hu] at hq; cases hq
  ·rename_i hu; simp only [hu] at hq; cases hq
  ·rename_i hu; simp only [hu] at hq; cases hq
  ·rename_i fs hu
   split at h
   ·obtain ⟨xs,hxs,h⟩:=Option.map_eq_some_iff.1 h
    simp only [Prod.mk.injEq] at h
    obtain ⟨rfl,_⟩:=h
    simp only [hu] at hq
    obtain ⟨x,hx,hx2⟩:=List.exists_of_findSome?_eq_some hq
    split at hx2
    ·rename_i hr
     obtain ⟨j,hj,e⟩:=List.getElem_of_mem hx
     rw [List.getElem_zip] at e
     simp only [List.length_zip,List.length_map] at hj
     have h1:=mapM_some_get hxs j _ (List.getElem?_eq_getElem (by omega))
     rw [List.getElem?_eq_getElem (show j < xs.length by omega)] at h1
     subst e
     simp only [List.getElem_map] at hx2 hr
     obtain ⟨u,hu1,hu2⟩:=ih _ _ _ _ q _ dv h1 hx2
     refine ⟨u,?_,hu2⟩
     rw [List.getElem?_take,if_pos (by omega),List.getElem?_drop] at hu1
     rwa [show _+(i - _)=i from Nat.add_sub_of_le hr.1] at hu1
    ·cases hx2
   ·cases h
  ·rename_i n e hu
   split at h
   ·obtain ⟨xs,hxs,h⟩:=Option.map_eq_some_iff.1 h
    simp only [Prod.mk.injEq] at h
    obtain ⟨rfl,_⟩:=h
    simp only [hu] at hq
    split at hq
    ·cases hq
    ·rename_i hne
     split at hq
     ·rename_i d hd
      rw [List.getElem?_map] at hd
      obtain ⟨x,hx,rfl⟩:=Option.map_eq_some_iff.1 hd
      have hl:=mapM_some_length hxs
      simp only [List.length_range] at hl
      have hlt:i / P.cellsOf e < xs.length:=(List.getElem?_eq_some_iff.1 hx).1
      have h1:=mapM_some_get hxs (i / P.cellsOf e) (i / P.cellsOf e) (List.getElem?_range (by omega))
      rw [hx] at h1
      obtain ⟨u,hu1,hu2⟩:=ih _ _ _ _ q _ dv h1 hq
      refine ⟨u,?_,hu2⟩
      rw [List.getElem?_take,if_pos (Nat.mod_lt _ (Nat.pos_of_ne_zero hne)),List.getElem?_drop,Nat.mul_comm] at hu1
      rwa [Nat.div_add_mod] at hu1
     ·cases hq
   ·cases h
  all_goals first | (cases h; done) | (clear h ih; simp_all; done) | (clear h ih; split at hq <;> simp_all; done)
end
def jJ9 (P:Program) (laid:List (String × DataW Unit)) (p:Nat × List DV):Prop:=
 ∃ x t,x∈laid∧P.globalNamed x.1=some p.1∧(P.globals[p.1]?).map (·.type)=some t∧(List.range p.2.length).map (zWW P 6 t x.2)=p.2.map some
def jXH (P:Program) (laid:List (String × DataW Unit)) (g:Nat):Prop:=∃ x,x∈laid∧P.globalNamed x.1=some g∧∃ nm d,x.2=.iface nm d
def jVl (P:Program) (g:Nat):Prop:=∀ w:World,w.ShapedOpen P→∃ m,w.cell? ⟨g,0,none⟩=some (.int .i64 m)
theorem zGz {H:Type} {enc:TypeId × Value→H} {P:Program} {w:World} {sp:Nat→Bool} {va:Bool}:∀ {fuel:Nat} {t:TypeId} {cs:List Value} {nm:String} {d:DataW H} {ps:List MemPlace},DataW.trod enc P w 0 sp va fuel t cs=some (.iface nm d,ps)→∃ u v,cs=[.iface u v]:=by
 intro fuel t cs nm d ps h
 cases fuel with
 | zero=>simp [DataW.trod] at h
 | succ fuel=>
  unfold DataW.trod at h
  split at h
  all_goals first
   | exact ⟨_,_,rfl⟩
   |(simp at h; done)
   |(split at h <;> simp at h; done)
   |(exfalso; obtain ⟨x,_,h⟩:=Option.map_eq_some_iff.1 h; cases h; done)
   |(exfalso; split at h; (obtain ⟨x,_,h⟩:=Option.bind_eq_some_iff.1 h; obtain ⟨y,_,h⟩:=Option.map_eq_some_iff.1 h; cases h); cases h)
   |(exfalso; split at h; (split at h; (obtain ⟨x,_,h⟩:=Option.bind_eq_some_iff.1 h; simp only at h; split at h <;> cases h); cases h); cases h)
theorem zJw {P:Program} {w:World}:∀ {l:List (String × DataW Unit)} {ps:List MemPlace},DataW.LaidVars P w l ps→∀ x∈l,∃ g t cs fuel p,P.globalNamed x.1=some g∧(P.globals[g]?).map (·.type)=some t∧w.var? P x.1=some cs∧DataW.trod (fun _=>()) P w 0 (fun _=>true) false fuel t cs.toList=some (x.2,p)
 | [],_,_,x,hx=>by cases hx
 |(n,d)::r,ps,h,x,hx=>by
  obtain ⟨g,t,cs,fuel,p,q,h1,h2,h3,h4,h5,_⟩:=h
  rcases List.mem_cons.1 hx with rfl | hx
  ·exact ⟨g,t,cs,fuel,p,h1,h2,h3,h4⟩
  ·exact zJw h5 x hx
theorem jYi {P:Program} {laid:List (String × DataW Unit)} {w:World} (hm:laidMetH P laid w) (hp:(laid.all fun x=>x.2.handleName?.isNone)=true) (ht:∀ p∈zJC,jJ9 P laid p) (hs:∀ g∈zYZ,jXH P laid g) (hi:∀ g∈zJX,∃ m,w.cell? ⟨g,0,none⟩=some (.int .i64 m)):zXB w (fun _=>True):=by
 rw [MakeChecks.laidMetH_plain _ _ _ hp] at hm
 obtain ⟨ps,hl,_⟩:=hm
 refine ⟨fun p hp _=>?_,fun g hg=>⟨trivial,?_⟩,fun g hg=>⟨trivial,hi g hg⟩⟩
 rotate_left
 ·obtain ⟨x,hx,h1,nm,d,hd⟩:=hs g hg
  obtain ⟨g',t',cs,fuel,q,g1,g2,g3,g4⟩:=zJw hl x hx
  rw [g1] at h1; injection h1 with h1; subst h1
  rw [hd] at g4
  obtain ⟨u,v,hc⟩:=zGz g4
  refine ⟨u,v,?_⟩
  rw [World.var?_cell g1 g3 0,← Array.getElem?_toList,hc]
  rfl
 obtain ⟨x,t,hx,h1,h2,h3⟩:=ht p hp
 obtain ⟨g,t',cs,fuel,q,g1,g2,g3,g4⟩:=zJw hl x hx
 rw [g1] at h1; injection h1 with h1; subst h1
 rw [g2] at h2; injection h2 with h2; subst h2
 refine ⟨trivial,RepCells.of_at fun i d hi=>?_⟩
 have hlt:i < p.2.length:=(List.getElem?_eq_some_iff.1 hi).1
 have h4:((List.range p.2.length).map (zWW P 6 t' x.2))[i]?=(p.2.map some)[i]?:=by rw [h3]
 rw [List.getElem?_map,List.getElem?_range hlt,List.getElem?_map,hi] at h4
 simp only [Option.map_some,Option.some.injEq] at h4
 obtain ⟨u,hu1,hu2⟩:=zHS (V:=fun _=>True) fuel t' cs.toList x.2 q 6 i d g4 h4
 refine ⟨u,?_,hu2⟩
 rw [Nat.zero_add,World.var?_cell g1 g3 i,← Array.getElem?_toList]
 exact hu1
end
open Go.Proofs.Tryz (prog)
abbrev zHA:List (String × DataW Unit):=[("math/bits.deBruijn32tab", Rows.laid_math_bits_deBruijn32tab),("math/bits.deBruijn64tab", Rows.laid_math_bits_deBruijn64tab),("compositor/operator.rules", Rows.laid_compositor_operator_rules),("compositor/blend.names", Rows.laid_compositor_blend_names),("internal/strconv.uint64pow10", Rows.laid_internal_strconv_uint64pow10),("unicode/utf8.acceptRanges", Rows.laid_unicode_utf8_acceptRanges),("strconv.ErrRange", Rows.laid_strconv_ErrRange),("strconv.ErrSyntax", Rows.laid_strconv_ErrSyntax),("unicode/utf8.first", Rows.laid_unicode_utf8_first)]
set_option maxRecDepth 100000 in
theorem jK7:∀ p∈zJC,jJ9 prog zHA p:=by
 intro p hp
 simp only [zJC,List.mem_cons,List.not_mem_nil,or_false] at hp
 rcases hp with rfl | rfl | rfl | rfl | rfl | rfl
 ·exact ⟨("compositor/blend.names", Rows.laid_compositor_blend_names),151,(List.mem_cons_of_mem _ (List.mem_cons_of_mem _ (List.mem_cons_of_mem _ List.mem_cons_self))),by kernel_rfl,by kernel_rfl,by kernel_rfl⟩
 ·exact ⟨("compositor/operator.rules", Rows.laid_compositor_operator_rules),176,(List.mem_cons_of_mem _ (List.mem_cons_of_mem _ List.mem_cons_self)),by kernel_rfl,by kernel_rfl,by kernel_rfl⟩
 ·exact ⟨("internal/strconv.uint64pow10", Rows.laid_internal_strconv_uint64pow10),209,(List.mem_cons_of_mem _ (List.mem_cons_of_mem _ (List.mem_cons_of_mem _ (List.mem_cons_of_mem _ List.mem_cons_self)))),by kernel_rfl,by kernel_rfl,by kernel_rfl⟩
 ·exact ⟨("unicode/utf8.acceptRanges", Rows.laid_unicode_utf8_acceptRanges),222,(List.mem_cons_of_mem _ (List.mem_cons_of_mem _ (List.mem_cons_of_mem _ (List.mem_cons_of_mem _ (List.mem_cons_of_mem _ List.mem_cons_self))))),by kernel_rfl,by kernel_rfl,by kernel_rfl⟩
 ·exact ⟨("math/bits.deBruijn32tab", Rows.laid_math_bits_deBruijn32tab),227,List.mem_cons_self,by kernel_rfl,by kernel_rfl,by kernel_rfl⟩
 ·exact ⟨("math/bits.deBruijn64tab", Rows.laid_math_bits_deBruijn64tab),228,(List.mem_cons_of_mem _ List.mem_cons_self),by kernel_rfl,by kernel_rfl,by kernel_rfl⟩
set_option maxRecDepth 100000 in
theorem jKe:∀ g∈zYZ,jXH prog zHA g:=by
 intro g hg
 simp only [zYZ,List.mem_cons,List.not_mem_nil,or_false] at hg
 rcases hg with rfl | rfl
 ·exact ⟨("strconv.ErrSyntax", Rows.laid_strconv_ErrSyntax),(List.mem_cons_of_mem _ (List.mem_cons_of_mem _ (List.mem_cons_of_mem _ (List.mem_cons_of_mem _ (List.mem_cons_of_mem _ (List.mem_cons_of_mem _ (List.mem_cons_of_mem _ List.mem_cons_self))))))),by kernel_rfl,_,_,rfl⟩
 ·exact ⟨("strconv.ErrRange", Rows.laid_strconv_ErrRange),(List.mem_cons_of_mem _ (List.mem_cons_of_mem _ (List.mem_cons_of_mem _ (List.mem_cons_of_mem _ (List.mem_cons_of_mem _ (List.mem_cons_of_mem _ List.mem_cons_self)))))),by kernel_rfl,_,_,rfl⟩
theorem jKJ:∀ g∈zJX,jVl prog g:=by
 intro g hg
 simp only [zJX,List.mem_cons,List.not_mem_nil,or_false] at hg
 subst hg
 exact fun w h=>cell_of_shapedOpen_int (t:=3) (zero:=#[.int .i64 0]) h (Nat.le_of_ble_eq_true (by kernel_rfl)) (by kernel_rfl) (by kernel_rfl) (by kernel_rfl) (by kernel_rfl) (by kernel_rfl)
theorem zUL:(zHA.all fun x=>x.2.handleName?.isNone)=true:=by kernel_rfl
set_option maxRecDepth 100000 in
theorem jJv (os:Os) (args:Array Value):laidMetH prog zHA ((World.laidAll prog os zHA).forCall (fun _ _=>0) ⟨#[],args,[]⟩).memory:=by
 rw [MakeChecks.laidMetH_plain _ _ _ zUL]
 exact laidMet_laidAll _ (by kernel_rfl) (by kernel_rfl)
section
open Go.ChangeShapes
open Go.WideShapes
theorem jYC {H:Type} {d:DataW H} {l:List (DataW H)} (h:d∈l):Rows.uptoBulk d≤Rows.uptoBulkAll l:=by
 induction l with
 | nil=>cases h
 | cons x r ih=>
  simp only [Rows.uptoBulkAll]
  cases List.mem_cons.1 h with
  | inl e=>subst e; omega
  | inr e=>have:=ih e; omega
def jZM (P:Program) (ts:List TypeId) (vs:List Value):Prop:=∀ (j:Nat) t (s:ByteArray),ts[j]?=some t→P.underlying t=some .string→vs[j]?=some (.string s)→s.size≤1048576
theorem zG5 {H:Type} {enc:TypeId × Value→H} {P:Program} {w:World}:∀ {ts:List TypeId} {vs:List Value} {ds:List (DataW H)} {ps:List MemPlace},DataW.TrodAll enc P w 0 (fun _=>true) true ts vs ds ps →
  ∀ (j:Nat) t (s:ByteArray),ts[j]?=some t→P.underlying t=some .string→vs[j]?=some (.string s)→DataW.lit (.string s.data.toList)∈ds
 | [],vs,ds,ps,h,j,t,s,h1,_,_=>by simp at h1
 | t0::ts,vs,ds,ps,h,j,t,s,h1,h2,h3=>by
  obtain ⟨v,vs',d,ds',p,q,rfl,rfl,rfl,ht,hr⟩:=trodAll_cons h
  cases j with
  | zero=>
   simp only [List.getElem?_cons_zero,Option.some.injEq] at h1 h3
   subst h1; subst h3
   obtain ⟨fuel,hf⟩:=ht
   obtain ⟨s',h,hx,hs⟩:=DataW.trod_string h2 hf
   simp [Value.cells] at h
   subst h
   rw [Prod.mk.injEq] at hx
   rw [hx.1]
   exact List.mem_cons_self
  | succ j=>exact List.mem_cons_of_mem _ (zG5 hr j t s (by simpa using h1) h2 (by simpa using h3))
theorem zHj {w:World} {V:Nat→Prop}:∀ {rs:List RV} {vs:List Value} (j:Nat) {s:ByteArray},RepRs w V rs vs→rs[j]?=some (.d (.str s))→vs[j]?=some (.string s)
 | [],[],j,s,_,h=>by simp at h
 | x::rs,v::vs,0,s,h,e=>by
  simp only [List.getElem?_cons_zero,Option.some.injEq] at e ⊢
  subst e
  simp only [RepRs,RepR,RepD] at h
  exact h.1.1
 | x::rs,v::vs,j+1,s,h,e=>by
  simp only [RepRs] at h
  simpa using zHj j h.2 (by simpa using e)
 | [],_::_,j,s,h,_=>by simp only [RepRs] at h
 | _::_,[],j,s,h,_=>by simp only [RepRs] at h
theorem jZP {P:Program} {f:FuncId} {ts:List TypeId} (hok:ts.all (okT P)=true) (h:∀ rs,zY4 P ts rs→RV.wfs rs→(∀ (j:Nat) t (s:ByteArray),ts[j]?=some t→P.underlying t=some .string→rs[j]?=some (.d (.str s))→s.size≤1048576)→Ans P f rs (.d (.bool true))) (W:World) (args:Array Value) (hg:zXB W fun _=>True) (ha:Args P W ts args.toList) (hs:jZM P ts args.toList) :
  Calls P f args W fun e W'=>e=.returned (.bool true)∧Below W.heap.size W W':=by
 obtain ⟨rs,h1,h2⟩:=zVf hok ha
 refine (h rs h2 (RepRs.wf h1) (fun j t s e1 e2 e3=>hs j t s e1 e2 (zHj j h1 e3)) W _ args hg h1).mono fun e w' ⟨v,he,hv,hb⟩=>?_
 simp only [RepR,RepD] at hv
 subst hv
 exact ⟨he,hb⟩
theorem zGX {H:Type} {enc:TypeId × Value→H} {C:Checked} {os:Os} {f:FuncId} {fn:Func} {s:OpenSpec} {conds:List PathCond} {laid:List (String × DataW Unit)} (w0:World) (args:Array Value) (hos:w0.os=os)
  (hsh:(w0.forCall (fun _ _=>0) ⟨#[],args,[]⟩).Shaped C.prog)
  (hok:Input.okWideB C.prog (w0.forCall (fun _ _=>0) ⟨#[],args,[]⟩) f ⟨#[],args,[]⟩=true)
  (hrow:s.preRow enc C.prog fn conds false laid (w0.forCall (fun _ _=>0) ⟨#[],args,[]⟩).memory args) :
  ∃ (w:World) (tape:Tape) (i:Input),w.os=os∧(w.forCall tape i).Shaped C.prog∧i.vars=[]∧Input.okWide C.prog (w.forCall tape i) .any w.heap.size f i ∧
   s.preRow enc C.prog fn conds false laid (w.forCall tape i).memory i.args∧({}:Assume).holds C.prog (lone (Frame.enter C.prog f i.args .normal) [] (w.forCall tape i)):=
 ⟨w0,fun _ _=>0,⟨#[],args,[]⟩,hos,hsh,(Input.okWide_of_okWideB (base:=0) hok).1,(Input.okWide_of_okWideB hok).2,hrow,by
  simp only [Assume.holds]
  exact ⟨by simp,by simp,by simp,by simp,by simp⟩⟩
theorem zGx {H:Type} {enc:TypeId × Value→H} {C:Checked} {os:Os} {f:FuncId} {fn:Func} {s:ChangeSpec} {tb:TypeId} {laid:List (String × DataW Unit)} {F:Stop.Interp} {conds:List PathCond}
  (own:ownKnob C.prog.godebug=none) (started:os.Started) (noInit:C.prog.inits.idxOf? f=none) (hfn:C.prog.funcs[f]?=some fn)
  (witness:∃ (w:World) (tape:Tape) (i:Input),w.os=os∧(w.forCall tape i).Shaped C.prog∧i.vars=[]∧Input.okWide C.prog (w.forCall tape i) .any w.heap.size f i ∧
   (Rows.OpenSpec.upto s).preRow enc C.prog fn conds false laid (w.forCall tape i).memory i.args∧({}:Assume).holds C.prog (lone (Frame.enter C.prog f i.args .normal) [] (w.forCall tape i)))
  (hspec:∀ ds:List (DataW H),ds.length=fn.params.toList.length→s.fn H ds={ results:=[.lit (.bool true)],args:=ds }) (hvars:s.vars=[])
  (hres:fn.resultTypes=#[tb]) (hb:C.prog.underlying tb=some .bool) (laidO:laidOutB C.prog=true)
  (hread:∀ t∈fn.params.toList,C.prog.readableRec t=true∧t < C.prog.types.size)
  (hp:(laid.all fun x=>x.2.handleName?.isNone)=true) (ht:∀ p∈zJC,jJ9 C.prog laid p) (hsn:∀ g∈zYZ,jXH C.prog laid g) (hin:∀ g∈zJX,jVl C.prog g)
  (walk:∀ (W:World) (args:Array Value),zXB W (fun _=>True)→Args C.prog W fn.params.toList args.toList→jZM C.prog fn.params.toList args.toList→Calls C.prog f args W fun e W'=>e=.returned (.bool true)∧Below W.heap.size W W') :
  ReturnsInHanded {} C os f .any ((Rows.OpenSpec.upto s).preRow enc C.prog fn conds false laid) (((Rows.OpenSpec.upto s).at F).post enc C.prog fn false true false false):=by
 refine returnsInHanded_of_row (C:=C) (s:=Rows.OpenSpec.upto s) own started noInit hfn witness ?_
 intro W base args ds gs before hval hW0 _ hk hsz hlaid hshape _
 show Calls C.prog f args W fun e W'=>∃ v,e=.returned v∧s.post enc C.prog fn false true false false W args v W'
 have hW:DataW.Whole enc C.prog fn.params.toList s.vars false W args.toList ds gs before:=hW0
 have hk:=hk Rows.uptoSmall rfl
 have hW':=hW
 obtain ⟨p,q,hA,hV,rfl,_,_⟩:=hW
 rw [hvars] at hV
 obtain ⟨rfl,rfl⟩:=trodVars_none hV
 have hvt:(Rows.OpenSpec.upto s).bare.plain.varTypes C.prog=[]:=by
  show DataSpec.varTypes C.prog { name:=s.name,vars:=s.vars,fn:=_ }=[]
  simp [DataSpec.varTypes,hvars]
 rw [hvt,List.append_nil,List.append_nil] at hsz
 rw [List.append_nil] at hk
 have hk:Rows.uptoBulkAll ds≤1048576:=of_decide_eq_true hk
 obtain ⟨ha,hlen⟩:=zJH hA (fun n hn=>by simpa using List.all_eq_true.1 hsz n hn) (fun j t v ht hv=>zWV (hval j t v (by simpa using ht) (by simpa using hv)))
 have hsh:jZM C.prog fn.params.toList args.toList:=fun j t x h1 h2 h3=>by
  have h4:=jYC (zG5 hA j t x h1 h2 h3)
  simp only [Rows.uptoBulk] at h4
  have e:x.data.toList.length=x.size:=by rw [Array.length_toList]; rfl
  omega
 refine (walk W args (jYi hlaid hp ht hsn fun g hg=>hin g hg W hshape) ha hsh).mono fun e W' ⟨he,bel⟩=>?_
 subst he
 have hs:=hspec ds hlen
 refine ⟨_,rfl,ds,[],p++[],[],p,[],hW',?_,?_,?_,bel.frame _,fun h=>by cases h⟩
 ·rw [List.append_nil,hs,hres]
  exact trodAll_mk1 (shut_bool hb _)
 ·rw [List.append_nil,hs]
  exact zKz laidO bel hread hA
 ·rw [List.append_nil,hs,hvars]
  rfl
end
end Go.Proofs.YtheidkkebdhmkaaGreatDoor
