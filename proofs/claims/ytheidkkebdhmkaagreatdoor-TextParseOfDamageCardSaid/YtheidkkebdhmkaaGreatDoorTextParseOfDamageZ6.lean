/-
  Part 6 of what TextParseOfDamage rests on.
-/
import Derived.Test.YtheidkkebdhmkaaGreatDoorTextParseOfDamageZ5
import Derived.Test.YtheidkkebdhmkaaGreatDoorRows
import Derived.LaidMore
import Derived.Stop.Joined
import Derived.Lay
namespace Go.Proofs.YtheidkkebdhmkaaGreatDoor
open Go.RowKit
set_option linter.unusedVariables false
set_option linter.unusedSimpArgs false
set_option maxRecDepth 20000
set_option maxHeartbeats 4000000
open Go.Proofs.Tryz (prog)
section
attribute [local irreducible] Ans AnsO AnsG AnsN AnsI
open Go.Lib
def digW (l:List Int):List Lb:=l.map itoa
def zZi:List Lb→Lb
 | []=>[]
 | w::ws=>w++ws.flatMap fun x=>32::x
def zZq (ws:List Lb):Lb:=zZi ws++[10]
theorem zGo {l:List Lb} {k:Nat} (h:k < l.length):zZi (l.take (k+1))=(if k=0 then l[k] else zZi (l.take k)++32::l[k]):=by
 cases l with
 | nil=>simp at h
 | cons w ws=>
  cases k with
  | zero=>simp [zZi]
  | succ k=>
   have h':k < ws.length:=by simpa using h
   rw [if_neg (by omega),List.take_succ_cons,List.take_succ_cons,zZi,zZi,List.take_add_one,List.getElem?_eq_getElem h',List.flatMap_append,List.getElem_cons_succ]
   simp
theorem jZZ (l:List Lb) (k:Nat):(zZi (l.take k)).length≤(zZi l).length:=by
 cases l with
 | nil=>simp
 | cons w ws=>
  cases k with
  | zero=>simp [zZi]
  | succ k=>
   rw [List.take_succ_cons,zZi,zZi]
   conv=>rhs; rw [← List.take_append_drop k ws]
   rw [List.flatMap_append]
   simp
theorem b32:[DV.int .u8 32]=zQk (toS [32]):=rfl
theorem b10:[DV.int .u8 10]=zQk (toS [10]):=rfl
theorem zZD (l m:Lb):zQk (toS l)++zQk (toS m)=zQk (toS (l++m)):=by simp [zQk,toS]
theorem zKh (s:ByteArray):(zQk s).length=s.size:=by simp [zQk]
def gZ48 (xs:List AV) (bs:List Bx):Option Ret:=match xs,bs with | [AV.one (Cl.d (DV.sl kn kxs))],[]=>some ⟨AV.one (Cl.ref 0 (digW (ints kxs)).length),[Bx.row 9 1 (strs (digW (ints kxs)))],false⟩ | _,_=>none
def gZ49 (xs:List AV) (bs:List Bx):Option Ret:=match xs,bs with | [AV.one (Cl.ptr 0 0),AV.one (Cl.d (DV.int _ c))],[Bx.cells [Cl.ptr 0 0,Cl.ref 1 n],Bx.row _ _ xs]=>some ⟨AV.one (Cl.lit Value.nilIface),[bC [Cl.ptr 0 0,Cl.ref 1 (n+1)],Bx.row 5 1 (xs++[DV.int .u8 c])],false⟩ | _,_=>none
def gZ50 (xs:List AV) (bs:List Bx):Option Ret:=match xs,bs with | [AV.one (Cl.ptr 0 0),AV.one (Cl.d (DV.str s))],[Bx.cells [Cl.ptr 0 0,Cl.ref 1 n],Bx.row _ _ xs]=>some ⟨AV.tup [aJ ((s.size:Nat):Int),AV.one (Cl.lit Value.nilIface)],[bC [Cl.ptr 0 0,Cl.ref 1 (n+s.size)],Bx.row 5 1 (xs++zQk s)],false⟩ | [AV.one (Cl.ptr 0 0),AV.one (Cl.d (DV.str s))],[Bx.cells [Cl.lit (Value.pointer none),Cl.nil]]=>some ⟨AV.tup [aJ ((s.size:Nat):Int),AV.one (Cl.lit Value.nilIface)],[bC [Cl.ptr 0 0,Cl.ref 1 (0+s.size)],Bx.row 5 1 ([]++zQk s)],false⟩ | _,_=>none
def jXK:Gam where
 pure:=fun f xs=>
  if f=97 then gZ4 xs else
  none
 modes:=fun f=>
  if f=57 then some ([true],0,1) else
  if f=98 then some ([false],1,1) else
  if f=58 then some ([false,true],1,1) else
  if f=59 then some ([false,true],1,1) else
  none
 proc:=fun f xs bs=>
  if f=57 then gZ48 xs bs else
  if f=98 then (match xs,bs with | [AV.one (Cl.ptr 0 0)],[Bx.cells [Cl.ptr 0 0,Cl.ref 1 n],Bx.row _ _ xs]=>some ⟨AV.tup [],[bC [Cl.ptr 0 0,Cl.ref 1 n],Bx.row 5 1 xs],false⟩ | [AV.one (Cl.ptr 0 0)],[Bx.cells [Cl.lit (Value.pointer none),Cl.nil]]=>some ⟨AV.tup [],[bC [Cl.ptr 0 0,Cl.ref 1 0],Bx.row 5 1 ([])],false⟩ | _,_=>none) else
  if f=58 then gZ49 xs bs else
  if f=59 then gZ50 xs bs else
  none
 iter:=fun f cs=>
  none
theorem zZt (n:Nat) (xs:List DV) (c:Int) (hn:xs.length=n) (hb:n≤35184372088832):AnsG prog 58 1 [aPz,AV.one (Cl.d (DV.int .u8 c))] [bC [Cl.ptr 0 0,Cl.ref 1 n],Bx.row 5 1 xs] ⟨AV.one (Cl.lit (Value.nilIface)),[bC [Cl.ptr 0 0,Cl.ref 1 (n+1)],Bx.row 5 1 (xs++[DV.int .u8 c])],false⟩:=
 zQy (Γ:=jXK) Ann.leaf zQs Tryz.func58 rfl (nL rfl) rfl fun hwf hbx=>by
  refine Eq.mpr (by kernel_rfl:_=(let a:=[DV.int .u8 c]; let b:=[bC [Cl.ptr 0 0,Cl.ref 1 n],Bx.row 5 1 xs]; tU2 ((AnsG prog 98 1 [aPz] b ⟨AV.tup [],b,false⟩)∧tU7 ((zZl 1 1 n 1 xs (a))∧tU4 (((((Value.nilIface:Value)=Value.nilIface)∧True)∧(((0=0)∧(n+1=n+1)∧True)∧(xs++(a)=xs++a)∧True))∧zQm ⟨AV.one (Cl.lit Value.nilIface),[bC [Cl.ptr 0 0,Cl.ref 1 (n+1)],Bx.row 5 1 (xs++a)],false⟩))))) ?_
  delta aPz bC
  simp only [sS]
  exact ⟨zYH n xs,⟨by rw [hn,Nat.mul_one],by simp [zQk],by unfold maxLen; omega,by omega⟩,trivial⟩
theorem zZz (n:Nat) (xs:List DV) (s:ByteArray) (hn:xs.length=n) (hb:n≤35184372088832) (hs:s.size≤35184372088832):AnsG prog 59 1 [aPz,AV.one (Cl.d (DV.str s))] [bC [Cl.ptr 0 0,Cl.ref 1 n],Bx.row 5 1 xs] ⟨AV.tup [aJ (((((s).size:Nat):Int))),AV.one (Cl.lit (Value.nilIface))],[bC [Cl.ptr 0 0,Cl.ref 1 (n+(s).size)],Bx.row 5 1 (xs++zQk s)],false⟩:=
 zQy (Γ:=jXK) Ann.leaf zQs Tryz.func59 rfl (nL rfl) rfl fun hwf hbx=>by
  refine Eq.mpr (by kernel_rfl:_=(let a:=[bC [Cl.ptr 0 0,Cl.ref 1 n],Bx.row 5 1 xs]; tU3 ((AnsG prog 98 1 [aPz] a ⟨AV.tup [],a,false⟩)∧tU6 ((zZl 1 1 n s.size xs (zQk s))∧tU7 (((((dJ (s.size:Int)=dJ ((s.size:Nat):Int))∧((Value.nilIface:Value)=Value.nilIface)∧True)∧True)∧(((0=0)∧(n+s.size=n+s.size)∧True)∧(xs++(zQk s)=xs++zQk s)∧True))∧zQm ⟨AV.tup [aJ ((s.size:Nat):Int),AV.one (Cl.lit Value.nilIface)],[bC [Cl.ptr 0 0,Cl.ref 1 (n+s.size)],Bx.row 5 1 (xs++zQk s)],false⟩))))) ?_
  delta dJ aJ aPz bC
  simp only [sS]
  exact ⟨zYH n xs,⟨by rw [hn,Nat.mul_one],by simp [zQk],by unfold maxLen; omega,by omega⟩,trivial⟩
theorem zJW (s:ByteArray) (hs:s.size≤35184372088832):AnsG prog 59 1 [aPz,AV.one (Cl.d (DV.str s))] [bC [Cl.lit (Value.pointer none),Cl.nil]] ⟨AV.tup [aJ (((((s).size:Nat):Int))),AV.one (Cl.lit (Value.nilIface))],[bC [Cl.ptr 0 0,Cl.ref 1 (0+(s).size)],Bx.row 5 1 ([]++zQk s)],false⟩:=
 zQy (Γ:=jXK) Ann.leaf zQs Tryz.func59 rfl (nL rfl) rfl fun hwf hbx=>by
  refine Eq.mpr (by kernel_rfl:_=(tU3 ((AnsG prog 98 1 [aPz] [bC [Cl.lit (Value.pointer none),Cl.nil]] ⟨AV.tup [],[bC [Cl.ptr 0 0,Cl.ref 1 0],Bx.row 5 1 ([])],false⟩)∧tU6 ((zZl 1 1 0 s.size ([]) (zQk s))∧tU7 (((((dJ (s.size:Int)=dJ ((s.size:Nat):Int))∧((Value.nilIface:Value)=Value.nilIface)∧True)∧True)∧(((0=0)∧(0+s.size=0+s.size)∧True)∧(([])++(zQk s)=[]++zQk s)∧True))∧zQm ⟨AV.tup [aJ ((s.size:Nat):Int),AV.one (Cl.lit Value.nilIface)],[bC [Cl.ptr 0 0,Cl.ref 1 (0+s.size)],Bx.row 5 1 ([]++zQk s)],false⟩))))) ?_
  delta dJ aJ aPz bC
  simp only [sS]
  exact ⟨zKP,⟨rfl,by simp [zQk],by unfold maxLen; omega,by omega⟩,trivial⟩
theorem zXG (l:List Int) (hl:l.length≤1099511627776):AnsG prog 57 0 [AV.one (Cl.d (dS l.length (is l)))] [] ⟨AV.one (Cl.ref 0 ((digW (ints (is l))).length)),[Bx.row 9 1 (strs (digW (ints (is l))))],false⟩:=
 zQy (Γ:=jXK) (Ann.seq Ann.leaf (Ann.seq Ann.leaf (Ann.seq (Ann.seq Ann.leaf (Ann.loop ⟨Nat,fun k=>k≤l.length,fun k=>⟨[(3,AV.one (Cl.ref 1003 (digW (l.take k)).length)),(6,AV.one (Cl.d (dS l.length (is l)))),(7,aJ (l.length:Int)),(8,aJ (k:Int))],[(1003,Bx.row 9 1 (strs (digW (l.take k))))]⟩,fun k=>l.length - k⟩ fun k=>Ann.leaf)) Ann.leaf))) zQs Tryz.func57 rfl (nL rfl) rfl fun hwf hbx=>by
  refine Eq.mpr (by kernel_rfl:_=(let b:=(l.length:Int); let c:=(digW (ints (is l))); let f:=(dS l.length (is l)=dS l.length (is l)); let g:=(dJ b=dJ b); tU5 ((∃ k:Nat,(k≤l.length)∧(((0=(digW (l.take k)).length)∧f∧g∧(dJ 0=dJ (k:Int))∧True)∧(([]=strs (digW (l.take k)))∧True)))∧∀ k:Nat,let h:=(decide ((k:Int) < b)); let a:=(digW (l.take k)); let d:=(nAt (is l) ((k:Int).toNat*1)); let e:=(toS (itoa d)); (k≤l.length)→True∧((h=true→(0≤(k:Int)∧(k:Int) < b∧(k:Int).toNat*1 < (is l).length)∧(((is l)[(k:Int).toNat*1]?=some (dJ d))∧True)∧tU3 ((Ans prog 97 [rJ d] (RV.d (DV.str e)))∧True∧(zZl 1 16 a.length 1 (strs a) ([DV.str e]))∧tU3 (∃ k':Nat,(k'≤l.length)∧(l.length - k' < l.length - k)∧(((a.length+1=(digW (l.take k')).length)∧f∧g∧(dJ (wK ((k:Int)+1))=dJ (k':Int))∧True)∧(((strs a)++([DV.str e])=strs (digW (l.take k')))∧True)))))∧(h=false→tU2 ((((a.length=c.length)∧True)∧((strs a=strs c)∧True))∧zQm ⟨AV.one (Cl.ref 0 c.length),[Bx.row 9 1 (strs c)],false⟩)))))) ?_
  delta dJ wK dS rJ
  simp only [sS]
  clear hwf hbx
  rw [zQO]
  refine ⟨⟨0,Nat.zero_le _,⟨rfl,rfl⟩,rfl⟩,fun k hk=>⟨fun hlt=>?_,fun hge=>?_⟩⟩
  ·have h:k < l.length:=by omega
   have hts:l.take (k+1)=l.take k++[l[k]]:=by rw [List.take_add_one,List.getElem?_eq_getElem h]; rfl
   have wi:IntKind.wrap .i64 ((k:Int)+1)=((k+1:Nat):Int):=by rw [IntWalk.i64_in _ ⟨by omega,by omega⟩]; omega
   have q1:(is l)[k*1]?=some (DV.int .i64 l[k]):=by rw [Nat.mul_one]; simp [is,h]
   have q2:nAt (is l) (k*1)=l[k]:=by unfold nAt; rw [q1]
   rw [q2]
   have hd:∀ k,k≤l.length→(digW (l.take k)).length=k:=fun k hk=>by unfold digW; rw [List.length_map,List.length_take]; omega
   refine ⟨⟨by omega,by omega,by rw [zZc]; omega⟩,q1,jKj _,⟨by rw [zZe]; omega,rfl,by rw [hd k (by omega)]; unfold maxLen; omega,by rw [hd k (by omega)]; omega⟩,k+1,by omega,by omega,⟨by rw [hd k (by omega),hd (k+1) (by omega)],wi⟩,?_⟩
   rw [hts]
   unfold digW strs
   rw [List.map_append,List.map_append]; rfl
  ·have:k=l.length:=by omega
   subst this
   rw [List.take_length]
   exact ⟨⟨rfl,rfl⟩,trivial⟩
theorem zKj (n:Nat) (xs:List DV) (ws:List Lb) (l:List Int) (hn:xs.length=n) (hb:n+(zZq (ws++digW l)).length≤17592186044416) (hl:l.length≤1099511627776) (hw:ws.length≤1099511627776):AnsG prog 26 1 [aPz,AV.one (Cl.ref 1 ws.length),AV.one (Cl.d (dS l.length (is l)))] [bC [Cl.ptr 0 0,Cl.ref 2 n],Bx.row 9 1 (strs ws),Bx.row 5 1 xs] ⟨AV.tup [],[bC [Cl.ptr 0 0,Cl.ref 1 (n+(zZq (zQb (strs ws)++digW (ints (is l)))).length)],Bx.row 5 1 (xs++zQk (toS (zZq (zQb (strs ws)++digW (ints (is l))))))],false⟩:=
 zQy (Γ:=jXK) (let a:=(ws++digW l); let b:=(digW (ints (is l))); Ann.seq (Ann.seq Ann.leaf (Ann.loop ⟨Nat,fun k=>k≤a.length,fun k=>⟨[(0,aPz),(11,AV.one (Cl.ref 11 (ws.length+b.length))),(12,aJ ((ws.length+b.length:Nat):Int)),(13,aJ (k:Int))],[(0,bC [Cl.ptr 0 0,Cl.ref 1002 (n+(zZi (a.take k)).length)]),(11,Bx.row 9 1 ((strs ws)++(strs b))),(1002,Bx.row 5 1 (xs++zQk (toS (zZi (a.take k)))))]⟩,fun k=>a.length - k⟩ fun k=>Ann.leaf)) Ann.leaf) zQs Tryz.func26 rfl (nL rfl) rfl fun hwf hbx=>by
  refine Eq.mpr (by kernel_rfl:_=(let j:=[DV.int .u8 (32:Int)]; let m:=(Cl.lit Value.nilIface); let a:=(ws++digW l); let c:=(digW (ints (is l))).length; let h:=(zZq (zQb (strs ws)++digW (ints (is l)))); let e:=((ws.length+c:Nat):Int); let f:=(strs (digW (ints (is l)))); let i:=((strs ws)++f); let q:=(ws.length+c=ws.length+c); let r:=(dJ e=dJ e); let o:=((strs ws)++f=(strs ws)++f); let p:=fun (k:Nat)=>[bC [Cl.ptr 0 0,Cl.ref 1 (n+(zZi (a.take k)).length)],Bx.row 5 1 (xs++zQk (toS (zZi (a.take k))))]; let s:=fun (k:Nat)=>[Cl.ptr 0 0,Cl.ref 1 ((n+(zZi (a.take k)).length)+1)]; let t:=fun (k:Nat)=>[Bx.cells (s k),Bx.row 5 1 ((xs++zQk (toS (zZi (a.take k))))++j)]; let u:=fun (k:Nat)=>[aPz,AV.one (Cl.d (DV.str (sAt i ((k:Int).toNat*1))))]; let v:=fun (k:Nat)=>[aJ (((sAt i ((k:Int).toNat*1)).size:Nat):Int),AV.one m]; let w:=fun (k':Nat)=>(k'≤a.length); let x:=fun (k:Nat)=>fun (k':Nat)=>(a.length - k' < a.length - k); let y:=fun (k:Nat)=>fun (k':Nat)=>((0=0)∧q∧r∧(dJ (wK ((k:Int)+1))=dJ (k':Int))∧True); tU2 ((AnsG prog 57 0 [AV.one (Cl.d (dS l.length (is l)))] [] ⟨AV.one (Cl.ref 0 c),[Bx.row 9 1 f],false⟩)∧(zZl 1 16 ws.length c (strs ws) f)∧(ws.length+c≤maxLen)∧True∧((∃ k:Nat,(k≤a.length)∧(((0=0)∧q∧r∧(dJ 0=dJ (k:Int))∧True)∧(((0=0)∧(n=n+(zZi (a.take k)).length)∧True)∧o∧(xs=xs++zQk (toS (zZi (a.take k))))∧True)))∧∀ k:Nat,let b:=(sAt i ((k:Int).toNat*1)); let z:=(zZi (a.take k)); let g:=(n+z.length); let d:=(xs++zQk (toS z)); (k≤a.length)→True∧(((decide ((k:Int) < e))=true→True∧(0≤(k:Int)∧(k:Int) < e)∧((i[(k:Int).toNat*1]?=some (DV.str b))∧True)∧tU4 (((decide ((k:Int) > 0))=true→tU3 ((AnsG prog 58 1 [aPz,AV.one (Cl.d (DV.int .u8 (32:Int)))] (p k) ⟨AV.one m,(t k),false⟩)∧tU4 ((AnsG prog 59 1 (u k) (t k) ⟨AV.tup (v k),[bC [Cl.ptr 0 0,Cl.ref 1 ((g+1)+b.size)],Bx.row 5 1 ((d++j)++zQk b)],false⟩)∧tU2 (∃ k':Nat,(w k')∧(x k k')∧((y k k')∧(((0=0)∧((g+1)+b.size=n+(zZi (a.take k')).length)∧True)∧o∧((d++j)++zQk b=xs++zQk (toS (zZi (a.take k'))))∧True))))))∧((decide ((k:Int) > 0))=false→tU4 ((AnsG prog 59 1 (u k) (p k) ⟨AV.tup (v k),[bC [Cl.ptr 0 0,Cl.ref 1 (g+b.size)],Bx.row 5 1 (d++zQk b)],false⟩)∧tU2 (∃ k':Nat,(w k')∧(x k k')∧((y k k')∧(((0=0)∧(g+b.size=n+(zZi (a.take k')).length)∧True)∧o∧(d++zQk b=xs++zQk (toS (zZi (a.take k'))))∧True)))))))∧((decide ((k:Int) < e))=false→tU3 ((AnsG prog 58 1 [aPz,AV.one (Cl.d (DV.int .u8 (10:Int)))] (p k) ⟨AV.one m,[Bx.cells (s k),Bx.row 5 1 (d++[DV.int .u8 (10:Int)])],false⟩)∧((True∧True)∧(((0=0)∧(g+1=n+h.length)∧True)∧(d++[DV.int .u8 (10:Int)]=xs++zQk (toS h))∧True))∧zQm ⟨AV.tup [],[bC [Cl.ptr 0 0,Cl.ref 1 (n+h.length)],Bx.row 5 1 (xs++zQk (toS h))],false⟩))))))) ?_
  delta dJ wK dS aJ aPz bC
  simp only [sS]
  clear hwf hbx
  have hD:(digW l).length=l.length:=by simp [digW]
  have hlb:(zZq (ws++digW l)).length=(zZi (ws++digW l)).length+1:=by simp [zZq]
  have aD:=zXG l hl
  rw [zQO] at aD
  simp only [zQO,zQw,← zWk]
  have hWl:ws.length+(digW l).length=(ws++digW l).length:=by rw [List.length_append]
  obtain ⟨W,hW⟩:∃ W,ws++digW l=W:=⟨_,rfl⟩
  rw [hW] at hlb hb hWl
  try rw [hW] at aD
  simp only [hW]
  have hxb:∀ k,(xs++zQk (toS (zZi (W.take k)))).length=n+(zZi (W.take k)).length:=fun k=>by rw [List.length_append,zKh,zQF,hn]
  refine ⟨aD,⟨by rw [zZe,Nat.mul_one],by rw [zZe,Nat.mul_one],by unfold maxLen; omega,by omega⟩,by unfold maxLen; omega,⟨0,Nat.zero_le _,rfl,by simp [zZi],by simp [zZi,zQk,toS]⟩,fun k hk=>⟨fun hlt=>?_,fun hge=>?_⟩⟩
  ·have h:k < W.length:=by omega
   obtain ⟨q1,q2⟩:=zWz h
   rw [Nat.mul_one,q2]
   have jt:=zGo h
   have jm:=jZZ W (k+1)
   have jk:=hxb k
   have wi:IntKind.wrap .i64 ((k:Int)+1)=((k+1:Nat):Int):=by rw [IntWalk.i64_in _ ⟨by omega,by omega⟩]; omega
   obtain ⟨x,hx⟩:∃ x,W[k]=x:=⟨_,rfl⟩
   rw [hx] at q1 jt
   simp only [hx]
   refine ⟨⟨by omega,by omega⟩,q1,fun hp=>?_,fun hp=>?_⟩
   ·rw [if_neg (by omega)] at jt
    have jl:(zZi (W.take (k+1))).length=(zZi (W.take k)).length+1+x.length:=by rw [jt]; simp; omega
    refine ⟨zZt _ _ 32 jk (by omega),zZz _ _ _ (by rw [List.length_append,jk]; rfl) (by omega) (by rw [zQF]; omega),k+1,by omega,by omega,wi,by rw [zQF,jl]; omega,?_⟩
    rw [jt,b32,List.append_assoc,List.append_assoc,zZD,zZD]; rfl
   ·rw [if_pos (by omega)] at jt
    have hk0:k=0:=by omega
    subst hk0
    have jl:(zZi (W.take (0+1))).length=x.length:=by rw [jt]
    have j0:zZi (W.take 0)=[]:=rfl
    rw [j0] at jk
    rw [j0]
    refine ⟨zZz _ _ _ jk (by simp; omega) (by rw [zQF]; omega),0+1,by omega,by omega,wi,by rw [zQF,jl]; simp,?_⟩
    rw [jt,List.append_assoc,zZD]; rfl
  ·have:k=W.length:=by omega
   subst this
   have jk:=hxb W.length
   rw [List.take_length] at jk ⊢
   refine ⟨zZt _ _ 10 jk (by omega),⟨by rw [hlb]; omega,?_⟩,trivial⟩
   rw [b10,List.append_assoc,zZD]; rfl
theorem zKz (n:Nat) (xs:List DV) (l:List Int) (hn:xs.length=n) (hb:n+(zZq (digW l)).length≤17592186044416) (hl:l.length≤1099511627776):AnsG prog 26 1 [aPz,AV.one (Cl.nil),AV.one (Cl.d (dS l.length (is l)))] [bC [Cl.ptr 0 0,Cl.ref 1 n],Bx.row 5 1 xs] ⟨AV.tup [],[bC [Cl.ptr 0 0,Cl.ref 1 (n+(zZq ([]++digW (ints (is l)))).length)],Bx.row 5 1 (xs++zQk (toS (zZq ([]++digW (ints (is l))))))],false⟩:=
 zQy (Γ:=jXK) (let a:=(digW (ints (is l))); Ann.seq (Ann.seq Ann.leaf (Ann.loop ⟨Nat,fun k=>k≤(digW l).length,fun k=>⟨[(0,aPz),(11,AV.one (Cl.ref 11 a.length)),(12,aJ ((a.length:Nat):Int)),(13,aJ (k:Int))],[(0,bC [Cl.ptr 0 0,Cl.ref 1002 (n+(zZi ((digW l).take k)).length)]),(11,Bx.row 9 1 (strs a)),(1002,Bx.row 5 1 (xs++zQk (toS (zZi ((digW l).take k)))))]⟩,fun k=>(digW l).length - k⟩ fun k=>Ann.leaf)) Ann.leaf) zQs Tryz.func26 rfl (nL rfl) rfl fun hwf hbx=>by
  refine Eq.mpr (by kernel_rfl:_=(let h:=[DV.int .u8 (32:Int)]; let i:=(Cl.lit Value.nilIface); let a:=(digW (ints (is l))); let c:=(strs a); let e:=((a.length:Nat):Int); let g:=(zZq ([]++digW (ints (is l)))); let o:=(a.length=a.length); let p:=(dJ e=dJ e); let j:=(strs a=strs a); let m:=fun (k:Nat)=>[bC [Cl.ptr 0 0,Cl.ref 1 (n+(zZi ((digW l).take k)).length)],Bx.row 5 1 (xs++zQk (toS (zZi ((digW l).take k))))]; let q:=fun (k:Nat)=>[Cl.ptr 0 0,Cl.ref 1 ((n+(zZi ((digW l).take k)).length)+1)]; let r:=fun (k:Nat)=>[Bx.cells (q k),Bx.row 5 1 ((xs++zQk (toS (zZi ((digW l).take k))))++h)]; let s:=fun (k:Nat)=>[aPz,AV.one (Cl.d (DV.str (sAt c ((k:Int).toNat*1))))]; let t:=fun (k:Nat)=>[aJ (((sAt c ((k:Int).toNat*1)).size:Nat):Int),AV.one i]; let u:=fun (k:Nat)=>fun (k':Nat)=>((digW l).length - k' < (digW l).length - k); let v:=fun (k:Nat)=>fun (k':Nat)=>((0=0)∧o∧p∧(dJ (wK ((k:Int)+1))=dJ (k':Int))∧True); tU2 ((AnsG prog 57 0 [AV.one (Cl.d (dS l.length (is l)))] [] ⟨AV.one (Cl.ref 0 a.length),[Bx.row 9 1 c],false⟩)∧(zZl 1 16 0 a.length ([]) c)∧(a.length≤maxLen)∧True∧((∃ k:Nat,(k≤(digW l).length)∧(((0=0)∧o∧p∧(dJ 0=dJ (k:Int))∧True)∧(((0=0)∧(n=n+(zZi ((digW l).take k)).length)∧True)∧j∧(xs=xs++zQk (toS (zZi ((digW l).take k))))∧True)))∧∀ k:Nat,let b:=(sAt c ((k:Int).toNat*1)); let d:=(xs++zQk (toS (zZi ((digW l).take k)))); let f:=(n+(zZi ((digW l).take k)).length); (k≤(digW l).length)→True∧(((decide ((k:Int) < e))=true→True∧(0≤(k:Int)∧(k:Int) < e)∧((c[(k:Int).toNat*1]?=some (DV.str b))∧True)∧tU4 (((decide ((k:Int) > 0))=true→tU3 ((AnsG prog 58 1 [aPz,AV.one (Cl.d (DV.int .u8 (32:Int)))] (m k) ⟨AV.one i,(r k),false⟩)∧tU4 ((AnsG prog 59 1 (s k) (r k) ⟨AV.tup (t k),[bC [Cl.ptr 0 0,Cl.ref 1 ((f+1)+b.size)],Bx.row 5 1 ((d++h)++zQk b)],false⟩)∧tU2 (∃ k':Nat,(k'≤(digW l).length)∧(u k k')∧((v k k')∧(((0=0)∧((f+1)+b.size=n+(zZi ((digW l).take k')).length)∧True)∧j∧((d++h)++zQk b=xs++zQk (toS (zZi ((digW l).take k'))))∧True))))))∧((decide ((k:Int) > 0))=false→tU4 ((AnsG prog 59 1 (s k) (m k) ⟨AV.tup (t k),[bC [Cl.ptr 0 0,Cl.ref 1 (f+b.size)],Bx.row 5 1 (d++zQk b)],false⟩)∧tU2 (∃ k':Nat,(k'≤(digW l).length)∧(u k k')∧((v k k')∧(((0=0)∧(f+b.size=n+(zZi ((digW l).take k')).length)∧True)∧j∧(d++zQk b=xs++zQk (toS (zZi ((digW l).take k'))))∧True)))))))∧((decide ((k:Int) < e))=false→tU3 ((AnsG prog 58 1 [aPz,AV.one (Cl.d (DV.int .u8 (10:Int)))] (m k) ⟨AV.one i,[Bx.cells (q k),Bx.row 5 1 (d++[DV.int .u8 (10:Int)])],false⟩)∧((True∧True)∧(((0=0)∧(f+1=n+g.length)∧True)∧(d++[DV.int .u8 (10:Int)]=xs++zQk (toS g))∧True))∧zQm ⟨AV.tup [],[bC [Cl.ptr 0 0,Cl.ref 1 (n+g.length)],Bx.row 5 1 (xs++zQk (toS g))],false⟩))))))) ?_
  delta dJ wK dS aJ aPz bC
  simp only [sS]
  clear hwf hbx
  have hD:(digW l).length=l.length:=by simp [digW]
  have hlb:(zZq (digW l)).length=(zZi (digW l)).length+1:=by simp [zZq]
  have aD:=zXG l hl
  rw [zQO] at aD
  simp only [zQO,zQw,List.nil_append]
  have hWl:=hD
  obtain ⟨W,hW⟩:∃ W,digW l=W:=⟨_,rfl⟩
  rw [hW] at hlb hb hWl
  try rw [hW] at aD
  simp only [hW]
  have hxb:∀ k,(xs++zQk (toS (zZi (W.take k)))).length=n+(zZi (W.take k)).length:=fun k=>by rw [List.length_append,zKh,zQF,hn]
  refine ⟨aD,⟨rfl,by rw [zZe,Nat.mul_one],by unfold maxLen; omega,by omega⟩,by unfold maxLen; omega,⟨0,Nat.zero_le _,rfl,by simp [zZi],by simp [zZi,zQk,toS]⟩,fun k hk=>⟨fun hlt=>?_,fun hge=>?_⟩⟩
  ·have h:k < W.length:=by omega
   obtain ⟨q1,q2⟩:=zWz h
   rw [Nat.mul_one,q2]
   have jt:=zGo h
   have jm:=jZZ W (k+1)
   have jk:=hxb k
   have wi:IntKind.wrap .i64 ((k:Int)+1)=((k+1:Nat):Int):=by rw [IntWalk.i64_in _ ⟨by omega,by omega⟩]; omega
   obtain ⟨x,hx⟩:∃ x,W[k]=x:=⟨_,rfl⟩
   rw [hx] at q1 jt
   simp only [hx]
   refine ⟨⟨by omega,by omega⟩,q1,fun hp=>?_,fun hp=>?_⟩
   ·rw [if_neg (by omega)] at jt
    have jl:(zZi (W.take (k+1))).length=(zZi (W.take k)).length+1+x.length:=by rw [jt]; simp; omega
    refine ⟨zZt _ _ 32 jk (by omega),zZz _ _ _ (by rw [List.length_append,jk]; rfl) (by omega) (by rw [zQF]; omega),k+1,by omega,by omega,wi,by rw [zQF,jl]; omega,?_⟩
    rw [jt,b32,List.append_assoc,List.append_assoc,zZD,zZD]; rfl
   ·rw [if_pos (by omega)] at jt
    have hk0:k=0:=by omega
    subst hk0
    have jl:(zZi (W.take (0+1))).length=x.length:=by rw [jt]
    have j0:zZi (W.take 0)=[]:=rfl
    rw [j0] at jk
    rw [j0]
    refine ⟨zZz _ _ _ jk (by simp; omega) (by rw [zQF]; omega),0+1,by omega,by omega,wi,by rw [zQF,jl]; simp,?_⟩
    rw [jt,List.append_assoc,zZD]; rfl
  ·have:k=W.length:=by omega
   subst this
   have jk:=hxb W.length
   rw [List.take_length] at jk ⊢
   refine ⟨zZt _ _ 10 jk (by omega),⟨by rw [hlb]; omega,?_⟩,trivial⟩
   rw [b10,List.append_assoc,zZD]; rfl
def jWc:Gam where
 pure:=fun f xs=>
  none
 modes:=fun f=>
  if f=57 then some ([true],0,1) else
  if f=58 then some ([false,true],1,1) else
  if f=59 then some ([false,true],1,1) else
  none
 proc:=fun f xs bs=>
  if f=57 then (match xs,bs with | [AV.one (Cl.d (DV.sl 1 ([DV.int .i64 m])))],[]=>some ⟨AV.one (Cl.ref 0 1),[Bx.row 9 1 ([DV.str (toS (itoa m))])],false⟩ | _,_=>none) else
  if f=58 then gZ49 xs bs else
  if f=59 then gZ50 xs bs else
  none
 iter:=fun f cs=>
  none
theorem zJx (s:ByteArray) (m:Int) (hs:s.size≤1000000) (hm : -9223372036854775808≤m∧m≤9223372036854775807):AnsG prog 26 1 [aPz,AV.one (Cl.ref 1 1),AV.one (Cl.d (dS 1 ([dJ m])))] [bC [Cl.lit (Value.pointer none),Cl.nil],Bx.row 9 1 ([DV.str s])] ⟨AV.tup [],[bC [Cl.ptr 0 0,Cl.ref 1 ((s).size+(32::itoa m++[10]).length)],Bx.row 5 1 (zQk s++zQk (toS (32::itoa m++[10])))],false⟩:=
 zQy (Γ:=jWc) (let a:=(Ann.sure true Ann.leaf); let b:=(11,AV.one (Cl.ref 11 2)); let e:=(cJ 2); let c:=(12,AV.one e); let d:=(11,Bx.row 9 1 ([DV.str s,DV.str (toS (itoa m))])); (Ann.seq (Ann.seq Ann.leaf (Ann.link ⟨Unit,fun _u=>True,fun _u=>⟨[(0,aPz),b,c,(13,aJ 0)],[(0,bC [Cl.lit (Value.pointer none),Cl.nil]),d]⟩,fun _u=>0⟩ (fun _u=>(Ann.seq Ann.leaf (Ann.seq a (Ann.seq (Ann.seq Ann.leaf (Ann.seq (Ann.seq Ann.leaf (Ann.sure false Ann.leaf)) Ann.leaf)) Ann.leaf)))) (Ann.link ⟨Unit,fun _u=>True,fun _u=>⟨[(0,aPz),b,c,(13,aJ 1)],[(0,bC [Cl.ptr 0 0,Cl.ref 201028 (0+s.size)]),d,(201028,Bx.row 5 1 ([]++zQk s))]⟩,fun _u=>0⟩ (fun _u=>(Ann.seq Ann.leaf (Ann.seq a (Ann.seq (Ann.seq Ann.leaf (Ann.seq (Ann.seq Ann.leaf a) Ann.leaf)) Ann.leaf)))) (Ann.link ⟨Unit,fun _u=>True,fun _u=>⟨[(0,aPz),b,c,(13,AV.one e)],[(0,bC [Cl.ptr 0 0,Cl.ref 301028 (((0+s.size)+1)+(toS (itoa m)).size)]),d,(301028,Bx.row 5 1 ((([]++zQk s)++[DV.int .u8 (32:Int)])++zQk (toS (itoa m))))]⟩,fun _u=>0⟩ (fun _u=>(Ann.seq Ann.leaf (Ann.seq (Ann.sure false Ann.leaf) Ann.leaf))) Ann.leaf)))) Ann.leaf)) zQs Tryz.func26 rfl (nL rfl) rfl fun hwf hbx=>by
  refine Eq.mpr (by kernel_rfl:_=(let b:=((0+s.size)+1); let c:=(Cl.lit Value.nilIface); let a:=(toS (itoa m)); let e:=(DV.str a); let f:=(b+a.size); let d:=(([]++zQk s)++[DV.int .u8 (32:Int)]); let g:=(d++zQk a); let i:=[DV.str s,DV.str a]; let h:=(i=i); let j:=[bC [Cl.ptr 0 0,Cl.ref 1 (0+s.size)],Bx.row 5 1 ([]++zQk s)]; let k:=(dJ 2=dJ 2); let l:=[bC [Cl.ptr 0 0,Cl.ref 1 b],Bx.row 5 1 d]; let n:=[bC [Cl.ptr 0 0,Cl.ref 1 f],Bx.row 5 1 g]; tU2 ((AnsG prog 57 0 [AV.one (Cl.d (dS 1 ([dJ m])))] [] ⟨AV.one (Cl.ref 0 1),[Bx.row 9 1 ([DV.str a])],false⟩)∧(zZl 1 16 1 1 ([DV.str s]) ([DV.str a]))∧(2≤maxLen)∧True∧(∃ _u:Unit,True∧(((0=0)∧(2=2)∧(dJ ((2:Nat):Int)=dJ 2)∧(dJ 0=dJ 0)∧True)∧((((Value.pointer none:Value)=Value.pointer none)∧True∧True)∧h∧True)))∧((∀ _u:Unit,True→True∧(decide ((0:Int) < 2)=true∧True∧(0≤(0:Int)∧(0:Int) < ((2:Nat):Int))∧((some (DV.str s)=some (DV.str s))∧True)∧tU4 (decide ((0:Int) > 0)=false∧tU4 ((AnsG prog 59 1 [aPz,AV.one (Cl.d (DV.str s))] [bC [Cl.lit (Value.pointer none),Cl.nil]] ⟨AV.tup [aJ ((s.size:Nat):Int),AV.one c],j,false⟩)∧tU2 (∃ _u:Unit,True∧(((0=0)∧(2=2)∧k∧(dJ (wK ((0:Int)+1))=dJ 1)∧True)∧(((0=0)∧(0+s.size=0+s.size)∧True)∧h∧([]++zQk s=[]++zQk s)∧True)))))))∧(∀ _u:Unit,True→True∧(decide ((1:Int) < 2)=true∧True∧(0≤(1:Int)∧(1:Int) < ((2:Nat):Int))∧((some e=some e)∧True)∧tU4 (decide ((1:Int) > 0)=true∧tU3 ((AnsG prog 58 1 [aPz,AV.one (Cl.d (DV.int .u8 (32:Int)))] j ⟨AV.one c,l,false⟩)∧tU4 ((AnsG prog 59 1 [aPz,AV.one (Cl.d e)] l ⟨AV.tup [aJ ((a.size:Nat):Int),AV.one c],n,false⟩)∧tU2 (∃ _u:Unit,True∧(((0=0)∧(2=2)∧k∧(dJ (wK ((1:Int)+1))=dJ 2)∧True)∧(((0=0)∧(b+a.size=b+a.size)∧True)∧h∧(d++zQk a=d++zQk a)∧True))))))))∧(∀ _u:Unit,True→True∧(decide ((2:Int) < 2)=false∧tU3 ((AnsG prog 58 1 [aPz,AV.one (Cl.d (DV.int .u8 (10:Int)))] n ⟨AV.one c,[bC [Cl.ptr 0 0,Cl.ref 1 (f+1)],Bx.row 5 1 (g++[DV.int .u8 (10:Int)])],false⟩)∧((True∧True)∧(((0=0)∧(f+1=s.size+(32::itoa m++[10]).length)∧True)∧(g++[DV.int .u8 (10:Int)]=zQk s++zQk (toS (32::itoa m++[10])))∧True))∧zQm ⟨AV.tup [],[bC [Cl.ptr 0 0,Cl.ref 1 (s.size+(32::itoa m++[10]).length)],Bx.row 5 1 (zQk s++zQk (toS (32::itoa m++[10])))],false⟩)))∧True)))) ?_
  delta dJ wK dS aJ aPz bC
  simp only [sS]
  have aD:=zXG [m] (by simp)
  have eD:digW (ints (is [m]))=[itoa m]:=by rw [zQO]; rfl
  rw [eD] at aD
  clear hwf hbx
  have hm':=zVh m hm
  have e1:(toS (itoa m)).size=(itoa m).length:=zQF _
  refine ⟨aD,⟨rfl,rfl,by decide,by decide⟩,by decide,⟨(),rfl⟩,⟨by decide,⟨by decide,by decide⟩,by decide,zJW s (by omega),(),by decide⟩,⟨by decide,⟨by decide,by decide⟩,by decide,zZt _ _ 32 (by simp [zQk]) (by omega),zZz _ _ _ (by simp [zQk]) (by omega) (by omega),(),by decide⟩,by decide,zZt _ _ 10 (by simp [zQk]; omega) (by omega),⟨by rw [e1]; simp; omega,?_⟩,trivial⟩
  rw [b32,b10,List.nil_append,List.append_assoc,List.append_assoc,zZD,zZD]; rfl
theorem Oq.eta_ (o:Oq):(⟨o.kind,o.image,o.x,o.y,o.mask,o.mx,o.my,o.opac,o.oper,o.mode,o.iso,o.kno⟩:Oq)=o:=rfl
def jt (ws:List Lb):Lb:=ws.flatMap fun x=>32::x
theorem jYJ (a b:List Lb):jt (a++b)=jt a++jt b:=List.flatMap_append
theorem jZd (w:Lb) (a:List Lb):jt (w::a)=32::w++jt a:=rfl
theorem zKc (w:Lb) (a:List Lb):zZi (w::a)=w++jt a:=rfl
theorem zYC:∀ (l:List Int) (w:Lb),w≠[]→zQH w l=w++jt (digW l)
 | [],w,_=>by simp [zQH,jt,digW]
 | n::l,w,h=>by
  have e:zQH w (n::l)=zQH ((if w=[] then [] else w++[32])++itoa n) l:=rfl
  rw [e,if_neg h,zYC l _ (by simp),show digW (n::l)=itoa n::digW l from rfl,jZd]
  simp
theorem jYH (w:Lb) (a b:List Int):zQH w (a++b)=zQH (zQH w a) b:=List.foldl_append
theorem jVn (n:Int):itoa n≠[]:=fun h=>by
 have:=(zJO n).1
 rw [h] at this
 exact (zWw n.natAbs).2.2.1 this.symm
theorem zZW (w:Lb) (l:List Int) (h:w≠[]):zZq ([w]++digW l)=zQH w l++[10]:=by
 rw [zYC l w h]; rfl
theorem jXF (n:Int) (l:List Int):zZq (digW (n::l))=zQH [] (n::l)++[10]:=by
 have e:zQH [] (n::l)=zQH (itoa n) l:=rfl
 rw [e,zYC l _ (jVn n)]; rfl
theorem zW7 (p:Px):zZq (digW (smpP p))=pxTx p:=jXF _ _
theorem zW6 (m:Im) (h:m.so=true):zZq ([zQY]++digW ([m.w,m.h]++smpP m.c))=imTx m:=by
 rw [zZW _ _ (by decide),jYH]
 unfold imTx; rw [if_pos h]
theorem zGl (o:Oq) (h:o.kind=1):zZq ([zZ0]++digW [o.image,o.x,o.y,o.mask,o.mx,o.my,o.opac]++[ofS (zQn o.oper),ofS (zQe o.mode)])=opLn o:=by
 unfold opLn opTx
 rw [if_pos h,zYC _ _ (by decide)]
 unfold zZq
 rw [List.append_assoc,show ([zZ0]++(digW [o.image,o.x,o.y,o.mask,o.mx,o.my,o.opac]++[ofS (zQn o.oper),ofS (zQe o.mode)]))=zZ0::(digW [o.image,o.x,o.y,o.mask,o.mx,o.my,o.opac]++[ofS (zQn o.oper),ofS (zQe o.mode)]) from rfl,zKc,jYJ]
 simp [zYv,jt]
theorem zGk (o:Oq) (h:o.kind=2):zZq ([zZ1]++digW [o.mask,o.mx,o.my,o.opac]++[ofS (zQn o.oper),ofS (zQe o.mode)]++digW [bitN o.iso,bitN o.kno])=opLn o:=by
 unfold opLn opTx
 rw [if_neg (by omega),if_pos h,zYC _ _ (by decide),zYC _ _ (by simp [zYv])]
 unfold zZq
 rw [List.append_assoc,List.append_assoc,show ∀ r,[zZ1]++r=zZ1::r from fun r=>rfl,zKc,jYJ,jYJ]
 simp [zYv,jt]
theorem zH8 (o:Oq) (h:¬o.kind=1) (h2:¬o.kind=2):zZq [sPop]=opLn o:=by
 unfold opLn opTx
 rw [if_neg h,if_neg h2]; rfl
theorem jYr {l:List Px} {k:Nat} (h:k < l.length):(l.take (k+1)).flatMap pxTx=(l.take k).flatMap pxTx++pxTx l[k]:=by
 rw [List.take_add_one,List.getElem?_eq_getElem h,Option.toList_some,List.flatMap_append]; simp
theorem jK5 (l:List Px) (k:Nat):((l.take k).flatMap pxTx).length≤(l.flatMap pxTx).length:=by
 conv=>rhs; rw [← List.take_append_drop k l,List.flatMap_append]
 simp
theorem writer_line_used' (n:Nat) (xs:List DV) (ws:List Lb) (l:List Int) (hn:xs.length=n) (hb:n+(zZq (ws++digW l)).length≤17592186044416) (hl:l.length≤1099511627776) (hw:ws.length≤1099511627776) :
  AnsG prog 26 1 [AV.one (Cl.ptr 0 0),AV.one (Cl.ref 1 ws.length),AV.one (Cl.d (DV.sl l.length (is l)))] [Bx.cells [Cl.ptr 0 0,Cl.ref 2 n],Bx.row 9 1 (strs ws),Bx.row 5 1 xs]
   ⟨AV.tup [],[Bx.cells [Cl.ptr 0 0,Cl.ref 1 (n+(zZq (ws++digW l)).length)],Bx.row 5 1 (xs++zQk (toS (zZq (ws++digW l))))],false⟩:=by
 have:=zKj n xs ws l hn hb hl hw
 rw [zQO,zQw] at this
 exact this
theorem writer_line_nil' (n:Nat) (xs:List DV) (l:List Int) (hn:xs.length=n) (hb:n+(zZq (digW l)).length≤17592186044416) (hl:l.length≤1099511627776) :
  AnsG prog 26 1 [AV.one (Cl.ptr 0 0),AV.one Cl.nil,AV.one (Cl.d (DV.sl l.length (is l)))] [Bx.cells [Cl.ptr 0 0,Cl.ref 1 n],Bx.row 5 1 xs]
   ⟨AV.tup [],[Bx.cells [Cl.ptr 0 0,Cl.ref 1 (n+(zZq (digW l)).length)],Bx.row 5 1 (xs++zQk (toS (zZq (digW l))))],false⟩:=by
 have:=zKz n xs l hn hb hl
 rw [zQO] at this
 exact this
theorem text_digits' (l:List Int) (hl:l.length≤1099511627776):AnsG prog 57 0 [AV.one (Cl.d (DV.sl l.length (is l)))] [] ⟨AV.one (Cl.ref 0 (digW l).length),[Bx.row 9 1 (strs (digW l))],false⟩:=by
 have:=zXG l hl
 rw [zQO] at this
 exact this
def gZ51 (xs:List AV) (bs:List Bx):Option Ret:=match xs,bs with | [AV.one (Cl.ptr 0 0),AV.one (Cl.ref 1 wn),AV.one (Cl.d (DV.sl kn kxs))],[Bx.cells [Cl.ptr 0 0,Cl.ref 2 n],Bx.row _ _ wxs,Bx.row _ _ xs]=>some ⟨AV.tup [],[bC [Cl.ptr 0 0,Cl.ref 1 (n+(zZq (zQb wxs++digW (ints kxs))).length)],Bx.row 5 1 (xs++zQk (toS (zZq (zQb wxs++digW (ints kxs)))))],false⟩ | [AV.one (Cl.ptr 0 0),AV.one Cl.nil,AV.one (Cl.d (DV.sl kn kxs))],[Bx.cells [Cl.ptr 0 0,Cl.ref 1 n],Bx.row _ _ xs]=>some ⟨AV.tup [],[bC [Cl.ptr 0 0,Cl.ref 1 (n+(zZq ([]++digW (ints kxs))).length)],Bx.row 5 1 (xs++zQk (toS (zZq ([]++digW (ints kxs)))))],false⟩ | [AV.one (Cl.ptr 0 0),AV.one (Cl.ref 1 wn),AV.one (Cl.d (DV.sl kn kxs))],[Bx.cells [Cl.lit (Value.pointer none),Cl.nil],Bx.row _ _ wxs]=>some ⟨AV.tup [],[bC [Cl.ptr 0 0,Cl.ref 1 (0+(zZq (zQb wxs++digW (ints kxs))).length)],Bx.row 5 1 ([]++zQk (toS (zZq (zQb wxs++digW (ints kxs)))))],false⟩ | _,_=>none
def gZ52 (xs:List AV) (bs:List Bx):Option Ret:=match xs,bs with | [AV.one (Cl.ptr 0 0),AV.agg [Cl.d (DV.int _ w),Cl.d (DV.int _ h),Cl.d (DV.bool so),Cl.d (DV.int _ c0),Cl.d (DV.int _ c1),Cl.d (DV.int _ c2),Cl.d (DV.int _ ca),Cl.d (DV.int _ cf),Cl.d (DV.int _ w0),Cl.d (DV.int _ h0),Cl.d (DV.int _ s0),Cl.d (DV.sl n0 xs0),Cl.d (DV.int _ w1),Cl.d (DV.int _ h1),Cl.d (DV.int _ s1),Cl.d (DV.sl n1 xs1),Cl.d (DV.int _ w2),Cl.d (DV.int _ h2),Cl.d (DV.int _ s2),Cl.d (DV.sl n2 xs2),Cl.d (DV.int _ w3),Cl.d (DV.int _ h3),Cl.d (DV.int _ s3),Cl.d (DV.sl n3 xs3),Cl.d (DV.int _ w4),Cl.d (DV.int _ h4),Cl.d (DV.int _ s4),Cl.d (DV.sl n4 xs4)]],[Bx.cells [Cl.ptr 0 0,Cl.ref 1 n],Bx.row _ _ xs]=>some ⟨AV.tup [],[bC [Cl.ptr 0 0,Cl.ref 1 (n+(imTx ⟨w,h,so,⟨c0,c1,c2,ca,cf⟩,⟨w0,h0,s0,n0,xs0⟩,⟨w1,h1,s1,n1,xs1⟩,⟨w2,h2,s2,n2,xs2⟩,⟨w3,h3,s3,n3,xs3⟩,⟨w4,h4,s4,n4,xs4⟩⟩).length)],Bx.row 5 1 (xs++zQk (toS (imTx ⟨w,h,so,⟨c0,c1,c2,ca,cf⟩,⟨w0,h0,s0,n0,xs0⟩,⟨w1,h1,s1,n1,xs1⟩,⟨w2,h2,s2,n2,xs2⟩,⟨w3,h3,s3,n3,xs3⟩,⟨w4,h4,s4,n4,xs4⟩⟩)))],false⟩ | _,_=>none
def gZ53 (xs:List AV) (bs:List Bx):Option Ret:=match xs,bs with | [AV.one (Cl.ptr 0 0),AV.agg [Cl.d (DV.int _ okind),Cl.d (DV.int _ oimage),Cl.d (DV.int _ ox),Cl.d (DV.int _ oy),Cl.d (DV.int _ omask),Cl.d (DV.int _ omx),Cl.d (DV.int _ omy),Cl.d (DV.int _ oopac),Cl.d (DV.int _ ooper),Cl.d (DV.int _ omode),Cl.d (DV.bool oiso),Cl.d (DV.bool okno)]],[Bx.cells [Cl.ptr 0 0,Cl.ref 1 n],Bx.row _ _ xs]=>some ⟨AV.tup [],[bC [Cl.ptr 0 0,Cl.ref 1 (n+(opLn ⟨okind,oimage,ox,oy,omask,omx,omy,oopac,ooper,omode,oiso,okno⟩).length)],Bx.row 5 1 (xs++zQk (toS (opLn ⟨okind,oimage,ox,oy,omask,omx,omy,oopac,ooper,omode,oiso,okno⟩)))],false⟩ | _,_=>none
def jJ3:Gam where
 pure:=fun f xs=>
  if f=55 then gZ1 xs else
  if f=56 then gZ3 xs else
  if f=61 then gZ19 xs else
  if f=60 then gZ32 xs else
  if f=62 then (match xs with | [.d (.bool is_)]=>some (rJ (bitN is_)) | _=>none) else
  none
 modes:=fun f=>
  if f=57 then some ([true],0,1) else
  if f=26 then some ([false,false,true],1,1) else
  if f=27 then some ([false,true],1,1) else
  if f=28 then some ([false,true],1,1) else
  none
 proc:=fun f xs bs=>
  if f=57 then gZ48 xs bs else
  if f=26 then gZ51 xs bs else
  if f=27 then gZ52 xs bs else
  if f=28 then gZ53 xs bs else
  none
 iter:=fun f cs=>
  none
theorem zJn (p:Px):Ans prog 60 [RV.agg [dK p.a,dK p.b,dK p.c,dK p.al,dK p.f]] (RV.d (dS 5 (is (smpP p)))):=
 zQj (Γ:=jJ3) Ann.leaf zQs Tryz.func60 rfl (nL rfl) fun hwf=>by
  refine Eq.mpr (by kernel_rfl:_=(tU3 ((0≤(0:Int)∧(0:Int) < ((3:Nat):Int))∧tU3 ((0≤(1:Int)∧(1:Int) < ((3:Nat):Int))∧tU3 ((0≤(2:Int)∧(2:Int) < ((3:Nat):Int))∧tU2 (tU8 (RV.d (dS 5 ([dJ (wK p.a),dJ (wK p.b),dJ (wK p.c),dJ (wK p.al),dJ (wK p.f)]))=RV.d (dS 5 (is (smpP p)))))))))) ?_
  delta dJ wK dS
  simp only [sS]
  have hmn6:IntKind.min .u16=0:=by decide
  have hmx6:IntKind.max .u16=65535:=by decide
  simp only [RV.wfs,RV.wf,DV.wf,DV.wfs,hmn6,hmx6] at hwf
  have w:∀ n:Int,0≤n∧n≤65535→IntKind.wrap .i64 n=n:=fun n h=>IntWalk.i64_in _ ⟨by omega,by omega⟩
  rw [w p.a (by omega),w p.b (by omega),w p.c (by omega),w p.al (by omega),w p.f (by omega)]
  exact ⟨by decide,by decide,by decide,rfl⟩
theorem zK2 (is_:Bool):Ans prog 62 [RV.d (dQ is_)] (rJ ((bitN is_))):=
 zQj (Γ:=jJ3) Ann.leaf zQs Tryz.func62 rfl (nL rfl) fun hwf=>by
  refine Eq.mpr (by kernel_rfl:_=(tU2 ((is_=true→True∧rJ 1=rJ (bitN is_))∧(is_=false→True∧rJ 0=rJ (bitN is_))))) ?_
  delta rJ
  simp only [sS]
  exact ⟨fun h=>by rw [h]; rfl,fun h=>by rw [h]; rfl⟩
theorem zJz (n:Nat) (xs:List DV) (m:Im) (hn:xs.length=n) (hb:n+(imTx m).length≤17592186044416) (hu:m.isU) (hp:m.pixels.length≤68719476736):AnsG prog 27 1 [aPz,(imD (m))] [bC [Cl.ptr 0 0,Cl.ref 1 n],Bx.row 5 1 xs] ⟨AV.tup [],[bC [Cl.ptr 0 0,Cl.ref 1 (n+(imTx m).length)],Bx.row 5 1 (xs++zQk (toS (imTx m)))],false⟩:=
 zQy (Γ:=jJ3) (Ann.seq Ann.leaf (Ann.seq Ann.leaf (Ann.seq Ann.leaf (Ann.seq Ann.leaf (Ann.loop ⟨Nat,fun k=>k≤m.pixels.length,fun k=>⟨[(0,aPz),(29,AV.one (Cl.ref 29 (Im.pixels m).length)),(30,aJ (((Im.pixels m).length:Nat):Int)),(31,aJ (k:Int))],[(0,bC [Cl.ptr 0 0,Cl.ref 1002 (n+(zQH zQ0 [m.w,m.h]++[10]++(m.pixels.take k).flatMap pxTx).length)]),(29,Bx.row 37 5 (pxs (Im.pixels m))),(1002,Bx.row 5 1 (xs++zQk (toS (zQH zQ0 [m.w,m.h]++[10]++(m.pixels.take k).flatMap pxTx))))]⟩,fun k=>m.pixels.length - k⟩ fun k=>Ann.leaf))))) zQs Tryz.func27 rfl (nL rfl) rfl fun hwf hbx=>by
  refine Eq.mpr (by kernel_rfl:_=(let f:=(is (smpP (m.c:Px))); let t:=[bC [Cl.ptr 0 0,Cl.ref 1 (n+(imTx m).length)],Bx.row 5 1 (xs++zQk (toS (imTx m)))]; let b:=(Im.pixels m); let a:=(pxs b); let d:=((b.length:Nat):Int); let e:=([dJ m.w,dJ m.h]); let g:=(zZq (zQb ([DV.str (⟨#[115,111,108,105,100]⟩:ByteArray)])++digW (ints (e++f)))); let h:=(zZq (zQb ([DV.str (⟨#[105,109,97,103,101]⟩:ByteArray)])++digW (ints e))); let u:=(b.length=b.length); let v:=(dJ d=dJ d); let w:=(pxs b=pxs b); tU3 ((m.so=true→True∧tU8 ((Ans prog 60 [RV.agg [dK m.c.a,dK m.c.b,dK m.c.c,dK m.c.al,dK m.c.f]] (RV.d (dS 5 f)))∧(zZl 1 8 2 5 e f)∧(AnsG prog 26 1 [aPz,AV.one (Cl.ref 1 1),AV.one (Cl.d (dS (2+5) (e++f)))] [bC [Cl.ptr 0 0,Cl.ref 2 n],Bx.row 9 1 ([DV.str (⟨#[115,111,108,105,100]⟩:ByteArray)]),Bx.row 5 1 xs] ⟨AV.tup [],[bC [Cl.ptr 0 0,Cl.ref 1 (n+g.length)],Bx.row 5 1 (xs++zQk (toS g))],false⟩)∧(true=true)∧((True∧True)∧(((0=0)∧(n+g.length=n+(imTx m).length)∧True)∧(xs++zQk (toS g)=xs++zQk (toS (imTx m)))∧True))∧zQm ⟨AV.tup [],t,false⟩))∧(m.so=false→tU7 ((AnsG prog 26 1 [aPz,AV.one (Cl.ref 1 1),AV.one (Cl.d (dS 2 e))] [bC [Cl.ptr 0 0,Cl.ref 2 n],Bx.row 9 1 ([DV.str (⟨#[105,109,97,103,101]⟩:ByteArray)]),Bx.row 5 1 xs] ⟨AV.tup [],[bC [Cl.ptr 0 0,Cl.ref 1 (n+h.length)],Bx.row 5 1 (xs++zQk (toS h))],false⟩)∧True∧(AnsO prog 61 [(imR m)] 37 5 b.length a)∧(b.length≤maxLen)∧True∧((∃ k:Nat,let x:=(zQH zQ0 [m.w,m.h]++[10]++(m.pixels.take k).flatMap pxTx); (k≤m.pixels.length)∧(((0=0)∧u∧v∧(dJ 0=dJ (k:Int))∧True)∧(((0=0)∧(n+h.length=n+x.length)∧True)∧w∧(xs++zQk (toS h)=xs++zQk (toS x))∧True)))∧∀ k:Nat,let j:=(nAt a ((k:Int).toNat*5)); let l:=(nAt a ((k:Int).toNat*5+1+1+1+1)); let o:=(nAt a ((k:Int).toNat*5+1+1+1)); let p:=(nAt a ((k:Int).toNat*5+1+1)); let q:=(nAt a ((k:Int).toNat*5+1)); let r:=(is (smpP (⟨j,q,p,o,l⟩:Px))); let i:=(zZq ([]++digW (ints r))); let c:=(zQH zQ0 [m.w,m.h]++[10]++(m.pixels.take k).flatMap pxTx); let s:=(xs++zQk (toS c)); (k≤m.pixels.length)→True∧(((decide ((k:Int) < d))=true→(0≤(k:Int)∧(k:Int) < d)∧((a[(k:Int).toNat*5]?=some (dK j))∧(a[(k:Int).toNat*5+1]?=some (dK q))∧(a[(k:Int).toNat*5+1+1]?=some (dK p))∧(a[(k:Int).toNat*5+1+1+1]?=some (dK o))∧(a[(k:Int).toNat*5+1+1+1+1]?=some (dK l))∧True)∧tU4 ((Ans prog 60 [RV.agg [dK j,dK q,dK p,dK o,dK l]] (RV.d (dS 5 r)))∧(AnsG prog 26 1 [aPz,AV.one Cl.nil,AV.one (Cl.d (dS 5 r))] [bC [Cl.ptr 0 0,Cl.ref 1 (n+c.length)],Bx.row 5 1 s] ⟨AV.tup [],[bC [Cl.ptr 0 0,Cl.ref 1 ((n+c.length)+i.length)],Bx.row 5 1 (s++zQk (toS i))],false⟩)∧tU2 (∃ k':Nat,let y:=(zQH zQ0 [m.w,m.h]++[10]++(m.pixels.take k').flatMap pxTx); (k'≤m.pixels.length)∧(m.pixels.length - k' < m.pixels.length - k)∧(((0=0)∧u∧v∧(dJ (wK ((k:Int)+1))=dJ (k':Int))∧True)∧(((0=0)∧((n+c.length)+i.length=n+y.length)∧True)∧w∧(s++zQk (toS i)=xs++zQk (toS y))∧True)))))∧((decide ((k:Int) < d))=false→((True∧True)∧(((0=0)∧(n+c.length=n+(imTx m).length)∧True)∧(xs++zQk (toS c)=xs++zQk (toS (imTx m)))∧True))∧zQm ⟨AV.tup [],t,false⟩)))))))) ?_
  delta dJ dK wK dS aPz bC
  simp only [sS]
  clear hwf hbx
  have ls:(⟨#[115,111,108,105,100]⟩:ByteArray)=toS zQY:=rfl
  have li:(⟨#[105,109,97,103,101]⟩:ByteArray)=toS zQ0:=rfl
  have r1:∀ w:Lb,[DV.str (toS w)]=strs [w]:=fun w=>rfl
  have r2:[DV.int .i64 m.w,DV.int .i64 m.h]=is [m.w,m.h]:=rfl
  have r3:is [m.w,m.h]++is (smpP m.c)=is ([m.w,m.h]++smpP m.c):=by simp [is]
  have hl5:∀ p:Px,(smpP p).length=5:=fun p=>rfl
  simp only [ls,li,r1,r2,r3,zQw,zQO,List.nil_append]
  refine ⟨fun h=>?_,fun h=>?_⟩
  ·have e:=zW6 m h
   have aL:=writer_line_used' n xs [zQY] ([m.w,m.h]++smpP m.c) hn (by rw [e]; omega) (by simp [smpP]) (by simp)
   refine ⟨zJn m.c,⟨rfl,rfl,by decide,by decide⟩,aL,?_⟩
   rw [e]
   exact ⟨⟨rfl,rfl⟩,trivial⟩
  ·have e:imTx m=zQH zQ0 [m.w,m.h]++[10]++m.pixels.flatMap pxTx:=by unfold imTx; rw [h]; rfl
   have e0:zZq ([zQ0]++digW [m.w,m.h])=zQH zQ0 [m.w,m.h]++[10]:=zZW _ _ (by decide)
   have hle:=jK5 m.pixels
   have hlen:(imTx m).length=(zQH zQ0 [m.w,m.h]++[10]).length+(m.pixels.flatMap pxTx).length:=by rw [e,List.length_append]
   generalize zQH zQ0 [m.w,m.h]++[10]=H at *
   have aL:=writer_line_used' n xs [zQ0] [m.w,m.h] hn (by rw [e0]; omega) (by simp) (by simp)
   rw [e0] at aL ⊢
   refine ⟨aL,zUd m hu,by unfold maxLen; omega,⟨0,Nat.zero_le _,rfl,by simp,by simp⟩,fun k hk=>⟨fun hlt=>?_,fun hge=>?_⟩⟩
   ·have h:k < m.pixels.length:=by omega
    have wi:IntKind.wrap .i64 ((k:Int)+1)=((k+1:Nat):Int):=by rw [IntWalk.i64_in _ ⟨by omega,by omega⟩]; omega
    obtain ⟨q0,q1,q2,q3,q4⟩:=zWO h
    obtain ⟨a0,a1,a2,a3,a4⟩:=zZr h
    have ht:=jYr h
    have hk1:=hle (k+1)
    have hk0:=hle k
    simp only [a0,a1,a2,a3,a4]
    generalize m.pixels[k]=p at *
    have ep:=zW7 p
    have hxk:(xs++zQk (toS (H++(m.pixels.take k).flatMap pxTx))).length=n+(H++(m.pixels.take k).flatMap pxTx).length:=by rw [List.length_append,zKh,zQF,hn]
    have hlk:(H++(m.pixels.take k).flatMap pxTx).length=H.length+((m.pixels.take k).flatMap pxTx).length:=List.length_append
    rw [ht,List.length_append] at hk1
    have aN:=writer_line_nil' _ _ (smpP p) hxk (by rw [ep]; omega) (by simp [smpP])
    refine ⟨⟨by omega,by omega⟩,⟨q0,q1,q2,q3,q4⟩,zJn p,aN,k+1,by omega,by omega,wi,?_,?_⟩
    ·rw [ep,ht,← List.append_assoc]; simp only [List.length_append]; omega
    ·rw [ep,ht,List.append_assoc,zZD,List.append_assoc]
   ·have:k=m.pixels.length:=by omega
    subst this
    rw [List.take_length,e]
    exact ⟨⟨rfl,rfl⟩,trivial⟩
theorem zKZ (n:Nat) (xs:List DV) (o:Oq) (hn:xs.length=n) (hb:n+(opLn o).length≤17592186044416):AnsG prog 28 1 [aPz,AV.agg [cJ (o.kind),cJ (o.image),cJ (o.x),cJ (o.y),cJ (o.mask),cJ (o.mx),cJ (o.my),cK (o.opac),cJ (o.oper),cJ (o.mode),Cl.d (dQ o.iso),Cl.d (dQ o.kno)]] [bC [Cl.ptr 0 0,Cl.ref 1 n],Bx.row 5 1 xs] ⟨AV.tup [],[bC [Cl.ptr 0 0,Cl.ref 1 (n+(opLn ⟨o.kind,o.image,o.x,o.y,o.mask,o.mx,o.my,o.opac,o.oper,o.mode,o.iso,o.kno⟩).length)],Bx.row 5 1 (xs++zQk (toS (opLn ⟨o.kind,o.image,o.x,o.y,o.mask,o.mx,o.my,o.opac,o.oper,o.mode,o.iso,o.kno⟩)))],false⟩:=
 zQy (Γ:=jJ3) Ann.leaf zQs Tryz.func28 rfl (nL rfl) rfl fun hwf hbx=>by
  refine Eq.mpr (by kernel_rfl:_=(let l:=([dJ (bitN o.iso),dJ (bitN o.kno)]); let h:=[Cl.ptr 0 0,Cl.ref 2 n]; let m:=([dJ o.mask,dJ o.mx,dJ o.my,dJ (wK o.opac)]); let p:=([dJ o.image,dJ o.x,dJ o.y,dJ o.mask,dJ o.mx,dJ o.my,dJ (wK o.opac)]); let b:=(digW (ints p)); let c:=(digW (ints m)); let a:=(opLn ⟨o.kind,o.image,o.x,o.y,o.mask,o.mx,o.my,o.opac,o.oper,o.mode,o.iso,o.kno⟩); let i:=[bC [Cl.ptr 0 0,Cl.ref 1 (n+a.length)],Bx.row 5 1 (xs++zQk (toS a))]; let d:=([DV.str (zQn o.oper),DV.str (zQe o.mode)]); let j:=(([DV.str (⟨#[100,114,97,119]⟩:ByteArray)])++(strs b)); let e:=(zZq (zQb ([DV.str (⟨#[112,111,112]⟩:ByteArray)])++digW (ints ([])))); let f:=(zZq (zQb (j++d)++digW (ints ([])))); let q:=([DV.str (⟨#[112,117,115,104]⟩:ByteArray)]); let k:=(q++(strs c)); let g:=(zZq (zQb (k++d)++digW (ints l))); tU3 ((Ans prog 55 [rJ o.oper] (RV.d (DV.str (zQn o.oper))))∧tU2 ((Ans prog 56 [rJ o.mode] (RV.d (DV.str (zQe o.mode))))∧tU2 ((true=true)∧tU4 (((o.kind==1)=true→tU8 (tU8 ((AnsG prog 57 0 [AV.one (Cl.d (dS 7 p))] [] ⟨AV.one (Cl.ref 0 b.length),[Bx.row 9 1 (strs b)],false⟩)∧tU4 ((zZl 1 16 1 b.length ([DV.str (⟨#[100,114,97,119]⟩:ByteArray)]) (strs b))∧True∧(zZl 1 16 (1+b.length) 2 j d)∧(AnsG prog 26 1 [aPz,AV.one (Cl.ref 1 ((1+b.length)+2)),AV.one (Cl.d (dS 0 ([])))] [bC h,Bx.row 9 1 (j++d),Bx.row 5 1 xs] ⟨AV.tup [],[bC [Cl.ptr 0 0,Cl.ref 1 (n+f.length)],Bx.row 5 1 (xs++zQk (toS f))],false⟩)∧((True∧True)∧(((0=0)∧(n+f.length=n+a.length)∧True)∧(xs++zQk (toS f)=xs++zQk (toS a))∧True))∧zQm ⟨AV.tup [],i,false⟩))))∧((o.kind==1)=false→tU2 (((o.kind==2)=true→tU2 (tU8 ((AnsG prog 57 0 [AV.one (Cl.d (dS 4 m))] [] ⟨AV.one (Cl.ref 0 c.length),[Bx.row 9 1 (strs c)],false⟩)∧tU4 ((zZl 1 16 1 c.length q (strs c))∧True∧(zZl 1 16 (1+c.length) 2 k d)∧tU2 ((Ans prog 62 [RV.d (dQ o.iso)] (rJ (bitN o.iso)))∧tU2 ((Ans prog 62 [RV.d (dQ o.kno)] (rJ (bitN o.kno)))∧True∧(AnsG prog 26 1 [aPz,AV.one (Cl.ref 1 ((1+c.length)+2)),AV.one (Cl.d (dS 2 l))] [bC h,Bx.row 9 1 (k++d),Bx.row 5 1 xs] ⟨AV.tup [],[bC [Cl.ptr 0 0,Cl.ref 1 (n+g.length)],Bx.row 5 1 (xs++zQk (toS g))],false⟩)∧(true=true)∧((True∧True)∧(((0=0)∧(n+g.length=n+a.length)∧True)∧(xs++zQk (toS g)=xs++zQk (toS a))∧True))∧zQm ⟨AV.tup [],i,false⟩))))))∧((o.kind==2)=false→tU2 ((AnsG prog 26 1 [aPz,AV.one (Cl.ref 1 1),AV.one (Cl.d (dS 0 ([])))] [bC h,Bx.row 9 1 ([DV.str (⟨#[112,111,112]⟩:ByteArray)]),Bx.row 5 1 xs] ⟨AV.tup [],[bC [Cl.ptr 0 0,Cl.ref 1 (n+e.length)],Bx.row 5 1 (xs++zQk (toS e))],false⟩)∧((True∧True)∧(((0=0)∧(n+e.length=n+a.length)∧True)∧(xs++zQk (toS e)=xs++zQk (toS a))∧True))∧zQm ⟨AV.tup [],i,false⟩)))))))))) ?_
  delta dJ dQ wK dS rJ aPz bC
  simp only [sS]
  have hmn6:IntKind.min .u16=0:=by decide
  have hmx6:IntKind.max .u16=65535:=by decide
  simp only [AV.wfL,AV.wf,Cl.wfs,DV.wf,hmn6,hmx6] at hwf
  have hop:0≤o.opac∧o.opac≤65535:=by omega
  have wo:IntKind.wrap .i64 o.opac=o.opac:=IntWalk.i64_in _ ⟨by omega,by omega⟩
  clear hwf hbx
  have aO:=zZh o.oper
  have aM:=zZ5 o.mode
  have aI:=zK2 o.iso
  have aK:=zK2 o.kno
  have e1:zQn o.oper=toS (ofS (zQn o.oper)):=(zY7 _).symm
  have e2:zQe o.mode=toS (ofS (zQe o.mode)):=(zY7 _).symm
  have lt:(⟨#[100,114,97,119]⟩:ByteArray)=toS zZ0:=rfl
  have lp:(⟨#[112,117,115,104]⟩:ByteArray)=toS zZ1:=rfl
  have lq:(⟨#[112,111,112]⟩:ByteArray)=toS sPop:=rfl
  have r1:∀ w:Lb,[DV.str (toS w)]=strs [w]:=fun w=>rfl
  have r2:[DV.str (zQn o.oper),DV.str (zQe o.mode)]=strs [ofS (zQn o.oper),ofS (zQe o.mode)]:=by rw [show ∀ a b:Lb,strs [a,b]=[DV.str (toS a),DV.str (toS b)] from fun a b=>rfl,zY7,zY7]
  have i7:[DV.int .i64 o.image,DV.int .i64 o.x,DV.int .i64 o.y,DV.int .i64 o.mask,DV.int .i64 o.mx,DV.int .i64 o.my,DV.int .i64 (IntKind.wrap .i64 o.opac)]=is [o.image,o.x,o.y,o.mask,o.mx,o.my,o.opac]:=by rw [wo]; rfl
  have i4:[DV.int .i64 o.mask,DV.int .i64 o.mx,DV.int .i64 o.my,DV.int .i64 (IntKind.wrap .i64 o.opac)]=is [o.mask,o.mx,o.my,o.opac]:=by rw [wo]; rfl
  have i2:[DV.int .i64 (bitN o.iso),DV.int .i64 (bitN o.kno)]=is [bitN o.iso,bitN o.kno]:=rfl
  have i0:ints []=[]:=rfl
  have d0:digW []=[]:=rfl
  have k1:(o.kind==1)=decide (o.kind=1):=by rw [Bool.eq_iff_iff]; simp
  have k2:(o.kind==2)=decide (o.kind=2):=by rw [Bool.eq_iff_iff]; simp
  have dl:∀ l:List Int,(digW l).length=l.length:=fun l=>by simp [digW]
  simp only [lt,lp,lq,r1,r2,↓i7,↓i4,↓i2,zQO,← zWk,zQw,i0,d0,List.append_nil,k1,k2,decide_eq_true_eq,decide_eq_false_iff_not,Oq.eta_]
  refine ⟨aO,aM,fun h=>?_,fun h=>⟨fun h2=>?_,fun h2=>?_⟩⟩
  ·have e:=zGl o h
   have aL:=writer_line_used' n xs ([zZ0]++digW [o.image,o.x,o.y,o.mask,o.mx,o.my,o.opac]++[ofS (zQn o.oper),ofS (zQe o.mode)]) [] hn (by rw [d0,List.append_nil,e]; omega) (by simp) (by simp [dl])
   rw [d0,List.append_nil] at aL
   rw [show ([zZ0]++digW [o.image,o.x,o.y,o.mask,o.mx,o.my,o.opac]++[ofS (zQn o.oper),ofS (zQe o.mode)]).length=1+(digW [o.image,o.x,o.y,o.mask,o.mx,o.my,o.opac]).length+2 by simp [dl]] at aL
   refine ⟨text_digits' [o.image,o.x,o.y,o.mask,o.mx,o.my,o.opac] (by simp),⟨rfl,by rw [zZe,Nat.mul_one],by simp [dl,maxLen],by simp [dl]⟩,⟨by rw [zZe]; simp; omega,rfl,by simp [dl,maxLen],by simp [dl]⟩,aL,?_⟩
   rw [e]
   exact ⟨⟨rfl,rfl⟩,trivial⟩
  ·have e:=zGk o h2
   have aL:=writer_line_used' n xs ([zZ1]++digW [o.mask,o.mx,o.my,o.opac]++[ofS (zQn o.oper),ofS (zQe o.mode)]) [bitN o.iso,bitN o.kno] hn (by rw [e]; omega) (by simp) (by simp [dl])
   rw [show ([zZ1]++digW [o.mask,o.mx,o.my,o.opac]++[ofS (zQn o.oper),ofS (zQe o.mode)]).length=1+(digW [o.mask,o.mx,o.my,o.opac]).length+2 by simp [dl]] at aL
   refine ⟨text_digits' [o.mask,o.mx,o.my,o.opac] (by simp),⟨rfl,by rw [zZe,Nat.mul_one],by simp [dl,maxLen],by simp [dl]⟩,⟨by rw [zZe]; simp; omega,rfl,by simp [dl,maxLen],by simp [dl]⟩,aI,aK,aL,?_⟩
   rw [e]
   exact ⟨⟨rfl,rfl⟩,trivial⟩
  ·have e:=zH8 o h h2
   have aL:=writer_line_used' n xs [sPop] [] hn (by rw [d0,List.append_nil,e]; omega) (by simp) (by simp)
   rw [d0,List.append_nil] at aL
   refine ⟨aL,?_⟩
   rw [e]
   exact ⟨⟨rfl,rfl⟩,trivial⟩
end
section
open Go.Lib
theorem jQI (l:Lb):strD (zQk (toS l))=toS l:=by
 unfold strD zQk toS
 simp only [List.map_map]
 congr 2
 conv=>rhs; rw [← List.map_id l]
 refine List.map_congr_left fun b _=>?_
 simp [jXi]
theorem jXg {w:World} {V:Nat→Prop}:∀ {l:Lb} {vs:List Value},zZk w V (zQk (toS l)) vs→∀ (j:Nat) (x:UInt8),l[j]?=some x→vs[j]?=some (Value.int .u8 (x.toNat:Int))
 | [],_,_,j,x,h=>by simp at h
 | b::l,[],h,_,_,_=>h.elim
 | b::l,v::vs,h,j,x,hj=>by
  have h1:RepD w V (.int .u8 (b.toNat:Int)) v:=h.1
  have h2:zZk w V (zQk (toS l)) vs:=h.2
  cases j with
  | zero=>
   simp only [List.getElem?_cons_zero,Option.some.injEq] at hj ⊢
   subst hj
   simp only [RepD] at h1
   exact h1.1
  | succ j=>exact jXg h2 j x (by simpa using hj)
set_option maxHeartbeats 1000000 in
set_option maxRecDepth 100000 in
theorem jQH (g g2 cap:Nat) (l:Lb) (cur:Array Value) (w:World) (p:Value) (T:Nat) (h0:l≠[]) (h63:l.length≤9223372036854775807)
  (hg:w.heap[g]?=some (.cells #[p,.slice (some ⟨g2,0,none⟩) l.length cap] T (0,0))) (hr:zJX w g2 cur 5) (hn:l.length≤cap) (hcs:cur.size=cap*1) (hcell:∀ (j:Nat) (x:UInt8),l[j]?=some x→cur[j]?=some (Value.int .u8 (x.toNat:Int))) :
  Calls prog 29 #[.pointer (some ⟨g,0,none⟩)] w fun e w'=>e=.returned (.string (toS l))∧w'=w.drew.freeze ⟨g2,0,none⟩ l.length:=by
 have hl0:l.length≠0:=by simpa using h0
 have c1:w.drew.cell? ⟨g,1,none⟩=some (.slice (some ⟨g2,0,none⟩) l.length cap):=by
  have:w.drew.heap[g]?=some (.cells #[p,.slice (some ⟨g2,0,none⟩) l.length cap] T (0,0)):=hg
  rw [Lib.cell_of_heap this]; rfl
 have hSD:(Builtin.unsafeSliceData_ #[80] 122 #[.slice (some ⟨g2,0,none⟩) l.length cap]).run prog w.drew=.ok (.pointer (some ⟨g2,0,none⟩)) w.drew:=
  Lib.run_unsafeSliceData_row _ _ _ _ _ _ (by omega)
 have hUS:(Builtin.unsafeString_ #[122,3] 9 #[.pointer (some ⟨g2,0,none⟩),.int .i64 l.length]).run prog w.drew=.ok (.string (toS l)) (w.drew.freeze ⟨g2,0,none⟩ l.length):=by
  obtain ⟨m,hm,_⟩:=hr
  have hm':w.drew.heap[g2]?=some (.cells cur 5 m):=hm
  refine Lib.run_unsafeString_row w.drew 122 3 9 5 Tryz.underlying122 (by kernel_rfl) g2 cur.size (by simp [World.shape?,hm']) l h0 (by omega) h63 fun j x hj=>?_
  rw [zZP,Nat.zero_add,cell_of_row w.drew g2 j cur _ m hm']
  exact hcell j x hj
 have mixed:=zQs
 go_enter Tryz.func29,Tryz.ntmps29
 go_wp2
 go_region_o
 all_goals (go_wp2; go_ret; exact ⟨rfl,rfl⟩)
theorem zUA (l:Lb) (h0:l≠[]) (h63:l.length≤9223372036854775807):AnsG prog 29 0 [aPz] [bC [Cl.ptr 0 0,Cl.ref 1 l.length],Bx.row 5 1 (zQk (toS l))] ⟨AV.one (Cl.d (DV.str (toS l))),[],false⟩:=by
 intro w S ι vs hG hh
 obtain ⟨vs⟩:=vs
 have ha:=hh.args
 match vs,ha with
 | [v],ha=>
  simp only [RepAVs,zQv,zQJ,and_true] at ha
  obtain ⟨_,g,c,hι,rfl⟩:=ha
  have hb0:=hh.bx 0
  have hb1:=hh.bx 1
  have e0:zQP [Bx.cells [Cl.ptr 0 0,Cl.ref 1 l.length],Bx.row 5 1 (zQk (toS l))] 0=Bx.cells [Cl.ptr 0 0,Cl.ref 1 l.length]:=rfl
  have e1:zQP [Bx.cells [Cl.ptr 0 0,Cl.ref 1 l.length],Bx.row 5 1 (zQk (toS l))] 1=Bx.row 5 1 (zQk (toS l)):=rfl
  rw [e0] at hb0
  rw [e1] at hb1
  obtain ⟨g',c',cur,T,i1,i2,_,i3⟩:=hb0
  rw [hι] at i1
  simp only [Option.some.injEq,Prod.mk.injEq] at i1
  obtain ⟨rfl,rfl⟩:=i1
  obtain ⟨cur⟩:=cur
  match cur,i3 with
  | [a,b],i3=>
   simp only [zQ1,zQJ,and_true] at i3
   obtain ⟨⟨_,g3,c3,j1,rfl⟩,_,hb⟩:=i3
   rcases hb1 with ⟨_,hb1⟩ | ⟨g2,cap,cur2,k1,k2,k3,k4,k5⟩
   ·exfalso
    cases l with
    | nil=>exact h0 rfl
    | cons b l=>simp [zQk,toS] at hb1
   ·rcases hb with ⟨n1,_⟩ | ⟨g4,cap4,n1,rfl,n2⟩
    ·rw [k1] at n1; cases n1
    ·rw [k1] at n1
     simp only [Option.some.injEq,Prod.mk.injEq] at n1
     obtain ⟨rfl,rfl⟩:=n1
     have hg2:g2 < w.heap.size:=by
      obtain ⟨m,hm,_⟩:=k2
      exact (Array.getElem?_eq_some_iff.1 hm).1
     refine (jQH g g2 cap l cur2 w _ T h0 h63 i2 k2 n2 k4 fun j x hj=>?_).mono ?_
     ·have:=jXg k5 j x hj
      rw [List.getElem?_take] at this
      split at this
      ·simpa using this
      ·cases this
     ·rintro e w' ⟨rfl,rfl⟩
      refine ⟨_,ι,rfl,?_,fun b=>trivial,fun b g c hl=>(by cases hl),fun b b' g c c' hl=>(by cases hl),fun b hb=>absurd hb (by omega),?_⟩
      ·simp only [zQv,zQJ,RepD]
       exact ⟨trivial,by rw [zQF]; unfold maxLen; omega⟩
      ·have hz:¬ l.length=0:=by simpa using h0
       simp only [World.freeze,if_neg hz]
       refine ⟨rfl,rfl,rfl,?_,fun g' hg' hl=>?_⟩
       ·show _≤(Array.modify _ _ _).size
        rw [Array.size_modify]
        exact Nat.le_refl _
       ·have hne:g'≠g2:=fun e=>hl ⟨1,cap,rfl,by rw [e]; exact k1⟩
        show (w.heap.modify g2 _)[g']?=_
        simp [Array.getElem?_modify,Ne.symm hne]
end
section
attribute [local irreducible] Ans AnsO AnsG AnsN AnsI
open Go.Lib
def hd1 (s:Scr):Lb:=zQH zYc [s.bits]++[10]
def hd2 (s:Scr):Lb:=hd1 s++(zQH zZE [s.c.a,s.c.b,s.c.c,s.c.d]++[10])
theorem hd3 (s:Scr):hdTx s=hd2 s++(zQH zXa [s.tw,s.th]++[10]):=by unfold hdTx hd2 hd1; simp only [List.append_assoc]
theorem rowB {a b c:Lb} (h:c=a++b):zQk (toS a)++zQk (toS b)=zQk (toS c):=by rw [h,zZD]
theorem lenB (l:Lb):(zQk (toS l)).length=l.length:=by rw [zKh,zQF]
theorem zYq (H w:Lb) (l:List Int) (r:Lb) (hr:zZq ([w]++digW l)=r) (hb:(H++r).length≤17592186044416) (hl:l.length≤1099511627776) :
  AnsG prog 26 1 [AV.one (Cl.ptr 0 0),AV.one (Cl.ref 1 1),AV.one (Cl.d (DV.sl l.length (is l)))] [Bx.cells [Cl.ptr 0 0,Cl.ref 2 H.length],Bx.row 9 1 (strs [w]),Bx.row 5 1 (zQk (toS H))]
   ⟨AV.tup [],[Bx.cells [Cl.ptr 0 0,Cl.ref 1 (H.length+r.length)],Bx.row 5 1 (zQk (toS H)++zQk (toS r))],false⟩:=by
 have:=writer_line_used' H.length (zQk (toS H)) [w] l (lenB H) (by rw [hr,← List.length_append]; exact hb) hl (by simp)
 rw [hr] at this
 exact this
def jWv:Gam where
 pure:=fun f xs=>
  if f=24 then gZ28 xs else
  if f=25 then gZ47 xs else
  none
 modes:=fun f=>
  if f=29 then some ([false],0,0) else
  if f=26 then some ([false,false,true],1,1) else
  if f=27 then some ([false,true],1,1) else
  if f=28 then some ([false,true],1,1) else
  none
 proc:=fun f xs bs=>
  if f=29 then (match xs,bs with | [AV.one (Cl.ptr 0 0)],[Bx.cells [Cl.ptr 0 0,Cl.ref 1 n],Bx.row _ _ xs]=>some ⟨AV.one (Cl.d (DV.str (strD xs))),[],false⟩ | _,_=>none) else
  if f=26 then gZ51 xs bs else
  if f=27 then gZ52 xs bs else
  if f=28 then gZ53 xs bs else
  none
 iter:=fun f cs=>
  none
theorem zWy (s:Scr) (hM:∀ m∈s.ims,m.isU) (hp:∀ m∈s.ims,m.formed=true→imIn m) (hq:∀ o∈s.ops,0≤o.opac∧o.opac≤65535) (hol:s.ord.length≤17592186044416):Ans prog 11 [RV.agg [dJ s.bits,dJ s.c.a,dJ s.c.b,dJ s.c.c,dJ s.c.d,dJ s.tw,dJ s.th,dS s.ord.length (is s.ord),dS s.ims.length (ims s.ims),dS s.ops.length (ops s.ops)]] (RV.tup [RV.d (DV.str (toS (fmtR s).1)),rJ (((fmtR s).2))]):=
 zQj (Γ:=jWv) (let c:=(1,AV.one (Cl.ptr 1 0)); let d:=(6,AV.one (Cl.ptr 26 0)); let e:=(dS s.ops.length (ops s.ops)); let f:=(Cl.d e); let g:=(dS s.ims.length (ims s.ims)); let a:=(1,bC [cJ s.bits,cJ s.c.a,cJ s.c.b,cJ s.c.c,cJ s.c.d,cJ s.tw,cJ s.th,Cl.d (dS s.ord.length (is s.ord)),Cl.d g,Cl.d e]); let b:=[c,d]; (Ann.seq Ann.leaf (Ann.seq Ann.leaf (Ann.seq (Ann.seq Ann.leaf (Ann.loop ⟨Nat,fun k=>k≤s.ops.length∧(s.ops.take k).all prtO=true,fun k=>⟨[c,(15,AV.one f),(16,aJ (s.ops.length:Int)),(17,aJ (k:Int))],[a]⟩,fun k=>s.ops.length - k⟩ fun k=>Ann.leaf)) (Ann.seq Ann.leaf (Ann.cut ⟨Nat,fun z1=>z1=0,fun z1=>⟨b,[a,(26,bC [Cl.ptr 26 0,Cl.ref 9101 (hd1 s).length]),(9101,Bx.row 5 1 (zQk (toS (hd1 s))))]⟩,fun z1=>0⟩ Ann.leaf fun z1=>(Ann.cut ⟨Nat,fun z2=>z2=0,fun z2=>⟨b,[a,(26,bC [Cl.ptr 26 0,Cl.ref 9102 (hd2 s).length]),(9102,Bx.row 5 1 (zQk (toS (hd2 s))))]⟩,fun z2=>0⟩ Ann.leaf fun z2=>(Ann.cut ⟨Nat,fun z3=>z3=0,fun z3=>⟨b,[a,(26,bC [Cl.ptr 26 0,Cl.ref 9103 (hdTx s).length]),(9103,Bx.row 5 1 (zQk (toS (hdTx s))))]⟩,fun z3=>0⟩ Ann.leaf fun z3=>(Ann.cut ⟨Nat,fun z4=>z4=0,fun z4=>⟨b,[a,(26,bC [Cl.ptr 26 0,Cl.ref 9104 (fmtA s 0).length]),(9104,Bx.row 5 1 (zQk (toS (fmtA s 0))))]⟩,fun z4=>0⟩ Ann.leaf fun z4=>(Ann.seq (Ann.seq Ann.leaf (Ann.loop ⟨Nat,fun i=>i≤s.ims.length,fun i=>⟨[c,d,(67,AV.one (Cl.d g)),(68,aJ (s.ims.length:Int)),(69,aJ (i:Int))],[a,(26,bC [Cl.ptr 26 0,Cl.ref 9002 (fmtA s i).length]),(9002,Bx.row 5 1 (zQk (toS (fmtA s i))))]⟩,fun i=>s.ims.length - i⟩ fun i=>Ann.leaf)) (Ann.seq (Ann.seq Ann.leaf (Ann.loop ⟨Nat,fun j=>j≤s.ops.length,fun j=>⟨[d,(78,AV.one f),(79,aJ (s.ops.length:Int)),(80,aJ (j:Int))],[(26,bC [Cl.ptr 26 0,Cl.ref 9002 (fmtC s j).length]),(9002,Bx.row 5 1 (zQk (toS (fmtC s j))))]⟩,fun j=>s.ops.length - j⟩ fun j=>Ann.leaf)) Ann.leaf))))))))))) zQs Tryz.func11 rfl (nL rfl) fun hwf=>by
  refine Eq.mpr (by kernel_rfl:_=(let w:=(toS (fmtA s 0)); let e:=(Cl.ref 1 1); let w1:=(decide ((s.ord.length:Int) > 0)); let w2:=([dJ s.c.a,dJ s.c.b,dJ s.c.c,dJ s.c.d]); let x:=(zQk (toS (hd2 s))); let y:=(zQk (toS (hd1 s))); let z:=(toS (hdTx s)); let A:=(zQk z); let c:=((0=0)∧(0=0)∧True); let a:=(s.ops.length:Int); let d:=(s.ims.length:Int); let f:=(zZq (zQb ([DV.str (⟨#[99,97,110,118,97,115]⟩:ByteArray)])++digW (ints w2))); let g:=(zZq (zQb ([DV.str (⟨#[116,105,108,101,115]⟩:ByteArray)])++digW (ints ([dJ s.tw,dJ s.th])))); let h:=(zZq (zQb ([DV.str (⟨#[98,105,116,115]⟩:ByteArray)])++digW (ints ([dJ s.bits])))); let l:=(zZq (zQb ([DV.str (⟨#[111,114,100,101,114]⟩:ByteArray)])++digW (ints (is s.ord)))); let B:=(zZX ((sE s):Scr)); let C:=[dJ s.bits,dJ s.c.a,dJ s.c.b,dJ s.c.c,dJ s.c.d,dJ s.tw,dJ s.th,dS s.ord.length (is s.ord),dS s.ims.length (ims s.ims),dS s.ops.length (ops s.ops)]; let w3:=[RV.d (DV.str (⟨#[]⟩:ByteArray)),rJ 19]; let D:=[RV.d (DV.str (toS (fmtR s).1)),rJ (fmtR s).2]; let w4:=fun (k:Nat)=>(k≤s.ops.length∧(s.ops.take k).all prtO=true); let m:=(dS s.ops.length (ops s.ops)=dS s.ops.length (ops s.ops)); let n:=(dJ a=dJ a); let b:=(C=C); let w5:=(b∧True); let w6:=(dS s.ims.length (ims s.ims)=dS s.ims.length (ims s.ims)); let w7:=(dJ d=dJ d); let w8:=fun (j:Nat)=>[bC [Cl.ptr 0 0,Cl.ref 1 (fmtC s j).length],Bx.row 5 1 (zQk (toS (fmtC s j)))]; let w9:=fun (j:Nat)=>(DV.str (strD (zQk (toS (fmtC s j))))); tU4 ((Ans prog 24 [RV.agg C] (RV.d (dQ B)))∧True∧(((!B)=true→tU2 (RV.tup w3=RV.tup D))∧((!B)=false→tU4 ((∃ k:Nat,(w4 k)∧(((0=0)∧m∧n∧(dJ 0=dJ (k:Int))∧True)∧w5))∧∀ k:Nat,let E:=(nAt (ops s.ops) ((k:Int).toNat*12)); let F:=(nAt (ops s.ops) ((k:Int).toNat*12+1)); let G:=(nAt (ops s.ops) ((k:Int).toNat*12+1+1)); let H:=(nAt (ops s.ops) ((k:Int).toNat*12+1+1+1+1+1+1+1+1+1)); let I:=(nAt (ops s.ops) ((k:Int).toNat*12+1+1+1+1+1+1+1+1)); let J:=(nAt (ops s.ops) ((k:Int).toNat*12+1+1+1+1+1+1+1)); let K:=(nAt (ops s.ops) ((k:Int).toNat*12+1+1+1+1+1+1)); let L:=(nAt (ops s.ops) ((k:Int).toNat*12+1+1+1+1+1)); let M:=(nAt (ops s.ops) ((k:Int).toNat*12+1+1+1+1)); let N:=(nAt (ops s.ops) ((k:Int).toNat*12+1+1+1)); let O:=(bAt (ops s.ops) ((k:Int).toNat*12+1+1+1+1+1+1+1+1+1+1+1)); let P:=(bAt (ops s.ops) ((k:Int).toNat*12+1+1+1+1+1+1+1+1+1+1)); let Q:=(prtO (⟨E,F,G,N,M,L,K,J,I,H,P,O⟩:Oq)); (w4 k)→True∧(((decide ((k:Int) < a))=true→(0≤(k:Int)∧(k:Int) < a∧(k:Int).toNat*12 < (ops s.ops).length)∧(((ops s.ops)[(k:Int).toNat*12]?=some (dJ E))∧((ops s.ops)[(k:Int).toNat*12+1]?=some (dJ F))∧((ops s.ops)[(k:Int).toNat*12+1+1]?=some (dJ G))∧((ops s.ops)[(k:Int).toNat*12+1+1+1]?=some (dJ N))∧((ops s.ops)[(k:Int).toNat*12+1+1+1+1]?=some (dJ M))∧((ops s.ops)[(k:Int).toNat*12+1+1+1+1+1]?=some (dJ L))∧((ops s.ops)[(k:Int).toNat*12+1+1+1+1+1+1]?=some (dJ K))∧((ops s.ops)[(k:Int).toNat*12+1+1+1+1+1+1+1]?=some (dK J))∧((ops s.ops)[(k:Int).toNat*12+1+1+1+1+1+1+1+1]?=some (dJ I))∧((ops s.ops)[(k:Int).toNat*12+1+1+1+1+1+1+1+1+1]?=some (dJ H))∧((ops s.ops)[(k:Int).toNat*12+1+1+1+1+1+1+1+1+1+1]?=some (dQ P))∧((ops s.ops)[(k:Int).toNat*12+1+1+1+1+1+1+1+1+1+1+1]?=some (dQ O))∧True)∧tU3 ((Ans prog 25 [RV.agg [dJ E,dJ F,dJ G,dJ N,dJ M,dJ L,dJ K,dK J,dJ I,dJ H,dQ P,dQ O]] (RV.d (dQ Q)))∧True∧(((!Q)=true→tU2 (RV.tup w3=RV.tup D))∧((!Q)=false→tU2 (∃ k':Nat,(k'≤s.ops.length∧(s.ops.take k').all prtO=true)∧(s.ops.length - k' < s.ops.length - k)∧(((0=0)∧m∧n∧(dJ (wK ((k:Int)+1))=dJ (k':Int))∧True)∧w5))))))∧((decide ((k:Int) < a))=false→tU3 ((tU5 ((AnsG prog 26 1 [aPz,AV.one e,AV.one (Cl.d (dS 1 ([dJ s.bits])))] [bC [Cl.lit (Value.pointer none),Cl.nil],Bx.row 9 1 ([DV.str (⟨#[98,105,116,115]⟩:ByteArray)])] ⟨AV.tup [],[bC [Cl.ptr 0 0,Cl.ref 1 (0+h.length)],Bx.row 5 1 ([]++zQk (toS h))],false⟩)∧∃ z1:Nat,(z1=0)∧(c∧(b∧((0=0)∧(0+h.length=(hd1 s).length)∧True)∧([]++zQk (toS h)=zQk (toS (hd1 s)))∧True))))∧∀ z1:Nat,(z1=0)→(tU7 (tU8 ((AnsG prog 26 1 [aPz,AV.one e,AV.one (Cl.d (dS 4 w2))] [bC [Cl.ptr 0 0,Cl.ref 2 (hd1 s).length],Bx.row 9 1 ([DV.str (⟨#[99,97,110,118,97,115]⟩:ByteArray)]),Bx.row 5 1 y] ⟨AV.tup [],[bC [Cl.ptr 0 0,Cl.ref 1 ((hd1 s).length+f.length)],Bx.row 5 1 (y++zQk (toS f))],false⟩)∧∃ z2:Nat,(z2=0)∧(c∧(b∧((0=0)∧((hd1 s).length+f.length=(hd2 s).length)∧True)∧(y++zQk (toS f)=zQk (toS (hd2 s)))∧True)))))∧∀ z2:Nat,(z2=0)→(tU7 ((AnsG prog 26 1 [aPz,AV.one e,AV.one (Cl.d (dS 2 ([dJ s.tw,dJ s.th])))] [bC [Cl.ptr 0 0,Cl.ref 2 (hd2 s).length],Bx.row 9 1 ([DV.str (⟨#[116,105,108,101,115]⟩:ByteArray)]),Bx.row 5 1 x] ⟨AV.tup [],[bC [Cl.ptr 0 0,Cl.ref 1 ((hd2 s).length+g.length)],Bx.row 5 1 (x++zQk (toS g))],false⟩)∧∃ z3:Nat,(z3=0)∧(c∧(b∧((0=0)∧((hd2 s).length+g.length=(hdTx s).length)∧True)∧(x++zQk (toS g)=zQk z)∧True))))∧∀ z3:Nat,(z3=0)→(tU4 ((w1=true→tU4 ((AnsG prog 26 1 [aPz,AV.one e,AV.one (Cl.d (dS s.ord.length (is s.ord)))] [bC [Cl.ptr 0 0,Cl.ref 2 (hdTx s).length],Bx.row 9 1 ([DV.str (⟨#[111,114,100,101,114]⟩:ByteArray)]),Bx.row 5 1 A] ⟨AV.tup [],[bC [Cl.ptr 0 0,Cl.ref 1 ((hdTx s).length+l.length)],Bx.row 5 1 (A++zQk (toS l))],false⟩)∧∃ z4:Nat,(z4=0)∧(c∧(b∧((0=0)∧((hdTx s).length+l.length=(fmtA s 0).length)∧True)∧(A++zQk (toS l)=zQk w)∧True))))∧(w1=false→∃ z4:Nat,(z4=0)∧(c∧(b∧((0=0)∧((hdTx s).length=(fmtA s 0).length)∧True)∧(zQk z=zQk w)∧True)))))∧∀ z4:Nat,(z4=0)→tU4 ((∃ i:Nat,(i≤s.ims.length)∧(((0=0)∧(0=0)∧w6∧w7∧(dJ 0=dJ (i:Int))∧True)∧(b∧((0=0)∧((fmtA s 0).length=(fmtA s i).length)∧True)∧(zQk w=zQk (toS (fmtA s i)))∧True)))∧∀ i:Nat,let R:=(zQk (toS (fmtA s i))); let S:=(nAt (ims s.ims) ((i:Int).toNat*28)); let T:=(nAt (ims s.ims) ((i:Int).toNat*28+1)); let U:=(bAt (ims s.ims) ((i:Int).toNat*28+1+1)); let V:=(nAt (ims s.ims) ((i:Int).toNat*28+1+1+1+1+1+1+1+1+1)); let W:=(nAt (ims s.ims) ((i:Int).toNat*28+1+1+1+1+1+1+1+1)); let X:=(nAt (ims s.ims) ((i:Int).toNat*28+1+1+1+1+1+1+1)); let Y:=(nAt (ims s.ims) ((i:Int).toNat*28+1+1+1+1+1+1)); let Z:=(nAt (ims s.ims) ((i:Int).toNat*28+1+1+1+1+1)); let z0:=(nAt (ims s.ims) ((i:Int).toNat*28+1+1+1+1)); let z5:=(nAt (ims s.ims) ((i:Int).toNat*28+1+1+1)); let o:=((i:Int).toNat*28+1+1+1+1+1+1+1+1+1+1+1+1+1+1+1+1+1+1+1+1+1+1+1+1+1+1+1); let v0:=(dS (lAt (ims s.ims) o) (cAt (ims s.ims) o)); let p:=((i:Int).toNat*28+1+1+1+1+1+1+1+1+1+1+1+1+1+1+1+1+1+1+1+1+1+1+1); let v1:=(dS (lAt (ims s.ims) p) (cAt (ims s.ims) p)); let q:=((i:Int).toNat*28+1+1+1+1+1+1+1+1+1+1+1+1+1+1+1+1+1+1+1); let v2:=(dS (lAt (ims s.ims) q) (cAt (ims s.ims) q)); let r:=((i:Int).toNat*28+1+1+1+1+1+1+1+1+1+1+1+1+1+1+1); let v3:=(dS (lAt (ims s.ims) r) (cAt (ims s.ims) r)); let t:=((i:Int).toNat*28+1+1+1+1+1+1+1+1+1+1+1); let v4:=(dS (lAt (ims s.ims) t) (cAt (ims s.ims) t)); let z6:=(nAt (ims s.ims) ((i:Int).toNat*28+1+1+1+1+1+1+1+1+1+1+1+1+1+1+1+1+1+1+1+1+1+1+1+1+1+1)); let z7:=(nAt (ims s.ims) ((i:Int).toNat*28+1+1+1+1+1+1+1+1+1+1+1+1+1+1+1+1+1+1+1+1+1+1+1+1+1)); let z8:=(nAt (ims s.ims) ((i:Int).toNat*28+1+1+1+1+1+1+1+1+1+1+1+1+1+1+1+1+1+1+1+1+1+1+1+1)); let z9:=(nAt (ims s.ims) ((i:Int).toNat*28+1+1+1+1+1+1+1+1+1+1+1+1+1+1+1+1+1+1+1+1+1+1)); let y0:=(nAt (ims s.ims) ((i:Int).toNat*28+1+1+1+1+1+1+1+1+1+1+1+1+1+1+1+1+1+1+1+1+1)); let y1:=(nAt (ims s.ims) ((i:Int).toNat*28+1+1+1+1+1+1+1+1+1+1+1+1+1+1+1+1+1+1+1+1)); let y2:=(nAt (ims s.ims) ((i:Int).toNat*28+1+1+1+1+1+1+1+1+1+1+1+1+1+1+1+1+1+1)); let y3:=(nAt (ims s.ims) ((i:Int).toNat*28+1+1+1+1+1+1+1+1+1+1+1+1+1+1+1+1+1)); let y4:=(nAt (ims s.ims) ((i:Int).toNat*28+1+1+1+1+1+1+1+1+1+1+1+1+1+1+1+1)); let y5:=(nAt (ims s.ims) ((i:Int).toNat*28+1+1+1+1+1+1+1+1+1+1+1+1+1+1)); let y6:=(nAt (ims s.ims) ((i:Int).toNat*28+1+1+1+1+1+1+1+1+1+1+1+1+1)); let y7:=(nAt (ims s.ims) ((i:Int).toNat*28+1+1+1+1+1+1+1+1+1+1+1+1)); let y8:=(nAt (ims s.ims) ((i:Int).toNat*28+1+1+1+1+1+1+1+1+1+1)); let u:=(imTx ⟨S,T,U,⟨z5,z0,Z,Y,X⟩,⟨W,V,y8,(lAt (ims s.ims) t),(cAt (ims s.ims) t)⟩,⟨y7,y6,y5,(lAt (ims s.ims) r),(cAt (ims s.ims) r)⟩,⟨y4,y3,y2,(lAt (ims s.ims) q),(cAt (ims s.ims) q)⟩,⟨y1,y0,z9,(lAt (ims s.ims) p),(cAt (ims s.ims) p)⟩,⟨z8,z7,z6,(lAt (ims s.ims) o),(cAt (ims s.ims) o)⟩⟩); (i≤s.ims.length)→True∧(((decide ((i:Int) < d))=true→(0≤(i:Int)∧(i:Int) < d∧(i:Int).toNat*28 < (ims s.ims).length)∧(((ims s.ims)[(i:Int).toNat*28]?=some (dJ S))∧((ims s.ims)[(i:Int).toNat*28+1]?=some (dJ T))∧((ims s.ims)[(i:Int).toNat*28+1+1]?=some (dQ U))∧((ims s.ims)[(i:Int).toNat*28+1+1+1]?=some (dK z5))∧((ims s.ims)[(i:Int).toNat*28+1+1+1+1]?=some (dK z0))∧((ims s.ims)[(i:Int).toNat*28+1+1+1+1+1]?=some (dK Z))∧((ims s.ims)[(i:Int).toNat*28+1+1+1+1+1+1]?=some (dK Y))∧((ims s.ims)[(i:Int).toNat*28+1+1+1+1+1+1+1]?=some (dK X))∧((ims s.ims)[(i:Int).toNat*28+1+1+1+1+1+1+1+1]?=some (dJ W))∧((ims s.ims)[(i:Int).toNat*28+1+1+1+1+1+1+1+1+1]?=some (dJ V))∧((ims s.ims)[(i:Int).toNat*28+1+1+1+1+1+1+1+1+1+1]?=some (dJ y8))∧((ims s.ims)[(i:Int).toNat*28+1+1+1+1+1+1+1+1+1+1+1]?=some v4)∧((ims s.ims)[(i:Int).toNat*28+1+1+1+1+1+1+1+1+1+1+1+1]?=some (dJ y7))∧((ims s.ims)[(i:Int).toNat*28+1+1+1+1+1+1+1+1+1+1+1+1+1]?=some (dJ y6))∧((ims s.ims)[(i:Int).toNat*28+1+1+1+1+1+1+1+1+1+1+1+1+1+1]?=some (dJ y5))∧((ims s.ims)[(i:Int).toNat*28+1+1+1+1+1+1+1+1+1+1+1+1+1+1+1]?=some v3)∧((ims s.ims)[(i:Int).toNat*28+1+1+1+1+1+1+1+1+1+1+1+1+1+1+1+1]?=some (dJ y4))∧((ims s.ims)[(i:Int).toNat*28+1+1+1+1+1+1+1+1+1+1+1+1+1+1+1+1+1]?=some (dJ y3))∧((ims s.ims)[(i:Int).toNat*28+1+1+1+1+1+1+1+1+1+1+1+1+1+1+1+1+1+1]?=some (dJ y2))∧((ims s.ims)[(i:Int).toNat*28+1+1+1+1+1+1+1+1+1+1+1+1+1+1+1+1+1+1+1]?=some v2)∧((ims s.ims)[(i:Int).toNat*28+1+1+1+1+1+1+1+1+1+1+1+1+1+1+1+1+1+1+1+1]?=some (dJ y1))∧((ims s.ims)[(i:Int).toNat*28+1+1+1+1+1+1+1+1+1+1+1+1+1+1+1+1+1+1+1+1+1]?=some (dJ y0))∧((ims s.ims)[(i:Int).toNat*28+1+1+1+1+1+1+1+1+1+1+1+1+1+1+1+1+1+1+1+1+1+1]?=some (dJ z9))∧((ims s.ims)[(i:Int).toNat*28+1+1+1+1+1+1+1+1+1+1+1+1+1+1+1+1+1+1+1+1+1+1+1]?=some v1)∧((ims s.ims)[(i:Int).toNat*28+1+1+1+1+1+1+1+1+1+1+1+1+1+1+1+1+1+1+1+1+1+1+1+1]?=some (dJ z8))∧((ims s.ims)[(i:Int).toNat*28+1+1+1+1+1+1+1+1+1+1+1+1+1+1+1+1+1+1+1+1+1+1+1+1+1]?=some (dJ z7))∧((ims s.ims)[(i:Int).toNat*28+1+1+1+1+1+1+1+1+1+1+1+1+1+1+1+1+1+1+1+1+1+1+1+1+1+1]?=some (dJ z6))∧((ims s.ims)[(i:Int).toNat*28+1+1+1+1+1+1+1+1+1+1+1+1+1+1+1+1+1+1+1+1+1+1+1+1+1+1+1]?=some v0)∧True)∧tU4 ((AnsG prog 27 1 [aPz,AV.agg [cJ S,cJ T,Cl.d (dQ U),cK z5,cK z0,cK Z,cK Y,cK X,cJ W,cJ V,cJ y8,Cl.d v4,cJ y7,cJ y6,cJ y5,Cl.d v3,cJ y4,cJ y3,cJ y2,Cl.d v2,cJ y1,cJ y0,cJ z9,Cl.d v1,cJ z8,cJ z7,cJ z6,Cl.d v0]] [bC [Cl.ptr 0 0,Cl.ref 1 (fmtA s i).length],Bx.row 5 1 R] ⟨AV.tup [],[bC [Cl.ptr 0 0,Cl.ref 1 ((fmtA s i).length+u.length)],Bx.row 5 1 (R++zQk (toS u))],false⟩)∧tU2 (∃ i':Nat,(i'≤s.ims.length)∧(s.ims.length - i' < s.ims.length - i)∧(((0=0)∧(0=0)∧w6∧w7∧(dJ (wK ((i:Int)+1))=dJ (i':Int))∧True)∧(b∧((0=0)∧((fmtA s i).length+u.length=(fmtA s i').length)∧True)∧(R++zQk (toS u)=zQk (toS (fmtA s i')))∧True)))))∧((decide ((i:Int) < d))=false→tU4 ((∃ j:Nat,(j≤s.ops.length)∧(((0=0)∧m∧n∧(dJ 0=dJ (j:Int))∧True)∧(((0=0)∧((fmtA s i).length=(fmtC s j).length)∧True)∧(zQk (toS (fmtA s i))=zQk (toS (fmtC s j)))∧True)))∧∀ j:Nat,let y9:=(nAt (ops s.ops) ((j:Int).toNat*12)); let x0:=(nAt (ops s.ops) ((j:Int).toNat*12+1)); let x1:=(nAt (ops s.ops) ((j:Int).toNat*12+1+1)); let x2:=(nAt (ops s.ops) ((j:Int).toNat*12+1+1+1+1+1+1+1+1+1)); let x3:=(nAt (ops s.ops) ((j:Int).toNat*12+1+1+1+1+1+1+1+1)); let x4:=(nAt (ops s.ops) ((j:Int).toNat*12+1+1+1+1+1+1+1)); let x5:=(nAt (ops s.ops) ((j:Int).toNat*12+1+1+1+1+1+1)); let x6:=(nAt (ops s.ops) ((j:Int).toNat*12+1+1+1+1+1)); let x7:=(nAt (ops s.ops) ((j:Int).toNat*12+1+1+1+1)); let x8:=(nAt (ops s.ops) ((j:Int).toNat*12+1+1+1)); let x9:=(bAt (ops s.ops) ((j:Int).toNat*12+1+1+1+1+1+1+1+1+1+1+1)); let w0:=(bAt (ops s.ops) ((j:Int).toNat*12+1+1+1+1+1+1+1+1+1+1)); let v:=(opLn ⟨y9,x0,x1,x8,x7,x6,x5,x4,x3,x2,w0,x9⟩); (j≤s.ops.length)→True∧(((decide ((j:Int) < a))=true→(0≤(j:Int)∧(j:Int) < a∧(j:Int).toNat*12 < (ops s.ops).length)∧(((ops s.ops)[(j:Int).toNat*12]?=some (dJ y9))∧((ops s.ops)[(j:Int).toNat*12+1]?=some (dJ x0))∧((ops s.ops)[(j:Int).toNat*12+1+1]?=some (dJ x1))∧((ops s.ops)[(j:Int).toNat*12+1+1+1]?=some (dJ x8))∧((ops s.ops)[(j:Int).toNat*12+1+1+1+1]?=some (dJ x7))∧((ops s.ops)[(j:Int).toNat*12+1+1+1+1+1]?=some (dJ x6))∧((ops s.ops)[(j:Int).toNat*12+1+1+1+1+1+1]?=some (dJ x5))∧((ops s.ops)[(j:Int).toNat*12+1+1+1+1+1+1+1]?=some (dK x4))∧((ops s.ops)[(j:Int).toNat*12+1+1+1+1+1+1+1+1]?=some (dJ x3))∧((ops s.ops)[(j:Int).toNat*12+1+1+1+1+1+1+1+1+1]?=some (dJ x2))∧((ops s.ops)[(j:Int).toNat*12+1+1+1+1+1+1+1+1+1+1]?=some (dQ w0))∧((ops s.ops)[(j:Int).toNat*12+1+1+1+1+1+1+1+1+1+1+1]?=some (dQ x9))∧True)∧tU4 ((AnsG prog 28 1 [aPz,AV.agg [cJ y9,cJ x0,cJ x1,cJ x8,cJ x7,cJ x6,cJ x5,cK x4,cJ x3,cJ x2,Cl.d (dQ w0),Cl.d (dQ x9)]] (w8 j) ⟨AV.tup [],[bC [Cl.ptr 0 0,Cl.ref 1 ((fmtC s j).length+v.length)],Bx.row 5 1 ((zQk (toS (fmtC s j)))++zQk (toS v))],false⟩)∧tU2 (∃ j':Nat,(j'≤s.ops.length)∧(s.ops.length - j' < s.ops.length - j)∧(((0=0)∧m∧n∧(dJ (wK ((j:Int)+1))=dJ (j':Int))∧True)∧(((0=0)∧((fmtC s j).length+v.length=(fmtC s j').length)∧True)∧((zQk (toS (fmtC s j)))++zQk (toS v)=zQk (toS (fmtC s j')))∧True)))))∧((decide ((j:Int) < a))=false→tU3 ((AnsG prog 29 0 [aPz] (w8 j) ⟨AV.one (Cl.d (w9 j)),[],false⟩)∧tU2 (RV.tup [RV.d (w9 j),rJ 0]=RV.tup D))))))))))))))))) ?_
  delta sE dJ dK dQ cJ cK wK dS rJ aPz bC
  simp only [sS]
  simp only [zQO,zQ2,zQU,zQw,Scr.eta_]
  have hmn:IntKind.min .i64 = -9223372036854775808:=by decide
  have hmx:IntKind.max .i64=9223372036854775807:=by decide
  simp only [RV.wfs,RV.wf,DV.wf,DV.wfs,maxLen,hmn,hmx] at hwf
  have hos:s.ops.length≤9223372036854775807:=by omega
  have hbits : -9223372036854775808≤s.bits∧s.bits≤9223372036854775807:=by omega
  clear hwf hmn hmx
  have hM9:∀ k:Nat,k≤1000000000000→k≤maxLen:=fun k h=>by unfold maxLen; omega
  have lb:(⟨#[98,105,116,115]⟩:ByteArray)=toS zYc:=rfl
  have lc:(⟨#[99,97,110,118,97,115]⟩:ByteArray)=toS zZE:=rfl
  have lt:(⟨#[116,105,108,101,115]⟩:ByteArray)=toS zXa:=rfl
  have lor:(⟨#[111,114,100,101,114]⟩:ByteArray)=toS zZy:=rfl
  have e0:(⟨#[]⟩:ByteArray)=toS []:=rfl
  have r1:∀ w:Lb,[DV.str (toS w)]=strs [w]:=fun w=>rfl
  have j1:∀ a:Int,[DV.int .i64 a]=is [a]:=fun _=>rfl
  have j2:∀ a b:Int,[DV.int .i64 a,DV.int .i64 b]=is [a,b]:=fun _ _=>rfl
  have j4:∀ a b c d:Int,[DV.int .i64 a,DV.int .i64 b,DV.int .i64 c,DV.int .i64 d]=is [a,b,c,d]:=fun _ _ _ _=>rfl
  have b1:zZq ([zYc]++digW [s.bits])=hd1 s:=zZW _ _ (by decide)
  have b2:zZq ([zZE]++digW [s.c.a,s.c.b,s.c.c,s.c.d])=zQH zZE [s.c.a,s.c.b,s.c.c,s.c.d]++[10]:=zZW _ _ (by decide)
  have b3:zZq ([zXa]++digW [s.tw,s.th])=zQH zXa [s.tw,s.th]++[10]:=zZW _ _ (by decide)
  have b4:zZq ([zZy]++digW s.ord)=zQH zZy s.ord++[10]:=zZW _ _ (by decide)
  simp only [e0,lb,lc,lt,lor,r1,↓j4,↓j2,↓j1,zQO,zQw,Scr.eta_,b1,b2,b3,b4,DV.str.injEq,List.nil_append,Nat.zero_add,jQI]
  have no:∀ h:zYz s=false,fmtR s=([],19):=fun h=>by unfold fmtR; rw [if_neg (by rw [h]; decide)]
  refine ⟨zYf s hM hol,fun h=>?_,fun h=>⟨⟨0,⟨Nat.zero_le _,rfl⟩,rfl⟩,fun k hk=>⟨fun hlt=>?_,fun hge=>?_⟩⟩⟩
  ·rw [no (by unfold zYz; rw [h]; rfl)]; exact ⟨rfl,rfl⟩
  ·have hk':k < s.ops.length:=by omega
   obtain ⟨hk1,hk2⟩:=hk
   have q1:=zKu hk'
   have q2:=zKv hk'
   have hml:=zQ6 s.ops
   have aP:=zYA s.ops[k]
   have hm:s.ops[k]∈s.ops:=List.getElem_mem hk'
   have hts:s.ops.take (k+1)=s.ops.take k++[s.ops[k]]:=by rw [List.take_add_one,List.getElem?_eq_getElem hk']; rfl
   obtain ⟨o,ho⟩:∃ o,s.ops[k]=o:=⟨_,rfl⟩
   simp only [ho] at q1 q2 aP hm hts
   have wi:IntKind.wrap .i64 ((k:Int)+1)=((k+1:Nat):Int):=by rw [IntWalk.i64_in _ ⟨by omega,by omega⟩]; omega
   simp only [q2,wi,Oq.eta_]
   refine ⟨⟨by omega,by omega,by omega⟩,q1,aP,fun hp=>?_,fun hp=>⟨k+1,⟨by omega,?_⟩,by omega,rfl⟩⟩
   ·have:s.ops.all prtO=false:=List.all_eq_false.2 ⟨o,hm,by rw [hp]; decide⟩
    rw [no (by unfold zYz; rw [this,Bool.and_false])]; exact ⟨rfl,rfl⟩
   ·rw [hts,List.all_append,hk2]; simp [hp]
  ·have hkk:k=s.ops.length:=by omega
   subst hkk
   have hall:=hk.2
   rw [List.take_length] at hall
   have hok:zYz s=true:=by unfold zYz; rw [h,hall]; rfl
   have eR:fmtR s=(fmtT s,0):=by unfold fmtR; rw [if_pos hok]
   have PP_:=jZD hok
   have hI:∀ m∈s.ims,imIn m:=fun m hm=>hp m hm (PP_.fm m hm)
   obtain ⟨c1,c2,c3,c4⟩:=zWu PP_
   have hAl:=zHe PP_ hI
   have hCl:=jZ8 PP_ hI hq
   have hol:=PP_.ol
   have hil:=PP_.il
   have hpl:=PP_.pl
   have L1:(hd1 s).length≤100:=by unfold hd1; simp; omega
   have L2:(hd2 s).length≤300:=by unfold hd2; simp; omega
   have L3:(hdTx s).length≤500:=by rw [hd3]; simp; omega
   refine ⟨?_,fun z1 _=>⟨?_,fun z2 _=>⟨?_,fun z3 _=>⟨⟨fun g=>?_,fun g=>?_⟩,fun z4 _=>⟨?_,fun i hi=>⟨fun hlt=>?_,fun hge=>?_⟩⟩⟩⟩⟩⟩
   ·refine ⟨?_,0,rfl,trivial,trivial⟩
    have:=zJx (toS zYc) s.bits (by decide) hbits
    have e:hd1 s=zYc++(32::itoa s.bits++[10]):=by unfold hd1; rw [zYC _ _ (by decide)]; simp [jt,digW]
    rw [zZD,← e,zQF,← List.length_append,← e] at this
    exact this
   ·exact ⟨zYq (hd1 s) zZE [s.c.a,s.c.b,s.c.c,s.c.d] _ b2 (by show (hd2 s).length≤_; omega) (by simp),0,rfl,(by show _=(hd1 s++_).length; exact List.length_append.symm),rowB rfl⟩
   ·exact ⟨zYq (hd2 s) zXa [s.tw,s.th] _ b3 (by rw [← hd3]; omega) (by simp),0,rfl,(by rw [hd3]; exact List.length_append.symm),rowB (hd3 s)⟩
   ·have e:fmtA s 0=hdTx s++(zQH zZy s.ord++[10]):=by unfold fmtA orTx; rw [if_pos (by omega)]; simp
    have hA0:=hAl 0
    exact ⟨zYq (hdTx s) zZy s.ord _ b4 (by rw [← e]; omega) (by omega),0,rfl,(by rw [e]; exact List.length_append.symm),rowB e⟩
   ·have e:fmtA s 0=hdTx s:=by unfold fmtA orTx; rw [if_neg (by omega)]; simp
    rw [e]; exact ⟨0,rfl,rfl,rfl⟩
   ·exact ⟨0,Nat.zero_le _,rfl,rfl,rfl⟩
   ·have hk:i < s.ims.length:=by omega
    obtain ⟨m,hmk⟩:∃ m,s.ims[i]=m:=⟨_,rfl⟩
    have q1:=zVZ hk
    have q2:=zV0 hk
    have eS:=jQl hk
    have hm:m∈s.ims:=hmk ▸ List.getElem_mem hk
    simp only [hmk] at q1 q2 eS
    clear hmk
    have w1:IntKind.wrap .i64 ((i:Int)+1)=((i+1:Nat):Int):=by rw [IntWalk.i64_in _ ⟨by omega,by omega⟩]; omega
    have hIk:=hI _ hm
    have hfm:=hIk.1
    have hpl:m.pixels.length≤16777216:=by have h1:=Im.pixels_len hfm; have:=(sizeIm_le' hfm); omega
    have hA1:=hAl (i+1)
    rw [eS,List.length_append] at hA1
    have aI:=zJz (fmtA s i).length (zQk (toS (fmtA s i))) m (lenB _) (by omega) (hM _ hm) (by omega)
    have iml:=zZC s.ims
    simp only [q2,w1]
    refine ⟨⟨by omega,by omega,by omega⟩,q1,aI,i+1,by omega,by omega,rfl,(by rw [eS]; exact List.length_append.symm),rowB eS⟩
   ·have:i=s.ims.length:=by omega
    subst this
    refine ⟨⟨0,Nat.zero_le _,rfl,by unfold fmtC; simp,by unfold fmtC; simp⟩,fun j hj=>⟨fun hlt=>?_,fun hge=>?_⟩⟩
    ·have hj:j < s.ops.length:=by omega
     obtain ⟨o,hoj⟩:∃ o,s.ops[j]=o:=⟨_,rfl⟩
     have q1:=zKu hj
     have q2:=zKv hj
     have eS:=jQk hj
     have hm:o∈s.ops:=hoj ▸ List.getElem_mem hj
     simp only [hoj] at q1 q2 eS
     clear hoj
     have w1:IntKind.wrap .i64 ((j:Int)+1)=((j+1:Nat):Int):=by rw [IntWalk.i64_in _ ⟨by omega,by omega⟩]; omega
     have hC1:=hCl (j+1)
     rw [eS,List.length_append] at hC1
     have aX:=zKZ (fmtC s j).length (zQk (toS (fmtC s j))) o (lenB _) (by omega)
     simp only [Oq.eta_] at aX
     have hml:=zQ6 s.ops
     simp only [q2,w1,Oq.eta_]
     refine ⟨⟨by omega,by omega,by omega⟩,q1,aX,j+1,by omega,by omega,rfl,(by rw [eS]; exact List.length_append.symm),rowB eS⟩
    ·have:j=s.ops.length:=by omega
     subst this
     have hne:fmtC s s.ops.length≠[]:=by
      rw [zHd]; unfold fmtT hdTx
      rw [zYC _ _ (by decide)]; simp [zYc]
     have hCe:=hCl s.ops.length
     refine ⟨zUA _ hne (by omega),?_⟩
     rw [eR,zHd]
     exact ⟨rfl,rfl⟩
end
section
open Go.Lib
def Step (s:LQ→LQ) (P:Lb→Bool):Prop:=(∀ w r b,s ⟨w::r,b⟩=⟨r,b || !P w⟩)∧∀ b,s ⟨[],b⟩=⟨[],true⟩
def allP:List (Lb→Bool)→List Lb→Bool
 | [],[]=>true
 | P::Ps,w::ws=>P w && allP Ps ws
 | _,_=>false
inductive jJk:List (LQ→LQ)→List (Lb→Bool)→Prop
 | nil:jJk [] []
 | cons {s:LQ→LQ} {P:Lb→Bool} {ss:List (LQ→LQ)} {Ps:List (Lb→Bool)}:Step s P→jJk ss Ps→jJk (s::ss) (P::Ps)
def jKe (ss:List (LQ→LQ)) (q:LQ):LQ:=ss.foldl (fun q s=>s q) q
theorem zJi {ss:List (LQ→LQ)} {Ps:List (Lb→Bool)} (h:jJk ss Ps):∀ (ws:List Lb) (b:Bool),cmpQ (jKe ss ⟨ws,b⟩)=(!b && allP Ps ws):=by
 induction h with
 | nil=>intro ws b; cases ws <;> simp [jKe,cmpQ,allP]
 | @cons s P ss Ps hs _ ih=>
  intro ws b
  have e:jKe (s::ss) ⟨ws,b⟩=jKe ss (s ⟨ws,b⟩):=rfl
  rw [e]
  cases ws with
  | nil=>rw [hs.2,ih]; simp [allP]
  | cons w r=>rw [hs.1,ih]; simp [allP]; cases b <;> cases P w <;> rfl
theorem zZN (lo hi:Int):Step (fun q=>(numQ q lo hi).2) (okN lo hi):=by
 refine ⟨fun w r b=>?_,fun b=>?_⟩
 ·show (numQ ⟨w::r,b⟩ lo hi).2=_
  unfold numQ
  cases h:okN lo hi w with
  | true=>rw [if_pos (show okN lo hi (zZx (w::r))=true from h)]; simp [zZS]
  | false=>rw [if_neg (by show ¬okN lo hi w=true; rw [h]; decide)]; simp
 ·show (numQ ⟨[],b⟩ lo hi).2=_
  unfold numQ
  rw [if_neg (by show ¬okN lo hi []=true; simp [okN,zYb,unsg])]
  rfl
theorem jZT (g:Int→ByteArray):Step (fun q=>(namQ g q).2) (fun w=>(nmR g w).2):=by
 refine ⟨fun w r b=>?_,fun b=>?_⟩
 ·show (namQ g ⟨w::r,b⟩).2=_
  simp [namQ,zZS,zZx]
 ·show (namQ g ⟨[],b⟩).2=_
  simp [namQ,zZS]
theorem zZn {lo hi:Int} {w:Lb} (h:okN lo hi w=true) (r:List Lb) (b:Bool):numQ ⟨w::r,b⟩ lo hi=(numV w,⟨r,b⟩):=by
 unfold numQ
 rw [if_pos (show okN lo hi (zZx (w::r))=true from h)]
 simp [zZS,zZx]
theorem zG5 {g:Int→ByteArray} {w:Lb} (h:(nmR g w).2=true) (r:List Lb) (b:Bool):namQ g ⟨w::r,b⟩=((nmR g w).1,⟨r,b⟩):=by
 simp [namQ,zZS,zZx,h]
def p5:List (Lb→Bool):=[okN 0 65535,okN 0 65535,okN 0 65535,okN 0 65535,okN 0 65535]
theorem zHX:jJk [fun q=>(numQ q 0 65535).2,fun q=>(numQ q 0 65535).2,fun q=>(numQ q 0 65535).2,fun q=>(numQ q 0 65535).2,fun q=>(numQ q 0 65535).2] p5:=
 .cons (zZN _ _) (.cons (zZN _ _) (.cons (zZN _ _) (.cons (zZN _ _) (.cons (zZN _ _) .nil))))
theorem jYu (ws:List Lb):allP p5 ws=(pixW ws).2:=by
 rcases ws with _ | ⟨a,_ | ⟨b,_ | ⟨c,_ | ⟨d,_ | ⟨e,_ | ⟨f,r⟩⟩⟩⟩⟩⟩
 case cons.cons.cons.cons.cons.nil=>
  by_cases h:[a,b,c,d,e].all (okN 0 65535)=true
  ·rw [zWU h]
   simpa [allP,p5] using h
  ·rw [zWn (fun g=>h g.1)]
   cases hh:allP p5 [a,b,c,d,e] with
   | false=>rfl
   | true=>exact absurd (by simpa [allP,p5] using hh) h
 all_goals
  rw [zWn (fun g=>by simp at g)]
  simp [allP,p5]
theorem jZG (ws:List Lb):cmpQ (pixQ ⟨ws,false⟩).2=(pixW ws).2∧((pixW ws).2=true→(pixQ ⟨ws,false⟩).1=(pixW ws).1):=by
 refine ⟨?_,fun h=>?_⟩
 ·rw [← jYu]
  have:=zJi zHX ws false
  rw [Bool.not_false,Bool.true_and] at this
  exact this
 ·have h0:=h
  rw [← jYu] at h0
  rcases ws with _ | ⟨a,_ | ⟨b,_ | ⟨c,_ | ⟨d,_ | ⟨e,_ | ⟨f,r⟩⟩⟩⟩⟩⟩
  case cons.cons.cons.cons.cons.nil=>
   have hA:[a,b,c,d,e].all (okN 0 65535)=true:=by simpa [allP,p5] using h0
   rw [zWU hA]
   simp only [allP,p5,Bool.and_eq_true] at h0
   obtain ⟨h1,h2,h3,h4,h5,_⟩:=h0
   unfold pixQ
   rw [zZn h1]; simp only
   rw [zZn h2]; simp only
   rw [zZn h3]; simp only
   rw [zZn h4]; simp only
   rw [zZn h5]
  all_goals simp [allP,p5] at h0
structure Sim (p:PP) (r:RP):Prop where
  s:p.s=r.s
  d0:0≤p.part
  d5:p.part≤5
  hd:r.hd=if p.part≤3 then p.part else 3
  rp:r.part=if p.part≤3 then 0 else p.part - 3
  od:p.part≤3→p.s.ord=[]
  pt:∀ o∈p.s.ops,prtO o=true
  inn:(p.h=0∧r.left=0∧p.px=[]∧r.px=[])∨(1≤p.w∧1≤p.h∧p.w=r.w∧p.h=r.h∧p.px=r.px∧p.part=4∧r.left=p.w*p.h - (p.px.length:Int)∧0 < r.left)
theorem jYa:Sim zPP zRP:=⟨rfl,by decide,by decide,by decide,by decide,fun _=>rfl,fun o h=>(by cases h),.inl ⟨rfl,rfl,rfl,rfl⟩⟩
theorem jYb {p:PP} {r:RP} (h:Sim p r) (ws:List Lb) (hin:0 < p.h) :
  let R:RP × Bool:=if r.left=1 then ({ r with left:=0,s:={ r.s with ims:=r.s.ims++[imOf r.w r.h (r.px++[(pixW ws).1])] },px:=[] },(pixW ws).2)
   else ({ r with left:=r.left - 1,px:=r.px++[(pixW ws).1] },(pixW ws).2)
  (zZJ p ⟨ws,false⟩).2=R.2∧((zZJ p ⟨ws,false⟩).2=true→Sim (zZJ p ⟨ws,false⟩).1 R.1):=by
 obtain ⟨e1,e2⟩:=jZG ws
 rcases h.inn with h0 | ⟨i1,i2,i3,i4,i5,i6,i7,i8⟩
 ·omega
 have R2:(if r.left=1 then ({ r with left:=0,s:={ r.s with ims:=r.s.ims++[imOf r.w r.h (r.px++[(pixW ws).1])] },px:=[] },(pixW ws).2)
   else (({ r with left:=r.left - 1,px:=r.px++[(pixW ws).1] },(pixW ws).2):RP × Bool)).2=(pixW ws).2:=by split <;> rfl
 cases hc:(pixW ws).2 with
 | false=>
  have:zZJ p ⟨ws,false⟩=({ p with px:=p.px++[(pixQ ⟨ws,false⟩).1] },false):=by unfold zZJ; rw [if_neg (by rw [e1,hc]; decide)]
  rw [this]
  refine ⟨?_,fun h=>by cases h⟩
  rw [hc] at R2
  exact R2.symm
 | true=>
  have e2:=e2 hc
  by_cases hl:r.left=1
  ·have:zZJ p ⟨ws,false⟩=(⟨{ p.s with ims:=p.s.ims++[imOf p.w p.h (p.px++[(pixW ws).1])] },p.part,0,0,[]⟩,true):=by
    unfold zZJ; rw [if_pos (by rw [e1,hc]),if_pos (by omega),e2]
   rw [this]
   simp only [if_pos hl]
   refine ⟨trivial,fun _=>⟨?_,h.d0,h.d5,h.hd,h.rp,h.od,h.pt,.inl ⟨rfl,rfl,rfl,rfl⟩⟩⟩
   rw [h.s,i3,i4,i5]
  ·have:zZJ p ⟨ws,false⟩=({ p with px:=p.px++[(pixW ws).1] },true):=by
    unfold zZJ; rw [if_pos (by rw [e1,hc]),if_neg (by omega),e2]
   rw [this]
   simp only [if_neg hl]
   refine ⟨trivial,fun _=>⟨h.s,h.d0,h.d5,h.hd,h.rp,h.od,h.pt,.inr ⟨i1,i2,i3,i4,by rw [i5],i6,?_,by show 0 < r.left - 1; omega⟩⟩⟩
   show r.left - 1=p.w*p.h - (((p.px++[(pixW ws).1]).length:Nat):Int)
   simp
   omega
theorem jJ0 (r:List Lb):cmpQ (byQ ⟨r,false⟩).2=allP [okN 0 255] r:=by
 have:=zJi (.cons (zZN 0 255) .nil) r false
 rw [Bool.not_false,Bool.true_and] at this
 exact this
theorem jYR (r:List Lb):cmpQ (plQ (plQ (plQ (plQ ⟨r,false⟩).2).2).2).2=allP [okN (-2147483648) 2147483647,okN (-2147483648) 2147483647,okN (-2147483648) 2147483647,okN (-2147483648) 2147483647] r:=by
 have:=zJi (.cons (zZN (-2147483648) 2147483647) (.cons (zZN (-2147483648) 2147483647) (.cons (zZN (-2147483648) 2147483647) (.cons (zZN (-2147483648) 2147483647) .nil)))) r false
 rw [Bool.not_false,Bool.true_and] at this
 exact this
theorem jJZ (r:List Lb):cmpQ (numQ (numQ ⟨r,false⟩ 0 4294967295).2 0 4294967295).2=allP [okN 0 4294967295,okN 0 4294967295] r:=by
 have:=zJi (.cons (zZN 0 4294967295) (.cons (zZN 0 4294967295) .nil)) r false
 rw [Bool.not_false,Bool.true_and] at this
 exact this
theorem jZR {w:Lb} {lo hi:Int} (h:okN lo hi w=true):(numR w lo hi).1=numV w:=by
 have:zYb w=true:=by unfold okN at h; simp only [Bool.and_eq_true] at h; exact h.1.1
 unfold numR; rw [this]; rfl
theorem jJp {p:PP} {r:RP} (h:Sim p r) (k:Lb) (ws:List Lb) (hp:p.part≤2) :
  (zXn p ⟨ws,false⟩ k).2=(zQE { r with hd:=r.hd+1 } (k::ws)).2∧((zXn p ⟨ws,false⟩ k).2=true→Sim (zXn p ⟨ws,false⟩ k).1 (zQE { r with hd:=r.hd+1 } (k::ws)).1):=by
 have hd:r.hd=p.part:=by rw [h.hd,if_pos (by omega)]
 have hod:=h.od (by omega)
 have d0:=h.d0
 have hrp:=h.rp
 rw [if_pos (by omega)] at hrp
 have hin:p.h=0∧r.left=0∧p.px=[]∧r.px=[]:=by
  rcases h.inn with h0 | ⟨_,_,_,_,_,i6,_,_⟩
  ·exact h0
  ·omega
 have hs:=h.s
 unfold zXn
 by_cases h0:p.part=0
 ·rw [if_pos h0,jJ0]
  have hr1:({ r with hd:=r.hd+1 }:RP).hd=1:=by show r.hd+1=1; omega
  rcases ws with _ | ⟨a,_ | ⟨b,ws⟩⟩
  ·have e:zQE { r with hd:=r.hd+1 } [k]=({ r with hd:=r.hd+1 },false):=by unfold zQE; rw [if_pos hr1,if_neg (by simp)]
   rw [e]; simp [allP]
  ·by_cases hk:k=zYc
   ·subst hk
    have e:zQE { r with hd:=r.hd+1 } [zYc,a]=({ r with hd:=r.hd+1,s:={ r.s with bits:=(numR a 0 255).1 } },(numR a 0 255).2):=by unfold zQE; rw [if_pos hr1,if_pos ⟨rfl,rfl⟩]; rfl
    rw [e]
    have e2:(numR a 0 255).2=okN 0 255 a:=rfl
    rw [e2]
    refine ⟨by simp [allP],fun hh=>?_⟩
    have ha:okN 0 255 a=true:=by simpa [allP] using hh
    have ev:(byQ ⟨[a],false⟩).1=numV a:=by unfold byQ; rw [zZn ha]
    refine ⟨?_,by show 0≤p.part+1; omega,by show p.part+1≤5; omega,?_,?_,fun _=>hod,h.pt,.inl hin⟩
    ·show ({ p.s with bits:=(byQ ⟨[a],false⟩).1 }:Scr)={ r.s with bits:=(numR a 0 255).1 }
     rw [ev,jZR ha,hs]
    ·show r.hd+1=if p.part+1≤3 then p.part+1 else 3
     rw [if_pos (by omega)]; omega
    ·show r.part=if p.part+1≤3 then 0 else p.part+1 - 3
     rw [if_pos (by omega)]; exact hrp
   ·have e:zQE { r with hd:=r.hd+1 } [k,a]=({ r with hd:=r.hd+1 },false):=by unfold zQE; rw [if_pos hr1,if_neg (fun g=>hk g.2)]
    rw [e]; simp [hk]
  ·have e:zQE { r with hd:=r.hd+1 } (k::a::b::ws)=({ r with hd:=r.hd+1 },false):=by unfold zQE; rw [if_pos hr1,if_neg (by simp)]
   rw [e]; simp [allP]
 ·have hr1:¬({ r with hd:=r.hd+1 }:RP).hd=1:=by show ¬r.hd+1=1; omega
  rw [if_neg h0]
  by_cases h1:p.part=1
  ·rw [if_pos h1]
   have hr2:({ r with hd:=r.hd+1 }:RP).hd=2:=by show r.hd+1=2; omega
   simp only [jYR]
   have e:zQE { r with hd:=r.hd+1 } (k::ws)=(if (s32 ws).2=true∧(s32 ws).1.length=4∧k=zZE then ({ r with hd:=r.hd+1,s:={ r.s with c:=⟨iAt (s32 ws).1 0,iAt (s32 ws).1 1,iAt (s32 ws).1 2,iAt (s32 ws).1 3⟩ } },true) else ({ r with hd:=r.hd+1 },false)):=by unfold zQE; rw [if_neg hr1,if_pos hr2]; rfl
   rw [e]
   by_cases hA:allP [okN (-2147483648) 2147483647,okN (-2147483648) 2147483647,okN (-2147483648) 2147483647,okN (-2147483648) 2147483647] ws=true
   ·rcases ws with _ | ⟨a,_ | ⟨b,_ | ⟨c,_ | ⟨d,_ | ⟨f,ws⟩⟩⟩⟩⟩
    case cons.cons.cons.cons.nil=>
     simp only [allP,Bool.and_eq_true,and_true] at hA
     obtain ⟨a1,a2,a3,a4⟩:=hA
     have hall:[a,b,c,d].all (okN (-2147483648) 2147483647)=true:=by simp [a1,a2,a3,a4]
     have e3:s32 [a,b,c,d]=([numV a,numV b,numV c,numV d],true):=zZA hall
     rw [e3]
     by_cases hk:k=zZE
     ·rw [if_pos ⟨rfl,rfl,hk⟩]
      refine ⟨by simp [hk,allP,a1,a2,a3,a4],fun _=>⟨?_,by show 0≤p.part+1; omega,by show p.part+1≤5; omega,?_,?_,fun _=>hod,h.pt,.inl hin⟩⟩
      ·unfold plQ
       simp only [zZn a1,zZn a2,zZn a3,zZn a4,hs]; rfl
      ·show r.hd+1=if p.part+1≤3 then p.part+1 else 3
       rw [if_pos (by omega)]; omega
      ·show r.part=if p.part+1≤3 then 0 else p.part+1 - 3
       rw [if_pos (by omega)]; exact hrp
     ·rw [if_neg (fun g=>hk g.2.2)]; simp [hk]
    all_goals simp [allP] at hA
   ·have hA':allP [okN (-2147483648) 2147483647,okN (-2147483648) 2147483647,okN (-2147483648) 2147483647,okN (-2147483648) 2147483647] ws=false:=by simpa using hA
    have hno:¬((s32 ws).2=true∧(s32 ws).1.length=4∧k=zZE):=fun g=>by
     obtain ⟨g1,g2,_⟩:=g
     by_cases hall:ws.all (okN (-2147483648) 2147483647)=true
     ·have e3:s32 ws=(ws.map numV,true):=zZA hall
      rw [e3] at g2
      have g2:ws.length=4:=by simpa using g2
      match ws,g2 with
      | [a,b,c,d],_=>exact hA (by simpa [allP] using hall)
     ·have e3:s32 ws=([],false):=zZM (by simpa using hall)
      rw [e3] at g1; cases g1
    rw [if_neg hno,hA']
    simp
  ·rw [if_neg h1]
   have hr2:¬({ r with hd:=r.hd+1 }:RP).hd=2:=by show ¬r.hd+1=2; omega
   simp only [jJZ]
   have e:zQE { r with hd:=r.hd+1 } (k::ws)=(if (u32 ws).2=true∧(u32 ws).1.length=2∧k=zXa then ({ r with hd:=r.hd+1,s:={ r.s with tw:=iAt (u32 ws).1 0,th:=iAt (u32 ws).1 1 } },true) else ({ r with hd:=r.hd+1 },false)):=by unfold zQE; rw [if_neg hr1,if_neg hr2]; rfl
   rw [e]
   by_cases hA:allP [okN 0 4294967295,okN 0 4294967295] ws=true
   ·rcases ws with _ | ⟨a,_ | ⟨b,_ | ⟨c,ws⟩⟩⟩
    case cons.cons.nil=>
     simp only [allP,Bool.and_eq_true,and_true] at hA
     obtain ⟨a1,a2⟩:=hA
     have hall:[a,b].all (okN 0 4294967295)=true:=by simp [a1,a2]
     have e3:u32 [a,b]=([numV a,numV b],true):=zZA hall
     rw [e3]
     by_cases hk:k=zXa
     ·rw [if_pos ⟨rfl,rfl,hk⟩]
      refine ⟨by simp [hk,allP,a1,a2],fun _=>⟨?_,by show 0≤p.part+1; omega,by show p.part+1≤5; omega,?_,?_,fun _=>hod,h.pt,.inl hin⟩⟩
      ·simp only [zZn a1,zZn a2,hs]; rfl
      ·show r.hd+1=if p.part+1≤3 then p.part+1 else 3
       rw [if_pos (by omega)]; omega
      ·show r.part=if p.part+1≤3 then 0 else p.part+1 - 3
       rw [if_pos (by omega)]; exact hrp
     ·rw [if_neg (fun g=>hk g.2.2)]; simp [hk]
    all_goals simp [allP] at hA
   ·have hA':allP [okN 0 4294967295,okN 0 4294967295] ws=false:=by simpa using hA
    have hno:¬((u32 ws).2=true∧(u32 ws).1.length=2∧k=zXa):=fun g=>by
     obtain ⟨g1,g2,_⟩:=g
     by_cases hall:ws.all (okN 0 4294967295)=true
     ·have e3:u32 ws=(ws.map numV,true):=zZA hall
      rw [e3] at g2
      have g2:ws.length=2:=by simpa using g2
      match ws,g2 with
      | [a,b],_=>exact hA (by simpa [allP] using hall)
     ·have e3:u32 ws=([],false):=zZM (by simpa using hall)
      rw [e3] at g1; cases g1
    rw [if_neg hno,hA']
    simp
theorem jKX {ws:List Lb} (h:¬(2≤ws.length∧(ws.take 2).all (okN 1 16777216)=true)):(sizQ ⟨ws,false⟩).2.bad=true:=by
 have hb:(numQ (numQ ⟨ws,false⟩ 1 16777216).2 1 16777216).2.bad=true:=by
  obtain ⟨s1,s2⟩:=zZN 1 16777216
  rcases ws with _ | ⟨a,_ | ⟨b,r⟩⟩
  ·have e:(numQ ⟨[],false⟩ 1 16777216).2=⟨[],true⟩:=s2 false
   rw [e]
   have e:(numQ ⟨[],true⟩ 1 16777216).2=⟨[],true⟩:=s2 true
   rw [e]
  ·have e:(numQ ⟨[a],false⟩ 1 16777216).2=⟨[],false || !okN 1 16777216 a⟩:=s1 a [] false
   rw [e]
   have e:=s2 (false || !okN 1 16777216 a)
   simp only at e
   rw [e]
  ·have e:(numQ ⟨a::b::r,false⟩ 1 16777216).2=⟨b::r,false || !okN 1 16777216 a⟩:=s1 a (b::r) false
   rw [e]
   have e:=s1 b r (false || !okN 1 16777216 a)
   simp only at e
   rw [e]
   cases ha:okN 1 16777216 a with
   | false=>simp
   | true=>
    cases hbb:okN 1 16777216 b with
    | false=>simp
    | true=>exact absurd ⟨by simp,by simp [ha,hbb]⟩ h
 unfold sizQ
 simp only
 rw [if_pos (.inl hb)]
theorem jKW {a b:Lb} {r:List Lb} (ha:okN 1 16777216 a=true) (hb:okN 1 16777216 b=true):sizQ ⟨a::b::r,false⟩=(if 16777216 / numV b < numV a then ((0,0),⟨r,true⟩) else ((numV a,numV b),⟨r,false⟩)):=by
 unfold sizQ
 simp only [zZn ha,zZn hb]
 simp
theorem jJh {q:LQ} (h:q.bad=true):cmpQ (pixQ q).2=false:=by
 obtain ⟨ws,b⟩:=q
 have hb:b=true:=h
 subst hb
 have:=zJi zHX ws true
 rw [Bool.not_true,Bool.false_and] at this
 exact this
theorem jJi {q:LQ} (h:q.bad=true):cmpQ q=false:=by unfold cmpQ; rw [h]; simp
theorem jKc {A B:Int} (ha:1≤A) (hb:1≤B):16777216 / B < A↔16777216 / A < B:=by
 have h1:=Int.ediv_lt_iff_lt_mul (a:=16777216) (b:=A) (c:=B) (by omega)
 have h2:=Int.ediv_lt_iff_lt_mul (a:=16777216) (b:=B) (c:=A) (by omega)
 rw [h1,h2,Int.mul_comm]
theorem jYd {p:PP} {r:RP} (h:Sim p r) (k:Lb) (ws:List Lb) (h3:3≤p.part) (h4:p.part≤4) (hk:k=zQY∨k=zQ0) (hh:¬0 < p.h) :
  (zZG { p with part:=4 } ⟨ws,false⟩ k).2=(zQM r (k::ws)).2∧((zZG { p with part:=4 } ⟨ws,false⟩ k).2=true→Sim (zZG { p with part:=4 } ⟨ws,false⟩ k).1 (zQM r (k::ws)).1):=by
 have hs:=h.s
 have hrp:r.part=p.part - 3:=by
  rw [h.rp]; split <;> omega
 have hhd:r.hd=3:=by rw [h.hd]; split <;> omega
 have hin:p.h=0∧r.left=0∧p.px=[]∧r.px=[]:=by
  rcases h.inn with h0 | ⟨_,i2,_⟩
  ·exact h0
  ·omega
 obtain ⟨i1,i2,i3,i4⟩:=hin
 have hil:p.s.ims.length=r.s.ims.length:=by rw [hs]
 have fin:∀ X:PP × Bool,X.2=false→∀ Y:RP × Bool,Y.2=false→X.2=Y.2∧(X.2=true→Sim X.1 Y.1):=fun X hX Y hY=>⟨by rw [hX,hY],fun g=>by rw [hX] at g; cases g⟩
 by_cases hm:64≤p.s.ims.length
 ·exact fin _ (by unfold zZG; rw [if_pos hm]) _ (by unfold zQM; rw [if_pos (.inr (.inl (by omega)))])
 by_cases hA:2≤ws.length∧(ws.take 2).all (okN 1 16777216)=true
 ·obtain ⟨hA1,hA2⟩:=hA
  rcases ws with _ | ⟨a,_ | ⟨b,rest⟩⟩
  ·simp at hA1
  ·simp at hA1
  have hA2':[a,b].all (okN 1 16777216)=true:=hA2
  have hab:okN 1 16777216 a=true∧okN 1 16777216 b=true:=by simpa using hA2'
  have ia:=zKw hab.1
  have ib:=zKw hab.2
  have en:nz (k::a::b::rest)=([numV a,numV b],true):=zZA hA2'
  have j0:iAt [numV a,numV b] 0=numV a:=rfl
  have j1:iAt [numV a,numV b] 1=numV b:=rfl
  have w0:wAt (k::a::b::rest) 0=k:=rfl
  have hsw:=jKc ia.1 ib.1
  have hsz:=jKW (r:=rest) hab.1 hab.2
  have g1:¬(1 < r.part∨64≤r.s.ims.length∨(k::a::b::rest).length < 3):=by simp; omega
  by_cases hv:16777216 / numV a < numV b
  ·rw [if_pos (hsw.2 hv)] at hsz
   refine fin _ ?_ _ (by unfold zQM; rw [if_neg g1,en,if_pos (.inr hv)])
   unfold zZG
   rw [if_neg hm,hsz]
   split
   ·exact jJi rfl
   ·exact jJh rfl
  ·rw [if_neg (fun g=>hv (hsw.1 g))] at hsz
   have g2:¬((([numV a,numV b],true):List Int × Bool).2=false∨16777216 / iAt (([numV a,numV b],true):List Int × Bool).1 0 < iAt (([numV a,numV b],true):List Int × Bool).1 1):=by
    rw [j0,j1]; intro g; rcases g with g | g
    ·cases g
    ·exact hv g
   rcases hk with hk | hk
   ·have hd3:(k::a::b::rest).drop 3=rest:=rfl
    obtain ⟨e1,e2⟩:=jZG rest
    have eP:zZG { p with part:=4 } ⟨a::b::rest,false⟩ k=({ p with part:=4,s:={ p.s with ims:=p.s.ims++[zQg (numV a) (numV b) (pixQ ⟨rest,false⟩).1] } },(pixW rest).2):=by
     unfold zZG
     rw [if_neg hm,if_neg (by rw [hk]; decide),hsz,e1]
    have eR:zQM r (k::a::b::rest)=({ r with part:=1,s:={ r.s with ims:=r.s.ims++[zQg (numV a) (numV b) (pixW rest).1] } },(pixW rest).2):=by
     unfold zQM
     rw [if_neg g1,en,if_neg g2,w0,if_pos hk,hd3,j0,j1]
    rw [eP,eR]
    refine ⟨rfl,fun hp=>⟨?_,by show (0:Int)≤4; decide,by show (4:Int)≤5; decide,?_,?_,fun g=>absurd (show (4:Int)≤3 from g) (by decide),h.pt,.inl ⟨i1,i2,i3,i4⟩⟩⟩
    ·rw [e2 hp,hs]
    ·show r.hd=if (4:Int)≤3 then 4 else 3
     rw [hhd]; rfl
    ·rfl
   ·have eP:zZG { p with part:=4 } ⟨a::b::rest,false⟩ k=({ p with part:=4,w:=numV a,h:=numV b },cmpQ ⟨rest,false⟩):=by
     unfold zZG
     rw [if_neg hm,if_pos hk,hsz]
    have eR:zQM r (k::a::b::rest)=({ r with part:=1,w:=numV a,h:=numV b,left:=numV a*numV b },decide ((k::a::b::rest).length=3)):=by
     unfold zQM
     rw [if_neg g1,en,if_neg g2,w0,if_neg (by rw [hk]; decide),j0,j1]
    rw [eP,eR]
    refine ⟨?_,fun hp=>⟨hs,by show (0:Int)≤4; decide,by show (4:Int)≤5; decide,?_,rfl,fun g=>absurd (show (4:Int)≤3 from g) (by decide),h.pt,.inr ⟨ia.1,ib.1,rfl,rfl,by rw [i3,i4],rfl,?_,?_⟩⟩⟩
    ·show cmpQ ⟨rest,false⟩=decide ((k::a::b::rest).length=3)
     cases rest <;> simp [cmpQ]
    ·show r.hd=if (4:Int)≤3 then 4 else 3
     rw [hhd]; rfl
    ·show numV a*numV b=numV a*numV b - (p.px.length:Int)
     rw [i3]; simp
    ·have:=Int.mul_pos (show 0 < numV a by omega) (show 0 < numV b by omega)
     exact this
 ·have hb:=jKX hA
  refine fin _ ?_ _ ?_
  ·unfold zZG
   rw [if_neg hm]
   split
   ·exact jJi hb
   ·exact jJh hb
  ·by_cases hl:(k::ws).length < 3
   ·unfold zQM; rw [if_pos (.inr (.inr hl))]
   ·have hl2:2≤ws.length:=by simp at hl; omega
    have:nz (k::ws)=([],false):=zZM (by
     cases hx:((((k::ws).drop 1).take 2).all (okN 1 16777216)) with
     | false=>rfl
     | true=>exact absurd ⟨hl2,hx⟩ hA)
    unfold zQM; rw [if_neg (by omega),if_pos (.inl (by rw [this]))]
def pB:Lb→Bool:=okN 0 255
def pI:Lb→Bool:=okN (-2147483648) 2147483647
def pS:Lb→Bool:=okN 0 65535
def pT:Lb→Bool:=okN 0 1
def pO:Lb→Bool:=fun w=>(nmR zQn w).2
def pM:Lb→Bool:=fun w=>(nmR zQe w).2
theorem stB:Step (fun q=>(byQ q).2) pB:=zZN _ _
theorem stI:Step (fun q=>(plQ q).2) pI:=zZN _ _
theorem stS:Step (fun q=>(smQ q).2) pS:=zZN _ _
theorem stT:Step (fun q=>(trQ q).2) pT:=zZN _ _
theorem stO:Step (fun q=>(namQ zQn q).2) pO:=jZT _
theorem stM:Step (fun q=>(namQ zQe q).2) pM:=jZT _
def pD:List (Lb→Bool):=[pB,pI,pI,pB,pI,pI,pS,pO,pM]
def pP:List (Lb→Bool):=[pB,pI,pI,pS,pO,pM,pT,pT]
theorem jKa (ws:List Lb):cmpQ (zZO ⟨ws,false⟩).2=allP pD ws:=by
 have:=zJi (.cons stB (.cons stI (.cons stI (.cons stB (.cons stI (.cons stI (.cons stS (.cons stO (.cons stM .nil))))))))) ws false
 rw [Bool.not_false,Bool.true_and] at this
 exact this
theorem jJB (ws:List Lb):cmpQ (zZL ⟨ws,false⟩).2=allP pP ws:=by
 have:=zJi (.cons stB (.cons stI (.cons stI (.cons stS (.cons stO (.cons stM (.cons stT (.cons stT .nil)))))))) ws false
 rw [Bool.not_false,Bool.true_and] at this
 exact this
theorem jZS {f:Int→ByteArray} {w:Lb} (h:(nmR f w).2=true):1≤(nmR f w).1∧(nmR f w).1 < 13:=by
 unfold nmR at h ⊢
 split at h
 ·rename_i j hj
  have:=List.mem_of_find?_eq_some hj
  simp at this
  simp only [hj]
  omega
 ·cases h
theorem jZM {a:Lb} (h:pS a=true):IntKind.wrap .u16 (numR a 0 65535).1=numV a:=by
 have:=zKw h
 rw [jZR h]
 simp [IntKind.wrap,IntKind.bits,IntKind.signed]; omega
theorem zHp:∀ {Ps:List (Lb→Bool)} {ws:List Lb},allP Ps ws=true→ws.length=Ps.length
 | [],[],_=>rfl
 | P::Ps,w::ws,h=>by
  simp only [allP,Bool.and_eq_true] at h
  simp [zHp h.2]
 | [],_::_,h=>by cases h
 | _::_,[],h=>by cases h
theorem jJL {ws:List Lb} (h:ws.length≠9):(opR (zZ0::ws)).2=false:=by
 unfold opR
 split
 ·rename_i e; injection e with _ e; subst e; exact absurd rfl h
 ·rename_i e; injection e with e _; rw [if_neg (fun g=>absurd (e.trans g.1) (by decide))]
 ·rename_i e; injection e with e _; rw [if_neg (fun g=>absurd (e.trans g) (by decide))]
 ·rfl
theorem jJI {ws:List Lb} (h:ws.length≠8):(opR (zZ1::ws)).2=false:=by
 unfold opR
 split
 ·rename_i e; injection e with e _; rw [if_neg (fun g=>absurd (e.trans g.1) (by decide))]
 ·rename_i e; injection e with _ e; subst e; exact absurd rfl h
 ·rename_i e; injection e with e _; rw [if_neg (fun g=>absurd (e.trans g) (by decide))]
 ·rfl
theorem jVd (ws:List Lb):opR (sPop::ws)=if ws=[] then (popO,true) else (opR (sPop::ws)).1 |> fun o=>(o,false):=by
 cases ws with
 | nil=>rfl
 | cons w ws=>
  rw [if_neg (by simp)]
  have:(opR (sPop::w::ws)).2=false:=by
   unfold opR
   split
   ·rename_i e; injection e with e _; rw [if_neg (fun g=>absurd (e.trans g.1) (by decide))]
   ·rename_i e; injection e with e _; rw [if_neg (fun g=>absurd (e.trans g.1) (by decide))]
   ·rename_i e; injection e with _ e; cases e
   ·rfl
  exact Prod.ext rfl this
theorem zWX {k:Lb} {ws:List Lb} (h1:k≠zZ0) (h2:k≠zZ1) (h3:k≠sPop):(opR (k::ws)).2=false:=by
 unfold opR
 split
 ·rename_i e; injection e with e _; rw [if_neg (fun g=>h1 (e.trans g.1))]
 ·rename_i e; injection e with e _; rw [if_neg (fun g=>h2 (e.trans g.1))]
 ·rename_i e; injection e with e _; rw [if_neg (fun g=>h3 (e.trans g))]
 ·rfl
theorem jVK (ws:List Lb):allP pD ws=(opR (zZ0::ws)).2∧(allP pD ws=true→(zZO ⟨ws,false⟩).1=(opR (zZ0::ws)).1∧prtO (opR (zZ0::ws)).1=true):=by
 by_cases hl:ws.length=9
 ·match ws,hl with
  | [i,x,y,m,mx,my,a,b,c],_=>
  by_cases hC:zZ0=zZ0∧[i,m].all (okN 0 255)=true∧[x,y,mx,my].all (okN (-2147483648) 2147483647)=true
  ·have e:opR [zZ0,i,x,y,m,mx,my,a,b,c]=(zZu ⟨1,numV i,numV x,numV y,numV m,numV mx,numV my,0,0,0,false,false⟩ a b c,zJu a b c):=if_pos hC
   rw [e]
   obtain ⟨_,h1,h2⟩:=hC
   simp only [List.all_cons,List.all_nil,Bool.and_true,Bool.and_eq_true] at h1 h2
   have k1:pB i=true:=h1.1
   have k2:pB m=true:=h1.2
   have k3:pI x=true:=h2.1
   have k4:pI y=true:=h2.2.1
   have k5:pI mx=true:=h2.2.2.1
   have k6:pI my=true:=h2.2.2.2
   refine ⟨by simp [allP,pD,zJu,k1,k2,k3,k4,k5,k6,Bool.and_assoc]; rfl,fun hh=>?_⟩
   simp only [allP,pD,k1,k2,k3,k4,k5,k6,Bool.true_and,Bool.and_true,Bool.and_eq_true] at hh
   obtain ⟨k7,k8,k9⟩:=hh
   have v8:=jZS (show (nmR zQn b).2=true from k8)
   have v9:=jZS (show (nmR zQe c).2=true from k9)
   refine ⟨?_,?_⟩
   ·unfold zZO byQ plQ smQ
    simp only [zZn (show okN 0 255 i=true from k1),zZn (show okN (-2147483648) 2147483647 x=true from k3),zZn (show okN (-2147483648) 2147483647 y=true from k4),zZn (show okN 0 255 m=true from k2),zZn (show okN (-2147483648) 2147483647 mx=true from k5),zZn (show okN (-2147483648) 2147483647 my=true from k6),zZn (show okN 0 65535 a=true from k7),zG5 (show (nmR zQn b).2=true from k8),zG5 (show (nmR zQe c).2=true from k9)]
    unfold zZu
    rw [jZM k7]
   ·unfold prtO zZu
    simp
    omega
  ·have e:opR [zZ0,i,x,y,m,mx,my,a,b,c]=(nilO,false):=if_neg hC
   rw [e]
   have:allP pD [i,x,y,m,mx,my,a,b,c]=false:=by
    cases hA:allP pD [i,x,y,m,mx,my,a,b,c] with
    | false=>rfl
    | true=>
     simp only [allP,pD,Bool.and_eq_true] at hA
     obtain ⟨k1,k3,k4,k2,k5,k6,_⟩:=hA
     refine absurd ⟨rfl,?_,?_⟩ hC
     ·simp only [List.all_cons,List.all_nil,Bool.and_true,Bool.and_eq_true]; exact ⟨k1,k2⟩
     ·simp only [List.all_cons,List.all_nil,Bool.and_true,Bool.and_eq_true]; exact ⟨k3,k4,k5,k6⟩
   rw [this]
   exact ⟨rfl,fun h=>by cases h⟩
 ·have:allP pD ws=false:=by
   cases h:allP pD ws with
   | false=>rfl
   | true=>exact absurd (zHp h) hl
  rw [this,jJL hl]
  exact ⟨rfl,fun h=>by cases h⟩
theorem jK7 (ws:List Lb):allP pP ws=(opR (zZ1::ws)).2∧(allP pP ws=true→(zZL ⟨ws,false⟩).1=(opR (zZ1::ws)).1∧prtO (opR (zZ1::ws)).1=true):=by
 by_cases hl:ws.length=8
 ·match ws,hl with
  | [m,mx,my,a,b,c,is,kn],_=>
  by_cases hC:zZ1=zZ1∧okN 0 255 m=true∧[mx,my].all (okN (-2147483648) 2147483647)=true∧[is,kn].all (okN 0 1)=true
  ·have e:opR [zZ1,m,mx,my,a,b,c,is,kn]=(zZu ⟨2,0,0,0,numV m,numV mx,numV my,0,0,0,decide (numV is=1),decide (numV kn=1)⟩ a b c,zJu a b c):=if_pos hC
   rw [e]
   obtain ⟨_,h0,h1,h2⟩:=hC
   simp only [List.all_cons,List.all_nil,Bool.and_true,Bool.and_eq_true] at h1 h2
   have k2:pB m=true:=h0
   have k5:pI mx=true:=h1.1
   have k6:pI my=true:=h1.2
   have t1:pT is=true:=h2.1
   have t2:pT kn=true:=h2.2
   refine ⟨by simp [allP,pP,zJu,k2,k5,k6,t1,t2,Bool.and_assoc]; rfl,fun hh=>?_⟩
   simp only [allP,pP,k2,k5,k6,t1,t2,Bool.true_and,Bool.and_true,Bool.and_eq_true] at hh
   obtain ⟨k7,k8,k9⟩:=hh
   have v8:=jZS (show (nmR zQn b).2=true from k8)
   have v9:=jZS (show (nmR zQe c).2=true from k9)
   refine ⟨?_,?_⟩
   ·unfold zZL trQ byQ plQ smQ
    simp only [zZn (show okN 0 255 m=true from k2),zZn (show okN (-2147483648) 2147483647 mx=true from k5),zZn (show okN (-2147483648) 2147483647 my=true from k6),zZn (show okN 0 65535 a=true from k7),zG5 (show (nmR zQn b).2=true from k8),zG5 (show (nmR zQe c).2=true from k9),zZn (show okN 0 1 is=true from t1),zZn (show okN 0 1 kn=true from t2)]
    unfold zZu
    rw [jZM k7]
   ·unfold prtO zZu
    simp
    omega
  ·have e:opR [zZ1,m,mx,my,a,b,c,is,kn]=(nilO,false):=if_neg hC
   rw [e]
   have:allP pP [m,mx,my,a,b,c,is,kn]=false:=by
    cases hA:allP pP [m,mx,my,a,b,c,is,kn] with
    | false=>rfl
    | true=>
     simp only [allP,pP,Bool.and_eq_true] at hA
     obtain ⟨k2,k5,k6,_,_,_,t1,t2,_⟩:=hA
     refine absurd ⟨rfl,k2,?_,?_⟩ hC
     ·simp only [List.all_cons,List.all_nil,Bool.and_true,Bool.and_eq_true]; exact ⟨k5,k6⟩
     ·simp only [List.all_cons,List.all_nil,Bool.and_true,Bool.and_eq_true]; exact ⟨t1,t2⟩
   rw [this]
   exact ⟨rfl,fun h=>by cases h⟩
 ·have:allP pP ws=false:=by
   cases h:allP pP ws with
   | false=>rfl
   | true=>exact absurd (zHp h) hl
  rw [this,jJI hl]
  exact ⟨rfl,fun h=>by cases h⟩
theorem jYc {p:PP} {r:RP} (h:Sim p r) (k:Lb) (ws:List Lb) (h3:3≤p.part) (hh:¬0 < p.h) :
  (pOp { p with part:=5 } ⟨ws,false⟩ k).2=((opR (k::ws)).2 && decide (r.s.ops.length < 4096)) ∧
   ((pOp { p with part:=5 } ⟨ws,false⟩ k).2=true→Sim (pOp { p with part:=5 } ⟨ws,false⟩ k).1 { r with part:=2,s:={ r.s with ops:=r.s.ops++[(opR (k::ws)).1] } }):=by
 have hs:=h.s
 have hhd:r.hd=3:=by rw [h.hd]; split <;> omega
 have hin:p.h=0∧r.left=0∧p.px=[]∧r.px=[]:=by
  rcases h.inn with h0 | ⟨_,i2,_⟩
  ·exact h0
  ·omega
 have hol:p.s.ops.length=r.s.ops.length:=by rw [hs]
 have fin:∀ o:Oq,prtO o=true→o=(opR (k::ws)).1→Sim { p with part:=5,s:={ p.s with ops:=p.s.ops++[o] } } { r with part:=2,s:={ r.s with ops:=r.s.ops++[(opR (k::ws)).1] } }:=fun o ho e=>
  ⟨by rw [e,hs],by show (0:Int)≤5; decide,by show (5:Int)≤5; decide,by show r.hd=if (5:Int)≤3 then 5 else 3; rw [hhd]; rfl,rfl,fun g=>absurd (show (5:Int)≤3 from g) (by decide),fun x hx=>by
   rcases List.mem_append.1 hx with hx | hx
   ·exact h.pt x hx
   ·rw [List.mem_singleton.1 hx]; exact ho,.inl hin⟩
 by_cases hm:4096≤p.s.ops.length
 ·have eP:pOp { p with part:=5 } ⟨ws,false⟩ k=({ p with part:=5 },false):=by unfold pOp; rw [if_pos hm]
  rw [eP,decide_eq_false (by omega),Bool.and_false]
  exact ⟨rfl,fun h=>by cases h⟩
 rw [decide_eq_true (by omega:r.s.ops.length < 4096),Bool.and_true]
 by_cases hd:k=zZ0
 ·subst hd
  obtain ⟨e1,e2⟩:=jVK ws
  have eP:pOp { p with part:=5 } ⟨ws,false⟩ zZ0=({ p with part:=5,s:={ p.s with ops:=p.s.ops++[(zZO ⟨ws,false⟩).1] } },allP pD ws):=by unfold pOp; rw [if_neg hm,if_pos rfl,jKa]
  rw [eP]
  exact ⟨e1,fun hh=>fin _ (by rw [(e2 hh).1]; exact (e2 hh).2) (e2 hh).1⟩
 by_cases hp:k=zZ1
 ·subst hp
  obtain ⟨e1,e2⟩:=jK7 ws
  have eP:pOp { p with part:=5 } ⟨ws,false⟩ zZ1=({ p with part:=5,s:={ p.s with ops:=p.s.ops++[(zZL ⟨ws,false⟩).1] } },allP pP ws):=by unfold pOp; rw [if_neg hm,if_neg hd,if_pos rfl,jJB]
  rw [eP]
  exact ⟨e1,fun hh=>fin _ (by rw [(e2 hh).1]; exact (e2 hh).2) (e2 hh).1⟩
 by_cases ho:k=sPop
 ·subst ho
  have eP:pOp { p with part:=5 } ⟨ws,false⟩ sPop=({ p with part:=5,s:={ p.s with ops:=p.s.ops++[popO] } },cmpQ ⟨ws,false⟩):=by unfold pOp; rw [if_neg hm,if_neg hd,if_neg hp,if_pos rfl]; rfl
  rw [eP]
  cases ws with
  | nil=>exact ⟨rfl,fun _=>fin _ (by decide) rfl⟩
  | cons w ws=>
   have e:=jVd (w::ws)
   rw [if_neg (by simp)] at e
   rw [e]
   exact ⟨rfl,fun h=>by cases h⟩
 ·have eP:pOp { p with part:=5 } ⟨ws,false⟩ k=({ p with part:=5 },false):=by unfold pOp; rw [if_neg hm,if_neg hd,if_neg hp,if_neg ho]
  rw [eP,zWX hd hp ho]
  exact ⟨rfl,fun h=>by cases h⟩
theorem jJo {p:PP} {r:RP} (h:Sim p r) (t:Lb):(zXL p t).2=(zQX r t).2∧((zXL p t).2=true→Sim (zXL p t).1 (zQX r t).1):=by
 have hne:=zYV t
 by_cases hh:0 < p.h
 ·have hl:0 < r.left:=by
   rcases h.inn with ⟨h0,_⟩ | ⟨_,_,_,_,_,_,_,i8⟩
   ·omega
   ·exact i8
  have eP:zXL p t=zZJ p ⟨zQo t,false⟩:=by unfold zXL; rw [if_pos hh]
  have eR:zQX r t=(if r.left=1 then ({ r with left:=0,s:={ r.s with ims:=r.s.ims++[imOf r.w r.h (r.px++[(pixW (zQo t)).1])] },px:=[] },(pixW (zQo t)).2)
   else ({ r with left:=r.left - 1,px:=r.px++[(pixW (zQo t)).1] },(pixW (zQo t)).2)):=by unfold zQX; rw [if_pos hl]
  rw [eP,eR]
  exact jYb h (zQo t) hh
 ·have hl:¬0 < r.left:=by
   rcases h.inn with ⟨_,h0,_⟩ | ⟨_,i2,_⟩
   ·omega
   ·omega
  obtain ⟨k,ws,hw⟩:∃ k ws,zQo t=k::ws:=by
   cases e:zQo t with
   | nil=>exact absurd e hne
   | cons k ws=>exact ⟨k,ws,rfl⟩
  have d0:=h.d0
  have d5:=h.d5
  have hq:zZS ⟨k::ws,false⟩=⟨ws,false⟩:=rfl
  have hk:zZx (k::ws)=k:=rfl
  have w0:wAt (k::ws) 0=k:=rfl
  have eP:zXL p t=(if p.part≤2 then zXn p ⟨ws,false⟩ k
   else if k=zZy∧p.part=3 then zXK { p with part:=4 } t
   else if (k=zQY∨k=zQ0)∧p.part≤4 then zZG { p with part:=4 } ⟨ws,false⟩ k
   else pOp { p with part:=5 } ⟨ws,false⟩ k):=by unfold zXL; rw [if_neg hh,hw]; rfl
  have eR:zQX r t=(if r.hd < 3 then zQE { r with hd:=r.hd+1 } (k::ws)
   else if k=zZy then ({ r with part:=1,s:={ r.s with ord:=(u32 ws).1 } },(u32 ws).2 && decide (0 < (u32 ws).1.length) && decide (r.part=0))
   else if k=zQY∨k=zQ0 then zQM r (k::ws)
   else ({ r with part:=2,s:={ r.s with ops:=r.s.ops++[(opR (k::ws)).1] } },(opR (k::ws)).2 && decide (r.s.ops.length < 4096))):=by unfold zQX; rw [if_neg hl,hw]; rfl
  have hhd:=h.hd
  have hrp:=h.rp
  by_cases h2:p.part≤2
  ·rw [if_pos (by omega)] at hhd
   rw [eP,eR,if_pos h2,if_pos (by omega)]
   exact jJp h k ws h2
  ·have hr3:r.hd=3:=by rw [hhd]; split <;> omega
   rw [if_neg h2] at eP
   rw [if_neg (by omega)] at eR
   by_cases ho:k=zZy
   ·rw [if_pos ho] at eR
    by_cases h3:p.part=3
    ·rw [if_pos ⟨ho,h3⟩] at eP
     rw [if_pos (by omega)] at hrp
     have hod:=h.od (by omega)
     rw [eP,eR]
     unfold zXK
     rw [hw,show (k::ws).drop 1=ws from rfl]
     by_cases ha:ws.all (okN 0 4294967295)=true
     ·have e3:u32 ws=(ws.map numV,true):=zZA ha
      rw [e3,ha,hrp]
      refine ⟨by simp,fun _=>⟨?_,by show (0:Int)≤4; decide,by show (4:Int)≤5; decide,?_,rfl,fun g=>absurd (show (4:Int)≤3 from g) (by decide),h.pt,?_⟩⟩
      ·show ({ p.s with ord:=p.s.ord++zVa ws }:Scr)={ r.s with ord:=ws.map numV }
       rw [hod,jZI ha,h.s]; rfl
      ·show r.hd=if (4:Int)≤3 then 4 else 3
       rw [hr3]; rfl
      ·rcases h.inn with h0 | ⟨_,i2,_⟩
       ·exact .inl h0
       ·omega
     ·have ha':ws.all (okN 0 4294967295)=false:=by simpa using ha
      have e3:u32 ws=([],false):=zZM ha'
      rw [e3,ha']
      refine ⟨by simp,fun g=>?_⟩
      simp at g
    ·rw [if_neg (fun g=>h3 g.2),if_neg (fun g=>by rw [ho] at g; exact absurd g.1 (by decide))] at eP
     have e:=(jYc h k ws (by omega) hh).1
     rw [zWX (by rw [ho]; decide) (by rw [ho]; decide) (by rw [ho]; decide),Bool.false_and] at e
     rw [eP,eR,e]
     have e0:decide (r.part=0)=false:=decide_eq_false (by rw [hrp]; split <;> omega)
     refine ⟨?_,fun g=>by cases g⟩
     show false=((u32 ws).2 && decide (0 < (u32 ws).1.length) && decide (r.part=0))
     rw [e0,Bool.and_false]
   ·rw [if_neg ho] at eR
    rw [if_neg (fun g=>ho g.1)] at eP
    by_cases hi:k=zQY∨k=zQ0
    ·rw [if_pos hi] at eR
     by_cases h4:p.part≤4
     ·rw [if_pos ⟨hi,h4⟩] at eP
      rw [eP,eR]
      exact jYd h k ws (by omega) h4 hi hh
     ·rw [if_neg (fun g=>h4 g.2)] at eP
      have e:=(jYc h k ws (by omega) hh).1
      rw [zWX (by rcases hi with hi | hi <;> rw [hi] <;> decide) (by rcases hi with hi | hi <;> rw [hi] <;> decide) (by rcases hi with hi | hi <;> rw [hi] <;> decide),Bool.false_and] at e
      rw [eP,eR,e]
      refine ⟨?_,fun g=>by cases g⟩
      have:1 < r.part:=by rw [hrp]; split <;> omega
      unfold zQM; rw [if_pos (.inl this)]
    ·rw [if_neg hi] at eR
     rw [if_neg (fun g=>hi g.1)] at eP
     rw [eP,eR]
     exact jYc h k ws (by omega) hh
theorem jYe:∀ (t acc:Lb) (n:Int) {p:PP} {r:RP},Sim p r→pGo p n acc t=rGo r n acc t
 | [],acc,n,p,r,h=>by
  rw [pGo,rGo]
  have hhd:=h.hd
  by_cases ha:acc≠[]
  ·have c1:acc≠[]∨r.hd < 3∨0 < r.left:=.inl ha
   rw [if_pos ha,if_pos c1]
  ·rw [if_neg ha]
   unfold pEnd
   have hl:0 < p.h↔0 < r.left:=by
    rcases h.inn with ⟨i1,i2,_⟩ | ⟨_,i2,_,_,_,_,_,i8⟩
    ·omega
    ·exact ⟨fun _=>i8,fun _=>by omega⟩
   have hd:p.part≤2↔r.hd < 3:=by
    rw [hhd]; split <;> omega
   by_cases hc:p.part≤2∨0 < p.h
   ·have c1:acc≠[]∨r.hd < 3∨0 < r.left:=.inr (hc.imp hd.1 hl.1)
    rw [if_pos hc,if_pos c1]
   ·have c1:¬(acc≠[]∨r.hd < 3∨0 < r.left):=fun g=>hc ((g.resolve_left ha).imp hd.2 hl.2)
    rw [if_neg hc,if_neg c1]
    have hpt:p.s.ops.all prtO=true:=List.all_eq_true.2 h.pt
    rw [h.s] at hpt ⊢
    by_cases he:zZX r.s=true
    ·rw [if_pos ⟨he,hpt⟩,if_pos he]
    ·rw [if_neg (fun g=>he g.1),if_neg he]
 | c::t,acc,n,p,r,h=>by
  rw [pGo,rGo]
  obtain ⟨e1,e2⟩:=jJo h acc
  by_cases hc:c=10
  ·rw [if_pos hc,if_pos hc,← e1]
   by_cases hg:(zXL p acc).2=true
   ·rw [if_pos hg,if_pos hg]
    exact jYe t [] (n+1) (e2 hg)
   ·rw [if_neg hg,if_neg hg]
  ·rw [if_neg hc,if_neg hc]
   exact jYe t (acc++[c]) n h
theorem jZH (t:Lb):zZa t=zQ7 t:=jYe t [] 0 jYa
def zXR (w:Lb):Prop:=(32:UInt8) ∉ w∧(10:UInt8) ∉ w
theorem zWB:∀ {w:Lb},(32:UInt8) ∉ w→zQo w=[w]
 | [],_=>rfl
 | c::w,h=>by
  simp only [List.mem_cons,not_or] at h
  rw [zQo,if_neg (fun e=>h.1 e.symm),zWB h.2]; rfl
theorem jZx:∀ {w r:Lb},(32:UInt8) ∉ w→zQo (w++32::r)=w::zQo r
 | [],r,_=>by rw [List.nil_append,zQo,if_pos rfl]
 | c::w,r,h=>by
  simp only [List.mem_cons,not_or] at h
  rw [List.cons_append,zQo,if_neg (fun e=>h.1 e.symm),jZx h.2]; rfl
theorem jZy:∀ (ws:List Lb) (w:Lb),zXR w→(∀ x∈ws,zXR x)→zQo (w++jt ws)=w::ws
 | [],w,h,_=>by rw [show jt []=[] from rfl,List.append_nil]; exact zWB h.1
 | x::ws,w,h,hs=>by
  rw [jZd,List.cons_append,jZx h.1,jZy ws x (hs x (by simp)) fun y hy=>hs y (by simp [hy])]
theorem zXy {ws:List Lb} (h:ws≠[]) (hs:∀ x∈ws,zXR x):zQo (zZi ws)=ws:=by
 cases ws with
 | nil=>exact absurd rfl h
 | cons w ws=>rw [zKc]; exact jZy ws w (hs w (by simp)) fun y hy=>hs y (by simp [hy])
theorem jV8:∀ {ws:List Lb},(∀ x∈ws,zXR x)→(10:UInt8) ∉ jt ws
 | [],_,h=>by cases h
 | x::ws,hs,h=>by
  rw [jZd] at h
  rcases List.mem_append.1 h with h | h
  ·rcases List.mem_cons.1 h with h | h
   ·exact absurd h (by decide)
   ·exact (hs x (by simp)).2 h
  ·exact jV8 (fun y hy=>hs y (by simp [hy])) h
theorem jVm {ws:List Lb} (hs:∀ x∈ws,zXR x):(10:UInt8) ∉ zZi ws:=by
 cases ws with
 | nil=>intro h; cases h
 | cons w ws=>
  rw [zKc]
  intro h
  rcases List.mem_append.1 h with h | h
  ·exact (hs w (by simp)).2 h
  ·exact jV8 (fun y hy=>hs y (by simp [hy])) h
theorem jKG {c:UInt8} (h:zXP c=true):c≠32∧c≠10:=by
 constructor <;> (rintro rfl; revert h; decide)
theorem jXH (v:Int):zXR (itoa v):=by
 have hd:=(zWw v.natAbs).2.1
 rw [List.all_eq_true] at hd
 have key:∀ c∈itoa v,c≠32∧c≠10:=fun c hc=>by
  by_cases hn:zJg (itoa v)=true
  ·rw [zH3 hn,(zJO v).1] at hc
   rcases List.mem_cons.1 hc with rfl | hc
   ·exact ⟨by decide,by decide⟩
   ·exact jKG (hd c hc)
  ·have e:=zGc (by simpa using hn)
   rw [← e,(zJO v).1] at hc
   exact jKG (hd c hc)
 exact ⟨fun h=>(key _ h).1 rfl,fun h=>(key _ h).2 rfl⟩
theorem jYF:∀ k u:Nat,u < 10 ^ (k+1)→nDigits u≤k+1
 | 0,u,h=>by rw [nDigits_small (by simpa using h)]; exact Nat.le_refl _
 | k+1,u,h=>by
  by_cases hu:u < 10
  ·rw [nDigits_small hu]; omega
  ·rw [nDigits_big hu]
   have e:10 ^ (k+1+1)=10*10 ^ (k+1):=by rw [Nat.pow_succ,Nat.mul_comm]
   have:=jYF k (u / 10) (by omega)
   omega
theorem zWr {v:Int} (h0 : -9999999999≤v) (h1:v≤9999999999):zYb (itoa v)=true∧numV (itoa v)=v:=by
 refine zGp ?_
 rw [(zJO v).1,decDigits_length]
 exact jYF 9 _ (by omega)
theorem zX1 {lo hi v:Int} (h0:lo≤v) (h1:v≤hi) (hl : -9999999999≤lo) (hh:hi≤9999999999):okN lo hi (itoa v)=true:=by
 have:=zWr (v:=v) (by omega) (by omega)
 unfold okN; rw [this.1,this.2]; simp [h0,h1]
theorem zH1 {lo hi v:Int} (h0:lo≤v) (h1:v≤hi) (hl : -9999999999≤lo) (hh:hi≤9999999999):numR (itoa v) lo hi=(v,true):=by
 have:=zWr (v:=v) (by omega) (by omega)
 rw [jQ9 this.1,this.2]; simp [h0,h1]
theorem zJK {lo hi:Int} {l:List Int} (h:∀ v∈l,lo≤v∧v≤hi) (hl : -9999999999≤lo) (hh:hi≤9999999999):zZB (digW l) lo hi=(l,true):=by
 rw [zZA,show (digW l).map numV=l from ?_]
 ·unfold digW
  rw [List.map_map]
  conv=>rhs; rw [← List.map_id l]
  exact List.map_congr_left fun v hv=>(zWr (by have:=h v hv; omega) (by have:=h v hv; omega)).2
 ·unfold digW
  rw [List.all_map,List.all_eq_true]
  exact fun v hv=>zX1 (h v hv).1 (h v hv).2 hl hh
theorem zXO (l:List Int):∀ x∈digW l,zXR x:=fun x hx=>by
 obtain ⟨v,_,rfl⟩:=List.mem_map.1 hx
 exact jXH v
theorem clean_of {w:Lb} (h:w.all (fun c=>decide (c≠32) && decide (c≠10))=true):zXR w:=by
 rw [List.all_eq_true] at h
 exact ⟨fun g=>by simpa using h _ g,fun g=>by simpa using h _ g⟩
theorem jV5:∀ k:Fin 12,(ofS (zQn ((k.val:Int)+1))).all (fun c=>decide (c≠32) && decide (c≠10))=true∧nmR zQn (ofS (zQn ((k.val:Int)+1)))=((k.val:Int)+1,true):=by decide +kernel
theorem jJT:∀ k:Fin 12,(ofS (zQe ((k.val:Int)+1))).all (fun c=>decide (c≠32) && decide (c≠10))=true∧nmR zQe (ofS (zQe ((k.val:Int)+1)))=((k.val:Int)+1,true):=by decide +kernel
theorem jKw {v:Int} (h:1≤v∧v < 13):zXR (ofS (zQn v))∧nmR zQn (ofS (zQn v))=(v,true):=by
 have:=jV5 ⟨(v - 1).toNat,by omega⟩
 rw [show (((⟨(v - 1).toNat,by omega⟩:Fin 12).val:Int)+1)=v from by show (((v - 1).toNat:Nat):Int)+1=v; omega] at this
 exact ⟨clean_of this.1,this.2⟩
theorem jZU {v:Int} (h:1≤v∧v < 13):zXR (ofS (zQe v))∧nmR zQe (ofS (zQe v))=(v,true):=by
 have:=jJT ⟨(v - 1).toNat,by omega⟩
 rw [show (((⟨(v - 1).toNat,by omega⟩:Fin 12).val:Int)+1)=v from by show (((v - 1).toNat:Nat):Int)+1=v; omega] at this
 exact ⟨clean_of this.1,this.2⟩
def nl (t:Lb):Nat:=t.count 10
theorem jKx (a b:Lb):nl (a++b)=nl a+nl b:=List.count_append
theorem jKs {p:RP} {n:Int} {b:Lb}:∀ {a acc:Lb},(10:UInt8) ∉ a→rGo p n acc (a++10::b)=if (zQX p (acc++a)).2=true then rGo (zQX p (acc++a)).1 (n+1) [] b else (zScr,n+1,19)
 | [],acc,_=>by rw [List.append_nil,List.nil_append,rGo,if_pos rfl]
 | c::a,acc,h=>by
  simp only [List.mem_cons,not_or] at h
  rw [List.cons_append,rGo,if_neg (fun e=>h.1 e.symm),jKs h.2,List.append_assoc]; rfl
def Rd_ (p:RP) (t:Lb) (q:RP):Prop:=∀ (n:Int) (rest:Lb),rGo p n [] (t++rest)=rGo q (n+(nl t:Nat)) [] rest
theorem Rd_.nil (p:RP):Rd_ p [] p:=fun n rest=>by
 rw [List.nil_append,show (n+((nl []:Nat):Int))=n from Int.add_zero n]
theorem Rd_.app {p q r:RP} {a b:Lb} (h1:Rd_ p a q) (h2:Rd_ q b r):Rd_ p (a++b) r:=fun n rest=>by
 rw [List.append_assoc,h1,h2,jKx]
 congr 1
 omega
theorem Rd_.line {p q:RP} {ws:List Lb} (hs:∀ x∈ws,zXR x) (h:zQX p (zZi ws)=(q,true)):Rd_ p (zZq ws) q:=fun n rest=>by
 have hn:=jVm hs
 unfold zZq
 rw [List.append_assoc,show [10]++rest=10::rest from rfl,jKs hn,List.nil_append,h,if_pos rfl,jKx]
 have:nl (zZi ws)=0:=List.count_eq_zero.2 hn
 rw [this]
 rfl
theorem jVW:zQY≠zZy:=by decide
theorem jK2 {s:Scr} (P:Prt s):Rd_ zRP (hdTx s) ⟨⟨s.bits,s.c,s.tw,s.th,[],[],[]⟩,3,0,0,0,0,[]⟩:=by
 have cl:∀ (w:Lb) (l:List Int),zXR w→∀ x∈[w]++digW l,zXR x:=fun w l h x hx=>by
  rcases List.mem_append.1 hx with hx | hx
  ·rw [List.mem_singleton.1 hx]; exact h
  ·exact zXO l x hx
 have h1:Rd_ zRP (zQH zYc [s.bits]++[10]) ⟨⟨s.bits,⟨0,0,0,0⟩,0,0,[],[],[]⟩,1,0,0,0,0,[]⟩:=by
  rw [← zZW _ _ (by decide)]
  have c1:=cl zYc [s.bits] (clean_of (by decide))
  refine Rd_.line c1 ?_
  unfold zQX
  rw [zXy (by simp) c1,if_neg (show ¬(0 < zRP.left) from by decide),if_pos (show (zRP.hd < 3) from by decide)]
  have n1:=zH1 (lo:=0) (hi:=255) P.bits.1 P.bits.2 (by decide) (by decide)
  unfold zQE
  rw [if_pos (show (zRP.hd+1=1) from rfl),if_pos (show (([zYc]++digW [s.bits]).length=2∧wAt ([zYc]++digW [s.bits]) 0=zYc) from ⟨rfl,rfl⟩)]
  show (({ zRP with hd:=0+1,s:={ zScr with bits:=(numR (itoa s.bits) 0 255).1 } }:RP),(numR (itoa s.bits) 0 255).2)=_
  rw [n1]; rfl
 have h2:Rd_ ⟨⟨s.bits,⟨0,0,0,0⟩,0,0,[],[],[]⟩,1,0,0,0,0,[]⟩ (zQH zZE [s.c.a,s.c.b,s.c.c,s.c.d]++[10]) ⟨⟨s.bits,s.c,0,0,[],[],[]⟩,2,0,0,0,0,[]⟩:=by
  rw [← zZW _ _ (by decide)]
  have c1:=cl zZE [s.c.a,s.c.b,s.c.c,s.c.d] (clean_of (by decide))
  refine Rd_.line c1 ?_
  unfold zQX
  rw [zXy (by simp) c1,if_neg (show ¬((0:Int) < 0) from by decide),if_pos (show ((1:Int) < 3) from by decide)]
  obtain ⟨p1,p2,p3,p4⟩:=P.c
  have n1:s32 (([zZE]++digW [s.c.a,s.c.b,s.c.c,s.c.d]).drop 1)=([s.c.a,s.c.b,s.c.c,s.c.d],true):=zJK (by simp; omega) (by decide) (by decide)
  unfold zQE
  rw [n1,if_neg (show ¬((1:Int)+1=1) from by decide),if_pos (show ((1:Int)+1=2) from rfl),if_pos ⟨rfl,rfl,rfl⟩]
  rfl
 have h3:Rd_ ⟨⟨s.bits,s.c,0,0,[],[],[]⟩,2,0,0,0,0,[]⟩ (zQH zXa [s.tw,s.th]++[10]) ⟨⟨s.bits,s.c,s.tw,s.th,[],[],[]⟩,3,0,0,0,0,[]⟩:=by
  rw [← zZW _ _ (by decide)]
  have c1:=cl zXa [s.tw,s.th] (clean_of (by decide))
  refine Rd_.line c1 ?_
  unfold zQX
  rw [zXy (by simp) c1,if_neg (show ¬((0:Int) < 0) from by decide),if_pos (show ((2:Int) < 3) from by decide)]
  have p1:=P.t
  have n1:u32 (([zXa]++digW [s.tw,s.th]).drop 1)=([s.tw,s.th],true):=zJK (by simp; omega) (by decide) (by decide)
  unfold zQE
  rw [n1,if_neg (show ¬((2:Int)+1=1) from by decide),if_neg (show ¬((2:Int)+1=2) from by decide),if_pos ⟨rfl,rfl,rfl⟩]
  rfl
 have:=(h1.app h2).app h3
 unfold hdTx
 simpa only [List.append_assoc] using this
structure At (p:RP) (x:Scr) (m:Int):Prop where
  s:p.s=x
  hd:p.hd=3
  left:p.left=0
  px:p.px=[]
  part:p.part≤m
theorem jJw {s:Scr} (P:Prt s):∃ q,Rd_ ⟨⟨s.bits,s.c,s.tw,s.th,[],[],[]⟩,3,0,0,0,0,[]⟩ (orTx s) q∧At q ⟨s.bits,s.c,s.tw,s.th,s.ord,[],[]⟩ 1:=by
 unfold orTx
 by_cases h:0 < s.ord.length
 ·rw [if_pos h,← zZW _ _ (by decide)]
  have c1:∀ x∈[zZy]++digW s.ord,zXR x:=fun x hx=>by
   rcases List.mem_append.1 hx with hx | hx
   ·rw [List.mem_singleton.1 hx]; exact clean_of (by decide)
   ·exact zXO _ x hx
  refine ⟨⟨⟨s.bits,s.c,s.tw,s.th,s.ord,[],[]⟩,3,1,0,0,0,[]⟩,Rd_.line c1 ?_,rfl,rfl,rfl,rfl,by show (1:Int)≤1; decide⟩
  have n1:u32 (([zZy]++digW s.ord).drop 1)=(s.ord,true):=zJK P.o (by decide) (by decide)
  unfold zQX
  rw [zXy (by simp) c1,if_neg (show ¬((0:Int) < 0) from by decide),if_neg (show ¬((3:Int) < 3) from by decide),n1]
  rw [if_pos (show wAt ([zZy]++digW s.ord) 0=zZy from rfl)]
  simp [h]
 ·have h0:s.ord=[]:=List.length_eq_zero_iff.1 (by omega)
  rw [if_neg h,h0]
  exact ⟨_,Rd_.nil _,rfl,rfl,rfl,rfl,by show (0:Int)≤1; decide⟩
theorem zGP {p:Px} (h:pxIn p):pixW (digW (smpP p))=(p,true):=by
 obtain ⟨h1,h2,h3,h4,h5⟩:=h
 have n1:zZB (digW (smpP p)) 0 65535=(smpP p,true):=zJK (by unfold smpP; simp; omega) (by decide) (by decide)
 have ha:(digW (smpP p)).all (okN 0 65535)=true:=by
  cases g:(digW (smpP p)).all (okN 0 65535) with
  | true=>rfl
  | false=>rw [zZM g] at n1; cases n1
 rw [zZA ha] at n1
 have e:(digW (smpP p)).map numV=smpP p:=congrArg Prod.fst n1
 unfold pixW
 rw [if_pos ha,e]
 rfl
theorem jZF (p:Px):(∀ x∈digW (smpP p),zXR x)∧zQo (zZi (digW (smpP p)))=digW (smpP p):=
 ⟨zXO _,zXy (by simp [digW,smpP]) (zXO _)⟩
theorem zHU:∀ (l:List Px) (p:RP),l≠[]→(∀ x∈l,pxIn x)→p.left=l.length →
  Rd_ p (l.flatMap pxTx) { p with left:=0,s:={ p.s with ims:=p.s.ims++[imOf p.w p.h (p.px++l)] },px:=[] }
 | [],_,h,_,_=>absurd rfl h
 | [a],p,_,hI,hl=>by
  have hl:p.left=1:=by simpa using hl
  rw [List.flatMap_cons,List.flatMap_nil,List.append_nil,← zW7]
  refine Rd_.line (jZF a).1 ?_
  unfold zQX
  rw [(jZF a).2,zGP (hI a (by simp)),if_pos (by omega),if_pos hl]
 | a::b::l,p,_,hI,hl=>by
  rw [List.flatMap_cons]
  have hl:p.left=(l.length:Int)+2:=by rw [hl]; simp; omega
  have h1:Rd_ p (pxTx a) { p with left:=p.left - 1,px:=p.px++[a] }:=by
   rw [← zW7]
   refine Rd_.line (jZF a).1 ?_
   unfold zQX
   rw [(jZF a).2,zGP (hI a (by simp)),if_pos (by omega),if_neg (by omega)]
  refine h1.app ?_
  have h2:=zHU (b::l) { p with left:=p.left - 1,px:=p.px++[a] } (by simp) (fun x hx=>hI x (by simp [hx])) (by show p.left - 1=_; rw [hl]; simp; omega)
  have e:(p.px++[a])++(b::l)=p.px++(a::b::l):=by simp
  rw [show ({ p with left:=p.left - 1,px:=p.px++[a] }:RP).px++(b::l)=p.px++(a::b::l) from e] at h2
  exact h2
theorem jV6 {m:Im} (h:m.formed=true) (k:Lb) (l:List Lb):nz ([k]++digW [m.w,m.h]++l)=([m.w,m.h],true)∧¬16777216 / m.w < m.h:=by
 have hw:=Im.wh h
 have hs:=sizeIm_le' h
 refine ⟨zJK (l:=[m.w,m.h]) (by simp; omega) (by decide) (by decide),?_⟩
 have:=(Int.le_ediv_iff_mul_le (a:=m.h) (b:=16777216) (by omega:0 < m.w)).2 (by rw [Int.mul_comm]; exact hs)
 omega
theorem jJx {p:RP} {x:Scr} {m:Im} (A:At p x 1) (h:imIn m) (hi:x.ims.length < 64):∃ q,Rd_ p (imTx m) q∧At q { x with ims:=x.ims++[m.nrm] } 1:=by
 obtain ⟨hf,hc,hp⟩:=h
 have A3:=A.s
 by_cases hs:m.so=true
 ·rw [← zW6 m hs]
  have c1:∀ x∈[zQY]++digW ([m.w,m.h]++smpP m.c),zXR x:=fun x hx=>by
   rcases List.mem_append.1 hx with hx | hx
   ·rw [List.mem_singleton.1 hx]; exact clean_of (by decide)
   ·exact zXO _ x hx
  refine ⟨{ p with part:=1,s:={ p.s with ims:=p.s.ims++[m.nrm] } },Rd_.line c1 ?_,by rw [← A3],A.hd,A.left,A.px,by show (1:Int)≤1; decide⟩
  obtain ⟨n1,n2⟩:=jV6 hf zQY (digW (smpP m.c))
  have e:[zQY]++digW ([m.w,m.h]++smpP m.c)=[zQY]++digW [m.w,m.h]++digW (smpP m.c):=rfl
  unfold zQX
  rw [zXy (by simp) c1,if_neg (by rw [A.left]; decide),if_neg (by rw [A.hd]; decide),e]
  rw [if_neg (show ¬wAt ([zQY]++digW [m.w,m.h]++digW (smpP m.c)) 0=zZy from jVW),if_pos (show (wAt ([zQY]++digW [m.w,m.h]++digW (smpP m.c)) 0=zQY∨_) from .inl rfl)]
  unfold zQM
  have c2:¬(1 < p.part∨64≤p.s.ims.length∨([zQY]++digW [m.w,m.h]++digW (smpP m.c)).length < 3):=by
   have:=A.part
   rw [A3]
   rintro (g | g | g)
   ·omega
   ·omega
   ·have e8:([zQY]++digW [m.w,m.h]++digW (smpP m.c)).length=8:=rfl
    omega
  rw [if_neg c2,n1]
  have c3:¬((([m.w,m.h],true):List Int × Bool).2=false∨16777216 / iAt [m.w,m.h] 0 < iAt [m.w,m.h] 1):=by
   rintro (g | g)
   ·cases g
   ·exact n2 g
  rw [if_neg c3,if_pos (show wAt ([zQY]++digW [m.w,m.h]++digW (smpP m.c)) 0=zQY from rfl)]
  rw [show ([zQY]++digW [m.w,m.h]++digW (smpP m.c)).drop 3=digW (smpP m.c) from rfl,zGP hc]
  unfold Im.nrm
  rw [if_pos hs]
  rfl
 ·have hne:m.pixels≠[]:=fun e=>by
   have h1:=Im.pixels_len hf
   have h2:=Im.count_pos hf
   have hw:=Im.wh hf
   rw [e] at h1
   have:=Int.mul_pos (a:=m.w) (b:=m.h) (by omega) (by omega)
   simp at h1; omega
  have eT:imTx m=zZq ([zQ0]++digW [m.w,m.h])++m.pixels.flatMap pxTx:=by
   unfold imTx; rw [if_neg hs,zZW _ _ (by decide)]
  have c1:∀ x∈[zQ0]++digW [m.w,m.h],zXR x:=fun x hx=>by
   rcases List.mem_append.1 hx with hx | hx
   ·rw [List.mem_singleton.1 hx]; exact clean_of (by decide)
   ·exact zXO _ x hx
  have h1:Rd_ p (zZq ([zQ0]++digW [m.w,m.h])) { p with part:=1,w:=m.w,h:=m.h,left:=m.w*m.h }:=by
   refine Rd_.line c1 ?_
   obtain ⟨n1,n2⟩:=jV6 hf zQ0 []
   rw [List.append_nil] at n1
   unfold zQX
   rw [zXy (by simp) c1,if_neg (by rw [A.left]; decide),if_neg (by rw [A.hd]; decide)]
   rw [if_neg (show ¬wAt ([zQ0]++digW [m.w,m.h]) 0=zZy from (by decide:zQ0≠zZy)),if_pos (show (_∨wAt ([zQ0]++digW [m.w,m.h]) 0=zQ0) from .inr rfl)]
   unfold zQM
   have c2:¬(1 < p.part∨64≤p.s.ims.length∨([zQ0]++digW [m.w,m.h]).length < 3):=by
    have:=A.part
    rw [A3]
    rintro (g | g | g)
    ·omega
    ·omega
    ·simp [digW] at g
   rw [if_neg c2,n1]
   have c3:¬((([m.w,m.h],true):List Int × Bool).2=false∨16777216 / iAt [m.w,m.h] 0 < iAt [m.w,m.h] 1):=by
    rintro (g | g)
    ·cases g
    ·exact n2 g
   rw [if_neg c3,if_neg (show ¬wAt ([zQ0]++digW [m.w,m.h]) 0=zQY from (by decide:zQ0≠zQY))]
   rfl
  have h2:=zHU m.pixels { p with part:=1,w:=m.w,h:=m.h,left:=m.w*m.h } hne hp (Im.pixels_len hf).symm
  rw [eT]
  refine ⟨_,h1.app h2,?_,A.hd,rfl,rfl,by show (1:Int)≤1; decide⟩
  show ({ p.s with ims:=p.s.ims++[imOf m.w m.h (p.px++m.pixels)] }:Scr)=_
  rw [A.px,A3,List.nil_append]
  unfold Im.nrm
  rw [if_neg hs]
theorem zHV:∀ (l:List Im) {p:RP} {x:Scr},At p x 1→(∀ m∈l,imIn m)→x.ims.length+l.length≤64→∃ q,Rd_ p (l.flatMap imTx) q∧At q { x with ims:=x.ims++l.map Im.nrm } 1
 | [],p,x,A,_,_=>⟨p,Rd_.nil p,by rw [A.s]; simp,A.hd,A.left,A.px,A.part⟩
 | m::l,p,x,A,h,hl=>by
  rw [List.length_cons] at hl
  obtain ⟨q,h1,A1⟩:=jJx A (h m (by simp)) (by omega)
  obtain ⟨r,h2,A2⟩:=zHV l A1 (fun y hy=>h y (by simp [hy])) (by simp; omega)
  refine ⟨r,?_,?_⟩
  ·rw [List.flatMap_cons]; exact h1.app h2
  ·have e:({ x with ims:=x.ims++(m::l).map Im.nrm }:Scr)={ x with ims:=(x.ims++[m.nrm])++l.map Im.nrm }:=by simp
   rw [e]
   exact A2
theorem jJJ {o:Oq} (hk:opOk o=true) (hp:prtO o=true) (hq:0≤o.opac∧o.opac≤65535) :
  ∃ ws,opLn o=zZq ws∧ws≠[]∧(∀ x∈ws,zXR x)∧opR ws=(o,true)∧wAt ws 0≠zZy∧wAt ws 0≠zQY∧wAt ws 0≠zQ0:=by
 have hf:=hk
 unfold opOk at hf
 rw [Bool.and_eq_true,zYF,zYF] at hf
 obtain ⟨f1,f2⟩:=hf
 have f_i:=f1 o.image (by simp)
 have f_m:=f1 o.mask (by simp)
 have f_x:=f2 o.x (by simp)
 have f_y:=f2 o.y (by simp)
 have f_mx:=f2 o.mx (by simp)
 have f_my:=f2 o.my (by simp)
 have n_i:=zX1 f_i.1 f_i.2 (by decide) (by decide)
 have n_m:=zX1 f_m.1 f_m.2 (by decide) (by decide)
 have n_x:=zX1 f_x.1 f_x.2 (by decide) (by decide)
 have n_y:=zX1 f_y.1 f_y.2 (by decide) (by decide)
 have n_mx:=zX1 f_mx.1 f_mx.2 (by decide) (by decide)
 have n_my:=zX1 f_my.1 f_my.2 (by decide) (by decide)
 have n_o:=zH1 hq.1 hq.2 (by decide) (by decide)
 have v:∀ {x:Int},-2147483648≤x→x≤2147483647→numV (itoa x)=x:=fun h0 h1=>(zWr (by omega) (by omega)).2
 have hw:IntKind.wrap .u16 o.opac=o.opac:=by simp [IntKind.wrap,IntKind.bits,IntKind.signed]; omega
 unfold prtO at hp
 by_cases h1:o.kind=1
 ·rw [if_pos h1] at hp
  simp only [Bool.and_eq_true,Bool.not_eq_true',decide_eq_true_eq] at hp
  obtain ⟨⟨⟨p1,p2⟩,p3⟩,p4⟩:=hp
  obtain ⟨c3,e3⟩:=jKw p3
  obtain ⟨c4,e4⟩:=jZU p4
  refine ⟨_,(zGl o h1).symm,by simp,fun x hx=>?_,?_,(by decide:zZ0≠zZy),(by decide:zZ0≠zQY),(by decide:zZ0≠zQ0)⟩
  ·rcases List.mem_append.1 hx with hx | hx
   ·rcases List.mem_append.1 hx with hx | hx
    ·rw [List.mem_singleton.1 hx]; exact clean_of (by decide)
    ·exact zXO _ x hx
   ·simp at hx
    rcases hx with rfl | rfl
    ·exact c3
    ·exact c4
  ·show opR [zZ0,itoa o.image,itoa o.x,itoa o.y,itoa o.mask,itoa o.mx,itoa o.my,itoa o.opac,ofS (zQn o.oper),ofS (zQe o.mode)]=_
   have hC:zZ0=zZ0∧[itoa o.image,itoa o.mask].all (okN 0 255)=true∧[itoa o.x,itoa o.y,itoa o.mx,itoa o.my].all (okN (-2147483648) 2147483647)=true:=⟨rfl,by simp [n_i,n_m],by simp [n_x,n_y,n_mx,n_my]⟩
   refine (if_pos hC).trans ?_
   unfold zZu zJu
   have k_o:okN 0 65535 (itoa o.opac)=true:=zX1 hq.1 hq.2 (by decide) (by decide)
   rw [n_o,e3,e4,k_o,v (by omega) (by omega),v (by omega) (by omega),v (by omega) (by omega),v (by omega) (by omega),v (by omega) (by omega),v (by omega) (by omega),hw]
   refine Prod.ext ?_ rfl
   rcases o with ⟨k,im,x,y,m,mx,my,q,op,md,is,kn⟩
   simp only at h1 p1 p2
   subst h1; subst p1; subst p2
   rfl
 ·rw [if_neg h1] at hp
  by_cases h2:o.kind=2
  ·rw [if_pos h2] at hp
   simp only [Bool.and_eq_true,Bool.not_eq_true',decide_eq_true_eq] at hp
   obtain ⟨⟨⟨⟨p1,p2⟩,p2'⟩,p3⟩,p4⟩:=hp
   obtain ⟨c3,e3⟩:=jKw p3
   obtain ⟨c4,e4⟩:=jZU p4
   refine ⟨_,(zGk o h2).symm,by simp,fun x hx=>?_,?_,(by decide:zZ1≠zZy),(by decide:zZ1≠zQY),(by decide:zZ1≠zQ0)⟩
   ·rcases List.mem_append.1 hx with hx | hx
    ·rcases List.mem_append.1 hx with hx | hx
     ·rcases List.mem_append.1 hx with hx | hx
      ·rw [List.mem_singleton.1 hx]; exact clean_of (by decide)
      ·exact zXO _ x hx
     ·simp at hx
      rcases hx with rfl | rfl
      ·exact c3
      ·exact c4
    ·exact zXO _ x hx
   ·show opR [zZ1,itoa o.mask,itoa o.mx,itoa o.my,itoa o.opac,ofS (zQn o.oper),ofS (zQe o.mode),itoa (bitN o.iso),itoa (bitN o.kno)]=_
    have b:∀ z:Bool,okN 0 1 (itoa (bitN z))=true∧decide (numV (itoa (bitN z))=1)=z:=fun z=>by
     refine ⟨zX1 (by cases z <;> decide) (by cases z <;> decide) (by decide) (by decide),?_⟩
     rw [v (by cases z <;> decide) (by cases z <;> decide)]
     cases z <;> rfl
    have hC:zZ1=zZ1∧okN 0 255 (itoa o.mask)=true∧[itoa o.mx,itoa o.my].all (okN (-2147483648) 2147483647)=true∧[itoa (bitN o.iso),itoa (bitN o.kno)].all (okN 0 1)=true:=⟨rfl,n_m,by simp [n_mx,n_my],by simp [(b o.iso).1,(b o.kno).1]⟩
    refine (if_pos hC).trans ?_
    unfold zZu zJu
    have k_o:okN 0 65535 (itoa o.opac)=true:=zX1 hq.1 hq.2 (by decide) (by decide)
    rw [n_o,e3,e4,k_o,(b o.iso).2,(b o.kno).2,v (by omega) (by omega),v (by omega) (by omega),v (by omega) (by omega),hw]
    refine Prod.ext ?_ rfl
    rcases o with ⟨k,im,x,y,m,mx,my,q,op,md,is,kn⟩
    simp only at h2 p1 p2 p2'
    subst h2; subst p1; subst p2; subst p2'
    rfl
  ·rw [if_neg h2] at hp
   by_cases h3:o.kind=3
   ·rw [if_pos h3] at hp
    have:=of_decide_eq_true hp
    refine ⟨_,(zH8 o h1 h2).symm,by simp,fun x hx=>?_,?_,(by decide:sPop≠zZy),(by decide:sPop≠zQY),(by decide:sPop≠zQ0)⟩
    ·rw [List.mem_singleton.1 hx]; exact clean_of (by decide)
    ·rw [this]; rfl
   ·rw [if_neg h3] at hp; cases hp
theorem jWs {p:RP} {x:Scr} {o:Oq} (A:At p x 2) (hk:opOk o=true) (hp:prtO o=true) (hq:0≤o.opac∧o.opac≤65535) (hl:x.ops.length < 4096):∃ q,Rd_ p (opLn o) q∧At q { x with ops:=x.ops++[o] } 2:=by
 obtain ⟨ws,e,hne,hc,hr,h1,h2,h3⟩:=jJJ hk hp hq
 have A3:=A.s
 rw [e]
 refine ⟨{ p with part:=2,s:={ p.s with ops:=p.s.ops++[o] } },Rd_.line hc ?_,by rw [← A3],A.hd,A.left,A.px,by show (2:Int)≤2; decide⟩
 unfold zQX
 rw [zXy hne hc,if_neg (by rw [A.left]; decide),if_neg (by rw [A.hd]; decide),if_neg h1,if_neg (fun g=>g.elim h2 h3),hr,A3,decide_eq_true hl]
 rfl
theorem jKr:∀ (l:List Oq) {p:RP} {x:Scr},At p x 2→(∀ o∈l,(opOk o=true∧prtO o=true)∧0≤o.opac∧o.opac≤65535)→x.ops.length+l.length≤4096→∃ q,Rd_ p (l.flatMap opLn) q∧At q { x with ops:=x.ops++l } 2
 | [],p,x,A,_,_=>⟨p,Rd_.nil p,by rw [A.s]; simp,A.hd,A.left,A.px,A.part⟩
 | o::l,p,x,A,h,hl=>by
  rw [List.length_cons] at hl
  have ho:=h o (by simp)
  obtain ⟨q,h1,A1⟩:=jWs A ho.1.1 ho.1.2 ho.2 (by omega)
  obtain ⟨r,h2,A2⟩:=jKr l A1 (fun y hy=>h y (by simp [hy])) (by simp; omega)
  refine ⟨r,?_,?_⟩
  ·rw [List.flatMap_cons]; exact h1.app h2
  ·have e:({ x with ops:=x.ops++o::l }:Scr)={ x with ops:=(x.ops++[o])++l }:=by simp
   rw [e]
   exact A2
theorem jV0 {s:Scr} (P:Prt s) (hI:∀ m∈s.ims,imIn m) (hq:∀ o∈s.ops,0≤o.opac∧o.opac≤65535):∃ q,Rd_ zRP (fmtT s) q∧At q s.norm 2:=by
 have h1:=jK2 P
 obtain ⟨q2,h2,A2⟩:=jJw P
 obtain ⟨q3,h3,A3⟩:=zHV s.ims A2 hI (by have:=P.il; simp; omega)
 obtain ⟨q4,h4,A4⟩:=jKr s.ops (⟨A3.s,A3.hd,A3.left,A3.px,by have:=A3.part; omega⟩:At q3 _ 2) (fun o ho=>⟨P.op o ho,hq o ho⟩) (by have:=P.pl; simp; omega)
 refine ⟨q4,?_,?_⟩
 ·unfold fmtT
  exact ((h1.app h2).app h3).app h4
 ·have e:(⟨s.bits,s.c,s.tw,s.th,s.ord,[]++s.ims.map Im.nrm,[]++s.ops⟩:Scr)=s.norm:=rfl
  rw [← e]
  exact A4
theorem jJR {m:Im} (hf:m.formed=true):zXz m.nrm=zXz m∧m.nrm.formed=true:=by
 unfold Im.nrm zXz
 by_cases hs:m.so=true
 ·rw [if_pos hs,if_pos hs]; exact ⟨rfl,zXl _ (Im.formed_of hf).1⟩
 ·rw [if_neg hs,if_neg hs,zKJ (Im.pixels_ok hf)]; exact ⟨rfl,zKI (Im.pixels_ok hf)⟩
theorem zH2:∀ {l:List Im},(∀ m∈l,m.formed=true)→zZb (l.map Im.nrm)=zZb l∧(l.map Im.nrm).all Im.formed=true
 | [],_=>⟨rfl,rfl⟩
 | m::l,h=>by
  obtain ⟨h1,h2⟩:=jJR (h m (by simp))
  obtain ⟨h3,h4⟩:=zH2 (l:=l) fun y hy=>h y (by simp [hy])
  rw [List.map_cons,zZb,zZb,h1,h3,List.all_cons,h2,h4]
  exact ⟨rfl,rfl⟩
theorem jVi {s:Scr} (h:zZX s=true):zZX s.norm=true:=by
 unfold zZX at h ⊢
 simp only [Bool.and_eq_true] at h
 obtain ⟨⟨⟨h1,h2⟩,h3⟩,h4⟩:=h
 obtain ⟨h5,h6⟩:=zH2 (l:=s.ims) (List.all_eq_true.1 h2)
 have e1:zYl s.norm=zYl s:=by unfold zYl Scr.norm; simp
 have e2:zXC s.norm s.norm.ims=zXC s s.ims:=by unfold zXC; show _+zZb (s.ims.map Im.nrm)=_; rw [h5]; rfl
 rw [e1,e2,h1,h4,show s.norm.ims.all Im.formed=true from h6,show s.norm.ops.all opOk=true from h3]
 rfl
theorem zHY {s:Scr} (h:zYz s=true) (hI:∀ m∈s.ims,imIn m) (hq:∀ o∈s.ops,0≤o.opac∧o.opac≤65535):zQ7 (fmtT s)=(s.norm,0,0):=by
 obtain ⟨q,h1,A⟩:=jV0 (jZD h) hI hq
 have:=h1 0 []
 rw [List.append_nil] at this
 unfold zQ7
 rw [this,rGo,if_neg (by rw [A.hd,A.left]; decide),A.s,if_pos (jVi (Bool.and_eq_true_iff.1 h).1)]
theorem jY2 {bits:Int} {mn:Nat} {o:Oq} {st:List Oq} (h:errO bits mn o st=0):prtO o=true:=by
 unfold errO at h
 split at h
 ·cases h
 rename_i k1
 split at h
 ·cases h
 rename_i k2
 split at h
 ·rename_i k3
  have:o=popO:=by
   unfold Oq.fields at k2
   rw [if_pos k3] at k2
   simpa using k2
  subst this
  decide
 rename_i k3
 split at h
 ·cases h
 split at h
 ·cases h
 split at h
 ·cases h
 split at h
 ·cases h
 rename_i k7
 split at h
 ·cases h
 rename_i k8
 have k7:=Classical.not_not.1 k7
 have k8:=Classical.not_not.1 k8
 have k1:=Classical.not_not.1 k1
 unfold Oq.fields at k2
 rw [if_neg k3] at k2
 unfold prtO
 rw [decide_eq_true k7,decide_eq_true k8]
 rcases k1 with k1 | k1 | k1
 ·rw [if_pos k1]
  revert k2
  cases o.iso <;> cases o.kno <;> simp [k1]
 ·rw [if_neg (by omega),if_pos k1]
  by_cases z1:o.image=0 <;> by_cases z2:o.x=0 <;> by_cases z3:o.y=0 <;> simp_all
 ·exact absurd k1 k3
theorem Scn.ops_prt (s:Scn):s.ops.all prtO=true:=by
 rw [List.all_eq_true]
 intro o ho
 obtain ⟨st,h⟩:=jQ7 s.ops_ok o ho
 exact jY2 h
theorem Scn.prt (s:Scn) {ms:List Im} (h1:ms.length≤64) (h2:∀ m∈ms,m.formed=true∧m.w≤100∧m.h≤100):zYz ⟨s.bits,s.c,s.gtw,s.gth,s.ord,ms,s.ops⟩=true:=by
 unfold zYz
 rw [s.enc h1 h2 (by have:=s.ops_len; omega) s.ops_fit,show (⟨s.bits,s.c,s.gtw,s.gth,s.ord,ms,s.ops⟩:Scr).ops.all prtO=true from s.ops_prt]
 rfl
theorem Scn.prt_scr (s:Scn):zYz s.scr=true:=s.prt (by have:=s.ims_len; omega) fun m hm=>⟨(s.fine m hm).1,(s.fine m hm).2.1⟩
theorem Scn.fmt (s:Scn):fmtR s.scr=(fmtT s.scr,0):=by unfold fmtR; rw [if_pos s.prt_scr]
theorem Scn.read (s:Scn):zQ7 (fmtT s.scr)=(s.scr.norm,0,0):=zHY s.prt_scr s.ims_in s.ops_opac
theorem jXJ {m:Im} (h:imIn m) (hm:m.w≤100∧m.h≤100):(imTx m).length≤1110300:=by
 have hw:=Im.wh h.1
 have hpx:=Im.pixels_len h.1
 have hle:m.w*m.h≤10000:=by
  have h1:=Int.mul_le_mul_of_nonneg_left hm.2 (by omega:0≤m.w)
  omega
 have l1:(zQH zQY [m.w,m.h]).length≤5+22*2:=zXc (fun n hn=>by
  simp only [List.mem_cons,List.not_mem_nil,or_false] at hn
  omega) rfl
 have l3:(zQH zQ0 [m.w,m.h]).length≤5+22*2:=zXc (fun n hn=>by
  simp only [List.mem_cons,List.not_mem_nil,or_false] at hn
  omega) rfl
 have hc:=h.2.1
 obtain ⟨c1,c2,c3,c4,c5⟩:=hc
 have l2:(zQH (zQH zQY [m.w,m.h]) (smpP m.c)).length≤(zQH zQY [m.w,m.h]).length+22*5:=zXc (fun x hx=>by
  simp only [smpP,List.mem_cons,List.not_mem_nil,or_false] at hx
  omega) rfl
 have l4:=zKK (f:=pxTx) (B:=111) (l:=m.pixels) fun p hp=>zWm (h.2.2 p hp)
 unfold imTx
 split
 ·simp only [List.length_append,List.length_cons,List.length_nil]; omega
 ·simp only [List.length_append,List.length_cons,List.length_nil]; omega
theorem Scn.fmt_len (s:Scn):(fmtT s.scr).length≤5000000:=by
 have P:=jZD s.prt_scr
 have h:=zWu P
 obtain ⟨p1,p2,p3,p4,p5,p6,p7,p8,p9⟩:=P
 have li:=s.ims_len
 have lo:=s.ops_len
 have ld:=s.ord_len
 have h1:=zKK (f:=imTx) (B:=1110300) (l:=s.ims) fun m hm=>jXJ (s.ims_in m hm) (s.fine m hm).2.1
 have h2:=zKK (f:=opLn) (B:=301) (l:=s.ops) fun o ho=>by
  have:=zGR (p9 o ho).1 (s.ops_opac o ho)
  unfold opLn
  simp only [List.length_append,List.length_cons,List.length_nil]
  omega
 have h3:(orTx s.scr).length≤5+22*s.ord.length+1:=by
  unfold orTx
  split
  ·simp only [List.length_append,List.length_cons,List.length_nil]; exact Nat.succ_le_succ h.2.2.2
  ·simp
 have h4:=h.1
 have h5:=h.2.1
 have h6:=h.2.2.1
 unfold fmtT hdTx
 simp only [List.length_append,List.length_cons,List.length_nil]
 have e1:s.scr.ims=s.ims:=rfl
 have e2:s.scr.ops=s.ops:=rfl
 rw [e1,e2]
 omega
theorem zVE:∀ (t acc:Lb) (p:RP) (n:Int),(rGo p n acc t).2.2=0→∀ m∈(rGo p n acc t).1.ims,m.formed=true
 | [],acc,p,n,h=>by
  rw [rGo] at h ⊢
  split at h
  ·cases h
  ·rename_i c1
   rw [if_neg c1]
   split at h
   ·rename_i c2
    rw [if_pos c2]
    unfold zZX at c2
    simp only [Bool.and_eq_true] at c2
    exact List.all_eq_true.1 c2.1.1.2
   ·cases h
 | c::t,acc,p,n,h=>by
  rw [rGo] at h ⊢
  split at h
  ·rename_i c1
   rw [if_pos c1]
   split at h
   ·rename_i c2
    rw [if_pos c2]
    exact zVE t [] _ _ h
   ·cases h
  ·rename_i c1
   rw [if_neg c1]
   exact zVE t _ _ _ h
theorem jXA {t:Lb} (h:(zQ7 t).2.2=0):eqS (zQ7 t).1 (zQ7 t).1=true:=jJ7 (zVE t [] zRP 0 h)
theorem jYL {l:List Im} {m:Im} (h:∀ x∈l,x.isU) (hm:m.isU):∀ x∈l++[m],x.isU:=fun x hx=>by
 rcases List.mem_append.1 hx with hx | hx
 ·exact h x hx
 ·rw [List.mem_singleton.1 hx]; exact hm
theorem jYp {p:RP} (h:∀ m∈p.s.ims,m.isU) (w:Lb):∀ m∈(zQX p w).1.s.ims,m.isU:=by
 unfold zQX zQE zQM
 (repeat' split) <;> first
  | exact h
  | exact jYL h (zG9 _ _ _)
  | exact jYL h (zYr _ _ _)
theorem jQ1:∀ (t acc:Lb) (p:RP) (n:Int),(∀ m∈p.s.ims,m.isU)→∀ m∈(rGo p n acc t).1.ims,m.isU
 | [],acc,p,n,h=>by
  rw [rGo]
  split
  ·intro m hm; cases hm
  ·split
   ·exact h
   ·intro m hm; cases hm
 | c::t,acc,p,n,h=>by
  rw [rGo]
  split
  ·split
   ·exact jQ1 t [] _ _ (jYp h acc)
   ·intro m hm; cases hm
  ·exact jQ1 t _ _ _ h
theorem zGd (t:Lb):∀ m∈(zQ7 t).1.ims,m.isU:=jQ1 t [] zRP 0 fun m hm=>by cases hm
def jQG:Lb:=[98,105,116,115,32,56,10,99,97,110,118,97,115,32,45,49,32,48,32,50,32,50,10,116,105,108,101,115,32,49,32,50,10,115,111,108,105,100,32,51,32,50,32,49,32,50,32,51,32,52,32,53,10,100,114,97,119,32,48,32,45,49,32,50,32,48,32,48,32,48,32,50,53,53,32,115,114,99,45,111,118,101,114,32,110,111,114,109,97,108,10]
def awS:Scr:=⟨8,⟨-1,0,2,2⟩,1,2,[],[zQg 3 2 ⟨1,2,3,4,5⟩],[⟨1,0,-1,2,0,0,0,255,4,1,false,false⟩]⟩
theorem it (w:Lb) (v:Int) (h:zYb w=true) (hv:numV w=v):itoa v=w:=hv ▸ zGA h
theorem jWm:ofS (zQn 4)=[115,114,99,45,111,118,101,114]:=by decide +kernel
theorem jKg:ofS (zQe 1)=[110,111,114,109,97,108]:=by decide +kernel
theorem jKJ:zYz awS=true:=by decide +kernel
theorem jKM:fmtT awS=jQG:=by
 have e0:=it [48] 0 rfl rfl
 have e1:=it [49] 1 rfl rfl
 have e2:=it [50] 2 rfl rfl
 have e3:=it [51] 3 rfl rfl
 have e4:=it [52] 4 rfl rfl
 have e5:=it [53] 5 rfl rfl
 have e8:=it [56] 8 rfl rfl
 have e9:=it [45,49] (-1) rfl rfl
 have e255:=it [50,53,53] 255 rfl rfl
 simp [fmtT,hdTx,orTx,imTx,opLn,opTx,zYv,awS,zQg,zQH,smpP,zYc,zZE,zXa,zQY,zZ0,jQG,jWm,jKg,e0,e1,e2,e3,e4,e5,e8,e9,e255]
theorem jVR:fmtR awS=(jQG,0):=by unfold fmtR; rw [if_pos jKJ,jKM]
theorem jWC:imIn (zQg 3 2 ⟨1,2,3,4,5⟩):=by
 refine jYO (by decide +kernel) fun p hp=>?_
 have:p=⟨1,2,3,4,5⟩:=by
  rw [Im.pixels_so (by decide +kernel) rfl] at hp
  exact List.eq_of_mem_replicate hp
 subst this
 exact ⟨by decide,by decide,by decide,by decide,by decide⟩
theorem jKL:∀ m∈awS.ims,imIn m:=fun m hm=>by rw [List.mem_singleton.1 hm]; exact jWC
theorem jKf:zQ7 jQG=(awS,0,0):=by
 rw [← jKM,zHY jKJ]
 ·rfl
 ·exact jKL
 ·intro o ho
  rw [List.mem_singleton.1 ho]
  decide
theorem jQy:zZa jQG=(awS,0,0):=by rw [jZH,jKf]
theorem jKK:zZa []=(zScr,1,19):=rfl
end
section
attribute [local irreducible] Ans AnsO AnsG AnsN AnsI
def gZ54 (xs:List RV):Option RV:=match xs with | [.d (.str s)]=>let a:=(zZa (ofS s)); some (RV.tup [RV.agg [dJ a.1.bits,dJ a.1.c.a,dJ a.1.c.b,dJ a.1.c.c,dJ a.1.c.d,dJ a.1.tw,dJ a.1.th,dS a.1.ord.length (is a.1.ord),dS a.1.ims.length (ims a.1.ims),dS a.1.ops.length (ops a.1.ops)],rJ a.2.1,rJ a.2.2]) | _=>none
def gZ55 (xs:List RV):Option RV:=match xs with | [.agg [.int _ bits,.int _ cx0,.int _ cy0,.int _ cx1,.int _ cy1,.int _ tw,.int _ th,.sl on oxs,.sl mn mxs,.sl pn pxs]]=>some (RV.tup [RV.d (DV.str (toS (fmtR (⟨bits,⟨cx0,cy0,cx1,cy1⟩,tw,th,ints oxs,zQR mxs,zQK pxs⟩:Scr)).1)),rJ (fmtR (⟨bits,⟨cx0,cy0,cx1,cy1⟩,tw,th,ints oxs,zQR mxs,zQK pxs⟩:Scr)).2]) | _=>none
def jWi:Gam where
 pure:=fun f xs=>
  if f=15 then gZ54 xs else
  if f=11 then gZ55 xs else
  none
 modes:=fun f=>
  none
 proc:=fun f xs bs=>
  none
 iter:=fun f cs=>
  none
def zVt:Ann:=Ann.leaf
theorem jQC:vcg prog jWi 63 (zV4 Tryz.f13) (zVt ) kn0 (zWc []) (post prog Tryz.f13.results.toList (·=RV.d (dQ true))) =
 (let c:=(RV.d (dQ false)=RV.d (dQ true)); let f:=(⟨#[98,105,116,115,32,56,10,99,97,110,118,97,115,32,45,49,32,48,32,50,32,50,10,116,105,108,101,115,32,49,32,50,10,115,111,108,105,100,32,51,32,50,32,49,32,50,32,51,32,52,32,53,10,100,114,97,119,32,48,32,45,49,32,50,32,48,32,48,32,48,32,50,53,53,32,115,114,99,45,111,118,101,114,32,110,111,114,109,97,108,10]⟩:ByteArray); let a:=(zZa (ofS f)); let g:=(a.1.ops.length:Int); let d:=(ops a.1.ops); let h:=(nAt d 2); let e:=(fmtR (⟨a.1.bits,⟨a.1.c.a,a.1.c.b,a.1.c.c,a.1.c.d⟩,a.1.tw,a.1.th,ints (is a.1.ord),zQR (ims a.1.ims),zQK d⟩:Scr)); let i:=((toS e.1).toList==f.toList); let b:=(zZa (ofS (⟨#[]⟩:ByteArray))); let j:=[dJ a.1.bits,dJ a.1.c.a,dJ a.1.c.b,dJ a.1.c.c,dJ a.1.c.d,dJ a.1.tw,dJ a.1.th,dS a.1.ord.length (is a.1.ord),dS a.1.ims.length (ims a.1.ims),dS a.1.ops.length d]; tU3 ((Ans prog 15 [RV.d (DV.str f)] (RV.tup [RV.agg j,rJ a.2.1,rJ a.2.2]))∧True∧tU8 ((Ans prog 11 [RV.agg j] (RV.tup [RV.d (DV.str (toS e.1)),rJ e.2]))∧tU5 ((Ans prog 15 [RV.d (DV.str (⟨#[]⟩:ByteArray))] (RV.tup [RV.agg [dJ b.1.bits,dJ b.1.c.a,dJ b.1.c.b,dJ b.1.c.c,dJ b.1.c.d,dJ b.1.tw,dJ b.1.th,dS b.1.ord.length (is b.1.ord),dS b.1.ims.length (ims b.1.ims),dS b.1.ops.length (ops b.1.ops)],rJ b.2.1,rJ b.2.2]))∧tU3 (tU8 (((a.2.2==0)=true→tU4 (((a.2.1==0)=true→tU6 (((g==1)=true→tU2 ((0≤(0:Int)∧(0:Int) < g∧0 < d.length)∧True∧((d[2]?=some (dJ h))∧True)∧tU3 (((h==(-1:Int))=true→tU4 (((e.2==0)=true→tU5 ((i=true→tU4 (((b.2.2==19)=true→tU4 (RV.d (dQ (b.2.1==1))=RV.d (dQ true)))∧((b.2.2==19)=(!true)→tU2 c)))∧(i=(!true)→tU4 c)))∧((e.2==0)=(!true)→tU6 c)))∧((h==(-1:Int))=(!true)→tU8 c))))∧((g==1)=(!true)→tU2 (tU8 c))))∧((a.2.1==0)=(!true)→tU4 (tU8 c))))∧((a.2.2==0)=(!true)→tU6 (tU8 c)))))))):=by kernel_rfl
theorem zHB:Ans prog 13 [] (RV.d (dQ true)):=
 zQj (Γ:=jWi) (zVt ) zQs Tryz.func13 rfl (nL rfl) fun hwf=>by
  refine Eq.mpr (jQC ) ?_
  delta dJ dQ dS rJ
  simp only [sS]
  have f:=zWy awS (fun m hm=>by rw [List.mem_singleton.1 hm]; exact zYr _ _ _) (fun m hm _=>jKL m hm) (fun o ho=>by rw [List.mem_singleton.1 ho]; decide) (by decide)
  have p:=zYK jQG (by decide)
  have q:=zYK [] (by decide)
  have hW:(⟨#[98,105,116,115,32,56,10,99,97,110,118,97,115,32,45,49,32,48,32,50,32,50,10,116,105,108,101,115,32,49,32,50,10,115,111,108,105,100,32,51,32,50,32,49,32,50,32,51,32,52,32,53,10,100,114,97,119,32,48,32,45,49,32,50,32,48,32,48,32,48,32,50,53,53,32,115,114,99,45,111,118,101,114,32,110,111,114,109,97,108,10]⟩:ByteArray)=toS jQG:=rfl
  have hE:(⟨#[]⟩:ByteArray)=toS []:=rfl
  simp only [zQN,jQy,jKK] at p q
  simp only [hW,hE,zQN,jQy,jKK,zQO,zQ2,zQU]
  have eS:(⟨awS.bits,⟨awS.c.a,awS.c.b,awS.c.c,awS.c.d⟩,awS.tw,awS.th,awS.ord,awS.ims,awS.ops⟩:Scr)=awS:=rfl
  simp only [eS,jVR] at f ⊢
  refine ⟨p,f,q,fun _=>⟨fun _=>⟨fun _=>⟨⟨by decide,by decide,by decide⟩,rfl,fun _=>⟨fun _=>⟨fun _=>⟨fun _=>rfl,fun h=>absurd h (by decide)⟩,fun h=>?_⟩,fun h=>absurd h (by decide)⟩,fun h=>absurd h (by decide)⟩,fun h=>absurd h (by decide)⟩,fun h=>absurd h (by decide)⟩,fun h=>absurd h (by decide)⟩
  rw [beq_self_eq_true] at h
  cases h
end
def zXe (P:Program) (ls:List TypeId) (n:Nat) (xs:List DV):Prop:=
 xs.length=n*ls.length∧∀ (j:Nat) d,xs[j]?=some d→∃ t',ls[j % ls.length]?=some t'∧∃ q,zXr P q t' d
theorem zXe.at_ {P:Program} {ls:List TypeId} {n:Nat} {xs:List DV} (h:zXe P ls n xs) {k r:Nat} {t:TypeId} (hk:k < n) (hr:ls[r]?=some t):∃ d q,xs[k*ls.length+r]?=some d∧zXr P q t d:=by
 obtain ⟨hn,hx⟩:=h
 have hr':r < ls.length:=(List.getElem?_eq_some_iff.1 hr).1
 have hle:(k+1)*ls.length≤n*ls.length:=Nat.mul_le_mul_right _ (by omega)
 rw [Nat.add_mul] at hle
 have hj:k*ls.length+r < xs.length:=by omega
 obtain ⟨t',a,q,b⟩:=hx _ _ (List.getElem?_eq_getElem hj)
 rw [Nat.mul_comm k,Nat.mul_add_mod,Nat.mod_eq_of_lt hr',hr] at a
 injection a with a
 subst a
 exact ⟨_,q,List.getElem?_eq_getElem hj,b⟩
theorem zXe.int {P:Program} {ls:List TypeId} {n:Nat} {xs:List DV} (h:zXe P ls n xs) {k r:Nat} {t:TypeId} {kk:IntKind} (hk:k < n) (hr:ls[r]?=some t) (hu:P.underlying t=some (.int kk)):xs[k*ls.length+r]?=some (.int kk (nAt xs (k*ls.length+r))):=by
 obtain ⟨d,q,e,b⟩:=h.at_ hk hr
 obtain ⟨v,rfl⟩:=b.int hu
 simp only [nAt,e]
theorem zXe.bool {P:Program} {ls:List TypeId} {n:Nat} {xs:List DV} (h:zXe P ls n xs) {k r:Nat} {t:TypeId} (hk:k < n) (hr:ls[r]?=some t) (hu:P.underlying t=some .bool):xs[k*ls.length+r]?=some (.bool (bAt xs (k*ls.length+r))):=by
 obtain ⟨d,q,e,b⟩:=h.at_ hk hr
 obtain ⟨v,rfl⟩:=b.bool hu
 simp only [bAt,e]
theorem zXe.sl {P:Program} {ls:List TypeId} {n:Nat} {xs:List DV} (h:zXe P ls n xs) {k r:Nat} {t e:TypeId} {ms:List TypeId} (hk:k < n) (hr:ls[r]?=some t) (hu:P.underlying t=some (.slice e)) (hl:lv P e=some ms) :
  xs[k*ls.length+r]?=some (.sl (lAt xs (k*ls.length+r)) (cAt xs (k*ls.length+r)))∧zXe P ms (lAt xs (k*ls.length+r)) (cAt xs (k*ls.length+r)):=by
 obtain ⟨d,q,e1,b⟩:=h.at_ hk hr
 obtain ⟨m,ys,rfl,_,h1,h2⟩:=b.slice hu hl
 simp only [lAt,cAt,e1]
 exact ⟨trivial,h1,h2⟩
theorem zXe.ints {P:Program} {t:TypeId} {n:Nat} {xs:List DV} (h:zXe P [t] n xs) (hu:P.underlying t=some (.int .i64)):xs=is (ints xs)∧n=xs.length:=
 jKC (by have:=h.1; simpa using this) fun j d hj=>by obtain ⟨t',a,q,b⟩:=h.2 j d hj; exact jZ1 hu a b
theorem zXe.five {P:Program} {t:TypeId} {n:Nat} {xs:List DV} (h:zXe P [t,t,t,t,t] n xs) (hu:P.underlying t=some (.int .i64)):Is5 n xs:=
 jV9 h.1 fun j d hj=>by obtain ⟨t',a,q,b⟩:=h.2 j d hj; exact jJV hu a b
theorem zXe.pics {P:Program} {t ts e:TypeId} {n:Nat} {xs:List DV} (h:zXe P [t,t,t,t,ts] n xs) (hu:P.underlying t=some (.int .i64)) (hs:P.underlying ts=some (.slice e)) (hl:lv P e=some [t,t,t,t,t]):jKO n xs:=
 ⟨h.1,fun k hk=>⟨h.int (r:=0) hk rfl hu,h.int (r:=1) hk rfl hu,h.int (r:=2) hk rfl hu,h.int (r:=3) hk rfl hu,(h.sl (r:=4) hk rfl hs hl).1,(h.sl (r:=4) hk rfl hs hl).2.five hu⟩⟩
theorem zXe.raws {P:Program} {t:TypeId} {n:Nat} {xs:List DV} (h:zXe P [t,t,t,t,t,t,t,t,t,t,t] n xs) (hu:P.underlying t=some (.int .i64)):jWn n xs:=by
 refine ⟨h.1,fun i hi=>?_⟩
 have hr:[t,t,t,t,t,t,t,t,t,t,t][i % 11]?=some t:=by
  have h2:i % 11 < 11:=Nat.mod_lt _ (by omega)
  generalize i % 11=r at *
  match r,h2 with
  | 0,_ | 1,_ | 2,_ | 3,_ | 4,_ | 5,_ | 6,_ | 7,_ | 8,_ | 9,_ | 10,_=>rfl
 have:=h.int (k:=i / 11) (r:=i % 11) (by omega) hr hu
 have e:i / 11*[t,t,t,t,t,t,t,t,t,t,t].length+i % 11=i:=by show i / 11*11+i % 11=i; omega
 rw [e] at this
 exact this
theorem jJe {xs ys:List DV} {n m:Nat} (hx:xs.length=n*m) (hy:ys.length=n*m) (h:∀ k,k < n→∀ j,j < m→xs[k*m+j]?=ys[k*m+j]?):xs=ys:=by
 refine List.ext_getElem? fun i=>?_
 by_cases hi:i < n*m
 ·have hm:0 < m:=by
   rcases Nat.eq_zero_or_pos m with h0 | h0
   ·subst h0; simp at hi
   ·exact h0
  have:=h (i / m) (Nat.div_lt_of_lt_mul (by rw [Nat.mul_comm]; exact hi)) (i % m) (Nat.mod_lt _ hm)
  have e:i / m*m+i % m=i:=by rw [Nat.mul_comm]; exact Nat.div_add_mod i m
  rw [e] at this
  exact this
 ·rw [List.getElem?_eq_none (by omega),List.getElem?_eq_none (by omega)]
theorem zXe.ops {P:Program} {t u b:TypeId} {n:Nat} {xs:List DV} (h:zXe P [t,t,t,t,t,t,t,u,t,t,b,b] n xs) (ht:P.underlying t=some (.int .i64)) (hu:P.underlying u=some (.int .u16)) (hb:P.underlying b=some .bool):jWD n xs:=by
 have hl:xs.length=n*12:=h.1
 have hn:(zQK xs).length=n:=by unfold zQK; rw [List.length_map,List.length_range,hl]; omega
 refine ⟨jJe hl (by rw [zQ6,hn]) fun k hk j hj=>?_,hn.symm⟩
 have e:(zQK xs)[k]'(by omega)=oqAt xs (k*12):=by simp [zQK]
 rw [zGQ (by omega) j hj,e]
 have key:=fun r (hr:r < 12)=>h.at_ (k:=k) (r:=r) (t:=[t,t,t,t,t,t,t,u,t,t,b,b][r]) hk (List.getElem?_eq_getElem hr)
 match j,hj with
 | 0,_=>exact h.int (r:=0) hk rfl ht
 | 1,_=>exact h.int (r:=1) hk rfl ht
 | 2,_=>exact h.int (r:=2) hk rfl ht
 | 3,_=>exact h.int (r:=3) hk rfl ht
 | 4,_=>exact h.int (r:=4) hk rfl ht
 | 5,_=>exact h.int (r:=5) hk rfl ht
 | 6,_=>exact h.int (r:=6) hk rfl ht
 | 7,_=>exact h.int (r:=7) hk rfl hu
 | 8,_=>exact h.int (r:=8) hk rfl ht
 | 9,_=>exact h.int (r:=9) hk rfl ht
 | 10,_=>exact h.bool (r:=10) hk rfl hb
 | 11,_=>exact h.bool (r:=11) hk rfl hb
def IsBs (n:Nat) (xs:List DV):Prop:=xs.length=n∧∀ i,i < n→xs[i]?=some (.bool (bAt xs i))
theorem zXe.bools {P:Program} {b:TypeId} {n:Nat} {xs:List DV} (h:zXe P [b] n xs) (hb:P.underlying b=some .bool):IsBs n xs:=
 ⟨by have:=h.1; simpa using this,fun i hi=>by
  have:=h.bool (k:=i) (r:=0) hi rfl hb
  simpa using this⟩
section
attribute [local irreducible] Ans AnsO AnsG AnsN AnsI
theorem dmg (q:Nat) (h:q < 12):([DV.str ⟨#[]⟩,DV.str ⟨#[32]⟩,DV.str ⟨#[10]⟩,DV.str ⟨#[48]⟩,DV.str ⟨#[45]⟩,DV.str ⟨#[49]⟩,DV.str ⟨#[57,57,57,57,57,57,57,57,57,57,57]⟩,DV.str ⟨#[111,114,100,101,114,32,48,10]⟩,DV.str ⟨#[105,109,97,103,101,32,49,32,49,10]⟩,DV.str ⟨#[112,111,112,10]⟩,DV.str ⟨#[100,114,97,119,32,48,32,48,32,48,32,48,32,48,32,48,32,50,53,53,32,120,111,114,32,110,111,114,109,97,108,10]⟩,DV.str ⟨#[115,111,108,105,100,32,49,32,49,32,48,32,48,32,48,32,48,32,54,53,53,51,54,10]⟩])[q]?=some (DV.str (sAt [DV.str ⟨#[]⟩,DV.str ⟨#[32]⟩,DV.str ⟨#[10]⟩,DV.str ⟨#[48]⟩,DV.str ⟨#[45]⟩,DV.str ⟨#[49]⟩,DV.str ⟨#[57,57,57,57,57,57,57,57,57,57,57]⟩,DV.str ⟨#[111,114,100,101,114,32,48,10]⟩,DV.str ⟨#[105,109,97,103,101,32,49,32,49,10]⟩,DV.str ⟨#[112,111,112,10]⟩,DV.str ⟨#[100,114,97,119,32,48,32,48,32,48,32,48,32,48,32,48,32,50,53,53,32,120,111,114,32,110,111,114,109,97,108,10]⟩,DV.str ⟨#[115,111,108,105,100,32,49,32,49,32,48,32,48,32,48,32,48,32,54,53,53,51,54,10]⟩] q))∧∃ x:Lb,sAt [DV.str ⟨#[]⟩,DV.str ⟨#[32]⟩,DV.str ⟨#[10]⟩,DV.str ⟨#[48]⟩,DV.str ⟨#[45]⟩,DV.str ⟨#[49]⟩,DV.str ⟨#[57,57,57,57,57,57,57,57,57,57,57]⟩,DV.str ⟨#[111,114,100,101,114,32,48,10]⟩,DV.str ⟨#[105,109,97,103,101,32,49,32,49,10]⟩,DV.str ⟨#[112,111,112,10]⟩,DV.str ⟨#[100,114,97,119,32,48,32,48,32,48,32,48,32,48,32,48,32,50,53,53,32,120,111,114,32,110,111,114,109,97,108,10]⟩,DV.str ⟨#[115,111,108,105,100,32,49,32,49,32,48,32,48,32,48,32,48,32,54,53,53,51,54,10]⟩] q=toS x∧x.length≤60:=by
 match q,h with
 | 0,_ | 1,_ | 2,_ | 3,_ | 4,_ | 5,_ | 6,_ | 7,_ | 8,_ | 9,_ | 10,_ | 11,_=>exact ⟨rfl,_,rfl,by decide⟩
def zKm:Gam where
 pure:=fun f xs=>
  if f=12 then gZ55 xs else
  if f=13 then (match xs with | []=>some (RV.d (dQ true)) | _=>none) else
  if f=14 then gZ0 xs else
  if f=14 then gZ0 xs else
  if f=14 then gZ0 xs else
  if f=15 then gZ54 xs else
  if f=17 then (match xs with | [.d (.str s)]=>let a:=(zQ7 (ofS s)); some (RV.tup [RV.agg [dJ a.1.bits,dJ a.1.c.a,dJ a.1.c.b,dJ a.1.c.c,dJ a.1.c.d,dJ a.1.tw,dJ a.1.th,dS a.1.ord.length (is a.1.ord),dS a.1.ims.length (ims a.1.ims),dS a.1.ops.length (ops a.1.ops)],rJ a.2.1,rJ a.2.2]) | _=>none) else
  if f=16 then (match xs with | [.agg [.int _ bits,.int _ cx0,.int _ cy0,.int _ cx1,.int _ cy1,.int _ tw,.int _ th,.sl on oxs,.sl mn mxs,.sl pn pxs],.agg [.int _ bitsq,.int _ cx0q,.int _ cy0q,.int _ cx1q,.int _ cy1q,.int _ twq,.int _ thq,.sl onq oxsq,.sl mnq mxsq,.sl pnq pxsq]]=>some (RV.d (dQ (eqS (⟨bits,⟨cx0,cy0,cx1,cy1⟩,tw,th,ints oxs,zQR mxs,zQK pxs⟩:Scr) (⟨bitsq,⟨cx0q,cy0q,cx1q,cy1q⟩,twq,thq,ints oxsq,zQR mxsq,zQK pxsq⟩:Scr)))) | _=>none) else
  none
 modes:=fun f=>
  if f=9 then some ([true],0,3) else
  none
 proc:=fun f xs bs=>
  if f=9 then (match xs,bs with | [AV.agg [Cl.d (DV.int _ sb),Cl.d (DV.int _ sx),Cl.d (DV.int _ sy),Cl.d (DV.int _ sw),Cl.d (DV.int _ sh),Cl.d (DV.int _ stw),Cl.d (DV.int _ sth),Cl.d (DV.sl son soxs),Cl.d (DV.sl spn spxs),Cl.d (DV.sl srn srxs)]],[]=>let a:=(⟨sb,sx,sy,sw,sh,stw,sth,son,soxs,spn,spxs,srn,srxs⟩:Scn); some ⟨AV.agg [Cl.d (DV.int .i64 a.bits),Cl.d (DV.int .i64 a.c.a),Cl.d (DV.int .i64 a.c.b),Cl.d (DV.int .i64 a.c.c),Cl.d (DV.int .i64 a.c.d),Cl.d (DV.int .i64 a.gtw),Cl.d (DV.int .i64 a.gth),Cl.ref 0 a.ord.length,Cl.ref 1 a.ims.length,Cl.ref 2 a.ops.length],[Bx.row 3 1 (is a.ord),Bx.row 43 28 (ims a.ims),Bx.row 51 12 (ops a.ops)],false⟩ | _,_=>none) else
  none
 iter:=fun f cs=>
  none
theorem zYR (s:Scn) (at_ cut_:Int) (w:List UInt8) (pick:Int) (hs:s.ok):Ans prog 7 [RV.agg [dJ s.b,dJ s.x,dJ s.y,dJ s.w,dJ s.h,dJ s.tw,dJ s.th,dS s.on s.oxs,dS s.pn s.pxs,dS s.rn s.rxs],rJ (at_),rJ (cut_),RV.d (DV.str (toS w)),rJ (pick)] (RV.d (dQ true)):=
 zQj (Γ:=zKm) (let a:=(1,aJ at_); let b:=(2,aJ cut_); let c:=(11,AV.one (Cl.d (DV.str (toS (fmtR (⟨s.bits,⟨s.c.a,s.c.b,s.c.c,s.c.d⟩,s.gtw,s.gth,ints (is s.ord),zQR (ims s.ims),zQK (ops s.ops)⟩:Scr)).1)))); (Ann.seq Ann.leaf (Ann.seq Ann.leaf (Ann.seq Ann.leaf (Ann.cut ⟨Lb,fun m:Lb=>m.length≤20,fun m:Lb=>⟨[a,b,(3,AV.one (Cl.d (DV.str (toS m)))),(4,aJ pick),c],[]⟩,fun m:Lb=>0⟩ Ann.leaf fun m=>(Ann.seq Ann.leaf (Ann.cut ⟨Lb,fun u:Lb=>u.length≤100,fun u:Lb=>⟨[a,b,(3,AV.one (Cl.d (DV.str (toS u)))),c],[]⟩,fun u:Lb=>0⟩ Ann.leaf fun u=>(Ann.seq Ann.leaf (Ann.seq Ann.leaf (Ann.cut ⟨Lb,fun d:Lb=>d.length≤10000200,fun d:Lb=>⟨[(16,AV.one (Cl.d (DV.str (toS d))))],[]⟩,fun d:Lb=>0⟩ Ann.leaf fun d=>Ann.leaf)))))))))) zQs Tryz.func7 rfl (nL rfl) fun hwf=>by
  refine Eq.mpr (by kernel_rfl:_=(let j:=(((toS w).size:Nat):Int); let g:=((12:Nat):Int); let k:=(RV.d (dQ false)=RV.d (dQ true)); let a:=(fmtR (⟨s.bits,s.c,s.gtw,s.gth,ints (is s.ord),zQR (ims s.ims),zQK (ops s.ops)⟩:Scr)); let v:=([DV.str (⟨#[]⟩:ByteArray),DV.str (⟨#[32]⟩:ByteArray),DV.str (⟨#[10]⟩:ByteArray),DV.str (⟨#[48]⟩:ByteArray),DV.str (⟨#[45]⟩:ByteArray),DV.str (⟨#[49]⟩:ByteArray),DV.str (⟨#[57,57,57,57,57,57,57,57,57,57,57]⟩:ByteArray),DV.str (⟨#[111,114,100,101,114,32,48,10]⟩:ByteArray),DV.str (⟨#[105,109,97,103,101,32,49,32,49,10]⟩:ByteArray),DV.str (⟨#[112,111,112,10]⟩:ByteArray),DV.str (⟨#[100,114,97,119,32,48,32,48,32,48,32,48,32,48,32,48,32,50,53,53,32,120,111,114,32,110,111,114,109,97,108,10]⟩:ByteArray),DV.str (⟨#[115,111,108,105,100,32,49,32,49,32,48,32,48,32,48,32,48,32,54,53,53,51,54,10]⟩:ByteArray)]); let b:=(((toS a.1).size:Nat):Int); let f:=(wK (b+1)); let l:=(wK ((modS at_ f)+(modS cut_ (4:Int)))); let x:=(ByteArray.extract (toS a.1) (min b l).toNat b.toNat); let n:=(modS pick g); let o:=(sAt v (n.toNat*1)); let p:=(ByteArray.extract (toS a.1) (0:Int).toNat (modS at_ f).toNat); let q:=(dJ at_=dJ at_); let r:=(dJ cut_=dJ cut_); let y:=(dJ pick=dJ pick); let t:=(DV.str (toS a.1)=DV.str (toS a.1)); let z:=fun (d:Lb)=>[dJ (zZa (ofS (toS d))).1.bits,dJ (zZa (ofS (toS d))).1.c.a,dJ (zZa (ofS (toS d))).1.c.b,dJ (zZa (ofS (toS d))).1.c.c,dJ (zZa (ofS (toS d))).1.c.d,dJ (zZa (ofS (toS d))).1.tw,dJ (zZa (ofS (toS d))).1.th,dS (zZa (ofS (toS d))).1.ord.length (is (zZa (ofS (toS d))).1.ord),dS (zZa (ofS (toS d))).1.ims.length (ims (zZa (ofS (toS d))).1.ims),dS (zZa (ofS (toS d))).1.ops.length (ops (zZa (ofS (toS d))).1.ops)]; let A:=fun (d:Lb)=>[dJ (zQ7 (ofS (toS d))).1.bits,dJ (zQ7 (ofS (toS d))).1.c.a,dJ (zQ7 (ofS (toS d))).1.c.b,dJ (zQ7 (ofS (toS d))).1.c.c,dJ (zQ7 (ofS (toS d))).1.c.d,dJ (zQ7 (ofS (toS d))).1.tw,dJ (zQ7 (ofS (toS d))).1.th,dS (zQ7 (ofS (toS d))).1.ord.length (is (zQ7 (ofS (toS d))).1.ord),dS (zQ7 (ofS (toS d))).1.ims.length (ims (zQ7 (ofS (toS d))).1.ims),dS (zQ7 (ofS (toS d))).1.ops.length (ops (zQ7 (ofS (toS d))).1.ops)]; tU3 ((AnsG prog 9 0 [AV.agg [cJ s.b,cJ s.x,cJ s.y,cJ s.w,cJ s.h,cJ s.tw,cJ s.th,Cl.d (dS s.on s.oxs),Cl.d (dS s.pn s.pxs),Cl.d (dS s.rn s.rxs)]] [] ⟨AV.agg [cJ s.bits,cJ s.c.a,cJ s.c.b,cJ s.c.c,cJ s.c.d,cJ s.gtw,cJ s.gth,Cl.ref 0 s.ord.length,Cl.ref 1 s.ims.length,Cl.ref 2 s.ops.length],[Bx.row 3 1 (is s.ord),Bx.row 43 28 (ims s.ims),Bx.row 51 12 (ops s.ops)],false⟩)∧(Ans prog 12 [RV.agg [dJ s.bits,dJ s.c.a,dJ s.c.b,dJ s.c.c,dJ s.c.d,dJ s.gtw,dJ s.gth,dS s.ord.length (is s.ord),dS s.ims.length (ims s.ims),dS s.ops.length (ops s.ops)]] (RV.tup [RV.d (DV.str (toS a.1)),rJ a.2]))∧tU8 (((a.2 != 0)=false→(Ans prog 13 [] (RV.d (dQ true)))∧tU2 (((!true)=true→True∧RV.d (dQ false)=RV.d (dQ true))∧((!true)=false→(tU3 (((decide (j > 20))=true→True∧(0≤(0:Int)∧(0:Int)≤20∧(20:Int)≤j)∧True∧∃ m:Lb,(m.length≤20)∧((q∧r∧(DV.str (ByteArray.extract (toS w) (0:Int).toNat (20:Int).toNat)=DV.str (toS m))∧y∧t∧True)∧True))∧((decide (j > 20))=false→∃ m:Lb,(m.length≤20)∧((q∧r∧(DV.str (toS w)=DV.str (toS m))∧y∧t∧True)∧True))))∧∀ m:Lb,(m.length≤20)→tU2 ((tU3 ((12≤maxLen)∧(Ans prog 14 [rJ pick,rJ g] (rJ n))∧(0≤modS pick g∧modS pick g < g)∧((v[n.toNat*1]?=some (DV.str o))∧True)∧True∧(o.size+(toS m).size≤maxLen)∧True∧∃ u:Lb,(u.length≤100)∧((q∧r∧(DV.str (o++(toS m))=DV.str (toS u))∧t∧True)∧True)))∧∀ u:Lb,(u.length≤100)→tU4 ((Ans prog 14 [rJ at_,rJ f] (rJ (modS at_ f)))∧tU5 ((Ans prog 14 [rJ cut_,rJ 4] (rJ (modS cut_ (4:Int))))∧tU3 ((tU2 ((0≤(0:Int)∧(0:Int)≤modS at_ f∧modS at_ f≤b)∧True∧(p.size+(toS u).size≤maxLen)∧tU2 ((0≤min b l∧min b l≤b∧b≤b)∧((p++(toS u)).size+x.size≤maxLen)∧True∧(true=true)∧∃ d:Lb,(d.length≤10000200)∧(((DV.str ((p++(toS u))++x)=DV.str (toS d))∧True)∧True))))∧∀ d:Lb,let B:=(ofS (toS d)); let h:=(zZa B); let e:=(zQ7 B); let C:=(dQ (eqS ((sE h.1):Scr) ((sE e.1):Scr))); let i:=h.2.2; (d.length≤10000200)→True∧(Ans prog 15 [RV.d (DV.str (toS d))] (RV.tup [RV.agg (z d),rJ h.2.1,rJ i]))∧True∧tU8 ((Ans prog 17 [RV.d (DV.str (toS d))] (RV.tup [RV.agg (A d),rJ e.2.1,rJ e.2.2]))∧tU4 (tU8 (((i==e.2.2)=true→tU5 (((h.2.1==e.2.1)=true→tU3 (((i != 0)=false→tU2 ((Ans prog 16 [RV.agg (z d),RV.agg (A d)] (RV.d C))∧tU3 (RV.d C=RV.d (dQ true))))∧((i != 0)=(!false)→tU3 (RV.d (dQ true)=RV.d (dQ true)))))∧((h.2.1==e.2.1)=(!true)→tU2 k)))∧((i==e.2.2)=(!true)→tU4 k)))))))))))∧((a.2 != 0)=(!false)→tU2 k))))) ?_
  delta sE dJ dQ cJ wK dS rJ
  simp only [sS,zHB,zQI]
  have li:=s.ims_len
  have hol:=s.ops_len
  have hod:=s.ord_len
  have hIU:=s.ims_isU
  have hl:=s.fmt_len
  have a1:=zUT ⟨s.bits,s.c,s.gtw,s.gth,s.ord,s.ims,s.ops⟩ s.ims_isU (fun m hm _=>s.ims_in m hm) s.ops_opac
  have eF:fmtR ⟨s.bits,s.c,s.gtw,s.gth,s.ord,s.ims,s.ops⟩=(fmtT s.scr,0):=s.fmt
  simp only [zQO,zQ2,zQU,eF] at a1 ⊢
  have hM:∀ n:Nat,n≤20000000→n≤maxLen:=fun n h=>by unfold maxLen; omega
  have m12:=@zZw pick ((12:Nat):Int) (by omega) (by omega)
  obtain ⟨D1,x,D2,D3⟩:=dmg ((modS pick ((12:Nat):Int)).toNat*1) (by omega)
  generalize fmtT s.scr=T at *
  have mT:=@zZw at_ (T.length+1) (by omega) (by omega)
  have w1:IntKind.wrap .i64 ((T.length:Int)+1)=(T.length:Int)+1:=IntWalk.i64_in _ ⟨by omega,by omega⟩
  have m4:=@zZw cut_ 4 (by omega) (by omega)
  refine ⟨jQE s hs,a1,fun _=>⟨fun h=>h,⟨fun g=>⟨?_,?_⟩,fun g=>⟨w,?_,rfl⟩⟩,fun m hm=>⟨⟨hM _ (by omega),?_,D1,?_,?_⟩,fun u hu=>⟨?_,fun d hd=>?_⟩⟩⟩,fun h=>absurd h (by decide)⟩
  ·rw [zQF] at *
   omega
  ·refine ⟨(w.drop 0).take 20,by rw [List.length_take]; omega,?_⟩
   rw [zKO]
   rfl
  ·rw [zQF] at g
   omega
  ·have m12':=m12
   omega
  ·rw [D2,zQF,zQF]
   exact hM _ (by omega)
  ·refine ⟨x++m,by simp; omega,?_⟩
   rw [D2,zYw]
  ·simp only [zQF,zKO,zYw,w1,List.length_append,List.length_take,List.length_drop]
   have w2:IntKind.wrap .i64 (modS at_ ((T.length:Int)+1)+modS cut_ 4)=modS at_ ((T.length:Int)+1)+modS cut_ 4:=IntWalk.i64_in _ ⟨by omega,by omega⟩
   simp only [w2]
   refine ⟨⟨by decide,by omega,by omega⟩,hM _ (by omega),⟨by omega,by omega,by omega⟩,hM _ (by omega),_,?_,rfl⟩
   simp only [List.length_append,List.length_take,List.length_drop]
   omega
  ·have a2:=zYK d (by omega)
   have a3:=zHt d (by omega)
   have a4:=zHu (zQ7 d).1 (zQ7 d).1 (zGd d) (zGd d)
   have a5:=@jXA d
   simp only [zQN,jZH,zQO,zQ2,zQU] at a2 a3 a4 ⊢
   refine ⟨a2,a3,fun _=>⟨fun _=>⟨fun h=>⟨a4,a5 (by simpa using h)⟩,fun _=>trivial⟩,fun h=>?_⟩,fun h=>?_⟩
   ·rw [beq_self_eq_true] at h; cases h
   ·rw [beq_self_eq_true] at h; cases h
end
end Go.Proofs.YtheidkkebdhmkaaGreatDoor
namespace Go.Proofs.YtheidkkebdhmkaaGreatDoor.closed
open Go
set_option linter.unusedVariables false
set_option linter.unusedSimpArgs false
def headL:List Nat:=[104,97,114,110,101,115,115,32,101,102,101,98,55,102,102,55,100,48,100,97,100,54,55,52,54,48,98,50,53,49,49,97,52,97,100,100,52,101,50,101,100,54,50,52,97,99,99,55,102,56,56,99,100,49,54,48,98,52,48,52,49,52,48,101,100,50,57,51,50,48,48,57,32,99,117,116,32,97,116,32,99,111,109,112,111,115,105,116,111,114,47,99,111,109,112,111,115,105,116,111,114,108,97,119,49,57,46,84,101,120,116,70,111,114,109,97,116,65,103,114,101,101,115,32,99,111,109,112,111,115,105,116,111,114,47,99,111,109,112,111,115,105,116,111,114,108,97,119,49,57,46,84,101,120,116,70,111,114,109,97,116,82,101,106,101,99,116,115,32,99,111,109,112,111,115,105,116,111,114,47,99,111,109,112,111,115,105,116,111,114,108,97,119,49,57,46,84,101,120,116,82,111,117,110,100,84,114,105,112,32,99,111,109,112,111,115,105,116,111,114,47,99,111,109,112,111,115,105,116,111,114,108,97,119,49,57,46,84,101,120,116,80,97,114,115,101,65,103,114,101,101,115,32,99,111,109,112,111,115,105,116,111,114,47,99,111,109,112,111,115,105,116,111,114,108,97,119,49,57,46,84,101,120,116,80,97,114,115,101,79,102,68,97,109,97,103,101,32,99,111,109,112,111,115,105,116,111,114,47,99,111,109,112,111,115,105,116,111,114,108,97,119,49,57,46,84,101,120,116,82,101,112,111,114,116,115,84,104,101,76,105,110,101]
set_option maxRecDepth 100000 in
theorem jJ1:Tryz.prog.initOrder=String.ofList (headL.map Char.ofNat):=by kernel_rfl
set_option maxRecDepth 100000 in
theorem zUf:Tryz.prog.initOrder.toList=(headL.map Char.ofNat):=by rw [jJ1,String.toList_ofList]
set_option maxRecDepth 100000 in
theorem enters:Tryz.prog.mayEnter=true:=by
 unfold Program.mayEnter Program.doorFits
 rw [zUf]
 kernel_rfl
set_option maxRecDepth 100000 in
theorem liftsNot:Tryz.prog.liftsFinal=false:=by
 unfold Program.liftsFinal Program.headLifts
 rw [zUf]
 kernel_rfl
set_option maxRecDepth 100000 in
theorem made:Tryz.prog.make=some .cut:=by
 unfold Program.make
 rw [zUf]
 kernel_rfl
theorem own:ownKnob Tryz.prog.godebug=none:=by kernel_rfl
theorem laidOut:laidOutB Tryz.prog=true:=by kernel_rfl
theorem mapsRow:mapsRowed Tryz.prog=true:=by kernel_rfl
theorem noStops:(Tryz.prog.stops==[])=true:=by kernel_rfl
theorem noKnobs:(Tryz.prog.stopKnobs==[])=true:=by kernel_rfl
theorem plain:Tryz.prog.plainKeys=true:=by kernel_rfl
theorem heard:Tryz.prog.stopsHeard=true:=by kernel_rfl
end Go.Proofs.YtheidkkebdhmkaaGreatDoor.closed
namespace Go.Proofs.YtheidkkebdhmkaaGreatDoor
open Go.RowKit
set_option linter.unusedVariables false
set_option linter.unusedSimpArgs false
set_option maxRecDepth 20000
section
open Go.ChangeShapes
open Go.WideShapes
def zUt {H:Type} (P:Program):Nat→TypeId→DataW H→Nat→Option DV
 | 0,_,_,_=>none
 | fuel+1,t,d,i=>
  match P.underlying t,d with
  | some (.int k),.lit (.int k' n)=>if i=0∧k'=k then some (.int k n) else none
  | some .bool,.lit (.bool b)=>if i=0 then some (.bool b) else none
  | some .string,.lit (.string s)=>if i=0∧s.length≤maxLen then some (.str ⟨s.toArray⟩) else none
  | some (.struct fs),.agg ds=>(fs.toList.zip ds).findSome? fun x=>if x.1.offset≤i∧i < x.1.offset+P.cellsOf x.1.type then zUt P fuel x.1.type x.2 (i - x.1.offset) else none
  | some (.array _ e),.agg ds=>if P.cellsOf e=0 then none else match ds[i / P.cellsOf e]? with
   | some d=>zUt P fuel e d (i % P.cellsOf e)
   | none=>none
  | _,_=>none
section
variable {H:Type} {enc:TypeId × Value→H} {P:Program} {w:World}
theorem jQt {sp:Nat→Bool} {va:Bool} {V:Nat→Prop}:∀ (fuel:Nat) (t:TypeId) (cs:List Value) (d:DataW H) (ps:List MemPlace) (q i:Nat) (dv:DV),
  DataW.trod enc P w 0 sp va fuel t cs=some (d,ps)→zUt P q t d i=some dv→∃ u,cs[i]?=some u∧RepD w V dv u:=by
 intro fuel
 induction fuel with
 | zero=>intro t cs d ps q i dv h; simp [DataW.trod] at h
 | succ fuel ih=>
  intro t cs d ps q i dv h hq
  cases q with
  | zero=>simp [zUt] at hq
  | succ q=>
  unfold DataW.trod at h
  unfold zUt at hq
  split at h
  ·rename_i b hu
   simp only [Option.some.injEq,Prod.mk.injEq] at h
   obtain ⟨rfl,_⟩:=h
   simp only [hu] at hq
   split at hq
   ·rename_i e; subst e; cases hq; exact ⟨_,rfl,by simp only [RepD]⟩
   ·cases hq
  ·rename_i k k' n hu
   split at h
   ·rename_i hk
    obtain ⟨rfl,hwf⟩:=hk
    simp only [Option.some.injEq,Prod.mk.injEq] at h
    obtain ⟨rfl,_⟩:=h
    simp only [hu] at hq
    split at hq
    ·rename_i e; obtain ⟨rfl,_⟩:=e; cases hq; exact ⟨_,rfl,by simp only [RepD]; exact ⟨trivial,hwf⟩⟩
    ·cases hq
   ·cases h
  ·rename_i hu
   simp only [hu] at hq
   cases hq
  ·rename_i s hu
   split at h
   ·simp only [Option.some.injEq,Prod.mk.injEq] at h
    obtain ⟨rfl,_⟩:=h
    simp only [hu] at hq
    split at hq
    ·rename_i e; obtain ⟨rfl,hl⟩:=e; cases hq
     exact ⟨_,rfl,by simp only [RepD]; exact ⟨by simp,by simpa using hl⟩⟩
    ·cases hq
   ·cases h
  ·rename_i hu; simp only [hu] at hq; cases hq
  ·rename_i hu; simp only [hu] at hq; cases hq
  ·rename_i hu; simp only [hu] at hq; cases hq
  ·rename_i hu; simp only [hu] at hq; cases hq
  ·rename_i fs hu
   split at h
   ·obtain ⟨xs,hxs,h⟩:=Option.map_eq_some_iff.1 h
    simp only [Prod.mk.injEq] at h
    obtain ⟨rfl,_⟩:=h
    simp only [hu] at hq
    obtain ⟨x,hx,hx2⟩:=List.exists_of_findSome?_eq_some hq
    split at hx2
    ·rename_i hr
     obtain ⟨j,hj,e⟩:=List.getElem_of_mem hx
     rw [List.getElem_zip] at e
     simp only [List.length_zip,List.length_map] at hj
     have h1:=mapM_some_get hxs j _ (List.getElem?_eq_getElem (by omega))
     rw [List.getElem?_eq_getElem (show j < xs.length by omega)] at h1
     subst e
     simp only [List.getElem_map] at hx2 hr
     obtain ⟨u,hu1,hu2⟩:=ih _ _ _ _ q _ dv h1 hx2
     refine ⟨u,?_,hu2⟩
     rw [List.getElem?_take,if_pos (by omega),List.getElem?_drop] at hu1
     rwa [show _+(i - _)=i from Nat.add_sub_of_le hr.1] at hu1
    ·cases hx2
   ·cases h
  ·rename_i n e hu
   split at h
   ·obtain ⟨xs,hxs,h⟩:=Option.map_eq_some_iff.1 h
    simp only [Prod.mk.injEq] at h
    obtain ⟨rfl,_⟩:=h
    simp only [hu] at hq
    split at hq
    ·cases hq
    ·rename_i hne
     split at hq
     ·rename_i d hd
      rw [List.getElem?_map] at hd
      obtain ⟨x,hx,rfl⟩:=Option.map_eq_some_iff.1 hd
      have hl:=mapM_some_length hxs
      simp only [List.length_range] at hl
      have hlt:i / P.cellsOf e < xs.length:=(List.getElem?_eq_some_iff.1 hx).1
      have h1:=mapM_some_get hxs (i / P.cellsOf e) (i / P.cellsOf e) (List.getElem?_range (by omega))
      rw [hx] at h1
      obtain ⟨u,hu1,hu2⟩:=ih _ _ _ _ q _ dv h1 hq
      refine ⟨u,?_,hu2⟩
      rw [List.getElem?_take,if_pos (Nat.mod_lt _ (Nat.pos_of_ne_zero hne)),List.getElem?_drop,Nat.mul_comm] at hu1
      rwa [Nat.div_add_mod] at hu1
     ·cases hq
   ·cases h
  all_goals first | (cases h; done) | (clear h ih; simp_all; done) | (clear h ih; split at hq <;> simp_all; done)
end
def jKU (P:Program) (laid:List (String × DataW Unit)) (p:Nat × List DV):Prop:=
 ∃ x t,x∈laid∧P.globalNamed x.1=some p.1∧(P.globals[p.1]?).map (·.type)=some t∧(List.range p.2.length).map (zUt P 6 t x.2)=p.2.map some
def jYh (P:Program) (laid:List (String × DataW Unit)) (g:Nat):Prop:=∃ x,x∈laid∧P.globalNamed x.1=some g∧∃ nm d,x.2=.iface nm d
def jWa (P:Program) (g:Nat):Prop:=∀ w:World,w.ShapedOpen P→∃ m,w.cell? ⟨g,0,none⟩=some (.int .i64 m)
theorem zHa {H:Type} {enc:TypeId × Value→H} {P:Program} {w:World} {sp:Nat→Bool} {va:Bool}:∀ {fuel:Nat} {t:TypeId} {cs:List Value} {nm:String} {d:DataW H} {ps:List MemPlace},DataW.trod enc P w 0 sp va fuel t cs=some (.iface nm d,ps)→∃ u v,cs=[.iface u v]:=by
 intro fuel t cs nm d ps h
 cases fuel with
 | zero=>simp [DataW.trod] at h
 | succ fuel=>
  unfold DataW.trod at h
  split at h
  all_goals first
   | exact ⟨_,_,rfl⟩
   |(simp at h; done)
   |(split at h <;> simp at h; done)
   |(exfalso; obtain ⟨x,_,h⟩:=Option.map_eq_some_iff.1 h; cases h; done)
   |(exfalso; split at h; (obtain ⟨x,_,h⟩:=Option.bind_eq_some_iff.1 h; obtain ⟨y,_,h⟩:=Option.map_eq_some_iff.1 h; cases h); cases h)
   |(exfalso; split at h; (split at h; (obtain ⟨x,_,h⟩:=Option.bind_eq_some_iff.1 h; simp only at h; split at h <;> cases h); cases h); cases h)
theorem zJN {P:Program} {w:World}:∀ {l:List (String × DataW Unit)} {ps:List MemPlace},DataW.LaidVars P w l ps→∀ x∈l,∃ g t cs fuel p,P.globalNamed x.1=some g∧(P.globals[g]?).map (·.type)=some t∧w.var? P x.1=some cs∧DataW.trod (fun _=>()) P w 0 (fun _=>true) false fuel t cs.toList=some (x.2,p)
 | [],_,_,x,hx=>by cases hx
 |(n,d)::r,ps,h,x,hx=>by
  obtain ⟨g,t,cs,fuel,p,q,h1,h2,h3,h4,h5,_⟩:=h
  rcases List.mem_cons.1 hx with rfl | hx
  ·exact ⟨g,t,cs,fuel,p,h1,h2,h3,h4⟩
  ·exact zJN h5 x hx
theorem jYS {P:Program} {laid:List (String × DataW Unit)} {w:World} (hm:laidMetH P laid w) (hp:(laid.all fun x=>x.2.handleName?.isNone)=true) (ht:∀ p∈zJS,jKU P laid p) (hs:∀ g∈zJh,jYh P laid g) (hi:∀ g∈zKd,∃ m,w.cell? ⟨g,0,none⟩=some (.int .i64 m)):zXS w (fun _=>True):=by
 rw [MakeChecks.laidMetH_plain _ _ _ hp] at hm
 obtain ⟨ps,hl,_⟩:=hm
 refine ⟨fun p hp _=>?_,fun g hg=>⟨trivial,?_⟩,fun g hg=>⟨trivial,hi g hg⟩⟩
 rotate_left
 ·obtain ⟨x,hx,h1,nm,d,hd⟩:=hs g hg
  obtain ⟨g',t',cs,fuel,q,g1,g2,g3,g4⟩:=zJN hl x hx
  rw [g1] at h1; injection h1 with h1; subst h1
  rw [hd] at g4
  obtain ⟨u,v,hc⟩:=zHa g4
  refine ⟨u,v,?_⟩
  rw [World.var?_cell g1 g3 0,← Array.getElem?_toList,hc]
  rfl
 obtain ⟨x,t,hx,h1,h2,h3⟩:=ht p hp
 obtain ⟨g,t',cs,fuel,q,g1,g2,g3,g4⟩:=zJN hl x hx
 rw [g1] at h1; injection h1 with h1; subst h1
 rw [g2] at h2; injection h2 with h2; subst h2
 refine ⟨trivial,RepCells.of_at fun i d hi=>?_⟩
 have hlt:i < p.2.length:=(List.getElem?_eq_some_iff.1 hi).1
 have h4:((List.range p.2.length).map (zUt P 6 t' x.2))[i]?=(p.2.map some)[i]?:=by rw [h3]
 rw [List.getElem?_map,List.getElem?_range hlt,List.getElem?_map,hi] at h4
 simp only [Option.map_some,Option.some.injEq] at h4
 obtain ⟨u,hu1,hu2⟩:=jQt (V:=fun _=>True) fuel t' cs.toList x.2 q 6 i d g4 h4
 refine ⟨u,?_,hu2⟩
 rw [Nat.zero_add,World.var?_cell g1 g3 i,← Array.getElem?_toList]
 exact hu1
theorem zG6 {H:Type} {enc:TypeId × Value→H} {C:Checked} {os:Os} {f:FuncId} {fn:Func} {s:ChangeSpec} {tb:TypeId} {laid:List (String × DataW Unit)}
  (own:ownKnob C.prog.godebug=none) (started:os.Started) (noInit:C.prog.inits.idxOf? f=none) (hfn:C.prog.funcs[f]?=some fn)
  (witness:∃ (w:World) (tape:Tape) (i:Input),w.os=os∧(w.forCall tape i).Shaped C.prog∧i.vars=[]∧Input.okWide C.prog (w.forCall tape i) .any w.heap.size f i ∧
   ((s.pre enc C.prog fn [] false (w.forCall tape i).memory i.args∧laidMetH C.prog laid (w.forCall tape i).memory)∧sizedMet enc C.prog fn (OpenSpec.ofChange s) false (w.forCall tape i).memory i.args)∧({}:Assume).holds C.prog (lone (Frame.enter C.prog f i.args .normal) [] (w.forCall tape i)))
  (hspec:∀ ds:List (DataW H),ds.length=fn.params.toList.length→s.fn H ds={ results:=[.lit (.bool true)],args:=ds }) (hvars:s.vars=[])
  (hres:fn.resultTypes=#[tb]) (hb:C.prog.underlying tb=some .bool) (laidO:laidOutB C.prog=true)
  (hread:∀ t∈fn.params.toList,C.prog.readableRec t=true∧t < C.prog.types.size)
  (hp:(laid.all fun x=>x.2.handleName?.isNone)=true) (ht:∀ p∈zJS,jKU C.prog laid p) (hsn:∀ g∈zJh,jYh C.prog laid g) (hin:∀ g∈zKd,jWa C.prog g)
  (walk:∀ (W:World) (args:Array Value),zXS W (fun _=>True)→Args C.prog W fn.params.toList args.toList→Calls C.prog f args W fun e W'=>e=.returned (.bool true)∧Below W.heap.size W W') :
  ReturnsInHanded {} C os f .any (fun w args=>(s.pre enc C.prog fn [] false w args∧laidMetH C.prog laid w)∧sizedMet enc C.prog fn (OpenSpec.ofChange s) false w args) (s.post enc C.prog fn false true false false):=by
 refine returnsInHanded_of_calls own started noInit witness ?_
 intro w0 tape i0 _ hshape _ hok hpre _
 obtain ⟨_,_,_,fn',hfn',_,_,_,_,hval⟩:=hok
 have efn:=Option.some.inj (hfn'.symm.trans hfn)
 subst efn
 obtain ⟨⟨⟨ds,gs,before,hW0,_⟩,hlaid0⟩,hz⟩:=hpre
 have hW:=DataW.Whole.of_heap (w':=w0.forCall tape i0) (by rfl) hW0
 have hsz:(DataW.weightsEach C.prog (fn'.params.toList++s.plain.varTypes C.prog) (ds++gs)).all (·≤reachBytes)=true:=hz.weights hW0
 have hlaid:laidMetH C.prog laid (w0.forCall tape i0):=laidMetH.of_heap (w:=(w0.forCall tape i0).memory) (by rfl) hlaid0
 suffices h:Calls C.prog f i0.args (w0.forCall tape i0) fun e W'=>∃ v,e=.returned v∧s.post enc C.prog fn' false true false false (w0.forCall tape i0) i0.args v W' from
  h.mono fun e W' ⟨v,he,hp⟩=>by subst he; exact ChangeSpec.post_blind hp
 generalize w0.forCall tape i0=W at *
 generalize i0.args=args at *
 have hW':=hW
 obtain ⟨p,q,hA,hV,rfl,_,_⟩:=hW
 rw [hvars] at hV
 obtain ⟨rfl,rfl⟩:=trodVars_none hV
 have hvt:s.plain.varTypes C.prog=[]:=by simp [ChangeSpec.plain,DataSpec.varTypes,hvars]
 rw [hvt,List.append_nil,List.append_nil] at hsz
 obtain ⟨ha,hlen⟩:=zJV hA (fun n hn=>by simpa using List.all_eq_true.1 hsz n hn) (fun j t v ht hv=>zUs (hval j t v (by simpa using ht) (by simpa using hv)))
 refine (walk W args (jYS hlaid hp ht hsn fun g hg=>hin g hg W hshape) ha).mono fun e W' ⟨he,bel⟩=>?_
 subst he
 have hs:=hspec ds hlen
 refine ⟨_,rfl,ds,[],p++[],[],p,[],hW',?_,?_,?_,bel.frame _,fun h=>by cases h⟩
 ·rw [List.append_nil,hs,hres]
  exact trodAll_mk1 (shut_bool hb _)
 ·rw [List.append_nil,hs]
  exact zKY laidO bel hread hA
 ·rw [List.append_nil,hs,hvars]
  rfl
end
open Go.Proofs.Tryz (prog)
abbrev zG7:List (String × DataW Unit):=[("math/bits.deBruijn32tab", Rows.laid_math_bits_deBruijn32tab),("math/bits.deBruijn64tab", Rows.laid_math_bits_deBruijn64tab),("compositor/operator.rules", Rows.laid_compositor_operator_rules),("compositor/blend.names", Rows.laid_compositor_blend_names),("internal/strconv.uint64pow10", Rows.laid_internal_strconv_uint64pow10),("unicode/utf8.acceptRanges", Rows.laid_unicode_utf8_acceptRanges),("strconv.ErrRange", Rows.laid_strconv_ErrRange),("strconv.ErrSyntax", Rows.laid_strconv_ErrSyntax),("unicode/utf8.first", Rows.laid_unicode_utf8_first)]
set_option maxRecDepth 100000 in
theorem jVV:∀ p∈zJS,jKU prog zG7 p:=by
 intro p hp
 simp only [zJS,List.mem_cons,List.not_mem_nil,or_false] at hp
 rcases hp with rfl | rfl | rfl | rfl | rfl | rfl
 ·exact ⟨("compositor/blend.names", Rows.laid_compositor_blend_names),151,(List.mem_cons_of_mem _ (List.mem_cons_of_mem _ (List.mem_cons_of_mem _ List.mem_cons_self))),by kernel_rfl,by kernel_rfl,by kernel_rfl⟩
 ·exact ⟨("compositor/operator.rules", Rows.laid_compositor_operator_rules),176,(List.mem_cons_of_mem _ (List.mem_cons_of_mem _ List.mem_cons_self)),by kernel_rfl,by kernel_rfl,by kernel_rfl⟩
 ·exact ⟨("internal/strconv.uint64pow10", Rows.laid_internal_strconv_uint64pow10),209,(List.mem_cons_of_mem _ (List.mem_cons_of_mem _ (List.mem_cons_of_mem _ (List.mem_cons_of_mem _ List.mem_cons_self)))),by kernel_rfl,by kernel_rfl,by kernel_rfl⟩
 ·exact ⟨("unicode/utf8.acceptRanges", Rows.laid_unicode_utf8_acceptRanges),222,(List.mem_cons_of_mem _ (List.mem_cons_of_mem _ (List.mem_cons_of_mem _ (List.mem_cons_of_mem _ (List.mem_cons_of_mem _ List.mem_cons_self))))),by kernel_rfl,by kernel_rfl,by kernel_rfl⟩
 ·exact ⟨("math/bits.deBruijn32tab", Rows.laid_math_bits_deBruijn32tab),227,List.mem_cons_self,by kernel_rfl,by kernel_rfl,by kernel_rfl⟩
 ·exact ⟨("math/bits.deBruijn64tab", Rows.laid_math_bits_deBruijn64tab),228,(List.mem_cons_of_mem _ List.mem_cons_self),by kernel_rfl,by kernel_rfl,by kernel_rfl⟩
set_option maxRecDepth 100000 in
theorem jKY:∀ g∈zJh,jYh prog zG7 g:=by
 intro g hg
 simp only [zJh,List.mem_cons,List.not_mem_nil,or_false] at hg
 rcases hg with rfl | rfl
 ·exact ⟨("strconv.ErrSyntax", Rows.laid_strconv_ErrSyntax),(List.mem_cons_of_mem _ (List.mem_cons_of_mem _ (List.mem_cons_of_mem _ (List.mem_cons_of_mem _ (List.mem_cons_of_mem _ (List.mem_cons_of_mem _ (List.mem_cons_of_mem _ List.mem_cons_self))))))),by kernel_rfl,_,_,rfl⟩
 ·exact ⟨("strconv.ErrRange", Rows.laid_strconv_ErrRange),(List.mem_cons_of_mem _ (List.mem_cons_of_mem _ (List.mem_cons_of_mem _ (List.mem_cons_of_mem _ (List.mem_cons_of_mem _ (List.mem_cons_of_mem _ List.mem_cons_self)))))),by kernel_rfl,_,_,rfl⟩
theorem jVs:∀ g∈zKd,jWa prog g:=by
 intro g hg
 simp only [zKd,List.mem_cons,List.not_mem_nil,or_false] at hg
 subst hg
 exact fun w h=>cell_of_shapedOpen_int (t:=3) (zero:=#[.int .i64 0]) h (Nat.le_of_ble_eq_true (by kernel_rfl)) (by kernel_rfl) (by kernel_rfl) (by kernel_rfl) (by kernel_rfl) (by kernel_rfl)
theorem zGn:(zG7.all fun x=>x.2.handleName?.isNone)=true:=by kernel_rfl
set_option maxRecDepth 100000 in
theorem jKb (os:Os) (args:Array Value):laidMetH prog zG7 ((World.laidAll prog os zG7).forCall (fun _ _=>0) ⟨#[],args,[]⟩).memory:=by
 rw [MakeChecks.laidMetH_plain _ _ _ zGn]
 exact laidMet_laidAll _ (by kernel_rfl) (by kernel_rfl)
end Go.Proofs.YtheidkkebdhmkaaGreatDoor
