/-
  Part 6 of what TopTilesTogether rests on.
-/
import Derived.Test.YtbnmadpcdlnleaaGreatDoorTopTilesTogetherZ5
import Derived.Test.YtbnmadpcdlnleaaGreatDoorRows
import Derived.LaidMore
import Derived.Stop.Joined
import Derived.Shelf.Vars
namespace Go.Proofs.YtbnmadpcdlnleaaGreatDoor
open Go.IntKind (wrap)
open Go.RowKit
set_option linter.unusedVariables false
set_option linter.unusedSimpArgs false
set_option maxRecDepth 20000
open Go.Proofs.Tryz (prog)
section
attribute [local irreducible] Ans AnsO AnsG AnsN AnsI
theorem zUR {l:List Rc} {k:Nat} (h:k < l.length) (r:Rc):sets (rcs l) (k*4) r.cells=rcs (l.set k r):=jVC (f:=Rc.cells) (m:=4) (fun _=>rfl) h r
theorem jWj (l:List Rc) (k:Nat):(rcs l).take (k*4)=rcs (l.take k):=zGZ (f:=Rc.cells) (m:=4) (fun _=>rfl) l k
theorem jUD (l m:List Rc):rcs (l++m)=rcs l++rcs m:=by simp [rcs]
theorem jUC (r:Rc):rcs [r]=r.cells:=by simp [rcs]
theorem jY3:∀ n:Nat,repl n Rc.zero.cells=rcs (List.replicate n Rc.zero)
 | 0=>rfl
 | n+1=>by
  have h:=jY3 n
  unfold repl at h ⊢
  rw [List.replicate_succ,List.flatten_cons,h,List.replicate_succ]
  rfl
def jGZ:Gam where
 pure:=fun f xs=>
  if f=46 then gZ32 xs else
  if f=197 then gZ56 xs else
  if f=210 then gZ57 xs else
  if f=211 then gZ34 xs else
  none
 modes:=fun f=>
  none
 proc:=fun f xs bs=>
  none
 iter:=fun f cs=>
  none
theorem zUO (s:Scr):Ans prog 156 [rA [dJ s.bits,dJ s.c.a,dJ s.c.b,dJ s.c.c,dJ s.c.d,dJ s.tw,dJ s.th,dS s.ord.length (is s.ord),dS s.ims.length (ims s.ims),dS s.ops.length (ops s.ops)]] (rT [rD (dS ((zZ1 s).1.length) (rcs (zZ1 s).1)),rJ (((zZ1 s).2))]):=
 zQa (Γ:=jGZ) (let a:=(6,aO (Cl.ref 24 (s.ops.length:Int).toNat)); let b:=(dS s.ops.length (ops s.ops)); let c:=(28,aO (cD b)); let d:=(29,aJ (s.ops.length:Int)); let e:=fun (k:Nat)=>(30,aJ (k:Int)); let f:=(1,bC [cJ s.bits,cJ s.c.a,cJ s.c.b,cJ s.c.c,cJ s.c.d,cJ s.tw,cJ s.th,cD (dS s.ord.length (is s.ord)),cD (dS s.ims.length (ims s.ims)),cD b]); (aQ aL (aQ aL (aQ aL (aQ aL (aQ aL (aQ (aQ aL (Ann.loop ⟨Nat,fun k=>k≤s.ops.length,fun k=>⟨[(1,aO (Cl.ptr 1 0)),a,(7,aO (Cl.ref 9001 (runB s k).2.1.length)),(8,aO (Cl.ref 9002 (runB s k).2.2.length)),c,d,(e k)],[f,(24,bR 28 4 (rcs (runB s k).1)),(9001,bR 3 1 (is (runB s k).2.1)),(9002,bR 28 4 (rcs (runB s k).2.2))]⟩,fun k=>s.ops.length - k⟩ fun k=>(aQ aL (aQ aL (aQ (aQ aL (Ann.cut ⟨Bst,fun y:Bst=>((s.ops[k]?).getD popO).kind≠2∧y=zUB s k ((s.ops[k]?).getD popO) (runB s k),fun y:Bst=>⟨[(1,aO (Cl.ptr 1 0)),a,(7,aO (Cl.ref 9001 y.2.1.length)),(8,aO (Cl.ref 9002 y.2.2.length)),(9,aJ (k:Int)),c,d,(e k)],[f,(24,bR 28 4 (rcs y.1)),(9001,bR 3 1 (is y.2.1)),(9002,bR 28 4 (rcs y.2.2))]⟩,fun y:Bst=>0⟩ aL fun y=>aL)) aL))))) aL))))))) zQf Tryz.func156 rfl (nL rfl) fun hwf=>by
  refine Eq.mpr (by kernel_rfl:_=(let f:=((sE s):Scr); let z:=(opsE s.bits s.c s.tw s.th (ints (is s.ord)) s.ims.length (zQb (ops s.ops))); let g:=(s.ops.length:Int); let o:=[dJ s.bits,dJ s.c.a,dJ s.c.b,dJ s.c.c,dJ s.c.d,dJ s.tw,dJ s.th,dS s.ord.length (is s.ord),dS s.ims.length (ims s.ims),dS s.ops.length (ops s.ops)]; let M:=(dJ z.1); let N:=[rD (dS (zZ1 s).1.length (rcs (zZ1 s).1)),rJ (zZ1 s).2]; let r:=(g.toNat=g.toNat); let t:=(dS s.ops.length (ops s.ops)=dS s.ops.length (ops s.ops)); let u:=(dJ g=dJ g); let v:=(o=o); let A:=[dJ 0,dJ 0,dJ 0,dJ 0]; let O:=fun (k:Nat)=>fun (k':Nat)=>(s.ops.length - k' < s.ops.length - k); let P:=fun (k:Nat)=>fun (k':Nat)=>(dJ (wK ((k:Int)+1))=dJ (k':Int)); let Q:=fun (k:Nat)=>[dJ (nAt (ops s.ops) (k*12)),dJ (nAt (ops s.ops) (k*12+1)),dJ (nAt (ops s.ops) (k*12+1+1)),dJ (nAt (ops s.ops) (k*12+1+1+1)),dJ (nAt (ops s.ops) (k*12+1+1+1+1)),dJ (nAt (ops s.ops) (k*12+1+1+1+1+1)),dJ (nAt (ops s.ops) (k*12+1+1+1+1+1+1)),dK (nAt (ops s.ops) (k*12+1+1+1+1+1+1+1)),dJ (nAt (ops s.ops) (k*12+1+1+1+1+1+1+1+1)),dJ (nAt (ops s.ops) (k*12+1+1+1+1+1+1+1+1+1)),dQ (bAt (ops s.ops) (k*12+1+1+1+1+1+1+1+1+1+1)),dQ (bAt (ops s.ops) (k*12+1+1+1+1+1+1+1+1+1+1+1))]; let R:=fun (k:Nat)=>(let aA:=(imgR f (⟨(nAt (ops s.ops) (k*12)),(nAt (ops s.ops) (k*12+1)),(nAt (ops s.ops) (k*12+1+1)),(nAt (ops s.ops) (k*12+1+1+1)),(nAt (ops s.ops) (k*12+1+1+1+1)),(nAt (ops s.ops) (k*12+1+1+1+1+1)),(nAt (ops s.ops) (k*12+1+1+1+1+1+1)),(nAt (ops s.ops) (k*12+1+1+1+1+1+1+1)),(nAt (ops s.ops) (k*12+1+1+1+1+1+1+1+1)),(nAt (ops s.ops) (k*12+1+1+1+1+1+1+1+1+1)),(bAt (ops s.ops) (k*12+1+1+1+1+1+1+1+1+1+1)),(bAt (ops s.ops) (k*12+1+1+1+1+1+1+1+1+1+1+1))⟩:Oq)); [dJ aA.a,dJ aA.b,dJ aA.c,dJ aA.d]); let S:=fun (k:Nat)=>(let aA:=(⟨(nAt (ops s.ops) (k*12)),(nAt (ops s.ops) (k*12+1)),(nAt (ops s.ops) (k*12+1+1)),(nAt (ops s.ops) (k*12+1+1+1)),(nAt (ops s.ops) (k*12+1+1+1+1)),(nAt (ops s.ops) (k*12+1+1+1+1+1)),(nAt (ops s.ops) (k*12+1+1+1+1+1+1)),(nAt (ops s.ops) (k*12+1+1+1+1+1+1+1)),(nAt (ops s.ops) (k*12+1+1+1+1+1+1+1+1)),(nAt (ops s.ops) (k*12+1+1+1+1+1+1+1+1+1)),(bAt (ops s.ops) (k*12+1+1+1+1+1+1+1+1+1+1)),(bAt (ops s.ops) (k*12+1+1+1+1+1+1+1+1+1+1+1))⟩:Oq); let bB:=(boxF f aA (imgR f aA)); [dJ bB.a,dJ bB.b,dJ bB.c,dJ bB.d]); let B:=fun (k:Nat)=>(0≤(k:Int)∧(k:Int) < ((g.toNat:Nat):Int)); let T:=fun (k:Nat)=>(k*4+4≤(rcs (runB s k).1).length); let H:=fun (k:Nat)=>fun (y:Bst)=>(((s.ops[k]?).getD popO).kind≠2∧y=zUB s k ((s.ops[k]?).getD popO) (runB s k)); let C:=fun (k:Nat)=>(dJ (k:Int)=dJ (k:Int)); let U:=fun (k:Nat)=>((runB s k).2.1.length≤maxLen); let V:=fun (k:Nat)=>((runB s k).2.2.length≤maxLen); let W:=fun (k:Nat)=>(let aA:=(boxF f (⟨(nAt (ops s.ops) ((nAt (is (runB s k).2.1) ((wK ((((runB s k).2.1.length:Nat):Int) - 1)).toNat*1)).toNat*12)),(nAt (ops s.ops) ((nAt (is (runB s k).2.1) ((wK ((((runB s k).2.1.length:Nat):Int) - 1)).toNat*1)).toNat*12+1)),(nAt (ops s.ops) ((nAt (is (runB s k).2.1) ((wK ((((runB s k).2.1.length:Nat):Int) - 1)).toNat*1)).toNat*12+1+1)),(nAt (ops s.ops) ((nAt (is (runB s k).2.1) ((wK ((((runB s k).2.1.length:Nat):Int) - 1)).toNat*1)).toNat*12+1+1+1)),(nAt (ops s.ops) ((nAt (is (runB s k).2.1) ((wK ((((runB s k).2.1.length:Nat):Int) - 1)).toNat*1)).toNat*12+1+1+1+1)),(nAt (ops s.ops) ((nAt (is (runB s k).2.1) ((wK ((((runB s k).2.1.length:Nat):Int) - 1)).toNat*1)).toNat*12+1+1+1+1+1)),(nAt (ops s.ops) ((nAt (is (runB s k).2.1) ((wK ((((runB s k).2.1.length:Nat):Int) - 1)).toNat*1)).toNat*12+1+1+1+1+1+1)),(nAt (ops s.ops) ((nAt (is (runB s k).2.1) ((wK ((((runB s k).2.1.length:Nat):Int) - 1)).toNat*1)).toNat*12+1+1+1+1+1+1+1)),(nAt (ops s.ops) ((nAt (is (runB s k).2.1) ((wK ((((runB s k).2.1.length:Nat):Int) - 1)).toNat*1)).toNat*12+1+1+1+1+1+1+1+1)),(nAt (ops s.ops) ((nAt (is (runB s k).2.1) ((wK ((((runB s k).2.1.length:Nat):Int) - 1)).toNat*1)).toNat*12+1+1+1+1+1+1+1+1+1)),(bAt (ops s.ops) ((nAt (is (runB s k).2.1) ((wK ((((runB s k).2.1.length:Nat):Int) - 1)).toNat*1)).toNat*12+1+1+1+1+1+1+1+1+1+1)),(bAt (ops s.ops) ((nAt (is (runB s k).2.1) ((wK ((((runB s k).2.1.length:Nat):Int) - 1)).toNat*1)).toNat*12+1+1+1+1+1+1+1+1+1+1+1))⟩:Oq) ⟨(nAt (rcs (runB s k).2.2) ((wK ((((runB s k).2.2.length:Nat):Int) - 1)).toNat*4)),(nAt (rcs (runB s k).2.2) ((wK ((((runB s k).2.2.length:Nat):Int) - 1)).toNat*4+1)),(nAt (rcs (runB s k).2.2) ((wK ((((runB s k).2.2.length:Nat):Int) - 1)).toNat*4+1+1)),(nAt (rcs (runB s k).2.2) ((wK ((((runB s k).2.2.length:Nat):Int) - 1)).toNat*4+1+1+1))⟩); [dJ aA.a,dJ aA.b,dJ aA.c,dJ aA.d]); let X:=fun (k:Nat)=>fun (y:Bst)=>(let aA:=(zQX (zXC ([dJ (nAt (rcs y.2.2) ((wK ((y.2.2.length:Int) - 1)).toNat*4)),dJ (nAt (rcs y.2.2) ((wK ((y.2.2.length:Int) - 1)).toNat*4+1)),dJ (nAt (rcs y.2.2) ((wK ((y.2.2.length:Int) - 1)).toNat*4+1+1)),dJ (nAt (rcs y.2.2) ((wK ((y.2.2.length:Int) - 1)).toNat*4+1+1+1)),dJ (nAt (rcs y.1) (k*4)),dJ (nAt (rcs y.1) (k*4+1)),dJ (nAt (rcs y.1) (k*4+1+1)),dJ (nAt (rcs y.1) (k*4+1+1+1))]))); [dJ aA.a,dJ aA.b,dJ aA.c,dJ aA.d]); tU4 ((Ans prog 46 [rA o] (rT [rD M,rJ z.2]))∧tU7 (((z.1 != 0)=true→tU3 (rT [rD (dS 0 ([])),rD M]=rT N))∧((z.1 != 0)=false→tU3 ((0≤g∧g≤g∧g≤(maxLen:Int)∧((32:Nat):Int)*g≤281474976710656)∧True∧tU8 ((∃ k:Nat,(k≤s.ops.length)∧(((0=0)∧r∧(0=(runB s k).2.1.length)∧(1=(runB s k).2.2.length)∧t∧u∧(dJ 0=dJ (k:Int))∧True)∧(v∧(repl g.toNat A=rcs (runB s k).1)∧([]=is (runB s k).2.1)∧(A=rcs (runB s k).2.2)∧True)))∧∀ k:Nat,let Y:=(decide ((k:Int) < g)); let I:=(rcs (runB s k).1); let D:=(k*4+1); let E:=(k*4+1+1); let J:=(((runB s k).2.2.length:Nat):Int); let K:=(((runB s k).2.1.length:Nat):Int); let F:=(k*4+1+1+1); let p:=(k*4); let w:=(nAt (ops s.ops) (k*12)); let l:=(is (runB s k).2.1); let i:=(rcs (runB s k).2.2); let n:=(K - 1); let q:=((wK n).toNat*1); let x:=(J - 1); let m:=(wK x); let L:=(m.toNat*4); let Z:=(nAt i (m.toNat*4+1)); let z0:=(nAt i (m.toNat*4+1+1)); let z1:=(nAt i (m.toNat*4+1+1+1)); let h:=(sets I p (W k)); let e:=(nAt l q); let z2:=(nAt (ops s.ops) (e.toNat*12)); let z3:=(nAt (ops s.ops) (e.toNat*12+1)); let z4:=(nAt (ops s.ops) (e.toNat*12+1+1)); let z5:=(nAt (ops s.ops) (e.toNat*12+1+1+1)); let z6:=(nAt (ops s.ops) (e.toNat*12+1+1+1+1)); let z7:=(nAt (ops s.ops) (e.toNat*12+1+1+1+1+1)); let z8:=(nAt (ops s.ops) (e.toNat*12+1+1+1+1+1+1)); let z9:=(nAt (ops s.ops) (e.toNat*12+1+1+1+1+1+1+1)); let y0:=(nAt (ops s.ops) (e.toNat*12+1+1+1+1+1+1+1+1)); let y1:=(nAt (ops s.ops) (e.toNat*12+1+1+1+1+1+1+1+1+1)); let y2:=(bAt (ops s.ops) (e.toNat*12+1+1+1+1+1+1+1+1+1+1)); let y3:=(bAt (ops s.ops) (e.toNat*12+1+1+1+1+1+1+1+1+1+1+1)); (k≤s.ops.length)→True∧((Y=true→True∧(0≤(k:Int)∧(k:Int) < g∧k*12 < (ops s.ops).length)∧(((ops s.ops)[k*12]?=some (dJ w))∧((ops s.ops)[k*12+1]?=some (dJ (nAt (ops s.ops) (k*12+1))))∧((ops s.ops)[k*12+1+1]?=some (dJ (nAt (ops s.ops) (k*12+1+1))))∧((ops s.ops)[k*12+1+1+1]?=some (dJ (nAt (ops s.ops) (k*12+1+1+1))))∧((ops s.ops)[k*12+1+1+1+1]?=some (dJ (nAt (ops s.ops) (k*12+1+1+1+1))))∧((ops s.ops)[k*12+1+1+1+1+1]?=some (dJ (nAt (ops s.ops) (k*12+1+1+1+1+1))))∧((ops s.ops)[k*12+1+1+1+1+1+1]?=some (dJ (nAt (ops s.ops) (k*12+1+1+1+1+1+1))))∧((ops s.ops)[k*12+1+1+1+1+1+1+1]?=some (dK (nAt (ops s.ops) (k*12+1+1+1+1+1+1+1))))∧((ops s.ops)[k*12+1+1+1+1+1+1+1+1]?=some (dJ (nAt (ops s.ops) (k*12+1+1+1+1+1+1+1+1))))∧((ops s.ops)[k*12+1+1+1+1+1+1+1+1+1]?=some (dJ (nAt (ops s.ops) (k*12+1+1+1+1+1+1+1+1+1))))∧((ops s.ops)[k*12+1+1+1+1+1+1+1+1+1+1]?=some (dQ (bAt (ops s.ops) (k*12+1+1+1+1+1+1+1+1+1+1))))∧((ops s.ops)[k*12+1+1+1+1+1+1+1+1+1+1+1]?=some (dQ (bAt (ops s.ops) (k*12+1+1+1+1+1+1+1+1+1+1+1))))∧True)∧tU3 ((tU4 (((w==2)=true→tU3 ((zZL 1 8 (runB s k).2.1.length 1 l ([dJ (k:Int)]))∧tU3 ((zZL 4 32 (runB s k).2.2.length 1 i A)∧tU4 (∃ k':Nat,(k'≤s.ops.length)∧(O k k')∧(((0=0)∧r∧((runB s k).2.1.length+1=(runB s k').2.1.length)∧((runB s k).2.2.length+1=(runB s k').2.2.length)∧t∧u∧(P k k')∧True)∧(v∧(rcs (runB s k).1=rcs (runB s k').1)∧(l++([dJ (k:Int)])=is (runB s k').2.1)∧(i++A=rcs (runB s k').2.2)∧True))))))∧((w==2)=false→tU2 (((w==1)=true→tU6 ((Ans prog 197 [rA o,rA (Q k)] (rA (R k)))∧(Ans prog 210 [rA o,rA (Q k),rA (R k)] (rA (S k)))∧(B k)∧(T k)∧(true=true)∧∃ y:Bst,(H k y)∧(((0=0)∧r∧((runB s k).2.1.length=y.2.1.length)∧((runB s k).2.2.length=y.2.2.length)∧(C k)∧t∧u∧(C k)∧True)∧(v∧(sets I p (S k)=rcs y.1)∧(is (runB s k).2.1=is y.2.1)∧(rcs (runB s k).2.2=rcs y.2.2)∧True))))∧((w==1)=false→tU2 ((U k)∧True∧(0≤wK n∧wK n < K)∧((l[(wK n).toNat*1]?=some (dJ e))∧True)∧tU7 ((0≤nAt l q∧nAt l q < g∧e.toNat*12 < (ops s.ops).length)∧(((ops s.ops)[e.toNat*12]?=some (dJ z2))∧((ops s.ops)[e.toNat*12+1]?=some (dJ z3))∧((ops s.ops)[e.toNat*12+1+1]?=some (dJ z4))∧((ops s.ops)[e.toNat*12+1+1+1]?=some (dJ z5))∧((ops s.ops)[e.toNat*12+1+1+1+1]?=some (dJ z6))∧((ops s.ops)[e.toNat*12+1+1+1+1+1]?=some (dJ z7))∧((ops s.ops)[e.toNat*12+1+1+1+1+1+1]?=some (dJ z8))∧((ops s.ops)[e.toNat*12+1+1+1+1+1+1+1]?=some (dK z9))∧((ops s.ops)[e.toNat*12+1+1+1+1+1+1+1+1]?=some (dJ y0))∧((ops s.ops)[e.toNat*12+1+1+1+1+1+1+1+1+1]?=some (dJ y1))∧((ops s.ops)[e.toNat*12+1+1+1+1+1+1+1+1+1+1]?=some (dQ y2))∧((ops s.ops)[e.toNat*12+1+1+1+1+1+1+1+1+1+1+1]?=some (dQ y3))∧True)∧tU2 ((V k)∧True∧(0≤wK x∧wK x < J)∧((i[m.toNat*4]?=some (dJ (nAt i L)))∧(i[m.toNat*4+1]?=some (dJ Z))∧(i[m.toNat*4+1+1]?=some (dJ z0))∧(i[m.toNat*4+1+1+1]?=some (dJ z1))∧True)∧(Ans prog 210 [rA o,rA [dJ z2,dJ z3,dJ z4,dJ z5,dJ z6,dJ z7,dJ z8,dK z9,dJ y0,dJ y1,dQ y2,dQ y3],rA [dJ (nAt i L),dJ Z,dJ z0,dJ z1]] (rA (W k)))∧(B k)∧(T k)∧(true=true)∧tU4 ((B k)∧((h[k*4]?=some (dJ (nAt h p)))∧(h[k*4+1]?=some (dJ (nAt h D)))∧(h[k*4+1+1]?=some (dJ (nAt h E)))∧(h[k*4+1+1+1]?=some (dJ (nAt h F)))∧True)∧(0≤nAt l q∧nAt l q < ((g.toNat:Nat):Int))∧(e.toNat*4+4≤h.length)∧tU2 ((U k)∧True∧(0≤wK n∧wK n≤K)∧tU2 ((V k)∧True∧(0≤wK x∧wK x≤J)∧tU2 ((true=true)∧∃ y:Bst,(H k y)∧(((0=0)∧r∧((wK n).toNat=y.2.1.length)∧(m.toNat=y.2.2.length)∧(C k)∧t∧u∧(C k)∧True)∧(v∧(sets h (e.toNat*4) ([dJ (nAt h p),dJ (nAt h D),dJ (nAt h E),dJ (nAt h F)])=rcs y.1)∧(List.take q l=is y.2.1)∧(List.take L i=rcs y.2.2)∧True))))))))))))))∧∀ y:Bst,let G:=(y.2.2.length:Int); let j:=(wK (G - 1)); let y4:=(nAt (rcs y.2.2) (j.toNat*4)); let y5:=(nAt (rcs y.2.2) (j.toNat*4+1)); let y6:=(nAt (rcs y.2.2) (j.toNat*4+1+1)); let y7:=(nAt (rcs y.2.2) (j.toNat*4+1+1+1)); (H k y)→tU2 ((y.2.2.length≤maxLen)∧True∧(0≤wK (G - 1)∧wK (G - 1) < G)∧tU4 ((((rcs y.2.2)[j.toNat*4]?=some (dJ y4))∧((rcs y.2.2)[j.toNat*4+1]?=some (dJ y5))∧((rcs y.2.2)[j.toNat*4+1+1]?=some (dJ y6))∧((rcs y.2.2)[j.toNat*4+1+1+1]?=some (dJ y7))∧True)∧tU2 ((B k)∧(((rcs y.1)[k*4]?=some (dJ (nAt (rcs y.1) p)))∧((rcs y.1)[k*4+1]?=some (dJ (nAt (rcs y.1) D)))∧((rcs y.1)[k*4+1+1]?=some (dJ (nAt (rcs y.1) E)))∧((rcs y.1)[k*4+1+1+1]?=some (dJ (nAt (rcs y.1) F)))∧True)∧True∧(Ans prog 211 [rD (dS 2 ([dJ y4,dJ y5,dJ y6,dJ y7,dJ (nAt (rcs y.1) p),dJ (nAt (rcs y.1) D),dJ (nAt (rcs y.1) E),dJ (nAt (rcs y.1) F)]))] (rA (X k y)))∧True∧(j.toNat*4+4≤(rcs y.2.2).length)∧(true=true)∧tU2 (∃ k':Nat,(k'≤s.ops.length)∧(O k k')∧(((0=0)∧r∧(y.2.1.length=(runB s k').2.1.length)∧(y.2.2.length=(runB s k').2.2.length)∧t∧u∧(P k k')∧True)∧(v∧(rcs y.1=rcs (runB s k').1)∧(is y.2.1=is (runB s k').2.1)∧(sets (rcs y.2.2) (j.toNat*4) (X k y)=rcs (runB s k').2.2)∧True))))))))∧(Y=false→tU3 (rT [rD (dS g.toNat I),rJ 0]=rT N)))))))))) ?_
  delta sE dJ dK dQ wK dS rJ
  simp only [sS]
  (try simp only [zJs,zYl,zZD,zZd,zQG])
  have hsE:(⟨s.bits,s.c,s.tw,s.th,s.ord,s.ims,s.ops⟩:Scr)=s:=rfl
  (try simp only [hsE])
  clear hsE
  have eB:zZ1 s=if s.run.1=0 then ((runB s s.ops.length).1,0) else ([],s.run.1):=rfl
  have oA:=zUz s
  have hE:opsE s.bits s.c s.tw s.th s.ord s.ims.length s.ops=s.run:=rfl
  simp only [hE]
  refine ⟨oA,fun h=>?_,fun h=>?_⟩
  ·have h:s.run.1≠0:=by simpa using h
   rw [eB,if_neg h]; exact ⟨⟨rfl,rfl⟩,rfl⟩
  ·have h0:s.run.1=0:=by simpa using h
   have F:=zHQ h0
   obtain ⟨fl1,fl2⟩:=jXw (zY5 h0).1
   have hM:∀ n:Nat,n≤10000→n≤maxLen:=fun n h=>by unfold maxLen; omega
   rw [eB,if_pos h0]
   clear eB hE oA h hwf
   refine ⟨⟨by omega,Int.le_refl _,by have:=hM s.ops.length (by omega); omega,by omega⟩,⟨0,Nat.zero_le _,⟨rfl,rfl,rfl⟩,jY3 _,rfl,rfl⟩,fun k hk=>⟨fun hlt=>?_,fun hge=>?_⟩⟩
   ·have hlt:k < s.ops.length:=by omega
    obtain ⟨st,g1,g2,g3,g4,g5,g6,g7⟩:=F k hk
    have q1:=zWd hlt
    have q2:=zWe hlt
    have eo:(s.ops[k]?).getD popO=s.ops[k]:=by rw [List.getElem?_eq_getElem hlt]; rfl
    obtain ⟨he1,he2⟩:=jJh g1 g2 hlt
    have w1:wrap .i64 ((k:Int)+1)=((k+1:Nat):Int):=zYs (by omega)
    have rS:runB s (k+1)=zUA s k s.ops[k] (runB s k):=by rw [← eo]; rfl
    have oeta:(⟨s.ops[k].kind,s.ops[k].image,s.ops[k].x,s.ops[k].y,s.ops[k].mask,s.ops[k].mx,s.ops[k].my,s.ops[k].opac,s.ops[k].oper,s.ops[k].mode,s.ops[k].iso,s.ops[k].kno⟩:Oq)=s.ops[k]:=rfl
    simp only [q2,eo,oeta,w1]
    generalize s.ops[k]=o at *
    clear oeta eo
    generalize hz:runB s k=z at *
    obtain ⟨z1,z2,z3⟩:=z
    simp only at *
    refine ⟨⟨by omega,by omega,by rw [zZh]; omega⟩,q1,⟨fun hp=>?_,fun hp=>⟨fun hd=>?_,fun hd=>?_⟩⟩,fun y hy=>?_⟩
    ·have hk2:o.kind=2:=by simpa using hp
     have e:runB s (k+1)=(z1,z2++[(k:Int)],z3++[Rc.zero]):=by rw [rS]; unfold zUA; rw [if_pos hk2]
     refine ⟨⟨by simp [zQH],rfl,hM _ (by omega),by omega⟩,⟨by simp [zXu],rfl,hM _ (by omega),by omega⟩,k+1,by omega,by omega,⟨?_,?_,rfl⟩,?_,?_,?_⟩
     ·rw [e]; simp
     ·rw [e]; simp
     ·rw [e]
     ·rw [e]; simp [is]
     ·rw [e,jUD,jUC]; rfl
    ·have hk1:o.kind=1:=by simpa using hd
     have e:zUB s k o (z1,z2,z3)=(z1.set k (boxF s o (imgR s o)),z2,z3):=by unfold zUB; rw [if_pos hk1]
     exact ⟨zVi s o,zVt s o (imgR s o),⟨by omega,by omega⟩,by rw [zXu]; omega,_,⟨by omega,e.symm⟩,⟨rfl,rfl⟩,zUR (by omega) _,rfl,rfl⟩
    ·have hk1:o.kind≠1:=by simpa using hd
     have hk2:o.kind≠2:=by simpa using hp
     have hz2:0 < z2.length:=by
      rcases zJa he1 with h | h | ⟨_,h⟩
      ·exact absurd h hk1
      ·exact absurd h hk2
      ·have:=List.length_pos_iff.2 h; omega
     have w2:wrap .i64 ((z2.length:Int) - 1)=((z2.length - 1:Nat):Int):=by rw [IntWalk.i64_in _ ⟨by omega,by omega⟩]; omega
     have w3:wrap .i64 ((z3.length:Int) - 1)=((z3.length - 1:Nat):Int):=by rw [IntWalk.i64_in _ ⟨by omega,by omega⟩]; omega
     obtain ⟨p,hp2⟩:∃ p,z2[z2.length - 1]?=some p:=⟨_,List.getElem?_eq_getElem (by omega)⟩
     obtain ⟨h,hh2⟩:∃ h,z3[z3.length - 1]?=some h:=⟨_,List.getElem?_eq_getElem (by omega)⟩
     have hpb:=g7 p (List.mem_of_getElem? hp2)
     have hpl:p.toNat < s.ops.length:=by omega
     have n2:nAt (is z2) (z2.length - 1)=p:=by simp [nAt,is,hp2]
     have n2':(is z2)[z2.length - 1]?=some (.int .i64 p):=by simp [is,hp2]
     have hl3:z3.length - 1 < z3.length:=by omega
     have eh:z3[z3.length - 1]=h:=by rw [List.getElem?_eq_getElem hl3] at hh2; exact Option.some.inj hh2
     have r1:=zVq z3 _ hl3
     have r2:=zVF hl3
     rw [eh] at r1 r2
     have q1':=zWd hpl
     have q2':=zWe hpl
     have eop:(s.ops[p.toNat]?).getD popO=s.ops[p.toNat]:=by rw [List.getElem?_eq_getElem hpl]; rfl
     have e:zUB s k o (z1,z2,z3)=((z1.set k (boxF s s.ops[p.toNat] h)).set p.toNat (boxF s s.ops[p.toNat] h),z2.dropLast,z3.dropLast):=by
      unfold zUB
      rw [if_neg hk1]
      simp only [hp2,hh2,Option.getD_some,eop]
     have oeta:(⟨s.ops[p.toNat].kind,s.ops[p.toNat].image,s.ops[p.toNat].x,s.ops[p.toNat].y,s.ops[p.toNat].mask,s.ops[p.toNat].mx,s.ops[p.toNat].my,s.ops[p.toNat].opac,s.ops[p.toNat].oper,s.ops[p.toNat].mode,s.ops[p.toNat].iso,s.ops[p.toNat].kno⟩:Oq)=s.ops[p.toNat]:=rfl
     have heta:(⟨h.a,h.b,h.c,h.d⟩:Rc)=h:=rfl
     simp only [w2,w3,Int.toNat_natCast,Nat.mul_one,n2,r2,q2',oeta,heta]
     have bx:=zVt s s.ops[p.toNat] h
     generalize s.ops[p.toNat]=q at *
     clear oeta heta eop
     generalize boxF s q h=B at *
     have es:sets (rcs z1) (k*4) [DV.int .i64 B.a,DV.int .i64 B.b,DV.int .i64 B.c,DV.int .i64 B.d]=rcs (z1.set k B):=zUR (by omega) B
     have hl1:k < (z1.set k B).length:=by simp; omega
     have b1:=zVq (z1.set k B) k hl1
     have b2:=zVF hl1
     rw [List.getElem_set_self] at b1 b2
     simp only [es,b2]
     have es2:sets (rcs (z1.set k B)) (p.toNat*4) [DV.int .i64 B.a,DV.int .i64 B.b,DV.int .i64 B.c,DV.int .i64 B.d]=rcs ((z1.set k B).set p.toNat B):=zUR (by simp; omega) B
     simp only [es2]
     refine ⟨hM _ (by omega),⟨by omega,by omega⟩,n2',⟨by omega,by omega,by rw [zZh]; omega⟩,q1',hM _ (by omega),⟨by omega,by omega⟩,r1,bx,⟨by omega,by omega⟩,by rw [zXu]; omega,⟨by omega,by omega⟩,b1,⟨by omega,by omega⟩,by rw [zXu,List.length_set]; omega,hM _ (by omega),⟨by omega,by omega⟩,hM _ (by omega),⟨by omega,by omega⟩,_,⟨hk2,e.symm⟩,⟨by simp,by simp⟩,rfl,?_,?_⟩
     ·rw [List.dropLast_eq_take]; simp [is]
     ·show _=rcs z3.dropLast
      rw [List.dropLast_eq_take,jWj]
    ·obtain ⟨y1,y2,y3⟩:=y
     obtain ⟨hk2,hy⟩:=hy
     simp only at hk2 hy ⊢
     have yl:0 < y3.length∧y3.length≤5000∧y1.length=s.ops.length:=by
      unfold zUB at hy
      split at hy
      ·simp only [Prod.mk.injEq] at hy
       obtain ⟨rfl,rfl,rfl⟩:=hy
       rw [List.length_set]; omega
      ·rename_i hk1
       simp only [Prod.mk.injEq] at hy
       obtain ⟨rfl,rfl,rfl⟩:=hy
       have hz2:0 < z2.length:=by
        rcases zJa he1 with h | h | ⟨_,h⟩
        ·exact absurd h hk1
        ·exact absurd h hk2
        ·have:=List.length_pos_iff.2 h; omega
       simp; omega
     obtain ⟨yl1,yl2,yl3⟩:=yl
     have w3:wrap .i64 ((y3.length:Int) - 1)=((y3.length - 1:Nat):Int):=by rw [IntWalk.i64_in _ ⟨by omega,by omega⟩]; omega
     have hl3:y3.length - 1 < y3.length:=by omega
     have hl1:k < y1.length:=by omega
     have r1:=zVq y3 _ hl3
     have r2:=zVF hl3
     have b1:=zVq y1 _ hl1
     have b2:=zVF hl1
     have e:runB s (k+1)=(y1,y2,y3.set (y3.length - 1) (zQX [y3[y3.length - 1],y1[k]])):=by
      rw [rS]
      unfold zUA
      rw [if_neg hk2]
      simp only [← hy,topB]
      rw [List.getElem?_eq_getElem hl3,List.getElem?_eq_getElem hl1]
      rfl
     simp only [w3,Int.toNat_natCast,r2,b2]
     generalize y3[y3.length - 1]=c at *
     generalize y1[k]=B at *
     have hu:=jQN 2 (rcs [c,B]) (jVm [c,B])
     have et:zXC [DV.int .i64 c.a,DV.int .i64 c.b,DV.int .i64 c.c,DV.int .i64 c.d,DV.int .i64 B.a,DV.int .i64 B.b,DV.int .i64 B.c,DV.int .i64 B.d]=[c,B]:=rfl
     simp only [zKy] at hu
     simp only [et]
     refine ⟨hM _ (by omega),⟨by omega,by omega⟩,r1,⟨by omega,by omega⟩,b1,hu,by rw [zXu]; omega,k+1,by omega,by omega,⟨?_,?_,rfl⟩,?_,?_,?_⟩
     ·rw [e]
     ·rw [e]; simp
     ·rw [e]
     ·rw [e]
     ·rw [e]; exact zUR hl3 _
   ·have:k=s.ops.length:=by omega
    subst this
    exact ⟨⟨by have:=(F _ hk).choose_spec.2.2.1; exact this.symm,rfl⟩,rfl⟩
def jGX:Gam where
 pure:=fun f xs=>
  none
 modes:=fun f=>
  none
 proc:=fun f xs bs=>
  none
 iter:=fun f cs=>
  none
theorem zVY (l:List Oq) (hl:l.length≤100000):Ans prog 77 [rD (dS l.length (ops l))] (rT [rD (dS ((zQY (zQb (ops l))).1.length) (is (zQY (zQb (ops l))).1)),rJ (((zQY (zQb (ops l))).2))]):=
 zQa (Γ:=jGX) (aQ aL (aQ aL (aQ aL (aQ (aQ aL (Ann.loop ⟨Nat × List Int × List Int,fun z:Nat × List Int × List Int=>z.1≤l.length∧z.2.1.length=l.length∧z.2.2.length≤z.1∧(∀ p∈z.2.2,0≤p∧p < (l.length:Int))∧runE (l.drop z.1) z.1 z.2.1 z.2.2=zQY l,fun z:Nat × List Int × List Int=>⟨[(4,aO (Cl.ref 10 l.length)),(5,aO (Cl.ref 9005 z.2.2.length)),(11,aO (cD (dS l.length (ops l)))),(12,aJ (l.length:Int)),(13,aJ (z.1:Int))],[(10,bR 3 1 (is z.2.1)),(9005,bR 3 1 (is z.2.2))]⟩,fun z:Nat × List Int × List Int=>l.length - z.1⟩ fun z=>aL)) aL)))) zQf Tryz.func77 rfl (nL rfl) fun hwf=>by
  refine Eq.mpr (by kernel_rfl:_=(let j:=(l.length=l.length); let k:=(zQY (zQb (ops l))); let a:=(l.length:Int); let e:=(dS l.length (ops l)=dS l.length (ops l)); let f:=(dJ a=dJ a); let m:=fun (z:Nat × List Int × List Int)=>fun (z':Nat × List Int × List Int)=>(l.length - z'.1 < l.length - z.1); let n:=fun (z:Nat × List Int × List Int)=>fun (z':Nat × List Int × List Int)=>(dJ (wK ((z.1:Int)+1))=dJ (z'.1:Int)); let q:=fun (z:Nat × List Int × List Int)=>fun (z':Nat × List Int × List Int)=>(List.set (is z.2.1) ((z.1:Int).toNat*1) (dJ (z.1:Int))=is z'.2.1); let r:=[rD (dS 0 ([])),rJ 18]; let g:=[rD (dS k.1.length (is k.1)),rJ k.2]; tU4 ((0≤a∧a≤a∧a≤(maxLen:Int)∧((8:Nat):Int)*a≤281474976710656)∧tU5 ((∃ z:Nat × List Int × List Int,(z.1≤l.length∧z.2.1.length=l.length∧z.2.2.length≤z.1∧(∀ p∈z.2.2,0≤p∧p < a)∧runE (l.drop z.1) z.1 z.2.1 z.2.2=zQY l)∧(((a.toNat=l.length)∧(0=z.2.2.length)∧e∧f∧(dJ 0=dJ (z.1:Int))∧True)∧((List.replicate a.toNat (dJ 0)=is z.2.1)∧([]=is z.2.2)∧True)))∧∀ z:Nat × List Int × List Int,let s:=(decide ((z.1:Int) < a)); let t:=(List.set (is z.2.1) ((z.1:Int).toNat*1) (dJ (z.1:Int))); let h:=(z.2.2.length≤maxLen); let b:=(nAt (ops l) ((z.1:Int).toNat*12)); let c:=(z.2.2.length:Int); let d:=(c - 1); let i:=((wK d).toNat*1); let o:=(nAt (is z.2.2) i); (z.1≤l.length∧z.2.1.length=l.length∧z.2.2.length≤z.1∧(∀ p∈z.2.2,0≤p∧p < a)∧runE (l.drop z.1) z.1 z.2.1 z.2.2=zQY l)→True∧((s=true→True∧(0≤(z.1:Int)∧(z.1:Int) < a∧(z.1:Int).toNat*12 < (ops l).length)∧(((ops l)[(z.1:Int).toNat*12]?=some (dJ b))∧((ops l)[(z.1:Int).toNat*12+1]?=some (dJ (nAt (ops l) ((z.1:Int).toNat*12+1))))∧((ops l)[(z.1:Int).toNat*12+1+1]?=some (dJ (nAt (ops l) ((z.1:Int).toNat*12+1+1))))∧((ops l)[(z.1:Int).toNat*12+1+1+1]?=some (dJ (nAt (ops l) ((z.1:Int).toNat*12+1+1+1))))∧((ops l)[(z.1:Int).toNat*12+1+1+1+1]?=some (dJ (nAt (ops l) ((z.1:Int).toNat*12+1+1+1+1))))∧((ops l)[(z.1:Int).toNat*12+1+1+1+1+1]?=some (dJ (nAt (ops l) ((z.1:Int).toNat*12+1+1+1+1+1))))∧((ops l)[(z.1:Int).toNat*12+1+1+1+1+1+1]?=some (dJ (nAt (ops l) ((z.1:Int).toNat*12+1+1+1+1+1+1))))∧((ops l)[(z.1:Int).toNat*12+1+1+1+1+1+1+1]?=some (dK (nAt (ops l) ((z.1:Int).toNat*12+1+1+1+1+1+1+1))))∧((ops l)[(z.1:Int).toNat*12+1+1+1+1+1+1+1+1]?=some (dJ (nAt (ops l) ((z.1:Int).toNat*12+1+1+1+1+1+1+1+1))))∧((ops l)[(z.1:Int).toNat*12+1+1+1+1+1+1+1+1+1]?=some (dJ (nAt (ops l) ((z.1:Int).toNat*12+1+1+1+1+1+1+1+1+1))))∧((ops l)[(z.1:Int).toNat*12+1+1+1+1+1+1+1+1+1+1]?=some (dQ (bAt (ops l) ((z.1:Int).toNat*12+1+1+1+1+1+1+1+1+1+1))))∧((ops l)[(z.1:Int).toNat*12+1+1+1+1+1+1+1+1+1+1+1]?=some (dQ (bAt (ops l) ((z.1:Int).toNat*12+1+1+1+1+1+1+1+1+1+1+1))))∧True)∧tU6 ((0≤(z.1:Int)∧(z.1:Int) < a)∧((z.1:Int).toNat*1+1≤(is z.2.1).length)∧tU4 (((b==1)=true→tU2 (∃ z':Nat × List Int × List Int,(z'.1≤l.length∧z'.2.1.length=l.length∧z'.2.2.length≤z'.1∧(∀ p∈z'.2.2,0≤p∧p < a)∧runE (l.drop z'.1) z'.1 z'.2.1 z'.2.2=zQY l)∧(m z z')∧((j∧(z.2.2.length=z'.2.2.length)∧e∧f∧(n z z')∧True)∧((q z z')∧(is z.2.2=is z'.2.2)∧True))))∧((b==1)=false→tU2 (((b==2)=true→tU3 ((zZL 1 8 z.2.2.length 1 (is z.2.2) ([dJ (z.1:Int)]))∧tU3 (∃ z':Nat × List Int × List Int,(z'.1≤l.length∧z'.2.1.length=l.length∧z'.2.2.length≤z'.1∧(∀ p∈z'.2.2,0≤p∧p < a)∧runE (l.drop z'.1) z'.1 z'.2.1 z'.2.2=zQY l)∧(m z z')∧((j∧(z.2.2.length+1=z'.2.2.length)∧e∧f∧(n z z')∧True)∧((q z z')∧((is z.2.2)++([dJ (z.1:Int)])=is z'.2.2)∧True)))))∧((b==2)=false→tU2 (((b==3)=true→True∧h∧True∧(((c==0)=true→tU2 (rT r=rT g))∧((c==0)=false→tU3 (h∧True∧(0≤wK d∧wK d < c)∧(((is z.2.2)[(wK d).toNat*1]?=some (dJ o))∧True)∧True∧(0≤nAt (is z.2.2) i∧nAt (is z.2.2) i < a)∧(o.toNat*1+1≤t.length)∧tU2 (h∧True∧(0≤wK d∧wK d≤c)∧tU3 (∃ z':Nat × List Int × List Int,(z'.1≤l.length∧z'.2.1.length=l.length∧z'.2.2.length≤z'.1∧(∀ p∈z'.2.2,0≤p∧p < a)∧runE (l.drop z'.1) z'.1 z'.2.1 z'.2.2=zQY l)∧(m z z')∧((j∧((wK d).toNat=z'.2.2.length)∧e∧f∧(n z z')∧True)∧((List.set t (o.toNat*1) (dJ (z.1:Int))=is z'.2.1)∧(List.take i (is z.2.2)=is z'.2.2)∧True))))))))∧((b==3)=false→tU2 (rT [rD (dS 0 ([])),rJ 9]=rT g)))))))))∧(s=false→True∧h∧True∧(((decide (c > 0))=true→tU2 (rT r=rT g))∧((decide (c > 0))=false→tU3 (rT [rD (dS l.length (is z.2.1)),rJ 0]=rT g))))))))) ?_
  delta dJ dK dQ wK dS rJ
  simp only [sS]
  simp only [zQG]
  have hM:∀ n:Nat,n≤100000→n≤maxLen:=fun n h=>by unfold maxLen; omega
  clear hwf
  refine ⟨⟨by omega,by omega,by have:=hM _ hl; omega,by omega⟩,⟨(0,List.replicate l.length 0,[]),⟨Nat.zero_le _,by simp,by simp,by simp,rfl⟩,?_⟩,fun z hz=>⟨fun hlt=>?_,fun hge=>?_⟩⟩
  ·exact ⟨⟨rfl,rfl⟩,by simp [is],rfl⟩
  ·obtain ⟨k,out,op⟩:=z
   obtain ⟨z1,z2,z3,z4,z5⟩:=hz
   simp only at *
   have hk:k < l.length:=by omega
   have q1:=zWd hk
   have q2:=zWe hk
   have w1:wrap .i64 ((k:Int)+1)=((k+1:Nat):Int):=by rw [IntWalk.i64_in _ ⟨by omega,by omega⟩]; omega
   have hd:l.drop k=l[k]::l.drop (k+1):=List.drop_eq_getElem_cons hk
   have is_s:∀ (L:List Int) (j:Nat) (v:Int),(is L).set j (.int .i64 v)=is (L.set j v):=fun L j v=>by simp [is]
   have io:(is out).length=out.length:=zQH out
   rw [hd,runE] at z5
   simp only [Nat.add_zero,q2,w1,Nat.mul_one,is_s]
   generalize l[k]=o at *
   refine ⟨⟨by omega,by omega,by rw [zZh]; omega⟩,q1,⟨by omega,by omega⟩,by omega,fun h1=>?_,fun h1=>⟨fun h2=>?_,fun h2=>⟨fun h3=>?_,fun h3=>?_⟩⟩⟩
   ·have h1:o.kind=1:=by simpa using h1
    rw [if_pos h1] at z5
    exact ⟨(k+1,out.set k k,op),⟨by simp only; omega,by simp only [List.length_set]; omega,by simp only; omega,z4,z5⟩,by simp only; omega,⟨rfl,rfl⟩,rfl,rfl⟩
   ·have h1:¬ o.kind=1:=by simpa using h1
    have h2:o.kind=2:=by simpa using h2
    rw [if_neg h1,if_pos h2] at z5
    refine ⟨⟨by simp [zQH],rfl,hM _ (by omega),by omega⟩,(k+1,out.set k k,op++[(k:Int)]),⟨by simp only; omega,by simp only [List.length_set]; omega,by simp; omega,?_,z5⟩,by simp only; omega,⟨by simp,rfl⟩,rfl,by simp [is]⟩
    intro p hp
    rcases List.mem_append.1 hp with hp | hp
    ·exact z4 p hp
    ·rw [List.mem_singleton] at hp; omega
   ·have h1:¬ o.kind=1:=by simpa using h1
    have h2:¬ o.kind=2:=by simpa using h2
    have h3:o.kind=3:=by simpa using h3
    rw [if_neg h1,if_neg h2,if_pos h3] at z5
    refine ⟨hM _ (by omega),fun h4=>?_,fun h4=>?_⟩
    ·have h4:op=[]:=List.length_eq_zero_iff.1 (by simpa using h4)
     rw [if_pos h4] at z5
     rw [← z5]
     exact ⟨⟨rfl,rfl⟩,rfl⟩
    ·have h4:0 < op.length:=by
      have:¬ op.length=0:=by simpa using h4
      omega
     have h5:op≠[]:=by intro e; rw [e] at h4; simp at h4
     rw [if_neg h5] at z5
     have w2:wrap .i64 ((op.length:Int) - 1)=((op.length - 1:Nat):Int):=by rw [IntWalk.i64_in _ ⟨by omega,by omega⟩]; omega
     obtain ⟨p,hp2⟩:∃ p,op[op.length - 1]?=some p:=⟨_,List.getElem?_eq_getElem (by omega)⟩
     have hpb:=z4 p (List.mem_of_getElem? hp2)
     have n2:nAt (is op) (op.length - 1)=p:=by simp [nAt,is,hp2]
     have n2':(is op)[op.length - 1]?=some (.int .i64 p):=by simp [is,hp2]
     rw [hp2,Option.getD_some] at z5
     simp only [w2,Int.toNat_natCast,n2]
     refine ⟨hM _ (by omega),⟨by omega,by omega⟩,n2',⟨by omega,by omega⟩,by rw [zQH,List.length_set]; omega,hM _ (by omega),⟨by omega,by omega⟩,(k+1,(out.set k k).set p.toNat k,op.dropLast),⟨by simp only; omega,by simp only [List.length_set]; omega,by simp; omega,fun q hq=>z4 q (List.dropLast_subset _ hq),z5⟩,by simp only; omega,⟨by simp,rfl⟩,rfl,?_⟩
     simp [is,List.dropLast_eq_take]
   ·have h1:¬ o.kind=1:=by simpa using h1
    have h2:¬ o.kind=2:=by simpa using h2
    have h3:¬ o.kind=3:=by simpa using h3
    rw [if_neg h1,if_neg h2,if_neg h3] at z5
    rw [← z5]
    exact ⟨⟨rfl,rfl⟩,rfl⟩
  ·obtain ⟨k,out,op⟩:=z
   obtain ⟨z1,z2,z3,z4,z5⟩:=hz
   simp only at *
   have hk:k=l.length:=by omega
   subst hk
   rw [List.drop_length,runE] at z5
   refine ⟨hM _ (by omega),fun h=>?_,fun h=>?_⟩
   ·have h5:op≠[]:=by intro e; rw [e] at h; simp at h
    rw [if_neg h5] at z5
    rw [← z5]
    exact ⟨⟨rfl,rfl⟩,rfl⟩
   ·have h5:op=[]:=List.length_eq_zero_iff.1 (by omega)
    rw [if_pos h5] at z5
    rw [← z5]
    exact ⟨⟨z2.symm,rfl⟩,rfl⟩
theorem Occ.next {s:Scr} (hv:s.run.1=0) {k:Nat} {f:Fo} (h:Occ s (foOf s) k f) (hf:0 < f.size):∃ f2,Occ s (foOf s) (enAt s k+1) f2∧enAt s k+1+f2.size=k+f.size∧zQQ s f=bxAt s k::zQQ s f2∧(opAt s k).kind≠3∧k≤enAt s k∧k < s.ops.length:=by
 have hz:=zZF hv
 have hs:=(zXm hv).2
 have g:∀ {q:Nat} {o:Oq},(foOf s).flat[q]?=some o→opAt s q=o:=fun {q o} hq=>by
  unfold opAt
  have:s.ops[q]?=some o:=by rw [← hq]; exact congrArg (fun l:List Oq=>l[q]?) hs
  rw [this]; rfl
 cases f with
 | nil=>simp [Fo.size] at hf
 | draw o r=>
  obtain ⟨k1,k0,k2,k3,k4,k5⟩:=h.draw
  have hk:k < s.ops.length:=by omega
  have e:enAt s k=k:=by rw [(zXn hv hk).2,k3]
  exact ⟨r,by rw [e]; exact k5,by rw [e]; simp only [Fo.size]; omega,by rw [zKd hv hk,k4]; rfl,by rw [g k2,k1]; decide,by omega,hk⟩
 | grp o kf r=>
  obtain ⟨k1,k0,k2,k3,k4,k5,k6,k7,k8,k9⟩:=h.grp
  have hk:k < s.ops.length:=by omega
  have e:enAt s k=k+kf.size+1:=by rw [(zXn hv hk).2,k4]
  exact ⟨r,by rw [e]; exact k9,by rw [e]; simp only [Fo.size]; omega,by rw [zKd hv hk,k6]; rfl,by rw [g k2,k1]; decide,by omega,hk⟩
theorem jUK {s:Scr} {p:Nat} (h:p < s.ops.length):opAt s p=s.ops[p]:=by unfold opAt; rw [List.getElem?_eq_getElem h]; rfl
end
theorem zG4 {s:Scr} (h:s.run.1=0) {p q:Nat} (hp:p < s.ops.length) (h1:p < q) (h2:q < enAt s p):enAt s q < enAt s p:=by
 have he:=zUa h hp
 have:=zJ9 (foOf s) 0 p q (by omega) (by rw [← zZF h]; omega) h1 (by rw [← (zXn h hp).2]; exact h2)
 rw [(zXn h hp).2,(zXn h (p:=q) (by omega)).2]
 exact this
theorem zXo (s:Scr) (r:Rc) (i:Nat):zXy s r i=true↔hitB s r i=true∧∀ j,j < i→(opAt s j).kind=2→i < enAt s j→hitB s r j=true:=by
 unfold zXy jV2
 rw [Bool.and_eq_true,List.all_eq_true]
 refine and_congr_right fun _=>⟨fun h j h1 h2 h3=>?_,fun h j h1=>?_⟩
 ·have:=h j (List.mem_range.2 h1)
  simpa [h2,h3] using this
 ·have:=h j (List.mem_range.1 h1)
  by_cases c1:(opAt s j).kind=2 <;> by_cases c2:i < enAt s j <;> simp [c1,c2]
  exact this c1 c2
theorem jYO {s:Scr} (h:s.run.1=0) (r:Rc) {p:Nat} (hp:p < s.ops.length) (h2:(opAt s p).kind=2):zXy s r (enAt s p)=zXy s r p:=by
 obtain ⟨p1,p2,p3,p4⟩:=jZU h hp h2
 have he:=zUa h hp
 rw [Bool.eq_iff_iff,zXo,zXo]
 have e:hitB s r (enAt s p)=hitB s r p:=by unfold hitB; rw [p3]
 rw [e]
 refine and_congr_right fun hb=>⟨fun g j j1 j2 j3=>?_,fun g j j1 j2 j3=>?_⟩
 ·refine g j (by omega) j2 ?_
  exact zG4 h (by omega) j1 j3
 ·rcases Nat.lt_trichotomy j p with c | c | c
  ·exact g j c j2 (by omega)
  ·subst c; exact hb
  ·have:=zG4 h hp c j1
   omega
def Scn.scr (s:Scn):Scr:=⟨s.bits,s.c,s.gtw,s.gth,s.ord,s.ims,s.ops⟩
theorem Scn.scr_run (s:Scn):s.scr.run=(0,0):=by
 have li:=s.ims_len
 have lo:=s.ops_len
 have f:=s.frame_ok (mn:=s.ims.length) (pn:=s.ops.length) (by omega) (by omega)
 show opsE s.bits s.c s.gtw s.gth s.ord s.ims.length s.ops=_
 unfold opsE
 rw [if_pos f]
 exact s.ops_run
section
attribute [local irreducible] Ans AnsO AnsG AnsN AnsI
def gZ58 (xs:List RV):Option RV:=match xs with | [.d (.sl pn pxs)]=>let a:=(zQY (zQb pxs)); some (RV.tup [RV.d (dS a.1.length (is a.1)),rJ a.2]) | _=>none
def jGY:Gam where
 pure:=fun f xs=>
  if f=156 then (match xs with | [.agg [.int _ bits,.int _ cx0,.int _ cy0,.int _ cx1,.int _ cy1,.int _ tw,.int _ th,.sl on oxs,.sl mn mxs,.sl pn pxs]]=>some (RV.tup [RV.d (dS (zZ1 (⟨bits,⟨cx0,cy0,cx1,cy1⟩,tw,th,ints oxs,zQc mxs,zQb pxs⟩:Scr)).1.length (rcs (zZ1 (⟨bits,⟨cx0,cy0,cx1,cy1⟩,tw,th,ints oxs,zQc mxs,zQb pxs⟩:Scr)).1)),rJ (zZ1 (⟨bits,⟨cx0,cy0,cx1,cy1⟩,tw,th,ints oxs,zQc mxs,zQb pxs⟩:Scr)).2]) | _=>none) else
  if f=77 then gZ58 xs else
  if f=157 then gZ7 xs else
  if f=40 then gZ4 xs else
  none
 modes:=fun f=>
  none
 proc:=fun f xs bs=>
  none
 iter:=fun f cs=>
  none
theorem zUc (s:Scr) (r:Rc):Ans prog 81 [rA [dJ s.bits,dJ s.c.a,dJ s.c.b,dJ s.c.c,dJ s.c.d,dJ s.tw,dJ s.th,dS s.ord.length (is s.ord),dS s.ims.length (ims s.ims),dS s.ops.length (ops s.ops)],rA [dJ r.a,dJ r.b,dJ r.c,dJ r.d]] (rT [rD (dS ((zZ0 s r).1.length) (bs (zZ0 s r).1)),rJ (((zZ0 s r).2))]):=
 zQa (Γ:=jGY) (aQ aL (aQ aL (aQ aL (aQ aL (aQ aL (aQ (aQ aL (Ann.loop ⟨Nat,fun k=>k≤s.ops.length∧Live s r k,fun k=>⟨[(2,aO (Cl.ptr 2 0)),(3,aO (Cl.ptr 3 0)),(6,aO (cD (dS (zZ1 (⟨s.bits,⟨s.c.a,s.c.b,s.c.c,s.c.d⟩,s.tw,s.th,ints (is s.ord),zQc (ims s.ims),zQb (ops s.ops)⟩:Scr)).1.length (rcs (zZ1 (⟨s.bits,⟨s.c.a,s.c.b,s.c.c,s.c.d⟩,s.tw,s.th,ints (is s.ord),zQc (ims s.ims),zQb (ops s.ops)⟩:Scr)).1)))),(8,aO (cD (dS (zQY (zQb (ops s.ops))).1.length (is (zQY (zQb (ops s.ops))).1)))),(10,aO (Cl.ref 28 s.ops.length)),(11,aJ (k:Int))],[(2,bC [cJ s.bits,cJ s.c.a,cJ s.c.b,cJ s.c.c,cJ s.c.d,cJ s.tw,cJ s.th,cD (dS s.ord.length (is s.ord)),cD (dS s.ims.length (ims s.ims)),cD (dS s.ops.length (ops s.ops))]),(3,bC [cJ r.a,cJ r.b,cJ r.c,cJ r.d]),(28,bR 4 1 (bs (zYU s r k)))]⟩,fun k=>s.ops.length - k⟩ fun k=>aL)) aL)))))) zQf Tryz.func81 rfl (nL rfl) fun hwf=>by
  refine Eq.mpr (by kernel_rfl:_=(let f:=(zZ1 ((sE s):Scr)); let o:=(zQY (zQb (ops s.ops))); let i:=(is o.1); let g:=((f.1.length:Nat):Int); let e:=(rcs f.1); let q:=[dJ s.bits,dJ s.c.a,dJ s.c.b,dJ s.c.c,dJ s.c.d,dJ s.tw,dJ s.th,dS s.ord.length (is s.ord),dS s.ims.length (ims s.ims),dS s.ops.length (ops s.ops)]; let z:=[rD (dS (zZ0 s r).1.length (bs (zZ0 s r).1)),rJ (zZ0 s r).2]; let A:=fun (k:Nat)=>(k≤s.ops.length∧Live s r k); let t:=(dS f.1.length e=dS f.1.length e); let u:=(dS o.1.length i=dS o.1.length i); let B:=(q=q); let v:=[dJ r.a,dJ r.b,dJ r.c,dJ r.d]; let C:=(v=v); let D:=fun (k:Nat)=>(let aA:=(Rc.inter ⟨(nAt e (k*4)),(nAt e (k*4+1)),(nAt e (k*4+1+1)),(nAt e (k*4+1+1+1))⟩ r); [dJ aA.a,dJ aA.b,dJ aA.c,dJ aA.d]); let E:=fun (k:Nat)=>(0≤(k:Int)∧(k:Int) < (s.ops.length:Int)); let w:=fun (k':Nat)=>(k'≤s.ops.length∧Live s r k'); let x:=fun (k:Nat)=>fun (k':Nat)=>(s.ops.length - k' < s.ops.length - k); let F:=(s.ops.length=s.ops.length); let G:=fun (k:Nat)=>fun (k':Nat)=>(B∧C∧(List.set (bs (zYU s r k)) (k*1) (dQ (!(Rc.empty (Rc.inter ⟨(nAt e (k*4)),(nAt e (k*4+1)),(nAt e (k*4+1+1)),(nAt e (k*4+1+1+1))⟩ r))))=bs (zYU s r k'))∧True); let H:=fun (k:Nat)=>fun (k':Nat)=>(((0=0)∧(0=0)∧t∧u∧F∧(dJ (wK ((k:Int)+1))=dJ (k':Int))∧True)∧(G k k')); tU5 ((Ans prog 156 [rA q] (rT [rD (dS f.1.length e),rJ f.2]))∧tU7 (((f.2 != 0)=true→tU3 (rT [rD (dS 0 ([])),rJ f.2]=rT z))∧((f.2 != 0)=false→tU2 ((Ans prog 77 [rD (dS s.ops.length (ops s.ops))] (rT [rD (dS o.1.length i),rJ o.2]))∧tU7 ((0≤g∧g≤g∧g≤(maxLen:Int)∧((1:Nat):Int)*g≤281474976710656)∧tU2 ((∃ k:Nat,(A k)∧(((0=0)∧(0=0)∧t∧u∧(g.toNat=s.ops.length)∧(dJ 0=dJ (k:Int))∧True)∧(B∧C∧(List.replicate g.toNat (dQ false)=bs (zYU s r k))∧True)))∧∀ k:Nat,let I:=(decide ((k:Int) < g)); let y:=(nAt (ops s.ops) (k*12+0)); let p:=(bs (zYU s r k)); let h:=(k*1); let j:=(nAt e (k*4)); let l:=(nAt e (k*4+1)); let m:=(nAt e (k*4+1+1)); let n:=(nAt e (k*4+1+1+1)); (A k)→tU4 ((I=true→tU4 ((0≤(k:Int)∧(k:Int) < g∧k*4 < e.length)∧((e[k*4]?=some (dJ j))∧(e[k*4+1]?=some (dJ l))∧(e[k*4+1+1]?=some (dJ m))∧(e[k*4+1+1+1]?=some (dJ n))∧True)∧True∧(Ans prog 157 [rA [dJ j,dJ l,dJ m,dJ n],rA v] (rA (D k)))∧(Ans prog 40 [rA (D k)] (rD (dQ (Rc.empty (Rc.inter ⟨j,l,m,n⟩ r)))))∧True∧(E k)∧(k*1+1≤p.length)∧(true=true)∧tU3 ((0≤(k:Int)∧(k:Int) < (s.ops.length:Int)∧k*12 < (ops s.ops).length)∧True∧(((ops s.ops)[k*12+0]?=some (dJ y))∧True)∧tU2 (((y==2)=true→tU2 ((E k)∧(((List.set p h (dQ (!(Rc.empty (Rc.inter ⟨j,l,m,n⟩ r)))))[k*1]?=some (dQ (bAt (List.set p h (dQ (!(Rc.empty (Rc.inter ⟨j,l,m,n⟩ r))))) h)))∧True)∧tU2 (((!(bAt (List.set p h (dQ (!(Rc.empty (Rc.inter ⟨j,l,m,n⟩ r))))) h))=true→tU2 ((0≤(k:Int)∧(k:Int) < ((o.1.length:Nat):Int)∧k*1 < i.length)∧((i[k*1]?=some (dJ (nAt i h)))∧True)∧tU4 (∃ k':Nat,(w k')∧(x k k')∧(((0=0)∧(0=0)∧t∧u∧F∧(dJ (wK ((nAt i h)+1))=dJ (k':Int))∧True)∧(G k k')))))∧((!(bAt (List.set p h (dQ (!(Rc.empty (Rc.inter ⟨j,l,m,n⟩ r))))) h))=false→tU3 (∃ k':Nat,(w k')∧(x k k')∧(H k k'))))))∧((y==2)=(!true)→tU4 (∃ k':Nat,(w k')∧(x k k')∧(H k k')))))))∧(I=false→tU3 (rT [rD (dS s.ops.length p),rJ 0]=rT z))))))))))) ?_
  delta sE dJ dQ wK dS rJ
  simp only [sS,zQu,zQK,zQ1]
  (try simp only [zJs,zYl,zZD,zZd,zQG])
  have hsE:(⟨s.bits,s.c,s.tw,s.th,s.ord,s.ims,s.ops⟩:Scr)=s:=rfl
  (try simp only [hsE])
  clear hsE
  have bA:=zUO s
  try simp only [zJs,zYl,zZD,zZd,zQG] at bA
  by_cases h0:¬ s.run.1=0
  ·have e1:=jVT h0
   have e2:zZ0 s r=([],s.run.1):=by unfold zZ0; rw [if_neg h0]
   rw [e1] at bA
   rw [e1,e2]
   exact ⟨bA,fun _=>⟨⟨rfl,rfl⟩,rfl⟩,fun h=>absurd (by simpa using h) h0⟩
  have h0:s.run.1=0:=Decidable.not_not.1 h0
  obtain ⟨_,e2,e3⟩:=jJC h0
  have eA:zZ0 s r=((List.range s.ops.length).map (zXy s r),0):=by unfold zZ0; rw [if_pos h0]
  refine ⟨bA,fun h=>absurd e2 (by simpa using h),fun _=>?_⟩
  obtain ⟨fl1,fl2⟩:=jXw (zY5 h0).1
  have hM:∀ n:Nat,n≤10000→n≤maxLen:=fun n h=>by unfold maxLen; omega
  have el:=(jWO h0).1
  have eE:=zVY s.ops (by omega)
  rw [zQG] at eE
  rw [eA]
  simp only [e3]
  clear hwf bA
  refine ⟨eE,⟨by omega,Int.le_refl _,by have:=hM s.ops.length (by omega); omega,by omega⟩,⟨0,⟨Nat.zero_le _,jVg s r⟩,⟨trivial,rfl⟩,by rw [jKn,jU9]⟩,fun k hk=>⟨fun hlt=>?_,fun hge=>?_⟩⟩
  ·obtain ⟨hk0,hL⟩:=hk
   have hk:k < s.ops.length:=by omega
   have b1:=zVq (zZ1 s).1 k (by omega)
   have b2:=zVF (show k < (zZ1 s).1.length by omega)
   have eb:(zZ1 s).1[k]=bxAt s k:=by unfold bxAt; rw [List.getElem?_eq_getElem (by omega)]; rfl
   rw [eb] at b1 b2
   have heta:(⟨(bxAt s k).a,(bxAt s k).b,(bxAt s k).c,(bxAt s k).d⟩:Rc)=bxAt s k:=rfl
   have eh:(!((bxAt s k).inter r).empty)=hitB s r k:=rfl
   simp only [b2,heta,eh]
   have q1:=zWd hk
   have q2:=zWe hk
   have eo:opAt s k=s.ops[k]:=jUK hk
   have w1:wrap .i64 ((k:Int)+1)=((k+1:Nat):Int):=zYs (by omega)
   simp only [Nat.add_zero,Nat.mul_one,q2,← eo,jGJ,← zWj hL,jQq]
   have ng:=jJp (jYI h0 hk)
   have ne:=jVl (jYI h0 hk)
   have ei:=zUa h0 hk
   have g:(zYU s r (k+1))[k]?=some (hitB s r k):=by rw [← zWj hL]; simp [zYU,hk]
   have gb:=jVS g
   have gg:=jVR g
   simp only [gb,ne,w1]
   refine ⟨⟨by omega,by omega,by rw [zXu]; omega⟩,b1,zQu _ _ _ _ _ _ _ _,zQK _ _ _ _,⟨by omega,by omega⟩,by rw [zHa,jV0]; omega,⟨by omega,by omega,by rw [zZh]; omega⟩,by rw [eo]; exact q1.1,fun h2=>⟨⟨by omega,by omega⟩,gg,fun hb=>?_,fun hb=>?_⟩,fun h2=>?_⟩
   ·have h2:(opAt s k).kind=2:=by simpa using h2
    obtain ⟨l1,l2⟩:=jVh h0 hk hL h2 hb
    have l3:zYU s r (k+1)=zYU s r k:=by
     rw [← jQq,zWj hL,hb]
     refine List.ext_getElem (by simp) fun i i1 i2=>?_
     rw [List.getElem_set]
     split
     ·rename_i e; subst e; simp [zYU]
     ·rfl
    exact ⟨⟨by omega,by omega,by rw [zQH]; omega⟩,ng,enAt s k+1,⟨by omega,l1⟩,by omega,by rw [IntWalk.i64_in _ ⟨by omega,by omega⟩]; omega,by rw [l2,l3]⟩
   ·exact ⟨k+1,⟨by omega,jZ6 hL (by rw [hb]; simp)⟩,by omega,rfl,rfl⟩
   ·have h2:(opAt s k).kind≠2:=by simpa using h2
    exact ⟨k+1,⟨by omega,jZ6 hL (fun h=>h2 h.1)⟩,by omega,rfl,rfl⟩
  ·obtain ⟨hk0,hL⟩:=hk
   have:k=s.ops.length:=by omega
   subst this
   rw [jV1]
   exact ⟨⟨by simp,rfl⟩,trivial⟩
def gZ59 (xs:List AV) (bs:List Bx):Option Ret:=match xs,bs with | [AV.one (Cl.ptr 0 0),AV.agg [Cl.d (DV.int _ ra),Cl.d (DV.int _ rb),Cl.d (DV.int _ rc_),Cl.d (DV.int _ rd)]],[Bx.cells [Cl.d (DV.int _ bits),Cl.d (DV.int _ cx0),Cl.d (DV.int _ cy0),Cl.d (DV.int _ cx1),Cl.d (DV.int _ cy1),Cl.d (DV.int _ tw),Cl.d (DV.int _ th),Cl.d (DV.sl on oxs),Cl.d (DV.sl mn mxs),Cl.d (DV.sl qn qxs),Cl.d (DV.int _ most),Cl.d (DV.sl en exs),Cl.ref 1 fn],Bx.row _ _ fxs]=>some ⟨AV.one (Cl.d (dS (zZs (⟨bits,⟨cx0,cy0,cx1,cy1⟩,tw,th,ints oxs,zQc mxs,zQb qxs⟩:Scr) most (ints exs) (⟨ra,rb,rc_,rd⟩:Rc) (zQt (⟨ra,rb,rc_,rd⟩:Rc))).length (pxs (zZs (⟨bits,⟨cx0,cy0,cx1,cy1⟩,tw,th,ints oxs,zQc mxs,zQb qxs⟩:Scr) most (ints exs) (⟨ra,rb,rc_,rd⟩:Rc) (zQt (⟨ra,rb,rc_,rd⟩:Rc)))))),[bC [cJ bits,cJ cx0,cJ cy0,cJ cx1,cJ cy1,cJ tw,cJ th,Cl.d (dS on oxs),Cl.d (dS mn mxs),Cl.d (dS qn qxs),cK most,Cl.d (dS en exs),Cl.ref 1 (zYB (⟨bits,⟨cx0,cy0,cx1,cy1⟩,tw,th,ints oxs,zQc mxs,zQb qxs⟩:Scr) most (ints exs) (⟨ra,rb,rc_,rd⟩:Rc) (zKp fxs) (zQt (⟨ra,rb,rc_,rd⟩:Rc))).length],Bx.row 249 14 (frs (zYB (⟨bits,⟨cx0,cy0,cx1,cy1⟩,tw,th,ints oxs,zQc mxs,zQb qxs⟩:Scr) most (ints exs) (⟨ra,rb,rc_,rd⟩:Rc) (zKp fxs) (zQt (⟨ra,rb,rc_,rd⟩:Rc))))],false⟩ | _,_=>none
def jGR:Gam where
 pure:=fun f xs=>
  if f=81 then (match xs with | [.agg [.int _ bits,.int _ cx0,.int _ cy0,.int _ cx1,.int _ cy1,.int _ tw,.int _ th,.sl on oxs,.sl mn mxs,.sl pn pxs],.agg [.int _ ra,.int _ rb,.int _ rc_,.int _ rd]]=>some (RV.tup [RV.d (dS (zZ0 (⟨bits,⟨cx0,cy0,cx1,cy1⟩,tw,th,ints oxs,zQc mxs,zQb pxs⟩:Scr) ⟨ra,rb,rc_,rd⟩).1.length (bs (zZ0 (⟨bits,⟨cx0,cy0,cx1,cy1⟩,tw,th,ints oxs,zQc mxs,zQb pxs⟩:Scr) ⟨ra,rb,rc_,rd⟩).1)),rJ (zZ0 (⟨bits,⟨cx0,cy0,cx1,cy1⟩,tw,th,ints oxs,zQc mxs,zQb pxs⟩:Scr) ⟨ra,rb,rc_,rd⟩).2]) | _=>none) else
  none
 modes:=fun f=>
  if f=82 then some ([false,true,true,true,true],1,1) else
  if f=37 then some ([false,true],1,1) else
  none
 proc:=fun f xs bs=>
  if f=82 then gZ55 xs bs else
  if f=37 then gZ59 xs bs else
  none
 iter:=fun f cs=>
  none
theorem zX2 (s:Scr) (most:Int) (e:List Int) (F:List Fr) (r:Rc) (hu:∀ m∈s.ims,m.isU) (hI:s.ims.length≤1000000) (hP:zVz s most e r) (hM:s.ops.length≤1000000):AnsG prog 37 1 [aPz,AV.agg [cJ (r.a),cJ (r.b),cJ (r.c),cJ (r.d)]] [bC [cJ (s.bits),cJ (s.c.a),cJ (s.c.b),cJ (s.c.c),cJ (s.c.d),cJ (s.tw),cJ (s.th),cD (dS s.ord.length (is s.ord)),cD (dS s.ims.length (ims s.ims)),cD (dS s.ops.length (ops s.ops)),cK (most),cD (dS e.length (is e)),Cl.ref 1 F.length],bR 249 14 (frs F)] ⟨aO (cD (dS ((zZs s most e r (zQt r)).length) (pxs (zZs s most e r (zQt r))))),[bC [cJ (s.bits),cJ (s.c.a),cJ (s.c.b),cJ (s.c.c),cJ (s.c.d),cJ (s.tw),cJ (s.th),cD (dS s.ord.length (is s.ord)),cD (dS s.ims.length (ims s.ims)),cD (dS s.ops.length (ops s.ops)),cK (most),cD (dS e.length (is e)),Cl.ref 1 (((zYB s most e r F (zQt r))).length)],bR 249 14 (frs (zYB s most e r F (zQt r)))],false⟩:=
 zZp (Γ:=jGR) (aQ aL (aQ aL (aQ aL (aQ (aQ aL (Ann.loop ⟨Nat,fun k=>k≤zQt r,fun k=>⟨[(0,aPz),(3,aO (Cl.ptr 3 0)),(5,aO (cD (dS (zZ0 (⟨s.bits,⟨s.c.a,s.c.b,s.c.c,s.c.d⟩,s.tw,s.th,ints (is s.ord),zQc (ims s.ims),zQb (ops s.ops)⟩:Scr) r).1.length (bs (zZ0 (⟨s.bits,⟨s.c.a,s.c.b,s.c.c,s.c.d⟩,s.tw,s.th,ints (is s.ord),zQc (ims s.ims),zQb (ops s.ops)⟩:Scr) r).1)))),(7,aO (Cl.ref 1007 (zZs s most e r k).length)),(8,aJ (r.b+(k:Int)))],[(0,bC [cJ s.bits,cJ s.c.a,cJ s.c.b,cJ s.c.c,cJ s.c.d,cJ s.tw,cJ s.th,cD (dS s.ord.length (is s.ord)),cD (dS s.ims.length (ims s.ims)),cD (dS s.ops.length (ops s.ops)),cK most,cD (dS e.length (is e)),Cl.ref 1 (zYB s most e r F k).length]),(3,bC [cJ r.a,cJ r.b,cJ r.c,cJ r.d]),(1007,bR 37 5 (pxs (zZs s most e r k))),(1,bR 249 14 (frs (zYB s most e r F k)))]⟩,fun k=>zQt r - k⟩ fun k=>aL)) aL)))) zQf Tryz.func37 rfl (nL rfl) rfl fun hwf hbx=>by
  refine Eq.mpr (by kernel_rfl:_=(let j:=(dS e.length (is e)); let l:=(zZs s most e r (zQt r)); let f:=(zYB s most e r F (zQt r)); let H:=(ints (is e)); let m:=((sE s):Scr); let d:=(zZ0 m r); let g:=(bs d.1); let I:=(dS d.1.length g); let J:=(toBs g); let n:=[dJ r.a,dJ r.b,dJ r.c,dJ r.d]; let K:=(dS d.1.length g=dS d.1.length g); let o:=(dJ s.bits=dJ s.bits); let p:=(dJ s.c.a=dJ s.c.a); let q:=(dJ s.c.b=dJ s.c.b); let t:=(dJ s.c.c=dJ s.c.c); let u:=(dJ s.c.d=dJ s.c.d); let v:=(dJ s.tw=dJ s.tw); let w:=(dJ s.th=dJ s.th); let x:=(dS s.ord.length (is s.ord)=dS s.ord.length (is s.ord)); let y:=(dS s.ims.length (ims s.ims)=dS s.ims.length (ims s.ims)); let z:=(dS s.ops.length (ops s.ops)=dS s.ops.length (ops s.ops)); let A:=(dK most=dK most); let B:=(dS e.length (is e)=dS e.length (is e)); let L:=(n=n); let C:=(wK (r.c - r.a)); let D:=(dS s.ord.length (is s.ord)); let E:=(dS s.ims.length (ims s.ims)); let G:=(dS s.ops.length (ops s.ops)); let M:=(pxs l); tU7 ((Ans prog 81 [rA [dJ s.bits,dJ s.c.a,dJ s.c.b,dJ s.c.c,dJ s.c.d,dJ s.tw,dJ s.th,dS s.ord.length (is s.ord),dS s.ims.length (ims s.ims),dS s.ops.length (ops s.ops)],rA n] (rT [rD I,rJ d.2]))∧tU5 ((true=true)∧tU4 ((∃ k:Nat,(k≤zQt r)∧(((0=0)∧(0=0)∧K∧(0=(zZs s most e r k).length)∧(dJ r.b=dJ (r.b+(k:Int)))∧True)∧((o∧p∧q∧t∧u∧v∧w∧x∧y∧z∧A∧B∧(F.length=(zYB s most e r F k).length)∧True)∧L∧([]=pxs (zZs s most e r k))∧(frs F=frs (zYB s most e r F k))∧True)))∧∀ k:Nat,let a:=(r.b+(k:Int)); let h:=(zYB s most e r F k); let b:=(zZs s most e r k); let i:=(zYw m most H J r.a a C); let c:=(zYv m most H J r.a a C); (k≤zQt r)→tU4 (((decide (a < r.d))=true→tU3 (tU8 ((AnsG prog 82 1 [aPz,aJ r.a,aJ a,aJ C,aO (cD I)] [bC [cJ s.bits,cJ s.c.a,cJ s.c.b,cJ s.c.c,cJ s.c.d,cJ s.tw,cJ s.th,cD D,cD E,cD G,cK most,cD j,Cl.ref 1 h.length],bR 249 14 (frs h)] ⟨aO (cD (dS c.length (pxs c))),[bC [cJ s.bits,cJ s.c.a,cJ s.c.b,cJ s.c.c,cJ s.c.d,cJ s.tw,cJ s.th,cD D,cD E,cD G,cK most,cD j,Cl.ref 1 i.length],bR 249 14 (frs i)],false⟩)∧(zZL 5 10 b.length c.length (pxs b) (pxs c))∧tU4 (∃ k':Nat,(k'≤zQt r)∧(zQt r - k' < zQt r - k)∧(((0=0)∧(0=0)∧K∧(b.length+c.length=(zZs s most e r k').length)∧(dJ (wK (a+1))=dJ (r.b+(k':Int)))∧True)∧((o∧p∧q∧t∧u∧v∧w∧x∧y∧z∧A∧B∧(i.length=(zYB s most e r F k').length)∧True)∧L∧((pxs b)++(pxs c)=pxs (zZs s most e r k'))∧(frs i=frs (zYB s most e r F k'))∧True))))))∧((decide (a < r.d))=false→tU2 ((((dS b.length (pxs b)=dS l.length M)∧True)∧((o∧p∧q∧t∧u∧v∧w∧x∧y∧z∧A∧B∧(h.length=f.length)∧True)∧(frs h=frs f)∧True))∧zQC ⟨aO (cD (dS l.length M)),[bC [cJ s.bits,cJ s.c.a,cJ s.c.b,cJ s.c.c,cJ s.c.d,cJ s.tw,cJ s.th,cD D,cD E,cD G,cK most,cD j,Cl.ref 1 f.length],bR 249 14 (frs f)],false⟩)))))))) ?_
  delta sE dJ dK cJ cK wK dS rJ aJ aPz bC
  simp only [sS]
  clear hwf hbx
  simp only [zYl]
  simp only [zZD,jUr]
  obtain ⟨hrow,hw,hh,ha1,ha2,ha3⟩:=hP
  have hP:zVz s most e r:=⟨hrow,hw,hh,ha1,ha2,ha3⟩
  have wn:wrap .i64 (r.c - r.a)=r.c - r.a:=IntWalk.i64_in _ ⟨by omega,by omega⟩
  rw [wn]
  refine ⟨zUc s r,⟨0,Nat.zero_le _,⟨rfl,by omega⟩,rfl,rfl,rfl⟩,fun k hk=>⟨fun hlt=>?_,fun hge=>?_⟩⟩
  ·have hkN:k < zQt r:=by unfold zQt; omega
   have hN:zQt r≤1000:=by unfold zQt; omega
   have G:=hP.row k hkN
   have wk:wrap .i64 (r.b+(k:Int)+1)=r.b+((k+1:Nat):Int):=by rw [IntWalk.i64_in _ ⟨by omega,by omega⟩]; omega
   have l1:=zY8 hP k (by omega)
   have l2:=zY8 hP (k+1) (by omega)
   have l3:=zHR G
   have hm:(k+1)*(r.c - r.a).toNat≤1000*1000:=Nat.mul_le_mul (by omega) (by omega)
   have hs:(zZs s most e r (k+1))=zZs s most e r k++zYv s most e (actL s r) r.a (r.b+k) (r.c - r.a):=rfl
   have hl:(zZs s most e r (k+1)).length=(zZs s most e r k).length+(zYv s most e (actL s r) r.a (r.b+k) (r.c - r.a)).length:=by rw [hs,List.length_append]
   refine ⟨zKq s most e (zYB s most e r F k) r.a (r.b+k) (r.c - r.a) (actL s r) hu hI G ⟨by omega,by omega⟩ ⟨⟨by omega,by omega⟩,by omega,by omega⟩ hM,⟨zQx _,zQx _,?_,?_⟩,k+1,by omega,by omega,⟨hl.symm,wk⟩,rfl,?_,rfl⟩
   ·show (zZs s most e r k).length+(zYv s most e (actL s r) r.a (r.b+k) (r.c - r.a)).length≤_
    unfold maxLen; omega
   ·show ((zZs s most e r k).length+(zYv s most e (actL s r) r.a (r.b+k) (r.c - r.a)).length)*10≤_
    omega
   ·rw [hs,← zYX]; rfl
  ·have:k=zQt r:=by unfold zQt at hk ⊢; omega
   subst this
   exact ⟨⟨⟨rfl,rfl⟩,rfl,rfl⟩,trivial⟩
def gZ60 (xs:List RV):Option RV:=match xs with | [.agg [.int _ bits,.int _ cx0,.int _ cy0,.int _ cx1,.int _ cy1,.int _ tw,.int _ th,.sl on oxs,.sl mn mxs,.sl pn pxs]]=>some (RV.d (dS (zQo (⟨bits,⟨cx0,cy0,cx1,cy1⟩,tw,th,ints oxs,zQc mxs,zQb pxs⟩:Scr)).length (rcs (zQo (⟨bits,⟨cx0,cy0,cx1,cy1⟩,tw,th,ints oxs,zQc mxs,zQb pxs⟩:Scr))))) | _=>none
def gZ61 (xs:List AV) (bs:List Bx):Option Ret:=match xs,bs with | [AV.agg [Cl.d (DV.int _ bits),Cl.d (DV.int _ cx0),Cl.d (DV.int _ cy0),Cl.d (DV.int _ cx1),Cl.d (DV.int _ cy1),Cl.d (DV.int _ tw),Cl.d (DV.int _ th),Cl.d (DV.sl on oxs),Cl.d (DV.sl mn mxs),Cl.d (DV.sl qn qxs)]],[]=>some ⟨aPz,[bC [cJ bits,cJ cx0,cJ cy0,cJ cx1,cJ cy1,cJ tw,cJ th,Cl.d (dS on oxs),Cl.d (dS mn mxs),Cl.d (dS qn qxs),cK (zQP bits),Cl.d (dS (zQY (zQb qxs)).1.length (is (zQY (zQb qxs)).1)),Cl.ref 1 0],Bx.row 249 14 (frs [])],false⟩ | _,_=>none
def jGA:Gam where
 pure:=fun f xs=>
  if f=47 then gZ29 xs else
  if f=77 then gZ58 xs else
  if f=78 then gZ8 xs else
  if f=80 then gZ9 xs else
  if f=36 then gZ60 xs else
  none
 modes:=fun f=>
  if f=79 then some ([true,true],0,1) else
  if f=35 then some ([true],0,2) else
  none
 proc:=fun f xs bs=>
  if f=79 then gZ2 xs bs else
  if f=35 then gZ61 xs bs else
  none
 iter:=fun f cs=>
  none
theorem zKk (s:Scr) (hM:s.ops.length≤100000):AnsG prog 35 0 [AV.agg [cJ (s.bits),cJ (s.c.a),cJ (s.c.b),cJ (s.c.c),cJ (s.c.d),cJ (s.tw),cJ (s.th),cD (dS s.ord.length (is s.ord)),cD (dS s.ims.length (ims s.ims)),cD (dS s.ops.length (ops s.ops))]] [] ⟨aPz,[bC [cJ (s.bits),cJ (s.c.a),cJ (s.c.b),cJ (s.c.c),cJ (s.c.d),cJ (s.tw),cJ (s.th),cD (dS s.ord.length (is s.ord)),cD (dS s.ims.length (ims s.ims)),cD (dS s.ops.length (ops s.ops)),cK ((zQP s.bits)),cD (dS ((zQY s.ops).1.length) (is (zQY s.ops).1)),Cl.ref 1 0],bR 249 14 (frs [])],false⟩:=
 zZp (Γ:=jGA) aL zQf Tryz.func35 rfl (nL rfl) rfl fun hwf hbx=>by
  refine Eq.mpr (by kernel_rfl:_=(let b:=(zQY s.ops); let a:=(zQY (zQb (ops s.ops))); let c:=(dK (zQP s.bits)); let d:=(dS s.ops.length (ops s.ops)); True∧tU8 ((Ans prog 47 [rJ s.bits] (rT [rD c,rD (dQ (zYL s.bits))]))∧True∧tU8 ((Ans prog 77 [rD d] (rT [rD (dS a.1.length (is a.1)),rJ a.2]))∧tU8 ((((0=0)∧True)∧(((dJ s.bits=dJ s.bits)∧(dJ s.c.a=dJ s.c.a)∧(dJ s.c.b=dJ s.c.b)∧(dJ s.c.c=dJ s.c.c)∧(dJ s.c.d=dJ s.c.d)∧(dJ s.tw=dJ s.tw)∧(dJ s.th=dJ s.th)∧(dS s.ord.length (is s.ord)=dS s.ord.length (is s.ord))∧(dS s.ims.length (ims s.ims)=dS s.ims.length (ims s.ims))∧(dS s.ops.length (ops s.ops)=dS s.ops.length (ops s.ops))∧(dK (zQP s.bits)=dK (zQP s.bits))∧(dS a.1.length (is a.1)=dS b.1.length (is b.1))∧(0=0)∧True)∧([]=frs [])∧True))∧zQC ⟨aPz,[bC [cJ s.bits,cJ s.c.a,cJ s.c.b,cJ s.c.c,cJ s.c.d,cJ s.tw,cJ s.th,cD (dS s.ord.length (is s.ord)),cD (dS s.ims.length (ims s.ims)),cD d,cD c,cD (dS b.1.length (is b.1)),Cl.ref 1 0],bR 249 14 (frs [])],false⟩))))) ?_
  delta dJ dK dQ cJ dS rJ aPz bC
  simp only [sS]
  clear hwf hbx
  have h:=zQG s.ops
  refine ⟨zZ2 s.bits,zVY s.ops hM,⟨⟨by rw [h],by rw [h]⟩,rfl⟩,trivial⟩
theorem zUH (s:Scr) (hz:(cntS s.c s.tw s.th).2.2=true→(cntS s.c s.tw s.th).1≠0) (hT:(zZX s).length≤1000000):Ans prog 36 [rA [dJ s.bits,dJ s.c.a,dJ s.c.b,dJ s.c.c,dJ s.c.d,dJ s.tw,dJ s.th,dS s.ord.length (is s.ord),dS s.ims.length (ims s.ims),dS s.ops.length (ops s.ops)]] (rD (dS ((zQo s).length) (rcs (zQo s)))):=
 zQa (Γ:=jGA) (let a:=(ints (is s.ord)); Ann.seq aL (aQ aL (aQ aL (aQ aL (aQ (aQ aL (Ann.loop ⟨Nat,fun k=>k≤(zZX s).length,fun k=>⟨[(1,aO (Cl.ptr 1 0)),(8,aO (Cl.ref 1008 k)),(33,aO (Cl.ref 1030 (zXi a (wK ((cntS ⟨s.c.a,s.c.b,s.c.c,s.c.d⟩ s.tw s.th).1*(cntS ⟨s.c.a,s.c.b,s.c.c,s.c.d⟩ s.tw s.th).2.1))).length)),(34,aJ (((zXi a (wK ((cntS ⟨s.c.a,s.c.b,s.c.c,s.c.d⟩ s.tw s.th).1*(cntS ⟨s.c.a,s.c.b,s.c.c,s.c.d⟩ s.tw s.th).2.1))).length:Nat):Int)),(35,aJ (k:Int))],[(1,bC [cJ s.bits,cJ s.c.a,cJ s.c.b,cJ s.c.c,cJ s.c.d,cJ s.tw,cJ s.th,cD (dS s.ord.length (is s.ord)),cD (dS s.ims.length (ims s.ims)),cD (dS s.ops.length (ops s.ops))]),(1008,bR 28 4 (rcs ((zQo s).take k))),(1030,bR 3 1 (is (zXi a (wK ((cntS ⟨s.c.a,s.c.b,s.c.c,s.c.d⟩ s.tw s.th).1*(cntS ⟨s.c.a,s.c.b,s.c.c,s.c.d⟩ s.tw s.th).2.1)))))]⟩,fun k=>(zZX s).length - k⟩ fun k=>aL)) aL))))) zQf Tryz.func36 rfl (nL rfl) fun hwf=>by
  refine Eq.mpr (by kernel_rfl:_=(let g:=(cntS s.c s.tw s.th); let n:=[dJ s.c.a,dJ s.c.b,dJ s.c.c,dJ s.c.d]; let i:=(wK (g.1*g.2.1)); let e:=(zXi (ints (is s.ord)) i); let f:=(is e); let h:=((e.length:Nat):Int); let o:=(e.length=e.length); let p:=(dJ h=dJ h); let q:=[dJ s.bits,dJ s.c.a,dJ s.c.b,dJ s.c.c,dJ s.c.d,dJ s.tw,dJ s.th,dS s.ord.length (is s.ord),dS s.ims.length (ims s.ims),dS s.ops.length (ops s.ops)]; let r:=(q=q); let t:=(is e=is e); let j:=fun (k:Nat)=>(let aA:=(zX4 s.c s.tw s.th (nAt f (k*1))); [dJ aA.1.a,dJ aA.1.b,dJ aA.1.c,dJ aA.1.d]); tU8 ((Ans prog 78 [rA n,rJ s.tw,rJ s.th] (rT [rJ g.1,rJ g.2.1,rD (dQ g.2.2)]))∧tU4 (tU8 ((AnsG prog 79 0 [aO (cD (dS s.ord.length (is s.ord))),aJ i] [] ⟨AV.tup [aO (Cl.ref 0 e.length),aO (cD (dQ (zZC (ints (is s.ord)) i)))],[bR 3 1 f],true⟩)∧tU7 ((e.length≤maxLen)∧True∧((∃ k:Nat,(k≤(zZX s).length)∧(((0=0)∧(0=k)∧o∧p∧(dJ 0=dJ (k:Int))∧True)∧(r∧([]=rcs ((zQo s).take k))∧t∧True)))∧∀ k:Nat,let u:=(decide ((k:Int) < h)); let l:=(rcs ((zQo s).take k)); let m:=(nAt f (k*1)); (k≤(zZX s).length)→True∧((u=true→(0≤(k:Int)∧(k:Int) < h)∧((f[k*1]?=some (dJ m))∧True)∧tU8 ((Ans prog 80 [rA n,rJ s.tw,rJ s.th,rJ m] (rT [rA (j k),rD (dQ (zX4 s.c s.tw s.th m).2)]))∧True∧tU8 ((zZL 4 32 k 1 l (j k))∧tU3 (∃ k':Nat,(k'≤(zZX s).length)∧((zZX s).length - k' < (zZX s).length - k)∧(((0=0)∧(k+1=k')∧o∧p∧(dJ (wK ((k:Int)+1))=dJ (k':Int))∧True)∧(r∧(l++(j k)=rcs ((zQo s).take k'))∧t∧True))))))∧(u=false→tU2 (rD (dS k l)=rD (dS (zQo s).length (rcs (zQo s))))))))))))) ?_
  delta dJ dQ wK dS rJ aJ
  simp only [sS]
  clear hwf
  simp only [zZD]
  have e:zXi s.ord (wrap .i64 ((cntS s.c s.tw s.th).1*(cntS s.c s.tw s.th).2.1))=zZX s:=rfl
  have O:=zVn s.ord.length (is s.ord) (wrap .i64 ((cntS s.c s.tw s.th).1*(cntS s.c s.tw s.th).2.1)) ⟨by rw [zZD],by rw [zQH]⟩
  rw [zZD] at O
  rw [e] at O ⊢
  have ll:(zQo s).length=(zZX s).length:=List.length_map ..
  have hm:(zZX s).length≤maxLen:=by unfold maxLen; omega
  refine ⟨zJq s.c.a s.c.b s.c.c s.c.d s.tw s.th,O,hm,⟨0,Nat.zero_le _,⟨rfl,rfl⟩,rfl⟩,fun k hk=>⟨fun hlt=>?_,fun hge=>?_⟩⟩
  ·have k1:k < (zZX s).length:=by omega
   have g1:=List.getElem?_eq_getElem k1
   have k2:k < (zQo s).length:=by omega
   have q:(zQo s)[k]=(zX4 s.c s.tw s.th (zZX s)[k]).1:=by simp [zQo]
   rw [Nat.mul_one,jVl g1]
   have ts:=List.take_add_one (l:=zQo s) (i:=k)
   rw [List.getElem?_eq_getElem k2,q] at ts
   have hw:wrap .i64 ((k:Int)+1)=((k+1:Nat):Int):=by rw [IntWalk.i64_in _ ⟨by omega,by omega⟩]; omega
   refine ⟨⟨by omega,by omega⟩,jJp g1,jQv s.c.a s.c.b s.c.c s.c.d s.tw s.th (zZX s)[k] hz,⟨by rw [zXu,List.length_take,Nat.min_eq_left (by omega)],rfl,?_,?_⟩,k+1,by omega,by omega,⟨rfl,hw⟩,?_⟩
   ·unfold maxLen; omega
   ·omega
   ·rw [ts,jJW]; rfl
  ·have:k=(zZX s).length:=by omega
   subst this
   rw [List.take_of_length_le (by omega)]
   exact ⟨ll.symm,rfl⟩
def regI (s:Scr) (r:Rc):Im:=imOf (r.c - r.a) (r.d - r.b) (zZs s (zQP s.bits) (zQY s.ops).1 r (zQt r))
theorem zUp (w h:Int) (l:List Px):Ans prog 38 [RV.d (DV.int .i64 w),RV.d (DV.int .i64 h),RV.d (DV.sl l.length (pxs l))] (RV.tup [imR (imOf w h l),RV.d (DV.bool (ofOk w h l.length))]):=by
 have:=jYy w h l.length (pxs l) (jXd l)
 rw [zZq] at this
 exact this.ans rfl rfl
def gZ62 (xs:List RV):Option RV:=match xs with | [.agg [.int _ bits,.int _ cx0,.int _ cy0,.int _ cx1,.int _ cy1,.int _ tw,.int _ th,.sl on oxs,.sl mn mxs,.sl pn pxs]]=>some (RV.tup [rJ (zYE ⟨bits,⟨cx0,cy0,cx1,cy1⟩,tw,th,ints oxs,zQc mxs,zQb pxs⟩).1,rJ (zYE ⟨bits,⟨cx0,cy0,cx1,cy1⟩,tw,th,ints oxs,zQc mxs,zQb pxs⟩).2]) | _=>none
def gZ63 (xs:List RV):Option RV:=match xs with | [.d (.int _ w),.d (.int _ h),.d (.sl n xs)]=>let a:=(imOf w h (zQe xs)); some (RV.tup [RV.agg [dJ a.w,dJ a.h,dQ a.so,dK a.c.a,dK a.c.b,dK a.c.c,dK a.c.al,dK a.c.f,dJ a.p0.w,dJ a.p0.h,dJ a.p0.s,dS a.p0.n a.p0.xs,dJ a.p1.w,dJ a.p1.h,dJ a.p1.s,dS a.p1.n a.p1.xs,dJ a.p2.w,dJ a.p2.h,dJ a.p2.s,dS a.p2.n a.p2.xs,dJ a.p3.w,dJ a.p3.h,dJ a.p3.s,dS a.p3.n a.p3.xs,dJ a.p4.w,dJ a.p4.h,dJ a.p4.s,dS a.p4.n a.p4.xs],RV.d (dQ (ofOk w h n))]) | _=>none
def gZ64 (xs:List RV):Option RV:=match xs with | [.agg [.int _ bits,.int _ cx0,.int _ cy0,.int _ cx1,.int _ cy1,.int _ tw,.int _ th,.sl on oxs,.sl mn mxs,.sl pn pxs],.agg [.int _ ra,.int _ rb,.int _ rc_,.int _ rd]]=>some (RV.tup [RV.agg [dJ (regI (⟨bits,⟨cx0,cy0,cx1,cy1⟩,tw,th,ints oxs,zQc mxs,zQb pxs⟩:Scr) (⟨ra,rb,rc_,rd⟩:Rc)).w,dJ (regI (⟨bits,⟨cx0,cy0,cx1,cy1⟩,tw,th,ints oxs,zQc mxs,zQb pxs⟩:Scr) (⟨ra,rb,rc_,rd⟩:Rc)).h,dQ (regI (⟨bits,⟨cx0,cy0,cx1,cy1⟩,tw,th,ints oxs,zQc mxs,zQb pxs⟩:Scr) (⟨ra,rb,rc_,rd⟩:Rc)).so,dK (regI (⟨bits,⟨cx0,cy0,cx1,cy1⟩,tw,th,ints oxs,zQc mxs,zQb pxs⟩:Scr) (⟨ra,rb,rc_,rd⟩:Rc)).c.a,dK (regI (⟨bits,⟨cx0,cy0,cx1,cy1⟩,tw,th,ints oxs,zQc mxs,zQb pxs⟩:Scr) (⟨ra,rb,rc_,rd⟩:Rc)).c.b,dK (regI (⟨bits,⟨cx0,cy0,cx1,cy1⟩,tw,th,ints oxs,zQc mxs,zQb pxs⟩:Scr) (⟨ra,rb,rc_,rd⟩:Rc)).c.c,dK (regI (⟨bits,⟨cx0,cy0,cx1,cy1⟩,tw,th,ints oxs,zQc mxs,zQb pxs⟩:Scr) (⟨ra,rb,rc_,rd⟩:Rc)).c.al,dK (regI (⟨bits,⟨cx0,cy0,cx1,cy1⟩,tw,th,ints oxs,zQc mxs,zQb pxs⟩:Scr) (⟨ra,rb,rc_,rd⟩:Rc)).c.f,dJ (regI (⟨bits,⟨cx0,cy0,cx1,cy1⟩,tw,th,ints oxs,zQc mxs,zQb pxs⟩:Scr) (⟨ra,rb,rc_,rd⟩:Rc)).p0.w,dJ (regI (⟨bits,⟨cx0,cy0,cx1,cy1⟩,tw,th,ints oxs,zQc mxs,zQb pxs⟩:Scr) (⟨ra,rb,rc_,rd⟩:Rc)).p0.h,dJ (regI (⟨bits,⟨cx0,cy0,cx1,cy1⟩,tw,th,ints oxs,zQc mxs,zQb pxs⟩:Scr) (⟨ra,rb,rc_,rd⟩:Rc)).p0.s,dS (regI (⟨bits,⟨cx0,cy0,cx1,cy1⟩,tw,th,ints oxs,zQc mxs,zQb pxs⟩:Scr) (⟨ra,rb,rc_,rd⟩:Rc)).p0.n (regI (⟨bits,⟨cx0,cy0,cx1,cy1⟩,tw,th,ints oxs,zQc mxs,zQb pxs⟩:Scr) (⟨ra,rb,rc_,rd⟩:Rc)).p0.xs,dJ (regI (⟨bits,⟨cx0,cy0,cx1,cy1⟩,tw,th,ints oxs,zQc mxs,zQb pxs⟩:Scr) (⟨ra,rb,rc_,rd⟩:Rc)).p1.w,dJ (regI (⟨bits,⟨cx0,cy0,cx1,cy1⟩,tw,th,ints oxs,zQc mxs,zQb pxs⟩:Scr) (⟨ra,rb,rc_,rd⟩:Rc)).p1.h,dJ (regI (⟨bits,⟨cx0,cy0,cx1,cy1⟩,tw,th,ints oxs,zQc mxs,zQb pxs⟩:Scr) (⟨ra,rb,rc_,rd⟩:Rc)).p1.s,dS (regI (⟨bits,⟨cx0,cy0,cx1,cy1⟩,tw,th,ints oxs,zQc mxs,zQb pxs⟩:Scr) (⟨ra,rb,rc_,rd⟩:Rc)).p1.n (regI (⟨bits,⟨cx0,cy0,cx1,cy1⟩,tw,th,ints oxs,zQc mxs,zQb pxs⟩:Scr) (⟨ra,rb,rc_,rd⟩:Rc)).p1.xs,dJ (regI (⟨bits,⟨cx0,cy0,cx1,cy1⟩,tw,th,ints oxs,zQc mxs,zQb pxs⟩:Scr) (⟨ra,rb,rc_,rd⟩:Rc)).p2.w,dJ (regI (⟨bits,⟨cx0,cy0,cx1,cy1⟩,tw,th,ints oxs,zQc mxs,zQb pxs⟩:Scr) (⟨ra,rb,rc_,rd⟩:Rc)).p2.h,dJ (regI (⟨bits,⟨cx0,cy0,cx1,cy1⟩,tw,th,ints oxs,zQc mxs,zQb pxs⟩:Scr) (⟨ra,rb,rc_,rd⟩:Rc)).p2.s,dS (regI (⟨bits,⟨cx0,cy0,cx1,cy1⟩,tw,th,ints oxs,zQc mxs,zQb pxs⟩:Scr) (⟨ra,rb,rc_,rd⟩:Rc)).p2.n (regI (⟨bits,⟨cx0,cy0,cx1,cy1⟩,tw,th,ints oxs,zQc mxs,zQb pxs⟩:Scr) (⟨ra,rb,rc_,rd⟩:Rc)).p2.xs,dJ (regI (⟨bits,⟨cx0,cy0,cx1,cy1⟩,tw,th,ints oxs,zQc mxs,zQb pxs⟩:Scr) (⟨ra,rb,rc_,rd⟩:Rc)).p3.w,dJ (regI (⟨bits,⟨cx0,cy0,cx1,cy1⟩,tw,th,ints oxs,zQc mxs,zQb pxs⟩:Scr) (⟨ra,rb,rc_,rd⟩:Rc)).p3.h,dJ (regI (⟨bits,⟨cx0,cy0,cx1,cy1⟩,tw,th,ints oxs,zQc mxs,zQb pxs⟩:Scr) (⟨ra,rb,rc_,rd⟩:Rc)).p3.s,dS (regI (⟨bits,⟨cx0,cy0,cx1,cy1⟩,tw,th,ints oxs,zQc mxs,zQb pxs⟩:Scr) (⟨ra,rb,rc_,rd⟩:Rc)).p3.n (regI (⟨bits,⟨cx0,cy0,cx1,cy1⟩,tw,th,ints oxs,zQc mxs,zQb pxs⟩:Scr) (⟨ra,rb,rc_,rd⟩:Rc)).p3.xs,dJ (regI (⟨bits,⟨cx0,cy0,cx1,cy1⟩,tw,th,ints oxs,zQc mxs,zQb pxs⟩:Scr) (⟨ra,rb,rc_,rd⟩:Rc)).p4.w,dJ (regI (⟨bits,⟨cx0,cy0,cx1,cy1⟩,tw,th,ints oxs,zQc mxs,zQb pxs⟩:Scr) (⟨ra,rb,rc_,rd⟩:Rc)).p4.h,dJ (regI (⟨bits,⟨cx0,cy0,cx1,cy1⟩,tw,th,ints oxs,zQc mxs,zQb pxs⟩:Scr) (⟨ra,rb,rc_,rd⟩:Rc)).p4.s,dS (regI (⟨bits,⟨cx0,cy0,cx1,cy1⟩,tw,th,ints oxs,zQc mxs,zQb pxs⟩:Scr) (⟨ra,rb,rc_,rd⟩:Rc)).p4.n (regI (⟨bits,⟨cx0,cy0,cx1,cy1⟩,tw,th,ints oxs,zQc mxs,zQb pxs⟩:Scr) (⟨ra,rb,rc_,rd⟩:Rc)).p4.xs],rJ 0]) | _=>none
def jGQ:Gam where
 pure:=fun f xs=>
  if f=34 then gZ62 xs else
  if f=40 then gZ4 xs else
  if f=41 then gZ6 xs else
  if f=38 then gZ63 xs else
  if f=12 then gZ64 xs else
  none
 modes:=fun f=>
  if f=37 then some ([false,true],1,1) else
  if f=35 then some ([true],0,2) else
  none
 proc:=fun f xs bs=>
  if f=37 then gZ59 xs bs else
  if f=35 then gZ61 xs bs else
  none
 iter:=fun f cs=>
  none
theorem zWV (s:Scr) (r:Rc) (hu:∀ m∈s.ims,m.isU) (hI:s.ims.length≤1000000) (hc:zYE s=(0,0)) (he:r.empty=false∧s.c.covers r=true) (hP:zVz s (zQP s.bits) (zQY s.ops).1 r) (hM:s.ops.length≤100000):Ans prog 12 [rA [dJ s.bits,dJ s.c.a,dJ s.c.b,dJ s.c.c,dJ s.c.d,dJ s.tw,dJ s.th,dS s.ord.length (is s.ord),dS s.ims.length (ims s.ims),dS s.ops.length (ops s.ops)],rA [dJ r.a,dJ r.b,dJ r.c,dJ r.d]] (rT [rA [dJ ((regI s r).w),dJ ((regI s r).h),dQ ((regI s r).so),dK (((regI s r).c).a),dK (((regI s r).c).b),dK (((regI s r).c).c),dK (((regI s r).c).al),dK (((regI s r).c).f),dJ (((regI s r).p0).w),dJ (((regI s r).p0).h),dJ (((regI s r).p0).s),dS (((regI s r).p0).n) (((regI s r).p0).xs),dJ (((regI s r).p1).w),dJ (((regI s r).p1).h),dJ (((regI s r).p1).s),dS (((regI s r).p1).n) (((regI s r).p1).xs),dJ (((regI s r).p2).w),dJ (((regI s r).p2).h),dJ (((regI s r).p2).s),dS (((regI s r).p2).n) (((regI s r).p2).xs),dJ (((regI s r).p3).w),dJ (((regI s r).p3).h),dJ (((regI s r).p3).s),dS (((regI s r).p3).n) (((regI s r).p3).xs),dJ (((regI s r).p4).w),dJ (((regI s r).p4).h),dJ (((regI s r).p4).s),dS (((regI s r).p4).n) (((regI s r).p4).xs)],rJ (0)]):=
 zQa (Γ:=jGQ) aL zQf Tryz.func12 rfl (nL rfl) fun hwf=>by
  refine Eq.mpr (by kernel_rfl:_=(let a:=(zYE (sE s)); let b:=[(imR (regI s r)),rJ 0]; let c:=(zQY (zQb (ops s.ops))); let j:=(zYB ((sE s):Scr) (zQP s.bits) (ints (is c.1)) r (zKp (frs [])) (zQt r)); let d:=(zZs ((sE s):Scr) (zQP s.bits) (ints (is c.1)) r (zQt r)); let k:=(dS d.length (pxs d)); let l:=(dJ a.1); let m:=[dJ 0,dJ 0,dQ false,dK 0,dK 0,dK 0,dK 0,dK 0,dJ 0,dJ 0,dJ 0,dS 0 ([]),dJ 0,dJ 0,dJ 0,dS 0 ([]),dJ 0,dJ 0,dJ 0,dS 0 ([]),dJ 0,dJ 0,dJ 0,dS 0 ([]),dJ 0,dJ 0,dJ 0,dS 0 ([])]; let n:=[dJ r.a,dJ r.b,dJ r.c,dJ r.d]; let o:=[rA m,rJ 20]; let e:=(dS s.ord.length (is s.ord)); let f:=(dS s.ims.length (ims s.ims)); let g:=(dS s.ops.length (ops s.ops)); let p:=(dK (zQP s.bits)); let q:=(dS c.1.length (is c.1)); let t:=[bC [cJ s.bits,cJ s.c.a,cJ s.c.b,cJ s.c.c,cJ s.c.d,cJ s.tw,cJ s.th,cD e,cD f,cD g,cD p,cD q,Cl.ref 1 0],bR 249 14 (frs [])]; let h:=(wK (r.c - r.a)); let i:=(wK (r.d - r.b)); let u:=(imR (imOf h i (zQe (pxs d)))); tU5 ((Ans prog 34 [rA [dJ s.bits,dJ s.c.a,dJ s.c.b,dJ s.c.c,dJ s.c.d,dJ s.tw,dJ s.th,dS s.ord.length (is s.ord),dS s.ims.length (ims s.ims),dS s.ops.length (ops s.ops)]] (rT [rD l,rJ a.2]))∧tU7 (((a.1 != 0)=true→tU4 (rT [rA m,rD l]=rT b))∧((a.1 != 0)=false→True∧(Ans prog 40 [rA n] (rD (dQ (Rc.empty r))))∧True∧(((Rc.empty r)=false→tU3 ((Ans prog 41 [rA [dJ s.c.a,dJ s.c.b,dJ s.c.c,dJ s.c.d],rA n] (rD (dQ (Rc.covers s.c r))))∧tU2 (((!(Rc.covers s.c r))=true→tU3 (rT o=rT b))∧((!(Rc.covers s.c r))=false→tU3 (tU8 ((AnsG prog 35 0 [AV.agg [cJ s.bits,cJ s.c.a,cJ s.c.b,cJ s.c.c,cJ s.c.d,cJ s.tw,cJ s.th,cD e,cD f,cD g]] [] ⟨aPz,t,false⟩)∧True∧(AnsG prog 37 1 [aPz,AV.agg [cJ r.a,cJ r.b,cJ r.c,cJ r.d]] t ⟨aO (cD k),[bC [cJ s.bits,cJ s.c.a,cJ s.c.b,cJ s.c.c,cJ s.c.d,cJ s.tw,cJ s.th,cD e,cD f,cD g,cD p,cD q,Cl.ref 1 j.length],bR 249 14 (frs j)],false⟩)∧(Ans prog 38 [rJ h,rJ i,rD k] (rT [u,rD (dQ (ofOk h i d.length))]))∧tU6 ((true=true)∧tU3 (rT [u,rJ 0]=rT b))))))))∧((Rc.empty r)=(!false)→tU4 (rT o=rT b)))))))) ?_
  delta sE dJ dK dQ cJ wK dS rJ aPz bC
  simp only [sS]
  clear hwf
  simp only [zYl]
  have V:=zJg s hu
  rw [hc] at V ⊢
  obtain ⟨w1,w2⟩:=hP.wide
  have hh:=hP.high
  obtain ⟨⟨a1,a2⟩,a3,a4⟩:=hP.at_
  have wx:wrap .i64 (r.c - r.a)=r.c - r.a:=IntWalk.i64_in _ ⟨by omega,by omega⟩
  have hb:=he.1
  have wy:wrap .i64 (r.d - r.b)=r.d - r.b:=by
   rw [Rc.empty_iff] at hb
   exact IntWalk.i64_in _ ⟨by omega,by omega⟩
  refine ⟨V,fun h=>?_,fun _=>⟨zQK r.a r.b r.c r.d,fun _=>⟨zGs s.c.a s.c.b s.c.c s.c.d r.a r.b r.c r.d,fun h=>?_,fun _=>?_⟩,fun h=>?_⟩⟩
  ·exact absurd h (by decide)
  ·rw [he.2] at h; cases h
  ·simp only [zQG,zZD,zZd,zU4]
   rw [wx,wy,zZq]
   exact ⟨zKk s hM,zX2 s (zQP s.bits) (zQY s.ops).1 [] r hu hI hP (by omega),zUp (r.c - r.a) (r.d - r.b) (zZs s (zQP s.bits) (zQY s.ops).1 r (zQt r)),rfl⟩
  ·rw [he.1] at h; cases h
end
def zZM (s:Scr) (k:Nat):Rc:=((zQo s)[k]?).getD Rc.zero
def zJY (s:Scr):Nat→List Fr
 | 0=>[]
 | k+1=>zYB s (zQP s.bits) (zQY s.ops).1 (zZM s k) (zJY s k) (zQt (zZM s k))
def jYm (l:List Px) (i:Nat) (xs:List Px):List Px:=l.take i++xs++l.drop (i+xs.length)
def jKz (s:Scr) (r:Rc):List Px:=zZs s (zQP s.bits) (zQY s.ops).1 r (zQt r)
def atI (s:Scr) (r:Rc) (j:Nat):Nat:=((r.b+j - s.c.b)*(s.c.c - s.c.a)+r.a - s.c.a).toNat
def rowJ (s:Scr) (r:Rc) (j:Nat):List Px:=((jKz s r).drop (j*(r.c - r.a).toNat)).take (r.c - r.a).toNat
def zWY (s:Scr) (r:Rc) (l:List Px):Nat→List Px
 | 0=>l
 | j+1=>jYm (zWY s r l j) (atI s r j) (rowJ s r j)
def allP (s:Scr):Nat→List Px
 | 0=>List.replicate ((s.c.c - s.c.a)*(s.c.d - s.c.b)).toNat .zero
 | k+1=>zWY s (zZM s k) (allP s k) (zQt (zZM s k))
def zQk (s:Scr):Im:=imOf (s.c.c - s.c.a) (s.c.d - s.c.b) (allP s (zQo s).length)
theorem jZT (l:List Px) (k:Nat):(pxs l).drop (k*5)=pxs (l.drop k):=by
 have h1:pxs (l.take k)++(pxs l).drop (k*5)=pxs l:=by rw [← zUS,List.take_append_drop]
 have h2:pxs (l.take k)++pxs (l.drop k)=pxs l:=by rw [zYX,List.take_append_drop]
 exact List.append_cancel_left (h1.trans h2.symm)
theorem jKJ {l xs:List Px} {i:Nat} (h:i+xs.length≤l.length):sets (pxs l) (i*5) (pxs xs)=pxs (jYm l i xs):=by
 unfold jYm
 rw [zWI _ _ _ (by rw [zQx,zQx]; omega),zUS,zQx,show i*5+xs.length*5=(i+xs.length)*5 by omega,jZT,zYX,zYX]
theorem jK6 {l xs:List Px} {i:Nat} (h:i+xs.length≤l.length):(jYm l i xs).length=l.length:=by
 unfold jYm
 rw [List.length_append,List.length_append,List.length_take,List.length_drop]; omega
structure zWB (s:Scr) (r:Rc):Prop where
  x:s.c.a≤r.a∧r.a≤r.c∧r.c≤s.c.c
  y:s.c.b≤r.b∧r.b≤r.d∧r.d≤s.c.d
structure jXN (s:Scr):Prop where
  chk:zYE s=(0,0)
  w:1≤s.c.c - s.c.a∧s.c.c - s.c.a≤1000
  h:1≤s.c.d - s.c.b∧s.c.d - s.c.b≤1000
  at_:(-268435456≤s.c.a∧s.c.a≤268435456) ∧ -268435456≤s.c.b∧s.c.b≤268435456
  tile:∀ k,k < (zQo s).length→zWB s (zZM s k)
  part:∀ k,k < (zQo s).length→zVz s (zQP s.bits) (zQY s.ops).1 (zZM s k)
  hz:(cntS s.c s.tw s.th).2.2=true→(cntS s.c s.tw s.th).1≠0
  few:(zZX s).length≤1000000
  ops:s.ops.length≤100000
theorem zHc {s:Scr} (h:jXN s) {r:Rc} (ht:zWB s r) {j:Nat} (hj:j < zQt r):∃ A:Int,(r.b+j - s.c.b)*(s.c.c - s.c.a)=A∧0≤A∧A+(s.c.c - s.c.a)≤(s.c.c - s.c.a)*(s.c.d - s.c.b)∧(s.c.c - s.c.a)*(s.c.d - s.c.b)≤1000000∧0≤r.b+j - s.c.b∧r.b+j - s.c.b < 1000:=by
 obtain ⟨w1,w2⟩:=h.w
 obtain ⟨h1,h2⟩:=h.h
 obtain ⟨y1,y2,y3⟩:=ht.y
 unfold zQt at hj
 refine ⟨_,rfl,Int.mul_nonneg (by omega) (by omega),?_,?_,by omega,by omega⟩
 ·have:=Int.mul_le_mul_of_nonneg_left (show r.b+j - s.c.b+1≤s.c.d - s.c.b by omega) (show 0≤s.c.c - s.c.a by omega)
  rw [Int.mul_add,Int.mul_one,Int.mul_comm] at this
  exact this
 ·calc (s.c.c - s.c.a)*(s.c.d - s.c.b)≤1000*(s.c.d - s.c.b):=Int.mul_le_mul_of_nonneg_right w2 (by omega)
   _≤1000*1000:=Int.mul_le_mul_of_nonneg_left h2 (by decide)
theorem jQF {s:Scr} {r:Rc} (hp:zVz s (zQP s.bits) (zQY s.ops).1 r) {j:Nat} (hj:j < zQt r):(rowJ s r j).length=(r.c - r.a).toNat:=by
 unfold rowJ jKz
 rw [List.length_take,List.length_drop,zY8 hp (zQt r) (Nat.le_refl _),← Nat.sub_mul]
 have:1*(r.c - r.a).toNat≤(zQt r - j)*(r.c - r.a).toNat:=Nat.mul_le_mul_right _ (by omega)
 omega
theorem zWc {s:Scr} (h:jXN s) {r:Rc} (ht:zWB s r) (hp:zVz s (zQP s.bits) (zQY s.ops).1 r) {l:List Px} (hl:l.length=((s.c.c - s.c.a)*(s.c.d - s.c.b)).toNat):∀ j,j≤zQt r→(zWY s r l j).length=l.length
 | 0,_=>rfl
 | j+1,hj=>by
  have ih:=zWc h ht hp hl j (by omega)
  obtain ⟨A,e,a1,a2,_⟩:=zHc h ht (show j < zQt r by omega)
  have:=ht.x
  rw [zWY,jK6,ih]
  rw [jQF hp (by omega),ih,hl]
  unfold atI
  rw [e]; omega
theorem zWA {s:Scr} (h:jXN s):∀ k,k≤(zQo s).length→(allP s k).length=((s.c.c - s.c.a)*(s.c.d - s.c.b)).toNat
 | 0,_=>by simp [allP]
 | k+1,hk=>by
  have ih:=zWA h k (by omega)
  rw [allP,zWc h (h.tile k (by omega)) (h.part k (by omega)) ih _ (Nat.le_refl _),ih]
section
attribute [local irreducible] Ans AnsO AnsG AnsN AnsI
def gZ65 (xs:List RV):Option RV:=match xs with | [.agg [.int _ bits,.int _ cx0,.int _ cy0,.int _ cx1,.int _ cy1,.int _ tw,.int _ th,.sl on oxs,.sl mn mxs,.sl pn pxs]]=>some (RV.tup [RV.agg [dJ (zQk (⟨bits,⟨cx0,cy0,cx1,cy1⟩,tw,th,ints oxs,zQc mxs,zQb pxs⟩:Scr)).w,dJ (zQk (⟨bits,⟨cx0,cy0,cx1,cy1⟩,tw,th,ints oxs,zQc mxs,zQb pxs⟩:Scr)).h,dQ (zQk (⟨bits,⟨cx0,cy0,cx1,cy1⟩,tw,th,ints oxs,zQc mxs,zQb pxs⟩:Scr)).so,dK (zQk (⟨bits,⟨cx0,cy0,cx1,cy1⟩,tw,th,ints oxs,zQc mxs,zQb pxs⟩:Scr)).c.a,dK (zQk (⟨bits,⟨cx0,cy0,cx1,cy1⟩,tw,th,ints oxs,zQc mxs,zQb pxs⟩:Scr)).c.b,dK (zQk (⟨bits,⟨cx0,cy0,cx1,cy1⟩,tw,th,ints oxs,zQc mxs,zQb pxs⟩:Scr)).c.c,dK (zQk (⟨bits,⟨cx0,cy0,cx1,cy1⟩,tw,th,ints oxs,zQc mxs,zQb pxs⟩:Scr)).c.al,dK (zQk (⟨bits,⟨cx0,cy0,cx1,cy1⟩,tw,th,ints oxs,zQc mxs,zQb pxs⟩:Scr)).c.f,dJ (zQk (⟨bits,⟨cx0,cy0,cx1,cy1⟩,tw,th,ints oxs,zQc mxs,zQb pxs⟩:Scr)).p0.w,dJ (zQk (⟨bits,⟨cx0,cy0,cx1,cy1⟩,tw,th,ints oxs,zQc mxs,zQb pxs⟩:Scr)).p0.h,dJ (zQk (⟨bits,⟨cx0,cy0,cx1,cy1⟩,tw,th,ints oxs,zQc mxs,zQb pxs⟩:Scr)).p0.s,dS (zQk (⟨bits,⟨cx0,cy0,cx1,cy1⟩,tw,th,ints oxs,zQc mxs,zQb pxs⟩:Scr)).p0.n (zQk (⟨bits,⟨cx0,cy0,cx1,cy1⟩,tw,th,ints oxs,zQc mxs,zQb pxs⟩:Scr)).p0.xs,dJ (zQk (⟨bits,⟨cx0,cy0,cx1,cy1⟩,tw,th,ints oxs,zQc mxs,zQb pxs⟩:Scr)).p1.w,dJ (zQk (⟨bits,⟨cx0,cy0,cx1,cy1⟩,tw,th,ints oxs,zQc mxs,zQb pxs⟩:Scr)).p1.h,dJ (zQk (⟨bits,⟨cx0,cy0,cx1,cy1⟩,tw,th,ints oxs,zQc mxs,zQb pxs⟩:Scr)).p1.s,dS (zQk (⟨bits,⟨cx0,cy0,cx1,cy1⟩,tw,th,ints oxs,zQc mxs,zQb pxs⟩:Scr)).p1.n (zQk (⟨bits,⟨cx0,cy0,cx1,cy1⟩,tw,th,ints oxs,zQc mxs,zQb pxs⟩:Scr)).p1.xs,dJ (zQk (⟨bits,⟨cx0,cy0,cx1,cy1⟩,tw,th,ints oxs,zQc mxs,zQb pxs⟩:Scr)).p2.w,dJ (zQk (⟨bits,⟨cx0,cy0,cx1,cy1⟩,tw,th,ints oxs,zQc mxs,zQb pxs⟩:Scr)).p2.h,dJ (zQk (⟨bits,⟨cx0,cy0,cx1,cy1⟩,tw,th,ints oxs,zQc mxs,zQb pxs⟩:Scr)).p2.s,dS (zQk (⟨bits,⟨cx0,cy0,cx1,cy1⟩,tw,th,ints oxs,zQc mxs,zQb pxs⟩:Scr)).p2.n (zQk (⟨bits,⟨cx0,cy0,cx1,cy1⟩,tw,th,ints oxs,zQc mxs,zQb pxs⟩:Scr)).p2.xs,dJ (zQk (⟨bits,⟨cx0,cy0,cx1,cy1⟩,tw,th,ints oxs,zQc mxs,zQb pxs⟩:Scr)).p3.w,dJ (zQk (⟨bits,⟨cx0,cy0,cx1,cy1⟩,tw,th,ints oxs,zQc mxs,zQb pxs⟩:Scr)).p3.h,dJ (zQk (⟨bits,⟨cx0,cy0,cx1,cy1⟩,tw,th,ints oxs,zQc mxs,zQb pxs⟩:Scr)).p3.s,dS (zQk (⟨bits,⟨cx0,cy0,cx1,cy1⟩,tw,th,ints oxs,zQc mxs,zQb pxs⟩:Scr)).p3.n (zQk (⟨bits,⟨cx0,cy0,cx1,cy1⟩,tw,th,ints oxs,zQc mxs,zQb pxs⟩:Scr)).p3.xs,dJ (zQk (⟨bits,⟨cx0,cy0,cx1,cy1⟩,tw,th,ints oxs,zQc mxs,zQb pxs⟩:Scr)).p4.w,dJ (zQk (⟨bits,⟨cx0,cy0,cx1,cy1⟩,tw,th,ints oxs,zQc mxs,zQb pxs⟩:Scr)).p4.h,dJ (zQk (⟨bits,⟨cx0,cy0,cx1,cy1⟩,tw,th,ints oxs,zQc mxs,zQb pxs⟩:Scr)).p4.s,dS (zQk (⟨bits,⟨cx0,cy0,cx1,cy1⟩,tw,th,ints oxs,zQc mxs,zQb pxs⟩:Scr)).p4.n (zQk (⟨bits,⟨cx0,cy0,cx1,cy1⟩,tw,th,ints oxs,zQc mxs,zQb pxs⟩:Scr)).p4.xs],rJ 0,rJ 0]) | _=>none
def jGP:Gam where
 pure:=fun f xs=>
  if f=34 then gZ62 xs else
  if f=38 then gZ63 xs else
  if f=36 then gZ60 xs else
  if f=8 then gZ65 xs else
  none
 modes:=fun f=>
  if f=37 then some ([false,true],1,1) else
  if f=35 then some ([true],0,2) else
  none
 proc:=fun f xs bs=>
  if f=37 then gZ59 xs bs else
  if f=35 then gZ61 xs bs else
  none
 iter:=fun f cs=>
  none
theorem zJI (s:Scr) (hu:∀ m∈s.ims,m.isU) (hI:s.ims.length≤1000000) (hR:jXN s):Ans prog 8 [rA [dJ s.bits,dJ s.c.a,dJ s.c.b,dJ s.c.c,dJ s.c.d,dJ s.tw,dJ s.th,dS s.ord.length (is s.ord),dS s.ims.length (ims s.ims),dS s.ops.length (ops s.ops)]] (rT [rA [dJ ((zQk s).w),dJ ((zQk s).h),dQ ((zQk s).so),dK (((zQk s).c).a),dK (((zQk s).c).b),dK (((zQk s).c).c),dK (((zQk s).c).al),dK (((zQk s).c).f),dJ (((zQk s).p0).w),dJ (((zQk s).p0).h),dJ (((zQk s).p0).s),dS (((zQk s).p0).n) (((zQk s).p0).xs),dJ (((zQk s).p1).w),dJ (((zQk s).p1).h),dJ (((zQk s).p1).s),dS (((zQk s).p1).n) (((zQk s).p1).xs),dJ (((zQk s).p2).w),dJ (((zQk s).p2).h),dJ (((zQk s).p2).s),dS (((zQk s).p2).n) (((zQk s).p2).xs),dJ (((zQk s).p3).w),dJ (((zQk s).p3).h),dJ (((zQk s).p3).s),dS (((zQk s).p3).n) (((zQk s).p3).xs),dJ (((zQk s).p4).w),dJ (((zQk s).p4).h),dJ (((zQk s).p4).s),dS (((zQk s).p4).n) (((zQk s).p4).xs)],rJ (0),rJ (0)]):=
  zQa (Γ:=jGP) (let a:=(zQP s.bits); let c:=(ints (is (zQY s.ops).1)); let d:=(wK (s.c.c - s.c.a)); let e:=(8,aJ d); let f:=(wK (s.c.d - s.c.b)); let g:=(9,aJ f); let h:=(10,aO (Cl.ref 45 (wK (d*f)).toNat)); let i:=(11,aO (Cl.ptr 1047 0)); let l:=(49,aO (cD (dS (zQo (⟨s.bits,⟨s.c.a,s.c.b,s.c.c,s.c.d⟩,s.tw,s.th,ints (is s.ord),zQc (ims s.ims),zQb (ops s.ops)⟩:Scr)).length (rcs (zQo (⟨s.bits,⟨s.c.a,s.c.b,s.c.c,s.c.d⟩,s.tw,s.th,ints (is s.ord),zQc (ims s.ims),zQb (ops s.ops)⟩:Scr)))))); let m:=(50,aJ (((zQo (⟨s.bits,⟨s.c.a,s.c.b,s.c.c,s.c.d⟩,s.tw,s.th,ints (is s.ord),zQc (ims s.ims),zQb (ops s.ops)⟩:Scr)).length:Nat):Int)); let n:=fun (k:Nat)=>(51,aJ (k:Int)); let o:=(2,bC [cJ 0,cJ 0,cD (dQ false),cK 0,cK 0,cK 0,cK 0,cK 0,cJ 0,cJ 0,cJ 0,Cl.nil,cJ 0,cJ 0,cJ 0,Cl.nil,cJ 0,cJ 0,cJ 0,Cl.nil,cJ 0,cJ 0,cJ 0,Cl.nil,cJ 0,cJ 0,cJ 0,Cl.nil]); let p:=(7,bC [cJ s.c.a,cJ s.c.b,cJ s.c.c,cJ s.c.d]); let q:=(dS s.ord.length (is s.ord)); let r:=(dS s.ims.length (ims s.ims)); let t:=(dS s.ops.length (ops s.ops)); let u:=(dK a); let v:=(dS (zQY s.ops).1.length (is (zQY s.ops).1)); (aQ aL (aQ aL (aQ aL (aQ aL (aQ aL (aQ aL (aQ (aQ aL (Ann.loop ⟨Nat,fun k=>k≤(zQo s).length,fun k=>⟨[(2,aO (Cl.ptr 2 0)),(7,aO (Cl.ptr 7 0)),e,g,h,i,l,m,(n k)],[o,p,(45,bR 37 5 (pxs (allP s k))),(1047,bC [cJ s.bits,cJ s.c.a,cJ s.c.b,cJ s.c.c,cJ s.c.d,cJ s.tw,cJ s.th,cD q,cD r,cD t,cD u,cD v,Cl.ref 2047 (zJY s k).length]),(2047,bR 249 14 (frs (zJY s k)))]⟩,fun k=>(zQo s).length - k⟩ fun k=>(aQ aL (aQ aL (aQ (aQ aL (aQ aL (aQ aL (aQ aL (Ann.loop ⟨Nat,fun j=>j≤zQt (zZM s k),fun j=>⟨[(2,aO (Cl.ptr 2 0)),(7,aO (Cl.ptr 7 0)),e,g,h,i,(13,aO (Cl.ptr 13 0)),(14,aO (cD (dS (zZs (⟨s.bits,⟨s.c.a,s.c.b,s.c.c,s.c.d⟩,s.tw,s.th,ints (is s.ord),zQc (ims s.ims),zQb (ops s.ops)⟩:Scr) a c (⟨(nAt (rcs (zQo (⟨s.bits,⟨s.c.a,s.c.b,s.c.c,s.c.d⟩,s.tw,s.th,ints (is s.ord),zQc (ims s.ims),zQb (ops s.ops)⟩:Scr))) ((k:Int).toNat*4)),(nAt (rcs (zQo (⟨s.bits,⟨s.c.a,s.c.b,s.c.c,s.c.d⟩,s.tw,s.th,ints (is s.ord),zQc (ims s.ims),zQb (ops s.ops)⟩:Scr))) ((k:Int).toNat*4+1)),(nAt (rcs (zQo (⟨s.bits,⟨s.c.a,s.c.b,s.c.c,s.c.d⟩,s.tw,s.th,ints (is s.ord),zQc (ims s.ims),zQb (ops s.ops)⟩:Scr))) ((k:Int).toNat*4+1+1)),(nAt (rcs (zQo (⟨s.bits,⟨s.c.a,s.c.b,s.c.c,s.c.d⟩,s.tw,s.th,ints (is s.ord),zQc (ims s.ims),zQb (ops s.ops)⟩:Scr))) ((k:Int).toNat*4+1+1+1))⟩:Rc) (zQt (⟨(nAt (rcs (zQo (⟨s.bits,⟨s.c.a,s.c.b,s.c.c,s.c.d⟩,s.tw,s.th,ints (is s.ord),zQc (ims s.ims),zQb (ops s.ops)⟩:Scr))) ((k:Int).toNat*4)),(nAt (rcs (zQo (⟨s.bits,⟨s.c.a,s.c.b,s.c.c,s.c.d⟩,s.tw,s.th,ints (is s.ord),zQc (ims s.ims),zQb (ops s.ops)⟩:Scr))) ((k:Int).toNat*4+1)),(nAt (rcs (zQo (⟨s.bits,⟨s.c.a,s.c.b,s.c.c,s.c.d⟩,s.tw,s.th,ints (is s.ord),zQc (ims s.ims),zQb (ops s.ops)⟩:Scr))) ((k:Int).toNat*4+1+1)),(nAt (rcs (zQo (⟨s.bits,⟨s.c.a,s.c.b,s.c.c,s.c.d⟩,s.tw,s.th,ints (is s.ord),zQc (ims s.ims),zQb (ops s.ops)⟩:Scr))) ((k:Int).toNat*4+1+1+1))⟩:Rc))).length (pxs (zZs (⟨s.bits,⟨s.c.a,s.c.b,s.c.c,s.c.d⟩,s.tw,s.th,ints (is s.ord),zQc (ims s.ims),zQb (ops s.ops)⟩:Scr) a c (⟨(nAt (rcs (zQo (⟨s.bits,⟨s.c.a,s.c.b,s.c.c,s.c.d⟩,s.tw,s.th,ints (is s.ord),zQc (ims s.ims),zQb (ops s.ops)⟩:Scr))) ((k:Int).toNat*4)),(nAt (rcs (zQo (⟨s.bits,⟨s.c.a,s.c.b,s.c.c,s.c.d⟩,s.tw,s.th,ints (is s.ord),zQc (ims s.ims),zQb (ops s.ops)⟩:Scr))) ((k:Int).toNat*4+1)),(nAt (rcs (zQo (⟨s.bits,⟨s.c.a,s.c.b,s.c.c,s.c.d⟩,s.tw,s.th,ints (is s.ord),zQc (ims s.ims),zQb (ops s.ops)⟩:Scr))) ((k:Int).toNat*4+1+1)),(nAt (rcs (zQo (⟨s.bits,⟨s.c.a,s.c.b,s.c.c,s.c.d⟩,s.tw,s.th,ints (is s.ord),zQc (ims s.ims),zQb (ops s.ops)⟩:Scr))) ((k:Int).toNat*4+1+1+1))⟩:Rc) (zQt (⟨(nAt (rcs (zQo (⟨s.bits,⟨s.c.a,s.c.b,s.c.c,s.c.d⟩,s.tw,s.th,ints (is s.ord),zQc (ims s.ims),zQb (ops s.ops)⟩:Scr))) ((k:Int).toNat*4)),(nAt (rcs (zQo (⟨s.bits,⟨s.c.a,s.c.b,s.c.c,s.c.d⟩,s.tw,s.th,ints (is s.ord),zQc (ims s.ims),zQb (ops s.ops)⟩:Scr))) ((k:Int).toNat*4+1)),(nAt (rcs (zQo (⟨s.bits,⟨s.c.a,s.c.b,s.c.c,s.c.d⟩,s.tw,s.th,ints (is s.ord),zQc (ims s.ims),zQb (ops s.ops)⟩:Scr))) ((k:Int).toNat*4+1+1)),(nAt (rcs (zQo (⟨s.bits,⟨s.c.a,s.c.b,s.c.c,s.c.d⟩,s.tw,s.th,ints (is s.ord),zQc (ims s.ims),zQb (ops s.ops)⟩:Scr))) ((k:Int).toNat*4+1+1+1))⟩:Rc))))))),(15,aJ (wK ((nAt (rcs (zQo (⟨s.bits,⟨s.c.a,s.c.b,s.c.c,s.c.d⟩,s.tw,s.th,ints (is s.ord),zQc (ims s.ims),zQb (ops s.ops)⟩:Scr))) ((k:Int).toNat*4+1+1)) - (nAt (rcs (zQo (⟨s.bits,⟨s.c.a,s.c.b,s.c.c,s.c.d⟩,s.tw,s.th,ints (is s.ord),zQc (ims s.ims),zQb (ops s.ops)⟩:Scr))) ((k:Int).toNat*4))))),(16,aJ ((zZM s k).b+(j:Int))),l,m,(n k)],[o,p,(45,bR 37 5 (pxs (zWY s (zZM s k) (allP s k) j))),(1047,(let aA:=(⟨s.bits,⟨s.c.a,s.c.b,s.c.c,s.c.d⟩,s.tw,s.th,ints (is s.ord),zQc (ims s.ims),zQb (ops s.ops)⟩:Scr); let bB:=(⟨(nAt (rcs (zQo aA)) ((k:Int).toNat*4)),(nAt (rcs (zQo aA)) ((k:Int).toNat*4+1)),(nAt (rcs (zQo aA)) ((k:Int).toNat*4+1+1)),(nAt (rcs (zQo aA)) ((k:Int).toNat*4+1+1+1))⟩:Rc); bC [cJ s.bits,cJ s.c.a,cJ s.c.b,cJ s.c.c,cJ s.c.d,cJ s.tw,cJ s.th,cD q,cD r,cD t,cD u,cD v,Cl.ref 1057 (zYB aA a c bB (zKp (frs (zJY s k))) (zQt bB)).length])),(13,(let aA:=(rcs (zQo (⟨s.bits,⟨s.c.a,s.c.b,s.c.c,s.c.d⟩,s.tw,s.th,ints (is s.ord),zQc (ims s.ims),zQb (ops s.ops)⟩:Scr))); bC [cJ (nAt aA ((k:Int).toNat*4)),cJ (nAt aA ((k:Int).toNat*4+1)),cJ (nAt aA ((k:Int).toNat*4+1+1)),cJ (nAt aA ((k:Int).toNat*4+1+1+1))])),(1057,bR 249 14 (frs (zYB (⟨s.bits,⟨s.c.a,s.c.b,s.c.c,s.c.d⟩,s.tw,s.th,ints (is s.ord),zQc (ims s.ims),zQb (ops s.ops)⟩:Scr) a c (⟨(nAt (rcs (zQo (⟨s.bits,⟨s.c.a,s.c.b,s.c.c,s.c.d⟩,s.tw,s.th,ints (is s.ord),zQc (ims s.ims),zQb (ops s.ops)⟩:Scr))) ((k:Int).toNat*4)),(nAt (rcs (zQo (⟨s.bits,⟨s.c.a,s.c.b,s.c.c,s.c.d⟩,s.tw,s.th,ints (is s.ord),zQc (ims s.ims),zQb (ops s.ops)⟩:Scr))) ((k:Int).toNat*4+1)),(nAt (rcs (zQo (⟨s.bits,⟨s.c.a,s.c.b,s.c.c,s.c.d⟩,s.tw,s.th,ints (is s.ord),zQc (ims s.ims),zQb (ops s.ops)⟩:Scr))) ((k:Int).toNat*4+1+1)),(nAt (rcs (zQo (⟨s.bits,⟨s.c.a,s.c.b,s.c.c,s.c.d⟩,s.tw,s.th,ints (is s.ord),zQc (ims s.ims),zQb (ops s.ops)⟩:Scr))) ((k:Int).toNat*4+1+1+1))⟩:Rc) (zKp (frs (zJY s k))) (zQt (⟨(nAt (rcs (zQo (⟨s.bits,⟨s.c.a,s.c.b,s.c.c,s.c.d⟩,s.tw,s.th,ints (is s.ord),zQc (ims s.ims),zQb (ops s.ops)⟩:Scr))) ((k:Int).toNat*4)),(nAt (rcs (zQo (⟨s.bits,⟨s.c.a,s.c.b,s.c.c,s.c.d⟩,s.tw,s.th,ints (is s.ord),zQc (ims s.ims),zQb (ops s.ops)⟩:Scr))) ((k:Int).toNat*4+1)),(nAt (rcs (zQo (⟨s.bits,⟨s.c.a,s.c.b,s.c.c,s.c.d⟩,s.tw,s.th,ints (is s.ord),zQc (ims s.ims),zQb (ops s.ops)⟩:Scr))) ((k:Int).toNat*4+1+1)),(nAt (rcs (zQo (⟨s.bits,⟨s.c.a,s.c.b,s.c.c,s.c.d⟩,s.tw,s.th,ints (is s.ord),zQc (ims s.ims),zQb (ops s.ops)⟩:Scr))) ((k:Int).toNat*4+1+1+1))⟩:Rc)))))]⟩,fun j=>zQt (zZM s k) - j⟩ fun j=>aL))))) aL))))) aL)))))))) zQf Tryz.func8 rfl (nL rfl) fun hwf=>by
    refine Eq.mpr (by kernel_rfl:_=(let x:=(zYE (sE s)); let y:=(zQY (zQb (ops s.ops))); let q:=(zQY s.ops); let r:=(is q.1); let g:=(zQP s.bits); let h:=((sE s):Scr); let t:=(zQo h); let z:=((t.length:Nat):Int); let i:=(ints r); let a:=(rcs t); let z1:=[rA [dJ s.bits,dJ s.c.a,dJ s.c.b,dJ s.c.c,dJ s.c.d,dJ s.tw,dJ s.th,dS s.ord.length (is s.ord),dS s.ims.length (ims s.ims),dS s.ops.length (ops s.ops)]]; let z2:=(dJ x.1); let z3:=(dJ x.2); let m:=(wK (s.c.c - s.c.a)); let o:=(wK (s.c.d - s.c.b)); let u:=(m*o); let p:=(wK u); let A:=(dS s.ord.length (is s.ord)); let B:=(dS s.ims.length (ims s.ims)); let C:=(dS s.ops.length (ops s.ops)); let N:=(dK g); let D:=(dJ m=dJ m); let E:=(dJ o=dJ o); let F:=(p.toNat=p.toNat); let G:=(dS t.length a=dS t.length a); let H:=(dJ z=dJ z); let l:=(dJ 0=dJ 0); let v:=(dK 0=dK 0); let I:=(l∧l∧(dQ false=dQ false)∧v∧v∧v∧v∧v∧l∧l∧l∧True∧l∧l∧l∧True∧l∧l∧l∧True∧l∧l∧l∧True∧l∧l∧l∧True∧True); let z4:=[dJ s.c.a,dJ s.c.b,dJ s.c.c,dJ s.c.d]; let J:=(z4=z4); let O:=(dJ s.bits=dJ s.bits); let P:=(dJ s.c.a=dJ s.c.a); let Q:=(dJ s.c.b=dJ s.c.b); let R:=(dJ s.c.c=dJ s.c.c); let S:=(dJ s.c.d=dJ s.c.d); let T:=(dJ s.tw=dJ s.tw); let U:=(dJ s.th=dJ s.th); let V:=(dS s.ord.length (is s.ord)=dS s.ord.length (is s.ord)); let W:=(dS s.ims.length (ims s.ims)=dS s.ims.length (ims s.ims)); let X:=(dS s.ops.length (ops s.ops)=dS s.ops.length (ops s.ops)); let Y:=(dK g=dK g); let z5:=(dS q.1.length r); let z6:=fun (k:Nat)=>(dS (zZs h g i (⟨(nAt a (k*4)),(nAt a (k*4+1)),(nAt a (k*4+1+1)),(nAt a (k*4+1+1+1))⟩:Rc) (zQt (⟨(nAt a (k*4)),(nAt a (k*4+1)),(nAt a (k*4+1+1)),(nAt a (k*4+1+1+1))⟩:Rc))).length (pxs (zZs h g i (⟨(nAt a (k*4)),(nAt a (k*4+1)),(nAt a (k*4+1+1)),(nAt a (k*4+1+1+1))⟩:Rc) (zQt (⟨(nAt a (k*4)),(nAt a (k*4+1)),(nAt a (k*4+1+1)),(nAt a (k*4+1+1+1))⟩:Rc))))=dS (zZs h g i (⟨(nAt a (k*4)),(nAt a (k*4+1)),(nAt a (k*4+1+1)),(nAt a (k*4+1+1+1))⟩:Rc) (zQt (⟨(nAt a (k*4)),(nAt a (k*4+1)),(nAt a (k*4+1+1)),(nAt a (k*4+1+1+1))⟩:Rc))).length (pxs (zZs h g i (⟨(nAt a (k*4)),(nAt a (k*4+1)),(nAt a (k*4+1+1)),(nAt a (k*4+1+1+1))⟩:Rc) (zQt (⟨(nAt a (k*4)),(nAt a (k*4+1)),(nAt a (k*4+1+1)),(nAt a (k*4+1+1+1))⟩:Rc))))); let z7:=fun (k:Nat)=>(dJ (wK ((nAt a (k*4+1+1)) - (nAt a (k*4))))=dJ (wK ((nAt a (k*4+1+1)) - (nAt a (k*4))))); let z8:=fun (k:Nat)=>(dJ (k:Int)=dJ (k:Int)); let z9:=(dS q.1.length r=dS q.1.length r); let y0:=fun (k:Nat)=>(O∧P∧Q∧R∧S∧T∧U∧V∧W∧X∧Y∧z9∧((zYB h g i (⟨(nAt a (k*4)),(nAt a (k*4+1)),(nAt a (k*4+1+1)),(nAt a (k*4+1+1+1))⟩:Rc) (zKp (frs (zJY s k))) (zQt (⟨(nAt a (k*4)),(nAt a (k*4+1)),(nAt a (k*4+1+1)),(nAt a (k*4+1+1+1))⟩:Rc))).length=(zYB h g i (⟨(nAt a (k*4)),(nAt a (k*4+1)),(nAt a (k*4+1+1)),(nAt a (k*4+1+1+1))⟩:Rc) (zKp (frs (zJY s k))) (zQt (⟨(nAt a (k*4)),(nAt a (k*4+1)),(nAt a (k*4+1+1)),(nAt a (k*4+1+1+1))⟩:Rc))).length)∧True); let y1:=fun (k:Nat)=>[dJ (nAt a (k*4)),dJ (nAt a (k*4+1)),dJ (nAt a (k*4+1+1)),dJ (nAt a (k*4+1+1+1))]; let y2:=fun (k:Nat)=>((y1 k)=(y1 k)); let y3:=fun (k:Nat)=>(frs (zYB h g i (⟨(nAt a (k*4)),(nAt a (k*4+1)),(nAt a (k*4+1+1)),(nAt a (k*4+1+1+1))⟩:Rc) (zKp (frs (zJY s k))) (zQt (⟨(nAt a (k*4)),(nAt a (k*4+1)),(nAt a (k*4+1+1)),(nAt a (k*4+1+1+1))⟩:Rc)))=frs (zYB h g i (⟨(nAt a (k*4)),(nAt a (k*4+1)),(nAt a (k*4+1+1)),(nAt a (k*4+1+1+1))⟩:Rc) (zKp (frs (zJY s k))) (zQt (⟨(nAt a (k*4)),(nAt a (k*4+1)),(nAt a (k*4+1+1)),(nAt a (k*4+1+1+1))⟩:Rc)))); let y4:=fun (k:Nat)=>fun (j:Nat)=>(pxs (zWY s (zZM s k) (allP s k) j)); let y5:=p.toNat; let y6:=fun (k:Nat)=>(imR (imOf m o (zQe (pxs (allP s k))))); tU5 ((Ans prog 34 z1 (rT [rD z2,rD z3]))∧tU7 (((x.1 != 0)=true→tU6 (rT [rA [dJ 0,dJ 0,dQ false,dK 0,dK 0,dK 0,dK 0,dK 0,dJ 0,dJ 0,dJ 0,dS 0 ([]),dJ 0,dJ 0,dJ 0,dS 0 ([]),dJ 0,dJ 0,dJ 0,dS 0 ([]),dJ 0,dJ 0,dJ 0,dS 0 ([]),dJ 0,dJ 0,dJ 0,dS 0 ([])],rD z2,rD z3]=rT [(imR (zQk s)),rJ 0,rJ 0]))∧((x.1 != 0)=false→tU8 (tU8 ((true=true)∧tU3 ((0≤wK u∧wK u≤wK u∧wK u≤(maxLen:Int)∧((10:Nat):Int)*p≤281474976710656)∧tU2 ((AnsG prog 35 0 [AV.agg [cJ s.bits,cJ s.c.a,cJ s.c.b,cJ s.c.c,cJ s.c.d,cJ s.tw,cJ s.th,cD A,cD B,cD C]] [] ⟨aPz,[bC [cJ s.bits,cJ s.c.a,cJ s.c.b,cJ s.c.c,cJ s.c.d,cJ s.tw,cJ s.th,cD A,cD B,cD C,cD N,cD (dS y.1.length (is y.1)),Cl.ref 1 0],bR 249 14 (frs [])],false⟩)∧tU2 ((Ans prog 36 z1 (rD (dS t.length a)))∧tU2 ((∃ k:Nat,(k≤(zQo s).length)∧(((0=0)∧(0=0)∧D∧E∧F∧(0=0)∧G∧H∧(dJ 0=dJ (k:Int))∧True)∧(I∧J∧(repl p.toNat [dK 0,dK 0,dK 0,dK 0,dK 0]=pxs (allP s k))∧(O∧P∧Q∧R∧S∧T∧U∧V∧W∧X∧Y∧(dS y.1.length (is y.1)=dS q.1.length r)∧(0=(zJY s k).length)∧True)∧(frs []=frs (zJY s k))∧True)))∧∀ k:Nat,let y7:=(decide ((k:Int) < z)); let K:=(zKp (frs (zJY s k))); let e:=(nAt a (k*4+1+1+1)); let c:=(nAt a (k*4+1)); let f:=(nAt a (k*4+1+1)); let d:=(nAt a (k*4)); let y8:=(wK (f - d)); (k≤(zQo s).length)→True∧((y7=true→(0≤(k:Int)∧(k:Int) < z∧k*4 < a.length)∧((a[k*4]?=some (dJ d))∧(a[k*4+1]?=some (dJ c))∧(a[k*4+1+1]?=some (dJ f))∧(a[k*4+1+1+1]?=some (dJ e))∧True)∧tU4 ((AnsG prog 37 1 [aPz,AV.agg [cJ d,cJ c,cJ f,cJ e]] [bC [cJ s.bits,cJ s.c.a,cJ s.c.b,cJ s.c.c,cJ s.c.d,cJ s.tw,cJ s.th,cD A,cD B,cD C,cD N,cD z5,Cl.ref 1 (zJY s k).length],bR 249 14 (frs (zJY s k))] ⟨aO (cD (dS (zZs h g i (⟨d,c,f,e⟩:Rc) (zQt (⟨d,c,f,e⟩:Rc))).length (pxs (zZs h g i (⟨d,c,f,e⟩:Rc) (zQt (⟨d,c,f,e⟩:Rc)))))),[bC [cJ s.bits,cJ s.c.a,cJ s.c.b,cJ s.c.c,cJ s.c.d,cJ s.tw,cJ s.th,cD A,cD B,cD C,cD N,cD z5,Cl.ref 1 (zYB h g i (⟨d,c,f,e⟩:Rc) K (zQt (⟨d,c,f,e⟩:Rc))).length],bR 249 14 (frs (zYB h g i (⟨d,c,f,e⟩:Rc) K (zQt (⟨d,c,f,e⟩:Rc))))],false⟩)∧tU2 (tU8 ((∃ j:Nat,(j≤zQt (zZM s k))∧(((0=0)∧(0=0)∧D∧E∧F∧(0=0)∧(0=0)∧(z6 k)∧(z7 k)∧(dJ c=dJ ((zZM s k).b+(j:Int)))∧G∧H∧(z8 k)∧True)∧(I∧J∧(pxs (allP s k)=pxs (zWY s (zZM s k) (allP s k) j))∧(y0 k)∧(y2 k)∧(y3 k)∧True)))∧∀ j:Nat,let L:=((zZM s k).b+(j:Int)); let y9:=(decide (L < e)); let n:=((wK (L - c))*y8); let M:=((wK ((wK ((wK (L - s.c.b))*m))+d)) - s.c.a); let Z:=(wK M); let z0:=(Z+y8); let w:=(wK z0 - wK M); (j≤zQt (zZM s k))→tU4 ((y9=true→tU2 (tU8 (tU8 ((0≤wK M∧wK M≤wK z0∧wK z0≤(p.toNat:Int))∧tU7 ((0≤wK n∧wK n≤(((zZs h g i (⟨d,c,f,e⟩:Rc) (zQt (⟨d,c,f,e⟩:Rc))).length:Nat):Int)∧(((zZs h g i (⟨d,c,f,e⟩:Rc) (zQt (⟨d,c,f,e⟩:Rc))).length:Nat):Int)≤(((zZs h g i (⟨d,c,f,e⟩:Rc) (zQt (⟨d,c,f,e⟩:Rc))).length:Nat):Int))∧(w.toNat≤((((zZs h g i (⟨d,c,f,e⟩:Rc) (zQt (⟨d,c,f,e⟩:Rc))).length:Nat):Int) - wK n).toNat∧w.toNat≤maxLen∧Z.toNat*5+w.toNat*5≤(y4 k j).length∧w.toNat*5≤(List.take (((((zZs h g i (⟨d,c,f,e⟩:Rc) (zQt (⟨d,c,f,e⟩:Rc))).length:Nat):Int) - wK n).toNat*5) (List.drop ((wK n).toNat*5) (pxs (zZs h g i (⟨d,c,f,e⟩:Rc) (zQt (⟨d,c,f,e⟩:Rc)))))).length)∧(true=true)∧tU3 (∃ j':Nat,(j'≤zQt (zZM s k))∧(zQt (zZM s k) - j' < zQt (zZM s k) - j)∧(((0=0)∧(0=0)∧D∧E∧F∧(0=0)∧(0=0)∧(z6 k)∧(z7 k)∧(dJ (wK (L+1))=dJ ((zZM s k).b+(j':Int)))∧G∧H∧(z8 k)∧True)∧(I∧J∧(sets (y4 k j) (Z.toNat*5) (List.take (w.toNat*5) (List.take (((((zZs h g i (⟨d,c,f,e⟩:Rc) (zQt (⟨d,c,f,e⟩:Rc))).length:Nat):Int) - wK n).toNat*5) (List.drop ((wK n).toNat*5) (pxs (zZs h g i (⟨d,c,f,e⟩:Rc) (zQt (⟨d,c,f,e⟩:Rc)))))))=pxs (zWY s (zZM s k) (allP s k) j'))∧(y0 k)∧(y2 k)∧(y3 k)∧True))))))))∧(y9=false→tU2 (∃ k':Nat,(k'≤(zQo s).length)∧((zQo s).length - k' < (zQo s).length - k)∧(((0=0)∧(0=0)∧D∧E∧F∧(0=0)∧G∧H∧(dJ (wK ((k:Int)+1))=dJ (k':Int))∧True)∧(I∧J∧(pxs (zWY s (zZM s k) (allP s k) j)=pxs (allP s k'))∧(O∧P∧Q∧R∧S∧T∧U∧V∧W∧X∧Y∧z9∧((zYB h g i (⟨d,c,f,e⟩:Rc) K (zQt (⟨d,c,f,e⟩:Rc))).length=(zJY s k').length)∧True)∧(frs (zYB h g i (⟨d,c,f,e⟩:Rc) K (zQt (⟨d,c,f,e⟩:Rc)))=frs (zJY s k'))∧True)))))))))∧(y7=false→tU3 ((Ans prog 38 [rJ m,rJ o,rD (dS y5 (pxs (allP s k)))] (rT [(y6 k),rD (dQ (ofOk m o y5))]))∧tU2 (tU8 (rT [(y6 k),rJ 0,rJ 0]=rT [(imR (zQk s)),rJ 0,rJ 0])))))))))))))))) ?_
    delta sE dJ dK dQ cJ wK dS rJ aPz bC
    simp only [sS]
    clear hwf
    simp only [zYl]
    have V:=zJg s hu
    have chk:=hR.chk
    rw [chk] at V ⊢
    obtain ⟨w1,w2⟩:=hR.w
    obtain ⟨h1,h2⟩:=hR.h
    obtain ⟨⟨c1,c2⟩,c3,c4⟩:=hR.at_
    have wW:wrap .i64 (s.c.c - s.c.a)=s.c.c - s.c.a:=IntWalk.i64_in _ ⟨by omega,by omega⟩
    have wH:wrap .i64 (s.c.d - s.c.b)=s.c.d - s.c.b:=IntWalk.i64_in _ ⟨by omega,by omega⟩
    obtain ⟨PP,eP,P1,P2⟩:∃ PP:Int,(s.c.c - s.c.a)*(s.c.d - s.c.b)=PP∧0≤PP∧PP≤1000000:=⟨_,rfl,Int.mul_nonneg (by omega) (by omega),by
      calc (s.c.c - s.c.a)*(s.c.d - s.c.b)≤1000*(s.c.d - s.c.b):=Int.mul_le_mul_of_nonneg_right w2 (by omega)
        _≤1000*1000:=Int.mul_le_mul_of_nonneg_left h2 (by decide)⟩
    have wP:wrap .i64 PP=PP:=IntWalk.i64_in _ ⟨by omega,by omega⟩
    simp only [wW,wH,eP,wP,zQG,zZD,zZd,zU4]
    have hmx:maxLen=9223372036854775807:=rfl
    have ll:(zQo s).length≤1000000:=by unfold zQo; rw [List.length_map]; exact hR.few
    have z:repl PP.toNat [DV.int .u16 0,DV.int .u16 0,DV.int .u16 0,DV.int .u16 0,DV.int .u16 0]=pxs (allP s 0):=by
      unfold allP repl pxs
      rw [eP,List.flatMap_def,List.map_replicate]; rfl
    refine ⟨V,fun h=>absurd h (by decide),fun _=>⟨⟨P1,Int.le_refl _,by omega,by omega⟩,zKk s hR.ops,zUH s hR.hz hR.few,⟨0,Nat.zero_le _,rfl,z,⟨⟨trivial,trivial⟩,rfl⟩,rfl⟩,fun k hk=>⟨fun hlt=>?_,fun hge=>?_⟩⟩⟩
    · have k1:k < (zQo s).length:=by omega
      have rd:=zVq _ k k1
      have ra:=zVF k1
      have eK:(zQo s)[k]=zZM s k:=by unfold zZM; rw [List.getElem?_eq_getElem k1]; rfl
      rw [eK] at rd ra
      obtain ⟨a0,a1,a2,a3⟩:=ra
      rw [a0,a1,a2,a3]
      have tk:=hR.tile k k1
      have pk:=hR.part k k1
      have lk:=zWA hR k (by omega)
      have e1:allP s (k+1)=zWY s (zZM s k) (allP s k) (zQt (zZM s k)):=rfl
      have e2:zJY s (k+1)=zYB s (zQP s.bits) (zQY s.ops).1 (zZM s k) (zJY s k) (zQt (zZM s k)):=rfl
      have bnd:=fun j hj=>zHc hR tk (j:=j) hj
      have lJ:=fun j hj=>jQF pk (j:=j) hj
      have lT:=zWc hR tk pk lk
      have lP:=zY8 pk (zQt (zZM s k)) (Nat.le_refl _)
      generalize hr:zZM s k=r at *
      obtain ⟨⟨x1,x2,x3⟩,y1,y2,y3⟩:=tk
      have eta:(⟨r.a,r.b,r.c,r.d⟩:Rc)=r:=rfl
      simp only [eta]
      have wn:wrap .i64 (r.c - r.a)=r.c - r.a:=IntWalk.i64_in _ ⟨by omega,by omega⟩
      have en:(((r.c - r.a).toNat:Nat):Int)=r.c - r.a:=by omega
      refine ⟨⟨by omega,by omega,by rw [zXu]; omega⟩,rd,zX2 s (zQP s.bits) (zQY s.ops).1 (zJY s k) r hu hI pk (by have:=hR.ops; omega),⟨0,Nat.zero_le _,by omega,rfl⟩,fun j hj=>⟨fun hlt2=>?_,fun hge2=>⟨k+1,by omega,by omega,?_,?_,by rw [e2],by rw [e2]⟩⟩⟩
      · have hj2:j < zQt r:=by unfold zQt; omega
        have hN:zQt r≤1000:=by unfold zQt; omega
        obtain ⟨A,eA,A1,A2,A3,A4,A5⟩:=bnd j hj2
        rw [eP] at A2 A3
        have wy:wrap .i64 (r.b+(j:Int) - s.c.b)=r.b+j - s.c.b:=IntWalk.i64_in _ ⟨by omega,by omega⟩
        have wA:wrap .i64 A=A:=IntWalk.i64_in _ ⟨by omega,by omega⟩
        have wA2:wrap .i64 (A+r.a)=A+r.a:=IntWalk.i64_in _ ⟨by omega,by omega⟩
        have wA3:wrap .i64 (A+r.a - s.c.a)=A+r.a - s.c.a:=IntWalk.i64_in _ ⟨by omega,by omega⟩
        have wj:wrap .i64 (r.b+(j:Int) - r.b)=(j:Int):=by rw [IntWalk.i64_in _ ⟨by omega,by omega⟩]; omega
        have wj1:wrap .i64 (r.b+(j:Int)+1)=r.b+((j+1:Nat):Int):=by rw [IntWalk.i64_in _ ⟨by omega,by omega⟩]; omega
        have wE:wrap .i64 (A+r.a - s.c.a+(r.c - r.a))=A+r.a - s.c.a+(r.c - r.a):=IntWalk.i64_in _ ⟨by omega,by omega⟩
        have el:(A+r.a - s.c.a+(r.c - r.a) - (A+r.a - s.c.a)).toNat=(r.c - r.a).toNat:=by omega
        obtain ⟨B,eB,B1,B2⟩:∃ B:Nat,j*(r.c - r.a).toNat=B∧B+(r.c - r.a).toNat≤zQt r*(r.c - r.a).toNat∧zQt r*(r.c - r.a).toNat≤1000000:=⟨_,rfl,by
          have:=Nat.mul_le_mul_right (r.c - r.a).toNat (show j+1≤zQt r by omega)
          rwa [Nat.add_mul,Nat.one_mul] at this,Nat.mul_le_mul hN (show (r.c - r.a).toNat≤1000 by omega)⟩
        have eB2:(j:Int)*(r.c - r.a)=(B:Int):=by rw [← eB,Int.natCast_mul,en]
        have wB:wrap .i64 (B:Int)=(B:Int):=IntWalk.i64_in _ ⟨by omega,by omega⟩
        have eI:(A+r.a - s.c.a).toNat=atI s r j:=by unfold atI; rw [eA]
        have hT:=lT j hj
        have hJ:=lJ j hj2
        have i1:atI s r j+(r.c - r.a).toNat≤PP.toNat:=by rw [← eI]; omega
        rw [lk,eP] at hT
        rw [wy,eA,wA,wA2,wA3,wn,wj,eB2,wB,wE,el,wj1,eI]
        have hJ2:List.take ((r.c - r.a).toNat*5) (List.take ((((zZs s (zQP s.bits) (zQY s.ops).1 r (zQt r)).length:Int) - (B:Int)).toNat*5) (List.drop ((B:Int).toNat*5) (pxs (zZs s (zQP s.bits) (zQY s.ops).1 r (zQt r)))))=pxs (rowJ s r j):=by
          rw [Int.toNat_natCast,jZT,zUS,zUS]
          unfold rowJ jKz
          rw [eB,List.take_of_length_le (l:=List.drop B _) (by rw [List.length_drop]; omega)]
        have hl5:(r.c - r.a).toNat*5≤(List.take ((((zZs s (zQP s.bits) (zQY s.ops).1 r (zQt r)).length:Int) - (B:Int)).toNat*5) (List.drop ((B:Int).toNat*5) (pxs (zZs s (zQP s.bits) (zQY s.ops).1 r (zQt r))))).length:=by
          have:=congrArg List.length hJ2
          rw [List.length_take,zQx,hJ] at this
          omega
        refine ⟨⟨by omega,by omega,by omega⟩,⟨by omega,by omega,Int.le_refl _⟩,⟨by omega,by omega,by rw [zQx,hT]; omega,hl5⟩,j+1,by omega,by omega,rfl,?_⟩
        rw [hJ2,jKJ (by rw [hJ,hT]; exact i1)]
        rfl
      · rw [IntWalk.i64_in _ ⟨by omega,by omega⟩]; omega
      · have:j=zQt r:=by unfold zQt at hj ⊢; omega
        rw [e1,this]
    · have:k=(zQo s).length:=by omega
      subst this
      rw [zZq]
      have l:=zWA hR _ (Nat.le_refl _)
      rw [eP] at l
      rw [← l]
      exact ⟨zUp _ _ _,rfl⟩
def zQj (r:Rc) (w h i:Int):Rc × Bool:=
 if (cntS r w h).2.2=false∨i < 0∨i≥wrap .i64 ((cntS r w h).1*(cntS r w h).2.1) then (Rc.zero,false)
 else
  let x:=wrap .i64 (r.a+wrap .i64 (Int.tmod i (cntS r w h).1*w))
  let y:=wrap .i64 (r.b+wrap .i64 (wrap .i64 (Int.tdiv i (cntS r w h).1)*h))
  (⟨x,y,min (wrap .i64 (x+w)) r.c,min (wrap .i64 (y+h)) r.d⟩,true)
def gZ66 (xs:List RV):Option RV:=match xs with | [.agg [.int _ a,.int _ b,.int _ c,.int _ d],.d (.int _ w),.d (.int _ h),.d (.int _ i)]=>some (RV.tup [RV.agg [dJ (zQj ⟨a,b,c,d⟩ w h i).1.a,dJ (zQj ⟨a,b,c,d⟩ w h i).1.b,dJ (zQj ⟨a,b,c,d⟩ w h i).1.c,dJ (zQj ⟨a,b,c,d⟩ w h i).1.d],RV.d (dQ (zQj ⟨a,b,c,d⟩ w h i).2)]) | _=>none
def jGO:Gam where
 pure:=fun f xs=>
  if f=9 then gZ8 xs else
  if f=11 then gZ66 xs else
  none
 modes:=fun f=>
  none
 proc:=fun f xs bs=>
  none
 iter:=fun f cs=>
  none
theorem jXO (a b c d w h i:Int) (hz:(cntS ⟨a,b,c,d⟩ w h).2.2=true→(cntS ⟨a,b,c,d⟩ w h).1≠0):Ans prog 11 [rA [dJ a,dJ b,dJ c,dJ d],rJ (w),rJ (h),rJ (i)] (rT [rA [dJ ((zQj ⟨a,b,c,d⟩ w h i).1.a),dJ ((zQj ⟨a,b,c,d⟩ w h i).1.b),dJ ((zQj ⟨a,b,c,d⟩ w h i).1.c),dJ ((zQj ⟨a,b,c,d⟩ w h i).1.d)],rD (dQ ((zQj ⟨a,b,c,d⟩ w h i).2))]):=
 zQa (Γ:=jGO) aL zQf Tryz.func11 rfl (nL rfl) fun hwf=>by
  refine Eq.mpr (by kernel_rfl:_=(let l:=[rA [dJ 0,dJ 0,dJ 0,dJ 0],rD (dQ false)]; let f:=[(let aA:=(zQj ⟨a,b,c,d⟩ w h i); rA [dJ aA.1.a,dJ aA.1.b,dJ aA.1.c,dJ aA.1.d]),rD (dQ (zQj ⟨a,b,c,d⟩ w h i).2)]; let e:=(rT l=rT f); let g:=((cntS ⟨a,b,c,d⟩ w h).1≠0); let j:=(wK (a+(wK ((Int.tmod i (cntS ⟨a,b,c,d⟩ w h).1)*w)))); let k:=(wK (b+(wK ((wK (Int.tdiv i (cntS ⟨a,b,c,d⟩ w h).1))*h)))); tU6 ((Ans prog 9 [rA [dJ a,dJ b,dJ c,dJ d],rJ w,rJ h] (rT [rJ (cntS ⟨a,b,c,d⟩ w h).1,rJ (cntS ⟨a,b,c,d⟩ w h).2.1,rD (dQ (cntS ⟨a,b,c,d⟩ w h).2.2)]))∧tU2 (tU8 (((!(cntS ⟨a,b,c,d⟩ w h).2.2)=false→tU4 (((decide (i < 0))=false→tU6 (((decide (i≥(wK ((cntS ⟨a,b,c,d⟩ w h).1*(cntS ⟨a,b,c,d⟩ w h).2.1))))=true→tU3 e)∧((decide (i≥(wK ((cntS ⟨a,b,c,d⟩ w h).1*(cntS ⟨a,b,c,d⟩ w h).2.1))))=false→tU4 (g∧tU7 (g∧tU5 ((true=true)∧True∧tU8 (tU8 (rT [rA [dJ j,dJ k,dJ (min (wK (j+w)) c),dJ (min (wK (k+h)) d)],rD (dQ true)]=rT f))))))))∧((decide (i < 0))=(!false)→tU4 e)))∧((!(cntS ⟨a,b,c,d⟩ w h).2.2)=(!false)→tU6 e)))))) ?_
  delta dJ dQ wK rJ
  simp only [sS]
  have ct:=zYV a b c d w h
  unfold zQj
  generalize cntS ⟨a,b,c,d⟩ w h=T at *
  obtain ⟨n1,n2,ok⟩:=T
  simp only at hz ⊢
  cases ok <;> by_cases h1:i < 0 <;> by_cases h2:i≥wrap .i64 (n1*n2) <;> simp [h1,h2,Rc.zero,ct] <;> simp at hz <;> simp [hz,ct] <;> omega
end
set_option maxHeartbeats 4000000
section
attribute [local irreducible] Ans AnsO AnsG AnsN AnsI
end
theorem jU0 (r:Rw) (push:Bool) (n:Int) (c:Rc) (free:Bool) {most:Int} (h0:0≤most) (h1:most≤65535):0≤(gOp r push n c free most).opac:=by
 unfold gOp
 simp only
 split
 ·have:=zYh (wrap .i64 (Int.tdiv r.op 2)) h0 h1
  omega
 ·omega
theorem Scn.run_op0 (s:Scn):∀ k,∀ o∈(s.run k).1,0≤o.opac
 | 0,o,ho=>by cases ho
 | k+1,o,ho=>by
  have hm:0≤s.most∧s.most≤65535:=by rcases s.most_in with h | h <;> rw [h] <;> omega
  have ih:=s.run_op0 k
  have ho:o∈(s.step (rwAt s.rxs (k*11)) (s.run k)).1:=ho
  unfold Scn.step at ho
  split at ho
  ·rcases List.mem_append.1 ho with h | h
   ·exact ih o h
   ·rw [List.mem_singleton] at h
    subst h
    decide
  ·rcases List.mem_append.1 ho with h | h
   ·exact ih o h
   ·rw [List.mem_singleton] at h
    subst h
    exact jU0 _ _ _ _ _ hm.1 hm.2
theorem Scn.op0 (s:Scn):∀ o∈s.ops,0≤o.opac:=fun o ho=>by
 rcases List.mem_append.1 (show o∈(s.run (min s.rn 9)).1++List.replicate (s.run (min s.rn 9)).2.length popO from ho) with h | h
 ·exact s.run_op0 _ o h
 ·rw [List.eq_of_mem_replicate h]
  decide
theorem Scn.px_fine (s:Scn):∀ m∈s.ims,m.formed=true∧∀ p∈m.pixels,p.fine s.most:=by
 have CF:=s.c_facts
 have hq:1≤s.c.c - s.c.a∧s.c.c - s.c.a≤100∧1≤s.c.d - s.c.b∧s.c.d - s.c.b≤100:=by have:=s.facts; omega
 have hm:0≤s.most∧s.most≤65535:=by rcases s.most_in with h | h <;> rw [h] <;> omega
 intro m hmem
 refine ⟨(s.fine m hmem).1,?_⟩
 unfold Scn.ims at hmem
 split at hmem
 ·rw [List.mem_singleton] at hmem
  subst hmem
  have F:=s.facts
  have hf:zQ4 s.gw s.gh=true:=by
   have:=Int.mul_le_mul F.2.2.1.2 F.2.2.2.1.2 (by omega) (by omega)
   simp [zQ4]; omega
  intro p hp
  change p∈(zQd s.gw s.gh ⟨s.most,0,0,s.most,s.most⟩).pixels at hp
  rw [Im.pixels_of (zYj _ hf),Im.list,List.mem_map] at hp
  obtain ⟨k,_,rfl⟩:=hp
  have e:(zQd s.gw s.gh ⟨s.most,0,0,s.most,s.most⟩).nth k=⟨s.most,0,0,s.most,s.most⟩:=by simp [Im.nth,Im.px,zQd]
  change ((zQd s.gw s.gh ⟨s.most,0,0,s.most,s.most⟩).nth k).fine s.most
  rw [e]
  exact ⟨by simp [Px.ok]; omega,by simp only; omega,by simp only; omega,by simp only; omega,by simp only; omega⟩
 ·simp only [Scn.pics,List.mem_map] at hmem
  obtain ⟨k,_,rfl⟩:=hmem
  exact fun p hp=>zGY _ _ _ _ _ _ _ _ _ _ hm.1 hm.2 hq p hp
theorem Im.at_mem {m:Im} (hf:m.formed=true) {x y:Int} (hx:0≤x∧x < m.w) (hy:0≤y∧y < m.h):m.at_ x y∈m.pixels:=by
 have h1:=zXE (Im.formed_of hf).1
 rw [Im.at_in hf hx hy,Im.pixels_of hf,Im.list,List.mem_map]
 have hlt:x.toNat < m.w.toNat:=by omega
 refine ⟨y.toNat*m.w.toNat+x.toNat,?_,?_⟩
 ·rw [List.mem_range]
  have:(y.toNat+1)*m.w.toNat≤m.h.toNat*m.w.toNat:=Nat.mul_le_mul_right _ (by omega)
  rw [Nat.mul_comm m.w.toNat]
  rw [Nat.add_mul] at this
  omega
 ·have e1:(y.toNat*m.w.toNat+x.toNat) % m.w.toNat=x.toNat:=by
   rw [Nat.mul_comm,Nat.mul_add_mod,Nat.mod_eq_of_lt hlt]
  have e2:(y.toNat*m.w.toNat+x.toNat) / m.w.toNat=y.toNat:=by
   rw [Nat.mul_comm,Nat.mul_add_div (by omega),Nat.div_eq_of_lt hlt,Nat.add_zero]
  unfold Im.nth
  rw [e1,e2,Int.toNat_of_nonneg hx.1,Int.toNat_of_nonneg hy.1]
theorem Scn.full (s:Scn):zZZ s.most=true:=by
 rcases s.most_in with h | h <;> rw [h] <;> rfl
theorem Scn.ims_ok (s:Scn):zKg s.most s.ims:=by
 refine ⟨s.full,fun m hm x y=>?_⟩
 obtain ⟨hf,hp⟩:=s.px_fine m hm
 by_cases h:0≤x∧x < m.w∧0≤y∧y < m.h
 ·have:=hp _ (Im.at_mem hf ⟨h.1,h.2.1⟩ ⟨h.2.2.1,h.2.2.2⟩)
  exact ⟨this.1,this.2.1,this.2.2.1,this.2.2.2.1⟩
 ·rw [at_out h]
  exact zVA (by have:=(zZG s.full).1; omega)
theorem Scn.dim_ok (s:Scn):jZu s.ims:=fun m hm=>by
 obtain ⟨hf,⟨h1,h2⟩,_⟩:=s.fine m hm
 have:=zXE (Im.formed_of hf).1
 omega
theorem Scn.bits_most (s:Scn):zQP s.bits=s.most:=s.bits_max.1
theorem Scn.forest (s:Scn):∃ w:Fo,w.vf s.bits s.ims.length []∧s.ops=w.flat:=by
 obtain ⟨w,hw,e⟩:=jJw s.ops_ok
 have h:=s.ops_ok
 rw [e] at h
 exact ⟨w,(zH6 w [] [] hw h).1,e⟩
def Fo.app:Fo→Fo→Fo
 | .nil,g=>g
 | .draw o r,g=>.draw o (r.app g)
 | .grp o k r,g=>.grp o k (r.app g)
theorem zYa:∀ f g:Fo,(f.app g).flat=f.flat++g.flat
 | .nil,g=>rfl
 | .draw o r,g=>by simp [Fo.app,Fo.flat,zYa r g]
 | .grp o k r,g=>by simp [Fo.app,Fo.flat,zYa r g]
theorem jZo:∀ f g:Fo,(f.app g).size=f.size+g.size
 | .nil,g=>by simp [Fo.app,Fo.size]
 | .draw o r,g=>by simp [Fo.app,Fo.size,jZo r g]; omega
 | .grp o k r,g=>by simp [Fo.app,Fo.size,jZo r g]; omega
theorem jXL {bits:Int} {mn:Nat} {st:List Oq}:∀ f g:Fo,(f.app g).vf bits mn st↔f.vf bits mn st∧g.vf bits mn st
 | .nil,g=>by simp [Fo.app,Fo.vf]
 | .draw o r,g=>by simp [Fo.app,Fo.vf,jXL r g,and_assoc]
 | .grp o k r,g=>by simp [Fo.app,Fo.vf,jXL r g,and_assoc]
theorem jZp (s:Scr):∀ (f g:Fo) (n:Nat),boxL s n (f.app g)=boxL s n f++boxL s (n+f.size) g
 | .nil,g,n=>by simp [Fo.app,Fo.size,boxL]
 | .draw o r,g,n=>by
  rw [Fo.app,zWx,zWx,jZp s r g]
  simp only [Fo.size,List.cons_append]
  rw [show n+1+r.size=n+(r.size+1) by omega]
 | .grp o k r,g,n=>by
  rw [Fo.app,zU0,zU0,jZp s r g]
  simp only [Fo.size,List.cons_append,List.append_assoc]
  rw [show n+k.size+2+r.size=n+(k.size+r.size+2) by omega]
theorem zHg:∀ f g h:Fo,(f.app g).app h=f.app (g.app h)
 | .nil,g,h=>rfl
 | .draw o r,g,h=>by simp [Fo.app,zHg r g h]
 | .grp o k r,g,h=>by simp [Fo.app,zHg r g h]
def Fo.one:Fo→Fo × Fo
 | .nil=>(.nil,.nil)
 | .draw o r=>(.draw o .nil,r)
 | .grp o k r=>(.grp o k .nil,r)
theorem jYp:∀ f:Fo,f.one.1.app f.one.2=f
 | .nil=>rfl
 | .draw o r=>rfl
 | .grp o k r=>rfl
theorem Scn.outside (s:Scn) {A E B:Fo} (hv:(A.app (E.app B)).vf s.bits s.ims.length []) (he:s.ops=(A.app (E.app B)).flat) {x y:Int} (hc:s.c.has x y=true) (hb:∀ r∈zQQ s.scr E,r.has x y=false) :
  zKw s.most s.ims x y (A.flat++B.flat)=zKw s.most s.ims x y s.ops:=by
 rw [jXL,jXL] at hv
 obtain ⟨v1,v2,v3⟩:=hv
 have hop:∀ o∈s.ops,0≤o.opac:=s.op0
 rw [he,zYa,zYa] at hop
 obtain ⟨a,e1,h1⟩:=zK0 s.ims_ok s.bits_most x y A [] [] zXe v1 (fun o ho=>hop o (by simp [ho])) (jYL s.full)
 have e2:=zGe (s:=s.scr) s.dim_ok s.ims_ok s.bits_most hc E [] [] _ v2 (fun o ho=>hop o (by simp [ho])) h1 hb
 have key:runM s.most s.ims x y (A.flat++B.flat) [zXe]=runM s.most s.ims x y s.ops [zXe]:=by
  rw [he,zYa,zYa,zYO,zYO,zYO]
  rw [List.nil_append] at e1
  rw [e1]
  change _=runM s.most s.ims x y B.flat (runM s.most s.scr.ims x y E.flat ([]++[_]))
  rw [e2]
 unfold zKw
 rw [key]
def zZz (s:Scr) (r:Rc) (n:Nat):Nat→List Oq
 | 0=>[]
 | k+1=>zZz s r n k++(if zXy s r (n+k) then [opAt s (n+k)] else [])
theorem zKM (s:Scr) (r:Rc) (n a:Nat):∀ b,zZz s r n (a+b)=zZz s r n a++zZz s r (n+a) b
 | 0=>by simp [zZz]
 | b+1=>by
  rw [← Nat.add_assoc,zZz,zZz,zKM s r n a b,List.append_assoc,Nat.add_assoc]
theorem zW3 (s:Scr) (r:Rc) (n b:Nat):zZz s r n (b+1)=(if zXy s r n then [opAt s n] else [])++zZz s r (n+1) b:=by
 rw [Nat.add_comm,zKM]
 simp [zZz]
theorem zW2 (s:Scr) (r:Rc) (n:Nat):∀ b,(∀ p,n≤p→p < n+b→zXy s r p=false)→zZz s r n b=[]
 | 0,_=>rfl
 | b+1,h=>by
  rw [zZz,zW2 s r n b (fun p h1 h2=>h p h1 (by omega)),h (n+b) (by omega) (by omega)]
  rfl
theorem jYB {s:Scr} (h:s.run.1=0) (r:Rc) {p:Nat} (hp:p < s.ops.length):hitB s r p=hit r (boxN s 0 (foOf s) p):=by
 unfold hitB hit
 rw [zKd h hp]
theorem jYn {s:Scr} (h:s.run.1=0) {p:Nat} {o:Oq} (e:(foOf s).flat[p]?=some o):opAt s p=o:=by
 unfold opAt
 rw [(zXm h).2,e]; rfl
theorem jW3 (s:Scr) (r:Rc) (o:Oq) (k:Fo):(Fo.draw o k).act s r=if hit r (boxF s o (imgR s o)) then .draw o (k.act s r) else k.act s r:=by rw [Fo.act]
theorem jGf (s:Scr) (r:Rc) (o:Oq) (g k:Fo):(Fo.grp o g k).act s r=if hit r (boxF s o (zQX (zQQ s g))) then .grp o (g.act s r) (k.act s r) else k.act s r:=by rw [Fo.act]
theorem zGL {s:Scr} (h:s.run.1=0) (r:Rc):∀ (f:Fo) (n:Nat),Occ s (foOf s) n f→(∀ j,j < n→(opAt s j).kind=2→n < enAt s j→hitB s r j=true)→zZz s r n f.size=(f.act s r).flat
 | .nil,n,_,_=>rfl
 | .draw o k,n,ho,hg=>by
  obtain ⟨h1,h2,h3,h4,h5,h6⟩:=ho.draw
  have hl:n < s.ops.length:=by rw [zZF h]; exact h2
  have eo:=jYn h h3
  have ih:=zGL h r k (n+1) h6 (fun j hj hk he=>by
   rcases Nat.lt_or_ge j n with hlt | hge
   ·exact hg j hlt hk (by omega)
   ·have:j=n:=by omega
    subst this
    rw [eo] at hk; omega)
  have ha:zXy s r n=hit r (boxF s o (imgR s o)):=by
   rw [← h5,← jYB h r hl]
   cases hb:hitB s r n with
   | false=>
    cases q:zXy s r n with
    | false=>rfl
    | true=>rw [((zXo s r n).1 q).1] at hb; cases hb
   | true=>exact (zXo s r n).2 ⟨hb,fun j hj hk he=>hg j hj hk he⟩
  rw [Fo.size,zW3,ih,ha,eo]
  rw [jW3]
  cases hit r (boxF s o (imgR s o)) with
  | false=>rfl
  | true=>rfl
 | .grp o g k,n,ho,hg=>by
  obtain ⟨h1,h2,h3,h4,h5,h6,h7,h8,h9,h10⟩:=ho.grp
  have hl:n < s.ops.length:=by rw [zZF h]; omega
  have hl2:n+g.size+1 < s.ops.length:=by rw [zZF h]; exact h2
  have eo:=jYn h h3
  have ep:=jYn h h4
  have en:enAt s n=n+g.size+1:=by rw [(zXn h hl).2,h5]
  have k2:(opAt s n).kind=2:=by rw [eo]; exact h1
  have ha:zXy s r n=hit r (boxF s o (zQX (zQQ s g))):=by
   rw [← h7,← jYB h r hl]
   cases hb:hitB s r n with
   | false=>
    cases q:zXy s r n with
    | false=>rfl
    | true=>rw [((zXo s r n).1 q).1] at hb; cases hb
   | true=>exact (zXo s r n).2 ⟨hb,fun j hj hk he=>hg j hj hk he⟩
  have hp:zXy s r (n+g.size+1)=zXy s r n:=by rw [← en]; exact jYO h r hl k2
  have ih:=zGL h r k (n+g.size+2) h10 (fun j hj hk he=>by
   rcases Nat.lt_or_ge j n with hlt | hge
   ·exact hg j hlt hk (by omega)
   ·rcases Nat.lt_or_ge n j with hnj | hnj
    ·rcases Nat.lt_or_ge j (n+g.size+1) with hin | hin
     ·have:=zWw h hl hnj (by rw [en]; omega)
      omega
     ·have:j=n+g.size+1:=by omega
      subst this
      rw [ep] at hk; cases hk
    ·have:j=n:=by omega
     subst this
     omega)
  rw [Fo.size,show g.size+k.size+2=(1+(g.size+1))+k.size by omega,zKM,show n+(1+(g.size+1))=n+g.size+2 by omega,ih]
  rw [jGf]
  cases hb:hit r (boxF s o (zQX (zQQ s g))) with
  | true=>
   have ha2:zXy s r n=true:=by rw [ha,hb]
   have ig:=zGL h r g (n+1) h9 (fun j hj hk he=>by
    rcases Nat.lt_or_ge j n with hlt | hge
    ·exact hg j hlt hk (by omega)
    ·have:j=n:=by omega
     subst this
     exact ((zXo s r j).1 ha2).1)
   rw [Nat.add_comm 1,zW3,zZz,ig,ha2,show n+1+g.size=n+g.size+1 by omega,hp,ha2,eo,ep]
   simp [Fo.flat]
  | false=>
   rw [zW2 s r n]
   ·rfl
   ·intro p p1 p2
    rcases Nat.lt_or_ge n p with hnp | hnp
    ·rcases Nat.lt_or_ge p (n+g.size+1) with hin | hin
     ·cases q:zXy s r p with
      | false=>rfl
      | true=>
       have:=((zXo s r p).1 q).2 n hnp k2 (by omega)
       rw [jYB h r hl,h7,hb] at this
       cases this
     ·have:p=n+g.size+1:=by omega
      rw [this,hp,ha,hb]
    ·have:p=n:=by omega
     rw [this,ha,hb]
def Scn.left (s:Scn) (r:Rc):List Oq:=zZz s.scr r 0 s.ops.length
def jZa (s:Scr):Fo→Rc
 | .nil=>.zero
 | .draw o r=>boxF s o (imgR s o)
 | .grp o k r=>boxF s o (zQX (zQQ s k))
theorem jGa (s:Scr) (f:Fo) (hn:f≠.nil):zQQ s f.one.1=[jZa s f]:=by
 cases f with
 | nil=>exact absurd rfl hn
 | draw o r=>rfl
 | grp o k r=>rfl
theorem jWX (s:Scr) (f:Fo) (n:Nat) (hn:f≠.nil):(boxL s n f)[0]?=some (jZa s f):=by
 cases f with
 | nil=>exact absurd rfl hn
 | draw o r=>rw [zWx]; rfl
 | grp o k r=>rw [zU0]; rfl
abbrev OutZ:=Fo × Fo × Nat
structure zKY (s:Scn) (z:OutZ):Prop where
  vf:(z.1.app z.2.1).vf s.bits s.ims.length []
  ops:s.ops=(z.1.app z.2.1).flat
theorem zKY.box {s:Scn} {z:OutZ} (h:zKY s z) (hn:z.2.1≠.nil):(zZ1 s.scr).1[z.1.size]?=some (jZa s.scr z.2.1):=by
 have hr:s.scr.run.1=0:=by rw [s.scr_run]
 have e:=jJD (s:=s.scr) (zHJ _ [] h.vf).1 h.ops
 unfold zZ1
 rw [if_pos hr,e,jZp,List.getElem?_append_right (by rw [zXP]; exact Nat.le_refl _),zXP,Nat.sub_self]
 exact jWX _ _ _ hn
theorem zKY.len {s:Scn} {z:OutZ} (h:zKY s z):s.ops.length=z.1.size+z.2.1.size:=by
 rw [h.ops,Fo.flat_len,jZo]
theorem zKY.rest {s:Scn} {z:OutZ} (h:zKY s z):s.ops.drop z.1.size=z.2.1.flat:=by
 rw [h.ops,zYa,← z.1.flat_len]; simp
theorem zKY.next {s:Scn} {A F:Fo} {n m:Nat} (h:zKY s (A,F,n)):zKY s (A.app F.one.1,F.one.2,m):=by
 have e:(A.app F.one.1).app F.one.2=A.app F:=by rw [zHg,jYp]
 exact ⟨by simpa only [e] using h.vf,by simpa only [e] using h.ops⟩
theorem zKY.start (s:Scn) (n:Nat):∃ w:Fo,zKY s (.nil,w,n):=by
 obtain ⟨w,h1,h2⟩:=s.forest
 exact ⟨w,h1,h2⟩
theorem zKY.ok {s:Scn} {z:OutZ} (h:zKY s z):z.2.1.ok:=(zHJ _ [] ((jXL _ _).1 h.vf).2).1
theorem zKY.op {s:Scn} {z:OutZ} (h:zKY s z) {j:Nat} (hj:j < z.2.1.one.1.size) (hl:z.1.size+j < s.ops.length):s.ops[z.1.size+j]=z.2.1.one.1.flat[j]'(by rw [Fo.flat_len]; exact hj):=by
 have hj2:j < z.2.1.one.1.flat.length:=by rw [Fo.flat_len]; exact hj
 have e2:s.ops[z.1.size+j]?=some (z.2.1.one.1.flat[j]):=by
  rw [h.ops,zYa,List.getElem?_append_right (by rw [Fo.flat_len]; omega),Fo.flat_len,Nat.add_sub_cancel_left]
  have e:z.2.1.flat=z.2.1.one.1.flat++z.2.1.one.2.flat:=by rw [← zYa,jYp]
  rw [e,List.getElem?_append_left hj2,List.getElem?_eq_getElem hj2]
 rw [List.getElem?_eq_getElem hl] at e2
 exact Option.some.inj e2
theorem zKY.value {s:Scn} {z:OutZ} (h:zKY s z) (hn:z.2.1≠.nil) {x y:Int} (hc:s.c.has x y=true) (hb:(jZa s.scr z.2.1).has x y=false) :
  zKw s.most s.ims x y (s.ops.take z.1.size++s.ops.drop (z.1.size+z.2.1.one.1.size))=zKw s.most s.ims x y s.ops:=by
 have e:z.2.1=z.2.1.one.1.app z.2.1.one.2:=(jYp _).symm
 have hv:=h.vf
 have ho:=h.ops
 rw [e] at hv ho
 have:=s.outside hv ho hc (fun r hr=>by
  rw [jGa _ _ hn,List.mem_singleton] at hr
  rw [hr]; exact hb)
 rw [← this]
 congr 1
 have l1:=z.1.flat_len
 have l2:=z.2.1.one.1.flat_len
 rw [ho,zYa,zYa,← l1,← l2]
 simp [List.drop_append]
theorem jXf {most:Int}:∀ (l:List Im) (i:Int),(∀ m∈l,m.valid most=0)→(imsE most l i).1=0
 | [],_,_=>rfl
 | m::l,i,h=>by
  simp only [imsE]
  rw [if_pos (h m (by simp))]
  exact jXf l _ fun q hq=>h q (by simp [hq])
def Scn.withOps (s:Scn) (l:List Oq):Scr:=⟨s.bits,s.c,s.gtw,s.gth,s.ord,s.ims,l⟩
theorem Scn.with_check (s:Scn) {l:List Oq} (hl:l.length≤4096) (h:okO s.bits s.ims.length l []=some []):zYE (s.withOps l)=(0,0):=by
 have li:=s.ims_len
 have f:=s.frame_ok (mn:=s.ims.length) (pn:=l.length) (by omega) hl
 have e1:(s.withOps l).frame=0:=f
 have e2:(imsE (zQP (s.withOps l).bits) (s.withOps l).ims 0).1=0:=by
  show (imsE (zQP s.bits) s.ims 0).1=0
  rw [s.bits_most]
  exact jXf _ _ fun m hm=>(s.fine m hm).2.2.1
 have e3:(s.withOps l).run=(0,0):=by
  show opsE s.bits s.c s.gtw s.gth s.ord s.ims.length l=_
  unfold opsE
  rw [if_pos f]
  have:=jX2 l [] 0 [] [] h
  rw [List.append_nil] at this
  rw [this]; rfl
 unfold zYE
 rw [if_pos e1,if_pos e2,e3]
theorem jZY {s:Scr} {m:Int} {n:Nat} {st:List Oq} {L:Nat→List Lv} {o:Oq} {src:List Px} {p:Nat→Px} {x y:Int} (hi:zKg m s.ims) (hst:∀ j,StOk m st (L j)) (h65:st.length≤65)
  (hn:n≤100000) (hm:0≤o.mask∧o.mask≤s.ims.length) (nx:zXd o.mx=true) (ny:zXd o.my=true) (h0:0≤o.opac) (h1:o.opac≤m) (f1:isNm o.oper=true) (f2:isNm o.mode=true) (f3:o.oper=4∨ctxB st=true)
  (hl:src.length=n) (hp:∀ j,(p j).ok m=true∧(p j).nn) (hsrc:∀ j,j < n→pxN src j=p j) (hx:x≤536870912) (hy:y≤536870912) :
  zUd s m (colF n L) o src x y∧zX5 m (colF n L) o src (maR s.ims o x y src.length)=colF n fun j=>zKl m (L j) o (zXg m o (p j) (zKK s.ims o (x+j) y)).1:=by
 obtain ⟨P,t,e,hk,hop⟩:=zV3 hst
 have eL:L=fun j=>P j++[t j]:=funext e
 have hs:∀ j,StOk m st (P j++[t j]):=fun j=>by rw [← e]; exact hst j
 have q:=fun j=>zKB (m:=m) (o:=o) (p:=p j) (mask:=zKK s.ims o (x+j) y) hi.full (hp j).1 (hp j).2 (zW0 hi o (x+j) y).1 (zW0 hi o (x+j) y).2 h0 h1
 have pk:=fun j=>(zWW (hs j) (q j).2.1 (q j).2.2 f1 f2 f3).1
 have nx:=zKI nx
 have ny:=zKI ny
 have ks:∀ j,j < n→zXx (pxN src j) (ksN (maR s.ims o x y src.length) m j) o.opac m=zXg m o (p j) (zKK s.ims o (x+j) y):=fun j hj=>by
  rw [hsrc j hj,hl,jWA hm.1 hj (by omega) (by omega)]
  rfl
 have eT:topF (colF n L)=⟨(t 0).op,rng n fun j=>(t j).acc,rng n fun j=>(t j).back⟩:=by rw [eL,zXw hk,zYc]
 have el:(colF n L).length=st.length+1:=by rw [zYp]; exact (hst 0).len
 refine ⟨⟨⟨by omega,by omega⟩,⟨hm,by omega,by omega⟩,by omega,f1,f2,by rw [eT,hl]; exact zZ7 _ _,by rw [eT,hl]; exact zZ7 _ _,fun j hj=>?_,fun j hj=>?_⟩,?_⟩
 ·rw [ks j (by omega),(q j).1]
 ·have hj:j < n:=by omega
  have e2:pxN (scR m o.opac src (maR s.ims o x y src.length)) j=(zXg m o (p j) (zKK s.ims o (x+j) y)).1:=by
   rw [zY7 (by rw [zJt]; omega),jKO,ks j hj]
  rw [e2,eT]
  simp only [zVS hj,zKF hj]
  have:=pk j
  unfold zUk at this
  rw [zZY,hop j] at this
  exact this
 ·have:=jVO (n:=n) (mk:=maR s.ims o x y src.length) (q:=fun j=>(zXg m o (p j) (zKK s.ims o (x+j) y)).1) hk hop hl (fun j hj=>by rw [ks j hj]) pk
  rw [eL]
  exact this.symm
theorem jUw {s:Scr} {o:Oq} {x y:Int} {n j:Nat} (hk:o.kind=1) (nx:zXd o.x=true) (ny:zXd o.y=true) (hj:j < n) (hn:n≤100000) (hx:x≤536870912) (hy:y≤536870912) :
  pxN (pixR s.ims o.image (x - o.x) (y - o.y) n) j=srcS s.ims o (x+j) y:=by
 have nx:=zKI nx
 have ny:=zKI ny
 exact jV8 hk hj (by omega) (by omega)
theorem jWS {s:Scr} {m bits x y n:Int} {st:List Oq} {L:Nat→List Lv} {o:Oq} (hi:zKg m s.ims) (hb:zQP bits=m) (hst:∀ j,StOk m st (L j)) (h65:st.length≤65) (hk:o.kind=1) (h0:0≤o.opac) (he:errO bits s.ims.length o st=0)
  (hn:0≤n∧n≤100000) (hx:x≤536870912) (hy:y≤536870912) :
  zUd s m (colF n.toNat L) o (pixR s.ims o.image (x - o.x) (y - o.y) n.toNat) x y∧jU4 s m x y n (colF n.toNat L) o=colF n.toNat fun j=>zJr m s.ims (x+j) y (L j) o:=by
 obtain ⟨_,g1,⟨g2,g3,g4,g5⟩,f1,f2,f3,f4,_⟩:=zZm (.inl hk) he
 have r:=jZY (n:=n.toNat) (o:=o) (src:=pixR s.ims o.image (x - o.x) (y - o.y) n.toNat) (p:=fun j=>srcS s.ims o (x+j) y) (x:=x) (y:=y) hi hst h65 (by omega) g1 g4 g5 h0 (by omega) f2 f3 f4 (zJZ _ _ _ _ _)
  (fun j=>jZz hi o (x+j) y) (fun j hj=>jUw hk g2 g3 hj (by omega) hx hy) hx hy
 refine ⟨r.1,?_⟩
 unfold jU4
 rw [r.2]
 congr 1
 funext j
 have ⟨m1,m2⟩:=zW0 hi o (x+j) y
 obtain ⟨e,_,_⟩:=zKB (o:=o) hi.full (jZz hi o (x+j) y).1 (jZz hi o (x+j) y).2 m1 m2 h0 (by omega)
 unfold zJr jWT
 rw [if_pos hk,if_pos ⟨hk,by rw [e]⟩]
theorem jKy {m:Int} {st:List Oq} {L:Nat→List Lv} (n:Nat) (hst:∀ j,StOk m st (L j)) (hn:n≤100000):FrOk m (topF (colF n L))∧(topF (colF n L)).acc.length=n:=by
 obtain ⟨P,t,e,hk,hop⟩:=zV3 hst
 have eL:L=fun j=>P j++[t j]:=funext e
 rw [eL,zXw hk,zYc]
 refine ⟨⟨?_,?_,fun j hj=>?_⟩,zZ7 _ _⟩
 ·show (rng n _).length≤_
  rw [zZ7]; exact hn
 ·show (rng n _).length=(rng n _).length
  rw [zZ7,zZ7]
 ·have hj:j < n:=by
   have:j < (rng n fun j=>(t j).acc).length:=hj
   rwa [zZ7] at this
  show (acN (rng n _) j).ok (pxN (rng n _) j) m=true
  rw [zVS hj,zKF hj]
  have:=(hst j).lv (t j) (by rw [e j]; simp)
  exact this.ok
theorem jUG {s:Scr} {m bits x y:Int} {n:Nat} {st:List Oq} {L:Nat→List Lv} {o:Oq} (hi:zKg m s.ims) (hb:zQP bits=m) (hv:StV bits s.ims.length st) (hst:∀ j,StOk m st (L j)) (h65:st.length≤65) (hk:o.kind=3) (hne:st≠[])
  (hn:n≤100000) (hx:x≤536870912) (hy:y≤536870912) :
  2≤(colF n L).length∧zUd s m (colF n L).dropLast (topF (colF n L)).op (rsR m (topF (colF n L)).acc (topF (colF n L)).back) x y∧popF s m x y (colF n L)=colF n fun j=>zJr m s.ims (x+j) y (L j) o:=by
 rcases List.eq_nil_or_concat st with rfl | ⟨st',c,rfl⟩
 ·exact absurd rfl hne
 rw [List.concat_eq_append] at *
 obtain ⟨P,t,e,hkl,hop⟩:=zV3 hst
 have eL:L=fun j=>P j++[t j]:=funext e
 have hs:∀ j,StOk m (st'++[c]) (P j++[t j]):=fun j=>by rw [← e]; exact hst j
 obtain ⟨q1,q2⟩:=hv st' c [] rfl
 obtain ⟨_,g1,⟨g2,g3,g4,g5⟩,f1,f2,f3,f4,_⟩:=zZm (.inr q1) q2
 have hc:=fun j=>(hs j).pre
 have ho:=(hs 0).opac c (by simp)
 have et:(t 0).op=c:=(hc 0).1
 have ru:=fun j=>zGm ((hs j).lv (t j) (by simp))
 have hlen:st'.length≤65:=by rw [List.length_append] at h65; omega
 have eT:colF n L=colF n P++[⟨(t 0).op,rng n fun j=>(t j).acc,rng n fun j=>(t j).back⟩]:=by rw [eL,zXw hkl]
 have lR:(rsR m (rng n fun j=>(t j).acc) (rng n fun j=>(t j).back)).length=n:=by rw [zWM,zZ7]
 have r:=jZY (n:=n) (o:=c) (src:=rsR m (rng n fun j=>(t j).acc) (rng n fun j=>(t j).back)) (p:=fun j=>zZU (t j).acc (t j).back m) (x:=x) (y:=y) hi (fun j=>(hc j).2) hlen hn g1 g4 g5 ho.1 ho.2 f2 f3 f4 lR
  ru (fun j hj=>by rw [zY7 (by rw [lR]; exact hj),jKR,zVS hj,zKF hj]) hx hy
 have hl:(colF n L).length=(colF n P).length+1:=by rw [eT,List.length_append]; rfl
 have hP:1≤(colF n P).length:=by rw [zYp,hkl,List.length_append]; simp
 rw [eT,List.dropLast_concat,zYc]
 refine ⟨by rw [List.length_append]; simp; omega,by rw [et]; exact r.1,?_⟩
 unfold popF
 rw [List.dropLast_concat,zYc]
 simp only
 rw [et,r.2]
 congr 1
 funext j
 obtain ⟨P',u,e'⟩:=(hc j).2.split
 have:=jZW (x:=x+j) (y:=y) (ms:=s.ims) hi (by rw [← e']; exact hs j) f2 f3 f4
 rw [jZy hk,e,e',this.1]
theorem jVk (s:Scr) (r:Rc) (i:Nat):zZz s r 0 (i+1)=zZz s r 0 i++(if zXy s r i then [opAt s i] else []):=by rw [zZz,Nat.zero_add]
theorem jKQ (m:Int) (ms:List Im) (x y:Int) (l:List Oq) (o:Oq) (L:List Lv):runM m ms x y (l++[o]) L=zJr m ms x y (runM m ms x y l L) o:=by rw [zYO]; rfl
theorem jJf {s:Scr} {i:Nat} (h:i < s.ops.length):opAt s i=s.ops[i]:=by unfold opAt; rw [List.getElem?_eq_getElem h]; rfl
theorem jJi {bits:Int} {mn:Nat}:∀ {l st st':List Oq},okO bits mn l st=some st'→st.length≤64→st'.length≤64
 | [],st,st',h,hl=>by simp only [okO,Option.some.injEq] at h; subst h; exact hl
 | o::l,st,st',h,hl=>by
  simp only [okO] at h
  split at h
  ·rename_i he
   refine jJi h ?_
   rcases zJa he with hk | hk | ⟨hk,_⟩
   ·rw [zV2 hk]; exact hl
   ·rw [zV1 hk,List.length_append]
    have:=(zZm (.inr hk) he).2.2.2.2.2.2.2 hk
    simp; omega
   ·have hk:o.kind=3:=by rw [hk]; rfl
    unfold zXr
    rw [if_neg (by omega),if_pos hk,List.length_dropLast]; omega
  ·cases h
structure zYb (s:Scr) (m:Int):Prop where
  run:s.run.1=0
  ims:zKg m s.ims
  most:zQP s.bits=m
  opac:∀ o∈s.ops,0≤o.opac
theorem zYb.opAt0 {s:Scr} {m:Int} (h:zYb s m) (p:Nat):0≤(opAt s p).opac:=by
 unfold opAt
 rcases Nat.lt_or_ge p s.ops.length with h1 | h1
 ·rw [List.getElem?_eq_getElem h1]; exact h.opac _ (List.getElem_mem h1)
 ·rw [List.getElem?_eq_none h1]; decide
theorem zYb.kept0 {s:Scr} {m:Int} (h:zYb s m) (r:Rc) (n:Nat):∀ k,∀ o∈zZz s r n k,0≤o.opac
 | 0,o,ho=>by simp [zZz] at ho
 | k+1,o,ho=>by
  rw [zZz] at ho
  rcases List.mem_append.1 ho with ho | ho
  ·exact h.kept0 r n k o ho
  ·split at ho
   ·rw [List.mem_singleton.1 ho]; exact h.opAt0 _
   ·simp at ho
theorem zYb.kept {s:Scr} {m:Int} (h:zYb s m) (r:Rc):okO s.bits s.ims.length (zZz s r 0 s.ops.length) []=some []:=by
 obtain ⟨ok,e⟩:=zXm h.run
 have ho:=(zY5 h.run).2
 have h1:okO s.bits s.ims.length (foOf s).flat []=some []:=by
  rw [← e]; exact ho
 have h2:=zGL h.run r (foOf s) 0 (Occ.whole s ok) (fun j hj=>by omega)
 rw [← zZF h.run] at h2
 rw [h2]
 exact (zHJ _ [] (jQp s r (foOf s) [] (zH6 _ [] [] ok h1).1)).2
theorem zYb.at_ {s:Scr} {m:Int} (h:zYb s m) (r:Rc) {i:Nat} (hi:i≤s.ops.length):∃ st,okO s.bits s.ims.length (zZz s r 0 i) []=some st∧okO s.bits s.ims.length (zZz s r i (s.ops.length - i)) st=some []∧st.length≤64∧StV s.bits s.ims.length st ∧
  ∀ x y,StOk m st (runM m s.ims x y (zZz s r 0 i) [zXe]):=by
 have e:=zKM s r 0 i (s.ops.length - i)
 rw [Nat.zero_add,show i+(s.ops.length - i)=s.ops.length by omega] at e
 have hk:=h.kept r
 rw [e,zJv] at hk
 cases hs:okO s.bits s.ims.length (zZz s r 0 i) [] with
 | none=>rw [hs] at hk; cases hk
 | some st=>
  rw [hs] at hk
  have rp:=fun x y=>jKP h.ims h.most x y (zZz s r 0 i) [] st [zXe] hs (h.kept0 r 0 i) .nil (jYL h.ims.full)
  exact ⟨st,rfl,hk,jJi hs (by simp),(rp 0 0).1,fun x y=>(rp x y).2⟩
theorem zUV {s:Scr} {r:Rc} {i:Nat} {st:List Oq} (hi:i < s.ops.length) (ha:zXy s r i=true) (h:okO s.bits s.ims.length (zZz s r i (s.ops.length - i)) st=some []):errO s.bits s.ims.length (opAt s i) st=0:=by
 rw [show s.ops.length - i=(s.ops.length - i - 1)+1 by omega,zW3,if_pos ha,List.singleton_append] at h
 simp only [okO] at h
 split at h
 ·assumption
 ·cases h
def jW6 (s:Scr) (r:Rc) (k:Nat):Prop:=∀ j,j < k→(opAt s j).kind=2→k≤enAt s j→hitB s r j=true
theorem jW6.live {s:Scr} {r:Rc} {k:Nat} (h:jW6 s r k):Live s r k:=fun j h1 h2 h3=>h j h1 h2 (by omega)
structure zHl (s:Scr) (r:Rc) (m x y n:Int) (q:Nat × List Fr):Prop where
  le:q.1≤s.ops.length
  live:jW6 s r q.1
  fr:q.2=colF n.toNat fun j=>runM m s.ims (x+j) y (zZz s r 0 q.1) [zXe]
theorem jK3 {s:Scr} {r:Rc} {i:Nat} (hv:s.run.1=0) (hi:i < s.ops.length) (hl:jW6 s r i) (hk:(opAt s i).kind=3):zXy s r i=true:=by
 rcases jZ2 hv hi with h | h | ⟨_,q,q1,q2,q3,_⟩
 ·omega
 ·omega
 ·have hq:q < s.ops.length:=by omega
  have:=jYO hv r hq q2
  rw [q3] at this
  rw [this,zXo]
  refine ⟨hl q q1 q2 (by omega),fun j hj h2 h3=>?_⟩
  have:=zWw hv (by omega:j < s.ops.length) hj (by omega)
  exact hl j (by omega) h2 (by omega)
theorem jGg {s:Scr} {r:Rc} (hv:s.run.1=0) {i:Nat} (hi:i < s.ops.length):(actL s r)[i]?=some (zXy s r i):=by
 unfold actL zZ0
 rw [if_pos hv]
 simp [hi]
theorem jGe {s:Scr} {r:Rc} (hv:s.run.1=0):(actL s r).length=s.ops.length:=by
 unfold actL zZ0
 rw [if_pos hv]
 simp
section
variable {s:Scr} {r:Rc} {m x y n:Int} {q:Nat × List Fr}
theorem zHl.start (hc:zYb s m):zHl s r m x y n (0,[zUv n.toNat]):=by
 refine ⟨Nat.zero_le _,fun j hj=>by omega,?_⟩
 show [zUv n.toNat]=colF n.toNat fun j=>[zXe]
 rw [jVP]
theorem zHl.good (hc:zYb s m) (h:zHl s r m x y n q) (hi:q.1 < s.ops.length) (hn:0≤n∧n≤100000) (hx:x≤536870912) (hy:y≤536870912) :
  jV4 s m (zQY s.ops).1 (actL s r) x y n q (opAt s q.1)∧zHl s r m x y n (zHu s m (zQY s.ops).1 (actL s r) x y n q (opAt s q.1)):=by
 obtain ⟨i,F⟩:=q
 obtain ⟨hle,hl,hF⟩:=h
 simp only at hi hle hl hF ⊢
 subst hF
 obtain ⟨st,s1,s2,s3,s4,s5⟩:=hc.at_ r hle
 have s5:∀ j:Nat,StOk m st (runM m s.ims (x+j) y (zZz s r 0 i) [zXe]):=fun j=>s5 _ _
 have el:(colF n.toNat fun j=>runM m s.ims (x+j) y (zZz s r 0 i) [zXe]).length=st.length+1:=by rw [zYp]; exact (s5 0).len
 have tr:=jKy n.toNat s5 (by omega)
 have ei:=zUa hc.run hi
 have ag:=jGg (r:=r) hc.run hi
 have eg:=jYI hc.run hi
 have hkd:=jZ2 hc.run hi
 have ho:=hc.opAt0 i
 have pop:(opAt s i).kind=3→_:=fun hk=>jUG (x:=x) (y:=y) (n:=n.toNat) (o:=opAt s i) hc.ims hc.most s4 s5 (by omega) hk (by
  have he:=zUV hi (jK3 hc.run hi hl hk) s2
  rcases zJa he with q | q | ⟨_,q⟩
  ·omega
  ·omega
  ·exact q) (by omega) hx hy
 have drw:(opAt s i).kind=1→zXy s r i=true→_:=fun hk ha=>jWS (x:=x) (y:=y) (n:=n) (o:=opAt s i) hc.ims hc.most s5 (by omega) hk ho (zUV hi ha s2) hn hx hy
 have grow:zXy s r i=true→∀ j:Nat,runM m s.ims (x+j) y (zZz s r 0 (i+1)) [zXe]=zJr m s.ims (x+j) y (runM m s.ims (x+j) y (zZz s r 0 i) [zXe]) (opAt s i):=fun ha j=>by
  rw [jVk,if_pos ha,jKQ]
 refine ⟨⟨⟨by show 1≤(colF _ _).length; omega,by show (colF _ _).length≤65; omega⟩,tr.1,fun hk=>?_,fun _=>by rw [jGe hc.run]; exact hi,fun _ ha=>⟨enAt s i,eg,ei.1,ei.2⟩,fun k3 k2 ha=>?_⟩,?_⟩
 ·obtain ⟨a,b,_⟩:=pop hk
  exact ⟨a,b⟩
 ·have ha:zXy s r i=true:=by
   rw [ag] at ha; injection ha
  have k1:(opAt s i).kind=1:=by
   rcases hkd with h | h | ⟨h,_⟩
   ·exact h
   ·exact absurd h k2
   ·exact absurd h k3
  obtain ⟨g0,_,⟨g2,g3,_,_⟩,_⟩:=zZm (.inl k1) (zUV hi ha s2)
  have g2:=zKI g2
  have g3:=zKI g3
  exact ⟨(drw k1 ha).1,g0 k1,⟨by omega,by omega⟩,by omega,by omega⟩
 ·unfold zHu
  simp only [ag,eg,Option.getD_some]
  by_cases k3:(opAt s i).kind=3
  ·have ha:=jK3 hc.run hi hl k3
   rw [if_pos k3,(pop k3).2.2]
   refine ⟨hi,fun j hj h2 h3=>?_,?_⟩
   ·show hitB s r j=true
    have h3:i+1≤enAt s j:=h3
    rcases Nat.lt_or_ge j i with c | c
    ·exact hl j c h2 (by omega)
    ·have:j=i:=by have:j < i+1:=hj; omega
     subst this; omega
   ·show colF n.toNat _=colF n.toNat _
    simp only [grow ha]
  ·rw [if_neg k3]
   cases ha:zXy s r i with
   | false=>
    rw [if_pos rfl]
    have en:((enAt s i:Nat):Int).toNat=enAt s i:=by omega
    have none_:zZz s r 0 (enAt s i+1)=zZz s r 0 i:=by
     have e:=zKM s r 0 i (enAt s i+1 - i)
     rw [Nat.zero_add,show i+(enAt s i+1 - i)=enAt s i+1 by omega] at e
     rw [e,zW2 s r i (enAt s i+1 - i) (fun p p1 p2=>?_),List.append_nil]
     rcases Nat.lt_or_ge i p with c | c
     ·have k2:(opAt s i).kind=2:=by
       rcases hkd with h | h | ⟨h,_⟩
       ·have:=jVK hc.run hi (by omega); omega
       ·exact h
       ·exact absurd h k3
      have hb:hitB s r i=false:=by rw [← zWj hl.live]; exact ha
      rcases Nat.lt_or_ge p (enAt s i) with c2 | c2
      ·cases hp:zXy s r p with
       | false=>rfl
       | true=>
        have:=((zXo s r p).1 hp).2 i c k2 c2
        rw [hb] at this; cases this
      ·have:p=enAt s i:=by omega
       rw [this,jYO hc.run r hi k2,ha]
     ·have:p=i:=by omega
      rw [this,ha]
    refine ⟨by show (_:Int).toNat+1≤_; omega,fun j hj h2 h3=>?_,?_⟩
    ·have hj:j < ((enAt s i:Nat):Int).toNat+1:=hj
     have h3:((enAt s i:Nat):Int).toNat+1≤enAt s j:=h3
     rcases Nat.lt_trichotomy j i with c | c | c
     ·exact hl j c h2 (by omega)
     ·subst c; omega
     ·have:=zWw hc.run hi c (by omega)
      omega
    ·show colF n.toNat _=colF n.toNat _
     simp only [en,none_]
   | true=>
    rw [if_neg (by decide)]
    by_cases k2:(opAt s i).kind=2
    ·rw [if_pos k2]
     obtain ⟨P,t,e,hk,hop⟩:=zV3 s5
     have d64:=(zZm (.inr k2) (zUV hi ha s2)).2.2.2.2.2.2.2 k2
     have cp:=jWW (n:=n.toNat) (o:=opAt s i) hk hop k2 d64
     refine ⟨hi,fun j hj h2 h3=>?_,?_⟩
     ·have h3:i+1≤enAt s j:=h3
      rcases Nat.lt_or_ge j i with c | c
      ·exact hl j c h2 (by omega)
      ·have:j=i:=by have:j < i+1:=hj; omega
       subst this
       exact ((zXo s r j).1 ha).1
     ·show zKr (colF n.toNat _) _=colF n.toNat _
      simp only [grow ha]
      have e1:(fun j:Nat=>runM m s.ims (x+j) y (zZz s r 0 i) [zXe])=fun j=>P j++[t j]:=funext e
      have e2:(fun j:Nat=>zJr m s.ims (x+j) y (runM m s.ims (x+j) y (zZz s r 0 i) [zXe]) (opAt s i))=fun j=>jJX (P j++[t j]) (opAt s i):=funext fun j=>by
       rw [e j]; unfold zJr
       rw [if_neg (by omega),if_pos k2]
      rw [e1,e2,cp]
    ·rw [if_neg k2]
     have k1:(opAt s i).kind=1:=by
      rcases hkd with h | h | ⟨h,_⟩
      ·exact h
      ·exact absurd h k2
      ·exact absurd h k3
     rw [(drw k1 ha).2]
     refine ⟨hi,fun j hj h2 h3=>?_,?_⟩
     ·have h3:i+1≤enAt s j:=h3
      rcases Nat.lt_or_ge j i with c | c
      ·exact hl j c h2 (by omega)
      ·have:j=i:=by have:j < i+1:=hj; omega
       subst this; omega
     ·show colF n.toNat _=colF n.toNat _
      simp only [grow ha]
end
section
variable {s:Scr} {r:Rc} {m x y n:Int}
theorem zGi (hc:zYb s m) (hn:0≤n∧n≤100000) (hx:x≤536870912) (hy:y≤536870912):∀ k,zHl s r m x y n (zQT s m (zQY s.ops).1 (actL s r) x y n k)
 | 0=>zHl.start hc
 | k+1=>by
  have ih:=zGi hc hn hx hy k
  rw [zK1]
  rcases Nat.lt_or_ge (zQT s m (zQY s.ops).1 (actL s r) x y n k).1 s.ops.length with h | h
  ·rw [zWN h,← jJf h]
   exact (ih.good hc h hn hx hy).2
  ·rw [zGh h]; exact ih
theorem jYY (hc:zYb s m) (hn:0≤n∧n≤100000) (hx:x≤536870912) (hy:y≤536870912):∀ k o,s.ops[(zQT s m (zQY s.ops).1 (actL s r) x y n k).1]?=some o→jV4 s m (zQY s.ops).1 (actL s r) x y n (zQT s m (zQY s.ops).1 (actL s r) x y n k) o:=fun k o ho=>by
 have ih:=zGi hc hn hx hy (r:=r) k
 obtain ⟨h,e⟩:=List.getElem?_eq_some_iff.1 ho
 rw [← e,← jJf h]
 exact (ih.good hc h hn hx hy).1
theorem jZE (hc:zYb s m) (hn:0≤n∧n≤100000) (hx:x≤536870912) (hy:y≤536870912):zYw s m (zQY s.ops).1 (actL s r) x y n=colF n.toNat fun j=>runM m s.ims (x+j) y (zZz s r 0 s.ops.length) [zXe]:=by
 have ih:=zGi hc hn hx hy (r:=r) s.ops.length
 have hg:=jQE (jYY hc hn hx hy (r:=r)) s.ops.length
 have hl:=ih.le
 have e:(zQT s m (zQY s.ops).1 (actL s r) x y n s.ops.length).1=s.ops.length:=by omega
 have hf:=ih.fr
 rw [e] at hf
 exact hf
theorem jJn (hc:zYb s m) (r:Rc) (x y:Int):StOk m [] (runM m s.ims x y (zZz s r 0 s.ops.length) [zXe]):=by
 obtain ⟨st,s1,s2,_,_,s5⟩:=hc.at_ r (Nat.le_refl _)
 have:=hc.kept r
 rw [this] at s1
 injection s1 with s1
 subst s1
 exact s5 x y
theorem jWc (hc:zYb s m) (hn:0≤n∧n≤100000) (hx:x≤536870912) (hy:y≤536870912):zHm s m (zQY s.ops).1 (actL s r) x y n:=by
 have he:=jZE hc hn hx hy (r:=r)
 have hs:∀ j:Nat,StOk m [] (runM m s.ims (x+j) y (zZz s r 0 s.ops.length) [zXe]):=fun j=>jJn hc r (x+j) y
 have t:=jKy n.toNat hs (by omega)
 have l:(colF n.toNat fun j=>runM m s.ims (x+j) y (zZz s r 0 s.ops.length) [zXe]).length=1:=by rw [zYp]; exact (hs 0).len
 have e:frN (colF n.toNat fun j=>runM m s.ims (x+j) y (zZz s r 0 s.ops.length) [zXe]) 0=topF (colF n.toNat fun j=>runM m s.ims (x+j) y (zZz s r 0 s.ops.length) [zXe]):=by
  unfold frN topF
  rw [l]
 refine ⟨jYY hc hn hx hy,⟨by rw [he,l]; omega,by rw [he,l]; omega,by rw [he,e]; exact t.1⟩,by rw [he,e]; exact t.2⟩
theorem jKS (hc:zYb s m) (hn:0≤n∧n≤100000) (hx:x≤536870912) (hy:y≤536870912) {j:Nat} (hj:j < n.toNat):pxN (zYv s m (zQY s.ops).1 (actL s r) x y n) j=zKw m s.ims (x+j) y (zZz s r 0 s.ops.length):=by
 have he:=jZE hc hn hx hy (r:=r)
 have hs:∀ j:Nat,StOk m [] (runM m s.ims (x+j) y (zZz s r 0 s.ops.length) [zXe]):=fun j=>jJn hc r (x+j) y
 obtain ⟨P,t,e,hk,hop⟩:=zV3 hs
 have eP:∀ j,P j=[]:=fun j=>List.eq_nil_of_length_eq_zero (by rw [hk]; rfl)
 have eL:(fun j:Nat=>runM m s.ims (x+j) y (zZz s r 0 s.ops.length) [zXe])=fun j=>P j++[t j]:=funext e
 have e0:frN (colF n.toNat fun j=>P j++[t j]) 0=⟨(t 0).op,rng n.toNat fun j=>(t j).acc,rng n.toNat fun j=>(t j).back⟩:=by
  rw [zXw hk]
  have:colF n.toNat P=[]:=List.eq_nil_of_length_eq_zero (by rw [zYp,hk]; rfl)
  rw [this]; rfl
 unfold zYv
 rw [he,eL,e0]
 have lR:(rsR m (rng n.toNat fun j=>(t j).acc) (rng n.toNat fun j=>(t j).back)).length=n.toNat:=by rw [zWM,zZ7]
 rw [zY7 (by rw [lR]; exact hj),jKR,zVS hj,zKF hj]
 unfold zKw
 simp only [e j,eP j,List.nil_append]
 have ok:=((hs j).lv (t j) (by rw [e j]; simp)).ok
 rw [if_neg (by simp)]
 show _=resL m (t j)
 unfold resL resB
 rw [if_pos ok]
theorem jZX (hc:zYb s m) (hw:0≤r.c - r.a∧r.c - r.a≤1000) (hh:r.d - r.b≤1000) (h1 : -536870912≤r.a∧r.a≤536870912) (h2 : -536870912≤r.b∧r.d≤536870912):zVz s m (zQY s.ops).1 r:=
 ⟨fun k hk=>by unfold zQt at hk; exact jWc hc ⟨hw.1,by omega⟩ h1.2 (by omega),hw,hh,h1,h2⟩
theorem jJ2 (hc:zYb s m) (hw:0≤r.c - r.a∧r.c - r.a≤1000) (hh:r.d - r.b≤1000) (h1 : -536870912≤r.a∧r.a≤536870912) (h2 : -536870912≤r.b∧r.d≤536870912) {u v:Nat} (hu:u < (r.c - r.a).toNat) (hv:v < zQt r) :
  pxN (zZs s m (zQY s.ops).1 r (zQt r)) (v*(r.c - r.a).toNat+u)=zKw m s.ims (r.a+u) (r.b+v) (zZz s r 0 s.ops.length):=by
 rw [jJa (jZX hc hw hh h1 h2) (zQt r) (Nat.le_refl _) v u hv hu]
 unfold zQt at hv
 exact jKS hc ⟨hw.1,by omega⟩ h1.2 (by omega) hu
end
theorem jVr {w h:Int} {l:List Px} (hk:ofOk w h l.length=true) {x y:Int} (hx:0≤x∧x < w) (hy:0≤y∧y < h):(imOf w h l).at_ x y=pxN l (y*w+x).toNat:=by
 have hf:=zVH hk
 rw [zVI hk]
 have e:(l.length:Int)=w*h:=by
  unfold ofOk at hk
  rw [Bool.and_eq_true] at hk
  exact of_decide_eq_true hk.2
 have h1:(y+1)*w≤h*w:=Int.mul_le_mul_of_nonneg_right (by omega) (by omega)
 rw [Int.add_mul,Int.one_mul] at h1
 have h2:h*w=w*h:=Int.mul_comm _ _
 have h0:0≤y*w:=Int.mul_nonneg (by omega) (by omega)
 have hl:(y*w+x).toNat < l.length:=by omega
 unfold Im.at_
 have c:((ofIm w h l).formed && decide (0≤x) && decide (x < (ofIm w h l).w) && decide (0≤y) && decide (y < (ofIm w h l).h))=true:=by
  rw [hf]
  have a:x < (ofIm w h l).w:=hx.2
  have b:y < (ofIm w h l).h:=hy.2
  simp [hx.1,hy.1,a,b]
 rw [if_pos c,jVa hl,zY7 hl]
theorem jVL {a w:Int} (h0:0≤a) (hw:0 < w):0≤a / w∧a / w*w≤a∧a < a / w*w+w:=by
 have h1:=Int.emod_nonneg a (by omega:w≠0)
 have h2:=Int.emod_lt_of_pos a hw
 have h3:=Int.emod_add_mul_ediv a w
 rw [Int.mul_comm] at h3
 exact ⟨Int.ediv_nonneg h0 (by omega),by omega,by omega⟩
theorem zUP {W t:Int} (h1:1≤t) (h2:t≤W):1≤(W+t - 1) / t∧(W+t - 1) / t≤W∧W≤(W+t - 1) / t*t∧((W+t - 1) / t - 1)*t≤W - 1:=by
 obtain ⟨a,b,c⟩:=jVL (a:=W+t - 1) (w:=t) (by omega) (by omega)
 generalize (W+t - 1) / t=n at *
 have h3:(n - 1)*t=n*t - t:=by rw [Int.sub_mul,Int.one_mul]
 refine ⟨?_,?_,by omega,by omega⟩
 ·rcases Int.lt_or_le n 1 with h | h
  ·have:=Int.mul_le_mul_of_nonneg_right (show n≤0 by omega) (show 0≤t by omega)
   rw [Int.zero_mul] at this; omega
  ·exact h
 ·rcases Int.lt_or_le W n with h | h
  ·have q:=Int.mul_le_mul_of_nonneg_right (show W+1≤n by omega) (show 0≤t by omega)
   rw [Int.add_mul,Int.one_mul] at q
   have r:=Int.mul_le_mul_of_nonneg_left h1 (show 0≤W by omega)
   rw [Int.mul_one] at r; omega
  ·exact h
structure Neat (s:Scr):Prop where
  chk:zYE s=(0,0)
  ims:zKg (zQP s.bits) s.ims
  dim:jZu s.ims
  opac:∀ o∈s.ops,0≤o.opac
  w:1≤s.c.c - s.c.a∧s.c.c - s.c.a≤1000
  h:1≤s.c.d - s.c.b∧s.c.d - s.c.b≤1000
  at_:(-268435456≤s.c.a∧s.c.a≤268435456) ∧ -268435456≤s.c.b∧s.c.b≤268435456
section
variable {s:Scr} (hn:Neat s)
include hn
theorem Neat.frame:s.frame=0:=by
 have h:=hn.chk
 unfold zYE at h
 split at h
 ·assumption
 ·rename_i hf
  exact absurd (congrArg Prod.fst h) hf
theorem Neat.run:s.run.1=0:=by
 have h:=hn.chk
 unfold zYE at h
 rw [if_pos hn.frame] at h
 split at h
 ·exact congrArg Prod.fst h
 ·rename_i hf
  exact absurd (congrArg Prod.fst h) hf
theorem Neat.ctx:zYb s (zQP s.bits):=⟨hn.run,hn.ims,rfl,hn.opac⟩
theorem Neat.parts:(cntS s.c s.tw s.th).2.2=true∧zZC s.ord (jXV s)=true∧s.ims.length≤64∧s.ops.length≤4096:=by
 have h:=hn.frame
 unfold Scr.frame zXl at h
 split at h
 ·cases h
 split at h
 ·cases h
 split at h
 ·cases h
 rename_i h3
 split at h
 ·cases h
 rename_i h4
 split at h
 ·cases h
 rename_i h5
 refine ⟨by simpa using h3,?_,by omega,by omega⟩
 have h4:¬ zZC s.ord (jXV s)=false:=h4
 simpa using h4
theorem Neat.sides:(1≤s.tw∧s.tw≤s.c.c - s.c.a)∧(1≤s.th∧s.th≤s.c.d - s.c.b)∧(cntS s.c s.tw s.th).1=(s.c.c - s.c.a+s.tw - 1) / s.tw∧(cntS s.c s.tw s.th).2.1=(s.c.d - s.c.b+s.th - 1) / s.th:=by
 obtain ⟨w1,w2⟩:=hn.w
 obtain ⟨h1,h2⟩:=hn.h
 obtain ⟨⟨a1,a2⟩,a3,a4⟩:=hn.at_
 have wW:wrap .i64 (s.c.c - s.c.a)=s.c.c - s.c.a:=IntWalk.i64_in _ ⟨by omega,by omega⟩
 have wH:wrap .i64 (s.c.d - s.c.b)=s.c.d - s.c.b:=IntWalk.i64_in _ ⟨by omega,by omega⟩
 have hp:=hn.parts.1
 have e:(if s.c.empty then (0,0,false)
  else if s.tw < 1∨wrap .i64 (s.c.c - s.c.a) < s.tw∨s.th < 1∨wrap .i64 (s.c.d - s.c.b) < s.th then (0,0,false)
  else (wrap .i64 (Int.tdiv (wrap .i64 (wrap .i64 (wrap .i64 (s.c.c - s.c.a)+s.tw) - 1)) s.tw),wrap .i64 (Int.tdiv (wrap .i64 (wrap .i64 (wrap .i64 (s.c.d - s.c.b)+s.th) - 1)) s.th),true))=cntS s.c s.tw s.th:=rfl
 rw [wW,wH] at e
 rw [← e] at hp ⊢
 split at hp
 ·cases hp
 rename_i q1
 split at hp
 ·cases hp
 rename_i q2
 have t1:1≤s.tw∧s.tw≤s.c.c - s.c.a:=by omega
 have t2:1≤s.th∧s.th≤s.c.d - s.c.b:=by omega
 have b1:=zUP t1.1 t1.2
 have b2:=zUP t2.1 t2.2
 rw [if_neg q1,if_neg q2]
 refine ⟨t1,t2,?_,?_⟩
 ·show wrap .i64 _=_
  rw [IntWalk.i64_in (s.c.c - s.c.a+s.tw) ⟨by omega,by omega⟩,IntWalk.i64_in (s.c.c - s.c.a+s.tw - 1) ⟨by omega,by omega⟩,Int.tdiv_eq_ediv_of_nonneg (by omega),IntWalk.i64_in _ ⟨by omega,by omega⟩]
 ·show wrap .i64 _=_
  rw [IntWalk.i64_in (s.c.d - s.c.b+s.th) ⟨by omega,by omega⟩,IntWalk.i64_in (s.c.d - s.c.b+s.th - 1) ⟨by omega,by omega⟩,Int.tdiv_eq_ediv_of_nonneg (by omega),IntWalk.i64_in _ ⟨by omega,by omega⟩]
end
def zY6 (s:Scr) (nx i:Int):Rc:=⟨s.c.a+i % nx*s.tw,s.c.b+i / nx*s.th,min (s.c.a+i % nx*s.tw+s.tw) s.c.c,min (s.c.b+i / nx*s.th+s.th) s.c.d⟩
section
variable {s:Scr} (hn:Neat s)
include hn
theorem Neat.num:∃ nx ny:Int,(cntS s.c s.tw s.th).1=nx∧(cntS s.c s.tw s.th).2.1=ny∧(1≤nx∧nx≤1000∧s.c.c - s.c.a≤nx*s.tw∧(nx - 1)*s.tw≤s.c.c - s.c.a - 1)∧(1≤ny∧ny≤1000∧s.c.d - s.c.b≤ny*s.th∧(ny - 1)*s.th≤s.c.d - s.c.b - 1)∧jXV s=nx*ny∧1≤nx*ny∧nx*ny≤1000000:=by
 obtain ⟨t1,t2,e1,e2⟩:=hn.sides
 obtain ⟨a1,a2,a3,a4⟩:=zUP t1.1 t1.2
 obtain ⟨b1,b2,b3,b4⟩:=zUP t2.1 t2.2
 have w2:=hn.w.2
 have h2:=hn.h.2
 have m1:1*1≤(s.c.c - s.c.a+s.tw - 1) / s.tw*((s.c.d - s.c.b+s.th - 1) / s.th):=Int.mul_le_mul a1 b1 (by omega) (by omega)
 have m2:(s.c.c - s.c.a+s.tw - 1) / s.tw*((s.c.d - s.c.b+s.th - 1) / s.th)≤1000*1000:=Int.mul_le_mul (by omega) (by omega) (by omega) (by omega)
 refine ⟨_,_,e1,e2,⟨a1,by omega,a3,a4⟩,⟨b1,by omega,b3,b4⟩,?_,by omega,by omega⟩
 unfold jXV
 rw [e1,e2,IntWalk.i64_in _ ⟨by omega,by omega⟩]
theorem Neat.rect {nx ny:Int} (e1:(cntS s.c s.tw s.th).1=nx) (e2:(cntS s.c s.tw s.th).2.1=ny) (n1:1≤nx∧nx≤1000∧s.c.c - s.c.a≤nx*s.tw∧(nx - 1)*s.tw≤s.c.c - s.c.a - 1) (n2:1≤ny∧ny≤1000∧s.c.d - s.c.b≤ny*s.th∧(ny - 1)*s.th≤s.c.d - s.c.b - 1)
  {i:Int} (hi:0≤i∧i < nx*ny):zX4 s.c s.tw s.th i=(zY6 s nx i,true)∧(zY6 s nx i).a < (zY6 s nx i).c∧(zY6 s nx i).b < (zY6 s nx i).d∧zWB s (zY6 s nx i):=by
 obtain ⟨t1,t2,_,_⟩:=hn.sides
 obtain ⟨w1,w2⟩:=hn.w
 obtain ⟨h1,h2⟩:=hn.h
 obtain ⟨⟨a1,a2⟩,a3,a4⟩:=hn.at_
 have i1:=Int.emod_nonneg i (show nx≠0 by omega)
 have i2:=Int.emod_lt_of_pos i (show 0 < nx by omega)
 have i3:=Int.ediv_nonneg hi.1 (show 0≤nx by omega)
 have i4:i / nx < ny:=Int.ediv_lt_of_lt_mul (by omega) (by rw [Int.mul_comm]; exact hi.2)
 have m1:i % nx*s.tw≤(nx - 1)*s.tw:=Int.mul_le_mul_of_nonneg_right (by omega) (by omega)
 have m2:i / nx*s.th≤(ny - 1)*s.th:=Int.mul_le_mul_of_nonneg_right (by omega) (by omega)
 have m3:0≤i % nx*s.tw:=Int.mul_nonneg i1 (by omega)
 have m4:0≤i / nx*s.th:=Int.mul_nonneg i3 (by omega)
 refine ⟨?_,by unfold zY6; simp only; omega,by unfold zY6; simp only; omega,⟨by unfold zY6; simp only; omega,by unfold zY6; simp only; omega⟩⟩
 unfold zX4 zY6
 rw [e1,e2,hn.parts.1,Int.tdiv_eq_ediv_of_nonneg hi.1,Int.tmod_eq_emod_of_nonneg hi.1]
 have q1:i / nx≤1000:=by omega
 rw [IntWalk.i64_in (i / nx) ⟨by omega,by omega⟩,if_neg (by simp; omega)]
 simp only
 rw [IntWalk.i64_in (i % nx*s.tw) ⟨by omega,by omega⟩,IntWalk.i64_in (i / nx*s.th) ⟨by omega,by omega⟩,IntWalk.i64_in (s.c.a+i % nx*s.tw) ⟨by omega,by omega⟩,IntWalk.i64_in (s.c.b+i / nx*s.th) ⟨by omega,by omega⟩,IntWalk.i64_in (s.c.a+i % nx*s.tw+s.tw) ⟨by omega,by omega⟩,IntWalk.i64_in (s.c.b+i / nx*s.th+s.th) ⟨by omega,by omega⟩]
theorem Neat.order {nx ny:Int} (eN:jXV s=nx*ny) (h1:1≤nx*ny) (h2:nx*ny≤1000000):(zZX s).length=(nx*ny).toNat∧(∀ v∈zZX s,0≤v∧v < nx*ny)∧∀ i,0≤i→i < nx*ny→i∈zZX s:=by
 have ho:=hn.parts.2.1
 have e:zZX s=seqL s.ord (jXV s):=by unfold zZX zXi; rw [if_pos ho]
 unfold zZC at ho
 simp only [Bool.and_eq_true,decide_eq_true_eq,Bool.or_eq_true] at ho
 obtain ⟨⟨⟨_,_⟩,hl⟩,g1,g2⟩:=ho
 have l:=jQA hl
 rw [e]
 rw [eN] at g1 g2 l ⊢
 refine ⟨l,g1,fun i i0 i1=>?_⟩
 have key:∀ (L:List Int),L.Nodup→(∀ v∈L,0≤v∧v < nx*ny)→L.length=(nx*ny).toNat→i∈L:=fun L q1 q2 q3=>by
  rcases Decidable.em (i∈L) with h | h
  ·exact h
  ·exfalso
   have n1:(i::L).Nodup:=List.nodup_cons.2 ⟨h,q1⟩
   have sub:(i::L) ⊆ upto (nx*ny).toNat:=fun v hv=>by
    have hv2:0≤v∧v < nx*ny:=by
     rcases List.mem_cons.1 hv with h | h
     ·subst h; exact ⟨i0,i1⟩
     ·exact q2 v h
    unfold upto
    refine List.mem_map.2 ⟨v.toNat,List.mem_range.2 (by omega),?_⟩
    show (v.toNat:Int)=v
    omega
   have:=List.Nodup.length_le_of_subset n1 sub
   rw [List.length_cons,q3] at this
   unfold upto at this
   rw [List.length_map,List.length_range] at this
   omega
 exact key _ g2 g1 l
end
theorem jVu {r:Rc} {x y:Int} (h:r.has x y=true):(r.a≤x∧x < r.c)∧r.b≤y∧y < r.d:=by
 unfold Rc.has at h
 simp only [Bool.and_eq_true,Bool.not_eq_true',decide_eq_true_eq] at h
 omega
theorem jJu {r:Rc} {x y:Int} (h:(r.a≤x∧x < r.c)∧r.b≤y∧y < r.d) (hv:(-1000000000≤r.a∧r.c≤1000000000) ∧ -1000000000≤r.b∧r.d≤1000000000):r.has x y=true:=by
 have he:r.empty=false:=by rw [Rc.empty_iff]; omega
 unfold Rc.has
 rw [he]
 simp; omega
def ptV (s:Scr) (x y:Int):Px:=zKw (zQP s.bits) s.ims x y s.ops
section
variable {s:Scr} (hn:Neat s)
include hn
theorem Neat.kept_value {r:Rc} {x y:Int} (hc:s.c.has x y=true) (hr:r.has x y=true):zKw (zQP s.bits) s.ims x y (zZz s r 0 s.ops.length)=ptV s x y:=by
 obtain ⟨ok,e⟩:=zXm hn.run
 have h1:okO s.bits s.ims.length (foOf s).flat []=some []:=by
  rw [← e]; exact (zY5 hn.run).2
 have h2:=zGL hn.run r (foOf s) 0 (Occ.whole s ok) (fun j hj=>by omega)
 rw [← zZF hn.run] at h2
 have hop:∀ o∈s.ops,0≤o.opac:=hn.opac
 rw [e] at hop
 have key:=zWL (s:=s) hn.dim hn.ims rfl hc hr (foOf s) [] [] zXe (zH6 _ [] [] ok h1).1 hop (jYL hn.ims.full)
 rw [List.nil_append] at key
 unfold ptV zKw
 rw [h2,key,← e]
theorem Neat.tileAt {k:Nat} (hk:k < (zQo s).length):zWB s (zZM s k)∧(zZM s k).a < (zZM s k).c∧(zZM s k).b < (zZM s k).d:=by
 obtain ⟨nx,ny,e1,e2,n1,n2,eN,p1,p2⟩:=hn.num
 obtain ⟨l,o1,o2⟩:=hn.order eN p1 p2
 have lt:(zQo s).length=(zZX s).length:=List.length_map ..
 have k1:k < (zZX s).length:=by omega
 have eK:zZM s k=(zX4 s.c s.tw s.th (zZX s)[k]).1:=by
  unfold zZM
  rw [List.getElem?_eq_getElem hk]
  simp [zQo]
 obtain ⟨q1,q2,q3,q4⟩:=hn.rect e1 e2 n1 n2 (o1 _ (List.getElem_mem k1))
 rw [eK,q1]
 exact ⟨q4,q2,q3⟩
theorem Neat.good {r:Rc} (h:zWB s r):zVz s (zQP s.bits) (zQY s.ops).1 r:=by
 obtain ⟨w1,w2⟩:=hn.w
 obtain ⟨h1,h2⟩:=hn.h
 obtain ⟨⟨a1,a2⟩,a3,a4⟩:=hn.at_
 obtain ⟨x1,x2,x3⟩:=h.x
 obtain ⟨y1,y2,y3⟩:=h.y
 exact jZX hn.ctx ⟨by omega,by omega⟩ (by omega) ⟨by omega,by omega⟩ ⟨by omega,by omega⟩
theorem Neat.rend:jXN s:=by
 obtain ⟨nx,ny,e1,e2,n1,n2,eN,p1,p2⟩:=hn.num
 obtain ⟨l,_,_⟩:=hn.order eN p1 p2
 exact ⟨hn.chk,hn.w,hn.h,hn.at_,fun k hk=>(hn.tileAt hk).1,fun k hk=>hn.good (hn.tileAt hk).1,fun _=>by rw [e1]; omega,by rw [l]; omega,by have:=hn.parts.2.2.2; omega⟩
theorem Neat.part_px {r:Rc} (h:zWB s r) {x y:Int} (hx:r.a≤x∧x < r.c) (hy:r.b≤y∧y < r.d):pxN (jKz s r) ((y - r.b).toNat*(r.c - r.a).toNat+(x - r.a).toNat)=ptV s x y:=by
 obtain ⟨w1,w2⟩:=hn.w
 obtain ⟨h1,h2⟩:=hn.h
 obtain ⟨⟨a1,a2⟩,a3,a4⟩:=hn.at_
 obtain ⟨x1,x2,x3⟩:=h.x
 obtain ⟨y1,y2,y3⟩:=h.y
 have:=jJ2 (r:=r) hn.ctx ⟨by omega,by omega⟩ (by omega) ⟨by omega,by omega⟩ ⟨by omega,by omega⟩ (u:=(x - r.a).toNat) (v:=(y - r.b).toNat) (by omega) (by unfold zQt; omega)
 unfold jKz
 rw [this,show r.a+((x - r.a).toNat:Int)=x by omega,show r.b+((y - r.b).toNat:Int)=y by omega]
 exact hn.kept_value (jJu ⟨⟨by omega,by omega⟩,by omega,by omega⟩ ⟨⟨by omega,by omega⟩,by omega,by omega⟩) (jJu ⟨hx,hy⟩ ⟨⟨by omega,by omega⟩,by omega,by omega⟩)
theorem Neat.region_px {r:Rc} (h:zWB s r) {x y:Int} (hx:r.a≤x∧x < r.c) (hy:r.b≤y∧y < r.d):(regI s r).at_ (x - r.a) (y - r.b)=ptV s x y:=by
 have hl:=zY8 (hn.good h) (zQt r) (Nat.le_refl _)
 obtain ⟨w1,w2⟩:=hn.w
 obtain ⟨h1,h2⟩:=hn.h
 obtain ⟨x1,x2,x3⟩:=h.x
 obtain ⟨y1,y2,y3⟩:=h.y
 have e:((r.c - r.a).toNat:Int)=r.c - r.a:=by omega
 have eN:((zQt r:Nat):Int)=r.d - r.b:=by unfold zQt; omega
 have m1:(r.c - r.a)*(r.d - r.b)≤1000*1000:=Int.mul_le_mul (by omega) (by omega) (by omega) (by omega)
 have ok:ofOk (r.c - r.a) (r.d - r.b) (zZs s (zQP s.bits) (zQY s.ops).1 r (zQt r)).length=true:=by
  unfold ofOk zQ4
  rw [hl,Int.natCast_mul,e,eN,Int.mul_comm (r.d - r.b)]
  simp only [Bool.and_eq_true,decide_eq_true_eq]
  refine ⟨⟨⟨by omega,by omega⟩,by omega⟩,trivial⟩
 unfold regI
 rw [jVr ok ⟨by omega,by omega⟩ ⟨by omega,by omega⟩,← hn.part_px h hx hy]
 have e3:((y - r.b)*(r.c - r.a)+(x - r.a)).toNat=(y - r.b).toNat*(r.c - r.a).toNat+(x - r.a).toNat:=by
  have:(y - r.b)*(r.c - r.a)=(((y - r.b).toNat*(r.c - r.a).toNat:Nat):Int):=by
   rw [Int.natCast_mul,e,show (((y - r.b).toNat:Nat):Int)=y - r.b by omega]
  rw [this]; omega
 rw [e3]
 rfl
end
theorem jWl {l xs:List Px} {i p:Nat} (h:i+xs.length≤l.length):pxN (jYm l i xs) p=if i≤p∧p < i+xs.length then pxN xs (p - i) else pxN l p:=by
 unfold jYm pxN
 have hi:(l.take i).length=i:=by rw [List.length_take]; omega
 rw [List.append_assoc]
 by_cases h1:p < i
 ·rw [List.getElem?_append_left (by omega),List.getElem?_take,if_pos h1,if_neg (by omega)]
 ·rw [List.getElem?_append_right (by omega),hi]
  by_cases h2:p - i < xs.length
  ·rw [List.getElem?_append_left h2,if_pos (by omega)]
  ·rw [List.getElem?_append_right (by omega),if_neg (by omega),List.getElem?_drop]
   congr 2; omega
section
variable {s:Scr} (hn:Neat s)
include hn
theorem Neat.over_px {r:Rc} (h:zWB s r) {l:List Px} (hl:l.length=((s.c.c - s.c.a)*(s.c.d - s.c.b)).toNat) {x y:Int} (hc:s.c.has x y=true):∀ j,j≤zQt r →
  pxN (zWY s r l j) ((y - s.c.b)*(s.c.c - s.c.a)+(x - s.c.a)).toNat=if (r.a≤x∧x < r.c)∧r.b≤y∧y < r.b+j then ptV s x y else pxN l ((y - s.c.b)*(s.c.c - s.c.a)+(x - s.c.a)).toNat
 | 0,_=>by
  rw [if_neg (by omega)]; rfl
 | j+1,hj=>by
  have ih:=Neat.over_px h hl hc j (by omega)
  obtain ⟨⟨c1,c2⟩,c3,c4⟩:=jVu hc
  have hp:=hn.good h
  have lT:=zWc hn.rend h hp hl j (by omega)
  have lJ:=jQF hp (show j < zQt r by omega)
  obtain ⟨A,eA,A1,A2,A3,A4,A5⟩:=zHc hn.rend h (show j < zQt r by omega)
  obtain ⟨x1,x2,x3⟩:=h.x
  obtain ⟨y1,y2,y3⟩:=h.y
  obtain ⟨w1,w2⟩:=hn.w
  have eI:atI s r j=(A+r.a - s.c.a).toNat:=by unfold atI; rw [eA]
  have hfit:atI s r j+(rowJ s r j).length≤(zWY s r l j).length:=by rw [lT,lJ,hl,eI]; omega
  rw [zWY,jWl hfit,lJ,eI,ih]
  have hN:r.b+(j:Int) < r.d:=by unfold zQt at hj; omega
  by_cases hy:y=r.b+j
  ·subst hy
   rw [eA]
   by_cases hx:r.a≤x∧x < r.c
   ·rw [if_pos ⟨by omega,by omega⟩,if_pos ⟨hx,by omega,by omega⟩]
    have:=hn.part_px h hx (y:=r.b+j) ⟨by omega,by omega⟩
    rw [← this]
    have e0:(r.b+(j:Int) - r.b).toNat=j:=by omega
    rw [e0]
    unfold rowJ pxN
    rw [List.getElem?_take,if_pos (by omega),List.getElem?_drop]
    congr 2
    omega
   ·rw [if_neg (by omega),if_neg (by omega),if_neg (fun q=>hx q.1)]
  ·
   have hd:(y - s.c.b)*(s.c.c - s.c.a)=A+(y - (r.b+j))*(s.c.c - s.c.a):=by
    rw [← eA,← Int.add_mul]; congr 1; omega
   have hout:¬ ((A+r.a - s.c.a).toNat≤((y - s.c.b)*(s.c.c - s.c.a)+(x - s.c.a)).toNat∧((y - s.c.b)*(s.c.c - s.c.a)+(x - s.c.a)).toNat < (A+r.a - s.c.a).toNat+(r.c - r.a).toNat):=by
    have g0:0≤(y - s.c.b)*(s.c.c - s.c.a):=Int.mul_nonneg (by omega) (by omega)
    rw [hd] at g0 ⊢
    rcases Int.lt_or_gt_of_ne hy with q | q
    ·have:=Int.mul_le_mul_of_nonneg_right (show y - (r.b+j) ≤ -1 by omega) (show 0≤s.c.c - s.c.a by omega)
     omega
    ·have:=Int.mul_le_mul_of_nonneg_right (show 1≤y - (r.b+j) by omega) (show 0≤s.c.c - s.c.a by omega)
     omega
   rw [if_neg hout]
   have:((r.a≤x∧x < r.c)∧r.b≤y∧y < r.b+((j+1:Nat):Int))↔((r.a≤x∧x < r.c)∧r.b≤y∧y < r.b+(j:Int)):=by omega
   simp only [this]
theorem Neat.all_px {x y:Int} (hc:s.c.has x y=true):∀ k,k≤(zQo s).length→(∃ i,i < k∧(zZM s i).has x y=true)→pxN (allP s k) ((y - s.c.b)*(s.c.c - s.c.a)+(x - s.c.a)).toNat=ptV s x y
 | 0,_,⟨i,hi,_⟩=>by omega
 | k+1,hk,⟨i,hi,hh⟩=>by
  have lk:=zWA hn.rend k (by omega)
  have t:=(hn.tileAt (show k < (zQo s).length by omega)).1
  rw [allP,hn.over_px t lk hc (zQt (zZM s k)) (Nat.le_refl _)]
  have eN:((zQt (zZM s k):Nat):Int)=(zZM s k).d - (zZM s k).b:=by
   have:=t.y
   unfold zQt; omega
  split
  ·rfl
  ·rename_i hno
   refine Neat.all_px hc k (by omega) ⟨i,?_,hh⟩
   rcases Nat.lt_or_ge i k with q | q
   ·exact q
   ·have:i=k:=by omega
    subst this
    have:=jVu hh
    exact absurd ⟨this.1,by omega,by omega⟩ hno
theorem Neat.image_px {x y:Int} (hc:s.c.has x y=true):(zQk s).at_ (x - s.c.a) (y - s.c.b)=ptV s x y:=by
 obtain ⟨nx,ny,e1,e2,n1,n2,eN,p1,p2⟩:=hn.num
 obtain ⟨l,o1,o2⟩:=hn.order eN p1 p2
 obtain ⟨⟨c1,c2⟩,c3,c4⟩:=jVu hc
 obtain ⟨t1,t2,_,_⟩:=hn.sides
 obtain ⟨w1,w2⟩:=hn.w
 obtain ⟨h1,h2⟩:=hn.h
 have lA:=zWA hn.rend _ (Nat.le_refl _)
 have m1:(s.c.c - s.c.a)*(s.c.d - s.c.b)≤1000*1000:=Int.mul_le_mul (by omega) (by omega) (by omega) (by omega)
 have m0:0≤(s.c.c - s.c.a)*(s.c.d - s.c.b):=Int.mul_nonneg (by omega) (by omega)
 have ok:ofOk (s.c.c - s.c.a) (s.c.d - s.c.b) (allP s (zQo s).length).length=true:=by
  unfold ofOk zQ4
  rw [lA]
  simp only [Bool.and_eq_true,decide_eq_true_eq]
  refine ⟨⟨⟨by omega,by omega⟩,by omega⟩,by omega⟩
 unfold zQk
 rw [jVr ok ⟨by omega,by omega⟩ ⟨by omega,by omega⟩]
 refine hn.all_px hc _ (Nat.le_refl _) ?_
 obtain ⟨u1,u2,u3⟩:=jVL (a:=x - s.c.a) (w:=s.tw) (by omega) (by omega)
 obtain ⟨v1,v2,v3⟩:=jVL (a:=y - s.c.b) (w:=s.th) (by omega) (by omega)
 generalize (x - s.c.a) / s.tw=u at *
 generalize (y - s.c.b) / s.th=v at *
 have un:u < nx:=by
  rcases Int.lt_or_le u nx with q | q
  ·exact q
  ·have:=Int.mul_le_mul_of_nonneg_right q (show 0≤s.tw by omega); omega
 have vn:v < ny:=by
  rcases Int.lt_or_le v ny with q | q
  ·exact q
  ·have:=Int.mul_le_mul_of_nonneg_right q (show 0≤s.th by omega); omega
 have b0:0≤v*nx:=Int.mul_nonneg v1 (by omega)
 have b1:(v+1)*nx≤ny*nx:=Int.mul_le_mul_of_nonneg_right (by omega) (by omega)
 rw [Int.add_mul,Int.one_mul,Int.mul_comm ny] at b1
 have hi:0≤v*nx+u∧v*nx+u < nx*ny:=⟨by omega,by omega⟩
 have hm:=o2 _ hi.1 hi.2
 obtain ⟨k,hk,ek⟩:=List.getElem_of_mem hm
 have lt:(zQo s).length=(zZX s).length:=List.length_map ..
 have k2:k < (zQo s).length:=by omega
 have eK:zZM s k=(zX4 s.c s.tw s.th (v*nx+u)).1:=by
  unfold zZM
  rw [List.getElem?_eq_getElem k2]
  simp [zQo,ek]
 refine ⟨k,k2,?_⟩
 have tk:=(hn.rect e1 e2 n1 n2 hi).2.2.2
 obtain ⟨⟨a1,a2⟩,a3,a4⟩:=hn.at_
 have tx:=tk.x
 have ty:=tk.y
 rw [eK,(hn.rect e1 e2 n1 n2 hi).1]
 have d1:(v*nx+u) % nx=u:=by rw [Int.add_comm,Int.add_mul_emod_self_right]; exact Int.emod_eq_of_lt u1 un
 have d2:(v*nx+u) / nx=v:=by rw [Int.add_comm,Int.add_mul_ediv_right _ _ (by omega),Int.ediv_eq_zero_of_lt u1 un]; omega
 have r0:zY6 s nx (v*nx+u)=⟨s.c.a+u*s.tw,s.c.b+v*s.th,min (s.c.a+u*s.tw+s.tw) s.c.c,min (s.c.b+v*s.th+s.th) s.c.d⟩:=by unfold zY6; rw [d1,d2]
 refine jJu ?_ ⟨⟨by show _≤(zY6 s nx (v*nx+u)).a; omega,by show (zY6 s nx (v*nx+u)).c≤_; omega⟩,by show _≤(zY6 s nx (v*nx+u)).b; omega,by show (zY6 s nx (v*nx+u)).d≤_; omega⟩
 show ((zY6 s nx (v*nx+u)).a≤x∧x < (zY6 s nx (v*nx+u)).c)∧(zY6 s nx (v*nx+u)).b≤y∧y < (zY6 s nx (v*nx+u)).d
 rw [r0]
 simp only
 omega
end
section
attribute [local irreducible] Ans AnsO AnsG AnsN AnsI
def awT:Scr:=⟨8,⟨0,0,3,2⟩,2,1,[],[zQd 1 1 ⟨200,0,0,255,255⟩],[⟨1,0,2,1,0,0,0,255,4,1,false,false⟩]⟩
theorem jZn:Neat awT where
  chk:=by decide +kernel
  ims:=⟨by decide,fun i hi x y=>by
    have hi:i=zQd 1 1 ⟨200,0,0,255,255⟩:=List.mem_singleton.1 hi
    subst hi
    unfold Im.at_
    have e:(zQd 1 1 ⟨200,0,0,255,255⟩).px x y=⟨200,0,0,255,255⟩:=rfl
    rw [e]
    split
    · exact ⟨by decide,by unfold Px.nn; decide⟩
    · exact ⟨by decide,by unfold Px.nn; decide⟩⟩
  dim:=fun i hi=>by
    have hi:i=zQd 1 1 ⟨200,0,0,255,255⟩:=List.mem_singleton.1 hi
    subst hi
    decide
  opac:=fun o ho=>by
    have ho:o=⟨1,0,2,1,0,0,0,255,4,1,false,false⟩:=List.mem_singleton.1 ho
    subst ho
    decide
  w:=by decide
  h:=by decide
  at_:=by decide
theorem jGb:ptV awT 2 1=⟨200,0,0,255,255⟩:=by decide +kernel
theorem jWZ:ptV awT 1 1=.zero:=by decide +kernel
def jGz:Gam where
 pure:=fun f xs=>
  if f=8 then gZ65 xs else
  if f=13 then gZ17 xs else
  if f=10 then (match xs with | []=>some (RV.d (dQ true)) | _=>none) else
  none
 modes:=fun f=>
  none
 proc:=fun f xs bs=>
  none
 iter:=fun f cs=>
  none
def zX9:Ann:=(Ann.seq Ann.leaf (Ann.seq Ann.leaf (Ann.cut ⟨Unit,fun u:Unit=>True,fun u:Unit=>⟨[(1,AV.one (Cl.ptr 1 0)),(2,AV.one (Cl.ptr 2 0))],[(1,bC [cK (200),cK (0),cK (0),cK (255),cK (255)]),(2,bC [cJ (awT.bits),cJ (awT.c.a),cJ (awT.c.b),cJ (awT.c.c),cJ (awT.c.d),cJ (awT.tw),cJ (awT.th),Cl.ref 7000 awT.ord.length,Cl.ref 7001 awT.ims.length,Cl.ref 7002 awT.ops.length]),(7000,Bx.row 3 1 (is awT.ord)),(7001,Bx.row 43 28 (ims awT.ims)),(7002,Bx.row 61 12 (ops awT.ops))]⟩,fun u:Unit=>0⟩ Ann.leaf fun u=>Ann.leaf)))
theorem zKt:vcg prog jGz 35 (zUu Tryz.f10) (zX9 ) kn0 (start []) (post prog Tryz.f10.results.toList (·=RV.d (dQ true))) =
 (let h:=((true=true)∧RV.d (dQ false)=RV.d (dQ true)); let d:=(is awT.ord); let e:=(ops awT.ops); let g:=(ims awT.ims); let i:=[dK 200,dK 0,dK 0,dK 255,dK 255]; tU5 ((True∧tU8 (∃ u:Unit,True∧(((0=0)∧(0=0)∧True)∧((i=i)∧((dJ 8=dJ awT.bits)∧(dJ 0=dJ awT.c.a)∧(dJ 0=dJ awT.c.b)∧(dJ 3=dJ awT.c.c)∧(dJ 2=dJ awT.c.d)∧(dJ 2=dJ awT.tw)∧(dJ 1=dJ awT.th)∧(0=awT.ord.length)∧(1=awT.ims.length)∧(1=awT.ops.length)∧True)∧([]=is awT.ord)∧([dJ 1,dJ 1,dQ true,dK 200,dK 0,dK 0,dK 255,dK 255,dJ 0,dJ 0,dJ 0,dS 0 ([]),dJ 0,dJ 0,dJ 0,dS 0 ([]),dJ 0,dJ 0,dJ 0,dS 0 ([]),dJ 0,dJ 0,dJ 0,dS 0 ([]),dJ 0,dJ 0,dJ 0,dS 0 ([])]=ims awT.ims)∧([dJ 1,dJ 0,dJ 2,dJ 1,dJ 0,dJ 0,dJ 0,dK 255,dJ 4,dJ 1,dQ false,dQ false]=ops awT.ops)∧True))))∧∀ u:Unit,True→True∧(Ans prog 8 [RV.agg [dJ awT.bits,dJ awT.c.a,dJ awT.c.b,dJ awT.c.c,dJ awT.c.d,dJ awT.tw,dJ awT.th,dS awT.ord.length d,dS awT.ims.length g,dS awT.ops.length e]] (RV.tup [(imR (zQk (⟨awT.bits,awT.c,awT.tw,awT.th,ints d,zQc g,zQb e⟩:Scr))),rJ 0,rJ 0]))∧tU3 (tU8 (((0==(0:Int))=true→True∧(Ans prog 13 [(imR (zQk (⟨awT.bits,awT.c,awT.tw,awT.th,ints d,zQc g,zQb e⟩:Scr))),rJ 2,rJ 1] (RV.agg [dK (Im.at_ (zQk (⟨awT.bits,awT.c,awT.tw,awT.th,ints d,zQc g,zQb e⟩:Scr)) (2:Int) (1:Int)).a,dK (Im.at_ (zQk (⟨awT.bits,awT.c,awT.tw,awT.th,ints d,zQc g,zQb e⟩:Scr)) (2:Int) (1:Int)).b,dK (Im.at_ (zQk (⟨awT.bits,awT.c,awT.tw,awT.th,ints d,zQc g,zQb e⟩:Scr)) (2:Int) (1:Int)).c,dK (Im.at_ (zQk (⟨awT.bits,awT.c,awT.tw,awT.th,ints d,zQc g,zQb e⟩:Scr)) (2:Int) (1:Int)).al,dK (Im.at_ (zQk (⟨awT.bits,awT.c,awT.tw,awT.th,ints d,zQc g,zQb e⟩:Scr)) (2:Int) (1:Int)).f]))∧tU4 ((((((Im.at_ (zQk (⟨awT.bits,awT.c,awT.tw,awT.th,ints d,zQc g,zQb e⟩:Scr)) (2:Int) (1:Int)).a==200) && (((Im.at_ (zQk (⟨awT.bits,awT.c,awT.tw,awT.th,ints d,zQc g,zQb e⟩:Scr)) (2:Int) (1:Int)).b==0) && (((Im.at_ (zQk (⟨awT.bits,awT.c,awT.tw,awT.th,ints d,zQc g,zQb e⟩:Scr)) (2:Int) (1:Int)).c==0) && true))) && (((Im.at_ (zQk (⟨awT.bits,awT.c,awT.tw,awT.th,ints d,zQc g,zQb e⟩:Scr)) (2:Int) (1:Int)).al==255) && (((Im.at_ (zQk (⟨awT.bits,awT.c,awT.tw,awT.th,ints d,zQc g,zQb e⟩:Scr)) (2:Int) (1:Int)).f==255) && true)))=true→True∧(Ans prog 13 [(imR (zQk (⟨awT.bits,awT.c,awT.tw,awT.th,ints d,zQc g,zQb e⟩:Scr))),rJ 1,rJ 1] (RV.agg [dK (Im.at_ (zQk (⟨awT.bits,awT.c,awT.tw,awT.th,ints d,zQc g,zQb e⟩:Scr)) (1:Int) (1:Int)).a,dK (Im.at_ (zQk (⟨awT.bits,awT.c,awT.tw,awT.th,ints d,zQc g,zQb e⟩:Scr)) (1:Int) (1:Int)).b,dK (Im.at_ (zQk (⟨awT.bits,awT.c,awT.tw,awT.th,ints d,zQc g,zQb e⟩:Scr)) (1:Int) (1:Int)).c,dK (Im.at_ (zQk (⟨awT.bits,awT.c,awT.tw,awT.th,ints d,zQc g,zQb e⟩:Scr)) (1:Int) (1:Int)).al,dK (Im.at_ (zQk (⟨awT.bits,awT.c,awT.tw,awT.th,ints d,zQc g,zQb e⟩:Scr)) (1:Int) (1:Int)).f]))∧tU4 ((true=true)∧RV.d (dQ ((((Im.at_ (zQk (⟨awT.bits,awT.c,awT.tw,awT.th,ints d,zQc g,zQb e⟩:Scr)) (1:Int) (1:Int)).a==0) && (((Im.at_ (zQk (⟨awT.bits,awT.c,awT.tw,awT.th,ints d,zQc g,zQb e⟩:Scr)) (1:Int) (1:Int)).b==0) && (((Im.at_ (zQk (⟨awT.bits,awT.c,awT.tw,awT.th,ints d,zQc g,zQb e⟩:Scr)) (1:Int) (1:Int)).c==0) && true))) && (((Im.at_ (zQk (⟨awT.bits,awT.c,awT.tw,awT.th,ints d,zQc g,zQb e⟩:Scr)) (1:Int) (1:Int)).al==0) && (((Im.at_ (zQk (⟨awT.bits,awT.c,awT.tw,awT.th,ints d,zQc g,zQb e⟩:Scr)) (1:Int) (1:Int)).f==0) && true))))=RV.d (dQ true)))∧(((((Im.at_ (zQk (⟨awT.bits,awT.c,awT.tw,awT.th,ints d,zQc g,zQb e⟩:Scr)) (2:Int) (1:Int)).a==200) && (((Im.at_ (zQk (⟨awT.bits,awT.c,awT.tw,awT.th,ints d,zQc g,zQb e⟩:Scr)) (2:Int) (1:Int)).b==0) && (((Im.at_ (zQk (⟨awT.bits,awT.c,awT.tw,awT.th,ints d,zQc g,zQb e⟩:Scr)) (2:Int) (1:Int)).c==0) && true))) && (((Im.at_ (zQk (⟨awT.bits,awT.c,awT.tw,awT.th,ints d,zQc g,zQb e⟩:Scr)) (2:Int) (1:Int)).al==255) && (((Im.at_ (zQk (⟨awT.bits,awT.c,awT.tw,awT.th,ints d,zQc g,zQb e⟩:Scr)) (2:Int) (1:Int)).f==255) && true)))=(!true)→tU2 h)))∧((0==(0:Int))=(!true)→tU4 h))))):=by kernel_rfl
theorem zKb:Ans prog 10 [] (rD (dQ true)):=
 zQa (Γ:=jGz) (zX9 ) zQf Tryz.func10 rfl (nL rfl) fun hwf=>by
  refine Eq.mpr (zKt ) ?_
  delta dJ dK dQ dS rJ
  simp only [sS]
  have eS:(⟨awT.bits,awT.c,awT.tw,awT.th,ints (is awT.ord),zQc (ims awT.ims),zQb (ops awT.ops)⟩:Scr)=awT:=zJs awT
  have hu:∀ m∈awT.ims,m.isU:=fun i hi=>by
   have hi:i=zQd 1 1 ⟨200,0,0,255,255⟩:=List.mem_singleton.1 hi
   subst hi
   exact zVC _ _ _
  have a:=zJI awT hu (by decide) jZn.rend
  have p1:=jZn.image_px (x:=2) (y:=1) (by decide)
  have p2:=jZn.image_px (x:=1) (y:=1) (by decide)
  rw [jGb] at p1
  rw [jWZ] at p2
  have p1:(zQk awT).at_ 2 1=⟨200,0,0,255,255⟩:=p1
  have p2:(zQk awT).at_ 1 1=.zero:=p2
  have ri:(zQk awT).isU:=zUX _ _ _
  have i1:=zYr (zQk awT) 2 1 ri
  have i2:=zYr (zQk awT) 1 1 ri
  simp only [eS,p1,p2] at a i1 i2 ⊢
  exact ⟨⟨(),⟨rfl,rfl,rfl,rfl,rfl,rfl,rfl,rfl,rfl,rfl⟩,rfl,rfl,rfl⟩,a,fun _=>⟨i1,fun _=>⟨i2,by decide⟩,fun h=>absurd h (by decide)⟩,fun h=>absurd h (by decide)⟩
end
def zXq (P:Program) (ls:List TypeId) (n:Nat) (xs:List DV):Prop:=
 xs.length=n*ls.length∧∀ (j:Nat) d,xs[j]?=some d→∃ t',ls[j % ls.length]?=some t'∧∃ q,zXT P q t' d
theorem zXq.at_ {P:Program} {ls:List TypeId} {n:Nat} {xs:List DV} (h:zXq P ls n xs) {k r:Nat} {t:TypeId} (hk:k < n) (hr:ls[r]?=some t):∃ d q,xs[k*ls.length+r]?=some d∧zXT P q t d:=by
 obtain ⟨hn,hx⟩:=h
 have hr':r < ls.length:=(List.getElem?_eq_some_iff.1 hr).1
 have hle:(k+1)*ls.length≤n*ls.length:=Nat.mul_le_mul_right _ (by omega)
 rw [Nat.add_mul] at hle
 have hj:k*ls.length+r < xs.length:=by omega
 obtain ⟨t',a,q,b⟩:=hx _ _ (List.getElem?_eq_getElem hj)
 rw [Nat.mul_comm k,Nat.mul_add_mod,Nat.mod_eq_of_lt hr',hr] at a
 injection a with a
 subst a
 exact ⟨_,q,List.getElem?_eq_getElem hj,b⟩
theorem zXq.int {P:Program} {ls:List TypeId} {n:Nat} {xs:List DV} (h:zXq P ls n xs) {k r:Nat} {t:TypeId} {kk:IntKind} (hk:k < n) (hr:ls[r]?=some t) (hu:P.underlying t=some (.int kk)):xs[k*ls.length+r]?=some (.int kk (nAt xs (k*ls.length+r))):=by
 obtain ⟨d,q,e,b⟩:=h.at_ hk hr
 obtain ⟨v,rfl⟩:=b.int hu
 simp only [nAt,e]
theorem zXq.bool {P:Program} {ls:List TypeId} {n:Nat} {xs:List DV} (h:zXq P ls n xs) {k r:Nat} {t:TypeId} (hk:k < n) (hr:ls[r]?=some t) (hu:P.underlying t=some .bool):xs[k*ls.length+r]?=some (.bool (bAt xs (k*ls.length+r))):=by
 obtain ⟨d,q,e,b⟩:=h.at_ hk hr
 obtain ⟨v,rfl⟩:=b.bool hu
 simp only [bAt,e]
theorem zXq.sl {P:Program} {ls:List TypeId} {n:Nat} {xs:List DV} (h:zXq P ls n xs) {k r:Nat} {t e:TypeId} {ms:List TypeId} (hk:k < n) (hr:ls[r]?=some t) (hu:P.underlying t=some (.slice e)) (hl:lv P e=some ms) :
  xs[k*ls.length+r]?=some (.sl (lAt xs (k*ls.length+r)) (cAt xs (k*ls.length+r)))∧zXq P ms (lAt xs (k*ls.length+r)) (cAt xs (k*ls.length+r)):=by
 obtain ⟨d,q,e1,b⟩:=h.at_ hk hr
 obtain ⟨m,ys,rfl,_,h1,h2⟩:=b.slice hu hl
 simp only [lAt,cAt,e1]
 exact ⟨trivial,h1,h2⟩
theorem zXq.ints {P:Program} {t:TypeId} {n:Nat} {xs:List DV} (h:zXq P [t] n xs) (hu:P.underlying t=some (.int .i64)):xs=is (ints xs)∧n=xs.length:=
 jUk (by have:=h.1; simpa using this) fun j d hj=>by obtain ⟨t',a,q,b⟩:=h.2 j d hj; exact jJq hu a b
theorem zXq.five {P:Program} {t:TypeId} {n:Nat} {xs:List DV} (h:zXq P [t,t,t,t,t] n xs) (hu:P.underlying t=some (.int .i64)):Is5 n xs:=
 jGx h.1 fun j d hj=>by obtain ⟨t',a,q,b⟩:=h.2 j d hj; exact jWC hu a b
theorem zXq.pics {P:Program} {t ts e:TypeId} {n:Nat} {xs:List DV} (h:zXq P [t,t,t,t,ts] n xs) (hu:P.underlying t=some (.int .i64)) (hs:P.underlying ts=some (.slice e)) (hl:lv P e=some [t,t,t,t,t]):jUo n xs:=
 ⟨h.1,fun k hk=>⟨h.int (r:=0) hk rfl hu,h.int (r:=1) hk rfl hu,h.int (r:=2) hk rfl hu,h.int (r:=3) hk rfl hu,(h.sl (r:=4) hk rfl hs hl).1,(h.sl (r:=4) hk rfl hs hl).2.five hu⟩⟩
theorem zXq.raws {P:Program} {t:TypeId} {n:Nat} {xs:List DV} (h:zXq P [t,t,t,t,t,t,t,t,t,t,t] n xs) (hu:P.underlying t=some (.int .i64)):jGK n xs:=by
 refine ⟨h.1,fun i hi=>?_⟩
 have hr:[t,t,t,t,t,t,t,t,t,t,t][i % 11]?=some t:=by
  have h2:i % 11 < 11:=Nat.mod_lt _ (by omega)
  generalize i % 11=r at *
  match r,h2 with
  | 0,_ | 1,_ | 2,_ | 3,_ | 4,_ | 5,_ | 6,_ | 7,_ | 8,_ | 9,_ | 10,_=>rfl
 have:=h.int (k:=i / 11) (r:=i % 11) (by omega) hr hu
 have e:i / 11*[t,t,t,t,t,t,t,t,t,t,t].length+i % 11=i:=by show i / 11*11+i % 11=i; omega
 rw [e] at this
 exact this
theorem jVV {xs ys:List DV} {n m:Nat} (hx:xs.length=n*m) (hy:ys.length=n*m) (h:∀ k,k < n→∀ j,j < m→xs[k*m+j]?=ys[k*m+j]?):xs=ys:=by
 refine List.ext_getElem? fun i=>?_
 by_cases hi:i < n*m
 ·have hm:0 < m:=by
   rcases Nat.eq_zero_or_pos m with h0 | h0
   ·subst h0; simp at hi
   ·exact h0
  have:=h (i / m) (Nat.div_lt_of_lt_mul (by rw [Nat.mul_comm]; exact hi)) (i % m) (Nat.mod_lt _ hm)
  have e:i / m*m+i % m=i:=by rw [Nat.mul_comm]; exact Nat.div_add_mod i m
  rw [e] at this
  exact this
 ·rw [List.getElem?_eq_none (by omega),List.getElem?_eq_none (by omega)]
theorem zXq.ops {P:Program} {t u b:TypeId} {n:Nat} {xs:List DV} (h:zXq P [t,t,t,t,t,t,t,u,t,t,b,b] n xs) (ht:P.underlying t=some (.int .i64)) (hu:P.underlying u=some (.int .u16)) (hb:P.underlying b=some .bool):jGL n xs:=by
 have hl:xs.length=n*12:=h.1
 have hn:(zQb xs).length=n:=by unfold zQb; rw [List.length_map,List.length_range,hl]; omega
 refine ⟨jVV hl (by rw [zZh,hn]) fun k hk j hj=>?_,hn.symm⟩
 have e:(zQb xs)[k]'(by omega)=oqAt xs (k*12):=by simp [zQb]
 rw [jQQ (by omega) j hj,e]
 have key:=fun r (hr:r < 12)=>h.at_ (k:=k) (r:=r) (t:=[t,t,t,t,t,t,t,u,t,t,b,b][r]) hk (List.getElem?_eq_getElem hr)
 match j,hj with
 | 0,_=>exact h.int (r:=0) hk rfl ht
 | 1,_=>exact h.int (r:=1) hk rfl ht
 | 2,_=>exact h.int (r:=2) hk rfl ht
 | 3,_=>exact h.int (r:=3) hk rfl ht
 | 4,_=>exact h.int (r:=4) hk rfl ht
 | 5,_=>exact h.int (r:=5) hk rfl ht
 | 6,_=>exact h.int (r:=6) hk rfl ht
 | 7,_=>exact h.int (r:=7) hk rfl hu
 | 8,_=>exact h.int (r:=8) hk rfl ht
 | 9,_=>exact h.int (r:=9) hk rfl ht
 | 10,_=>exact h.bool (r:=10) hk rfl hb
 | 11,_=>exact h.bool (r:=11) hk rfl hb
def IsBs (n:Nat) (xs:List DV):Prop:=xs.length=n∧∀ i,i < n→xs[i]?=some (.bool (bAt xs i))
theorem zXq.bools {P:Program} {b:TypeId} {n:Nat} {xs:List DV} (h:zXq P [b] n xs) (hb:P.underlying b=some .bool):IsBs n xs:=
 ⟨by have:=h.1; simpa using this,fun i hi=>by
  have:=h.bool (k:=i) (r:=0) hi rfl hb
  simpa using this⟩
section
attribute [local irreducible] Ans AnsO AnsG AnsN AnsI
theorem Scn.neat (s:Scn):Neat s.scr:=by
 have CF:=s.c_facts
 have FF:=s.facts
 have lo:=s.ops_len
 refine ⟨s.with_check (by omega) s.ops_ok,?_,s.dim_ok,s.op0,⟨?_,?_⟩,⟨?_,?_⟩,⟨?_,?_⟩,?_,?_⟩
 ·show zKg (zQP s.bits) s.ims
  rw [s.bits_most]; exact s.ims_ok
 ·show 1≤s.c.c - s.c.a; omega
 ·show s.c.c - s.c.a≤1000; omega
 ·show 1≤s.c.d - s.c.b; omega
 ·show s.c.d - s.c.b≤1000; omega
 ·show -268435456≤s.c.a; omega
 ·show s.c.a≤268435456; omega
 ·show -268435456≤s.c.b; omega
 ·show s.c.b≤268435456; omega
theorem jWi {c:Rc} {w h i:Int} {q:Rc} (hS:zX4 c w h i=(q,true)) (hi:i < wrap .i64 ((cntS c w h).1*(cntS c w h).2.1)):zQj c w h i=(q,true):=by
 unfold zX4 at hS
 split at hS
 ·cases hS
 ·rename_i hn
  unfold zQj
  rw [if_neg (fun h=>by
   rcases h with h | h | h
   ·exact hn (.inl h)
   ·exact hn (.inr (.inl h))
   ·omega)]
  exact hS
def zVL:Gam where
 pure:=fun f xs=>
  if f=8 then gZ65 xs else
  if f=9 then gZ8 xs else
  if f=10 then (match xs with | []=>some (RV.d (dQ true)) | _=>none) else
  if f=11 then gZ66 xs else
  if f=12 then gZ64 xs else
  if f=13 then gZ17 xs else
  if f=13 then gZ17 xs else
  none
 modes:=fun f=>
  if f=7 then some ([true],0,3) else
  none
 proc:=fun f xs bs=>
  if f=7 then (match xs,bs with | [AV.agg [Cl.d (DV.int _ sb),Cl.d (DV.int _ sx),Cl.d (DV.int _ sy),Cl.d (DV.int _ sw),Cl.d (DV.int _ sh),Cl.d (DV.int _ stw),Cl.d (DV.int _ sth),Cl.d (DV.sl son soxs),Cl.d (DV.sl spn spxs),Cl.d (DV.sl srn srxs)]],[]=>some ⟨AV.agg [cJ (⟨sb,sx,sy,sw,sh,stw,sth,son,soxs,spn,spxs,srn,srxs⟩:Scn).bits,cJ (⟨sb,sx,sy,sw,sh,stw,sth,son,soxs,spn,spxs,srn,srxs⟩:Scn).c.a,cJ (⟨sb,sx,sy,sw,sh,stw,sth,son,soxs,spn,spxs,srn,srxs⟩:Scn).c.b,cJ (⟨sb,sx,sy,sw,sh,stw,sth,son,soxs,spn,spxs,srn,srxs⟩:Scn).c.c,cJ (⟨sb,sx,sy,sw,sh,stw,sth,son,soxs,spn,spxs,srn,srxs⟩:Scn).c.d,cJ (⟨sb,sx,sy,sw,sh,stw,sth,son,soxs,spn,spxs,srn,srxs⟩:Scn).gtw,cJ (⟨sb,sx,sy,sw,sh,stw,sth,son,soxs,spn,spxs,srn,srxs⟩:Scn).gth,Cl.ref 0 (⟨sb,sx,sy,sw,sh,stw,sth,son,soxs,spn,spxs,srn,srxs⟩:Scn).ord.length,Cl.ref 1 (⟨sb,sx,sy,sw,sh,stw,sth,son,soxs,spn,spxs,srn,srxs⟩:Scn).ims.length,Cl.ref 2 (⟨sb,sx,sy,sw,sh,stw,sth,son,soxs,spn,spxs,srn,srxs⟩:Scn).ops.length],[Bx.row 3 1 (is (⟨sb,sx,sy,sw,sh,stw,sth,son,soxs,spn,spxs,srn,srxs⟩:Scn).ord),Bx.row 43 28 (ims (⟨sb,sx,sy,sw,sh,stw,sth,son,soxs,spn,spxs,srn,srxs⟩:Scn).ims),Bx.row 61 12 (ops (⟨sb,sx,sy,sw,sh,stw,sth,son,soxs,spn,spxs,srn,srxs⟩:Scn).ops)],false⟩ | _,_=>none) else
  none
 iter:=fun f cs=>
  none
theorem zXZ (s:Scn) (hs:s.ok):Ans prog 3 [rA [dJ s.b,dJ s.x,dJ s.y,dJ s.w,dJ s.h,dJ s.tw,dJ s.th,dS s.on s.oxs,dS s.pn s.pxs,dS s.rn s.rxs]] (rD (dQ true)):=
 zQa (Γ:=zVL) (let e:=(4,aO (Cl.ptr 4 0)); let f:=(3,aO (Cl.ptr 3 0)); let n:=(wK ((cntS s.c s.gtw s.gth).1*(cntS s.c s.gtw s.gth).2.1)); let g:=(7,aJ (cntS ⟨s.c.a,s.c.b,s.c.c,s.c.d⟩ s.gtw s.gth).1); let l:=(8,aJ (cntS ⟨s.c.a,s.c.b,s.c.c,s.c.d⟩ s.gtw s.gth).2.1); let m:=fun (i:Nat)=>(10,aJ (i:Int)); let o:=(3,bC [cJ s.bits,cJ s.c.a,cJ s.c.b,cJ s.c.c,cJ s.c.d,cJ s.gtw,cJ s.gth,Cl.ref 1018 s.ord.length,Cl.ref 2018 s.ims.length,Cl.ref 3018 s.ops.length]); let p:=(4,(let aA:=(zQk (⟨s.bits,⟨s.c.a,s.c.b,s.c.c,s.c.d⟩,s.gtw,s.gth,ints (is s.ord),zQc (ims s.ims),zQb (ops s.ops)⟩:Scr)); bC [cJ aA.w,cJ aA.h,cD (dQ aA.so),cK aA.c.a,cK aA.c.b,cK aA.c.c,cK aA.c.al,cK aA.c.f,cJ aA.p0.w,cJ aA.p0.h,cJ aA.p0.s,cD (dS aA.p0.n aA.p0.xs),cJ aA.p1.w,cJ aA.p1.h,cJ aA.p1.s,cD (dS aA.p1.n aA.p1.xs),cJ aA.p2.w,cJ aA.p2.h,cJ aA.p2.s,cD (dS aA.p2.n aA.p2.xs),cJ aA.p3.w,cJ aA.p3.h,cJ aA.p3.s,cD (dS aA.p3.n aA.p3.xs),cJ aA.p4.w,cJ aA.p4.h,cJ aA.p4.s,cD (dS aA.p4.n aA.p4.xs)])); let q:=(2018,Bx.ice (ims s.ims)); let r:=(3018,Bx.ice (ops s.ops)); let t:=fun (i:Nat)=>fun (j:Nat)=>(15,aJ ((zQj s.c s.gtw s.gth (i:Int)).1.b+(j:Int))); let u:=fun (i:Nat)=>[o,p,(11,(let aA:=(zQj ⟨s.c.a,s.c.b,s.c.c,s.c.d⟩ s.gtw s.gth (i:Int)); bC [cJ aA.1.a,cJ aA.1.b,cJ aA.1.c,cJ aA.1.d])),(13,(let aA:=(regI (⟨s.bits,⟨s.c.a,s.c.b,s.c.c,s.c.d⟩,s.gtw,s.gth,ints (is s.ord),zQc (ims s.ims),zQb (ops s.ops)⟩:Scr) (⟨(zQj ⟨s.c.a,s.c.b,s.c.c,s.c.d⟩ s.gtw s.gth (i:Int)).1.a,(zQj ⟨s.c.a,s.c.b,s.c.c,s.c.d⟩ s.gtw s.gth (i:Int)).1.b,(zQj ⟨s.c.a,s.c.b,s.c.c,s.c.d⟩ s.gtw s.gth (i:Int)).1.c,(zQj ⟨s.c.a,s.c.b,s.c.c,s.c.d⟩ s.gtw s.gth (i:Int)).1.d⟩:Rc)); bC [cJ aA.w,cJ aA.h,cD (dQ aA.so),cK aA.c.a,cK aA.c.b,cK aA.c.c,cK aA.c.al,cK aA.c.f,cJ aA.p0.w,cJ aA.p0.h,cJ aA.p0.s,cD (dS aA.p0.n aA.p0.xs),cJ aA.p1.w,cJ aA.p1.h,cJ aA.p1.s,cD (dS aA.p1.n aA.p1.xs),cJ aA.p2.w,cJ aA.p2.h,cJ aA.p2.s,cD (dS aA.p2.n aA.p2.xs),cJ aA.p3.w,cJ aA.p3.h,cJ aA.p3.s,cD (dS aA.p3.n aA.p3.xs),cJ aA.p4.w,cJ aA.p4.h,cJ aA.p4.s,cD (dS aA.p4.n aA.p4.xs)])),(1018,Bx.ice (is s.ord)),q,r]; (aQ aL (aQ aL (aQ aL (aQ aL (aQ aL (aQ (aQ aL (Ann.loop ⟨Nat,fun i=>(i:Int)≤n,fun i=>⟨[f,e,g,l,(m i)],[o,p,(1018,Bx.ice (is s.ord)),q,r]⟩,fun i=>n.toNat - i⟩ fun i=>(aQ aL (aQ (aQ aL (aQ aL (aQ aL (aQ aL (Ann.loop ⟨Nat,fun j=>(zQj s.c s.gtw s.gth (i:Int)).1.b+j≤(zQj s.c s.gtw s.gth (i:Int)).1.d,fun j=>⟨[f,e,g,l,(m i),(11,aO (Cl.ptr 11 0)),(13,aO (Cl.ptr 13 0)),(t i j)],(u i)⟩,fun j=>((zQj s.c s.gtw s.gth (i:Int)).1.d - (zQj s.c s.gtw s.gth (i:Int)).1.b).toNat - j⟩ fun j=>(aQ aL (aQ (aQ aL (Ann.loop ⟨Nat,fun k=>(zQj s.c s.gtw s.gth (i:Int)).1.a+k≤(zQj s.c s.gtw s.gth (i:Int)).1.c,fun k=>⟨[f,e,g,l,(m i),(11,aO (Cl.ptr 11 0)),(13,aO (Cl.ptr 13 0)),(t i j),(16,aJ ((zQj s.c s.gtw s.gth (i:Int)).1.a+(k:Int)))],(u i)⟩,fun k=>((zQj s.c s.gtw s.gth (i:Int)).1.c - (zQj s.c s.gtw s.gth (i:Int)).1.a).toNat - k⟩ fun k=>aL)) aL))))))) aL)))) aL))))))) zQf Tryz.func3 rfl (nL rfl) fun hwf=>by
  refine Eq.mpr (by kernel_rfl:_=(let o:=(cntS s.c s.gtw s.gth); let y:=(wK (o.1*o.2.1)); let z:=[dJ s.bits,dJ s.c.a,dJ s.c.b,dJ s.c.c,dJ s.c.d,dJ s.gtw,dJ s.gth,dS s.ord.length (is s.ord),dS s.ims.length (ims s.ims),dS s.ops.length (ops s.ops)]; let A:=[dJ s.c.a,dJ s.c.b,dJ s.c.c,dJ s.c.d]; let B:=((0 != (0:Int))=true→True∧rD (dQ false)=rD (dQ true)); let r:=y; let C:=fun (i:Nat)=>((i:Int)≤r); let p:=(dJ o.1=dJ o.1); let q:=(dJ o.2.1=dJ o.2.1); let D:=((dJ s.bits=dJ s.bits)∧(dJ s.c.a=dJ s.c.a)∧(dJ s.c.b=dJ s.c.b)∧(dJ s.c.c=dJ s.c.c)∧(dJ s.c.d=dJ s.c.d)∧(dJ s.gtw=dJ s.gtw)∧(dJ s.gth=dJ s.gth)∧(s.ord.length=s.ord.length)∧(s.ims.length=s.ims.length)∧(s.ops.length=s.ops.length)∧True); let E:=((Im.ds (zQk (⟨s.bits,s.c,s.gtw,s.gth,ints (is s.ord),zQc (ims s.ims),zQb (ops s.ops)⟩:Scr)))=(Im.ds (zQk (⟨s.bits,s.c,s.gtw,s.gth,ints (is s.ord),zQc (ims s.ims),zQb (ops s.ops)⟩:Scr)))); let F:=(D∧E∧(is s.ord=is s.ord)∧(ims s.ims=ims s.ims)∧(ops s.ops=ops s.ops)∧True); let t:=fun (i:Nat)=>(let aA:=(zQj s.c s.gtw s.gth (i:Int)); [dJ aA.1.a,dJ aA.1.b,dJ aA.1.c,dJ aA.1.d]); let G:=fun (i:Nat)=>fun (j:Nat)=>((zQj s.c s.gtw s.gth (i:Int)).1.b+j≤(zQj s.c s.gtw s.gth (i:Int)).1.d); let u:=fun (i:Nat)=>(dJ (i:Int)=dJ (i:Int)); let v:=fun (i:Nat)=>(D∧E∧((t i)=(t i))∧((Im.ds (regI (⟨s.bits,s.c,s.gtw,s.gth,ints (is s.ord),zQc (ims s.ims),zQb (ops s.ops)⟩:Scr) ((zQj s.c s.gtw s.gth (i:Int)).1:Rc)))=(Im.ds (regI (⟨s.bits,s.c,s.gtw,s.gth,ints (is s.ord),zQc (ims s.ims),zQb (ops s.ops)⟩:Scr) ((zQj s.c s.gtw s.gth (i:Int)).1:Rc))))∧(is s.ord=is s.ord)∧(ims s.ims=ims s.ims)∧(ops s.ops=ops s.ops)∧True); let H:=fun (i:Nat)=>fun (k:Nat)=>((zQj s.c s.gtw s.gth (i:Int)).1.a+k≤(zQj s.c s.gtw s.gth (i:Int)).1.c); let I:=fun (i:Nat)=>fun (j:Nat)=>(dJ ((zQj s.c s.gtw s.gth (i:Int)).1.b+(j:Int))=dJ ((zQj s.c s.gtw s.gth (i:Int)).1.b+(j:Int))); let h:=fun (i:Nat)=>fun (k:Nat)=>(wK (((zQj s.c s.gtw s.gth (i:Int)).1.a+(k:Int)) - s.c.a)); let l:=fun (i:Nat)=>fun (j:Nat)=>(wK (((zQj s.c s.gtw s.gth (i:Int)).1.b+(j:Int)) - s.c.b)); tU3 ((AnsG prog 7 0 [AV.agg [cJ s.b,cJ s.x,cJ s.y,cJ s.w,cJ s.h,cJ s.tw,cJ s.th,cD (dS s.on s.oxs),cD (dS s.pn s.pxs),cD (dS s.rn s.rxs)]] [] ⟨AV.agg [cJ s.bits,cJ s.c.a,cJ s.c.b,cJ s.c.c,cJ s.c.d,cJ s.gtw,cJ s.gth,Cl.ref 0 s.ord.length,Cl.ref 1 s.ims.length,Cl.ref 2 s.ops.length],[bR 3 1 (is s.ord),bR 43 28 (ims s.ims),bR 61 12 (ops s.ops)],false⟩)∧tU3 ((Ans prog 8 [rA z] (rT [(imR (zQk (⟨s.bits,s.c,s.gtw,s.gth,ints (is s.ord),zQc (ims s.ims),zQb (ops s.ops)⟩:Scr))),rJ 0,rJ 0]))∧tU6 (tU8 ((Ans prog 9 [rA A,rJ s.gtw,rJ s.gth] (rT [rJ o.1,rJ o.2.1,rD (dQ o.2.2)]))∧tU7 ((Ans prog 10 [] (rD (dQ true)))∧tU2 (((!true)=false→tU3 (B∧((0 != (0:Int))=false→True∧((∃ i:Nat,(C i)∧(((0=0)∧(0=0)∧p∧q∧(dJ 0=dJ (i:Int))∧True)∧F))∧∀ i:Nat,let J:=(decide ((i:Int) < y)); let e:=(zQj s.c s.gtw s.gth (i:Int)); let K:=(e.1.d - e.1.b); let L:=(e.1.c - e.1.a); let g:=(e.1:Rc); (C i)→tU5 ((J=true→tU7 ((Ans prog 11 [rA A,rJ s.gtw,rJ s.gth,rJ (i:Int)] (rT [rA (t i),rD (dQ e.2)]))∧tU8 ((Ans prog 12 [rA z,rA (t i)] (rT [(imR (regI (⟨s.bits,s.c,s.gtw,s.gth,ints (is s.ord),zQc (ims s.ims),zQb (ops s.ops)⟩:Scr) g)),rJ 0]))∧tU8 (B∧((0 != (0:Int))=false→tU3 ((∃ j:Nat,(G i j)∧(((0=0)∧(0=0)∧p∧q∧(u i)∧(0=0)∧(0=0)∧(dJ e.1.b=dJ (e.1.b+(j:Int)))∧True)∧(v i)))∧∀ j:Nat,let w:=(e.1.b+(j:Int)); let M:=(decide (w < e.1.d)); let m:=(wK (w - e.1.b)); (G i j)→tU4 ((M=true→tU3 ((∃ k:Nat,(H i k)∧(((0=0)∧(0=0)∧p∧q∧(u i)∧(0=0)∧(0=0)∧(I i j)∧(dJ e.1.a=dJ (e.1.a+(k:Int)))∧True)∧(v i)))∧∀ k:Nat,let x:=(e.1.a+(k:Int)); let N:=(decide (x < e.1.c)); let n:=(wK (x - e.1.a)); (H i k)→tU4 ((N=true→True∧tU8 ((Ans prog 13 [(imR (regI (⟨s.bits,s.c,s.gtw,s.gth,ints (is s.ord),zQc (ims s.ims),zQb (ops s.ops)⟩:Scr) g)),rJ n,rJ m] ((let aA:=(Im.at_ (regI (⟨s.bits,s.c,s.gtw,s.gth,ints (is s.ord),zQc (ims s.ims),zQb (ops s.ops)⟩:Scr) g) n m); rA [dK aA.a,dK aA.b,dK aA.c,dK aA.al,dK aA.f])))∧tU3 (tU8 ((Ans prog 13 [(imR (zQk (⟨s.bits,s.c,s.gtw,s.gth,ints (is s.ord),zQc (ims s.ims),zQb (ops s.ops)⟩:Scr))),rJ (h i k),rJ (l i j)] ((let aA:=(Im.at_ (zQk (⟨s.bits,s.c,s.gtw,s.gth,ints (is s.ord),zQc (ims s.ims),zQb (ops s.ops)⟩:Scr)) (h i k) (l i j)); rA [dK aA.a,dK aA.b,dK aA.c,dK aA.al,dK aA.f])))∧True∧(true=true)∧(((!((((Im.at_ (regI (⟨s.bits,s.c,s.gtw,s.gth,ints (is s.ord),zQc (ims s.ims),zQb (ops s.ops)⟩:Scr) g) n m).a==(Im.at_ (zQk (⟨s.bits,s.c,s.gtw,s.gth,ints (is s.ord),zQc (ims s.ims),zQb (ops s.ops)⟩:Scr)) (h i k) (l i j)).a) && (((Im.at_ (regI (⟨s.bits,s.c,s.gtw,s.gth,ints (is s.ord),zQc (ims s.ims),zQb (ops s.ops)⟩:Scr) g) n m).b==(Im.at_ (zQk (⟨s.bits,s.c,s.gtw,s.gth,ints (is s.ord),zQc (ims s.ims),zQb (ops s.ops)⟩:Scr)) (h i k) (l i j)).b) && (((Im.at_ (regI (⟨s.bits,s.c,s.gtw,s.gth,ints (is s.ord),zQc (ims s.ims),zQb (ops s.ops)⟩:Scr) g) n m).c==(Im.at_ (zQk (⟨s.bits,s.c,s.gtw,s.gth,ints (is s.ord),zQc (ims s.ims),zQb (ops s.ops)⟩:Scr)) (h i k) (l i j)).c) && true))) && (((Im.at_ (regI (⟨s.bits,s.c,s.gtw,s.gth,ints (is s.ord),zQc (ims s.ims),zQb (ops s.ops)⟩:Scr) g) n m).al==(Im.at_ (zQk (⟨s.bits,s.c,s.gtw,s.gth,ints (is s.ord),zQc (ims s.ims),zQb (ops s.ops)⟩:Scr)) (h i k) (l i j)).al) && (((Im.at_ (regI (⟨s.bits,s.c,s.gtw,s.gth,ints (is s.ord),zQc (ims s.ims),zQb (ops s.ops)⟩:Scr) g) n m).f==(Im.at_ (zQk (⟨s.bits,s.c,s.gtw,s.gth,ints (is s.ord),zQc (ims s.ims),zQb (ops s.ops)⟩:Scr)) (h i k) (l i j)).f) && true))))=true→True∧rD (dQ false)=rD (dQ true))∧((!((((Im.at_ (regI (⟨s.bits,s.c,s.gtw,s.gth,ints (is s.ord),zQc (ims s.ims),zQb (ops s.ops)⟩:Scr) g) n m).a==(Im.at_ (zQk (⟨s.bits,s.c,s.gtw,s.gth,ints (is s.ord),zQc (ims s.ims),zQb (ops s.ops)⟩:Scr)) (h i k) (l i j)).a) && (((Im.at_ (regI (⟨s.bits,s.c,s.gtw,s.gth,ints (is s.ord),zQc (ims s.ims),zQb (ops s.ops)⟩:Scr) g) n m).b==(Im.at_ (zQk (⟨s.bits,s.c,s.gtw,s.gth,ints (is s.ord),zQc (ims s.ims),zQb (ops s.ops)⟩:Scr)) (h i k) (l i j)).b) && (((Im.at_ (regI (⟨s.bits,s.c,s.gtw,s.gth,ints (is s.ord),zQc (ims s.ims),zQb (ops s.ops)⟩:Scr) g) n m).c==(Im.at_ (zQk (⟨s.bits,s.c,s.gtw,s.gth,ints (is s.ord),zQc (ims s.ims),zQb (ops s.ops)⟩:Scr)) (h i k) (l i j)).c) && true))) && (((Im.at_ (regI (⟨s.bits,s.c,s.gtw,s.gth,ints (is s.ord),zQc (ims s.ims),zQb (ops s.ops)⟩:Scr) g) n m).al==(Im.at_ (zQk (⟨s.bits,s.c,s.gtw,s.gth,ints (is s.ord),zQc (ims s.ims),zQb (ops s.ops)⟩:Scr)) (h i k) (l i j)).al) && (((Im.at_ (regI (⟨s.bits,s.c,s.gtw,s.gth,ints (is s.ord),zQc (ims s.ims),zQb (ops s.ops)⟩:Scr) g) n m).f==(Im.at_ (zQk (⟨s.bits,s.c,s.gtw,s.gth,ints (is s.ord),zQc (ims s.ims),zQb (ops s.ops)⟩:Scr)) (h i k) (l i j)).f) && true))))=false→tU3 (∃ k':Nat,(e.1.a+k'≤e.1.c)∧(L.toNat - k' < L.toNat - k)∧(((0=0)∧(0=0)∧p∧q∧(u i)∧(0=0)∧(0=0)∧(I i j)∧(dJ (wK (x+1))=dJ (e.1.a+(k':Int)))∧True)∧(v i)))))))))∧(N=false→tU3 (∃ j':Nat,(e.1.b+j'≤e.1.d)∧(K.toNat - j' < K.toNat - j)∧(((0=0)∧(0=0)∧p∧q∧(u i)∧(0=0)∧(0=0)∧(dJ (wK (w+1))=dJ (e.1.b+(j':Int)))∧True)∧(v i)))))))∧(M=false→tU3 (∃ i':Nat,((i':Int)≤r)∧(r.toNat - i' < r.toNat - i)∧(((0=0)∧(0=0)∧p∧q∧(dJ (wK ((i:Int)+1))=dJ (i':Int))∧True)∧F))))))))))∧(J=false→True∧rD (dQ true)=rD (dQ true)))))))∧((!true)=(!false)→tU2 (rD (dQ false)=rD (dQ true))))))))))) ?_
  delta dJ dK dQ cJ wK dS rJ
  simp only [sS,zKb]
  simp only [zZD,zZd,zQG]
  have hS:(⟨s.bits,s.c,s.gtw,s.gth,s.ord,s.ims,s.ops⟩:Scr)=s.scr:=rfl
  simp only [hS]
  have hr:s.scr.run.1=0:=by rw [s.scr_run]
  have hso:s.scr.ops=s.ops:=rfl
  have lo:=s.ops_len
  have CF:=s.c_facts
  have FF:=s.facts
  have hM:∀ n:Nat,n≤100→n≤maxLen:=fun n h=>by unfold maxLen; omega
  have hn:=s.neat
  have hu:∀ m∈s.scr.ims,m.isU:=s.ims_isU
  have li:=s.ims_len
  have hI:s.scr.ims.length≤1000000:=by show s.ims.length≤_; omega
  obtain ⟨nx,ny,e1,e2,n1,n2,eN,p1,p2⟩:=hn.num
  have hz:(cntS s.c s.gtw s.gth).2.2=true→(cntS s.c s.gtw s.gth).1≠0:=fun _=>by rw [show (cntS s.c s.gtw s.gth).1=nx from e1]; omega
  have eN:wrap .i64 ((cntS s.c s.gtw s.gth).1*(cntS s.c s.gtw s.gth).2.1)=nx*ny:=eN
  have ti:=zYV s.c.a s.c.b s.c.c s.c.d s.gtw s.gth
  have nf:((0:Int) != 0)=true→false=true:=fun h=>absurd h (by decide)
  generalize hM2:nx*ny=M at *
  rw [eN]
  refine ⟨jXS s hs,zJI s.scr hu hI hn.rend,ti,⟨⟨nf,fun _=>⟨⟨0,by omega,rfl⟩,fun i hi=>⟨fun hlt=>?_,fun _=>trivial⟩⟩⟩,id⟩⟩
  have R:=hn.rect e1 e2 n1 n2 (i:=(i:Int)) ⟨by omega,by omega⟩
  have ta:=jXO s.c.a s.c.b s.c.c s.c.d s.gtw s.gth (i:Int) hz
  obtain ⟨R1,R2,R3,R4⟩:=R
  have R0:zQj s.c s.gtw s.gth (i:Int)=(zY6 s.scr nx i,true):=jWi R1 (by rw [eN]; exact hlt)
  simp only [R0] at ta ⊢
  generalize zY6 s.scr nx i=r at *
  obtain ⟨x1,x2,x3⟩:=R4.x
  obtain ⟨y1,y2,y3⟩:=R4.y
  have x1:s.c.a≤r.a:=x1
  have x3:r.c≤s.c.c:=x3
  have y1:s.c.b≤r.b:=y1
  have y3:r.d≤s.c.d:=y3
  have he:r.empty=false:=by rw [Rc.empty_iff]; omega
  have hce:s.scr.c.empty=false:=by
   show s.c.empty=false
   rw [Rc.empty_iff]; omega
  have hcv:s.scr.c.covers r=true:=by
   unfold Rc.covers
   rw [he,hce]
   have a:s.scr.c.a≤r.a:=x1
   have b:s.scr.c.b≤r.b:=y1
   have c:r.c≤s.scr.c.c:=x3
   have d:r.d≤s.scr.c.d:=y3
   simp [a,b,c,d]
  have hO:s.scr.ops.length≤100000:=by show s.ops.length≤_; omega
  refine ⟨ta,zWV s.scr r hu hI hn.chk ⟨he,hcv⟩ (hn.good R4) hO,⟨nf,fun _=>⟨⟨0,by omega,by omega⟩,fun j hj=>⟨fun jl=>⟨⟨0,by omega,by omega⟩,fun k hk=>⟨fun kl=>?_,fun kg=>⟨j+1,by omega,by omega,?_⟩⟩⟩,fun jg=>⟨i+1,by omega,by omega,?_⟩⟩⟩⟩⟩
  ·have P1:=hn.region_px R4 (x:=r.a+k) (y:=r.b+j) ⟨by omega,by omega⟩ ⟨by omega,by omega⟩
   have P2:=hn.image_px (x:=r.a+k) (y:=r.b+j) (jJu (r:=s.scr.c) ⟨⟨by show s.c.a≤_; omega,by show _ < s.c.c; omega⟩,by show s.c.b≤_; omega,by show _ < s.c.d; omega⟩ ⟨⟨by show _≤s.c.a; omega,by show s.c.c≤_; omega⟩,by show _≤s.c.b; omega,by show s.c.d≤_; omega⟩)
   have P2:(zQk s.scr).at_ (r.a+k - s.c.a) (r.b+j - s.c.b)=ptV s.scr (r.a+k) (r.b+j):=P2
   have I1:=zYr (regI s.scr r) (r.a+k - r.a) (r.b+j - r.b) (zUX _ _ _)
   have I2:=zYr (zQk s.scr) (r.a+k - s.c.a) (r.b+j - s.c.b) (zUX _ _ _)
   rw [IntWalk.i64_in (r.a+(k:Int) - r.a) ⟨by omega,by omega⟩,IntWalk.i64_in (r.b+(j:Int) - r.b) ⟨by omega,by omega⟩,IntWalk.i64_in (r.a+(k:Int) - s.c.a) ⟨by omega,by omega⟩,IntWalk.i64_in (r.b+(j:Int) - s.c.b) ⟨by omega,by omega⟩,IntWalk.i64_in (r.a+(k:Int)+1) ⟨by omega,by omega⟩]
   rw [P1] at I1 ⊢
   rw [P2] at I2 ⊢
   refine ⟨I1,I2,fun h=>?_,fun _=>⟨k+1,by omega,by omega,by omega⟩⟩
   simp at h
  ·rw [IntWalk.i64_in _ ⟨by omega,by omega⟩]; omega
  ·rw [IntWalk.i64_in _ ⟨by omega,by omega⟩]; omega
end
end Go.Proofs.YtbnmadpcdlnleaaGreatDoor
namespace Go.Proofs.YtbnmadpcdlnleaaGreatDoor.closed
open Go
set_option linter.unusedVariables false
set_option linter.unusedSimpArgs false
def headL:List Nat:=[104,97,114,110,101,115,115,32,51,97,55,100,98,54,49,54,50,48,101,51,57,48,101,53,97,56,48,50,57,102,99,101,101,102,51,51,99,54,54,54,97,56,53,56,102,56,55,53,54,101,99,55,102,102,49,50,100,101,101,50,54,101,102,56,98,98,50,56,102,51,52,57,32,99,117,116,32,97,116,32,99,111,109,112,111,115,105,116,111,114,47,99,111,109,112,111,115,105,116,111,114,116,111,112,46,84,111,112,84,105,108,101,115,84,111,103,101,116,104,101,114,32,99,111,109,112,111,115,105,116,111,114,47,99,111,109,112,111,115,105,116,111,114,116,111,112,46,84,111,112,79,110,101,83,116,101,112,73,115,72,97,108,102,65,85,110,105,116,32,99,111,109,112,111,115,105,116,111,114,47,99,111,109,112,111,115,105,116,111,114,116,111,112,46,84,111,112,84,114,97,99,101,69,120,112,108,97,105,110,115,32,99,111,109,112,111,115,105,116,111,114,47,99,111,109,112,111,115,105,116,111,114,116,111,112,46,84,111,112,65,110,121,79,114,100,101,114,79,102,82,117,108,101,115]
set_option maxRecDepth 100000 in
theorem jWH:Tryz.prog.initOrder=String.ofList (headL.map Char.ofNat):=by kernel_rfl
set_option maxRecDepth 100000 in
theorem zGR:Tryz.prog.initOrder.toList=(headL.map Char.ofNat):=by rw [jWH,String.toList_ofList]
set_option maxRecDepth 100000 in
theorem enters:Tryz.prog.mayEnter=true:=by
 unfold Program.mayEnter Program.doorFits
 rw [zGR]
 kernel_rfl
set_option maxRecDepth 100000 in
theorem liftsNot:Tryz.prog.liftsFinal=false:=by
 unfold Program.liftsFinal Program.headLifts
 rw [zGR]
 kernel_rfl
set_option maxRecDepth 100000 in
theorem made:Tryz.prog.make=some .cut:=by
 unfold Program.make
 rw [zGR]
 kernel_rfl
theorem own:ownKnob Tryz.prog.godebug=none:=by kernel_rfl
theorem laidOut:laidOutB Tryz.prog=true:=by kernel_rfl
theorem mapsRow:mapsRowed Tryz.prog=true:=by kernel_rfl
theorem noStops:(Tryz.prog.stops==[])=true:=by kernel_rfl
theorem noKnobs:(Tryz.prog.stopKnobs==[])=true:=by kernel_rfl
theorem plain:Tryz.prog.plainKeys=true:=by kernel_rfl
theorem heard:Tryz.prog.stopsHeard=true:=by kernel_rfl
end Go.Proofs.YtbnmadpcdlnleaaGreatDoor.closed
namespace Go.Proofs.YtbnmadpcdlnleaaGreatDoor
open Go.IntKind (wrap)
open Go.RowKit
set_option linter.unusedVariables false
set_option linter.unusedSimpArgs false
set_option maxRecDepth 20000
section
open Go.ChangeShapes
open Go.WideShapes
def zG9 {H:Type} (P:Program):Nat→TypeId→DataW H→Nat→Option DV
 | 0,_,_,_=>none
 | fuel+1,t,d,i=>
  match P.underlying t,d with
  | some (.int k),.lit (.int k' n)=>if i=0∧k'=k then some (.int k n) else none
  | some .bool,.lit (.bool b)=>if i=0 then some (.bool b) else none
  | some .string,.lit (.string s)=>if i=0∧s.length≤maxLen then some (.str ⟨s.toArray⟩) else none
  | some (.struct fs),.agg ds=>(fs.toList.zip ds).findSome? fun x=>if x.1.offset≤i∧i < x.1.offset+P.cellsOf x.1.type then zG9 P fuel x.1.type x.2 (i - x.1.offset) else none
  | some (.array _ e),.agg ds=>if P.cellsOf e=0 then none else match ds[i / P.cellsOf e]? with
   | some d=>zG9 P fuel e d (i % P.cellsOf e)
   | none=>none
  | _,_=>none
section
variable {H:Type} {enc:TypeId × Value→H} {P:Program} {w:World}
theorem jXI {sp:Nat→Bool} {va:Bool} {V:Nat→Prop}:∀ (fuel:Nat) (t:TypeId) (cs:List Value) (d:DataW H) (ps:List MemPlace) (q i:Nat) (dv:DV),
  DataW.trod enc P w 0 sp va fuel t cs=some (d,ps)→zG9 P q t d i=some dv→∃ u,cs[i]?=some u∧RepD w V dv u:=by
 intro fuel
 induction fuel with
 | zero=>intro t cs d ps q i dv h; simp [DataW.trod] at h
 | succ fuel ih=>
  intro t cs d ps q i dv h hq
  cases q with
  | zero=>simp [zG9] at hq
  | succ q=>
  unfold DataW.trod at h
  unfold zG9 at hq
  split at h
  ·rename_i b hu
   simp only [Option.some.injEq,Prod.mk.injEq] at h
   obtain ⟨rfl,_⟩:=h
   simp only [hu] at hq
   split at hq
   ·rename_i e; subst e; cases hq; exact ⟨_,rfl,by simp only [RepD]⟩
   ·cases hq
  ·rename_i k k' n hu
   split at h
   ·rename_i hk
    obtain ⟨rfl,hwf⟩:=hk
    simp only [Option.some.injEq,Prod.mk.injEq] at h
    obtain ⟨rfl,_⟩:=h
    simp only [hu] at hq
    split at hq
    ·rename_i e; obtain ⟨rfl,_⟩:=e; cases hq; exact ⟨_,rfl,by simp only [RepD]; exact ⟨trivial,hwf⟩⟩
    ·cases hq
   ·cases h
  ·rename_i hu
   simp only [hu] at hq
   cases hq
  ·rename_i s hu
   split at h
   ·simp only [Option.some.injEq,Prod.mk.injEq] at h
    obtain ⟨rfl,_⟩:=h
    simp only [hu] at hq
    split at hq
    ·rename_i e; obtain ⟨rfl,hl⟩:=e; cases hq
     exact ⟨_,rfl,by simp only [RepD]; exact ⟨by simp,by simpa using hl⟩⟩
    ·cases hq
   ·cases h
  ·rename_i hu; simp only [hu] at hq; cases hq
  ·rename_i hu; simp only [hu] at hq; cases hq
  ·rename_i hu; simp only [hu] at hq; cases hq
  ·rename_i hu; simp only [hu] at hq; cases hq
  ·rename_i fs hu
   split at h
   ·obtain ⟨xs,hxs,h⟩:=Option.map_eq_some_iff.1 h
    simp only [Prod.mk.injEq] at h
    obtain ⟨rfl,_⟩:=h
    simp only [hu] at hq
    obtain ⟨x,hx,hx2⟩:=List.exists_of_findSome?_eq_some hq
    split at hx2
    ·rename_i hr
     obtain ⟨j,hj,e⟩:=List.getElem_of_mem hx
     rw [List.getElem_zip] at e
     simp only [List.length_zip,List.length_map] at hj
     have h1:=mapM_some_get hxs j _ (List.getElem?_eq_getElem (by omega))
     rw [List.getElem?_eq_getElem (show j < xs.length by omega)] at h1
     subst e
     simp only [List.getElem_map] at hx2 hr
     obtain ⟨u,hu1,hu2⟩:=ih _ _ _ _ q _ dv h1 hx2
     refine ⟨u,?_,hu2⟩
     rw [List.getElem?_take,if_pos (by omega),List.getElem?_drop] at hu1
     rwa [show _+(i - _)=i from Nat.add_sub_of_le hr.1] at hu1
    ·cases hx2
   ·cases h
  ·rename_i n e hu
   split at h
   ·obtain ⟨xs,hxs,h⟩:=Option.map_eq_some_iff.1 h
    simp only [Prod.mk.injEq] at h
    obtain ⟨rfl,_⟩:=h
    simp only [hu] at hq
    split at hq
    ·cases hq
    ·rename_i hne
     split at hq
     ·rename_i d hd
      rw [List.getElem?_map] at hd
      obtain ⟨x,hx,rfl⟩:=Option.map_eq_some_iff.1 hd
      have hl:=mapM_some_length hxs
      simp only [List.length_range] at hl
      have hlt:i / P.cellsOf e < xs.length:=(List.getElem?_eq_some_iff.1 hx).1
      have h1:=mapM_some_get hxs (i / P.cellsOf e) (i / P.cellsOf e) (List.getElem?_range (by omega))
      rw [hx] at h1
      obtain ⟨u,hu1,hu2⟩:=ih _ _ _ _ q _ dv h1 hq
      refine ⟨u,?_,hu2⟩
      rw [List.getElem?_take,if_pos (Nat.mod_lt _ (Nat.pos_of_ne_zero hne)),List.getElem?_drop,Nat.mul_comm] at hu1
      rwa [Nat.div_add_mod] at hu1
     ·cases hq
   ·cases h
  all_goals first | (cases h; done) | (clear h ih; simp_all; done) | (clear h ih; split at hq <;> simp_all; done)
end
def jUs (P:Program) (laid:List (String × DataW Unit)) (p:Nat × List DV):Prop:=
 ∃ x t,x∈laid∧P.globalNamed x.1=some p.1∧(P.globals[p.1]?).map (·.type)=some t∧(List.range p.2.length).map (zG9 P 6 t x.2)=p.2.map some
def jKL (P:Program) (laid:List (String × DataW Unit)) (g:Nat):Prop:=∃ x,x∈laid∧P.globalNamed x.1=some g∧∃ nm d,x.2=.iface nm d
def jGy (P:Program) (g:Nat):Prop:=∀ w:World,w.ShapedOpen P→∃ m,w.cell? ⟨g,0,none⟩=some (.int .i64 m)
theorem jQ9 {H:Type} {enc:TypeId × Value→H} {P:Program} {w:World} {sp:Nat→Bool} {va:Bool}:∀ {fuel:Nat} {t:TypeId} {cs:List Value} {nm:String} {d:DataW H} {ps:List MemPlace},DataW.trod enc P w 0 sp va fuel t cs=some (.iface nm d,ps)→∃ u v,cs=[.iface u v]:=by
 intro fuel t cs nm d ps h
 cases fuel with
 | zero=>simp [DataW.trod] at h
 | succ fuel=>
  unfold DataW.trod at h
  split at h
  all_goals first
   | exact ⟨_,_,rfl⟩
   |(simp at h; done)
   |(split at h <;> simp at h; done)
   |(exfalso; obtain ⟨x,_,h⟩:=Option.map_eq_some_iff.1 h; cases h; done)
   |(exfalso; split at h; (obtain ⟨x,_,h⟩:=Option.bind_eq_some_iff.1 h; obtain ⟨y,_,h⟩:=Option.map_eq_some_iff.1 h; cases h); cases h)
   |(exfalso; split at h; (split at h; (obtain ⟨x,_,h⟩:=Option.bind_eq_some_iff.1 h; simp only at h; split at h <;> cases h); cases h); cases h)
theorem zKL {P:Program} {w:World}:∀ {l:List (String × DataW Unit)} {ps:List MemPlace},DataW.LaidVars P w l ps→∀ x∈l,∃ g t cs fuel p,P.globalNamed x.1=some g∧(P.globals[g]?).map (·.type)=some t∧w.var? P x.1=some cs∧DataW.trod (fun _=>()) P w 0 (fun _=>true) false fuel t cs.toList=some (x.2,p)
 | [],_,_,x,hx=>by cases hx
 |(n,d)::r,ps,h,x,hx=>by
  obtain ⟨g,t,cs,fuel,p,q,h1,h2,h3,h4,h5,_⟩:=h
  rcases List.mem_cons.1 hx with rfl | hx
  ·exact ⟨g,t,cs,fuel,p,h1,h2,h3,h4⟩
  ·exact zKL h5 x hx
theorem jVy {P:Program} {laid:List (String × DataW Unit)} {w:World} (hm:laidMetH P laid w) (hp:(laid.all fun x=>x.2.handleName?.isNone)=true) (ht:∀ p∈zVK,jUs P laid p) (hs:∀ g∈zWo,jKL P laid g) (hi:∀ g∈zWp,∃ m,w.cell? ⟨g,0,none⟩=some (.int .i64 m)):zJc w (fun _=>True):=by
 rw [MakeChecks.laidMetH_plain _ _ _ hp] at hm
 obtain ⟨ps,hl,_⟩:=hm
 refine ⟨fun p hp _=>?_,fun g hg=>⟨trivial,?_⟩,fun g hg=>⟨trivial,hi g hg⟩⟩
 rotate_left
 ·obtain ⟨x,hx,h1,nm,d,hd⟩:=hs g hg
  obtain ⟨g',t',cs,fuel,q,g1,g2,g3,g4⟩:=zKL hl x hx
  rw [g1] at h1; injection h1 with h1; subst h1
  rw [hd] at g4
  obtain ⟨u,v,hc⟩:=jQ9 g4
  refine ⟨u,v,?_⟩
  rw [World.var?_cell g1 g3 0,← Array.getElem?_toList,hc]
  rfl
 obtain ⟨x,t,hx,h1,h2,h3⟩:=ht p hp
 obtain ⟨g,t',cs,fuel,q,g1,g2,g3,g4⟩:=zKL hl x hx
 rw [g1] at h1; injection h1 with h1; subst h1
 rw [g2] at h2; injection h2 with h2; subst h2
 refine ⟨trivial,RepCells.of_at fun i d hi=>?_⟩
 have hlt:i < p.2.length:=(List.getElem?_eq_some_iff.1 hi).1
 have h4:((List.range p.2.length).map (zG9 P 6 t' x.2))[i]?=(p.2.map some)[i]?:=by rw [h3]
 rw [List.getElem?_map,List.getElem?_range hlt,List.getElem?_map,hi] at h4
 simp only [Option.map_some,Option.some.injEq] at h4
 obtain ⟨u,hu1,hu2⟩:=jXI (V:=fun _=>True) fuel t' cs.toList x.2 q 6 i d g4 h4
 refine ⟨u,?_,hu2⟩
 rw [Nat.zero_add,World.var?_cell g1 g3 i,← Array.getElem?_toList]
 exact hu1
theorem jQ4 {H:Type} {enc:TypeId × Value→H} {C:Checked} {os:Os} {f:FuncId} {fn:Func} {s:ChangeSpec} {tb:TypeId} {laid:List (String × DataW Unit)}
  (own:ownKnob C.prog.godebug=none) (started:os.Started) (noInit:C.prog.inits.idxOf? f=none) (hfn:C.prog.funcs[f]?=some fn)
  (witness:∃ (w:World) (tape:Tape) (i:Input),w.os=os∧(w.forCall tape i).Shaped C.prog∧i.vars=[]∧Input.okWide C.prog (w.forCall tape i) .any w.heap.size f i ∧
   ((s.pre enc C.prog fn [] false (w.forCall tape i).memory i.args∧laidMetH C.prog laid (w.forCall tape i).memory)∧sizedMet enc C.prog fn (OpenSpec.ofChange s) false (w.forCall tape i).memory i.args)∧({}:Assume).holds C.prog (lone (Frame.enter C.prog f i.args .normal) [] (w.forCall tape i)))
  (hspec:∀ ds:List (DataW H),ds.length=fn.params.toList.length→s.fn H ds={ results:=[.lit (.bool true)],args:=ds }) (hvars:s.vars=[])
  (hres:fn.resultTypes=#[tb]) (hb:C.prog.underlying tb=some .bool) (laidO:laidOutB C.prog=true)
  (hread:∀ t∈fn.params.toList,C.prog.readableRec t=true∧t < C.prog.types.size)
  (hp:(laid.all fun x=>x.2.handleName?.isNone)=true) (ht:∀ p∈zVK,jUs C.prog laid p) (hsn:∀ g∈zWo,jKL C.prog laid g) (hin:∀ g∈zWp,jGy C.prog g)
  (walk:∀ (W:World) (args:Array Value),zJc W (fun _=>True)→Args C.prog W fn.params.toList args.toList→Calls C.prog f args W fun e W'=>e=.returned (.bool true)∧Below W.heap.size W W') :
  ReturnsInHanded {} C os f .any (fun w args=>(s.pre enc C.prog fn [] false w args∧laidMetH C.prog laid w)∧sizedMet enc C.prog fn (OpenSpec.ofChange s) false w args) (s.post enc C.prog fn false true false false):=by
 refine returnsInHanded_of_calls own started noInit witness ?_
 intro w0 tape i0 _ hshape _ hok hpre _
 obtain ⟨_,_,_,fn',hfn',_,_,_,_,hval⟩:=hok
 have efn:=Option.some.inj (hfn'.symm.trans hfn)
 subst efn
 obtain ⟨⟨⟨ds,gs,before,hW0,_⟩,hlaid0⟩,hz⟩:=hpre
 have hW:=DataW.Whole.of_heap (w':=w0.forCall tape i0) (by rfl) hW0
 have hsz:(DataW.weightsEach C.prog (fn'.params.toList++s.plain.varTypes C.prog) (ds++gs)).all (·≤reachBytes)=true:=hz.weights hW0
 have hlaid:laidMetH C.prog laid (w0.forCall tape i0):=laidMetH.of_heap (w:=(w0.forCall tape i0).memory) (by rfl) hlaid0
 suffices h:Calls C.prog f i0.args (w0.forCall tape i0) fun e W'=>∃ v,e=.returned v∧s.post enc C.prog fn' false true false false (w0.forCall tape i0) i0.args v W' from
  h.mono fun e W' ⟨v,he,hp⟩=>by subst he; exact ChangeSpec.post_blind hp
 generalize w0.forCall tape i0=W at *
 generalize i0.args=args at *
 have hW':=hW
 obtain ⟨p,q,hA,hV,rfl,_,_⟩:=hW
 rw [hvars] at hV
 obtain ⟨rfl,rfl⟩:=trodVars_none hV
 have hvt:s.plain.varTypes C.prog=[]:=by simp [ChangeSpec.plain,DataSpec.varTypes,hvars]
 rw [hvt,List.append_nil,List.append_nil] at hsz
 obtain ⟨ha,hlen⟩:=zKV hA (fun n hn=>by simpa using List.all_eq_true.1 hsz n hn) (fun j t v ht hv=>zG8 (hval j t v (by simpa using ht) (by simpa using hv)))
 refine (walk W args (jVy hlaid hp ht hsn fun g hg=>hin g hg W hshape) ha).mono fun e W' ⟨he,bel⟩=>?_
 subst he
 have hs:=hspec ds hlen
 refine ⟨_,rfl,ds,[],p++[],[],p,[],hW',?_,?_,?_,bel.frame _,fun h=>by cases h⟩
 ·rw [List.append_nil,hs,hres]
  exact trodAll_mk1 (shut_bool hb _)
 ·rw [List.append_nil,hs]
  exact zVX laidO bel hread hA
 ·rw [List.append_nil,hs,hvars]
  rfl
end
open Go.Proofs.Tryz (prog)
abbrev jYu:List (String × DataW Unit):=[("compositor/operator.rules", Rows.laid_compositor_operator_rules),("compositor/blend.names", Rows.laid_compositor_blend_names)]
set_option maxRecDepth 100000 in
theorem jGn:∀ p∈zVK,jUs prog jYu p:=by
 intro p hp
 simp only [zVK,List.mem_cons,List.not_mem_nil,or_false] at hp
 rcases hp with rfl | rfl
 ·exact ⟨("compositor/blend.names", Rows.laid_compositor_blend_names),306,(List.mem_cons_of_mem _ List.mem_cons_self),by kernel_rfl,by kernel_rfl,by kernel_rfl⟩
 ·exact ⟨("compositor/operator.rules", Rows.laid_compositor_operator_rules),318,List.mem_cons_self,by kernel_rfl,by kernel_rfl,by kernel_rfl⟩
set_option maxRecDepth 100000 in
theorem jUy:∀ g∈zWo,jKL prog jYu g:=by
 intro g hg
 simp [zWo] at hg
theorem jUR:∀ g∈zWp,jGy prog g:=by
 intro g hg
 simp only [zWp,List.mem_cons,List.not_mem_nil,or_false] at hg
theorem jJ8:(jYu.all fun x=>x.2.handleName?.isNone)=true:=by kernel_rfl
set_option maxRecDepth 100000 in
theorem jWU (os:Os) (args:Array Value):laidMetH prog jYu ((World.doorLaid prog 400 os).forCall (fun _ _=>0) ⟨#[],args,[]⟩).memory:=
 laidMetH_of_parts3 (fuel:=8) (laidMet_of_run' 8 (by kernel_rfl) (by kernel_rfl)) (by kernel_rfl) (by kernel_rfl)
end Go.Proofs.YtbnmadpcdlnleaaGreatDoor
