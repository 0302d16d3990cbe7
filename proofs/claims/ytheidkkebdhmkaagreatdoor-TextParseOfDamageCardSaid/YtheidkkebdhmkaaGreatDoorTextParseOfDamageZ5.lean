/-
  Part 5 of what TextParseOfDamage rests on.
-/
import Derived.Test.YtheidkkebdhmkaaGreatDoorTextParseOfDamageZ4
import Derived.Shelf.Strconv.Itoa3
import Derived.Shelf.Strconv.ErrVarAll
import Derived.Shelf.Strings.Shaped
import Derived.Shelf.Strings.Prefix
import Derived.Shelf.Strings.SplitShaped
import Derived.Shelf.Unicode.DecodeSlow
namespace Go.Proofs.YtheidkkebdhmkaaGreatDoor
open Go.RowKit
set_option linter.unusedVariables false
set_option linter.unusedSimpArgs false
set_option maxRecDepth 20000
set_option maxHeartbeats 4000000
open Go.Proofs.Tryz (prog)
section
attribute [local irreducible] Ans AnsO AnsG AnsN AnsI
open Go.Lib
def imK (s:Scr) (k:Nat):Im:=(s.ims[k]?).getD .zero
theorem jWb {s:Scr} {k:Nat} (h:k < s.ims.length):imK s k=s.ims[k]:=by unfold imK; rw [List.getElem?_eq_getElem h]; rfl
def imH (m:Im):Lb:=zQH zQ0 [m.w,m.h]++[10]
def fmtA (s:Scr) (k:Nat):Lb:=hdTx s++orTx s++(s.ims.take k).flatMap imTx
def fmtC (s:Scr) (j:Nat):Lb:=fmtA s s.ims.length++(s.ops.take j).flatMap opLn
theorem zHd (s:Scr):fmtC s s.ops.length=fmtT s:=by
 unfold fmtC fmtA fmtT
 rw [List.take_length,List.take_length]
theorem jQl {s:Scr} {k:Nat} (h:k < s.ims.length):fmtA s (k+1)=fmtA s k++imTx s.ims[k]:=by
 unfold fmtA
 rw [List.take_succ_eq_append_getElem h,List.flatMap_append]
 simp only [List.append_assoc,List.flatMap_cons,List.flatMap_nil,List.append_nil]
theorem jQk {s:Scr} {j:Nat} (h:j < s.ops.length):fmtC s (j+1)=fmtC s j++opLn s.ops[j]:=by
 unfold fmtC
 rw [List.take_succ_eq_append_getElem h,List.flatMap_append]
 simp only [List.append_assoc,List.flatMap_cons,List.flatMap_nil,List.append_nil]
theorem zKK {α:Type} {f:α→Lb} {B:Nat} {l:List α} (h:∀ a∈l,(f a).length≤B):(l.flatMap f).length≤l.length*B:=by
 induction l with
 | nil=>simp
 | cons a l ih=>
  have h1:=h a (by simp)
  have h2:=ih fun b hb=>h b (by simp [hb])
  rw [List.flatMap_cons,List.length_append,List.length_cons,Nat.add_mul]
  omega
theorem zXc {w:Lb} {l:List Int} {n:Nat} (h:∀ x∈l,-9223372036854775808≤x∧x≤9223372036854775807) (hn:l.length=n):(zQH w l).length≤w.length+22*n:=by
 rw [← hn]; exact zVe h
theorem zWm {p:Px} (h:pxIn p):(pxTx p).length≤111:=by
 obtain ⟨h1,h2,h3,h4,h5⟩:=h
 have:(zQH [] (smpP p)).length≤([]:Lb).length+22*5:=zXc (fun x hx=>by
  simp only [smpP,List.mem_cons,List.not_mem_nil,or_false] at hx
  omega) rfl
 unfold pxTx
 rw [List.length_append]
 simp only [List.length_nil,List.length_cons] at this ⊢
 omega
theorem zGR {o:Oq} (h:opOk o=true) (hc:0≤o.opac∧o.opac≤65535):(opTx o).length≤300:=by
 unfold opOk at h
 simp [fitL] at h
 have l1:=zGg o.oper
 have l2:=zVV o.mode
 have b1:=zHm o.iso
 have b2:=zHm o.kno
 have lt:(zYv o).length≤42:=by
  unfold zYv
  simp only [List.length_append,List.length_cons,List.length_nil]; omega
 have lD:(zQH zZ0 [o.image,o.x,o.y,o.mask,o.mx,o.my,o.opac]).length≤4+22*7:=zXc (fun n hn=>by
  simp only [List.mem_cons,List.not_mem_nil,or_false] at hn
  omega) rfl
 have lP:(zQH zZ1 [o.mask,o.mx,o.my,o.opac]).length≤4+22*4:=zXc (fun n hn=>by
  simp only [List.mem_cons,List.not_mem_nil,or_false] at hn
  omega) rfl
 have lT:(zQH (zYv o) [bitN o.iso,bitN o.kno]).length≤(zYv o).length+22*2:=zXc (fun n hn=>by
  simp only [List.mem_cons,List.not_mem_nil,or_false] at hn
  omega) rfl
 unfold opTx
 split
 ·rw [List.length_append]; omega
 ·split
  ·rw [List.length_append]; omega
  ·decide
structure Prt (s:Scr):Prop where
  bits:0≤s.bits∧s.bits≤255
  c:(-2147483648≤s.c.a∧s.c.a≤2147483647)∧(-2147483648≤s.c.b∧s.c.b≤2147483647)∧(-2147483648≤s.c.c∧s.c.c≤2147483647)∧(-2147483648≤s.c.d∧s.c.d≤2147483647)
  t:(0≤s.tw∧s.tw≤4294967295)∧(0≤s.th∧s.th≤4294967295)
  o:∀ x∈s.ord,0≤x∧x≤4294967295
  ol:s.ord.length≤16777216
  il:s.ims.length≤64
  pl:s.ops.length≤4096
  fm:∀ m∈s.ims,m.formed=true
  op:∀ o∈s.ops,opOk o=true∧prtO o=true
theorem jZD {s:Scr} (h:zYz s=true):Prt s:=by
 unfold zYz at h
 simp only [zZX,zYl,Bool.and_eq_true,decide_eq_true_eq] at h
 obtain ⟨⟨⟨⟨⟨⟨⟨⟨⟨h1,h2⟩,h3⟩,h4⟩,h5⟩,h6⟩,h7⟩,h8⟩,h9⟩,h10⟩:=h
 have z:=zXT h7
 simp [fitL] at h1 h2 h3
 simp only [fitL,List.all_eq_true,decide_eq_true_eq] at h4
 simp only [List.all_eq_true] at h7 h8 h10
 unfold zXC at h9
 exact ⟨h1,h2,h3,h4,by omega,h5,h6,h7,fun o ho=>⟨h8 o ho,h10 o ho⟩⟩
theorem Im.wh {m:Im} (h:m.formed=true):(1≤m.w∧m.w≤16777216)∧(1≤m.h∧m.h≤16777216):=by
 have h1:=(Im.formed_of h).1
 have h2:=sizeIm_le' h
 simp [zQ8] at h1
 have h3:=Int.mul_le_mul_of_nonneg_left (by omega:1≤m.h) (by omega:0≤m.w)
 have h4:=Int.mul_le_mul_of_nonneg_right (by omega:1≤m.w) (by omega:0≤m.h)
 omega
theorem jJX {m:Im} (h:imIn m):(imTx m).length≤1862271376:=by
 have hw:=Im.wh h.1
 have hpx:=Im.pixels_len h.1
 have hle:=sizeIm_le' h.1
 have l1:(zQH zQY [m.w,m.h]).length≤5+22*2:=zXc (fun n hn=>by
  simp only [List.mem_cons,List.not_mem_nil,or_false] at hn
  omega) rfl
 have l3:(zQH zQ0 [m.w,m.h]).length≤5+22*2:=zXc (fun n hn=>by
  simp only [List.mem_cons,List.not_mem_nil,or_false] at hn
  omega) rfl
 have hc:=h.2.1
 obtain ⟨c1,c2,c3,c4,c5⟩:=hc
 have l2:(zQH (zQH zQY [m.w,m.h]) (smpP m.c)).length≤(zQH zQY [m.w,m.h]).length+22*5:=zXc (fun x hx=>by
  simp only [smpP,List.mem_cons,List.not_mem_nil,or_false] at hx
  omega) rfl
 have l4:=zKK (f:=pxTx) (B:=111) (l:=m.pixels) fun p hp=>zWm (h.2.2 p hp)
 unfold imTx
 split
 ·simp only [List.length_append,List.length_cons,List.length_nil]; omega
 ·simp only [List.length_append,List.length_cons,List.length_nil]; omega
theorem zWu {s:Scr} (P:Prt s):(zQH zYc [s.bits]).length≤4+22*1∧(zQH zZE [s.c.a,s.c.b,s.c.c,s.c.d]).length≤6+22*4∧(zQH zXa [s.tw,s.th]).length≤5+22*2∧(zQH zZy s.ord).length≤5+22*s.ord.length:=by
 obtain ⟨p1,p2,p3,p4,p5,p6,p7,p8,p9⟩:=P
 refine ⟨zXc (fun n hn=>?_) rfl,zXc (fun n hn=>?_) rfl,zXc (fun n hn=>?_) rfl,zXc (fun n hn=>?_) rfl⟩
 ·simp only [List.mem_cons,List.not_mem_nil,or_false] at hn; omega
 ·simp only [List.mem_cons,List.not_mem_nil,or_false] at hn; omega
 ·simp only [List.mem_cons,List.not_mem_nil,or_false] at hn; omega
 ·have:=p4 n hn; omega
theorem zHe {s:Scr} (P:Prt s) (hI:∀ m∈s.ims,imIn m) (k:Nat):(fmtA s k).length≤130000000000:=by
 have h:=zWu P
 obtain ⟨p1,p2,p3,p4,p5,p6,p7,p8,p9⟩:=P
 have h1:=zKK (f:=imTx) (B:=1862271376) (l:=s.ims.take k) fun m hm=>jJX (hI m (List.mem_of_mem_take hm))
 have h2:(s.ims.take k).length≤64:=by rw [List.length_take]; omega
 have h3:(orTx s).length≤5+22*s.ord.length+1:=by
  unfold orTx
  split
  ·simp only [List.length_append,List.length_cons,List.length_nil]; omega
  ·simp
 unfold fmtA hdTx
 simp only [List.length_append,List.length_cons,List.length_nil]
 omega
theorem jZ8 {s:Scr} (P:Prt s) (hI:∀ m∈s.ims,imIn m) (hq:∀ o∈s.ops,0≤o.opac∧o.opac≤65535) (j:Nat):(fmtC s j).length≤140000000000:=by
 have h:=zHe P hI s.ims.length
 obtain ⟨p1,p2,p3,p4,p5,p6,p7,p8,p9⟩:=P
 have h1:=zKK (f:=opLn) (B:=301) (l:=s.ops.take j) fun o ho=>by
  have hm:=List.mem_of_mem_take ho
  have:=zGR (p9 o hm).1 (hq o hm)
  unfold opLn
  simp only [List.length_append,List.length_cons,List.length_nil]
  omega
 have h2:(s.ops.take j).length≤4096:=by rw [List.length_take]; omega
 unfold fmtC
 rw [List.length_append]
 omega
theorem jVy {m:Im} (h:m.formed=true):(zQH zQ0 [m.w,m.h]).length≤5+22*2:=by
 have hw:=Im.wh h
 exact zXc (fun n hn=>by
  simp only [List.mem_cons,List.not_mem_nil,or_false] at hn
  omega) rfl
theorem samples_ans' (p:Px):Ans prog 32 [RV.agg [DV.int .u16 p.a,DV.int .u16 p.b,DV.int .u16 p.c,DV.int .u16 p.al,DV.int .u16 p.f]] (RV.d (DV.sl 5 (is (smpP p)))):=zUB p
theorem jZY (w:Lb) (p:Px) (hw:w.length≤1000):Ans prog 31 [RV.d (DV.str (toS w)),RV.d (DV.sl 5 (is (smpP p)))] (RV.d (DV.str (toS (zQH w (smpP p))))):=R18_line_ans' w (smpP p) hw (by simp [smpP])
def jWw:Gam where
 pure:=fun f xs=>
  if f=30 then gZ30 xs else
  if f=31 then gZ31 xs else
  if f=32 then gZ32 xs else
  if f=34 then gZ33 xs else
  if f=33 then gZ19 xs else
  none
 modes:=fun f=>
  none
 proc:=fun f xs bs=>
  none
 iter:=fun f cs=>
  none
theorem zUT (s:Scr) (hM:∀ m∈s.ims,m.isU) (hp:∀ m∈s.ims,m.formed=true→imIn m) (hq:∀ o∈s.ops,0≤o.opac∧o.opac≤65535):Ans prog 12 [RV.agg [dJ s.bits,dJ s.c.a,dJ s.c.b,dJ s.c.c,dJ s.c.d,dJ s.tw,dJ s.th,dS s.ord.length (is s.ord),dS s.ims.length (ims s.ims),dS s.ops.length (ops s.ops)]] (RV.tup [RV.d (DV.str (toS (fmtR s).1)),rJ (((fmtR s).2))]):=
 zQj (Γ:=jWw) (let a:=(1,AV.one (Cl.ptr 1 0)); let b:=[(1,bC [cJ s.bits,cJ s.c.a,cJ s.c.b,cJ s.c.c,cJ s.c.d,cJ s.tw,cJ s.th,Cl.d (dS s.ord.length (is s.ord)),Cl.d (dS s.ims.length (ims s.ims)),Cl.d (dS s.ops.length (ops s.ops))])]; let c:=fun (k:Nat)=>(6,aJ (k:Int)); (Ann.seq Ann.leaf (Ann.seq Ann.leaf (Ann.seq Ann.leaf (Ann.seq Ann.leaf (Ann.cut ⟨Nat,fun z=>z=0,fun z=>⟨[a,(5,AV.one (Cl.d (DV.str (toS (hdTx s++orTx s)))))],b⟩,fun z=>0⟩ Ann.leaf fun z=>(Ann.seq (Ann.seq Ann.leaf (Ann.loop ⟨Nat,fun k=>k≤s.ims.length,fun k=>⟨[a,(5,AV.one (Cl.d (DV.str (toS (fmtA s k))))),(c k)],b⟩,fun k=>s.ims.length - k⟩ fun k=>(Ann.seq Ann.leaf (Ann.seq (Ann.seq Ann.leaf (Ann.seq Ann.leaf (Ann.seq Ann.leaf (Ann.seq Ann.leaf (Ann.seq Ann.leaf (Ann.loop ⟨Nat,fun q=>q≤(imK s k).pixels.length,fun q=>⟨[a,(5,AV.one (Cl.d (DV.str (toS (fmtA s k++imH (imK s k)++((imK s k).pixels.take q).flatMap pxTx))))),(c k),(8,AV.one (Cl.d (dS (imK s k).pixels.length (pxs (imK s k).pixels)))),(9,aJ (q:Int))],b⟩,fun q=>(imK s k).pixels.length - q⟩ fun q=>Ann.leaf)))))) Ann.leaf)))) (Ann.seq (Ann.seq Ann.leaf (Ann.loop ⟨Nat,fun j=>j≤s.ops.length,fun j=>⟨[a,(5,AV.one (Cl.d (DV.str (toS (fmtC s j))))),(10,aJ (j:Int))],b⟩,fun j=>s.ops.length - j⟩ fun j=>Ann.leaf)) Ann.leaf)))))))) zQs Tryz.func12 rfl (nL rfl) fun hwf=>by
  refine Eq.mpr (by kernel_rfl:_=(let H:=(decide ((s.ord.length:Int) > 0)); let I:=(s.ops.length:Int); let J:=(s.ims.length:Int); let K:=([dJ s.c.a,dJ s.c.b,dJ s.c.c,dJ s.c.d]); let x:=(toS (hdTx s++orTx s)); let h:=(toS (zQH (ofS (⟨#[116,105,108,101,115]⟩:ByteArray)) (ints ([dJ s.tw,dJ s.th])))); let L:=(⟨#[115,111,108,105,100]⟩:ByteArray); let m:=(toS (zQH (ofS (⟨#[98,105,116,115]⟩:ByteArray)) (ints ([dJ s.bits])))); let n:=(toS (zQH (ofS (⟨#[111,114,100,101,114]⟩:ByteArray)) (ints (is s.ord)))); let y:=(toS (zQH (ofS (⟨#[99,97,110,118,97,115]⟩:ByteArray)) (ints K))); let i:=((m++(⟨#[10]⟩:ByteArray))++y); let M:=(⟨#[105,109,97,103,101]⟩:ByteArray); let A:=(zYz ((sE s):Scr)); let B:=[dJ s.bits,dJ s.c.a,dJ s.c.b,dJ s.c.c,dJ s.c.d,dJ s.tw,dJ s.th,dS s.ord.length (is s.ord),dS s.ims.length (ims s.ims),dS s.ops.length (ops s.ops)]; let N:=(DV.str (⟨#[]⟩:ByteArray)); let O:=[RV.d (DV.str (toS (fmtR s).1)),rJ (fmtR s).2]; let a:=((B=B)∧True); let P:=fun (k:Nat)=>fun (k':Nat)=>(s.ims.length - k' < s.ims.length - k); let Q:=fun (k:Nat)=>fun (k':Nat)=>(dJ (wK ((k:Int)+1))=dJ (k':Int)); let R:=fun (k:Nat)=>fun (q:Nat)=>(q≤(imK s k).pixels.length); let S:=fun (k:Nat)=>(dJ (k:Int)=dJ (k:Int)); tU4 ((Ans prog 30 [RV.agg B] (RV.d (dQ A)))∧True∧(((!A)=true→tU2 (RV.tup [RV.d N,rJ 19]=RV.tup O))∧((!A)=false→tU7 ((Ans prog 31 [RV.d (DV.str (⟨#[98,105,116,115]⟩:ByteArray)),RV.d (dS 1 ([dJ s.bits]))] (RV.d (DV.str m)))∧(m.size+(⟨#[10]⟩:ByteArray).size≤maxLen)∧True∧tU8 ((Ans prog 31 [RV.d (DV.str (⟨#[99,97,110,118,97,115]⟩:ByteArray)),RV.d (dS 4 K)] (RV.d (DV.str y)))∧((m++(⟨#[10]⟩:ByteArray)).size+y.size≤maxLen)∧(i.size+(⟨#[10]⟩:ByteArray).size≤maxLen)∧tU5 ((Ans prog 31 [RV.d (DV.str (⟨#[116,105,108,101,115]⟩:ByteArray)),RV.d (dS 2 ([dJ s.tw,dJ s.th]))] (RV.d (DV.str h)))∧((i++(⟨#[10]⟩:ByteArray)).size+h.size≤maxLen)∧(((i++(⟨#[10]⟩:ByteArray))++h).size+(⟨#[10]⟩:ByteArray).size≤maxLen)∧True∧(true=true)∧(tU4 ((H=true→tU3 ((Ans prog 31 [RV.d (DV.str (⟨#[111,114,100,101,114]⟩:ByteArray)),RV.d (dS s.ord.length (is s.ord))] (RV.d (DV.str n)))∧(n.size+(⟨#[10]⟩:ByteArray).size≤maxLen)∧((((i++(⟨#[10]⟩:ByteArray))++h)++(⟨#[10]⟩:ByteArray)).size+(n++(⟨#[10]⟩:ByteArray)).size≤maxLen)∧True∧∃ z:Nat,(z=0)∧(((0=0)∧(DV.str ((((i++(⟨#[10]⟩:ByteArray))++h)++(⟨#[10]⟩:ByteArray))++(n++(⟨#[10]⟩:ByteArray)))=DV.str x)∧True)∧a)))∧(H=false→∃ z:Nat,(z=0)∧(((0=0)∧(DV.str (((i++(⟨#[10]⟩:ByteArray))++h)++(⟨#[10]⟩:ByteArray))=DV.str x)∧True)∧a))))∧∀ z:Nat,(z=0)→True∧((∃ k:Nat,(k≤s.ims.length)∧(((0=0)∧(DV.str x=DV.str (toS (fmtA s k)))∧(dJ 0=dJ (k:Int))∧True)∧a))∧∀ k:Nat,let T:=(decide ((k:Int) < J)); let U:=(bAt (ims s.ims) ((k:Int).toNat*28+1+1)); let o:=((k:Int).toNat*28); let l:=(toS (fmtA s k)); let V:=(((imK s k).pixels.length:Nat):Int); let p:=(Im.pixels (imQ (ims s.ims) o)); let b:=(pxs (imK s k).pixels); let c:=(nAt (ims s.ims) ((k:Int).toNat*28+1+1+1)); let d:=(nAt (ims s.ims) ((k:Int).toNat*28+1+1+1+1)); let e:=(nAt (ims s.ims) ((k:Int).toNat*28+1+1+1+1+1)); let f:=(nAt (ims s.ims) ((k:Int).toNat*28+1+1+1+1+1+1)); let g:=(nAt (ims s.ims) ((k:Int).toNat*28+1+1+1+1+1+1+1)); let r:=([dJ (nAt (ims s.ims) o),dJ (nAt (ims s.ims) ((k:Int).toNat*28+1))]); let t:=(toS (zQH (ofS M) (ints r))); let C:=(toS (zQH (ofS L) (ints r))); let u:=(ofS C); (k≤s.ims.length)→tU5 ((T=true→tU3 ((0≤(k:Int)∧(k:Int) < J∧(k:Int).toNat*28 < (ims s.ims).length)∧(imQr (ims s.ims) o)∧tU4 ((U=true→tU6 ((Ans prog 31 [RV.d (DV.str L),RV.d (dS 2 r)] (RV.d (DV.str C)))∧tU2 ((Ans prog 32 [RV.agg [dK c,dK d,dK e,dK f,dK g]] (RV.d (dS 5 (is (smpP (⟨c,d,e,f,g⟩:Px))))))∧(Ans prog 31 [RV.d (DV.str C),RV.d (dS 5 (is (smpP (⟨c,d,e,f,g⟩:Px))))] (RV.d (DV.str (toS (zQH u (ints (is (smpP (⟨c,d,e,f,g⟩:Px)))))))))∧((toS (zQH u (ints (is (smpP (⟨c,d,e,f,g⟩:Px)))))).size+(⟨#[10]⟩:ByteArray).size≤maxLen)∧(l.size+((toS (zQH u (ints (is (smpP (⟨c,d,e,f,g⟩:Px))))))++(⟨#[10]⟩:ByteArray)).size≤maxLen)∧True∧(true=true)∧tU3 (∃ k':Nat,(k'≤s.ims.length)∧(P k k')∧(((0=0)∧(DV.str (l++((toS (zQH u (ints (is (smpP (⟨c,d,e,f,g⟩:Px))))))++(⟨#[10]⟩:ByteArray)))=DV.str (toS (fmtA s k')))∧(Q k k')∧True)∧a)))))∧(U=false→tU6 ((Ans prog 31 [RV.d (DV.str M),RV.d (dS 2 r)] (RV.d (DV.str t)))∧(t.size+(⟨#[10]⟩:ByteArray).size≤maxLen)∧(l.size+(t++(⟨#[10]⟩:ByteArray)).size≤maxLen)∧tU2 ((AnsO prog 33 [imR (imQ (ims s.ims) o)] 37 5 p.length (pxs p))∧tU2 ((∃ q:Nat,(R k q)∧(((0=0)∧(DV.str (l++(t++(⟨#[10]⟩:ByteArray)))=DV.str (toS (fmtA s k++imH (imK s k)++((imK s k).pixels.take q).flatMap pxTx)))∧(S k)∧(dS p.length (pxs p)=dS (imK s k).pixels.length b)∧(dJ 0=dJ (q:Int))∧True)∧a))∧∀ q:Nat,let W:=(decide ((q:Int) < V)); let D:=((q:Int).toNat*5); let E:=(toS (fmtA s k++imH (imK s k)++((imK s k).pixels.take q).flatMap pxTx)); let F:=(is (smpP ((pxQ b D):Px))); let v:=(ints F); (R k q)→tU4 ((W=true→tU3 ((0≤(q:Int)∧(q:Int) < V∧(q:Int).toNat*5 < b.length)∧(pxQr b D)∧(Ans prog 32 [RV.agg (pxQ b D).ds] (RV.d (dS 5 F)))∧(Ans prog 31 [RV.d N,RV.d (dS 5 F)] (RV.d (DV.str (toS (zQH (ofS (⟨#[]⟩:ByteArray)) v)))))∧((toS (zQH (ofS (⟨#[]⟩:ByteArray)) v)).size+(⟨#[10]⟩:ByteArray).size≤maxLen)∧(E.size+((toS (zQH (ofS (⟨#[]⟩:ByteArray)) v))++(⟨#[10]⟩:ByteArray)).size≤maxLen)∧tU4 (∃ q':Nat,(q'≤(imK s k).pixels.length)∧((imK s k).pixels.length - q' < (imK s k).pixels.length - q)∧(((0=0)∧(DV.str (E++((toS (zQH (ofS (⟨#[]⟩:ByteArray)) v))++(⟨#[10]⟩:ByteArray)))=DV.str (toS (fmtA s k++imH (imK s k)++((imK s k).pixels.take q').flatMap pxTx)))∧(S k)∧(dS (imK s k).pixels.length b=dS (imK s k).pixels.length b)∧(dJ (wK ((q:Int)+1))=dJ (q':Int))∧True)∧a))))∧(W=false→tU3 (∃ k':Nat,(k'≤s.ims.length)∧(P k k')∧(((0=0)∧(DV.str E=DV.str (toS (fmtA s k')))∧(Q k k')∧True)∧a)))))))))))∧(T=false→True∧((∃ j:Nat,(j≤s.ops.length)∧(((0=0)∧(DV.str l=DV.str (toS (fmtC s j)))∧(dJ 0=dJ (j:Int))∧True)∧a))∧∀ j:Nat,let X:=(decide ((j:Int) < I)); let G:=(toS (fmtC s j)); let Y:=(oqQ (ops s.ops) ((j:Int).toNat*12)); let w:=(toS (opTx (Y:Oq))); (j≤s.ops.length)→tU5 ((X=true→tU4 ((0≤(j:Int)∧(j:Int) < I∧(j:Int).toNat*12 < (ops s.ops).length)∧(oqQr (ops s.ops) ((j:Int).toNat*12))∧(Ans prog 34 [RV.agg Y.cells] (RV.d (DV.str w)))∧(w.size+(⟨#[10]⟩:ByteArray).size≤maxLen)∧(G.size+(w++(⟨#[10]⟩:ByteArray)).size≤maxLen)∧tU4 (∃ j':Nat,(j'≤s.ops.length)∧(s.ops.length - j' < s.ops.length - j)∧(((0=0)∧(DV.str (G++(w++(⟨#[10]⟩:ByteArray)))=DV.str (toS (fmtC s j')))∧(dJ (wK ((j:Int)+1))=dJ (j':Int))∧True)∧a))))∧(X=false→tU3 (RV.tup [RV.d (DV.str G),rJ 0]=RV.tup O))))))))))))))) ?_
  delta sE dJ dK dQ wK dS rJ
  simp only [sS,imQ,imQr,oqQ,oqQr,pxQ,pxQr]
  have hM9:∀ k:Nat,k≤1000000000000→k≤maxLen:=fun k h=>by unfold maxLen; omega
  have aF:=zVK s
  have aB:=R18_line_ans' zYc [s.bits] (by decide) (by simp)
  have aC:=R18_line_ans' zZE [s.c.a,s.c.b,s.c.c,s.c.d] (by decide) (by simp)
  have aT:=R18_line_ans' zXa [s.tw,s.th] (by decide) (by simp)
  have e10:(⟨#[10]⟩:ByteArray)=toS [10]:=rfl
  have e0:(⟨#[]⟩:ByteArray)=toS []:=rfl
  have lb:(⟨#[98,105,116,115]⟩:ByteArray)=toS zYc:=rfl
  have lc:(⟨#[99,97,110,118,97,115]⟩:ByteArray)=toS zZE:=rfl
  have lt:(⟨#[116,105,108,101,115]⟩:ByteArray)=toS zXa:=rfl
  have lso:(⟨#[115,111,108,105,100]⟩:ByteArray)=toS zQY:=rfl
  have lor:(⟨#[111,114,100,101,114]⟩:ByteArray)=toS zZy:=rfl
  have lim:(⟨#[105,109,97,103,101]⟩:ByteArray)=toS zQ0:=rfl
  have i1:∀ a:Int,ints [DV.int .i64 a]=[a]:=fun _=>rfl
  have i2:∀ a b:Int,ints [DV.int .i64 a,DV.int .i64 b]=[a,b]:=fun _ _=>rfl
  have i4:∀ a b c d:Int,ints [DV.int .i64 a,DV.int .i64 b,DV.int .i64 c,DV.int .i64 d]=[a,b,c,d]:=fun _ _ _ _=>rfl
  clear hwf
  simp only [zQO,zQ2,zQU,Scr.eta_,zQN,DV.str.injEq,e10,e0,lb,lc,lt,lso,lor,lim,zYw,zQF,i1,i2,i4] at aF ⊢
  refine ⟨aF,fun h=>?_,fun h=>?_⟩
  ·have e:fmtR s=([],19):=by unfold fmtR; rw [if_neg (by rw [h]; decide)]
   rw [e]; exact ⟨rfl,rfl⟩
  ·have eR:fmtR s=(fmtT s,0):=by unfold fmtR; rw [if_pos h]
   have P:=jZD h
   have hI:∀ m∈s.ims,imIn m:=fun m hm=>hp m hm (P.fm m hm)
   obtain ⟨b1,b2,b3,b4⟩:=zWu P
   have hAl:=zHe P hI
   have hCl:=jZ8 P hI hq
   have hol:=P.ol
   have hil:=P.il
   have hpl:=P.pl
   have aO:=R18_line_ans' zZy s.ord (by decide) (by omega)
   simp only [List.length_append,List.length_cons,List.length_nil]
   refine ⟨aB,hM9 _ (by omega),aC,hM9 _ (by omega),hM9 _ (by omega),aT,hM9 _ (by omega),hM9 _ (by omega),⟨fun h1=>⟨aO,hM9 _ (by omega),hM9 _ (by omega),0,rfl,zYa ?_⟩,fun h1=>⟨0,rfl,zYa ?_⟩⟩,fun z _=>⟨⟨0,Nat.zero_le _,?_,rfl⟩,fun k hk=>⟨fun hlt=>?_,fun hge=>?_⟩⟩⟩
   ·unfold hdTx orTx
    rw [if_pos (by omega)]
   ·unfold hdTx orTx
    rw [if_neg (by omega)]
    simp
   ·refine zYa ?_
    unfold fmtA; simp
   ·have hk:k < s.ims.length:=by omega
    obtain ⟨m,hmk⟩:∃ m,s.ims[k]=m:=⟨_,rfl⟩
    have q1:=zVZ hk
    have q2:=zV0 hk
    have em:=jWb hk
    have eS:=jQl hk
    have hm:m∈s.ims:=hmk ▸ List.getElem_mem hk
    simp only [hmk] at q1 q2 em eS
    clear hmk
    have w1:IntKind.wrap .i64 ((k:Int)+1)=((k+1:Nat):Int):=by rw [IntWalk.i64_in _ ⟨by omega,by omega⟩]; omega
    have hIk:=hI _ hm
    have hfm:=hIk.1
    have po:=zHy m (hM _ hm)
    have hpx:=Im.pixels_len hfm
    have hpl:m.pixels.length≤16777216:=by have:=(sizeIm_le' hfm); omega
    have hwh:=Im.wh hfm
    have hAk:=hAl k
    have lH:=jVy hfm
    have l1:(zQH zQY [m.w,m.h]).length≤5+22*2:=zXc (fun n hn=>by
     simp only [List.mem_cons,List.not_mem_nil,or_false] at hn
     omega) rfl
    have l2:(zQH (zQH zQY [m.w,m.h]) (smpP m.c)).length≤(zQH zQY [m.w,m.h]).length+22*5:=zXc (fun x hx=>by
     obtain ⟨c1,c2,c3,c4,c5⟩:=hIk.2.1
     simp only [smpP,List.mem_cons,List.not_mem_nil,or_false] at hx
     omega) rfl
    have aS:=R18_line_ans' zQY [m.w,m.h] (by decide) (by simp)
    have aI:=R18_line_ans' zQ0 [m.w,m.h] (by decide) (by simp)
    have aP:=samples_ans' m.c
    have aQ:=jZY (zQH zQY [m.w,m.h]) m.c (by omega)
    have pe:∀ p:Px,(⟨p.a,p.b,p.c,p.al,p.f⟩:Px)=p:=fun _=>rfl
    simp only [q2,w1,em,pe]
    refine ⟨⟨by omega,by omega,by rw [zZC]; omega⟩,q1,fun h1=>⟨aS,aP,aQ,hM9 _ (by omega),hM9 _ (by omega),k+1,by omega,by omega,zYa ?_,rfl⟩,fun h1=>⟨aI,hM9 _ (by omega),hM9 _ (by omega),po,⟨0,Nat.zero_le _,zYa ?_,⟨trivial,trivial⟩,rfl⟩,fun q hq=>⟨fun hlt=>?_,fun hge=>?_⟩⟩⟩
    ·rw [eS]; unfold imTx; rw [if_pos h1]
    ·unfold imH; simp
    ·have hq':q < m.pixels.length:=by omega
     obtain ⟨p,hpq⟩:∃ p,m.pixels[q]=p:=⟨_,rfl⟩
     have hpm:p∈m.pixels:=hpq ▸ List.getElem_mem hq'
     have tk:=List.take_succ_eq_append_getElem hq'
     have x:=zWO hq'
     simp only [hpq] at tk x
     clear hpq
     have w2:IntKind.wrap .i64 ((q:Int)+1)=((q+1:Nat):Int):=by rw [IntWalk.i64_in _ ⟨by omega,by omega⟩]; omega
     obtain ⟨x0,x1,x2,x3,x4⟩:=x
     have n0:nAt (pxs m.pixels) (q*5)=p.a:=by simp [nAt,x0]
     have n1:nAt (pxs m.pixels) (q*5+1)=p.b:=by simp [nAt,x1]
     have n2:nAt (pxs m.pixels) (q*5+1+1)=p.c:=by simp [nAt,x2]
     have n3:nAt (pxs m.pixels) (q*5+1+1+1)=p.al:=by simp [nAt,x3]
     have n4:nAt (pxs m.pixels) (q*5+1+1+1+1)=p.f:=by simp [nAt,x4]
     have aX:=samples_ans' p
     have aL:=jZY [] p (by simp)
     have lX:=zWm (hIk.2.2 _ hpm)
     have lF:=zKK (f:=pxTx) (B:=111) (l:=m.pixels.take q) fun p hp=>zWm (hIk.2.2 p (List.mem_of_mem_take hp))
     have lFt:(m.pixels.take q).length=q:=by rw [List.length_take]; omega
     have lY:(zQH [] (smpP p)).length≤111:=by
      unfold pxTx at lX
      simp only [List.length_append,List.length_cons,List.length_nil] at lX
      omega
     have lI:(imH m).length≤50:=by
      unfold imH
      simp only [List.length_append,List.length_cons,List.length_nil]
      omega
     have hT:fmtA s k++imH m++(m.pixels.take q).flatMap pxTx++(zQH [] (smpP p)++[10])=fmtA s k++imH m++(m.pixels.take (q+1)).flatMap pxTx:=by
      rw [tk,List.flatMap_append]
      simp only [List.append_assoc,List.flatMap_cons,List.flatMap_nil,List.append_nil]
      rfl
     simp only [n0,n1,n2,n3,n4,w2,pe]
     have m1:(zQH [] (smpP p)).length+(0+1)≤maxLen:=hM9 _ (by clear hAl hCl; omega)
     have m2:(fmtA s k++imH m++(m.pixels.take q).flatMap pxTx).length≤200000000000:=by
      rw [List.length_append,List.length_append]; clear hAl hCl; omega
     refine ⟨⟨by omega,by omega,by rw [zZs]; omega⟩,⟨x0,x1,x2,x3,x4⟩,aX,aL,m1,?_,q+1,by omega,by omega,?_,rfl⟩
     ·refine hM9 _ ?_
      simp only [List.length_append] at m2 ⊢
      clear hAl hCl; omega
     ·exact zYa hT
    ·have:q=m.pixels.length:=by omega
     subst this
     refine ⟨k+1,by omega,by omega,zYa ?_,rfl⟩
     rw [eS,List.take_length]
     unfold imTx imH
     rw [if_neg (by rw [h1]; decide)]
     simp only [List.append_assoc]
   ·have:k=s.ims.length:=by omega
    subst this
    refine ⟨⟨0,Nat.zero_le _,zYa ?_,rfl⟩,fun j hj=>⟨fun hlt=>?_,fun hge=>?_⟩⟩
    ·unfold fmtC; simp
    ·have hj:j < s.ops.length:=by omega
     obtain ⟨o,hoj⟩:∃ o,s.ops[j]=o:=⟨_,rfl⟩
     have q1:=zKu hj
     have q2:=zKv hj
     have eS:=jQk hj
     have hm:o∈s.ops:=hoj ▸ List.getElem_mem hj
     simp only [hoj] at q1 q2 eS
     clear hoj
     have w1:IntKind.wrap .i64 ((j:Int)+1)=((j+1:Nat):Int):=by rw [IntWalk.i64_in _ ⟨by omega,by omega⟩]; omega
     have aX:=zUS o
     have lX:=zGR (P.op _ hm).1 (hq _ hm)
     have hCj:=hCl j
     have oe:∀ o:Oq,(⟨o.kind,o.image,o.x,o.y,o.mask,o.mx,o.my,o.opac,o.oper,o.mode,o.iso,o.kno⟩:Oq)=o:=fun _=>rfl
     simp only [q2,w1,oe]
     refine ⟨⟨by omega,by omega,by rw [zQ6]; omega⟩,q1,aX,hM9 _ (by omega),hM9 _ (by omega),j+1,by omega,by omega,zYa ?_,rfl⟩
     rw [eS]; rfl
    ·have:j=s.ops.length:=by omega
     subst this
     rw [eR,zHd]
     exact ⟨rfl,rfl⟩
def jKE:Gam where
 pure:=fun f xs=>
  if f=96 then gZ2 xs else
  none
 modes:=fun f=>
  none
 proc:=fun f xs bs=>
  none
 iter:=fun f cs=>
  none
theorem zVb (w:Lb):Ans prog 157 [RV.d (DV.str (toS w))] (RV.tup [rJ (((nmR zQn (ofS (toS w))).1)),RV.d (dQ ((nmR zQn (ofS (toS w))).2))]):=
 zQj (Γ:=jKE) (Ann.seq Ann.leaf (Ann.seq (Ann.seq Ann.leaf (Ann.loop ⟨Nat,fun k=>k≤13∧∀ j:Nat,1≤j→j < k→ofS (zQn (j:Int))≠w,fun k=>⟨[(0,AV.one (Cl.d (DV.str (toS w)))),(6,AV.agg [Cl.d (DV.str (sAt zQa 0)),cJ (nAt zQa 1),cJ (nAt zQa 2),cJ (nAt zQa 3),Cl.d (DV.str (sAt zQa 4)),cJ (nAt zQa 5),cJ (nAt zQa 6),cJ (nAt zQa 7),Cl.d (DV.str (sAt zQa 8)),cJ (nAt zQa 9),cJ (nAt zQa 10),cJ (nAt zQa 11),Cl.d (DV.str (sAt zQa 12)),cJ (nAt zQa 13),cJ (nAt zQa 14),cJ (nAt zQa 15),Cl.d (DV.str (sAt zQa 16)),cJ (nAt zQa 17),cJ (nAt zQa 18),cJ (nAt zQa 19),Cl.d (DV.str (sAt zQa 20)),cJ (nAt zQa 21),cJ (nAt zQa 22),cJ (nAt zQa 23),Cl.d (DV.str (sAt zQa 24)),cJ (nAt zQa 25),cJ (nAt zQa 26),cJ (nAt zQa 27),Cl.d (DV.str (sAt zQa 28)),cJ (nAt zQa 29),cJ (nAt zQa 30),cJ (nAt zQa 31),Cl.d (DV.str (sAt zQa 32)),cJ (nAt zQa 33),cJ (nAt zQa 34),cJ (nAt zQa 35),Cl.d (DV.str (sAt zQa 36)),cJ (nAt zQa 37),cJ (nAt zQa 38),cJ (nAt zQa 39),Cl.d (DV.str (sAt zQa 40)),cJ (nAt zQa 41),cJ (nAt zQa 42),cJ (nAt zQa 43),Cl.d (DV.str (sAt zQa 44)),cJ (nAt zQa 45),cJ (nAt zQa 46),cJ (nAt zQa 47),Cl.d (DV.str (sAt zQa 48)),cJ (nAt zQa 49),cJ (nAt zQa 50),cJ (nAt zQa 51)]),(7,aJ (k:Int))],[]⟩,fun k=>13 - k⟩ fun k=>Ann.leaf)) Ann.leaf)) zQs Tryz.func157 rfl (nL rfl) fun hwf=>by
  refine Eq.mpr (by kernel_rfl:_=(let b:=(DV.str (toS w)=DV.str (toS w)); let a:=[DV.str (sAt zQa 0),dJ (nAt zQa 1),dJ (nAt zQa 2),dJ (nAt zQa 3),DV.str (sAt zQa 4),dJ (nAt zQa 5),dJ (nAt zQa 6),dJ (nAt zQa 7),DV.str (sAt zQa 8),dJ (nAt zQa 9),dJ (nAt zQa 10),dJ (nAt zQa 11),DV.str (sAt zQa 12),dJ (nAt zQa 13),dJ (nAt zQa 14),dJ (nAt zQa 15),DV.str (sAt zQa 16),dJ (nAt zQa 17),dJ (nAt zQa 18),dJ (nAt zQa 19),DV.str (sAt zQa 20),dJ (nAt zQa 21),dJ (nAt zQa 22),dJ (nAt zQa 23),DV.str (sAt zQa 24),dJ (nAt zQa 25),dJ (nAt zQa 26),dJ (nAt zQa 27),DV.str (sAt zQa 28),dJ (nAt zQa 29),dJ (nAt zQa 30),dJ (nAt zQa 31),DV.str (sAt zQa 32),dJ (nAt zQa 33),dJ (nAt zQa 34),dJ (nAt zQa 35),DV.str (sAt zQa 36),dJ (nAt zQa 37),dJ (nAt zQa 38),dJ (nAt zQa 39),DV.str (sAt zQa 40),dJ (nAt zQa 41),dJ (nAt zQa 42),dJ (nAt zQa 43),DV.str (sAt zQa 44),dJ (nAt zQa 45),dJ (nAt zQa 46),dJ (nAt zQa 47),DV.str (sAt zQa 48),dJ (nAt zQa 49),dJ (nAt zQa 50),dJ (nAt zQa 51)]; let c:=(a=a); let d:=[rJ (nmR zQn (ofS (toS w))).1,RV.d (dQ (nmR zQn (ofS (toS w))).2)]; let e:=fun (k:Nat)=>fun (k':Nat)=>((b∧c∧(dJ (wK ((k:Int)+1))=dJ (k':Int))∧True)∧True); tU2 (((zQa[0]?=some (DV.str (sAt zQa 0)))∧(zQa[1]?=some (dJ (nAt zQa 1)))∧(zQa[2]?=some (dJ (nAt zQa 2)))∧(zQa[3]?=some (dJ (nAt zQa 3)))∧(zQa[4]?=some (DV.str (sAt zQa 4)))∧(zQa[5]?=some (dJ (nAt zQa 5)))∧(zQa[6]?=some (dJ (nAt zQa 6)))∧(zQa[7]?=some (dJ (nAt zQa 7)))∧(zQa[8]?=some (DV.str (sAt zQa 8)))∧(zQa[9]?=some (dJ (nAt zQa 9)))∧(zQa[10]?=some (dJ (nAt zQa 10)))∧(zQa[11]?=some (dJ (nAt zQa 11)))∧(zQa[12]?=some (DV.str (sAt zQa 12)))∧(zQa[13]?=some (dJ (nAt zQa 13)))∧(zQa[14]?=some (dJ (nAt zQa 14)))∧(zQa[15]?=some (dJ (nAt zQa 15)))∧(zQa[16]?=some (DV.str (sAt zQa 16)))∧(zQa[17]?=some (dJ (nAt zQa 17)))∧(zQa[18]?=some (dJ (nAt zQa 18)))∧(zQa[19]?=some (dJ (nAt zQa 19)))∧(zQa[20]?=some (DV.str (sAt zQa 20)))∧(zQa[21]?=some (dJ (nAt zQa 21)))∧(zQa[22]?=some (dJ (nAt zQa 22)))∧(zQa[23]?=some (dJ (nAt zQa 23)))∧(zQa[24]?=some (DV.str (sAt zQa 24)))∧(zQa[25]?=some (dJ (nAt zQa 25)))∧(zQa[26]?=some (dJ (nAt zQa 26)))∧(zQa[27]?=some (dJ (nAt zQa 27)))∧(zQa[28]?=some (DV.str (sAt zQa 28)))∧(zQa[29]?=some (dJ (nAt zQa 29)))∧(zQa[30]?=some (dJ (nAt zQa 30)))∧(zQa[31]?=some (dJ (nAt zQa 31)))∧(zQa[32]?=some (DV.str (sAt zQa 32)))∧(zQa[33]?=some (dJ (nAt zQa 33)))∧(zQa[34]?=some (dJ (nAt zQa 34)))∧(zQa[35]?=some (dJ (nAt zQa 35)))∧(zQa[36]?=some (DV.str (sAt zQa 36)))∧(zQa[37]?=some (dJ (nAt zQa 37)))∧(zQa[38]?=some (dJ (nAt zQa 38)))∧(zQa[39]?=some (dJ (nAt zQa 39)))∧(zQa[40]?=some (DV.str (sAt zQa 40)))∧(zQa[41]?=some (dJ (nAt zQa 41)))∧(zQa[42]?=some (dJ (nAt zQa 42)))∧(zQa[43]?=some (dJ (nAt zQa 43)))∧(zQa[44]?=some (DV.str (sAt zQa 44)))∧(zQa[45]?=some (dJ (nAt zQa 45)))∧(zQa[46]?=some (dJ (nAt zQa 46)))∧(zQa[47]?=some (dJ (nAt zQa 47)))∧(zQa[48]?=some (DV.str (sAt zQa 48)))∧(zQa[49]?=some (dJ (nAt zQa 49)))∧(zQa[50]?=some (dJ (nAt zQa 50)))∧(zQa[51]?=some (dJ (nAt zQa 51)))∧True)∧True∧((∃ k:Nat,(k≤13∧∀ j:Nat,1≤j→j < k→ofS (zQn (j:Int))≠w)∧((b∧c∧(dJ 0=dJ (k:Int))∧True)∧True))∧∀ k:Nat,let f:=(sAt a ((k:Int).toNat*4)); let g:=(f.toList==(toS w).toList); (k≤13∧∀ j:Nat,1≤j→j < k→ofS (zQn (j:Int))≠w)→True∧(((decide ((k:Int) < 13))=true→True∧(0≤(k:Int)∧(k:Int) < ((13:Nat):Int)∧(a[(k:Int).toNat*4]?=some (DV.str f))∧(a[(k:Int).toNat*4+1]?=some (dJ (nAt a ((k:Int).toNat*4+1))))∧(a[(k:Int).toNat*4+1+1]?=some (dJ (nAt a ((k:Int).toNat*4+1+1))))∧(a[(k:Int).toNat*4+1+1+1]?=some (dJ (nAt a ((k:Int).toNat*4+1+1+1))))∧True)∧tU8 ((g=true→tU3 (((decide ((k:Int) > 0))=true→tU3 (RV.tup [rJ (k:Int),RV.d (dQ true)]=RV.tup d))∧((decide ((k:Int) > 0))=false→tU2 (∃ k':Nat,(k'≤13∧∀ j:Nat,1≤j→j < k'→ofS (zQn (j:Int))≠w)∧(13 - k' < 13 - k)∧(e k k')))))∧(g=(!true)→tU3 (∃ k':Nat,(k'≤13∧∀ j:Nat,1≤j→j < k'→ofS (zQn (j:Int))≠w)∧(13 - k' < 13 - k)∧(e k k')))))∧((decide ((k:Int) < 13))=false→tU2 (RV.tup [rJ 0,RV.d (dQ false)]=RV.tup d))))))) ?_
  delta dJ dQ wK rJ
  simp only [sS]
  simp only [zQN]
  clear hwf
  have hg:[DV.str (sAt zQa 0),DV.int .i64 (nAt zQa 1),DV.int .i64 (nAt zQa 2),DV.int .i64 (nAt zQa 3),DV.str (sAt zQa 4),DV.int .i64 (nAt zQa 5),DV.int .i64 (nAt zQa 6),DV.int .i64 (nAt zQa 7),DV.str (sAt zQa 8),DV.int .i64 (nAt zQa 9),DV.int .i64 (nAt zQa 10),DV.int .i64 (nAt zQa 11),DV.str (sAt zQa 12),DV.int .i64 (nAt zQa 13),DV.int .i64 (nAt zQa 14),DV.int .i64 (nAt zQa 15),DV.str (sAt zQa 16),DV.int .i64 (nAt zQa 17),DV.int .i64 (nAt zQa 18),DV.int .i64 (nAt zQa 19),DV.str (sAt zQa 20),DV.int .i64 (nAt zQa 21),DV.int .i64 (nAt zQa 22),DV.int .i64 (nAt zQa 23),DV.str (sAt zQa 24),DV.int .i64 (nAt zQa 25),DV.int .i64 (nAt zQa 26),DV.int .i64 (nAt zQa 27),DV.str (sAt zQa 28),DV.int .i64 (nAt zQa 29),DV.int .i64 (nAt zQa 30),DV.int .i64 (nAt zQa 31),DV.str (sAt zQa 32),DV.int .i64 (nAt zQa 33),DV.int .i64 (nAt zQa 34),DV.int .i64 (nAt zQa 35),DV.str (sAt zQa 36),DV.int .i64 (nAt zQa 37),DV.int .i64 (nAt zQa 38),DV.int .i64 (nAt zQa 39),DV.str (sAt zQa 40),DV.int .i64 (nAt zQa 41),DV.int .i64 (nAt zQa 42),DV.int .i64 (nAt zQa 43),DV.str (sAt zQa 44),DV.int .i64 (nAt zQa 45),DV.int .i64 (nAt zQa 46),DV.int .i64 (nAt zQa 47),DV.str (sAt zQa 48),DV.int .i64 (nAt zQa 49),DV.int .i64 (nAt zQa 50),DV.int .i64 (nAt zQa 51)]=zQa:=rfl
  rw [hg]
  refine ⟨by (repeat' apply And.intro) <;> rfl,⟨0,⟨Nat.zero_le _,fun j h1 h2=>absurd h2 (Nat.not_lt_zero j)⟩,rfl⟩,fun k hk=>⟨fun hlt=>?_,fun hge=>?_⟩⟩
  ·have hk13:k < 13:=by omega
   have w1:IntKind.wrap .i64 ((k:Int)+1)=((k+1:Nat):Int):=by rw [IntWalk.i64_in _ ⟨by omega,by omega⟩]; omega
   have hrd:zQa[k*4]?=some (DV.str (sAt zQa (k*4)))∧zQa[k*4+1]?=some (DV.int .i64 (nAt zQa (k*4+1)))∧zQa[k*4+1+1]?=some (DV.int .i64 (nAt zQa (k*4+1+1)))∧zQa[k*4+1+1+1]?=some (DV.int .i64 (nAt zQa (k*4+1+1+1))):=by
    have:k=0∨k=1∨k=2∨k=3∨k=4∨k=5∨k=6∨k=7∨k=8∨k=9∨k=10∨k=11∨k=12:=by omega
    rcases this with rfl | rfl | rfl | rfl | rfl | rfl | rfl | rfl | rfl | rfl | rfl | rfl | rfl <;> exact ⟨rfl,rfl,rfl,rfl⟩
   have hnm:1≤k→sAt zQa (k*4)=zQn (k:Int):=fun h=>by unfold zQn; rw [if_pos ⟨by omega,by omega⟩,Int.toNat_natCast]; skip
   have next:(1≤k→ofS (zQn (k:Int))≠w)→∃ k',(k'≤13∧∀ j:Nat,1≤j→j < k'→ofS (zQn (j:Int))≠w)∧13 - k' < 13 - k∧IntKind.wrap .i64 ((k:Int)+1)=(k':Int):=fun h=>⟨k+1,⟨by omega,fun j h1 h2=>by
    rcases Nat.lt_or_ge j k with h3 | h3
    ·exact hk.2 j h1 h3
    ·have:j=k:=by omega
     subst this; exact h h1⟩,by omega,w1⟩
   have hit:1≤k→ofS (zQn (k:Int))=w→nmR zQn w=((k:Int),true):=fun h1 h2=>by
    obtain ⟨m,rfl⟩:∃ m,k=m+1:=⟨k - 1,by omega⟩
    have e:=zWp (f:=zQn) (w:=w) (k:=m) (by omega) (by simpa using h2) (fun j hj=>by simpa using hk.2 (j+1) (by omega) (by omega))
    rw [e]; simp
   simp only [zHn,decide_eq_true_eq,decide_eq_false_iff_not]
   refine ⟨⟨by omega,by omega,hrd⟩,fun h=>⟨fun h2=>?_,fun h2=>next fun h1=>absurd (by omega) h2⟩,fun h=>next fun h1=>by rw [← hnm h1]; exact h⟩
   rw [hnm (by omega)] at h
   rw [hit (by omega) h]
   exact ⟨rfl,rfl⟩
  ·rw [zWq (f:=zQn) fun j hj=>by simpa using hk.2 (j+1) (by omega) (by omega)]
   exact ⟨rfl,rfl⟩
theorem zUu (w:Lb):Ans prog 158 [RV.d (DV.str (toS w))] (RV.tup [rJ (((nmR zQe (ofS (toS w))).1)),RV.d (dQ ((nmR zQe (ofS (toS w))).2))]):=
 zQj (Γ:=jKE) (Ann.seq Ann.leaf (Ann.seq (Ann.seq Ann.leaf (Ann.loop ⟨Nat,fun k=>k≤13∧∀ j:Nat,1≤j→j < k→ofS (zQe (j:Int))≠w,fun k=>⟨[(0,AV.one (Cl.d (DV.str (toS w)))),(6,AV.agg [Cl.d (DV.str (sAt zQl 0)),Cl.d (DV.str (sAt zQl 1)),Cl.d (DV.str (sAt zQl 2)),Cl.d (DV.str (sAt zQl 3)),Cl.d (DV.str (sAt zQl 4)),Cl.d (DV.str (sAt zQl 5)),Cl.d (DV.str (sAt zQl 6)),Cl.d (DV.str (sAt zQl 7)),Cl.d (DV.str (sAt zQl 8)),Cl.d (DV.str (sAt zQl 9)),Cl.d (DV.str (sAt zQl 10)),Cl.d (DV.str (sAt zQl 11)),Cl.d (DV.str (sAt zQl 12))]),(7,aJ (k:Int))],[]⟩,fun k=>13 - k⟩ fun k=>Ann.leaf)) Ann.leaf)) zQs Tryz.func158 rfl (nL rfl) fun hwf=>by
  refine Eq.mpr (by kernel_rfl:_=(let c:=(nmR zQe (ofS (toS w))); let d:=(DV.str (toS w)=DV.str (toS w)); let a:=[DV.str (sAt zQl 0),DV.str (sAt zQl 1),DV.str (sAt zQl 2),DV.str (sAt zQl 3),DV.str (sAt zQl 4),DV.str (sAt zQl 5),DV.str (sAt zQl 6),DV.str (sAt zQl 7),DV.str (sAt zQl 8),DV.str (sAt zQl 9),DV.str (sAt zQl 10),DV.str (sAt zQl 11),DV.str (sAt zQl 12)]; let e:=(a=a); let f:=[rJ c.1,RV.d (dQ c.2)]; let g:=fun (k:Nat)=>fun (k':Nat)=>((d∧e∧(dJ (wK ((k:Int)+1))=dJ (k':Int))∧True)∧True); tU2 (((zQl[0]?=some (DV.str (sAt zQl 0)))∧(zQl[1]?=some (DV.str (sAt zQl 1)))∧(zQl[2]?=some (DV.str (sAt zQl 2)))∧(zQl[3]?=some (DV.str (sAt zQl 3)))∧(zQl[4]?=some (DV.str (sAt zQl 4)))∧(zQl[5]?=some (DV.str (sAt zQl 5)))∧(zQl[6]?=some (DV.str (sAt zQl 6)))∧(zQl[7]?=some (DV.str (sAt zQl 7)))∧(zQl[8]?=some (DV.str (sAt zQl 8)))∧(zQl[9]?=some (DV.str (sAt zQl 9)))∧(zQl[10]?=some (DV.str (sAt zQl 10)))∧(zQl[11]?=some (DV.str (sAt zQl 11)))∧(zQl[12]?=some (DV.str (sAt zQl 12)))∧True)∧True∧((∃ k:Nat,(k≤13∧∀ j:Nat,1≤j→j < k→ofS (zQe (j:Int))≠w)∧((d∧e∧(dJ 0=dJ (k:Int))∧True)∧True))∧∀ k:Nat,let h:=(sAt a ((k:Int).toNat*1)); let i:=(h.toList==(toS w).toList); let b:=(decide (1≤(k:Int)∧(k:Int) < 13)); (k≤13∧∀ j:Nat,1≤j→j < k→ofS (zQe (j:Int))≠w)→True∧(((decide ((k:Int) < 13))=true→True∧(0≤(k:Int)∧(k:Int) < ((13:Nat):Int)∧(a[(k:Int).toNat*1]?=some (DV.str h))∧True)∧tU6 ((i=true→True∧(Ans prog 96 [rJ (k:Int)] (RV.d (dQ b)))∧True∧((b=true→tU3 (RV.tup [rJ (k:Int),RV.d (dQ true)]=RV.tup f))∧(b=false→tU2 (∃ k':Nat,(k'≤13∧∀ j:Nat,1≤j→j < k'→ofS (zQe (j:Int))≠w)∧(13 - k' < 13 - k)∧(g k k')))))∧(i=(!true)→tU3 (∃ k':Nat,(k'≤13∧∀ j:Nat,1≤j→j < k'→ofS (zQe (j:Int))≠w)∧(13 - k' < 13 - k)∧(g k k')))))∧((decide ((k:Int) < 13))=false→tU2 (RV.tup [rJ 0,RV.d (dQ false)]=RV.tup f))))))) ?_
  delta dJ dQ wK rJ
  simp only [sS]
  simp only [zQN]
  clear hwf
  have hg:[DV.str (sAt zQl 0),DV.str (sAt zQl 1),DV.str (sAt zQl 2),DV.str (sAt zQl 3),DV.str (sAt zQl 4),DV.str (sAt zQl 5),DV.str (sAt zQl 6),DV.str (sAt zQl 7),DV.str (sAt zQl 8),DV.str (sAt zQl 9),DV.str (sAt zQl 10),DV.str (sAt zQl 11),DV.str (sAt zQl 12)]=zQl:=rfl
  rw [hg]
  refine ⟨by (repeat' apply And.intro) <;> rfl,⟨0,⟨Nat.zero_le _,fun j h1 h2=>absurd h2 (Nat.not_lt_zero j)⟩,rfl⟩,fun k hk=>⟨fun hlt=>?_,fun hge=>?_⟩⟩
  ·have hk13:k < 13:=by omega
   have w1:IntKind.wrap .i64 ((k:Int)+1)=((k+1:Nat):Int):=by rw [IntWalk.i64_in _ ⟨by omega,by omega⟩]; omega
   have hrd:zQl[k*1]?=some (DV.str (sAt zQl (k*1))):=by
    have:k=0∨k=1∨k=2∨k=3∨k=4∨k=5∨k=6∨k=7∨k=8∨k=9∨k=10∨k=11∨k=12:=by omega
    rcases this with rfl | rfl | rfl | rfl | rfl | rfl | rfl | rfl | rfl | rfl | rfl | rfl | rfl <;> rfl
   have hnm:1≤k→sAt zQl (k*1)=zQe (k:Int):=fun h=>by unfold zQe; rw [if_pos ⟨by omega,by omega⟩,Int.toNat_natCast]; rw [Nat.mul_one]
   have next:(1≤k→ofS (zQe (k:Int))≠w)→∃ k',(k'≤13∧∀ j:Nat,1≤j→j < k'→ofS (zQe (j:Int))≠w)∧13 - k' < 13 - k∧IntKind.wrap .i64 ((k:Int)+1)=(k':Int):=fun h=>⟨k+1,⟨by omega,fun j h1 h2=>by
    rcases Nat.lt_or_ge j k with h3 | h3
    ·exact hk.2 j h1 h3
    ·have:j=k:=by omega
     subst this; exact h h1⟩,by omega,w1⟩
   have hit:1≤k→ofS (zQe (k:Int))=w→nmR zQe w=((k:Int),true):=fun h1 h2=>by
    obtain ⟨m,rfl⟩:∃ m,k=m+1:=⟨k - 1,by omega⟩
    have e:=zWp (f:=zQe) (w:=w) (k:=m) (by omega) (by simpa using h2) (fun j hj=>by simpa using hk.2 (j+1) (by omega) (by omega))
    rw [e]; simp
   simp only [zHn,decide_eq_true_eq,decide_eq_false_iff_not]
   have aV:=zZY (k:Int)
   refine ⟨⟨by omega,by omega,hrd⟩,fun h=>⟨aV,fun h2=>?_,fun h2=>next fun h1=>absurd ⟨by omega,by omega⟩ h2⟩,fun h=>next fun h1=>by rw [← hnm h1]; exact h⟩
   rw [hnm (by omega)] at h
   rw [hit (by omega) h]
   exact ⟨rfl,rfl⟩
  ·rw [zWq (f:=zQe) fun j hj=>by simpa using hk.2 (j+1) (by omega) (by omega)]
   exact ⟨rfl,rfl⟩
end
end Go.Proofs.YtheidkkebdhmkaaGreatDoor
namespace Go.Proofs
open Go.Shelf
def Tryz.lays169_ren:Go.Shelf.Ren:=⟨fun | 169=>29 | n=>n,fun | 70=>79 | 9=>9 | 0=>0 | 72=>82 | 37=>80 | 127=>122 | 3=>3 | 5=>5 | n=>n,fun | n=>n⟩
theorem Tryz.lays169:Go.Proofs.Lays.n169 Tryz.prog Tryz.lays169_ren:=by
 repeat' first | kernel_rfl | (intro; kernel_rfl) | constructor
theorem Tryz.Builder_Extra_169:Builder.Extra Tryz.prog Tryz.lays169_ren:={
 sizeBuilder:=by kernel_rfl
 liesBuilder:=by kernel_rfl
 t5:=Tryz.underlying5
 a5:=Tryz.isAgg5
 z5:=Tryz.sizeOf5
 v5:=Tryz.zeroValue5
 infoByte:=by kernel_rfl
 cellsByte:=by kernel_rfl
 sizeByte:=by kernel_rfl
 neB5:=by decide }
open Go.RowKit in
theorem Tryz.Builder_String (B b:Nat) (l:List UInt8) (w:World) (h:Lib.IsBuilder 82 5 B b (Lib.byteCells l) w) (h0:l≠[]) :
    Calls Tryz.prog 29 #[.pointer (some ⟨b,0,none⟩)] w fun e w'=>e=.returned (.string ⟨l.toArray⟩)∧Below B w w':=Any.Builder_String Tryz.lays169 Tryz.Builder_Extra_169 B b l w h h0
open Go.RowKit in
theorem Tryz.Builder_String_empty (B b:Nat) (w:World) (h:Lib.IsBuilder 82 5 B b [] w) (hBw:B≤w.heap.size) :
    Calls Tryz.prog 29 #[.pointer (some ⟨b,0,none⟩)] w fun e w'=>e=.returned (.string ⟨#[]⟩)∧Below B w w':=Any.Builder_String_empty Tryz.lays169 Tryz.Builder_Extra_169 B b w h hBw
open Go.RowKit in
theorem Tryz.Builder_String_any (B b:Nat) (l:List UInt8) (w:World) (h:Lib.IsBuilder 82 5 B b (Lib.byteCells l) w) (hBw:B≤w.heap.size) :
    Calls Tryz.prog 29 #[.pointer (some ⟨b,0,none⟩)] w fun e w'=>e=.returned (.string ⟨l.toArray⟩)∧Below B w w':=Any.Builder_String_any Tryz.lays169 Tryz.Builder_Extra_169 B b l w h hBw
def Tryz.lays244_ren:Go.Shelf.Ren:=⟨fun | 244=>153 | 247=>166 | 287=>178 | 321=>183 | 322=>184 | n=>n,fun | 9=>9 | 3=>3 | 75=>117 | 4=>4 | 5=>5 | 167=>202 | 37=>80 | 0=>0 | 85=>203 | 2=>2 | 53=>155 | 175=>212 | 46=>173 | 21=>21 | 80=>88 | n=>n,fun | n=>n⟩
theorem Tryz.lays244:Go.Proofs.Lays.n244 Tryz.prog Tryz.lays244_ren:=by
 repeat' first | kernel_rfl | (intro; kernel_rfl) | constructor
open Go.RowKit in
theorem Tryz.internal_strconv_Atoi (s:ByteArray) (n:Int) (hl:s.size≤18) (h:Lib.atoi s.data.toList=some n) (w:World) :
    Calls Tryz.prog 153 #[.string s] w fun e w'=>e=.returned (.tuple #[.int .i64 n,.nilIface])∧∃ t,w'=Lib.bytesWorld w 5 t:=Any.internal_strconv_Atoi Tryz.lays244 s n hl h w
def Tryz.lays172_ren:Go.Shelf.Ren:=⟨fun | 172=>138 | 244=>153 | 245=>154 | 247=>166 | 279=>167 | 280=>168 | 281=>169 | 282=>170 | 287=>178 | 316=>179 | 171=>97 | 205=>180 | 321=>183 | 322=>184 | 243=>123 | 246=>145 | 283=>159 | 284=>160 | 285=>161 | 286=>162 | 129=>173 | 317=>172 | 318=>174 | 319=>175 | 320=>176 | 337=>181 | 338=>182 | n=>n,fun | 9=>9 | 3=>3 | 75=>117 | 76=>119 | 4=>4 | 5=>5 | 167=>202 | 37=>80 | 0=>0 | 85=>203 | 2=>2 | 168=>205 | 53=>155 | 175=>212 | 46=>173 | 210=>216 | 127=>122 | 145=>226 | 143=>224 | 21=>21 | 171=>194 | 173=>197 | 212=>209 | 51=>188 | 20=>20 | 213=>210 | 232=>227 | 233=>228 | 80=>88 | n=>n,fun | 15=>4 | 16=>5 | 17=>3 | 18=>8 | 19=>9 | n=>n⟩
theorem Tryz.lays172:Go.Proofs.Lays.n172 Tryz.prog Tryz.lays172_ren:=by
 repeat' first | kernel_rfl | (intro; kernel_rfl) | constructor
open Go.RowKit in
theorem Tryz.strconv_Atoi (s:ByteArray) (n:Int) (hl:s.size≤18) (h:Lib.atoi s.data.toList=some n) (w:World) :
    Calls Tryz.prog 138 #[.string s] w fun e w'=>e=.returned (.tuple #[.int .i64 n,.nilIface])∧∃ t,w'=Lib.bytesWorld w 5 t:=Any.strconv_Atoi Tryz.lays172 s n hl h w
def Tryz.lays129_ren:Go.Shelf.Ren:=⟨fun | 129=>173 | n=>n,fun | 53=>155 | 3=>3 | 4=>4 | 46=>173 | 5=>5 | 9=>9 | n=>n,fun | n=>n⟩
theorem Tryz.lays129:Go.Proofs.Lays.n129 Tryz.prog Tryz.lays129_ren:=by
 repeat' first | kernel_rfl | (intro; kernel_rfl) | constructor
theorem Tryz.bits_Len64 (x:Int) (w:World) (h0:0≤x) (h1:x≤18446744073709551615) :
  Calls Tryz.prog 173 #[.int .u64 x] w fun e w'=>e=.returned (.int .i64 (Lib.bitLen x.toNat))∧w'=w:=Any.bits_Len64 Tryz.lays129 x w h0 h1
def Tryz.lays317_ren:Go.Shelf.Ren:=⟨fun | 317=>172 | n=>n,fun | 3=>3 | 46=>173 | n=>n,fun | n=>n⟩
theorem Tryz.lays317:Go.Proofs.Lays.n317 Tryz.prog Tryz.lays317_ren:=by
 repeat' first | kernel_rfl | (intro; kernel_rfl) | constructor
open Go.Lib in
theorem Tryz.internal_strconv_log10Pow2 (x:Nat) (h:x≤64) (w:World) :
    Calls Tryz.prog 172 #[.int .i64 x] w fun e w'=>e=.returned (.int .i64 (Lib.l10 x))∧w'=w:=Any.internal_strconv_log10Pow2 Tryz.lays317 x h w
def Tryz.lays318_ren:Go.Shelf.Ren:=⟨fun | 318=>174 | n=>n,fun | 3=>3 | 4=>4 | n=>n,fun | n=>n⟩
theorem Tryz.lays318:Go.Proofs.Lays.n318 Tryz.prog Tryz.lays318_ren:=by
 repeat' first | kernel_rfl | (intro; kernel_rfl) | constructor
open Go.Lib in
theorem Tryz.internal_strconv_bool2_int (b:Bool) (w:World) :
    Calls Tryz.prog 174 #[.bool b] w fun e w'=>e=.returned (.int .i64 (if b then 1 else 0))∧w'=w:=Any.internal_strconv_bool2_int Tryz.lays318 b w
def Tryz.lays283_ren:Go.Shelf.Ren:=⟨fun | 283=>159 | n=>n,fun | 3=>3 | 9=>9 | 4=>4 | n=>n,fun | n=>n⟩
theorem Tryz.lays283:Go.Proofs.Lays.n283 Tryz.prog Tryz.lays283_ren:=by
 repeat' first | kernel_rfl | (intro; kernel_rfl) | constructor
open Go.Lib in
theorem Tryz.internal_strconv_small (i:Nat) (h:i < 100) (w:World) :
    Calls Tryz.prog 159 #[.int .i64 i] w fun e w'=>e=.returned (.string ⟨(Lib.decDigits i).toArray⟩)∧w'=w:=Any.internal_strconv_small Tryz.lays283 i h w
def Tryz.laysM284_ren:Go.Shelf.Ren:=⟨fun | 284=>160 | 129=>173 | 317=>172 | 318=>174 | n=>n,fun | 53=>155 | 3=>3 | 212=>209 | 0=>0 | 4=>4 | 46=>173 | 5=>5 | 9=>9 | n=>n,fun | 17=>3 | n=>n⟩
theorem Tryz.laysM284:Go.Proofs.LaysM.n284 Tryz.prog Tryz.laysM284_ren:=by
 repeat' first | kernel_rfl | (intro; kernel_rfl) | constructor
open Go.Lib in
theorem Tryz.internal_strconv_numDigits (u:Nat) (h1:1≤u) (h2:u < 18446744073709551616) (w:World) (htab:Lib.TabIs Tryz.prog w "internal/strconv.uint64pow10" .u64 Lib.pow10Tab) :
    Calls Tryz.prog 160 #[.int .u64 u] w fun e w'=>e=.returned (.int .i64 (Lib.nDigits u))∧w'=w:=Any.internal_strconv_numDigits Tryz.laysM284 u h1 h2 w htab
def Tryz.lays285_ren:Go.Shelf.Ren:=⟨fun | 285=>161 | n=>n,fun | 37=>80 | 53=>155 | 3=>3 | 4=>4 | 51=>188 | 9=>9 | 5=>5 | 0=>0 | n=>n,fun | n=>n⟩
theorem Tryz.lays285:Go.Proofs.Lays.n285 Tryz.prog Tryz.lays285_ren:=by
 repeat' first | kernel_rfl | (intro; kernel_rfl) | constructor
open Go.RowKit Go.Sort Go.Lib in
theorem Tryz.internal_strconv_formatBase10 (blk off cap u:Nat) (d:Array UInt8) (w:World) (hH:Holds (fun (b:UInt8)=>Value.int .u8 (b.toNat:Int)) w blk off d) (hu:u < 10 ^ d.size) (hu64:u < 18446744073709551616) (hsz:d.size < 4611686018427387904) :
    Calls Tryz.prog 161 #[.slice (some ⟨blk,off,none⟩) d.size cap,.int .u64 u] w fun e w'=>
      e=.returned (.tuple #[])∧∃ (n v':Nat) (dk:Array UInt8),w'=(putRow (fun (b:UInt8)=>Value.int .u8 (b.toNat:Int)) w blk off dk).drewN n∧FmtInv d.size u 0 v' dk:=Any.internal_strconv_formatBase10 Tryz.lays285 blk off cap u d w hH hu hu64 hsz
def Tryz.laysM246_ren:Go.Shelf.Ren:=⟨fun | 246=>145 | 283=>159 | 284=>160 | 285=>161 | 286=>162 | 129=>173 | 317=>172 | 318=>174 | 319=>175 | 320=>176 | 337=>181 | 338=>182 | n=>n,fun | 2=>2 | 3=>3 | 9=>9 | 4=>4 | 171=>194 | 0=>0 | 53=>155 | 37=>80 | 5=>5 | 173=>197 | 212=>209 | 51=>188 | 20=>20 | 213=>210 | 46=>173 | 232=>227 | 233=>228 | n=>n,fun | 17=>3 | 18=>8 | 19=>9 | n=>n⟩
theorem Tryz.laysM246:Go.Proofs.LaysM.n246 Tryz.prog Tryz.laysM246_ren:=by
 repeat' first | kernel_rfl | (intro; kernel_rfl) | constructor
open Go.RowKit Go.Sort Go.Lib in
theorem Tryz.internal_strconv_FormatInt_10 (n:Int) (h0 : -9223372036854775808≤n) (h1:n≤9223372036854775807) (w:World) (htab:Lib.TabIs Tryz.prog w "internal/strconv.uint64pow10" .u64 Lib.pow10Tab) :
    Calls Tryz.prog 145 #[.int .i64 n,.int .i64 10] w fun e w'=>e=.returned (.string ⟨(Lib.itoa n).toArray⟩)∧∃ k os,w'=grow (w.drewN k) os:=Any.internal_strconv_FormatInt_10 Tryz.laysM246 n h0 h1 w htab
def Tryz.lays246_ren:Go.Shelf.Ren:=⟨fun | 246=>145 | 283=>159 | 284=>160 | 285=>161 | 286=>162 | 129=>173 | 317=>172 | 318=>174 | 319=>175 | 320=>176 | 337=>181 | 338=>182 | n=>n,fun | 2=>2 | 3=>3 | 9=>9 | 4=>4 | 171=>194 | 0=>0 | 53=>155 | 37=>80 | 5=>5 | 173=>197 | 212=>209 | 51=>188 | 20=>20 | 213=>210 | 46=>173 | 232=>227 | 233=>228 | n=>n,fun | 17=>3 | 18=>8 | 19=>9 | n=>n⟩
theorem Tryz.lays246:Go.Proofs.Lays.n246 Tryz.prog Tryz.lays246_ren:=by
 repeat' first | kernel_rfl | (intro; kernel_rfl) | constructor
open Go.RowKit Go.Sort Go.Lib in
theorem Tryz.internal_strconv_FormatInt_10_small (i:Nat) (hi:i < 100) (w:World) :
    Calls Tryz.prog 145 #[.int .i64 i,.int .i64 10] w fun e w'=>e=.returned (.string ⟨(Lib.decDigits i).toArray⟩)∧w'=w:=Any.internal_strconv_FormatInt_10_small Tryz.lays246 i hi w
def Tryz.laysM243_ren:Go.Shelf.Ren:=⟨fun | 243=>123 | 246=>145 | 283=>159 | 284=>160 | 285=>161 | 286=>162 | 129=>173 | 317=>172 | 318=>174 | 319=>175 | 320=>176 | 337=>181 | 338=>182 | n=>n,fun | 3=>3 | 9=>9 | 2=>2 | 4=>4 | 171=>194 | 0=>0 | 53=>155 | 37=>80 | 5=>5 | 173=>197 | 212=>209 | 51=>188 | 20=>20 | 213=>210 | 46=>173 | 232=>227 | 233=>228 | n=>n,fun | 17=>3 | 18=>8 | 19=>9 | n=>n⟩
theorem Tryz.laysM243:Go.Proofs.LaysM.n243 Tryz.prog Tryz.laysM243_ren:=by
 repeat' first | kernel_rfl | (intro; kernel_rfl) | constructor
open Go.RowKit Go.Sort Go.Lib in
theorem Tryz.internal_strconv_Itoa (n:Int) (h0 : -9223372036854775808≤n) (h1:n≤9223372036854775807) (w:World) (htab:Lib.TabIs Tryz.prog w "internal/strconv.uint64pow10" .u64 Lib.pow10Tab) :
    Calls Tryz.prog 123 #[.int .i64 n] w fun e w'=>e=.returned (.string ⟨(Lib.itoa n).toArray⟩)∧∃ k os,w'=grow (w.drewN k) os:=Any.internal_strconv_Itoa Tryz.laysM243 n h0 h1 w htab
def Tryz.lays243_ren:Go.Shelf.Ren:=⟨fun | 243=>123 | 246=>145 | 283=>159 | 284=>160 | 285=>161 | 286=>162 | 129=>173 | 317=>172 | 318=>174 | 319=>175 | 320=>176 | 337=>181 | 338=>182 | n=>n,fun | 3=>3 | 9=>9 | 2=>2 | 4=>4 | 171=>194 | 0=>0 | 53=>155 | 37=>80 | 5=>5 | 173=>197 | 212=>209 | 51=>188 | 20=>20 | 213=>210 | 46=>173 | 232=>227 | 233=>228 | n=>n,fun | 17=>3 | 18=>8 | 19=>9 | n=>n⟩
theorem Tryz.lays243:Go.Proofs.Lays.n243 Tryz.prog Tryz.lays243_ren:=by
 repeat' first | kernel_rfl | (intro; kernel_rfl) | constructor
open Go.RowKit Go.Sort Go.Lib in
theorem Tryz.internal_strconv_Itoa_small (i:Nat) (hi:i < 100) (w:World) :
    Calls Tryz.prog 123 #[.int .i64 i] w fun e w'=>e=.returned (.string ⟨(Lib.decDigits i).toArray⟩)∧w'=w:=Any.internal_strconv_Itoa_small Tryz.lays243 i hi w
def Tryz.laysM171_ren:Go.Shelf.Ren:=⟨fun | 171=>97 | 243=>123 | 246=>145 | 283=>159 | 284=>160 | 285=>161 | 286=>162 | 129=>173 | 317=>172 | 318=>174 | 319=>175 | 320=>176 | 337=>181 | 338=>182 | n=>n,fun | 3=>3 | 9=>9 | 2=>2 | 4=>4 | 171=>194 | 0=>0 | 53=>155 | 37=>80 | 5=>5 | 173=>197 | 212=>209 | 51=>188 | 20=>20 | 213=>210 | 46=>173 | 232=>227 | 233=>228 | n=>n,fun | 17=>3 | 18=>8 | 19=>9 | n=>n⟩
theorem Tryz.laysM171:Go.Proofs.LaysM.n171 Tryz.prog Tryz.laysM171_ren:=by
 repeat' first | kernel_rfl | (intro; kernel_rfl) | constructor
open Go.RowKit Go.Sort Go.Lib in
theorem Tryz.strconv_Itoa (n:Int) (h0 : -9223372036854775808≤n) (h1:n≤9223372036854775807) (w:World) (htab:Lib.TabIs Tryz.prog w "internal/strconv.uint64pow10" .u64 Lib.pow10Tab) :
    Calls Tryz.prog 97 #[.int .i64 n] w fun e w'=>e=.returned (.string ⟨(Lib.itoa n).toArray⟩)∧∃ k os,w'=grow (w.drewN k) os:=Any.strconv_Itoa Tryz.laysM171 n h0 h1 w htab
def Tryz.lays171_ren:Go.Shelf.Ren:=⟨fun | 171=>97 | 243=>123 | 246=>145 | 283=>159 | 284=>160 | 285=>161 | 286=>162 | 129=>173 | 317=>172 | 318=>174 | 319=>175 | 320=>176 | 337=>181 | 338=>182 | n=>n,fun | 3=>3 | 9=>9 | 2=>2 | 4=>4 | 171=>194 | 0=>0 | 53=>155 | 37=>80 | 5=>5 | 173=>197 | 212=>209 | 51=>188 | 20=>20 | 213=>210 | 46=>173 | 232=>227 | 233=>228 | n=>n,fun | 17=>3 | 18=>8 | 19=>9 | n=>n⟩
theorem Tryz.lays171:Go.Proofs.Lays.n171 Tryz.prog Tryz.lays171_ren:=by
 repeat' first | kernel_rfl | (intro; kernel_rfl) | constructor
open Go.RowKit Go.Sort Go.Lib in
theorem Tryz.strconv_Itoa_small (i:Nat) (hi:i < 100) (w:World) :
    Calls Tryz.prog 97 #[.int .i64 i] w fun e w'=>e=.returned (.string ⟨(Lib.decDigits i).toArray⟩)∧w'=w:=Any.strconv_Itoa_small Tryz.lays171 i hi w
open Go.RowKit in
theorem Tryz.internal_strconv_Atoi_err (s:ByteArray) (hl0:1≤s.size) (hl:s.size≤18) (h:Lib.atoi s.data.toList=none) (w:World) :
    Calls Tryz.prog 153 #[.string s] w fun e w'=>e=.returned (.tuple #[.int .i64 0,(.iface 202 (.int .i64 2))])∧(w'=w∨∃ t,w'=Lib.bytesWorld w 5 t):=Any.internal_strconv_Atoi_err Tryz.lays244 s hl0 hl h w
def Tryz.lays247_ren:Go.Shelf.Ren:=⟨fun | 247=>166 | 287=>178 | 321=>183 | 322=>184 | n=>n,fun | 9=>9 | 3=>3 | 2=>2 | 75=>117 | 4=>4 | 167=>202 | 5=>5 | 53=>155 | 175=>212 | 46=>173 | 37=>80 | 0=>0 | 21=>21 | 80=>88 | n=>n,fun | n=>n⟩
theorem Tryz.lays247:Go.Proofs.Lays.n247 Tryz.prog Tryz.lays247_ren:=by
 repeat' first | kernel_rfl | (intro; kernel_rfl) | constructor
open Go.RowKit in
theorem Tryz.internal_strconv_ParseInt_empty (base bits:Int) (w:World) :
    Calls Tryz.prog 166 #[.string ⟨#[]⟩,.int .i64 base,.int .i64 bits] w fun e w'=>e=.returned (.tuple #[.int .i64 0,(.iface 202 (.int .i64 2))])∧w'=w:=Any.internal_strconv_ParseInt_empty Tryz.lays247 base bits w
open Go.RowKit in
theorem Tryz.internal_strconv_Atoi_empty (w:World) :
    Calls Tryz.prog 153 #[.string ⟨#[]⟩] w fun e w'=>e=.returned (.tuple #[.int .i64 0,(.iface 202 (.int .i64 2))])∧w'=w:=Any.internal_strconv_Atoi_empty Tryz.lays244 w
open Go.RowKit in
theorem Tryz.internal_strconv_Atoi_fail (s:ByteArray) (hl:s.size≤18) (h:Lib.atoi s.data.toList=none) (w:World) :
    Calls Tryz.prog 153 #[.string s] w fun e w'=>e=.returned (.tuple #[.int .i64 0,(.iface 202 (.int .i64 2))])∧(w'=w∨∃ t,w'=Lib.bytesWorld w 5 t):=Any.internal_strconv_Atoi_fail Tryz.lays244 s hl h w
def Tryz.laysM316_ren:Go.Shelf.Ren:=⟨fun | 316=>179 | n=>n,fun | 9=>9 | 3=>3 | 4=>4 | 37=>80 | 0=>0 | 127=>122 | 5=>5 | n=>n,fun | n=>n⟩
theorem Tryz.laysM316:Go.Proofs.LaysM.n316 Tryz.prog Tryz.laysM316_ren:=by
 repeat' first | kernel_rfl | (intro; kernel_rfl) | constructor
open Go.RowKit in
theorem Tryz.stringslite_Clone (s:ByteArray) (w:World) (hlim:s.size≤281474976710656) :
    Calls Tryz.prog 179 #[.string s] w fun e w'=>e=.returned (.string s)∧Below w.heap.size w w':=Any.stringslite_Clone Tryz.laysM316 s w hlim
def Tryz.laysM279_ren:Go.Shelf.Ren:=⟨fun | 279=>167 | 316=>179 | n=>n,fun | 9=>9 | 168=>205 | 75=>117 | 210=>216 | 3=>3 | 4=>4 | 37=>80 | 0=>0 | 127=>122 | 80=>88 | 5=>5 | n=>n,fun | 15=>4 | n=>n⟩
theorem Tryz.laysM279:Go.Proofs.LaysM.n279 Tryz.prog Tryz.laysM279_ren:=by
 repeat' first | kernel_rfl | (intro; kernel_rfl) | constructor
open Go.RowKit in
theorem Tryz.strconv_syntaxError (fn s:ByteArray) (ev:Value) (w:World) (hlim:s.size≤281474976710656) (hv:w.cell? ⟨4,0,none⟩=some ev) (hev:ev=.nilIface∨∃ te pe,ev=.iface te pe) :
    Calls Tryz.prog 167 #[.string fn,.string s] w fun e w'=>∃ N,e=.returned (.pointer (some ⟨N,0,none⟩))∧w.heap.size≤N∧w'.heap[N]?=some (.cells #[.string fn,.string s,ev] 216 (0,0))∧Below w.heap.size w w':=Any.strconv_syntaxError Tryz.laysM279 fn s ev w hlim hv hev
def Tryz.laysC245_ren:Go.Shelf.Ren:=⟨fun | 245=>154 | 279=>167 | 280=>168 | 281=>169 | 282=>170 | 316=>179 | 171=>97 | 205=>180 | 243=>123 | 246=>145 | 283=>159 | 284=>160 | 285=>161 | 286=>162 | 129=>173 | 317=>172 | 318=>174 | 319=>175 | 320=>176 | 337=>181 | 338=>182 | n=>n,fun | 9=>9 | 3=>3 | 75=>117 | 167=>202 | 4=>4 | 168=>205 | 210=>216 | 37=>80 | 0=>0 | 127=>122 | 145=>226 | 143=>224 | 2=>2 | 171=>194 | 53=>155 | 5=>5 | 173=>197 | 212=>209 | 51=>188 | 20=>20 | 213=>210 | 46=>173 | 232=>227 | 233=>228 | 80=>88 | n=>n,fun | 15=>4 | 16=>5 | 17=>3 | 18=>8 | 19=>9 | n=>n⟩
theorem Tryz.laysC245:Go.Proofs.LaysC.n245 Tryz.prog Tryz.laysC245_ren:=by
 repeat' first | kernel_rfl | (intro; kernel_rfl) | constructor
open Go.RowKit in
theorem Tryz.strconv_toError_syntax (fn s:ByteArray) (base bits:Int) (ev:Value) (w:World) (hlim:s.size≤281474976710656) (hv:w.cell? ⟨4,0,none⟩=some ev) (hev:ev=.nilIface∨∃ te pe,ev=.iface te pe) :
    Calls Tryz.prog 154 #[.string fn,.string s,.int .i64 base,.int .i64 bits,.iface 202 (.int .i64 2)] w fun e w'=>∃ N,e=.returned (.iface 205 (.pointer (some ⟨N,0,none⟩)))∧w.heap.size≤N∧w'.heap[N]?=some (.cells #[.string fn,.string s,ev] 216 (0,0))∧Below w.heap.size w w':=Any.strconv_toError_syntax Tryz.laysC245 fn s base bits ev w hlim hv hev
def Tryz.lays321_ren:Go.Shelf.Ren:=⟨fun | 321=>183 | n=>n,fun | 5=>5 | n=>n,fun | n=>n⟩
theorem Tryz.lays321:Go.Proofs.Lays.n321 Tryz.prog Tryz.lays321_ren:=by
 repeat' first | kernel_rfl | (intro; kernel_rfl) | constructor
open Go.RowKit in
theorem Tryz.internal_strconv_lower (c:Int) (w:World) :
    Calls Tryz.prog 183 #[.int .u8 c] w fun e w'=>e=.returned (.int .u8 (bits .or .u8 c 32))∧w'=w:=Any.internal_strconv_lower Tryz.lays321 c w
def Tryz.lays287_ren:Go.Shelf.Ren:=⟨fun | 287=>178 | 321=>183 | 322=>184 | n=>n,fun | 9=>9 | 3=>3 | 53=>155 | 75=>117 | 4=>4 | 167=>202 | 5=>5 | 46=>173 | 37=>80 | 0=>0 | 21=>21 | 80=>88 | n=>n,fun | n=>n⟩
theorem Tryz.lays287:Go.Proofs.Lays.n287 Tryz.prog Tryz.lays287_ren:=by
 repeat' first | kernel_rfl | (intro; kernel_rfl) | constructor
open Go.RowKit in
theorem Tryz.internal_strconv_ParseUint_10 (t:ByteArray) (hne:t.size≠0) (hmax:t.size≤9223372036854775806) (w:World) :
    Calls Tryz.prog 178 #[.string t,.int .i64 10,.int .i64 0] w fun e w'=>e=.returned (Lib.uintTuple 202 (Lib.parseUint10 0 t.data.toList))∧w'=Lib.bytesWorld w 5 t:=Any.internal_strconv_ParseUint_10 Tryz.lays287 t hne hmax w
open Go.RowKit in
theorem Tryz.internal_strconv_ParseUint_10_any (t:ByteArray) (hmax:t.size≤9223372036854775806) (w:World) :
    Calls Tryz.prog 178 #[.string t,.int .i64 10,.int .i64 0] w fun e w'=>e=.returned (Lib.uintTuple 202 (Lib.parseMag t.data.toList))∧(w'=w∨w'=Lib.bytesWorld w 5 t):=Any.internal_strconv_ParseUint_10_any Tryz.lays287 t hmax w
def Tryz.laysC247_ren:Go.Shelf.Ren:=⟨fun | 247=>166 | 287=>178 | 321=>183 | 322=>184 | n=>n,fun | 9=>9 | 3=>3 | 2=>2 | 75=>117 | 4=>4 | 167=>202 | 5=>5 | 53=>155 | 175=>212 | 46=>173 | 37=>80 | 0=>0 | 21=>21 | 80=>88 | n=>n,fun | n=>n⟩
theorem Tryz.laysC247:Go.Proofs.LaysC.n247 Tryz.prog Tryz.laysC247_ren:=by
 repeat' first | kernel_rfl | (intro; kernel_rfl) | constructor
open Go.RowKit in
theorem Tryz.internal_strconv_ParseInt_10 (s:ByteArray) (hne:s.size≠0) (hmax:s.size≤9223372036854775806) (w:World) :
    Calls Tryz.prog 166 #[.string s,.int .i64 10,.int .i64 0] w fun e w'=>e=.returned (Lib.intTuple 202 (Lib.atoiSat s.data.toList) (Lib.atoiAll s.data.toList))∧(w'=w∨∃ t,w'=Lib.bytesWorld w 5 t):=Any.internal_strconv_ParseInt_10 Tryz.laysC247 s hne hmax w
def Tryz.laysC244_ren:Go.Shelf.Ren:=⟨fun | 244=>153 | 247=>166 | 287=>178 | 321=>183 | 322=>184 | n=>n,fun | 9=>9 | 3=>3 | 75=>117 | 4=>4 | 5=>5 | 167=>202 | 37=>80 | 0=>0 | 85=>203 | 2=>2 | 53=>155 | 175=>212 | 46=>173 | 21=>21 | 80=>88 | n=>n,fun | n=>n⟩
theorem Tryz.laysC244:Go.Proofs.LaysC.n244 Tryz.prog Tryz.laysC244_ren:=by
 repeat' first | kernel_rfl | (intro; kernel_rfl) | constructor
open Go.RowKit in
theorem Tryz.internal_strconv_Atoi_long (s:ByteArray) (h19:19≤s.size) (hmax:s.size≤9223372036854775806) (w:World) :
    Calls Tryz.prog 153 #[.string s] w fun e w'=>e=.returned (Lib.intTuple 202 (Lib.atoiSat s.data.toList) (Lib.atoiAll s.data.toList))∧(w'=w∨∃ t,w'=Lib.bytesWorld w 5 t):=Any.internal_strconv_Atoi_long Tryz.laysC244 s h19 hmax w
open Go.RowKit in
theorem Tryz.internal_strconv_Atoi_all (s:ByteArray) (hmax:s.size≤9223372036854775806) (w:World) :
    Calls Tryz.prog 153 #[.string s] w fun e w'=>e=.returned (Lib.intTuple 202 (Lib.atoiSat s.data.toList) (Lib.atoiAll s.data.toList))∧(w'=w∨∃ t,w'=Lib.bytesWorld w 5 t):=Any.internal_strconv_Atoi_all Tryz.laysC244 s hmax w
def Tryz.laysM280_ren:Go.Shelf.Ren:=⟨fun | 280=>168 | 316=>179 | n=>n,fun | 9=>9 | 168=>205 | 75=>117 | 210=>216 | 3=>3 | 4=>4 | 37=>80 | 0=>0 | 127=>122 | 80=>88 | 5=>5 | n=>n,fun | 16=>5 | n=>n⟩
theorem Tryz.laysM280:Go.Proofs.LaysM.n280 Tryz.prog Tryz.laysM280_ren:=by
 repeat' first | kernel_rfl | (intro; kernel_rfl) | constructor
open Go.RowKit in
theorem Tryz.strconv_rangeError (fn s:ByteArray) (ev:Value) (w:World) (hlim:s.size≤281474976710656) (hv:w.cell? ⟨5,0,none⟩=some ev) (hev:ev=.nilIface∨∃ te pe,ev=.iface te pe) :
    Calls Tryz.prog 168 #[.string fn,.string s] w fun e w'=>∃ N,e=.returned (.pointer (some ⟨N,0,none⟩))∧w.heap.size≤N∧w'.heap[N]?=some (.cells #[.string fn,.string s,ev] 216 (0,0))∧Below w.heap.size w w':=Any.strconv_rangeError Tryz.laysM280 fn s ev w hlim hv hev
open Go.RowKit in
theorem Tryz.strconv_toError_range (fn s:ByteArray) (base bits:Int) (ev:Value) (w:World) (hlim:s.size≤281474976710656) (hv:w.cell? ⟨5,0,none⟩=some ev) (hev:ev=.nilIface∨∃ te pe,ev=.iface te pe) :
    Calls Tryz.prog 154 #[.string fn,.string s,.int .i64 base,.int .i64 bits,.iface 202 (.int .i64 1)] w fun e w'=>∃ N,e=.returned (.iface 205 (.pointer (some ⟨N,0,none⟩)))∧w.heap.size≤N∧w'.heap[N]?=some (.cells #[.string fn,.string s,ev] 216 (0,0))∧Below w.heap.size w w':=Any.strconv_toError_range Tryz.laysC245 fn s base bits ev w hlim hv hev
def Tryz.laysC172_ren:Go.Shelf.Ren:=⟨fun | 172=>138 | 244=>153 | 245=>154 | 247=>166 | 279=>167 | 280=>168 | 281=>169 | 282=>170 | 287=>178 | 316=>179 | 171=>97 | 205=>180 | 321=>183 | 322=>184 | 243=>123 | 246=>145 | 283=>159 | 284=>160 | 285=>161 | 286=>162 | 129=>173 | 317=>172 | 318=>174 | 319=>175 | 320=>176 | 337=>181 | 338=>182 | n=>n,fun | 9=>9 | 3=>3 | 75=>117 | 76=>119 | 4=>4 | 5=>5 | 167=>202 | 37=>80 | 0=>0 | 85=>203 | 2=>2 | 168=>205 | 53=>155 | 175=>212 | 46=>173 | 210=>216 | 127=>122 | 145=>226 | 143=>224 | 21=>21 | 171=>194 | 173=>197 | 212=>209 | 51=>188 | 20=>20 | 213=>210 | 232=>227 | 233=>228 | 80=>88 | n=>n,fun | 15=>4 | 16=>5 | 17=>3 | 18=>8 | 19=>9 | n=>n⟩
theorem Tryz.laysC172:Go.Proofs.LaysC.n172 Tryz.prog Tryz.laysC172_ren:=by
 repeat' first | kernel_rfl | (intro; kernel_rfl) | constructor
open Go.RowKit in
theorem Tryz.strconv_Atoi_ok (s:ByteArray) (hmax:s.size≤9223372036854775806) (v:Int) (h:Lib.atoiAll s.data.toList=.ok v) (w:World) :
    Calls Tryz.prog 138 #[.string s] w fun e w'=>e=.returned (.tuple #[.int .i64 v,.nilIface])∧(w'=w∨∃ t,w'=Lib.bytesWorld w 5 t):=Any.strconv_Atoi_ok Tryz.laysC172 s hmax v h w
open Go.RowKit in
theorem Tryz.strconv_Atoi_range (s:ByteArray) (hlim:s.size≤281474976710656) (h:Lib.atoiAll s.data.toList=.range) (ev:Value) (w:World) (hv:w.cell? ⟨5,0,none⟩=some ev) (hev:ev=.nilIface∨∃ te pe,ev=.iface te pe) :
    Calls Tryz.prog 138 #[.string s] w fun e w'=>∃ N,e=.returned (.tuple #[.int .i64 (Lib.atoiSat s.data.toList),.iface 205 (.pointer (some ⟨N,0,none⟩))])∧w.heap.size≤N∧w'.heap[N]?=some (.cells #[.string ⟨#[65,116,111,105]⟩,.string s,ev] 216 (0,0))∧Below w.heap.size w w':=Any.strconv_Atoi_range Tryz.laysC172 s hlim h ev w hv hev
open Go.RowKit in
theorem Tryz.strconv_Atoi_range_var (s:ByteArray) (hlim:s.size≤281474976710656) (h:Lib.atoiAll s.data.toList=.range) (tp:TypeId) (p:Value) (w:World) (hvar:w.var? Tryz.prog "strconv.ErrRange" = some #[.iface tp p]) :
    Calls Tryz.prog 138 #[.string s] w fun e w'=>∃ N,e=.returned (.tuple #[.int .i64 (Lib.atoiSat s.data.toList),.iface 205 (.pointer (some ⟨N,0,none⟩))])∧w.heap.size≤N∧w'.heap[N]?=some (.cells #[.string ⟨#[65,116,111,105]⟩,.string s,.iface tp p] 216 (0,0))∧Below w.heap.size w w':=Any.strconv_Atoi_range_var Tryz.laysC172 s hlim h tp p w hvar
def Tryz.lays217_ren:Go.Shelf.Ren:=⟨fun | 217=>130 | 266=>148 | n=>n,fun | 9=>9 | 5=>5 | 3=>3 | n=>n,fun | n=>n⟩
theorem Tryz.lays217:Go.Proofs.Lays.n217 Tryz.prog Tryz.lays217_ren:=by
 repeat' first | kernel_rfl | (intro; kernel_rfl) | constructor
open Go.RowKit Go.Lib in
theorem Tryz.stringslite_IndexByte (s:ByteArray) (c:Int) (w:World) :
    Calls Tryz.prog 130 #[.string s,.int .u8 c] w fun e w'=>e=.returned (.int .i64 (Lib.indexByte s.data.toList c.toNat.toUInt8))∧w'=w:=Any.stringslite_IndexByte Tryz.lays217 s c w
def Tryz.lays224_ren:Go.Shelf.Ren:=⟨fun | 224=>132 | n=>n,fun | 3=>3 | n=>n,fun | n=>n⟩
theorem Tryz.lays224:Go.Proofs.Lays.n224 Tryz.prog Tryz.lays224_ren:=by
 repeat' first | kernel_rfl | (intro; kernel_rfl) | constructor
open Go.RowKit Go.Lib in
theorem Tryz.bytealg_Cutover (n:Int) (h0:0≤n) (h1:n < 4611686018427387904) (w:World) :
    Calls Tryz.prog 132 #[.int .i64 n] w fun e w'=>e=.returned (.int .i64 ((n+16) / 8))∧w'=w:=Any.bytealg_Cutover Tryz.lays224 n h0 h1 w
def Tryz.lays314_ren:Go.Shelf.Ren:=⟨fun | 314=>149 | n=>n,fun | 9=>9 | 51=>188 | 3=>3 | 4=>4 | 5=>5 | 46=>173 | n=>n,fun | n=>n⟩
theorem Tryz.lays314:Go.Proofs.Lays.n314 Tryz.prog Tryz.lays314_ren:=by
 repeat' first | kernel_rfl | (intro; kernel_rfl) | constructor
open Go.RowKit Go.Lib in
theorem Tryz.bytealg_hashStr (sep:ByteArray) (hs:sep.size < 4294967281) (w:World) :
    Calls Tryz.prog 149 #[.string sep] w fun e w'=>e=.returned (.tuple #[.int .u32 (RK.H sep.data.toList % 4294967296),.int .u32 (16777619 ^ sep.size % 4294967296)])∧w'=w:=Any.bytealg_hashStr Tryz.lays314 sep hs w
def Tryz.lays267_ren:Go.Shelf.Ren:=⟨fun | 267=>133 | 314=>149 | n=>n,fun | 9=>9 | 3=>3 | 146=>189 | 51=>188 | 4=>4 | 5=>5 | 46=>173 | n=>n,fun | n=>n⟩
theorem Tryz.lays267:Go.Proofs.Lays.n267 Tryz.prog Tryz.lays267_ren:=by
 repeat' first | kernel_rfl | (intro; kernel_rfl) | constructor
open Go.RowKit Go.Lib in
theorem Tryz.bytealg_IndexRabinKarp (s sep:ByteArray) (h1:1≤sep.size) (h2:sep.size≤s.size) (hs:s.size < 4294967281) (w:World) :
    Calls Tryz.prog 133 #[.string s,.string sep] w fun e w'=>e=.returned (.int .i64 (Lib.index s.data.toList sep.data.toList))∧w'=w:=Any.bytealg_IndexRabinKarp Tryz.lays267 s sep h1 h2 hs w
def Tryz.lays219_ren:Go.Shelf.Ren:=⟨fun | 219=>103 | 217=>130 | 225=>131 | 224=>132 | 267=>133 | 266=>148 | 314=>149 | n=>n,fun | 9=>9 | 3=>3 | 4=>4 | 5=>5 | 46=>173 | 146=>189 | 51=>188 | n=>n,fun | 1=>2 | n=>n⟩
theorem Tryz.lays219:Go.Proofs.Lays.n219 Tryz.prog Tryz.lays219_ren:=by
 repeat' first | kernel_rfl | (intro; kernel_rfl) | constructor
open Go.RowKit Go.Lib in
theorem Tryz.stringslite_Index_one (s:ByteArray) (c:UInt8) (w:World) :
    Calls Tryz.prog 103 #[.string s,.string ⟨#[c]⟩] w fun e w'=>e=.returned (.int .i64 (Lib.indexByte s.data.toList c))∧w'=w:=Any.stringslite_Index_one Tryz.lays219 s c w
open Go.RowKit Go.Lib in
theorem Tryz.stringslite_Index (s sub:ByteArray) (m:Int) (w:World) (hs:s.size < 4294967281) (hm:w.cell? ⟨2,0,none⟩=some (.int .i64 m)) :
    Calls Tryz.prog 103 #[.string s,.string sub] w fun e w'=>e=.returned (.int .i64 (Lib.index s.data.toList sub.data.toList))∧w'=w:=Any.stringslite_Index Tryz.lays219 s sub m w hs hm
def Tryz.lays143_ren:Go.Shelf.Ren:=⟨fun | 143=>152 | 219=>103 | 217=>130 | 225=>131 | 224=>132 | 267=>133 | 266=>148 | 314=>149 | n=>n,fun | 9=>9 | 3=>3 | 4=>4 | 5=>5 | 46=>173 | 146=>189 | 51=>188 | n=>n,fun | 1=>2 | n=>n⟩
theorem Tryz.lays143:Go.Proofs.Lays.n143 Tryz.prog Tryz.lays143_ren:=by
 repeat' first | kernel_rfl | (intro; kernel_rfl) | constructor
open Go.RowKit Go.Lib in
theorem Tryz.strings_Index_one (s:ByteArray) (c:UInt8) (w:World) :
    Calls Tryz.prog 152 #[.string s,.string ⟨#[c]⟩] w fun e w'=>e=.returned (.int .i64 (Lib.indexByte s.data.toList c))∧w'=w:=Any.strings_Index_one Tryz.lays143 s c w
open Go.RowKit Go.Lib in
theorem Tryz.strings_Index (s sub:ByteArray) (m:Int) (w:World) (hs:s.size < 4294967281) (hm:w.cell? ⟨2,0,none⟩=some (.int .i64 m)) :
    Calls Tryz.prog 152 #[.string s,.string sub] w fun e w'=>e=.returned (.int .i64 (Lib.index s.data.toList sub.data.toList))∧w'=w:=Any.strings_Index Tryz.lays143 s sub m w hs hm
def Tryz.lays220_ren:Go.Shelf.Ren:=⟨fun | 220=>71 | 219=>103 | 217=>130 | 225=>131 | 224=>132 | 267=>133 | 266=>148 | 314=>149 | n=>n,fun | 9=>9 | 4=>4 | 3=>3 | 5=>5 | 46=>173 | 146=>189 | 51=>188 | n=>n,fun | 1=>2 | n=>n⟩
theorem Tryz.lays220:Go.Proofs.Lays.n220 Tryz.prog Tryz.lays220_ren:=by
 repeat' first | kernel_rfl | (intro; kernel_rfl) | constructor
open Go.RowKit Go.Lib in
theorem Tryz.stringslite_Cut (s sep:ByteArray) (m:Int) (w:World) (hs:s.size < 4294967281) (hm:w.cell? ⟨2,0,none⟩=some (.int .i64 m)) :
    Calls Tryz.prog 71 #[.string s,.string sep] w fun e w'=>e=.returned (.tuple #[.string ⟨(Lib.cut s.data.toList sep.data.toList).1.toArray⟩,.string ⟨(Lib.cut s.data.toList sep.data.toList).2.1.toArray⟩,.bool (Lib.cut s.data.toList sep.data.toList).2.2])∧∃ n,w'=w.drewN n:=Any.stringslite_Cut Tryz.lays220 s sep m w hs hm
def Tryz.lays145_ren:Go.Shelf.Ren:=⟨fun | 145=>35 | 220=>71 | 219=>103 | 217=>130 | 225=>131 | 224=>132 | 267=>133 | 266=>148 | 314=>149 | n=>n,fun | 9=>9 | 4=>4 | 59=>97 | 3=>3 | 5=>5 | 46=>173 | 146=>189 | 51=>188 | n=>n,fun | 1=>2 | n=>n⟩
theorem Tryz.lays145:Go.Proofs.Lays.n145 Tryz.prog Tryz.lays145_ren:=by
 repeat' first | kernel_rfl | (intro; kernel_rfl) | constructor
open Go.RowKit Go.Lib in
theorem Tryz.strings_Cut (s sep:ByteArray) (m:Int) (w:World) (hs:s.size < 4294967281) (hm:w.cell? ⟨2,0,none⟩=some (.int .i64 m)) :
    Calls Tryz.prog 35 #[.string s,.string sep] w fun e w'=>e=.returned (.tuple #[.string ⟨(Lib.cut s.data.toList sep.data.toList).1.toArray⟩,.string ⟨(Lib.cut s.data.toList sep.data.toList).2.1.toArray⟩,.bool (Lib.cut s.data.toList sep.data.toList).2.2])∧∃ n,w'=w.drewN n:=Any.strings_Cut Tryz.lays145 s sep m w hs hm
def Tryz.lays138_ren:Go.Shelf.Ren:=⟨fun | 138=>151 | 195=>163 | 218=>165 | 143=>152 | 219=>103 | 217=>130 | 225=>131 | 224=>132 | 267=>133 | 266=>148 | 314=>149 | n=>n,fun | 9=>9 | 3=>3 | 4=>4 | 5=>5 | 0=>0 | 46=>173 | 146=>189 | 51=>188 | n=>n,fun | 1=>2 | n=>n⟩
theorem Tryz.lays138:Go.Proofs.Lays.n138 Tryz.prog Tryz.lays138_ren:=by
 repeat' first | kernel_rfl | (intro; kernel_rfl) | constructor
open Go.RowKit Go.Lib in
theorem Tryz.strings_Count_one (s:ByteArray) (c:UInt8) (w:World) :
    Calls Tryz.prog 151 #[.string s,.string ⟨#[c]⟩] w fun e w'=>e=.returned (.int .i64 (Lib.countByte s.data.toList c))∧w'=w:=Any.strings_Count_one Tryz.lays138 s c w
open Go.RowKit Go.Lib in
theorem Tryz.strings_Count (s sub:ByteArray) (m:Int) (w:World) (hs:s.size < 4294967281) (hm:w.cell? ⟨2,0,none⟩=some (.int .i64 m)) (h2:2≤sub.size) :
    Calls Tryz.prog 151 #[.string s,.string sub] w fun e w'=>e=.returned (.int .i64 (Lib.countB s sub))∧w'=w:=Any.strings_Count Tryz.lays138 s sub m w hs hm h2
def Tryz.laysM219_ren:Go.Shelf.Ren:=⟨fun | 219=>103 | 217=>130 | 225=>131 | 224=>132 | 267=>133 | 266=>148 | 314=>149 | n=>n,fun | 9=>9 | 3=>3 | 4=>4 | 5=>5 | 46=>173 | 146=>189 | 51=>188 | n=>n,fun | 1=>2 | n=>n⟩
theorem Tryz.laysM219:Go.Proofs.LaysM.n219 Tryz.prog Tryz.laysM219_ren:=by
 repeat' first | kernel_rfl | (intro; kernel_rfl) | constructor
 exact fun w h=>Go.Proofs.cell_of_shapedOpen_int (zero:=#[.int .i64 0]) (t:=3) h (of_decide_eq_true (by kernel_rfl)) (by kernel_rfl) rfl (by kernel_rfl) (by kernel_rfl) Tryz.underlying3
open Go.RowKit Go.Lib in
theorem Tryz.stringslite_Index_shaped (s sub:ByteArray) (w:World) (h:w.ShapedOpen Tryz.prog) (hs:s.size < 4294967281) :
    Calls Tryz.prog 103 #[.string s,.string sub] w fun e w'=>e=.returned (.int .i64 (Lib.index s.data.toList sub.data.toList))∧w'=w:=Any.stringslite_Index_shaped Tryz.laysM219 s sub w h hs
def Tryz.laysM143_ren:Go.Shelf.Ren:=⟨fun | 143=>152 | 219=>103 | 217=>130 | 225=>131 | 224=>132 | 267=>133 | 266=>148 | 314=>149 | n=>n,fun | 9=>9 | 3=>3 | 4=>4 | 5=>5 | 46=>173 | 146=>189 | 51=>188 | n=>n,fun | 1=>2 | n=>n⟩
theorem Tryz.laysM143:Go.Proofs.LaysM.n143 Tryz.prog Tryz.laysM143_ren:=by
 repeat' first | kernel_rfl | (intro; kernel_rfl) | constructor
 exact fun w h=>Go.Proofs.cell_of_shapedOpen_int (zero:=#[.int .i64 0]) (t:=3) h (of_decide_eq_true (by kernel_rfl)) (by kernel_rfl) rfl (by kernel_rfl) (by kernel_rfl) Tryz.underlying3
open Go.RowKit Go.Lib in
theorem Tryz.strings_Index_shaped (s sub:ByteArray) (w:World) (h:w.ShapedOpen Tryz.prog) (hs:s.size < 4294967281) :
    Calls Tryz.prog 152 #[.string s,.string sub] w fun e w'=>e=.returned (.int .i64 (Lib.index s.data.toList sub.data.toList))∧w'=w:=Any.strings_Index_shaped Tryz.laysM143 s sub w h hs
def Tryz.laysM220_ren:Go.Shelf.Ren:=⟨fun | 220=>71 | 219=>103 | 217=>130 | 225=>131 | 224=>132 | 267=>133 | 266=>148 | 314=>149 | n=>n,fun | 9=>9 | 4=>4 | 3=>3 | 5=>5 | 46=>173 | 146=>189 | 51=>188 | n=>n,fun | 1=>2 | n=>n⟩
theorem Tryz.laysM220:Go.Proofs.LaysM.n220 Tryz.prog Tryz.laysM220_ren:=by
 repeat' first | kernel_rfl | (intro; kernel_rfl) | constructor
 exact fun w h=>Go.Proofs.cell_of_shapedOpen_int (zero:=#[.int .i64 0]) (t:=3) h (of_decide_eq_true (by kernel_rfl)) (by kernel_rfl) rfl (by kernel_rfl) (by kernel_rfl) Tryz.underlying3
open Go.RowKit Go.Lib in
theorem Tryz.stringslite_Cut_shaped (s sep:ByteArray) (w:World) (h:w.ShapedOpen Tryz.prog) (hs:s.size < 4294967281) :
    Calls Tryz.prog 71 #[.string s,.string sep] w fun e w'=>e=.returned (.tuple #[.string ⟨(Lib.cut s.data.toList sep.data.toList).1.toArray⟩,.string ⟨(Lib.cut s.data.toList sep.data.toList).2.1.toArray⟩,.bool (Lib.cut s.data.toList sep.data.toList).2.2])∧∃ n,w'=w.drewN n:=Any.stringslite_Cut_shaped Tryz.laysM220 s sep w h hs
def Tryz.laysM145_ren:Go.Shelf.Ren:=⟨fun | 145=>35 | 220=>71 | 219=>103 | 217=>130 | 225=>131 | 224=>132 | 267=>133 | 266=>148 | 314=>149 | n=>n,fun | 9=>9 | 4=>4 | 59=>97 | 3=>3 | 5=>5 | 46=>173 | 146=>189 | 51=>188 | n=>n,fun | 1=>2 | n=>n⟩
theorem Tryz.laysM145:Go.Proofs.LaysM.n145 Tryz.prog Tryz.laysM145_ren:=by
 repeat' first | kernel_rfl | (intro; kernel_rfl) | constructor
 exact fun w h=>Go.Proofs.cell_of_shapedOpen_int (zero:=#[.int .i64 0]) (t:=3) h (of_decide_eq_true (by kernel_rfl)) (by kernel_rfl) rfl (by kernel_rfl) (by kernel_rfl) Tryz.underlying3
open Go.RowKit Go.Lib in
theorem Tryz.strings_Cut_shaped (s sep:ByteArray) (w:World) (h:w.ShapedOpen Tryz.prog) (hs:s.size < 4294967281) :
    Calls Tryz.prog 35 #[.string s,.string sep] w fun e w'=>e=.returned (.tuple #[.string ⟨(Lib.cut s.data.toList sep.data.toList).1.toArray⟩,.string ⟨(Lib.cut s.data.toList sep.data.toList).2.1.toArray⟩,.bool (Lib.cut s.data.toList sep.data.toList).2.2])∧∃ n,w'=w.drewN n:=Any.strings_Cut_shaped Tryz.laysM145 s sep w h hs
def Tryz.laysM138_ren:Go.Shelf.Ren:=⟨fun | 138=>151 | 195=>163 | 218=>165 | 143=>152 | 219=>103 | 217=>130 | 225=>131 | 224=>132 | 267=>133 | 266=>148 | 314=>149 | n=>n,fun | 9=>9 | 3=>3 | 4=>4 | 5=>5 | 0=>0 | 46=>173 | 146=>189 | 51=>188 | n=>n,fun | 1=>2 | n=>n⟩
theorem Tryz.laysM138:Go.Proofs.LaysM.n138 Tryz.prog Tryz.laysM138_ren:=by
 repeat' first | kernel_rfl | (intro; kernel_rfl) | constructor
 exact fun w h=>Go.Proofs.cell_of_shapedOpen_int (zero:=#[.int .i64 0]) (t:=3) h (of_decide_eq_true (by kernel_rfl)) (by kernel_rfl) rfl (by kernel_rfl) (by kernel_rfl) Tryz.underlying3
open Go.RowKit Go.Lib in
theorem Tryz.strings_Count_shaped (s sub:ByteArray) (w:World) (h:w.ShapedOpen Tryz.prog) (hs:s.size < 4294967281) (h2:2≤sub.size) :
    Calls Tryz.prog 151 #[.string s,.string sub] w fun e w'=>e=.returned (.int .i64 (Lib.countB s sub))∧w'=w:=Any.strings_Count_shaped Tryz.laysM138 s sub w h hs h2
def Tryz.lays206_ren:Go.Shelf.Ren:=⟨fun | 206=>171 | n=>n,fun | 9=>9 | 4=>4 | 3=>3 | n=>n,fun | n=>n⟩
theorem Tryz.lays206:Go.Proofs.Lays.n206 Tryz.prog Tryz.lays206_ren:=by
 repeat' first | kernel_rfl | (intro; kernel_rfl) | constructor
open Go.RowKit Go.Lib in
theorem Tryz.stringslite_HasPrefix (s p:ByteArray) (w:World) :
    Calls Tryz.prog 171 #[.string s,.string p] w fun e w'=>e=.returned (.bool (Lib.hasPrefix s.data.toList p.data.toList))∧w'=w:=Any.stringslite_HasPrefix Tryz.lays206 s p w
def Tryz.lays208_ren:Go.Shelf.Ren:=⟨fun | 208=>155 | 206=>171 | n=>n,fun | 9=>9 | 4=>4 | 3=>3 | n=>n,fun | n=>n⟩
theorem Tryz.lays208:Go.Proofs.Lays.n208 Tryz.prog Tryz.lays208_ren:=by
 repeat' first | kernel_rfl | (intro; kernel_rfl) | constructor
open Go.RowKit Go.Lib in
theorem Tryz.stringslite_TrimPrefix (s p:ByteArray) (w:World) :
    Calls Tryz.prog 155 #[.string s,.string p] w fun e w'=>e=.returned (.string ⟨(Lib.trimPrefix s.data.toList p.data.toList).toArray⟩)∧w'=w:=Any.stringslite_TrimPrefix Tryz.lays208 s p w
def Tryz.lays101_ren:Go.Shelf.Ren:=⟨fun | 101=>139 | 208=>155 | 206=>171 | n=>n,fun | 9=>9 | 4=>4 | 3=>3 | n=>n,fun | n=>n⟩
theorem Tryz.lays101:Go.Proofs.Lays.n101 Tryz.prog Tryz.lays101_ren:=by
 repeat' first | kernel_rfl | (intro; kernel_rfl) | constructor
open Go.RowKit Go.Lib in
theorem Tryz.strings_TrimPrefix (s p:ByteArray) (w:World) :
    Calls Tryz.prog 139 #[.string s,.string p] w fun e w'=>e=.returned (.string ⟨(Lib.trimPrefix s.data.toList p.data.toList).toArray⟩)∧w'=w:=Any.strings_TrimPrefix Tryz.lays101 s p w
open Go.RowKit Go.Lib in
theorem Tryz.strings_Count_any (s sep:ByteArray) (m:Int) (w:World) (hs:s.size < 4294967281) (hm:w.cell? ⟨2,0,none⟩=some (.int .i64 m)) (h1:1≤sep.size) :
    Calls Tryz.prog 151 #[.string s,.string sep] w fun e w'=>e=.returned (.int .i64 (Lib.countB s sep))∧w'=w:=Any.strings_Count_any Tryz.lays138 s sep m w hs hm h1
def Tryz.lays221_ren:Go.Shelf.Ren:=⟨fun | 221=>134 | 268=>150 | 138=>151 | 143=>152 | 195=>163 | 197=>164 | 218=>165 | 219=>103 | 260=>177 | 217=>130 | 225=>131 | 224=>132 | 267=>133 | 266=>148 | 314=>149 | n=>n,fun | 9=>9 | 3=>3 | 31=>59 | 4=>4 | 0=>0 | 105=>200 | 21=>21 | 5=>5 | 46=>173 | 119=>219 | 139=>222 | 138=>221 | 146=>189 | 51=>188 | n=>n,fun | 1=>2 | 3=>6 | 4=>7 | n=>n⟩
theorem Tryz.lays221:Go.Proofs.Lays.n221 Tryz.prog Tryz.lays221_ren:=by
 repeat' first | kernel_rfl | (intro; kernel_rfl) | constructor
open Go.RowKit Go.Lib in
theorem Tryz.strings_genSplit (s sep:ByteArray) (sv:Nat) (n:Int) (N:Nat) (m:Int) (w:World) (hs:s.size < 4294967281) (hm:w.cell? ⟨2,0,none⟩=some (.int .i64 m)) (h1:1≤sep.size) (hsv:sv≤sep.size) (hn0:n≠0) (hn63:n≤9223372036854775807) (hN:(N:Int)=min (if n < 0 then (Lib.countB s sep:Int)+1 else n) ((s.size:Int)+1)) :
    Calls Tryz.prog 134 #[.string s,.string sep,.int .i64 sv,.int .i64 n] w fun e w'=>
      e=.returned (.slice (some ⟨w.heap.size,0,none⟩) (Lib.splitB sep sv (N - 1) s).length N)∧w'=w.alloc (.cells (Lib.cellsOf (Lib.splitB sep sv (N - 1) s) N) 9):=Any.strings_genSplit Tryz.lays221 (by kernel_rfl) s sep sv n N m w hs hm h1 hsv hn0 hn63 hN
def Tryz.lays146_ren:Go.Shelf.Ren:=⟨fun | 146=>104 | 221=>134 | 268=>150 | 138=>151 | 143=>152 | 195=>163 | 197=>164 | 218=>165 | 219=>103 | 260=>177 | 217=>130 | 225=>131 | 224=>132 | 267=>133 | 266=>148 | 314=>149 | n=>n,fun | 9=>9 | 31=>59 | 3=>3 | 4=>4 | 0=>0 | 105=>200 | 21=>21 | 5=>5 | 46=>173 | 119=>219 | 139=>222 | 138=>221 | 146=>189 | 51=>188 | n=>n,fun | 1=>2 | 3=>6 | 4=>7 | n=>n⟩
theorem Tryz.lays146:Go.Proofs.Lays.n146 Tryz.prog Tryz.lays146_ren:=by
 repeat' first | kernel_rfl | (intro; kernel_rfl) | constructor
open Go.RowKit Go.Lib in
theorem Tryz.strings_Split (s sep:ByteArray) (m:Int) (w:World) (hs:s.size < 4294967281) (hm:w.cell? ⟨2,0,none⟩=some (.int .i64 m)) (h1:1≤sep.size) :
    Calls Tryz.prog 104 #[.string s,.string sep] w fun e w'=>
      e=.returned (.slice (some ⟨w.heap.size,0,none⟩) (Lib.countB s sep+1) (Lib.countB s sep+1))∧w'=w.alloc (.cells ((Lib.splitB sep 0 (Lib.countB s sep) s).map Value.string).toArray 9):=Any.strings_Split Tryz.lays146 (by kernel_rfl) s sep m w hs hm h1
def Tryz.laysM146_ren:Go.Shelf.Ren:=⟨fun | 146=>104 | 221=>134 | 268=>150 | 138=>151 | 143=>152 | 195=>163 | 197=>164 | 218=>165 | 219=>103 | 260=>177 | 217=>130 | 225=>131 | 224=>132 | 267=>133 | 266=>148 | 314=>149 | n=>n,fun | 9=>9 | 31=>59 | 3=>3 | 4=>4 | 0=>0 | 105=>200 | 21=>21 | 5=>5 | 46=>173 | 119=>219 | 139=>222 | 138=>221 | 146=>189 | 51=>188 | n=>n,fun | 1=>2 | 3=>6 | 4=>7 | n=>n⟩
theorem Tryz.laysM146:Go.Proofs.LaysM.n146 Tryz.prog Tryz.laysM146_ren:=by
 repeat' first | kernel_rfl | (intro; kernel_rfl) | constructor
 exact fun w h=>Go.Proofs.cell_of_shapedOpen_int (zero:=#[.int .i64 0]) (t:=3) h (of_decide_eq_true (by kernel_rfl)) (by kernel_rfl) rfl (by kernel_rfl) (by kernel_rfl) Tryz.underlying3
open Go.RowKit Go.Lib in
theorem Tryz.strings_Split_shaped (s sep:ByteArray) (w:World) (h:w.ShapedOpen Tryz.prog) (hs:s.size < 4294967281) (h1:1≤sep.size) :
    Calls Tryz.prog 104 #[.string s,.string sep] w fun e w'=>
      e=.returned (.slice (some ⟨w.heap.size,0,none⟩) (Lib.countB s sep+1) (Lib.countB s sep+1))∧w'=w.alloc (.cells ((Lib.splitB sep 0 (Lib.countB s sep) s).map Value.string).toArray 9):=Any.strings_Split_shaped Tryz.laysM146 s sep w h hs h1
def Tryz.lays260_ren:Go.Shelf.Ren:=⟨fun | 260=>177 | n=>n,fun | 9=>9 | 21=>21 | 3=>3 | 4=>4 | 5=>5 | 119=>219 | 0=>0 | 46=>173 | 139=>222 | 138=>221 | n=>n,fun | 3=>6 | 4=>7 | n=>n⟩
theorem Tryz.lays260:Go.Proofs.Lays.n260 Tryz.prog Tryz.lays260_ren:=by
 repeat' first | kernel_rfl | (intro; kernel_rfl) | constructor
open Go.RowKit Go.Lib in
theorem Tryz.utf8_decodeRuneInStringSlow (s:ByteArray) (w:World) (hT:Lib.Utf8Tabs 6 7 w) :
    Calls Tryz.prog 177 #[.string s] w fun e w'=>e=.returned (.tuple #[.int .i32 (Lib.decodeGo s).1,.int .i64 (Lib.decodeGo s).2])∧Below w.heap.size w w':=Any.utf8_decodeRuneInStringSlow Tryz.lays260 s w hT
end Go.Proofs
namespace Go.Proofs.YtheidkkebdhmkaaGreatDoor
open Go.RowKit
set_option linter.unusedVariables false
set_option linter.unusedSimpArgs false
set_option maxRecDepth 20000
open Go.Proofs.Tryz (prog)
section
open Go.Lib
open Go.Sort
set_option maxHeartbeats 2000000 in
set_option maxRecDepth 100000 in
theorem jZo (u:Nat) (h1:1≤u) (h2:u < 18446744073709551616) (w:World) (hc:∀ i:Nat,i < 20→w.cell? ⟨3,i,none⟩=some (.int .u64 ((10 ^ i:Nat):Int))) :
  Calls prog 160 #[.int .u64 u] w fun e w'=>e=.returned (.int .i64 (nDigits u))∧w'=w:=by
 obtain ⟨hs,h19⟩:=numDigits_eq u h1 h2
 have hL:Lib.bitLen u≤64:=Lib.bitLen_le u 64 (Nat.le_refl _) h2
 have hto:((u:Int)).toNat=u:=by omega
 obtain ⟨q,hq⟩:∃ q,l10 (Lib.bitLen u)=q:=⟨_,rfl⟩
 rw [hq] at hs h19
 have hcell:=hc q (by omega)
 obtain ⟨T,hT⟩:∃ T,10 ^ q=T:=⟨_,rfl⟩
 rw [hT] at hs hcell
 have H:=hid hs
 have HQ:=hid hq
 clear hs hc hq hT
 go_enter Tryz.func160,Tryz.ntmps160
 go_wp2_with (first
  |(go_at_call 173; refine (Tryz.bits_Len64 _ _ (by omega) (by omega)).mono ?_; rintro e w' ⟨rfl,rfl⟩; rw [hto])
  |(go_at_call 172; refine (Tryz.internal_strconv_log10Pow2 _ hL _).mono ?_; rintro e w' ⟨rfl,rfl⟩; rw [HQ.out])
  |(go_at_call 174; refine (Tryz.internal_strconv_bool2_int _ _).mono ?_; rintro e w' ⟨rfl,rfl⟩))
 all_goals go_ret
 all_goals
  refine ⟨?_,rfl⟩
  have e:=H.out
  congr 2
  split at e <;> simp_all <;> omega
theorem jXT (w:World) (q:Nat) (os:Array Obj):RowKit.Below w.heap.size w (grow (w.drewN q) os):=
 ⟨rfl,rfl,rfl,by show _≤(w.heap++os).size; rw [Array.size_append]; omega,fun k hk=>Array.getElem?_append_left hk⟩
abbrev u8v:UInt8→Value:=fun b=>Value.int .u8 (b.toNat:Int)
abbrev AT:TypeId:=194
theorem jY0 (u:Nat) (hu:u < 18446744073709551616) (hn:nDigits u≤20) (w:World) :
  Calls prog 161 #[.slice (some ⟨w.heap.size,1,none⟩) (nDigits u) 23,.int .u64 u] (w.alloc (.cells zeros24 AT)) fun e w'=>
   e=.returned (.tuple #[])∧(∀ j (hj:j < (decDigits u).length),w'.cell? ⟨w.heap.size,1+j,none⟩=some (u8v (decDigits u)[j]))∧w'.cell? ⟨w.heap.size,0,none⟩=some (.int .u8 0)∧w'.frozen? ⟨w.heap.size,0,none⟩=false∧Below w.heap.size w w':=by
 have hH:=holds_zero w AT (nDigits u) (by omega)
 have h:=Tryz.internal_strconv_formatBase10 w.heap.size 1 23 u (Array.replicate (nDigits u) 0) (w.alloc (.cells zeros24 AT)) hH (by rw [Array.size_replicate]; exact lt_pow_nDigits u) hu (by rw [Array.size_replicate]; omega)
 rw [Array.size_replicate] at h
 refine h.mono ?_
 rintro e w' ⟨rfl,k,v',dk,rfl,hF⟩
 have hsz:dk.size=nDigits u:=hF.size
 refine ⟨rfl,fun j hj=>?_,?_,?_,?_⟩
 ·have hj':j < nDigits u:=by rwa [decDigits_length] at hj
  rw [row_is_numeral hF j hj,World.cell?_drewN]
  exact cell?_putRow u8v _ w.heap.size 1 _ dk hH (by rw [hsz,Array.size_replicate]) j (by omega)
 ·rw [World.cell?_drewN,cell?_putRow_other _ _ _ _ _ _ (Or.inr (Or.inl (Nat.zero_lt_one))),World.cell?_alloc_new]
  exact zeros24_at 0 (by omega)
 ·rw [World.frozen?_drewN,frozen?_putRow]
  exact World.frozen?_alloc_new _ _ _ _
 ·obtain ⟨os,eo⟩:=fin_pos w (.cells zeros24 AT) dk k
  rw [eo]
  exact jXT w k os
theorem jZu (W:World) (g off cap:Nat) (l:List UInt8) (hc:∀ j (hj:j < l.length),W.cell? ⟨g,off+j,none⟩=some (u8v l[j])) :
  (convert 80 9 (.slice (some ⟨g,off,none⟩) l.length cap)).run prog W=.ok (.string ⟨l.toArray⟩) W:=
 run_convert_bytes_back (P:=prog) W 80 9 5 ⟨g,off,none⟩ cap l Tryz.underlying80 Tryz.underlying5 Tryz.underlying9 fun j hj=>by rw [add_plain]; exact hc j hj
set_option maxHeartbeats 6400000 in
set_option maxRecDepth 100000 in
theorem jZm (n:Int) (h0 : -9223372036854775808≤n) (h1:n≤9223372036854775807) (w:World)
  (hc:∀ i:Nat,i < 20→w.cell? ⟨3,i,none⟩=some (.int .u64 ((10 ^ i:Nat):Int))) (hg:3 < w.heap.size) :
  Calls prog 145 #[.int .i64 n,.int .i64 10] w fun e w'=>e=.returned (.string ⟨(itoa n).toArray⟩)∧Below w.heap.size w w':=by
 by_cases hs:0≤n∧n < 100
 ·obtain ⟨i,rfl⟩:∃ i:Nat,n=i:=⟨n.toNat,by omega⟩
  have hi:i < 100:=by omega
  clear hc
  go_enter Tryz.func145,Tryz.ntmps145
  go_wp2_with (go_at_call 159; refine (Tryz.internal_strconv_small i hi _).mono ?_; rintro e w' ⟨rfl,rfl⟩)
  go_ret
  refine ⟨?_,Below.refl _ _⟩
  rw [itoa_nonneg]
  rfl
 ·obtain ⟨u,hu⟩:∃ u:Nat,u=n.natAbs:=⟨_,rfl⟩
  have hu1:1≤u:=by omega
  have hu64:u < 18446744073709551616:=by omega
  have hnd20:nDigits u≤20:=by have:=numDigits_eq u hu1 hu64; split at this <;> omega
  have hc':∀ i:Nat,i < 20→(w.alloc (.cells zeros24 AT)).cell? ⟨3,i,none⟩=some (.int .u64 ((10 ^ i:Nat):Int)):=fun i hi=>by
   rw [World.cell?_of_block (a:=⟨3,i,none⟩) (Below.heap_alloc w _ _ hg)]
   exact hc i hi
  have hdig:=jZo u hu1 hu64 (w.alloc (.cells zeros24 AT)) hc'
  have hfill:=jY0 u hu64 hnd20 w
  have hal:prog.arrayLen AT=24:=by simp [Program.arrayLen,Tryz.underlying194]
  have hsl1:∀ W,(Instr.sliceAt AT (.pointer (some ⟨w.heap.size,0,none⟩)) (some (.int .i64 1)) (some (.int .i64 (1+(nDigits u:Int)))) none).run prog W=.ok (.slice (some ⟨w.heap.size,1,none⟩) (nDigits u) 23) W:=fun W=>by
   rw [run_sliceAt_array_lh W AT ⟨w.heap.size,0,none⟩ (by simp [Program.arrayLen,Program.elem,Tryz.underlying194]) .i64 .i64 1 (1+(nDigits u:Int)) (by omega) (by omega) (by rw [hal]; omega)]
   go_simp
   omega
  have hsl2:∀ W,(Instr.sliceAt AT (.pointer (some ⟨w.heap.size,0,none⟩)) none (some (.int .i64 (1+(nDigits u:Int)))) none).run prog W=.ok (.slice (some ⟨w.heap.size,0,none⟩) (1+nDigits u) 24) W:=fun W=>by
   rw [run_sliceAt_array_h W AT ⟨w.heap.size,0,none⟩ (by simp [Program.arrayLen,Program.elem,Tryz.underlying194]) .i64 (1+(nDigits u:Int)) (by omega) (by rw [hal]; omega)]
   go_simp
   omega
  clear hc hc' hal
  by_cases hneg:n < 0
  ·obtain rfl:n = -(u:Int):=by omega
   clear hu
   have hwr:IntKind.u64.wrap (-IntKind.u64.wrap (-(u:Int)))=(u:Int):=by rw [IntKind.wrap_u64,IntKind.wrap_u64]; omega
   go_enter Tryz.func145,Tryz.ntmps145
   go_wp2_with (go_at_call 160; refine hdig.mono ?_; rintro e w' ⟨rfl,rfl⟩)
   go_at_call 161
   refine hfill.mono ?_
   rintro e W ⟨rfl,hrow,hz,hf,hb⟩
   have hcv:=jZu (W.setCell ⟨w.heap.size,0,none⟩ (.int .u8 45)) w.heap.size 0 24 (45::decDigits u) fun j hj=>by
    cases j with
    | zero=>exact World.cell?_setCell_same _ _ _ hz
    | succ i=>
     have hi:i < (decDigits u).length:=by simpa using hj
     rw [World.cell?_setCell_other _ _ _ _ (by simp),List.getElem_cons_succ,← hrow i hi]
     congr 2
     omega
   rw [List.length_cons,decDigits_length,Nat.add_comm] at hcv
   clear hrow
   go_wp2
   go_ret
   refine ⟨?_,hb.setCell (Nat.le_refl _) _⟩
   rw [itoa_neg u hu1]
   rfl
  ·obtain rfl:n=(u:Int):=by omega
   clear hu
   go_enter Tryz.func145,Tryz.ntmps145
   go_wp2_with (go_at_call 160; refine hdig.mono ?_; rintro e w' ⟨rfl,rfl⟩)
   go_at_call 161
   refine hfill.mono ?_
   rintro e W ⟨rfl,hrow,hz,hf,hb⟩
   have hcv:=jZu W w.heap.size 1 23 (decDigits u) hrow
   rw [decDigits_length] at hcv
   clear hrow
   go_wp2
   go_ret
   refine ⟨?_,hb⟩
   rw [itoa_nonneg]
   rfl
set_option maxRecDepth 100000 in
theorem jQb (n:Int) (h0 : -9223372036854775808≤n) (h1:n≤9223372036854775807) (w:World)
  (hc:∀ i:Nat,i < 20→w.cell? ⟨3,i,none⟩=some (.int .u64 ((10 ^ i:Nat):Int))) (hg:3 < w.heap.size) :
  Calls prog 97 #[.int .i64 n] w fun e w'=>e=.returned (.string ⟨(itoa n).toArray⟩)∧Below w.heap.size w w':=by
 have hf:=jZm n h0 h1 w hc hg
 clear hc hg
 have hi:Calls prog 123 #[.int .i64 n] w fun e w'=>e=.returned (.string ⟨(itoa n).toArray⟩)∧Below w.heap.size w w':=by
  go_enter Tryz.func123,Tryz.ntmps123
  go_wp2_with (go_at_call 145; refine hf.mono ?_; rintro e w' ⟨rfl,hb⟩)
  go_ret
  exact ⟨rfl,hb⟩
 clear hf
 go_enter Tryz.func97,Tryz.ntmps97
 go_wp2_with (go_at_call 123; refine hi.mono ?_; rintro e w' ⟨rfl,hb⟩)
 go_ret
 exact ⟨rfl,hb⟩
theorem jZ4 {w:World} {V:Nat→Prop} (h:zXS w V):(∀ i:Nat,i < 20→w.cell? ⟨3,i,none⟩=some (.int .u64 ((10 ^ i:Nat):Int)))∧3 < w.heap.size:=by
 obtain ⟨_,hc⟩:=h.1 (3,zXs) (by simp [zJS]) (by simp [zXs])
 have key:∀ i:Nat,i < 20→w.cell? ⟨3,i,none⟩=some (.int .u64 ((10 ^ i:Nat):Int)):=fun i hi=>by
  have hd:zXs[i]?=some (DV.int .u64 ((10 ^ i:Nat):Int)):=by
   have:i=0∨i=1∨i=2∨i=3∨i=4∨i=5∨i=6∨i=7∨i=8∨i=9∨i=10∨i=11∨i=12∨i=13∨i=14∨i=15∨i=16∨i=17∨i=18∨i=19:=by omega
   rcases this with rfl | rfl | rfl | rfl | rfl | rfl | rfl | rfl | rfl | rfl | rfl | rfl | rfl | rfl | rfl | rfl | rfl | rfl | rfl | rfl <;> rfl
  obtain ⟨u,hu,hr⟩:=hc.at_ i _ hd
  simp only [RepD] at hr
  rw [Nat.zero_add] at hu
  rw [hu,hr.1]
 refine ⟨key,?_⟩
 have:=key 0 (by omega)
 simp only [World.cell?] at this
 split at this
 ·rename_i h0
  exact (Array.getElem?_eq_some_iff.1 h0).1
 ·cases this
theorem jKj (n:Int):Ans prog 97 [rJ (n)] (RV.d (DV.str (toS (itoa n)))):=by
 intro w S vs hG hR
 obtain ⟨vs⟩:=vs
 match vs,hR with
 | [v],hR=>
  simp only [RepRs,RepR,RepD,and_true] at hR
  obtain ⟨rfl,hi⟩:=hR
  have hi:=(zXN _ _).1 hi
  simp only [IntKind.min,IntKind.max,IntKind.signed,IntKind.bits] at hi
  have hb : -9223372036854775808≤n∧n≤9223372036854775807:=by simpa using hi
  obtain ⟨hc,hg⟩:=jZ4 hG
  refine (jQb n hb.1 hb.2 w hc hg).mono fun e w' h=>?_
  obtain ⟨rfl,h⟩:=h
  refine ⟨_,rfl,?_,h⟩
  simp only [RepR,RepD]
  refine ⟨rfl,?_⟩
  have:=zVh n hb
  rw [zQF]
  unfold maxLen
  omega
theorem idx1 (c:UInt8):∀ l:Lb,(index l [c] = -1∧c ∉ l)∨∃ a b,l=a++c::b∧c ∉ a∧index l [c]=(a.length:Int)
 | []=>.inl ⟨rfl,by simp⟩
 | x::l=>by
  unfold index
  by_cases h:c=x
  ·subst h
   exact .inr ⟨[],l,rfl,by simp,by simp [List.isPrefixOf]⟩
  ·have hp:[c].isPrefixOf (x::l)=false:=by simp [List.isPrefixOf,h]
   rw [hp]
   rcases idx1 c l with ⟨h1,h2⟩ | ⟨a,b,rfl,h2,h3⟩
   ·exact .inl ⟨by simp [h1],by simp [h,h2]⟩
   ·refine .inr ⟨x::a,b,rfl,by simp [h,h2],?_⟩
    rw [h3]
    have:((a.length:Int) == -1)=false:=by rw [beq_eq_false_iff_ne]; omega
    simp [this]
theorem zHE {l:Lb} (h:(32:UInt8) ∉ l):zQo l=[l]:=by
 induction l with
 | nil=>rfl
 | cons c l ih=>
  simp only [List.mem_cons,not_or] at h
  rw [zQo,if_neg (fun e=>h.1 e.symm),ih h.2]
  rfl
theorem zHF {a b:Lb} (h:(32:UInt8) ∉ a):zQo (a++32::b)=a::zQo b:=by
 induction a with
 | nil=>simp [zQo]
 | cons c a ih=>
  simp only [List.mem_cons,not_or] at h
  rw [List.cons_append,zQo,if_neg (fun e=>h.1 e.symm),ih h.2]
  rfl
theorem zVx:∀ (n:Nat) (l:Lb),l.length≤n→∀ w∈zQo l,w.length≤l.length:=by
 intro n
 induction n with
 | zero=>
  intro l hl w hw
  have:l=[]:=by simpa using hl
  subst this
  simp [zQo] at hw
  simp [hw]
 | succ n ih=>
  intro l hl w hw
  rcases idx1 32 l with ⟨_,h⟩ | ⟨a,b,rfl,h,_⟩
  ·rw [zHE h] at hw; simp at hw; simp [hw]
  ·rw [zHF h] at hw
   rcases List.mem_cons.1 hw with rfl | hw
   ·simp
   ·have:=ih b (by simp at hl; omega) w hw
    simp; omega
theorem jJn:∀ (n:Nat) (s:ByteArray),s.size≤n→(splitB ⟨#[32]⟩ 0 (countB s ⟨#[32]⟩) s).map (·.data.toList)=zQo s.data.toList:=by
 intro n
 induction n with
 | zero=>
  intro s hs
  have hl:s.data.toList=[]:=by
   have:=size_eq s
   cases h:s.data.toList with
   | nil=>rfl
   | cons a b=>rw [h] at this; simp at this; omega
  rcases idx1 32 s.data.toList with ⟨h1,h2⟩ | ⟨a,b,h,_⟩
  ·rw [splitB_miss _ _ _ _ h1,hl]; simp [hl,zQo]
  ·rw [hl] at h; simp at h
 | succ n ih=>
  intro s hs
  rcases idx1 32 s.data.toList with ⟨h1,h2⟩ | ⟨a,b,h,h2,h3⟩
  ·rw [splitB_miss _ _ _ _ h1,zHE h2]; rfl
  ·have h3':indexB s ⟨#[32]⟩=(a.length:Int):=h3
   have hx:(s.extract (a.length+1) s.size).data.toList=b:=by
    rw [show s=toS (a++32::b) from by rw [← h]; exact (zY7 s).symm,zQF,zKO,zYG]
    simp
    exact List.take_of_length_le (by omega)
   have h0:(s.extract 0 (a.length+0)).data.toList=a:=by
    rw [extract_from_zero,h]; simp
   have hsz:(s.extract (a.length+1) s.size).size≤n:=by
    rw [size_eq,hx]
    have:=size_eq s
    rw [h] at this
    simp at this; omega
   have hc:countB s ⟨#[32]⟩=countB (s.extract (a.length+1) s.size) ⟨#[32]⟩+1:=by
    rw [countB_hit s ⟨#[32]⟩ a.length (by decide) h3',Nat.add_comm]
    rfl
   rw [hc,splitB_hit _ _ _ _ _ h3',List.map_cons,h0,h,zHF h2]
   congr 1
   have:=ih _ hsz
   rw [hx] at this
   exact this
theorem jZ5 {w:World} {V:Nat→Prop} (h:zXS w V):∃ m,w.cell? ⟨2,0,none⟩=some (.int .i64 m):=(h.2.2 2 (by simp [zKd])).2
theorem jQz (l:Lb) (hl:l.length < 4294967281):Ans prog 104 [RV.d (DV.str (toS l)),RV.d (DV.str (⟨#[32]⟩:ByteArray))] (RV.d (dS (zQo l).length (strs (zQo l)))):=by
 intro w S vs hG hR
 obtain ⟨vs⟩:=vs
 match vs,hR with
 | [v,v2],hR=>
  simp only [RepRs,RepR,RepD,and_true] at hR
  obtain ⟨⟨rfl,hsz⟩,rfl,_⟩:=hR
  obtain ⟨m,hm⟩:=jZ5 hG
  refine (Tryz.strings_Split (toS l) ⟨#[32]⟩ m w (by rw [zQF]; exact hl) hm (by decide)).mono fun e w' h=>?_
  obtain ⟨rfl,rfl⟩:=h
  have hs:=jJn (toS l).size (toS l) (Nat.le_refl _)
  rw [zYG] at hs
  generalize hX:splitB ⟨#[32]⟩ 0 (countB (toS l) ⟨#[32]⟩) (toS l)=X at hs
  have hn:countB (toS l) ⟨#[32]⟩+1=(zQo l).length:=by rw [← hs,← hX,List.length_map,splitB_all _ (by decide) _ _ _ rfl]
  have hXs:X.map Value.string=(zQo l).map fun w=>Value.string (toS w):=by
   rw [← hs,List.map_map]
   refine List.map_congr_left fun x _=>?_
   show Value.string x=Value.string (toS x.data.toList)
   rw [show toS x.data.toList=x from zY7 x]
  refine ⟨_,rfl,?_,Below.alloc (Below.refl _ _) (Nat.le_refl _) _⟩
  simp only [RepR,RepD]
  rw [hn]
  have hlen:=zJ2 l
  refine ⟨_,_,rfl,Nat.le_refl _,by unfold maxLen; omega,fun _=>⟨_,_,rfl,.inr (Nat.le_refl _),RepCells.of_at fun i d hi=>?_⟩⟩
  rw [Nat.zero_add]
  have hi':i < (zQo l).length:=by have:=(List.getElem?_eq_some_iff.1 hi).1; rwa [zZe] at this
  rw [(zWz hi').1] at hi
  cases hi
  refine ⟨.string (toS (zQo l)[i]),?_,?_⟩
  ·rw [hXs,World.cell?_alloc_new]
   simp [hi']
  ·simp only [RepD]
   refine ⟨trivial,?_⟩
   have:=zVx _ l (Nat.le_refl _) _ (List.getElem_mem hi')
   rw [zQF]
   unfold maxLen
   omega
def cutL (l:Lb):Lb × Lb × Bool:=Lib.cut l [10]
theorem jY8 {l:Lb} (h:(10:UInt8) ∉ l):cutL l=(l,[],false):=by
 unfold cutL Lib.cut
 rcases idx1 10 l with ⟨h1,_⟩ | ⟨a,b,rfl,_⟩
 ·rw [if_neg (by omega)]
 ·exact absurd (by simp) h
theorem jY9 {a b:Lb} (h:(10:UInt8) ∉ a):cutL (a++10::b)=(a,b,true):=by
 unfold cutL Lib.cut
 rcases idx1 10 (a++10::b) with ⟨_,h2⟩ | ⟨a',b',h1,h2,h3⟩
 ·exact absurd (by simp) h2
 ·have hu:a=a'∧b=b':=by
   clear h3
   induction a generalizing a' with
   | nil=>
    cases a' with
    | nil=>simpa using h1
    | cons x a'=>simp at h1; exact absurd h1.1 (by simp at h2; exact h2.1)
   | cons y a ih=>
    cases a' with
    | nil=>simp at h1; exact absurd h1.1.symm (by simp at h; exact h.1)
    | cons x a'=>
     simp only [List.cons_append,List.cons.injEq] at h1
     simp only [List.mem_cons,not_or] at h h2
     obtain ⟨h4,h5⟩:=ih h.2 a' h1.2 h2.2
     exact ⟨by rw [h1.1,h4],h5⟩
  obtain ⟨rfl,rfl⟩:=hu
  rw [h3,if_pos (by omega),Int.toNat_natCast]
  simp
theorem jXh (l:Lb):(cutL l).1.length≤l.length∧(cutL l).2.1.length≤l.length:=by
 rcases idx1 10 l with ⟨_,h⟩ | ⟨a,b,rfl,h,_⟩
 ·rw [jY8 h]; simp
 ·rw [jY9 h]; simp; omega
theorem jVS (l:Lb) (hl:l.length < 4294967281):Ans prog 35 [RV.d (DV.str (toS l)),RV.d (DV.str (⟨#[10]⟩:ByteArray))] (RV.tup [RV.d (DV.str (toS (cutL l).1)),RV.d (DV.str (toS (cutL l).2.1)),RV.d (dQ (cutL l).2.2)]):=by
 intro w S vs hG hR
 obtain ⟨vs⟩:=vs
 match vs,hR with
 | [v,v2],hR=>
  simp only [RepRs,RepR,RepD,and_true] at hR
  obtain ⟨⟨rfl,hsz⟩,rfl,_⟩:=hR
  obtain ⟨m,hm⟩:=jZ5 hG
  refine (Tryz.strings_Cut (toS l) ⟨#[10]⟩ m w (by rw [zQF]; exact hl) hm).mono fun e w' h=>?_
  obtain ⟨rfl,n,rfl⟩:=h
  refine ⟨_,rfl,?_,⟨rfl,rfl,rfl,Nat.le_refl _,fun _ _=>rfl⟩⟩
  obtain ⟨h1,h2⟩:=jXh l
  simp only [RepR]
  refine ⟨_,rfl,?_⟩
  simp only [RepRs,RepR,RepD,and_true]
  refine ⟨⟨rfl,?_⟩,⟨rfl,?_⟩,rfl⟩
  ·rw [zQF]; unfold maxLen; omega
  ·rw [zQF]; unfold maxLen; omega
def zKQ (w:Lb):Int:=match atoiAll w with
 | .ok v=>v
 | .range=>atoiSat w
 | _=>0
def numP (w:Lb):Int × Bool:=(zKQ w,zYb w)
theorem jX1 (l:Lb):trimPrefix l [45]=unsg l:=by
 cases l with
 | nil=>rfl
 | cons c l=>
  unfold trimPrefix hasPrefix unsg
  by_cases h:c=45
  ·subst h; simp [List.isPrefixOf]
  ·simp [List.isPrefixOf,h]
   intro e; exact absurd e.symm h
theorem jJ2 {w:World} {V:Nat→Prop} (h:zXS w V):(∃ t v,w.cell? ⟨4,0,none⟩=some (.iface t v))∧∃ t v,w.cell? ⟨5,0,none⟩=some (.iface t v):=
 ⟨(h.2.1 4 (by simp [zJh])).2,(h.2.1 5 (by simp [zJh])).2⟩
theorem jX5 {w w':World} (hb:RowKit.Below w.heap.size w w') {g:Nat} (hg:g < w.heap.size) (hc:∀ i:Nat,i < 20→w.cell? ⟨g,i,none⟩=some (.int .u64 ((10 ^ i:Nat):Int))) :
  (∀ i:Nat,i < 20→w'.cell? ⟨g,i,none⟩=some (.int .u64 ((10 ^ i:Nat):Int)))∧g < w'.heap.size:=
 ⟨fun i hi=>by rw [RowKit.Below.cell hb (p:=⟨g,i,none⟩) hg]; exact hc i hi,Nat.lt_of_lt_of_le hg hb.size⟩
theorem zJE (l:Lb) (hl:l.length≤281474976710656):Ans prog 112 [RV.d (DV.str (toS l))] (RV.tup [rJ ((numP l).1),RV.d (dQ (numP l).2)]):=by
 intro w S vs hG hR
 obtain ⟨vs⟩:=vs
 match vs,hR with
 | [v],hR=>
  simp only [RepRs,RepR,RepD,and_true] at hR
  obtain ⟨rfl,hsz⟩:=hR
  have hsz':(toS l).size≤281474976710656:=by rw [zQF]; exact hl
  obtain ⟨hten,hg⟩:=jZ4 hG
  obtain ⟨⟨t1,v1,hE1⟩,t2,v2,hE2⟩:=jJ2 hG
  suffices h:Calls prog 112 #[.string (toS l)] w fun e w'=>e=.returned (.tuple #[.int .i64 (zKQ l),.bool (zYb l)])∧RowKit.Below w.heap.size w w' by
   refine h.mono fun e w' h=>?_
   obtain ⟨rfl,hb⟩:=h
   refine ⟨_,rfl,?_,hb⟩
   simp only [RepR]
   refine ⟨_,rfl,?_⟩
   simp only [RepRs,RepR,RepD,and_true]
   refine ⟨⟨rfl,(zXN _ _).2 ?_⟩,rfl⟩
   have : -9223372036854775808≤zKQ l∧zKQ l≤9223372036854775807:=by
    unfold zKQ
    split
    ·rename_i h; exact atoiAll_bounds h
    ·exact atoiSat_bounds l
    ·omega
   simpa [numP,IntKind.min,IntKind.max,IntKind.signed,IntKind.bits] using this
  cases hA:atoiAll l with
  | ok v=>
   have hV:zKQ l=v:=by unfold zKQ; rw [hA]
   rw [hV]
   have hok:Calls prog 138 #[.string (toS l)] w fun e w'=>e=.returned (.tuple #[.int .i64 v,.nilIface])∧RowKit.Below w.heap.size w w':=
    (Tryz.strconv_Atoi_ok (toS l) (by omega) v hA w).mono fun e w' h=>⟨h.1,by
     rcases h.2 with rfl | ⟨t,rfl⟩
     ·exact Below.refl _ _
     ·exact bytesWorld_below w _ t⟩
   have htr:∀ w,Calls prog 139 #[.string (toS l),.string ⟨#[45]⟩] w fun e w'=>e=.returned (.string (toS (unsg l)))∧w'=w:=fun w=>by
    have:=Tryz.strings_TrimPrefix (toS l) ⟨#[45]⟩ w
    rw [zYG,show (⟨#[45]⟩:ByteArray).data.toList=[45] from rfl,jX1] at this
    exact this
   have hvb:=atoiAll_bounds hA
   have hcan:zYb l=(decide ((unsg l).length≤10) && decide (itoa v=l)):=by
    rw [Bool.eq_iff_iff]
    simp only [Bool.and_eq_true,decide_eq_true_eq]
    constructor
    ·intro hc
     have h1:=zY4 hc
     rw [hA] at h1
     injection h1 with h1
     subst h1
     exact ⟨(zKg.1 hc).2.1,zGA hc⟩
    ·intro ⟨h1,h2⟩
     rw [← h2] at h1
     rw [← h2]
     exact (zGp h1).1
   rw [hcan]
   have hit:∀ w',RowKit.Below w.heap.size w w'→Calls prog 97 #[.int .i64 v] w' fun e W=>e=.returned (.string (toS (itoa v)))∧RowKit.Below w.heap.size w W:=fun w' hb=>by
    obtain ⟨hc,hg'⟩:=jX5 hb hg hten
    exact (jQb v hvb.1 hvb.2 w' hc hg').mono fun e W h=>⟨h.1,hb.trans (h.2.mono hb.size)⟩
   have hlen:(toS (unsg l)).size=(unsg l).length:=zQF _
   have hbig:(unsg l).length≤9223372036854775807:=by
    have:(unsg l).length≤l.length:=by unfold unsg; split <;> (try split) <;> simp
    omega
   generalize unsg l=U at *
   clear hV hcan hG hE1 hE2 hten
   have hl8:Aside (l.length≤281474976710656):=hl
   clear hl hsz hsz'
   go_enter Tryz.func112,Tryz.ntmps112
   go_wp2_with (first
    |(go_at_call 138; refine hok.mono ?_; rintro e w1 ⟨rfl,hb⟩)
    |(go_at_call 139; refine (htr _).mono ?_; rintro e w' ⟨rfl,rfl⟩)
    |(go_at_call 97; refine (hit _ (by assumption)).mono ?_; rintro e w2 ⟨rfl,hb2⟩))
   ·go_ret2
    refine ⟨?_,by assumption⟩
    rw [zXj,show decide (U.length≤10)=true from decide_eq_true (by omega),Bool.true_and]
    rfl
   ·go_ret2
    refine ⟨?_,by assumption⟩
    rw [show decide (U.length≤10)=false from decide_eq_false (by omega),Bool.false_and]
    rfl
  | range=>
   have hV:zKQ l=atoiSat l:=by unfold zKQ; rw [hA]
   have hcan:zYb l=false:=by
    cases hc:zYb l with
    | false=>rfl
    | true=>have:=zY4 hc; rw [hA] at this; cases this
   rw [hV,hcan]
   have hok:Calls prog 138 #[.string (toS l)] w fun e w'=>∃ N,e=.returned (.tuple #[.int .i64 (atoiSat l),.iface 205 (.pointer (some ⟨N,0,none⟩))])∧RowKit.Below w.heap.size w w':=
    (Tryz.strconv_Atoi_range (toS l) hsz' hA _ w hE2 (.inr ⟨_,_,rfl⟩)).mono fun e w' h=>by
     obtain ⟨N,h1,_,_,h2⟩:=h
     exact ⟨N,h1,h2⟩
   clear hV hcan hG hE1 hE2 hten hsz hsz' hl
   generalize atoiSat l=v at *
   go_enter Tryz.func112,Tryz.ntmps112
   go_wp2_with (go_at_call 138; refine hok.mono ?_; rintro e w1 ⟨N,rfl,hb⟩)
   go_ret2
   exact ⟨rfl,hb⟩
  | _=>
   have hV:zKQ l=0:=by unfold zKQ; rw [hA]
   have hcan:zYb l=false:=by
    cases hc:zYb l with
    | false=>rfl
    | true=>have:=zY4 hc; rw [hA] at this; cases this
   rw [hV,hcan]
   have hok:Calls prog 138 #[.string (toS l)] w fun e w'=>∃ N,e=.returned (.tuple #[.int .i64 0,.iface 205 (.pointer (some ⟨N,0,none⟩))])∧RowKit.Below w.heap.size w w':=
    (Any.strconv_Atoi_syntax Tryz.laysC172 (toS l) hsz' hA _ w hE1 (.inr ⟨_,_,rfl⟩)).mono fun e w' h=>by
     obtain ⟨N,h1,_,_,h2⟩:=h
     exact ⟨N,h1,h2⟩
   clear hV hcan hG hE1 hE2 hten hsz hsz' hl
   go_enter Tryz.func112,Tryz.ntmps112
   go_wp2_with (go_at_call 138; refine hok.mono ?_; rintro e w1 ⟨N,rfl,hb⟩)
   go_ret2
   exact ⟨rfl,hb⟩
end
section
attribute [local irreducible] Ans AnsO AnsG AnsN AnsI
open Go.Lib
structure LQ where
  ws:List Lb
  bad:Bool
def reQ (q:LQ):LQ:=⟨zQb (strs q.ws),q.bad⟩
theorem zZ2 (q:LQ):reQ q=q:=by unfold reQ; rw [zQw]
def zZx (ws:List Lb):Lb:=ws.headD []
def zZU (q:LQ):LQ:=⟨q.ws.drop 1,q.bad⟩
def zZS (q:LQ):LQ:=⟨q.ws.drop 1,q.bad || q.ws.isEmpty⟩
def numQ (q:LQ) (lo hi:Int):Int × LQ:=if okN lo hi (zZx q.ws)=true then (numV (zZx q.ws),zZS q) else (0,⟨q.ws.drop 1,true⟩)
theorem jVh {q:LQ} {lo hi:Int} (h:lo≤0∧0≤hi):lo≤(numQ q lo hi).1∧(numQ q lo hi).1≤hi:=by
 unfold numQ
 split
 ·rename_i e
  exact zKw e
 ·exact h
def namQ (f:Int→ByteArray) (q:LQ):Int × LQ:=((nmR f (zZx q.ws)).1,⟨q.ws.drop 1,(zZS q).bad || !(nmR f (zZx q.ws)).2⟩)
def okQ (q:LQ):Prop:=∀ w∈q.ws,w.length≤281474976710656
theorem jJP {q:LQ} (h:okQ q):(zZx q.ws).length≤281474976710656:=by
 unfold zZx
 cases hq:q.ws with
 | nil=>simp
 | cons w r=>exact h w (by rw [hq]; exact List.mem_cons_self ..)
theorem zG2 {q:LQ} (h:okQ q) (b:Bool):okQ ⟨q.ws.drop 1,b⟩:=fun w hw=>h w (List.mem_of_mem_drop hw)
theorem jZP {q:LQ} (h:okQ q):okQ (zZS q):=zG2 h _
theorem zQd {q:LQ} (h:okQ q) {lo hi:Int}:okQ (numQ q lo hi).2:=by
 unfold numQ
 split
 ·exact jZP h
 ·exact zG2 h _
theorem zQf {q:LQ} (h:okQ q) {f:Int→ByteArray}:okQ (namQ f q).2:=zG2 h _
def gZ34 (xs:List RV):Option RV:=match xs with | [.d (.str s)]=>some (RV.tup [rJ (numP (ofS s)).1,RV.d (dQ (numP (ofS s)).2)]) | _=>none
def gZ35 (xs:List AV) (bs:List Bx):Option Ret:=match xs,bs with | [AV.one (Cl.ptr 0 0)],[Bx.cells [Cl.clo 105 [Cap.ptr 1 0],Cl.d (DV.bool bad)],Bx.cells [Cl.d (DV.sl wn wxs)]]=>some ⟨AV.one (Cl.d (DV.str (toS (zZx (⟨zQb wxs,bad⟩:LQ).ws)))),[bC [Cl.clo 105 [Cap.ptr 1 0],Cl.d (dQ (zZS (⟨zQb wxs,bad⟩:LQ)).bad)],bC [Cl.d (dS (zZS (⟨zQb wxs,bad⟩:LQ)).ws.length (strs (zZS (⟨zQb wxs,bad⟩:LQ)).ws))]],false⟩ | _,_=>none
def gZ36 (xs:List AV) (bs:List Bx):Option Ret:=match xs,bs with | [AV.one (Cl.ptr 0 0),AV.one (Cl.d (DV.int _ lo)),AV.one (Cl.d (DV.int _ hi))],[Bx.cells [Cl.clo 105 [Cap.ptr 1 0],Cl.d (DV.bool bad)],Bx.cells [Cl.d (DV.sl wn wxs)]]=>let a:=(numQ (⟨zQb wxs,bad⟩:LQ) lo hi); some ⟨AV.one (Cl.d (DV.int .i64 a.1)),[Bx.cells [Cl.clo 105 [Cap.ptr 1 0],Cl.d (DV.bool a.2.bad)],Bx.cells [Cl.d (DV.sl a.2.ws.length (strs a.2.ws))]],false⟩ | _,_=>none
def gZ37 (xs:List AV) (bs:List Bx):Option Ret:=match xs,bs with | [AV.one (Cl.ptr 0 0)],[Bx.cells [Cl.clo 105 [Cap.ptr 1 0],Cl.d (DV.bool bad)],Bx.cells [Cl.d (DV.sl wn wxs)]]=>let a:=(numQ (⟨zQb wxs,bad⟩:LQ) 0 255); some ⟨AV.one (Cl.d (DV.int .i64 a.1)),[Bx.cells [Cl.clo 105 [Cap.ptr 1 0],Cl.d (DV.bool a.2.bad)],Bx.cells [Cl.d (DV.sl a.2.ws.length (strs a.2.ws))]],false⟩ | _,_=>none
def gZ38 (xs:List AV) (bs:List Bx):Option Ret:=match xs,bs with | [AV.one (Cl.ptr 0 0)],[Bx.cells [Cl.clo 105 [Cap.ptr 1 0],Cl.d (DV.bool bad)],Bx.cells [Cl.d (DV.sl wn wxs)]]=>let a:=(numQ (⟨zQb wxs,bad⟩:LQ) (-2147483648) 2147483647); some ⟨AV.one (Cl.d (DV.int .i64 a.1)),[Bx.cells [Cl.clo 105 [Cap.ptr 1 0],Cl.d (DV.bool a.2.bad)],Bx.cells [Cl.d (DV.sl a.2.ws.length (strs a.2.ws))]],false⟩ | _,_=>none
def gZ39 (xs:List AV) (bs:List Bx):Option Ret:=match xs,bs with | [AV.one (Cl.ptr 0 0)],[Bx.cells [Cl.clo 105 [Cap.ptr 1 0],Cl.d (DV.bool bad)],Bx.cells [Cl.d (DV.sl wn wxs)]]=>let a:=(numQ (⟨zQb wxs,bad⟩:LQ) 0 4294967295); some ⟨AV.one (Cl.d (DV.int .i64 a.1)),[Bx.cells [Cl.clo 105 [Cap.ptr 1 0],Cl.d (DV.bool a.2.bad)],Bx.cells [Cl.d (DV.sl a.2.ws.length (strs a.2.ws))]],false⟩ | _,_=>none
def gZ40 (xs:List AV) (bs:List Bx):Option Ret:=match xs,bs with | [AV.one (Cl.ptr 0 0)],[Bx.cells [Cl.clo 105 [Cap.ptr 1 0],Cl.d (DV.bool bad)],Bx.cells [Cl.d (DV.sl wn wxs)]]=>let a:=(numQ (⟨zQb wxs,bad⟩:LQ) 0 65535); some ⟨AV.one (Cl.d (DV.int .u16 a.1)),[Bx.cells [Cl.clo 105 [Cap.ptr 1 0],Cl.d (DV.bool a.2.bad)],Bx.cells [Cl.d (DV.sl a.2.ws.length (strs a.2.ws))]],false⟩ | _,_=>none
def gZ41 (xs:List AV) (bs:List Bx):Option Ret:=match xs,bs with | [AV.one (Cl.ptr 0 0)],[Bx.cells [Cl.clo 105 [Cap.ptr 1 0],Cl.d (DV.bool bad)],Bx.cells [Cl.d (DV.sl wn wxs)]]=>let a:=(numQ (⟨zQb wxs,bad⟩:LQ) 0 1); some ⟨AV.one (Cl.d (DV.bool (decide (a.1=1)))),[Bx.cells [Cl.clo 105 [Cap.ptr 1 0],Cl.d (DV.bool a.2.bad)],Bx.cells [Cl.d (DV.sl a.2.ws.length (strs a.2.ws))]],false⟩ | _,_=>none
def gZ42 (xs:List AV) (bs:List Bx):Option Ret:=match xs,bs with | [AV.one (Cl.ptr 0 0)],[Bx.cells [Cl.clo 105 [Cap.ptr 1 0],Cl.d (DV.bool bad)],Bx.cells [Cl.d (DV.sl wn wxs)]]=>let a:=(namQ zQn (⟨zQb wxs,bad⟩:LQ)); some ⟨AV.one (Cl.d (DV.int .i64 a.1)),[Bx.cells [Cl.clo 105 [Cap.ptr 1 0],Cl.d (DV.bool a.2.bad)],Bx.cells [Cl.d (DV.sl a.2.ws.length (strs a.2.ws))]],false⟩ | _,_=>none
def gZ43 (xs:List AV) (bs:List Bx):Option Ret:=match xs,bs with | [AV.one (Cl.ptr 0 0)],[Bx.cells [Cl.clo 105 [Cap.ptr 1 0],Cl.d (DV.bool bad)],Bx.cells [Cl.d (DV.sl wn wxs)]]=>let a:=(namQ zQe (⟨zQb wxs,bad⟩:LQ)); some ⟨AV.one (Cl.d (DV.int .i64 a.1)),[Bx.cells [Cl.clo 105 [Cap.ptr 1 0],Cl.d (DV.bool a.2.bad)],Bx.cells [Cl.d (DV.sl a.2.ws.length (strs a.2.ws))]],false⟩ | _,_=>none
def gZ44 (xs:List AV) (bs:List Bx):Option Ret:=match xs,bs with | [AV.one (Cl.ptr 0 0)],[Bx.cells [Cl.clo 105 [Cap.ptr 1 0],Cl.d (DV.bool bad)],Bx.cells [Cl.d (DV.sl wn wxs)]]=>let a:=(⟨zQb wxs,bad⟩:LQ); some ⟨AV.one (Cl.d (DV.bool (a.ws.isEmpty && !a.bad))),[Bx.cells [Cl.clo 105 [Cap.ptr 1 0],Cl.d (DV.bool (zZU a).bad)],Bx.cells [Cl.d (DV.sl (zZU a).ws.length (strs (zZU a).ws))]],false⟩ | _,_=>none
def zVl:Gam where
 pure:=fun f xs=>
  if f=112 then gZ34 xs else
  if f=157 then gZ8 xs else
  if f=158 then gZ9 xs else
  none
 modes:=fun f=>
  if f=105 then some ([false],1,0) else
  if f=74 then some ([false],2,0) else
  if f=136 then some ([false],2,0) else
  if f=137 then some ([false,true,true],2,0) else
  if f=109 then some ([false],2,0) else
  if f=110 then some ([false],2,0) else
  if f=111 then some ([false],2,0) else
  if f=135 then some ([false],2,0) else
  if f=142 then some ([false],2,0) else
  if f=140 then some ([false],2,0) else
  if f=141 then some ([false],2,0) else
  if f=156 then some ([false,true],2,0) else
  if f=107 then some ([false],2,0) else
  none
 proc:=fun f xs bs=>
  if f=105 then (match xs,bs with | [AV.one (Cl.ptr 0 0)],[Bx.cells [Cl.d (DV.sl wn wxs)]]=>some ⟨AV.tup [AV.one (Cl.d (DV.str (toS (zZx (zQb wxs))))),AV.one (Cl.d (dQ (!(zQb wxs).isEmpty)))],[bC [Cl.d (dS ((zQb wxs).drop 1).length (strs ((zQb wxs).drop 1)))]],false⟩ | _,_=>none) else
  if f=74 then gZ35 xs bs else
  if f=136 then (match xs,bs with | [AV.one (Cl.ptr 0 0)],[Bx.cells [Cl.clo 105 [Cap.ptr 1 0],Cl.d (DV.bool bad)],Bx.cells [Cl.d (DV.sl wn wxs)]]=>some ⟨AV.one (Cl.d (dQ (!(⟨zQb wxs,bad⟩:LQ).ws.isEmpty))),[bC [Cl.clo 105 [Cap.ptr 1 0],Cl.d (dQ (zZU (⟨zQb wxs,bad⟩:LQ)).bad)],bC [Cl.d (dS (zZU (⟨zQb wxs,bad⟩:LQ)).ws.length (strs (zZU (⟨zQb wxs,bad⟩:LQ)).ws))]],false⟩ | _,_=>none) else
  if f=137 then gZ36 xs bs else
  if f=109 then gZ37 xs bs else
  if f=110 then gZ38 xs bs else
  if f=111 then gZ39 xs bs else
  if f=135 then gZ40 xs bs else
  if f=142 then gZ41 xs bs else
  if f=140 then gZ42 xs bs else
  if f=141 then gZ43 xs bs else
  if f=156 then (match xs,bs with | [AV.one (Cl.ptr 0 0),AV.one (Cl.d (DV.fn 157))],[Bx.cells [Cl.clo 105 [Cap.ptr 1 0],Cl.d (DV.bool bad)],Bx.cells [Cl.d (DV.sl wn wxs)]]=>let a:=(namQ zQn (⟨zQb wxs,bad⟩:LQ)); some ⟨AV.one (Cl.d (DV.int .i64 a.1)),[Bx.cells [Cl.clo 105 [Cap.ptr 1 0],Cl.d (DV.bool a.2.bad)],Bx.cells [Cl.d (DV.sl a.2.ws.length (strs a.2.ws))]],false⟩ | [AV.one (Cl.ptr 0 0),AV.one (Cl.d (DV.fn 158))],[Bx.cells [Cl.clo 105 [Cap.ptr 1 0],Cl.d (DV.bool bad)],Bx.cells [Cl.d (DV.sl wn wxs)]]=>let a:=(namQ zQe (⟨zQb wxs,bad⟩:LQ)); some ⟨AV.one (Cl.d (DV.int .i64 a.1)),[Bx.cells [Cl.clo 105 [Cap.ptr 1 0],Cl.d (DV.bool a.2.bad)],Bx.cells [Cl.d (DV.sl a.2.ws.length (strs a.2.ws))]],false⟩ | _,_=>none) else
  if f=107 then gZ44 xs bs else
  none
 iter:=fun f cs=>
  none
theorem zJD (ws:List Lb):AnsG prog 105 1 [aPz] [bC [Cl.d (dS ws.length (strs ws))]] ⟨AV.tup [AV.one (Cl.d (DV.str (toS (zZx (zQb (strs ws)))))),AV.one (Cl.d (dQ (!(zQb (strs ws)).isEmpty)))],[bC [Cl.d (dS (((zQb (strs ws)).drop 1).length) (strs ((zQb (strs ws)).drop 1)))]],false⟩:=
 zQy (Γ:=zVl) Ann.leaf zQs Tryz.func105 rfl (nL rfl) rfl fun hwf hbx=>by
  refine Eq.mpr (by kernel_rfl:_=(let c:=(!(zQb (strs ws)).isEmpty); let a:=(ws.length:Int); let b:=((zQb (strs ws)).drop 1); let e:=[bC [Cl.d (dS b.length (strs b))]]; let d:=(toS (zZx (zQb (strs ws)))); let f:=[AV.one (Cl.d (DV.str d)),AV.one (Cl.d (dQ c))]; let g:=[dS b.length (strs b)]; tU5 (((a==0)=true→tU2 (((((DV.str (⟨#[]⟩:ByteArray)=DV.str d)∧(dQ false=dQ c)∧True)∧True)∧(([dS ws.length (strs ws)]=g)∧True))∧zQm ⟨AV.tup f,e,false⟩))∧((a==0)=false→True∧(0≤(0:Int)∧(0:Int) < a∧0 < (strs ws).length)∧(((strs ws)[0]?=some (DV.str (sAt (strs ws) 0)))∧True)∧tU2 ((0≤(1:Int)∧(1:Int)≤a∧a≤a)∧tU4 (((((DV.str (sAt (strs ws) 0)=DV.str d)∧(dQ true=dQ c)∧True)∧True)∧(([dS (a - 1).toNat (List.take ((a - 1).toNat*1) (List.drop ((1:Int).toNat*1) (strs ws)))]=g)∧True))∧zQm ⟨AV.tup f,e,false⟩)))))) ?_
  delta dQ dS bC
  simp only [sS]
  simp only [zZ2,zQw,zQN]
  cases ws with
  | nil=>
   refine ⟨fun _=>(by (repeat' apply And.intro) <;> first | rfl | trivial),fun h=>absurd h (by decide)⟩
  | cons w r=>
   have s0:sAt (strs (w::r)) 0=toS w:=rfl
   have q0:(strs (w::r))[0]?=some (DV.str (toS w)):=rfl
   have dr:List.take (r.length*1) (List.drop (Int.toNat 1*1) (strs (w::r)))=strs r:=zGH 1 _ rfl rfl
   have drn:((((w::r).length:Nat):Int) - 1).toNat=r.length:=by simp
   simp only [s0,q0,drn,dr]
   refine ⟨fun h=>absurd h (by simp; omega),fun _=>⟨⟨by omega,by simp <;> omega,by simp [zZe]⟩,trivial,⟨by omega,by simp <;> omega,by omega⟩,(by (repeat' apply And.intro) <;> first | rfl | trivial)⟩⟩
theorem zZ8 (q:LQ):AnsG prog 74 2 [aPz] [bC [Cl.clo 105 [Cap.ptr 1 0],Cl.d (dQ q.bad)],bC [Cl.d (dS q.ws.length (strs q.ws))]] ⟨AV.one (Cl.d (DV.str (toS (zZx (q).ws)))),[bC [Cl.clo 105 [Cap.ptr 1 0],Cl.d (dQ ((zZS q).bad))],bC [Cl.d (dS ((zZS q).ws.length) (strs (zZS q).ws))]],false⟩:=
 zQy (Γ:=zVl) Ann.leaf zQs Tryz.func74 rfl (nL rfl) rfl fun hwf hbx=>by
  refine Eq.mpr (by kernel_rfl:_=(let c:=(toS (zZx q.ws)); let a:=(zQb (strs q.ws)); let b:=(a.drop 1); let d:=[bC [Cl.clo 105 [Cap.ptr 1 0],Cl.d (dQ (zZS q).bad)],bC [Cl.d (dS (zZS q).ws.length (strs (zZS q).ws))]]; let e:=((DV.str (toS (zZx a))=DV.str c)∧True); let f:=([dS b.length (strs b)]=[dS (zZS q).ws.length (strs (zZS q).ws)]); tU5 ((AnsG prog 105 1 [aPz] [bC [Cl.d (dS q.ws.length (strs q.ws))]] ⟨AV.tup [AV.one (Cl.d (DV.str (toS (zZx a)))),AV.one (Cl.d (dQ (!a.isEmpty)))],[bC [Cl.d (dS b.length (strs b))]],false⟩)∧tU3 (tU8 ((q.bad=false→tU8 ((e∧((((0=0)∧True)∧(dQ (!(!a.isEmpty))=dQ (zZS q).bad)∧True)∧f∧True))∧zQm ⟨AV.one (Cl.d (DV.str c)),d,false⟩))∧(q.bad=(!false)→tU6 ((e∧((((0=0)∧True)∧(dQ true=dQ (zZS q).bad)∧True)∧f∧True))∧zQm ⟨AV.one (Cl.d (DV.str c)),d,false⟩))))))) ?_
  delta dQ dS aPz bC
  simp only [sS]
  simp only [zZ2,zQw,zQN]
  have aO:=zJD q.ws
  simp only [zQw] at aO
  refine ⟨aO,fun h=>?_,fun h=>?_⟩
  ·have e:(!!q.ws.isEmpty)=(zZS q).bad:=by unfold zZS; rw [h]; simp
   rw [e]; exact (by (repeat' apply And.intro) <;> first | rfl | trivial)
  ·have e:true=(zZS q).bad:=by unfold zZS; rw [h]; rfl
   rw [e]; exact (by (repeat' apply And.intro) <;> first | rfl | trivial)
theorem zK1 (q:LQ):AnsG prog 136 2 [aPz] [bC [Cl.clo 105 [Cap.ptr 1 0],Cl.d (dQ q.bad)],bC [Cl.d (dS q.ws.length (strs q.ws))]] ⟨AV.one (Cl.d (dQ (!((q).ws).isEmpty))),[bC [Cl.clo 105 [Cap.ptr 1 0],Cl.d (dQ ((zZU q).bad))],bC [Cl.d (dS ((zZU q).ws.length) (strs (zZU q).ws))]],false⟩:=
 zQy (Γ:=zVl) Ann.leaf zQs Tryz.func136 rfl (nL rfl) rfl fun hwf hbx=>by
  refine Eq.mpr (by kernel_rfl:_=(let b:=(!(zQb (strs q.ws)).isEmpty); let a:=((zQb (strs q.ws)).drop 1); tU5 ((AnsG prog 105 1 [aPz] [bC [Cl.d (dS q.ws.length (strs q.ws))]] ⟨AV.tup [AV.one (Cl.d (DV.str (toS (zZx (zQb (strs q.ws)))))),AV.one (Cl.d (dQ b))],[bC [Cl.d (dS a.length (strs a))]],false⟩)∧tU7 ((((dQ b=dQ (!q.ws.isEmpty))∧True)∧((((0=0)∧True)∧(dQ q.bad=dQ (zZU q).bad)∧True)∧([dS a.length (strs a)]=[dS (zZU q).ws.length (strs (zZU q).ws)])∧True))∧zQm ⟨AV.one (Cl.d (dQ (!q.ws.isEmpty))),[bC [Cl.clo 105 [Cap.ptr 1 0],Cl.d (dQ (zZU q).bad)],bC [Cl.d (dS (zZU q).ws.length (strs (zZU q).ws))]],false⟩)))) ?_
  delta dQ dS aPz bC
  simp only [sS]
  simp only [zZ2,zQw,zQN]
  have aO:=zJD q.ws
  simp only [zQw] at aO
  exact ⟨aO,(by (repeat' apply And.intro) <;> first | rfl | trivial)⟩
theorem zQ9 (q:LQ) (lo hi:Int) (hq:okQ q):AnsG prog 137 2 [aPz,aJ ((lo)),aJ ((hi))] [bC [Cl.clo 105 [Cap.ptr 1 0],Cl.d (dQ q.bad)],bC [Cl.d (dS q.ws.length (strs q.ws))]] ⟨aJ ((((numQ q lo hi).1))),[bC [Cl.clo 105 [Cap.ptr 1 0],Cl.d (dQ (((numQ q lo hi).2).bad))],bC [Cl.d (dS (((numQ q lo hi).2).ws.length) (strs ((numQ q lo hi).2).ws))]],false⟩:=
 zQy (Γ:=zVl) Ann.leaf zQs Tryz.func137 rfl (nL rfl) rfl fun hwf hbx=>by
  refine Eq.mpr (by kernel_rfl:_=(let c:=(zZS (reQ q)); let a:=(numQ q lo hi); let d:=(cJ a.1); let i:=[Cl.clo 105 [Cap.ptr 1 0],Cl.d (dQ a.2.bad)]; let b:=(numP (ofS (toS (zZx (reQ q).ws)))); let j:=(dS a.2.ws.length (strs a.2.ws)); let e:=[Bx.cells i,bC [Cl.d j]]; let g:=(DV.str (toS (zZx (reQ q).ws))); let h:=([dS c.ws.length (strs c.ws)]=[dS a.2.ws.length (strs a.2.ws)]); let f:=(((dJ 0=dJ a.1)∧True)∧((((0=0)∧True)∧(dQ true=dQ a.2.bad)∧True)∧h∧True)); tU2 ((AnsG prog 74 2 [aPz] [bC [Cl.clo 105 [Cap.ptr 1 0],Cl.d (dQ q.bad)],bC [Cl.d (dS q.ws.length (strs q.ws))]] ⟨AV.one (Cl.d g),[bC [Cl.clo 105 [Cap.ptr 1 0],Cl.d (dQ c.bad)],bC [Cl.d (dS c.ws.length (strs c.ws))]],false⟩)∧(Ans prog 112 [RV.d g] (RV.tup [rJ b.1,RV.d (dQ b.2)]))∧tU8 (((!b.2)=false→tU5 (((decide (b.1 < lo))=false→tU4 (((decide (b.1 > hi))=true→tU5 (f∧zQm ⟨AV.one d,e,false⟩))∧((decide (b.1 > hi))=false→tU2 ((((dJ b.1=dJ a.1)∧True)∧((((0=0)∧True)∧(dQ c.bad=dQ a.2.bad)∧True)∧h∧True))∧zQm ⟨AV.one d,e,false⟩))))∧((decide (b.1 < lo))=(!false)→tU6 (f∧zQm ⟨AV.one d,e,false⟩))))∧((!b.2)=(!false)→tU8 (f∧zQm ⟨AV.one d,e,false⟩)))))) ?_
  delta dJ dQ cJ dS rJ aPz bC
  simp only [sS]
  simp only [zZ2,zQw,zQN]
  have aN:=zZ8 q
  have v:(numP (zZx q.ws)).2=true→(numP (zZx q.ws)).1=numV (zZx q.ws):=fun h=>by
   show zKQ (zZx q.ws)=_
   unfold zKQ
   rw [zY4 h]
  have yes:(numP (zZx q.ws)).2=true→¬ (numP (zZx q.ws)).1 < lo→¬ (numP (zZx q.ws)).1 > hi→numQ q lo hi=(numV (zZx q.ws),zZS q):=fun h h1 h2=>by
   rw [v h] at h1 h2
   have e:okN lo hi (zZx q.ws)=true:=by unfold okN; rw [show zYb (zZx q.ws)=true from h]; simp; omega
   unfold numQ; rw [if_pos e]
  have no:¬ ((numP (zZx q.ws)).2=true∧¬ (numP (zZx q.ws)).1 < lo∧¬ (numP (zZx q.ws)).1 > hi)→numQ q lo hi=(0,⟨q.ws.drop 1,true⟩):=fun h=>by
   unfold numQ
   rw [if_neg]
   intro e
   unfold okN at e
   simp only [Bool.and_eq_true,decide_eq_true_eq] at e
   have hc:(numP (zZx q.ws)).2=true:=e.1.1
   exact h ⟨hc,by rw [v hc]; omega,by rw [v hc]; omega⟩
  refine ⟨aN,zJE (zZx q.ws) (jJP hq),fun h=>⟨fun h1=>⟨fun h2=>?_,fun h2=>?_⟩,fun h1=>?_⟩,fun h=>?_⟩
  ·rw [no (fun g=>g.2.2 h2)]; exact (by (repeat' apply And.intro) <;> first | rfl | trivial)
  ·rw [yes h h1 h2,v h]; exact (by (repeat' apply And.intro) <;> first | rfl | trivial)
  ·rw [no (fun g=>g.2.1 h1)]; exact (by (repeat' apply And.intro) <;> first | rfl | trivial)
  ·rw [no (fun g=>by rw [h] at g; exact absurd g.1 (by decide))]; exact (by (repeat' apply And.intro) <;> first | rfl | trivial)
theorem zY8 (q:LQ):AnsG prog 156 2 [aPz,AV.one (Cl.d (DV.fn 157))] [bC [Cl.clo 105 [Cap.ptr 1 0],Cl.d (dQ q.bad)],bC [Cl.d (dS q.ws.length (strs q.ws))]] ⟨aJ ((((namQ zQn q).1))),[bC [Cl.clo 105 [Cap.ptr 1 0],Cl.d (dQ (((namQ zQn q).2).bad))],bC [Cl.d (dS (((namQ zQn q).2).ws.length) (strs ((namQ zQn q).2).ws))]],false⟩:=
 zQy (Γ:=zVl) Ann.leaf zQs Tryz.func156 rfl (nL rfl) rfl fun hwf hbx=>by
  refine Eq.mpr (by kernel_rfl:_=(let b:=(zZS (reQ q)); let a:=(namQ zQn q); let d:=[bC [Cl.clo 105 [Cap.ptr 1 0],Cl.d (dQ a.2.bad)],bC [Cl.d (dS a.2.ws.length (strs a.2.ws))]]; let c:=(nmR zQn (ofS (toS (zZx (reQ q).ws)))); let e:=(DV.str (toS (zZx (reQ q).ws))); let f:=((dJ c.1=dJ a.1)∧True); let g:=([dS b.ws.length (strs b.ws)]=[dS a.2.ws.length (strs a.2.ws)]); tU3 ((AnsG prog 74 2 [aPz] [bC [Cl.clo 105 [Cap.ptr 1 0],Cl.d (dQ q.bad)],bC [Cl.d (dS q.ws.length (strs q.ws))]] ⟨AV.one (Cl.d e),[bC [Cl.clo 105 [Cap.ptr 1 0],Cl.d (dQ b.bad)],bC [Cl.d (dS b.ws.length (strs b.ws))]],false⟩)∧(Ans prog 157 [RV.d e] (RV.tup [rJ c.1,RV.d (dQ c.2)]))∧tU3 (tU8 ((b.bad=false→tU8 ((f∧((((0=0)∧True)∧(dQ (!c.2)=dQ a.2.bad)∧True)∧g∧True))∧zQm ⟨aJ a.1,d,false⟩))∧(b.bad=(!false)→tU6 ((f∧((((0=0)∧True)∧(dQ true=dQ a.2.bad)∧True)∧g∧True))∧zQm ⟨aJ a.1,d,false⟩))))))) ?_
  delta dJ dQ dS rJ aJ aPz bC
  simp only [sS]
  simp only [zZ2,zQw,zQN]
  refine ⟨zZ8 q,zVb (zZx q.ws),fun h=>?_,fun h=>?_⟩
  ·have h:(zZS q).bad=false:=h
   have e:(!(nmR zQn (zZx q.ws)).2)=(namQ zQn q).2.bad:=by unfold namQ; rw [h]; rfl
   rw [e]; exact (by (repeat' apply And.intro) <;> first | rfl | trivial)
  ·have h:(zZS q).bad=true:=h
   have e:true=(namQ zQn q).2.bad:=by unfold namQ; rw [h]; rfl
   rw [e]; exact (by (repeat' apply And.intro) <;> first | rfl | trivial)
theorem zKB (q:LQ):AnsG prog 156 2 [aPz,AV.one (Cl.d (DV.fn 158))] [bC [Cl.clo 105 [Cap.ptr 1 0],Cl.d (dQ q.bad)],bC [Cl.d (dS q.ws.length (strs q.ws))]] ⟨aJ ((((namQ zQe q).1))),[bC [Cl.clo 105 [Cap.ptr 1 0],Cl.d (dQ (((namQ zQe q).2).bad))],bC [Cl.d (dS (((namQ zQe q).2).ws.length) (strs ((namQ zQe q).2).ws))]],false⟩:=
 zQy (Γ:=zVl) Ann.leaf zQs Tryz.func156 rfl (nL rfl) rfl fun hwf hbx=>by
  refine Eq.mpr (by kernel_rfl:_=(let b:=(zZS (reQ q)); let a:=(namQ zQe q); let d:=[bC [Cl.clo 105 [Cap.ptr 1 0],Cl.d (dQ a.2.bad)],bC [Cl.d (dS a.2.ws.length (strs a.2.ws))]]; let c:=(nmR zQe (ofS (toS (zZx (reQ q).ws)))); let e:=(DV.str (toS (zZx (reQ q).ws))); let f:=((dJ c.1=dJ a.1)∧True); let g:=([dS b.ws.length (strs b.ws)]=[dS a.2.ws.length (strs a.2.ws)]); tU3 ((AnsG prog 74 2 [aPz] [bC [Cl.clo 105 [Cap.ptr 1 0],Cl.d (dQ q.bad)],bC [Cl.d (dS q.ws.length (strs q.ws))]] ⟨AV.one (Cl.d e),[bC [Cl.clo 105 [Cap.ptr 1 0],Cl.d (dQ b.bad)],bC [Cl.d (dS b.ws.length (strs b.ws))]],false⟩)∧(Ans prog 158 [RV.d e] (RV.tup [rJ c.1,RV.d (dQ c.2)]))∧tU3 (tU8 ((b.bad=false→tU8 ((f∧((((0=0)∧True)∧(dQ (!c.2)=dQ a.2.bad)∧True)∧g∧True))∧zQm ⟨aJ a.1,d,false⟩))∧(b.bad=(!false)→tU6 ((f∧((((0=0)∧True)∧(dQ true=dQ a.2.bad)∧True)∧g∧True))∧zQm ⟨aJ a.1,d,false⟩))))))) ?_
  delta dJ dQ dS rJ aJ aPz bC
  simp only [sS]
  simp only [zZ2,zQw,zQN]
  refine ⟨zZ8 q,zUu (zZx q.ws),fun h=>?_,fun h=>?_⟩
  ·have h:(zZS q).bad=false:=h
   have e:(!(nmR zQe (zZx q.ws)).2)=(namQ zQe q).2.bad:=by unfold namQ; rw [h]; rfl
   rw [e]; exact (by (repeat' apply And.intro) <;> first | rfl | trivial)
  ·have h:(zZS q).bad=true:=h
   have e:true=(namQ zQe q).2.bad:=by unfold namQ; rw [h]; rfl
   rw [e]; exact (by (repeat' apply And.intro) <;> first | rfl | trivial)
theorem zQt (q:LQ) (hq:okQ q):AnsG prog 109 2 [aPz] [bC [Cl.clo 105 [Cap.ptr 1 0],Cl.d (dQ q.bad)],bC [Cl.d (dS q.ws.length (strs q.ws))]] ⟨aJ ((((numQ q 0 255).1))),[bC [Cl.clo 105 [Cap.ptr 1 0],Cl.d (dQ (((numQ q 0 255).2).bad))],bC [Cl.d (dS (((numQ q 0 255).2).ws.length) (strs ((numQ q 0 255).2).ws))]],false⟩:=
 zQy (Γ:=zVl) Ann.leaf zQs Tryz.func109 rfl (nL rfl) rfl fun hwf hbx=>by
  refine Eq.mpr (by kernel_rfl:_=(let a:=(numQ q 0 255); let b:=(numQ (reQ q) (0:Int) (255:Int)); tU2 ((AnsG prog 137 2 [aPz,aJ 0,aJ 255] [bC [Cl.clo 105 [Cap.ptr 1 0],Cl.d (dQ q.bad)],bC [Cl.d (dS q.ws.length (strs q.ws))]] ⟨aJ b.1,[bC [Cl.clo 105 [Cap.ptr 1 0],Cl.d (dQ b.2.bad)],bC [Cl.d (dS b.2.ws.length (strs b.2.ws))]],false⟩)∧True∧(((dJ b.1=dJ a.1)∧True)∧((((0=0)∧True)∧(dQ b.2.bad=dQ a.2.bad)∧True)∧([dS b.2.ws.length (strs b.2.ws)]=[dS a.2.ws.length (strs a.2.ws)])∧True))∧zQm ⟨aJ a.1,[bC [Cl.clo 105 [Cap.ptr 1 0],Cl.d (dQ a.2.bad)],bC [Cl.d (dS a.2.ws.length (strs a.2.ws))]],false⟩))) ?_
  delta dJ dQ dS aJ aPz bC
  simp only [sS]
  simp only [zZ2,zQw,zQN]
  have aN:=zQ9 q 0 255 hq
  exact ⟨aN,(by (repeat' apply And.intro) <;> first | rfl | trivial)⟩
theorem zQr (q:LQ) (hq:okQ q):AnsG prog 110 2 [aPz] [bC [Cl.clo 105 [Cap.ptr 1 0],Cl.d (dQ q.bad)],bC [Cl.d (dS q.ws.length (strs q.ws))]] ⟨aJ ((((numQ q (-2147483648) 2147483647).1))),[bC [Cl.clo 105 [Cap.ptr 1 0],Cl.d (dQ (((numQ q (-2147483648) 2147483647).2).bad))],bC [Cl.d (dS (((numQ q (-2147483648) 2147483647).2).ws.length) (strs ((numQ q (-2147483648) 2147483647).2).ws))]],false⟩:=
 zQy (Γ:=zVl) Ann.leaf zQs Tryz.func110 rfl (nL rfl) rfl fun hwf hbx=>by
  refine Eq.mpr (by kernel_rfl:_=(let c:=(numQ q (-2147483648) 2147483647); let a:=(numQ (reQ q) (-2147483648:Int) (2147483647:Int)); let b:=c.2; tU2 ((AnsG prog 137 2 [aPz,aJ (-2147483648:Int),aJ 2147483647] [bC [Cl.clo 105 [Cap.ptr 1 0],Cl.d (dQ q.bad)],bC [Cl.d (dS q.ws.length (strs q.ws))]] ⟨aJ a.1,[bC [Cl.clo 105 [Cap.ptr 1 0],Cl.d (dQ a.2.bad)],bC [Cl.d (dS a.2.ws.length (strs a.2.ws))]],false⟩)∧True∧(((dJ a.1=dJ c.1)∧True)∧((((0=0)∧True)∧(dQ a.2.bad=dQ b.bad)∧True)∧([dS a.2.ws.length (strs a.2.ws)]=[dS b.ws.length (strs b.ws)])∧True))∧zQm ⟨aJ c.1,[bC [Cl.clo 105 [Cap.ptr 1 0],Cl.d (dQ b.bad)],bC [Cl.d (dS b.ws.length (strs b.ws))]],false⟩))) ?_
  delta dJ dQ dS aJ aPz bC
  simp only [sS]
  simp only [zZ2,zQw,zQN]
  have aN:=zQ9 q (-2147483648) 2147483647 hq
  exact ⟨aN,(by (repeat' apply And.intro) <;> first | rfl | trivial)⟩
theorem zQp (q:LQ) (hq:okQ q):AnsG prog 111 2 [aPz] [bC [Cl.clo 105 [Cap.ptr 1 0],Cl.d (dQ q.bad)],bC [Cl.d (dS q.ws.length (strs q.ws))]] ⟨aJ ((((numQ q 0 4294967295).1))),[bC [Cl.clo 105 [Cap.ptr 1 0],Cl.d (dQ (((numQ q 0 4294967295).2).bad))],bC [Cl.d (dS (((numQ q 0 4294967295).2).ws.length) (strs ((numQ q 0 4294967295).2).ws))]],false⟩:=
 zQy (Γ:=zVl) Ann.leaf zQs Tryz.func111 rfl (nL rfl) rfl fun hwf hbx=>by
  refine Eq.mpr (by kernel_rfl:_=(let a:=(numQ q 0 4294967295); let b:=(numQ (reQ q) (0:Int) (4294967295:Int)); tU2 ((AnsG prog 137 2 [aPz,aJ 0,aJ 4294967295] [bC [Cl.clo 105 [Cap.ptr 1 0],Cl.d (dQ q.bad)],bC [Cl.d (dS q.ws.length (strs q.ws))]] ⟨aJ b.1,[bC [Cl.clo 105 [Cap.ptr 1 0],Cl.d (dQ b.2.bad)],bC [Cl.d (dS b.2.ws.length (strs b.2.ws))]],false⟩)∧True∧(((dJ b.1=dJ a.1)∧True)∧((((0=0)∧True)∧(dQ b.2.bad=dQ a.2.bad)∧True)∧([dS b.2.ws.length (strs b.2.ws)]=[dS a.2.ws.length (strs a.2.ws)])∧True))∧zQm ⟨aJ a.1,[bC [Cl.clo 105 [Cap.ptr 1 0],Cl.d (dQ a.2.bad)],bC [Cl.d (dS a.2.ws.length (strs a.2.ws))]],false⟩))) ?_
  delta dJ dQ dS aJ aPz bC
  simp only [sS]
  simp only [zZ2,zQw,zQN]
  have aN:=zQ9 q 0 4294967295 hq
  exact ⟨aN,(by (repeat' apply And.intro) <;> first | rfl | trivial)⟩
theorem zXh (q:LQ) (hq:okQ q):AnsG prog 135 2 [aPz] [bC [Cl.clo 105 [Cap.ptr 1 0],Cl.d (dQ q.bad)],bC [Cl.d (dS q.ws.length (strs q.ws))]] ⟨AV.one (cK (((numQ q 0 65535).1))),[bC [Cl.clo 105 [Cap.ptr 1 0],Cl.d (dQ (((numQ q 0 65535).2).bad))],bC [Cl.d (dS (((numQ q 0 65535).2).ws.length) (strs ((numQ q 0 65535).2).ws))]],false⟩:=
 zQy (Γ:=zVl) Ann.leaf zQs Tryz.func135 rfl (nL rfl) rfl fun hwf hbx=>by
  refine Eq.mpr (by kernel_rfl:_=(let a:=(numQ q 0 65535); let b:=(numQ (reQ q) (0:Int) (65535:Int)); tU2 ((AnsG prog 137 2 [aPz,aJ 0,aJ 65535] [bC [Cl.clo 105 [Cap.ptr 1 0],Cl.d (dQ q.bad)],bC [Cl.d (dS q.ws.length (strs q.ws))]] ⟨aJ b.1,[bC [Cl.clo 105 [Cap.ptr 1 0],Cl.d (dQ b.2.bad)],bC [Cl.d (dS b.2.ws.length (strs b.2.ws))]],false⟩)∧tU2 ((((dK (IntKind.wrap .u16 b.1)=dK a.1)∧True)∧((((0=0)∧True)∧(dQ b.2.bad=dQ a.2.bad)∧True)∧([dS b.2.ws.length (strs b.2.ws)]=[dS a.2.ws.length (strs a.2.ws)])∧True))∧zQm ⟨AV.one (cK a.1),[bC [Cl.clo 105 [Cap.ptr 1 0],Cl.d (dQ a.2.bad)],bC [Cl.d (dS a.2.ws.length (strs a.2.ws))]],false⟩)))) ?_
  delta dK dQ cK dS aJ aPz bC
  simp only [sS]
  simp only [zZ2,zQw,zQN]
  have aN:=zQ9 q 0 65535 hq
  have hr:0≤(numQ q 0 65535).1∧(numQ q 0 65535).1≤65535:=jVh (by decide)
  have w:IntKind.wrap .u16 (numQ q 0 65535).1=(numQ q 0 65535).1:=by simp [IntKind.wrap,IntKind.bits,IntKind.signed]; omega
  have w':IntKind.wrap .u16 (numQ { ws:=q.ws,bad:=q.bad } 0 65535).1=(numQ q 0 65535).1:=w
  rw [w']
  exact ⟨aN,(by (repeat' apply And.intro) <;> first | rfl | trivial)⟩
theorem zXv (q:LQ) (hq:okQ q):AnsG prog 142 2 [aPz] [bC [Cl.clo 105 [Cap.ptr 1 0],Cl.d (dQ q.bad)],bC [Cl.d (dS q.ws.length (strs q.ws))]] ⟨AV.one (Cl.d (dQ (decide ((numQ q 0 1).1=1)))),[bC [Cl.clo 105 [Cap.ptr 1 0],Cl.d (dQ (((numQ q 0 1).2).bad))],bC [Cl.d (dS (((numQ q 0 1).2).ws.length) (strs ((numQ q 0 1).2).ws))]],false⟩:=
 zQy (Γ:=zVl) Ann.leaf zQs Tryz.func142 rfl (nL rfl) rfl fun hwf hbx=>by
  refine Eq.mpr (by kernel_rfl:_=(let a:=(numQ q 0 1); let b:=(numQ (reQ q) (0:Int) (1:Int)); tU2 ((AnsG prog 137 2 [aPz,aJ 0,aJ 1] [bC [Cl.clo 105 [Cap.ptr 1 0],Cl.d (dQ q.bad)],bC [Cl.d (dS q.ws.length (strs q.ws))]] ⟨aJ b.1,[bC [Cl.clo 105 [Cap.ptr 1 0],Cl.d (dQ b.2.bad)],bC [Cl.d (dS b.2.ws.length (strs b.2.ws))]],false⟩)∧tU2 ((((dQ (b.1==1)=dQ (decide (a.1=1)))∧True)∧((((0=0)∧True)∧(dQ b.2.bad=dQ a.2.bad)∧True)∧([dS b.2.ws.length (strs b.2.ws)]=[dS a.2.ws.length (strs a.2.ws)])∧True))∧zQm ⟨AV.one (Cl.d (dQ (decide (a.1=1)))),[bC [Cl.clo 105 [Cap.ptr 1 0],Cl.d (dQ a.2.bad)],bC [Cl.d (dS a.2.ws.length (strs a.2.ws))]],false⟩)))) ?_
  delta dQ dS aJ aPz bC
  simp only [sS]
  simp only [zZ2,zQw,zQN]
  have aN:=zQ9 q 0 1 hq
  have e:((numQ { ws:=q.ws,bad:=q.bad } 0 1).1==1)=decide ((numQ q 0 1).1=1):=by rw [Bool.eq_iff_iff]; simp
  rw [e]
  exact ⟨aN,(by (repeat' apply And.intro) <;> first | rfl | trivial)⟩
theorem zZ6 (q:LQ):AnsG prog 140 2 [aPz] [bC [Cl.clo 105 [Cap.ptr 1 0],Cl.d (dQ q.bad)],bC [Cl.d (dS q.ws.length (strs q.ws))]] ⟨aJ ((((namQ zQn q).1))),[bC [Cl.clo 105 [Cap.ptr 1 0],Cl.d (dQ (((namQ zQn q).2).bad))],bC [Cl.d (dS (((namQ zQn q).2).ws.length) (strs ((namQ zQn q).2).ws))]],false⟩:=
 zQy (Γ:=zVl) Ann.leaf zQs Tryz.func140 rfl (nL rfl) rfl fun hwf hbx=>by
  refine Eq.mpr (by kernel_rfl:_=(let a:=(namQ zQn q); let b:=(namQ zQn (reQ q)); tU2 ((AnsG prog 156 2 [aPz,AV.one (Cl.d (DV.fn 157))] [bC [Cl.clo 105 [Cap.ptr 1 0],Cl.d (dQ q.bad)],bC [Cl.d (dS q.ws.length (strs q.ws))]] ⟨aJ b.1,[bC [Cl.clo 105 [Cap.ptr 1 0],Cl.d (dQ b.2.bad)],bC [Cl.d (dS b.2.ws.length (strs b.2.ws))]],false⟩)∧True∧(((dJ b.1=dJ a.1)∧True)∧((((0=0)∧True)∧(dQ b.2.bad=dQ a.2.bad)∧True)∧([dS b.2.ws.length (strs b.2.ws)]=[dS a.2.ws.length (strs a.2.ws)])∧True))∧zQm ⟨aJ a.1,[bC [Cl.clo 105 [Cap.ptr 1 0],Cl.d (dQ a.2.bad)],bC [Cl.d (dS a.2.ws.length (strs a.2.ws))]],false⟩))) ?_
  delta dJ dQ dS aJ aPz bC
  simp only [sS]
  simp only [zZ2,zQw,zQN]
  exact ⟨zY8 q,(by (repeat' apply And.intro) <;> first | rfl | trivial)⟩
theorem zXF (q:LQ):AnsG prog 141 2 [aPz] [bC [Cl.clo 105 [Cap.ptr 1 0],Cl.d (dQ q.bad)],bC [Cl.d (dS q.ws.length (strs q.ws))]] ⟨aJ ((((namQ zQe q).1))),[bC [Cl.clo 105 [Cap.ptr 1 0],Cl.d (dQ (((namQ zQe q).2).bad))],bC [Cl.d (dS (((namQ zQe q).2).ws.length) (strs ((namQ zQe q).2).ws))]],false⟩:=
 zQy (Γ:=zVl) Ann.leaf zQs Tryz.func141 rfl (nL rfl) rfl fun hwf hbx=>by
  refine Eq.mpr (by kernel_rfl:_=(let a:=(namQ zQe q); let b:=(namQ zQe (reQ q)); tU2 ((AnsG prog 156 2 [aPz,AV.one (Cl.d (DV.fn 158))] [bC [Cl.clo 105 [Cap.ptr 1 0],Cl.d (dQ q.bad)],bC [Cl.d (dS q.ws.length (strs q.ws))]] ⟨aJ b.1,[bC [Cl.clo 105 [Cap.ptr 1 0],Cl.d (dQ b.2.bad)],bC [Cl.d (dS b.2.ws.length (strs b.2.ws))]],false⟩)∧True∧(((dJ b.1=dJ a.1)∧True)∧((((0=0)∧True)∧(dQ b.2.bad=dQ a.2.bad)∧True)∧([dS b.2.ws.length (strs b.2.ws)]=[dS a.2.ws.length (strs a.2.ws)])∧True))∧zQm ⟨aJ a.1,[bC [Cl.clo 105 [Cap.ptr 1 0],Cl.d (dQ a.2.bad)],bC [Cl.d (dS a.2.ws.length (strs a.2.ws))]],false⟩))) ?_
  delta dJ dQ dS aJ aPz bC
  simp only [sS]
  simp only [zZ2,zQw,zQN]
  exact ⟨zKB q,(by (repeat' apply And.intro) <;> first | rfl | trivial)⟩
theorem zQq (q:LQ):AnsG prog 107 2 [aPz] [bC [Cl.clo 105 [Cap.ptr 1 0],Cl.d (dQ q.bad)],bC [Cl.d (dS q.ws.length (strs q.ws))]] ⟨AV.one (Cl.d (dQ (((q).ws).isEmpty && !(q).bad))),[bC [Cl.clo 105 [Cap.ptr 1 0],Cl.d (dQ ((zZU q).bad))],bC [Cl.d (dS ((zZU q).ws.length) (strs (zZU q).ws))]],false⟩:=
 zQy (Γ:=zVl) Ann.leaf zQs Tryz.func107 rfl (nL rfl) rfl fun hwf hbx=>by
  refine Eq.mpr (by kernel_rfl:_=(let a:=(zZU (reQ q)); let b:=(q.ws.isEmpty && !q.bad); let c:=[bC [Cl.clo 105 [Cap.ptr 1 0],Cl.d (dQ (zZU q).bad)],bC [Cl.d (dS (zZU q).ws.length (strs (zZU q).ws))]]; let d:=((((0=0)∧True)∧(dQ a.bad=dQ (zZU q).bad)∧True)∧([dS a.ws.length (strs a.ws)]=[dS (zZU q).ws.length (strs (zZU q).ws)])∧True); tU2 ((AnsG prog 136 2 [aPz] [bC [Cl.clo 105 [Cap.ptr 1 0],Cl.d (dQ q.bad)],bC [Cl.d (dS q.ws.length (strs q.ws))]] ⟨AV.one (Cl.d (dQ (!(reQ q).ws.isEmpty))),[bC [Cl.clo 105 [Cap.ptr 1 0],Cl.d (dQ a.bad)],bC [Cl.d (dS a.ws.length (strs a.ws))]],false⟩)∧tU2 (((!(!(reQ q).ws.isEmpty))=true→tU7 ((((dQ (!a.bad)=dQ b)∧True)∧d)∧zQm ⟨AV.one (Cl.d (dQ b)),c,false⟩))∧((!(!(reQ q).ws.isEmpty))=(!true)→tU2 ((((dQ false=dQ b)∧True)∧d)∧zQm ⟨AV.one (Cl.d (dQ b)),c,false⟩)))))) ?_
  delta dQ dS aPz bC
  simp only [sS]
  simp only [zZ2,zQw,zQN]
  have aM:=zK1 q
  refine ⟨aM,fun h=>?_,fun h=>?_⟩
  ·have e:(!(zZU { ws:=q.ws,bad:=q.bad }).bad)=(q.ws.isEmpty && !q.bad):=by rw [h]; rfl
   rw [e]; exact (by (repeat' apply And.intro) <;> first | rfl | trivial)
  ·have e:false=(q.ws.isEmpty && !q.bad):=by rw [h]; rfl
   rw [← e]; exact (by (repeat' apply And.intro) <;> first | rfl | trivial)
def pixQ (q:LQ):Px × LQ:=
 let a:=numQ q 0 65535; let b:=numQ a.2 0 65535; let c:=numQ b.2 0 65535; let d:=numQ c.2 0 65535; let e:=numQ d.2 0 65535
 (⟨a.1,b.1,c.1,d.1,e.1⟩,e.2)
def sizQ (q:LQ):(Int × Int) × LQ:=
 let a:=numQ q 1 16777216; let b:=numQ a.2 1 16777216
 if b.2.bad=true∨16777216 / b.1 < a.1 then ((0,0),⟨b.2.ws,true⟩) else ((a.1,b.1),b.2)
theorem jYC {q:LQ} {lo hi:Int} (h:(numQ q lo hi).2.bad=false):lo≤(numQ q lo hi).1∧(numQ q lo hi).1≤hi:=by
 unfold numQ at h ⊢
 split at h
 ·rename_i e
  rw [if_pos e]
  exact zKw e
 ·exact absurd h (by simp)
def byQ (q:LQ):=numQ q 0 255
def plQ (q:LQ):=numQ q (-2147483648) 2147483647
def smQ (q:LQ):=numQ q 0 65535
def trQ (q:LQ):Bool × LQ:=(decide ((numQ q 0 1).1=1),(numQ q 0 1).2)
def zZO (q:LQ):Oq × LQ:=
 let i:=byQ q; let x:=plQ i.2; let y:=plQ x.2; let m:=byQ y.2; let mx:=plQ m.2; let my:=plQ mx.2; let a:=smQ my.2; let o:=namQ zQn a.2; let k:=namQ zQe o.2
 (⟨1,i.1,x.1,y.1,m.1,mx.1,my.1,a.1,o.1,k.1,false,false⟩,k.2)
def zZL (q:LQ):Oq × LQ:=
 let m:=byQ q; let mx:=plQ m.2; let my:=plQ mx.2; let a:=smQ my.2; let o:=namQ zQn a.2; let k:=namQ zQe o.2; let i:=trQ k.2; let n:=trQ i.2
 (⟨2,0,0,0,m.1,mx.1,my.1,a.1,o.1,k.1,i.1,n.1⟩,n.2)
def gZ45 (xs:List RV):Option RV:=match xs with | [.d (.str s),.d (.str sep)]=>some (RV.d (dS (zQo (ofS s)).length (strs (zQo (ofS s))))) | _=>none
def jYU:Gam where
 pure:=fun f xs=>
  if f=104 then gZ45 xs else
  none
 modes:=fun f=>
  if f=137 then some ([false,true,true],2,0) else
  if f=109 then some ([false],2,0) else
  if f=110 then some ([false],2,0) else
  if f=135 then some ([false],2,0) else
  if f=142 then some ([false],2,0) else
  if f=140 then some ([false],2,0) else
  if f=141 then some ([false],2,0) else
  none
 proc:=fun f xs bs=>
  if f=137 then gZ36 xs bs else
  if f=109 then gZ37 xs bs else
  if f=110 then gZ38 xs bs else
  if f=135 then gZ40 xs bs else
  if f=142 then gZ41 xs bs else
  if f=140 then gZ42 xs bs else
  if f=141 then gZ43 xs bs else
  none
 iter:=fun f cs=>
  none
theorem zQx (q:LQ) (hq:okQ q):AnsG prog 106 2 [aPz] [bC [Cl.clo 105 [Cap.ptr 1 0],Cl.d (dQ q.bad)],bC [Cl.d (dS q.ws.length (strs q.ws))]] ⟨AV.agg [cK (((pixQ q).1.a)),cK (((pixQ q).1.b)),cK (((pixQ q).1.c)),cK (((pixQ q).1.al)),cK (((pixQ q).1.f))],[bC [Cl.clo 105 [Cap.ptr 1 0],Cl.d (dQ (((pixQ q).2).bad))],bC [Cl.d (dS (((pixQ q).2).ws.length) (strs ((pixQ q).2).ws))]],false⟩:=
 zQy (Γ:=jYU) Ann.leaf zQs Tryz.func106 rfl (nL rfl) rfl fun hwf hbx=>by
  refine Eq.mpr (by kernel_rfl:_=(let e:=[Cap.ptr 1 0]; let k:=[AV.one (Cl.ptr 0 0)]; let g:=(numQ (reQ q) 0 65535); let h:=(numQ (reQ g.2) 0 65535); let i:=(numQ (reQ h.2) 0 65535); let j:=(numQ (reQ i.2) 0 65535); let d:=(numQ (reQ j.2) 0 65535); let l:=[Bx.cells [Cl.clo 105 e,Cl.d (DV.bool g.2.bad)],Bx.cells [Cl.d (DV.sl g.2.ws.length (strs g.2.ws))]]; let m:=[Bx.cells [Cl.clo 105 e,Cl.d (DV.bool h.2.bad)],Bx.cells [Cl.d (DV.sl h.2.ws.length (strs h.2.ws))]]; let n:=[Bx.cells [Cl.clo 105 e,Cl.d (DV.bool i.2.bad)],Bx.cells [Cl.d (DV.sl i.2.ws.length (strs i.2.ws))]]; let o:=[Bx.cells [Cl.clo 105 e,Cl.d (DV.bool j.2.bad)],Bx.cells [Cl.d (DV.sl j.2.ws.length (strs j.2.ws))]]; True∧True∧(AnsG prog 135 2 k [Bx.cells [Cl.clo 105 e,Cl.d (DV.bool q.bad)],Bx.cells [Cl.d (DV.sl q.ws.length (strs q.ws))]] ⟨AV.one (Cl.d (DV.int .u16 g.1)),l,false⟩)∧True∧(AnsG prog 135 2 k l ⟨AV.one (Cl.d (DV.int .u16 h.1)),m,false⟩)∧True∧(AnsG prog 135 2 k m ⟨AV.one (Cl.d (DV.int .u16 i.1)),n,false⟩)∧True∧True∧(AnsG prog 135 2 k n ⟨AV.one (Cl.d (DV.int .u16 j.1)),o,false⟩)∧True∧(AnsG prog 135 2 k o ⟨AV.one (Cl.d (DV.int .u16 d.1)),[Bx.cells [Cl.clo 105 e,Cl.d (DV.bool d.2.bad)],Bx.cells [Cl.d (DV.sl d.2.ws.length (strs d.2.ws))]],false⟩)∧True∧True∧((([DV.int .u16 g.1,DV.int .u16 h.1,DV.int .u16 i.1,DV.int .u16 j.1,DV.int .u16 d.1]=[DV.int .u16 (pixQ q).1.a,DV.int .u16 (pixQ q).1.b,DV.int .u16 (pixQ q).1.c,DV.int .u16 (pixQ q).1.al,DV.int .u16 (pixQ q).1.f])∧True)∧((((0=0)∧True)∧(DV.bool d.2.bad=DV.bool (pixQ q).2.bad)∧True)∧([DV.sl d.2.ws.length (strs d.2.ws)]=[DV.sl (pixQ q).2.ws.length (strs (pixQ q).2.ws)])∧True))∧zQm ⟨AV.agg [Cl.d (DV.int .u16 (pixQ q).1.a),Cl.d (DV.int .u16 (pixQ q).1.b),Cl.d (DV.int .u16 (pixQ q).1.c),Cl.d (DV.int .u16 (pixQ q).1.al),Cl.d (DV.int .u16 (pixQ q).1.f)],[Bx.cells [Cl.clo 105 e,Cl.d (DV.bool (pixQ q).2.bad)],Bx.cells [Cl.d (DV.sl (pixQ q).2.ws.length (strs (pixQ q).2.ws))]],false⟩)) ?_
  simp only [zZ2,true_and,and_true,RV.d.injEq,RV.agg.injEq,RV.tup.injEq,DV.bool.injEq,DV.int.injEq,DV.sl.injEq,List.cons.injEq,forall_const,Bool.not_false,Bool.not_true,Bool.not_eq_true',Bool.not_eq_false',decide_eq_true_eq,decide_eq_false_iff_not,Int.toNat_natCast]
  (repeat' apply And.intro) <;> first | exact zXh _ (by repeat (first | assumption | apply zQd | apply zQf)) | exact zQr _ (by repeat (first | assumption | apply zQd | apply zQf)) | exact zQt _ (by repeat (first | assumption | apply zQd | apply zQf)) | exact zZ6 _ | exact zXF _ | exact zXv _ (by repeat (first | assumption | apply zQd | apply zQf)) | rfl | trivial
theorem zQz (q:LQ) (hq:okQ q):AnsG prog 113 2 [aPz] [bC [Cl.clo 105 [Cap.ptr 1 0],Cl.d (dQ q.bad)],bC [Cl.d (dS q.ws.length (strs q.ws))]] ⟨AV.tup [aJ ((((sizQ q).1.1))),aJ ((((sizQ q).1.2)))],[bC [Cl.clo 105 [Cap.ptr 1 0],Cl.d (dQ (((sizQ q).2).bad))],bC [Cl.d (dS (((sizQ q).2).ws.length) (strs ((sizQ q).2).ws))]],false⟩:=
 zQy (Γ:=jYU) Ann.leaf zQs Tryz.func113 rfl (nL rfl) rfl fun hwf hbx=>by
  refine Eq.mpr (by kernel_rfl:_=(let c:=[Cap.ptr 1 0]; let d:=[Bx.cells [Cl.clo 105 c,Cl.d (DV.bool (sizQ q).2.bad)],Bx.cells [Cl.d (DV.sl (sizQ q).2.ws.length (strs (sizQ q).2.ws))]]; let e:=[AV.one (Cl.d (DV.int .i64 (sizQ q).1.1)),AV.one (Cl.d (DV.int .i64 (sizQ q).1.2))]; let b:=(numQ (reQ q) (1:Int) (16777216:Int)); let a:=(numQ (reQ b.2) (1:Int) (16777216:Int)); let f:=(decide (b.1 > (IntKind.wrap .i64 (Int.tdiv (16777216:Int) a.1)))); let g:=[AV.one (Cl.ptr 0 0),AV.one (Cl.d (DV.int .i64 1)),AV.one (Cl.d (DV.int .i64 16777216))]; let h:=[Bx.cells [Cl.clo 105 c,Cl.d (DV.bool b.2.bad)],Bx.cells [Cl.d (DV.sl b.2.ws.length (strs b.2.ws))]]; let i:=([DV.sl a.2.ws.length (strs a.2.ws)]=[DV.sl (sizQ q).2.ws.length (strs (sizQ q).2.ws)]); let j:=((((DV.int .i64 0=DV.int .i64 (sizQ q).1.1)∧(DV.int .i64 0=DV.int .i64 (sizQ q).1.2)∧True)∧True)∧((((0=0)∧True)∧(DV.bool true=DV.bool (sizQ q).2.bad)∧True)∧i∧True)); True∧True∧True∧(AnsG prog 137 2 g [Bx.cells [Cl.clo 105 c,Cl.d (DV.bool q.bad)],Bx.cells [Cl.d (DV.sl q.ws.length (strs q.ws))]] ⟨AV.one (Cl.d (DV.int .i64 b.1)),h,false⟩)∧True∧(AnsG prog 137 2 g h ⟨AV.one (Cl.d (DV.int .i64 a.1)),[Bx.cells [Cl.clo 105 c,Cl.d (DV.bool a.2.bad)],Bx.cells [Cl.d (DV.sl a.2.ws.length (strs a.2.ws))]],false⟩)∧True∧True∧True∧True∧True∧True∧True∧((a.2.bad=false→True∧True∧(a.1≠0)∧True∧True∧((f=true→True∧True∧True∧True∧True∧True∧j∧zQm ⟨AV.tup e,d,false⟩)∧(f=false→True∧True∧True∧True∧((((DV.int .i64 b.1=DV.int .i64 (sizQ q).1.1)∧(DV.int .i64 a.1=DV.int .i64 (sizQ q).1.2)∧True)∧True)∧((((0=0)∧True)∧(DV.bool a.2.bad=DV.bool (sizQ q).2.bad)∧True)∧i∧True))∧zQm ⟨AV.tup e,d,false⟩)))∧(a.2.bad=(!false)→True∧True∧True∧True∧True∧True∧True∧j∧zQm ⟨AV.tup e,d,false⟩)))) ?_
  simp only [zZ2,true_and,and_true,RV.d.injEq,RV.agg.injEq,RV.tup.injEq,DV.bool.injEq,DV.int.injEq,DV.sl.injEq,List.cons.injEq,forall_const,Bool.not_false,Bool.not_true,Bool.not_eq_true',Bool.not_eq_false',decide_eq_true_eq,decide_eq_false_iff_not,Int.toNat_natCast]
  have aA:=zQ9 q 1 16777216 hq
  have aB:=zQ9 (numQ q 1 16777216).2 1 16777216 (zQd hq)
  have hb:(numQ (numQ q 1 16777216).2 1 16777216).2.bad=false→1≤(numQ (numQ q 1 16777216).2 1 16777216).1∧(numQ (numQ q 1 16777216).2 1 16777216).1≤16777216:=fun h=>jYC h
  have e:sizQ q=(if (numQ (numQ q 1 16777216).2 1 16777216).2.bad=true∨16777216 / (numQ (numQ q 1 16777216).2 1 16777216).1 < (numQ q 1 16777216).1 then ((0,0),⟨(numQ (numQ q 1 16777216).2 1 16777216).2.ws,true⟩) else (((numQ q 1 16777216).1,(numQ (numQ q 1 16777216).2 1 16777216).1),(numQ (numQ q 1 16777216).2 1 16777216).2)):=rfl
  generalize numQ (numQ q 1 16777216).2 1 16777216=B at *
  generalize numQ q 1 16777216=A at *
  have hw:B.2.bad=false→IntKind.wrap .i64 (Int.tdiv 16777216 B.1)=16777216 / B.1:=fun h=>by
   obtain ⟨h1,h2⟩:=hb h
   rw [Int.tdiv_eq_ediv_of_nonneg (by omega)]
   have hq:=Int.ediv_nonneg (by omega:(0:Int)≤16777216) (by omega:0≤B.1)
   have hq1:16777216 / B.1≤16777216:=Int.ediv_le_self _ (by omega)
   exact IntWalk.i64_in _ ⟨by omega,by omega⟩
  refine ⟨aA,aB,fun h=>⟨by have:=hb h; omega,fun h2=>?_,fun h2=>?_⟩,fun h=>?_⟩
  ·rw [hw h] at h2
   rw [if_pos (.inr (by omega))] at e
   rw [e]; ((repeat' apply And.intro) <;> first | rfl | trivial)
  ·rw [hw h] at h2
   rw [if_neg (by rw [h]; simp; omega)] at e
   rw [e]; ((repeat' apply And.intro) <;> first | rfl | trivial)
  ·rw [if_pos (.inl (by simpa using h))] at e
   rw [e]; ((repeat' apply And.intro) <;> first | rfl | trivial)
theorem zQB (q:LQ) (hq:okQ q):AnsG prog 115 2 [aPz] [bC [Cl.clo 105 [Cap.ptr 1 0],Cl.d (dQ q.bad)],bC [Cl.d (dS q.ws.length (strs q.ws))]] ⟨AV.agg [cJ ((((zZO q).1).kind)),cJ ((((zZO q).1).image)),cJ ((((zZO q).1).x)),cJ ((((zZO q).1).y)),cJ ((((zZO q).1).mask)),cJ ((((zZO q).1).mx)),cJ ((((zZO q).1).my)),cK ((((zZO q).1).opac)),cJ ((((zZO q).1).oper)),cJ ((((zZO q).1).mode)),Cl.d (dQ (((zZO q).1).iso)),Cl.d (dQ (((zZO q).1).kno))],[bC [Cl.clo 105 [Cap.ptr 1 0],Cl.d (dQ (((zZO q).2).bad))],bC [Cl.d (dS (((zZO q).2).ws.length) (strs ((zZO q).2).ws))]],false⟩:=
 zQy (Γ:=jYU) Ann.leaf zQs Tryz.func115 rfl (nL rfl) rfl fun hwf hbx=>by
  refine Eq.mpr (by kernel_rfl:_=(let d:=(numQ (reQ q) 0 255); let a:=[Cap.ptr 1 0]; let b:=[AV.one (Cl.ptr 0 0)]; let e:=(numQ (reQ d.2) (-2147483648) 2147483647); let f:=(numQ (reQ e.2) (-2147483648) 2147483647); let g:=(numQ (reQ f.2) 0 255); let h:=(numQ (reQ g.2) (-2147483648) 2147483647); let i:=(numQ (reQ h.2) (-2147483648) 2147483647); let j:=(numQ (reQ i.2) 0 65535); let k:=(namQ zQn (reQ j.2)); let c:=(namQ zQe (reQ k.2)); let l:=[Bx.cells [Cl.clo 105 a,Cl.d (DV.bool d.2.bad)],Bx.cells [Cl.d (DV.sl d.2.ws.length (strs d.2.ws))]]; let m:=[Bx.cells [Cl.clo 105 a,Cl.d (DV.bool e.2.bad)],Bx.cells [Cl.d (DV.sl e.2.ws.length (strs e.2.ws))]]; let n:=[Bx.cells [Cl.clo 105 a,Cl.d (DV.bool f.2.bad)],Bx.cells [Cl.d (DV.sl f.2.ws.length (strs f.2.ws))]]; let o:=[Bx.cells [Cl.clo 105 a,Cl.d (DV.bool g.2.bad)],Bx.cells [Cl.d (DV.sl g.2.ws.length (strs g.2.ws))]]; let p:=[Bx.cells [Cl.clo 105 a,Cl.d (DV.bool h.2.bad)],Bx.cells [Cl.d (DV.sl h.2.ws.length (strs h.2.ws))]]; let r:=[Bx.cells [Cl.clo 105 a,Cl.d (DV.bool i.2.bad)],Bx.cells [Cl.d (DV.sl i.2.ws.length (strs i.2.ws))]]; let s:=[Bx.cells [Cl.clo 105 a,Cl.d (DV.bool j.2.bad)],Bx.cells [Cl.d (DV.sl j.2.ws.length (strs j.2.ws))]]; let t:=[Bx.cells [Cl.clo 105 a,Cl.d (DV.bool k.2.bad)],Bx.cells [Cl.d (DV.sl k.2.ws.length (strs k.2.ws))]]; True∧True∧(AnsG prog 109 2 b [Bx.cells [Cl.clo 105 a,Cl.d (DV.bool q.bad)],Bx.cells [Cl.d (DV.sl q.ws.length (strs q.ws))]] ⟨AV.one (Cl.d (DV.int .i64 d.1)),l,false⟩)∧True∧(AnsG prog 110 2 b l ⟨AV.one (Cl.d (DV.int .i64 e.1)),m,false⟩)∧True∧(AnsG prog 110 2 b m ⟨AV.one (Cl.d (DV.int .i64 f.1)),n,false⟩)∧True∧(AnsG prog 109 2 b n ⟨AV.one (Cl.d (DV.int .i64 g.1)),o,false⟩)∧True∧(AnsG prog 110 2 b o ⟨AV.one (Cl.d (DV.int .i64 h.1)),p,false⟩)∧True∧(AnsG prog 110 2 b p ⟨AV.one (Cl.d (DV.int .i64 i.1)),r,false⟩)∧True∧(AnsG prog 135 2 b r ⟨AV.one (Cl.d (DV.int .u16 j.1)),s,false⟩)∧True∧(AnsG prog 140 2 b s ⟨AV.one (Cl.d (DV.int .i64 k.1)),t,false⟩)∧True∧(AnsG prog 141 2 b t ⟨AV.one (Cl.d (DV.int .i64 c.1)),[Bx.cells [Cl.clo 105 a,Cl.d (DV.bool c.2.bad)],Bx.cells [Cl.d (DV.sl c.2.ws.length (strs c.2.ws))]],false⟩)∧True∧True∧((([DV.int .i64 1,DV.int .i64 d.1,DV.int .i64 e.1,DV.int .i64 f.1,DV.int .i64 g.1,DV.int .i64 h.1,DV.int .i64 i.1,DV.int .u16 j.1,DV.int .i64 k.1,DV.int .i64 c.1,DV.bool false,DV.bool false]=(Oq.cells (zZO q).1))∧True)∧((((0=0)∧True)∧(DV.bool c.2.bad=DV.bool (zZO q).2.bad)∧True)∧([DV.sl c.2.ws.length (strs c.2.ws)]=[DV.sl (zZO q).2.ws.length (strs (zZO q).2.ws)])∧True))∧zQm ⟨AV.agg [Cl.d (DV.int .i64 (zZO q).1.kind),Cl.d (DV.int .i64 (zZO q).1.image),Cl.d (DV.int .i64 (zZO q).1.x),Cl.d (DV.int .i64 (zZO q).1.y),Cl.d (DV.int .i64 (zZO q).1.mask),Cl.d (DV.int .i64 (zZO q).1.mx),Cl.d (DV.int .i64 (zZO q).1.my),Cl.d (DV.int .u16 (zZO q).1.opac),Cl.d (DV.int .i64 (zZO q).1.oper),Cl.d (DV.int .i64 (zZO q).1.mode),Cl.d (DV.bool (zZO q).1.iso),Cl.d (DV.bool (zZO q).1.kno)],[Bx.cells [Cl.clo 105 a,Cl.d (DV.bool (zZO q).2.bad)],Bx.cells [Cl.d (DV.sl (zZO q).2.ws.length (strs (zZO q).2.ws))]],false⟩)) ?_
  simp only [zZ2,true_and,and_true,RV.d.injEq,RV.agg.injEq,RV.tup.injEq,DV.bool.injEq,DV.int.injEq,DV.sl.injEq,List.cons.injEq,forall_const,Bool.not_false,Bool.not_true,Bool.not_eq_true',Bool.not_eq_false',decide_eq_true_eq,decide_eq_false_iff_not,Int.toNat_natCast]
  (repeat' apply And.intro) <;> first | exact zXh _ (by repeat (first | assumption | apply zQd | apply zQf)) | exact zQr _ (by repeat (first | assumption | apply zQd | apply zQf)) | exact zQt _ (by repeat (first | assumption | apply zQd | apply zQf)) | exact zZ6 _ | exact zXF _ | exact zXv _ (by repeat (first | assumption | apply zQd | apply zQf)) | rfl | trivial
theorem zQA (q:LQ) (hq:okQ q):AnsG prog 116 2 [aPz] [bC [Cl.clo 105 [Cap.ptr 1 0],Cl.d (dQ q.bad)],bC [Cl.d (dS q.ws.length (strs q.ws))]] ⟨AV.agg [cJ ((((zZL q).1).kind)),cJ ((((zZL q).1).image)),cJ ((((zZL q).1).x)),cJ ((((zZL q).1).y)),cJ ((((zZL q).1).mask)),cJ ((((zZL q).1).mx)),cJ ((((zZL q).1).my)),cK ((((zZL q).1).opac)),cJ ((((zZL q).1).oper)),cJ ((((zZL q).1).mode)),Cl.d (dQ (((zZL q).1).iso)),Cl.d (dQ (((zZL q).1).kno))],[bC [Cl.clo 105 [Cap.ptr 1 0],Cl.d (dQ (((zZL q).2).bad))],bC [Cl.d (dS (((zZL q).2).ws.length) (strs ((zZL q).2).ws))]],false⟩:=
 zQy (Γ:=jYU) Ann.leaf zQs Tryz.func116 rfl (nL rfl) rfl fun hwf hbx=>by
  refine Eq.mpr (by kernel_rfl:_=(let d:=(numQ (reQ q) 0 255); let a:=[Cap.ptr 1 0]; let b:=[AV.one (Cl.ptr 0 0)]; let e:=(numQ (reQ d.2) (-2147483648) 2147483647); let f:=(numQ (reQ e.2) (-2147483648) 2147483647); let g:=(numQ (reQ f.2) 0 65535); let h:=(namQ zQn (reQ g.2)); let i:=(namQ zQe (reQ h.2)); let j:=(numQ (reQ i.2) 0 1); let c:=(numQ (reQ j.2) 0 1); let k:=[Bx.cells [Cl.clo 105 a,Cl.d (DV.bool d.2.bad)],Bx.cells [Cl.d (DV.sl d.2.ws.length (strs d.2.ws))]]; let l:=[Bx.cells [Cl.clo 105 a,Cl.d (DV.bool e.2.bad)],Bx.cells [Cl.d (DV.sl e.2.ws.length (strs e.2.ws))]]; let m:=[Bx.cells [Cl.clo 105 a,Cl.d (DV.bool f.2.bad)],Bx.cells [Cl.d (DV.sl f.2.ws.length (strs f.2.ws))]]; let n:=[Bx.cells [Cl.clo 105 a,Cl.d (DV.bool g.2.bad)],Bx.cells [Cl.d (DV.sl g.2.ws.length (strs g.2.ws))]]; let o:=[Bx.cells [Cl.clo 105 a,Cl.d (DV.bool h.2.bad)],Bx.cells [Cl.d (DV.sl h.2.ws.length (strs h.2.ws))]]; let p:=[Bx.cells [Cl.clo 105 a,Cl.d (DV.bool i.2.bad)],Bx.cells [Cl.d (DV.sl i.2.ws.length (strs i.2.ws))]]; let r:=[Bx.cells [Cl.clo 105 a,Cl.d (DV.bool j.2.bad)],Bx.cells [Cl.d (DV.sl j.2.ws.length (strs j.2.ws))]]; True∧True∧(AnsG prog 109 2 b [Bx.cells [Cl.clo 105 a,Cl.d (DV.bool q.bad)],Bx.cells [Cl.d (DV.sl q.ws.length (strs q.ws))]] ⟨AV.one (Cl.d (DV.int .i64 d.1)),k,false⟩)∧True∧(AnsG prog 110 2 b k ⟨AV.one (Cl.d (DV.int .i64 e.1)),l,false⟩)∧True∧(AnsG prog 110 2 b l ⟨AV.one (Cl.d (DV.int .i64 f.1)),m,false⟩)∧True∧(AnsG prog 135 2 b m ⟨AV.one (Cl.d (DV.int .u16 g.1)),n,false⟩)∧True∧(AnsG prog 140 2 b n ⟨AV.one (Cl.d (DV.int .i64 h.1)),o,false⟩)∧True∧(AnsG prog 141 2 b o ⟨AV.one (Cl.d (DV.int .i64 i.1)),p,false⟩)∧True∧(AnsG prog 142 2 b p ⟨AV.one (Cl.d (DV.bool (decide (j.1=1)))),r,false⟩)∧True∧(AnsG prog 142 2 b r ⟨AV.one (Cl.d (DV.bool (decide (c.1=1)))),[Bx.cells [Cl.clo 105 a,Cl.d (DV.bool c.2.bad)],Bx.cells [Cl.d (DV.sl c.2.ws.length (strs c.2.ws))]],false⟩)∧True∧True∧((([DV.int .i64 2,DV.int .i64 0,DV.int .i64 0,DV.int .i64 0,DV.int .i64 d.1,DV.int .i64 e.1,DV.int .i64 f.1,DV.int .u16 g.1,DV.int .i64 h.1,DV.int .i64 i.1,DV.bool (decide (j.1=1)),DV.bool (decide (c.1=1))]=(Oq.cells (zZL q).1))∧True)∧((((0=0)∧True)∧(DV.bool c.2.bad=DV.bool (zZL q).2.bad)∧True)∧([DV.sl c.2.ws.length (strs c.2.ws)]=[DV.sl (zZL q).2.ws.length (strs (zZL q).2.ws)])∧True))∧zQm ⟨AV.agg [Cl.d (DV.int .i64 (zZL q).1.kind),Cl.d (DV.int .i64 (zZL q).1.image),Cl.d (DV.int .i64 (zZL q).1.x),Cl.d (DV.int .i64 (zZL q).1.y),Cl.d (DV.int .i64 (zZL q).1.mask),Cl.d (DV.int .i64 (zZL q).1.mx),Cl.d (DV.int .i64 (zZL q).1.my),Cl.d (DV.int .u16 (zZL q).1.opac),Cl.d (DV.int .i64 (zZL q).1.oper),Cl.d (DV.int .i64 (zZL q).1.mode),Cl.d (DV.bool (zZL q).1.iso),Cl.d (DV.bool (zZL q).1.kno)],[Bx.cells [Cl.clo 105 a,Cl.d (DV.bool (zZL q).2.bad)],Bx.cells [Cl.d (DV.sl (zZL q).2.ws.length (strs (zZL q).2.ws))]],false⟩)) ?_
  simp only [zZ2,true_and,and_true,RV.d.injEq,RV.agg.injEq,RV.tup.injEq,DV.bool.injEq,DV.int.injEq,DV.sl.injEq,List.cons.injEq,forall_const,Bool.not_false,Bool.not_true,Bool.not_eq_true',Bool.not_eq_false',decide_eq_true_eq,decide_eq_false_iff_not,Int.toNat_natCast]
  (repeat' apply And.intro) <;> first | exact zXh _ (by repeat (first | assumption | apply zQd | apply zQf)) | exact zQr _ (by repeat (first | assumption | apply zQd | apply zQf)) | exact zQt _ (by repeat (first | assumption | apply zQd | apply zQf)) | exact zZ6 _ | exact zXF _ | exact zXv _ (by repeat (first | assumption | apply zQd | apply zQf)) | rfl | trivial
theorem zGF (w:Lb) (hw:w.length < 4294967281):AnsG prog 72 0 [AV.one (Cl.d (DV.str (toS w)))] [] ⟨aPz,[bC [Cl.clo 105 [Cap.ptr 1 0],Cl.d (dQ (((⟨zQo (ofS (toS w)),false⟩:LQ)).bad))],bC [Cl.d (dS (((⟨zQo (ofS (toS w)),false⟩:LQ)).ws.length) (strs ((⟨zQo (ofS (toS w)),false⟩:LQ)).ws))]],false⟩:=
 zQy (Γ:=jYU) Ann.leaf zQs Tryz.func72 rfl (nL rfl) rfl fun hwf hbx=>by
  refine Eq.mpr (by kernel_rfl:_=(let a:=(ofS (toS w)); let b:=(zQo a); tU2 ((Ans prog 104 [RV.d (DV.str (toS w)),RV.d (DV.str (⟨#[32]⟩:ByteArray))] (RV.d (dS b.length (strs b))))∧tU6 ((((0=0)∧True)∧((((0=0)∧True)∧(dQ false=dQ (⟨zQo a,false⟩:LQ).bad)∧True)∧([dS b.length (strs b)]=[dS (⟨zQo a,false⟩:LQ).ws.length (strs (⟨zQo a,false⟩:LQ).ws)])∧True))∧zQm ⟨aPz,[bC [Cl.clo 105 [Cap.ptr 1 0],Cl.d (dQ (⟨zQo a,false⟩:LQ).bad)],bC [Cl.d (dS (⟨zQo a,false⟩:LQ).ws.length (strs (⟨zQo a,false⟩:LQ).ws))]],false⟩)))) ?_
  delta dQ dS aPz bC
  simp only [sS]
  simp only [zQN]
  exact ⟨jQz w hw,trivial⟩
end
theorem zJk {off:Nat} {ins:List Bx} {ρ:Nat→Nat} (b:Nat):zQP (List.replicate off .fresh++ins.map (Bx.ren ρ)) (b+off)=(zQP ins b).ren ρ:=by
 unfold zQP
 simp only [List.getD_eq_getElem?_getD]
 rw [List.getElem?_append_right (by simp),List.length_replicate,Nat.add_sub_cancel,List.getElem?_map]
 cases ins[b]? <;> rfl
theorem jQx {off:Nat} {l:List Bx} {b:Nat} (h:b < off):zQP (List.replicate off .fresh++l) b=.fresh:=by
 unfold zQP
 simp only [List.getD_eq_getElem?_getD]
 rw [List.getElem?_append_left (by simpa using h)]
 simp [h]
theorem AnsG.shift {P:Program} {f:FuncId} {args:List AV} {ins:List Bx} {r:Ret} (off:Nat) (h:AnsG P f 0 (AV.renL (·+off) args) (List.replicate off .fresh++ins.map (Bx.ren (·+off))) r):AnsG P f 0 args ins r:=by
 intro w S ι vs hg hh
 have hlo:∀ b,(zQP (List.replicate off .fresh++ins.map (Bx.ren (·+off))) b).live=true→∃ b',b=b'+off∧(zQP ins b').live=true:=fun b hl=>by
  by_cases e:b < off
  ·rw [jQx e] at hl; cases hl
  ·refine ⟨b - off,by omega,?_⟩
   have:=zJk (off:=off) (ins:=ins) (ρ:=(·+off)) (b - off)
   rw [show b - off+off=b from by omega] at this
   rw [this,Bx.ren_live] at hl
   exact hl
 have hι:∀ b,(fun b=>if b < off then none else ι (b - off)) (b+off)=ι b:=fun b=>by
  simp only
  rw [if_neg (by omega),Nat.add_sub_cancel]
 have hturn:∀ b,zUz ι (zQP ins) (fun b=>if b < off then none else ι (b - off)) (zQP (List.replicate off .fresh++ins.map (Bx.ren (·+off)))) (·+off) b:=fun b hk=>⟨hι b,by
  rw [zJk,Bx.ren_known]; exact hk⟩
 have hown:OwnB (zQP (List.replicate off .fresh++ins.map (Bx.ren (·+off)))) (fun b=>if b < off then none else ι (b - off))=OwnB (zQP ins) ι:=by
  funext g
  refine propext ⟨fun ⟨b,c,hl,e⟩=>?_,fun ⟨b,c,hl,e⟩=>?_⟩
  ·obtain ⟨b',rfl,hl'⟩:=hlo b hl
   exact ⟨b',c,hl',by rw [← hι b']; exact e⟩
  ·exact ⟨b+off,c,by rw [zJk,Bx.ren_live]; exact hl,by rw [hι]; exact e⟩
 have hh2:zJ0 w S (fun b=>if b < off then none else ι (b - off)) (AV.renL (·+off) args) (List.replicate off .fresh++ins.map (Bx.ren (·+off))) vs.toList:=by
  refine ⟨fun b g c hl e=>?_,fun b b2 g c c' hl hl2 hne e=>?_,fun b=>?_,hh.args.turn fun b _=>hturn b⟩
  ·obtain ⟨b',rfl,hl'⟩:=hlo b hl
   exact hh.own b' g c hl' (by rw [← hι b']; exact e)
  ·obtain ⟨b',rfl,hl'⟩:=hlo b hl
   obtain ⟨b2',rfl,hl2'⟩:=hlo b2 hl2
   have:=hh.dist b' b2' g c c' hl' hl2' (by omega) (by rw [← hι b']; exact e)
   rw [← hι b2'] at this
   exact this
  ·by_cases e:b < off
   ·rw [jQx e]; trivial
   ·obtain ⟨b',rfl⟩:∃ b',b=b'+off:=⟨b - off,by omega⟩
    rw [zJk]
    exact (hh.bx b').turn (hι b') fun x _=>hturn x
 have hc:=h w S _ vs hg hh2
 refine hc.mono fun ed w' hp=>?_
 obtain ⟨v,ι',rfl,ha⟩:=hp
 have hb:zJt w S (fun b=>if b < off then none else ι (b - off)) (List.replicate off .fresh++ins.map (Bx.ren (·+off))) r ι'=zJt w S ι ins r ι':=by
  unfold zJt
  rw [hown]
 refine ⟨v,ι',rfl,?_,?_,?_,ha.dist,fun b hb=>absurd hb (by omega),?_⟩
 ·rw [← hb]; exact ha.rep
 ·rw [← hb]; exact ha.bx
 ·rw [← hown]; exact ha.own
 ·rw [← hown]; exact ha.bel
def shp (pin off b:Nat):Nat:=if b < pin then b else b+off
def zUI (pin off:Nat) (ins:List Bx):List Bx:=(ins.take pin).map (Bx.ren (shp pin off))++(List.replicate off .fresh++(ins.drop pin).map (Bx.ren (shp pin off)))
theorem zWl {pin off:Nat} {ins:List Bx} (hp:pin≤ins.length) (b:Nat):zQP (zUI pin off ins) (shp pin off b)=(zQP ins b).ren (shp pin off):=by
 unfold zQP zUI shp
 simp only [List.getD_eq_getElem?_getD]
 by_cases h:b < pin
 ·rw [if_pos h,List.getElem?_append_left (by simp; omega),List.getElem?_map,List.getElem?_take,if_pos h]
  cases ins[b]? <;> rfl
 ·rw [if_neg h,List.getElem?_append_right (by simp; omega),List.getElem?_append_right (by simp; omega),List.length_replicate,List.length_map,List.length_take,List.getElem?_map,List.getElem?_drop,show pin+(b+off - min pin ins.length - off)=b by omega]
  cases ins[b]? <;> rfl
theorem zHI {pin off:Nat} {ins:List Bx} (hp:pin≤ins.length) (b:Nat):(∃ b',b=shp pin off b')∨zQP (zUI pin off ins) b=.fresh:=by
 by_cases h:b < pin
 ·exact .inl ⟨b,by unfold shp; rw [if_pos h]⟩
 ·by_cases h2:b < pin+off
  ·refine .inr ?_
   unfold zQP zUI
   simp only [List.getD_eq_getElem?_getD]
   rw [List.getElem?_append_right (by simp; omega),List.getElem?_append_left (by simp; omega),List.getElem?_replicate]
   split <;> rfl
  ·exact .inl ⟨b - off,by unfold shp; rw [if_neg (by omega)]; omega⟩
theorem AnsG.shiftP {P:Program} {f:FuncId} {args:List AV} {ins:List Bx} {r:Ret} {pin:Nat} (off:Nat) (hp:pin≤ins.length) (h:AnsG P f pin (AV.renL (shp pin off) args) (zUI pin off ins) r):AnsG P f pin args ins r:=by
 intro w S ι vs hg hh
 have hinj:∀ {a b},shp pin off a=shp pin off b→a=b:=fun {a b} e=>by
  unfold shp at e
  split at e <;> split at e <;> omega
 have hlo:∀ b,(zQP (zUI pin off ins) b).live=true→∃ b',b=shp pin off b'∧(zQP ins b').live=true:=fun b hl=>by
  rcases zHI (off:=off) hp b with ⟨b',rfl⟩ | e
  ·refine ⟨b',rfl,?_⟩
   rw [zWl hp,Bx.ren_live] at hl
   exact hl
  ·rw [e] at hl; cases hl
 obtain ⟨ι2,hι,hpin⟩:∃ ι2:zQC,(∀ b,ι2 (shp pin off b)=ι b)∧∀ b,b < pin→ι2 b=ι b:=by
  refine ⟨fun b=>if b < pin then ι b else ι (b - off),fun b=>?_,fun b hb=>by simp only; rw [if_pos hb]⟩
  unfold shp
  by_cases h:b < pin
  ·simp only [if_pos h]
  ·simp only [if_neg h]; rw [if_neg (by omega),Nat.add_sub_cancel]
 have hturn:∀ b,zUz ι (zQP ins) ι2 (zQP (zUI pin off ins)) (shp pin off) b:=fun b hk=>⟨hι b,by
  rw [zWl hp,Bx.ren_known]; exact hk⟩
 have hown:OwnB (zQP (zUI pin off ins)) ι2=OwnB (zQP ins) ι:=by
  funext g
  refine propext ⟨fun ⟨b,c,hl,e⟩=>?_,fun ⟨b,c,hl,e⟩=>?_⟩
  ·obtain ⟨b',rfl,hl'⟩:=hlo b hl
   exact ⟨b',c,hl',by rw [← hι b']; exact e⟩
  ·exact ⟨shp pin off b,c,by rw [zWl hp,Bx.ren_live]; exact hl,by rw [hι]; exact e⟩
 have hh2:zJ0 w S ι2 (AV.renL (shp pin off) args) (zUI pin off ins) vs.toList:=by
  refine ⟨fun b g c hl e=>?_,fun b b2 g c c' hl hl2 hne e=>?_,fun b=>?_,hh.args.turn fun b _=>hturn b⟩
  ·obtain ⟨b',rfl,hl'⟩:=hlo b hl
   exact hh.own b' g c hl' (by rw [← hι b']; exact e)
  ·obtain ⟨b',rfl,hl'⟩:=hlo b hl
   obtain ⟨b2',rfl,hl2'⟩:=hlo b2 hl2
   have:=hh.dist b' b2' g c c' hl' hl2' (fun e=>hne (by rw [e])) (by rw [← hι b']; exact e)
   rw [← hι b2'] at this
   exact this
  ·rcases zHI (off:=off) hp b with ⟨b',rfl⟩ | e
   ·rw [zWl hp]
    exact (hh.bx b').turn (hι b') fun x _=>hturn x
   ·rw [e]; trivial
 have hc:=h w S _ vs hg hh2
 refine hc.mono fun ed w' hp=>?_
 obtain ⟨v,ι',rfl,ha⟩:=hp
 have hb:zJt w S ι2 (zUI pin off ins) r ι'=zJt w S ι ins r ι':=by
  unfold zJt
  rw [hown]
 refine ⟨v,ι',rfl,?_,?_,?_,ha.dist,fun b hb=>(ha.pin b hb).trans (hpin b hb),?_⟩
 ·rw [← hb]; exact ha.rep
 ·rw [← hb]; exact ha.bx
 ·rw [← hown]; exact ha.own
 ·rw [← hown]; exact ha.bel
section
attribute [local irreducible] Ans AnsO AnsG AnsN AnsI
open Go.Lib
structure PP where
  s:Scr
  part:Int
  w:Int
  h:Int
  px:List Px
def cmpQ (q:LQ):Bool:=q.ws.isEmpty && !q.bad
def zZJ (p:PP) (q:LQ):PP × Bool:=
 if cmpQ (pixQ q).2=true then
  (if ((p.px.length:Int)+1)=p.w*p.h then (⟨{ p.s with ims:=p.s.ims++[imOf p.w p.h (p.px++[(pixQ q).1])] },p.part,0,0,[]⟩,true) else ({ p with px:=p.px++[(pixQ q).1] },true))
 else ({ p with px:=p.px++[(pixQ q).1] },false)
def zXn (p:PP) (q:LQ) (w:Lb):PP × Bool:=
 if p.part=0 then ({ p with part:=p.part+1,s:={ p.s with bits:=(byQ q).1 } },decide (w=zYc) && cmpQ (byQ q).2)
 else if p.part=1 then
  (let a:=plQ q; let b:=plQ a.2; let c:=plQ b.2; let d:=plQ c.2
   ({ p with part:=p.part+1,s:={ p.s with c:=⟨a.1,b.1,c.1,d.1⟩ } },decide (w=zZE) && cmpQ d.2))
 else
  (let a:=numQ q 0 4294967295; let b:=numQ a.2 0 4294967295
   ({ p with part:=p.part+1,s:={ p.s with tw:=a.1,th:=b.1 } },decide (w=zXa) && cmpQ b.2))
def zZG (p:PP) (q:LQ) (w:Lb):PP × Bool:=
 if 64≤p.s.ims.length then (p,false)
 else if w=zQ0 then ({ p with w:=(sizQ q).1.1,h:=(sizQ q).1.2 },cmpQ (sizQ q).2)
 else ({ p with s:={ p.s with ims:=p.s.ims++[zQg (sizQ q).1.1 (sizQ q).1.2 (pixQ (sizQ q).2).1] } },cmpQ (pixQ (sizQ q).2).2)
def pOp (p:PP) (q:LQ) (w:Lb):PP × Bool:=
 if 4096≤p.s.ops.length then (p,false)
 else if w=zZ0 then ({ p with s:={ p.s with ops:=p.s.ops++[(zZO q).1] } },cmpQ (zZO q).2)
 else if w=zZ1 then ({ p with s:={ p.s with ops:=p.s.ops++[(zZL q).1] } },cmpQ (zZL q).2)
 else if w=sPop then ({ p with s:={ p.s with ops:=p.s.ops++[⟨3,0,0,0,0,0,0,0,0,0,false,false⟩] } },cmpQ q)
 else (p,false)
def zVa:List Lb→List Int
 | []=>[]
 | w::ws=>if okN 0 4294967295 w=true then numV w::zVa ws else []
theorem zQ3 (l:List Oq):ops l++[DV.int .i64 3,DV.int .i64 0,DV.int .i64 0,DV.int .i64 0,DV.int .i64 0,DV.int .i64 0,DV.int .i64 0,DV.int .u16 0,DV.int .i64 0,DV.int .i64 0,DV.bool false,DV.bool false]=ops (l++[⟨3,0,0,0,0,0,0,0,0,0,false,false⟩]):=by
 unfold ops
 rw [List.flatMap_append]
 rfl
theorem jZI {l:List Lb} (h:l.all (okN 0 4294967295)=true):zVa l=l.map numV:=by
 induction l with
 | nil=>rfl
 | cons w l ih=>
  simp only [List.all_cons,Bool.and_eq_true] at h
  unfold zVa
  rw [if_pos h.1,ih h.2]; rfl
theorem jYy {l m:List Lb} {x:Lb} (h:l.all (okN 0 4294967295)=true) (hx:okN 0 4294967295 x=false):zVa (l++x::m)=l.map numV:=by
 induction l with
 | nil=>show zVa (x::m)=[]; unfold zVa; rw [if_neg (by rw [hx]; decide)]
 | cons w l ih=>
  simp only [List.all_cons,Bool.and_eq_true] at h
  rw [List.cons_append,zVa,if_pos h.1,ih h.2]; rfl
def zXK (p:PP) (t:Lb):PP × Bool:=
 ({ p with s:={ p.s with ord:=p.s.ord++zVa ((zQo t).drop 1) } },((zQo t).drop 1).all (okN 0 4294967295) && decide (1 < (zQo t).length))
def zXL (p:PP) (t:Lb):PP × Bool:=
 if 0 < p.h then zZJ p ⟨zQo t,false⟩
 else
  (let q:=zZS ⟨zQo t,false⟩; let w:=zZx (zQo t)
   if p.part≤2 then zXn p q w
   else if w=zZy∧p.part=3 then zXK { p with part:=4 } t
   else if (w=zQY∨w=zQ0)∧p.part≤4 then zZG { p with part:=4 } q w
   else pOp { p with part:=5 } q w)
theorem zQi {q:LQ} (h:okQ q):okQ (pixQ q).2:=zQd (zQd (zQd (zQd (zQd h))))
theorem zQh {q:LQ} (h:okQ q):okQ (sizQ q).2:=by
 have:=zQd (zQd h (lo:=1) (hi:=16777216)) (lo:=1) (hi:=16777216)
 unfold sizQ
 simp only
 split
 ·exact this
 ·exact this
theorem image_Of_dat' (w h:Int) (l:List Px):Ans prog 108 [RV.d (DV.int .i64 w),RV.d (DV.int .i64 h),RV.d (DV.sl l.length (pxs l))] (RV.tup [imR (imOf w h l),RV.d (DV.bool (ofOk w h l.length))]):=by
 have:=jZg w h l.length (pxs l) (zJP l)
 rw [zQS] at this
 exact this.ans rfl rfl
theorem image_Solid_dat' (w h:Int) (p:Px):Ans prog 114 [RV.d (DV.int .i64 w),RV.d (DV.int .i64 h),RV.agg [DV.int .u16 p.a,DV.int .u16 p.b,DV.int .u16 p.c,DV.int .u16 p.al,DV.int .u16 p.f]] (imR (zQg w h p)):=zJR w h p.a p.b p.c p.al p.f
def ppC (p:PP) (n:Int) (i:Nat):List Cl:=[Cl.d (DV.int .i64 p.s.bits),Cl.d (DV.int .i64 p.s.c.a),Cl.d (DV.int .i64 p.s.c.b),Cl.d (DV.int .i64 p.s.c.c),Cl.d (DV.int .i64 p.s.c.d),Cl.d (DV.int .i64 p.s.tw),Cl.d (DV.int .i64 p.s.th),Cl.ref i p.s.ord.length,Cl.ref (i+1) p.s.ims.length,Cl.ref (i+2) p.s.ops.length,Cl.d (DV.int .i64 n),Cl.d (DV.int .i64 p.w),Cl.d (DV.int .i64 p.h),Cl.ref (i+3) p.px.length]
def ppE (A B:PP):Prop:=((DV.int .i64 A.s.bits=DV.int .i64 B.s.bits)∧(DV.int .i64 A.s.c.a=DV.int .i64 B.s.c.a)∧(DV.int .i64 A.s.c.b=DV.int .i64 B.s.c.b)∧(DV.int .i64 A.s.c.c=DV.int .i64 B.s.c.c)∧(DV.int .i64 A.s.c.d=DV.int .i64 B.s.c.d)∧(DV.int .i64 A.s.tw=DV.int .i64 B.s.tw)∧(DV.int .i64 A.s.th=DV.int .i64 B.s.th)∧(A.s.ord.length=B.s.ord.length)∧(A.s.ims.length=B.s.ims.length)∧(A.s.ops.length=B.s.ops.length)∧(DV.int .i64 A.part=DV.int .i64 B.part)∧(DV.int .i64 A.w=DV.int .i64 B.w)∧(DV.int .i64 A.h=DV.int .i64 B.h)∧(A.px.length=B.px.length)∧True)∧(is A.s.ord=is B.s.ord)∧(ims A.s.ims=ims B.s.ims)∧(ops A.s.ops=ops B.s.ops)∧(pxs A.px=pxs B.px)∧True
def gZ46 (xs:List AV) (bs:List Bx):Option Ret:=match xs,bs with | [AV.one (Cl.ptr 0 0)],[Bx.cells [Cl.d (DV.int _ bits),Cl.d (DV.int _ cx0),Cl.d (DV.int _ cy0),Cl.d (DV.int _ cx1),Cl.d (DV.int _ cy1),Cl.d (DV.int _ tw),Cl.d (DV.int _ th),Cl.ref 1 on,Cl.ref 2 mn,Cl.ref 3 qn,Cl.d (DV.int _ part),Cl.d (DV.int _ w),Cl.d (DV.int _ h),Cl.ref 4 ln],Bx.row _ _ oxs,Bx.row _ _ mxs,Bx.row _ _ qxs,Bx.row _ _ lxs]=>some ⟨AV.one (Cl.d (dQ (decide (h > (0:Int))))),[bC [cJ bits,cJ cx0,cJ cy0,cJ cx1,cJ cy1,cJ tw,cJ th,Cl.ref 1 on,Cl.ref 2 mn,Cl.ref 3 qn,cJ part,cJ w,cJ h,Cl.ref 4 ln],Bx.row 3 1 oxs,Bx.row 43 28 mxs,Bx.row 51 12 qxs,Bx.row 37 5 lxs],false⟩ | _,_=>none
def jZi:Gam where
 pure:=fun f xs=>
  if f=112 then gZ34 xs else
  if f=104 then gZ45 xs else
  if f=108 then (match xs with | [.d (.int _ w),.d (.int _ h),.d (.sl n xs)]=>let a:=(imOf w h (zQc xs)); let b:=a.p0; let c:=a.p1; let e:=a.p2; let f:=a.p3; let g:=a.p4; some (RV.tup [RV.agg [DV.int .i64 a.w,DV.int .i64 a.h,DV.bool a.so,DV.int .u16 a.c.a,DV.int .u16 a.c.b,DV.int .u16 a.c.c,DV.int .u16 a.c.al,DV.int .u16 a.c.f,DV.int .i64 b.w,DV.int .i64 b.h,DV.int .i64 b.s,DV.sl b.n b.xs,DV.int .i64 c.w,DV.int .i64 c.h,DV.int .i64 c.s,DV.sl c.n c.xs,DV.int .i64 e.w,DV.int .i64 e.h,DV.int .i64 e.s,DV.sl e.n e.xs,DV.int .i64 f.w,DV.int .i64 f.h,DV.int .i64 f.s,DV.sl f.n f.xs,DV.int .i64 g.w,DV.int .i64 g.h,DV.int .i64 g.s,DV.sl g.n g.xs],RV.d (DV.bool (ofOk w h n))]) | _=>none) else
  if f=114 then gZ17 xs else
  none
 modes:=fun f=>
  if f=72 then some ([true],0,2) else
  if f=74 then some ([false],2,0) else
  if f=109 then some ([false],2,0) else
  if f=110 then some ([false],2,0) else
  if f=111 then some ([false],2,0) else
  if f=106 then some ([false],2,0) else
  if f=113 then some ([false],2,0) else
  if f=115 then some ([false],2,0) else
  if f=116 then some ([false],2,0) else
  if f=107 then some ([false],2,0) else
  if f=37 then some ([false],5,0) else
  if f=73 then some ([false,false],1,4) else
  if f=75 then some ([false,false,true],1,4) else
  if f=77 then some ([false,false,true],1,4) else
  if f=78 then some ([false,false,true],1,4) else
  if f=76 then some ([false,true],1,4) else
  none
 proc:=fun f xs bs=>
  if f=72 then (match xs,bs with | [AV.one (Cl.d (DV.str t))],[]=>some ⟨aPz,[bC [Cl.clo 105 [Cap.ptr 1 0],Cl.d (dQ (⟨zQo (ofS t),false⟩:LQ).bad)],bC [Cl.d (dS (⟨zQo (ofS t),false⟩:LQ).ws.length (strs (⟨zQo (ofS t),false⟩:LQ).ws))]],false⟩ | _,_=>none) else
  if f=74 then gZ35 xs bs else
  if f=109 then gZ37 xs bs else
  if f=110 then gZ38 xs bs else
  if f=111 then gZ39 xs bs else
  if f=106 then (match xs,bs with | [AV.one (Cl.ptr 0 0)],[Bx.cells [Cl.clo 105 [Cap.ptr 1 0],Cl.d (DV.bool bad)],Bx.cells [Cl.d (DV.sl wn wxs)]]=>let a:=(pixQ (⟨zQb wxs,bad⟩:LQ)); some ⟨AV.agg [Cl.d (DV.int .u16 a.1.a),Cl.d (DV.int .u16 a.1.b),Cl.d (DV.int .u16 a.1.c),Cl.d (DV.int .u16 a.1.al),Cl.d (DV.int .u16 a.1.f)],[Bx.cells [Cl.clo 105 [Cap.ptr 1 0],Cl.d (DV.bool a.2.bad)],Bx.cells [Cl.d (DV.sl a.2.ws.length (strs a.2.ws))]],false⟩ | _,_=>none) else
  if f=113 then (match xs,bs with | [AV.one (Cl.ptr 0 0)],[Bx.cells [Cl.clo 105 [Cap.ptr 1 0],Cl.d (DV.bool bad)],Bx.cells [Cl.d (DV.sl wn wxs)]]=>let a:=(sizQ (⟨zQb wxs,bad⟩:LQ)); some ⟨AV.tup [AV.one (Cl.d (DV.int .i64 a.1.1)),AV.one (Cl.d (DV.int .i64 a.1.2))],[Bx.cells [Cl.clo 105 [Cap.ptr 1 0],Cl.d (DV.bool a.2.bad)],Bx.cells [Cl.d (DV.sl a.2.ws.length (strs a.2.ws))]],false⟩ | _,_=>none) else
  if f=115 then (match xs,bs with | [AV.one (Cl.ptr 0 0)],[Bx.cells [Cl.clo 105 [Cap.ptr 1 0],Cl.d (DV.bool bad)],Bx.cells [Cl.d (DV.sl wn wxs)]]=>let a:=(zZO (⟨zQb wxs,bad⟩:LQ)); some ⟨AV.agg [Cl.d (DV.int .i64 a.1.kind),Cl.d (DV.int .i64 a.1.image),Cl.d (DV.int .i64 a.1.x),Cl.d (DV.int .i64 a.1.y),Cl.d (DV.int .i64 a.1.mask),Cl.d (DV.int .i64 a.1.mx),Cl.d (DV.int .i64 a.1.my),Cl.d (DV.int .u16 a.1.opac),Cl.d (DV.int .i64 a.1.oper),Cl.d (DV.int .i64 a.1.mode),Cl.d (DV.bool a.1.iso),Cl.d (DV.bool a.1.kno)],[Bx.cells [Cl.clo 105 [Cap.ptr 1 0],Cl.d (DV.bool a.2.bad)],Bx.cells [Cl.d (DV.sl a.2.ws.length (strs a.2.ws))]],false⟩ | _,_=>none) else
  if f=116 then (match xs,bs with | [AV.one (Cl.ptr 0 0)],[Bx.cells [Cl.clo 105 [Cap.ptr 1 0],Cl.d (DV.bool bad)],Bx.cells [Cl.d (DV.sl wn wxs)]]=>let a:=(zZL (⟨zQb wxs,bad⟩:LQ)); some ⟨AV.agg [Cl.d (DV.int .i64 a.1.kind),Cl.d (DV.int .i64 a.1.image),Cl.d (DV.int .i64 a.1.x),Cl.d (DV.int .i64 a.1.y),Cl.d (DV.int .i64 a.1.mask),Cl.d (DV.int .i64 a.1.mx),Cl.d (DV.int .i64 a.1.my),Cl.d (DV.int .u16 a.1.opac),Cl.d (DV.int .i64 a.1.oper),Cl.d (DV.int .i64 a.1.mode),Cl.d (DV.bool a.1.iso),Cl.d (DV.bool a.1.kno)],[Bx.cells [Cl.clo 105 [Cap.ptr 1 0],Cl.d (DV.bool a.2.bad)],Bx.cells [Cl.d (DV.sl a.2.ws.length (strs a.2.ws))]],false⟩ | _,_=>none) else
  if f=107 then gZ44 xs bs else
  if f=37 then gZ46 xs bs else
  if f=73 then (match xs,bs with | [AV.one (Cl.ptr 0 0),AV.one (Cl.ptr 1 0)],[Bx.cells [Cl.d (DV.int _ bits),Cl.d (DV.int _ cx0),Cl.d (DV.int _ cy0),Cl.d (DV.int _ cx1),Cl.d (DV.int _ cy1),Cl.d (DV.int _ tw),Cl.d (DV.int _ th),Cl.ref 2 on,Cl.ref 3 mn,Cl.ref 4 qn,Cl.d (DV.int _ part),Cl.d (DV.int _ w),Cl.d (DV.int _ h),Cl.ref 5 ln],Bx.cells [Cl.clo 105 [Cap.ptr 6 0],Cl.d (DV.bool bad)],Bx.row _ _ oxs,Bx.row _ _ mxs,Bx.row _ _ qxs,Bx.row _ _ lxs,Bx.cells [Cl.d (DV.sl wn wxs)]]=>let a:=(zZJ (⟨⟨bits,⟨cx0,cy0,cx1,cy1⟩,tw,th,ints oxs,zQR mxs,zQK qxs⟩,part,w,h,zQc lxs⟩:PP) (⟨zQb wxs,bad⟩:LQ)); some ⟨AV.one (Cl.d (DV.bool a.2)),[Bx.cells (ppC a.1 a.1.part 1),Bx.row 3 1 (is a.1.s.ord),Bx.row 43 28 (ims a.1.s.ims),Bx.row 51 12 (ops a.1.s.ops),Bx.row 37 5 (pxs a.1.px)],false⟩ | _,_=>none) else
  if f=75 then (match xs,bs with | [AV.one (Cl.ptr 0 0),AV.one (Cl.ptr 1 0),AV.one (Cl.d (DV.str t))],[Bx.cells [Cl.d (DV.int _ bits),Cl.d (DV.int _ cx0),Cl.d (DV.int _ cy0),Cl.d (DV.int _ cx1),Cl.d (DV.int _ cy1),Cl.d (DV.int _ tw),Cl.d (DV.int _ th),Cl.ref 2 on,Cl.ref 3 mn,Cl.ref 4 qn,Cl.d (DV.int _ part),Cl.d (DV.int _ w),Cl.d (DV.int _ h),Cl.ref 5 ln],Bx.cells [Cl.clo 105 [Cap.ptr 6 0],Cl.d (DV.bool bad)],Bx.row _ _ oxs,Bx.row _ _ mxs,Bx.row _ _ qxs,Bx.row _ _ lxs,Bx.cells [Cl.d (DV.sl wn wxs)]]=>let a:=(zXn (⟨⟨bits,⟨cx0,cy0,cx1,cy1⟩,tw,th,ints oxs,zQR mxs,zQK qxs⟩,part,w,h,zQc lxs⟩:PP) (⟨zQb wxs,bad⟩:LQ) (ofS t)); some ⟨AV.one (Cl.d (DV.bool a.2)),[Bx.cells (ppC a.1 a.1.part 1),Bx.row 3 1 (is a.1.s.ord),Bx.row 43 28 (ims a.1.s.ims),Bx.row 51 12 (ops a.1.s.ops),Bx.row 37 5 (pxs a.1.px)],false⟩ | _,_=>none) else
  if f=77 then (match xs,bs with | [AV.one (Cl.ptr 0 0),AV.one (Cl.ptr 1 0),AV.one (Cl.d (DV.str t))],[Bx.cells [Cl.d (DV.int _ bits),Cl.d (DV.int _ cx0),Cl.d (DV.int _ cy0),Cl.d (DV.int _ cx1),Cl.d (DV.int _ cy1),Cl.d (DV.int _ tw),Cl.d (DV.int _ th),Cl.ref 2 on,Cl.ref 3 mn,Cl.ref 4 qn,Cl.d (DV.int _ part),Cl.d (DV.int _ w),Cl.d (DV.int _ h),Cl.ref 5 ln],Bx.cells [Cl.clo 105 [Cap.ptr 6 0],Cl.d (DV.bool bad)],Bx.row _ _ oxs,Bx.row _ _ mxs,Bx.row _ _ qxs,Bx.row _ _ lxs,Bx.cells [Cl.d (DV.sl wn wxs)]]=>let a:=(zZG (⟨⟨bits,⟨cx0,cy0,cx1,cy1⟩,tw,th,ints oxs,zQR mxs,zQK qxs⟩,part,w,h,zQc lxs⟩:PP) (⟨zQb wxs,bad⟩:LQ) (ofS t)); some ⟨AV.one (Cl.d (DV.bool a.2)),[Bx.cells (ppC a.1 a.1.part 1),Bx.row 3 1 (is a.1.s.ord),Bx.row 43 28 (ims a.1.s.ims),Bx.row 51 12 (ops a.1.s.ops),Bx.row 37 5 (pxs a.1.px)],false⟩ | _,_=>none) else
  if f=78 then (match xs,bs with | [AV.one (Cl.ptr 0 0),AV.one (Cl.ptr 1 0),AV.one (Cl.d (DV.str t))],[Bx.cells [Cl.d (DV.int _ bits),Cl.d (DV.int _ cx0),Cl.d (DV.int _ cy0),Cl.d (DV.int _ cx1),Cl.d (DV.int _ cy1),Cl.d (DV.int _ tw),Cl.d (DV.int _ th),Cl.ref 2 on,Cl.ref 3 mn,Cl.ref 4 qn,Cl.d (DV.int _ part),Cl.d (DV.int _ w),Cl.d (DV.int _ h),Cl.ref 5 ln],Bx.cells [Cl.clo 105 [Cap.ptr 6 0],Cl.d (DV.bool bad)],Bx.row _ _ oxs,Bx.row _ _ mxs,Bx.row _ _ qxs,Bx.row _ _ lxs,Bx.cells [Cl.d (DV.sl wn wxs)]]=>let a:=(pOp (⟨⟨bits,⟨cx0,cy0,cx1,cy1⟩,tw,th,ints oxs,zQR mxs,zQK qxs⟩,part,w,h,zQc lxs⟩:PP) (⟨zQb wxs,bad⟩:LQ) (ofS t)); some ⟨AV.one (Cl.d (DV.bool a.2)),[Bx.cells (ppC a.1 a.1.part 1),Bx.row 3 1 (is a.1.s.ord),Bx.row 43 28 (ims a.1.s.ims),Bx.row 51 12 (ops a.1.s.ops),Bx.row 37 5 (pxs a.1.px)],false⟩ | _,_=>none) else
  if f=76 then (match xs,bs with | [AV.one (Cl.ptr 0 0),AV.one (Cl.d (DV.str t))],[Bx.cells [Cl.d (DV.int _ bits),Cl.d (DV.int _ cx0),Cl.d (DV.int _ cy0),Cl.d (DV.int _ cx1),Cl.d (DV.int _ cy1),Cl.d (DV.int _ tw),Cl.d (DV.int _ th),Cl.ref 1 on,Cl.ref 2 mn,Cl.ref 3 qn,Cl.d (DV.int _ part),Cl.d (DV.int _ w),Cl.d (DV.int _ h),Cl.ref 4 ln],Bx.row _ _ oxs,Bx.row _ _ mxs,Bx.row _ _ qxs,Bx.row _ _ lxs]=>let a:=(zXK (⟨⟨bits,⟨cx0,cy0,cx1,cy1⟩,tw,th,ints oxs,zQR mxs,zQK qxs⟩,part,w,h,zQc lxs⟩:PP) (ofS t)); some ⟨AV.one (Cl.d (DV.bool a.2)),[Bx.cells (ppC a.1 a.1.part 1),Bx.row 3 1 (is a.1.s.ord),Bx.row 43 28 (ims a.1.s.ims),Bx.row 51 12 (ops a.1.s.ops),Bx.row 37 5 (pxs a.1.px)],false⟩ | _,_=>none) else
  none
 iter:=fun f cs=>
  none
theorem zJA (p:PP) (q:LQ) (hq:okQ q) (hx:p.px.length≤68719476736) (hi:p.s.ims.length≤68719476736) (hp:p.s.ops.length≤68719476736) (hn:p.s.ord.length≤68719476736) (hf:0≤p.w*p.h∧p.w*p.h≤16777216) (hd:0≤p.part∧p.part≤5):AnsG prog 73 1 [aPz,AV.one (Cl.ptr 1 0)] [Bx.cells (ppC p p.part 2),bC [Cl.clo 105 [Cap.ptr 6 0],Cl.d (dQ q.bad)],Bx.row 3 1 (is p.s.ord),Bx.row 43 28 (ims p.s.ims),Bx.row 51 12 (ops p.s.ops),Bx.row 37 5 (pxs p.px),bC [Cl.d (dS q.ws.length (strs q.ws))]] ⟨AV.one (Cl.d (dQ ((zZJ p q).2))),[Bx.cells (ppC ((zZJ p q).1) (((zZJ p q).1).part) 1),Bx.row 3 1 (is ((zZJ p q).1).s.ord),Bx.row 43 28 (ims ((zZJ p q).1).s.ims),Bx.row 51 12 (ops ((zZJ p q).1).s.ops),Bx.row 37 5 (pxs ((zZJ p q).1).px)],false⟩:=
 AnsG.shiftP 900 (nL rfl) <| zQy (Γ:=jZi) Ann.leaf zQs Tryz.func73 rfl (nL rfl) rfl fun hwf hbx=>by
  refine Eq.mpr (by kernel_rfl:_=(let i:=(((p.px.length+1:Nat):Int)==(wK (p.w*p.h))); let b:=(pixQ (reQ q)); let d:=(zZU (reQ b.2)); let a:=(zZJ p q); let e:=(Cl.d (dQ a.2)); let c:=(reQ b.2); let j:=(!(c.ws.isEmpty && !c.bad)); let f:=[Bx.cells (ppC a.1 a.1.part 1),Bx.row 3 1 (is a.1.s.ord),Bx.row 43 28 (ims a.1.s.ims),Bx.row 51 12 (ops a.1.s.ops),Bx.row 37 5 (pxs a.1.px)]; let g:=([dK b.1.a,dK b.1.b,dK b.1.c,dK b.1.al,dK b.1.f]); let k:=[bC [Cl.clo 105 [Cap.ptr 1 0],Cl.d (dQ b.2.bad)],bC [Cl.d (dS b.2.ws.length (strs b.2.ws))]]; let l:=(dJ p.s.bits=dJ a.1.s.bits); let m:=(dJ p.s.c.a=dJ a.1.s.c.a); let n:=(dJ p.s.c.b=dJ a.1.s.c.b); let o:=(dJ p.s.c.c=dJ a.1.s.c.c); let r:=(dJ p.s.c.d=dJ a.1.s.c.d); let s:=(dJ p.s.tw=dJ a.1.s.tw); let t:=(dJ p.s.th=dJ a.1.s.th); let u:=(p.s.ord.length=a.1.s.ord.length); let v:=(p.s.ops.length=a.1.s.ops.length); let w:=(dJ p.part=dJ a.1.part); let x:=(is p.s.ord=is a.1.s.ord); let y:=(ops p.s.ops=ops a.1.s.ops); let z:=((l∧m∧n∧o∧r∧s∧t∧u∧(p.s.ims.length=a.1.s.ims.length)∧v∧w∧(dJ p.w=dJ a.1.w)∧(dJ p.h=dJ a.1.h)∧(p.px.length+1=a.1.px.length)∧True)∧x∧(ims p.s.ims=ims a.1.s.ims)∧y∧((pxs p.px)++g=pxs a.1.px)∧True); let h:=((pxs p.px)++g); let A:=(Im.ds (imOf p.w p.h (zQc h))); let B:=((dQ true=dQ a.2)∧True); tU7 ((AnsG prog 106 2 [aPz] [bC [Cl.clo 105 [Cap.ptr 1 0],Cl.d (dQ q.bad)],bC [Cl.d (dS q.ws.length (strs q.ws))]] ⟨AV.agg [cK b.1.a,cK b.1.b,cK b.1.c,cK b.1.al,cK b.1.f],k,false⟩)∧True∧(zZl 5 10 p.px.length 1 (pxs p.px) g)∧tU3 ((true=true)∧True∧(AnsG prog 107 2 [aPz] k ⟨AV.one (Cl.d (dQ (c.ws.isEmpty && !c.bad))),[bC [Cl.clo 105 [Cap.ptr 1 0],Cl.d (dQ d.bad)],bC [Cl.d (dS d.ws.length (strs d.ws))]],false⟩)∧True∧((j=true→True∧(((dQ false=dQ a.2)∧True)∧z)∧zQm ⟨AV.one e,f,false⟩)∧(j=false→tU4 ((p.px.length+1≤maxLen)∧tU2 (tU8 ((true=true)∧((i=true→tU4 (tU8 ((Ans prog 108 [rJ p.w,rJ p.h,RV.d (dS (p.px.length+1) h)] (RV.tup [(imR (imOf p.w p.h (zQc h))),RV.d (dQ (ofOk p.w p.h (p.px.length+1)))]))∧tU6 ((true=true)∧tU8 ((zZl 28 272 p.s.ims.length 1 (ims p.s.ims) A)∧tU4 ((true=true)∧tU5 (tU8 ((B∧((l∧m∧n∧o∧r∧s∧t∧u∧(p.s.ims.length+1=a.1.s.ims.length)∧v∧w∧(dJ 0=dJ a.1.w)∧(dJ 0=dJ a.1.h)∧(0=a.1.px.length)∧True)∧x∧((ims p.s.ims)++A=ims a.1.s.ims)∧y∧([]=pxs a.1.px)∧True))∧zQm ⟨AV.one e,f,false⟩))))))))∧(i=false→True∧(B∧z)∧zQm ⟨AV.one e,f,false⟩))))))))))) ?_
  delta dJ dK dQ cK wK dS rJ aPz bC
  simp only [sS,ppC,ppE]
  simp only [zZ2,zQO,zQ2,zQU,zQS,zQw,zQN]
  clear hwf hbx
  have aI:=image_Of_dat' p.w p.h (p.px++[(pixQ q).1])
  have pl:(p.px++[(pixQ q).1]).length=p.px.length+1:=by simp
  have pe:pxs p.px++[DV.int .u16 (pixQ q).1.a,DV.int .u16 (pixQ q).1.b,DV.int .u16 (pixQ q).1.c,DV.int .u16 (pixQ q).1.al,DV.int .u16 (pixQ q).1.f]=pxs (p.px++[(pixQ q).1]):=by simp [pxs,Px.ds]
  have w1:IntKind.wrap .i64 (p.w*p.h)=p.w*p.h:=IntWalk.i64_in _ ⟨by omega,by omega⟩
  simp only [pe,zQS,w1]
  rw [pl] at aI
  refine ⟨(by (first | exact zQt _ (by repeat (first | assumption | apply zQd | apply zQf | apply zQi | apply zQh)) | exact zQr _ (by repeat (first | assumption | apply zQd | apply zQf | apply zQi | apply zQh)) | exact zQp _ (by repeat (first | assumption | apply zQd | apply zQf | apply zQi | apply zQh)) | exact zQq _ | exact zQx _ (by repeat (first | assumption | apply zQd | apply zQf | apply zQi | apply zQh)) | exact zQz _ (by repeat (first | assumption | apply zQd | apply zQf | apply zQi | apply zQh)) | exact zQB _ (by repeat (first | assumption | apply zQd | apply zQf | apply zQi | apply zQh)) | exact zQA _ (by repeat (first | assumption | apply zQd | apply zQf | apply zQi | apply zQh)))),⟨zZs _,rfl,by unfold maxLen; omega,by omega⟩,(by (first | exact zQt _ (by repeat (first | assumption | apply zQd | apply zQf | apply zQi | apply zQh)) | exact zQr _ (by repeat (first | assumption | apply zQd | apply zQf | apply zQi | apply zQh)) | exact zQp _ (by repeat (first | assumption | apply zQd | apply zQf | apply zQi | apply zQh)) | exact zQq _ | exact zQx _ (by repeat (first | assumption | apply zQd | apply zQf | apply zQi | apply zQh)) | exact zQz _ (by repeat (first | assumption | apply zQd | apply zQf | apply zQi | apply zQh)) | exact zQB _ (by repeat (first | assumption | apply zQd | apply zQf | apply zQi | apply zQh)) | exact zQA _ (by repeat (first | assumption | apply zQd | apply zQf | apply zQi | apply zQh)))),fun h=>?_,fun h=>⟨by unfold maxLen; omega,fun h2=>⟨aI,⟨zZC _,Im.ds_len _,by unfold maxLen; omega,by omega⟩,?_⟩,fun h2=>?_⟩⟩
  ·have e:zZJ p q=({ p with px:=p.px++[(pixQ q).1] },false):=by unfold zZJ cmpQ; rw [if_neg (by rw [h]; decide)]
   rw [e]; ((repeat' apply And.intro) <;> first | rfl | trivial | (simp only [List.length_append,List.length_cons,List.length_nil]; done) | (simp [ims]; done) | (simp [ops]; done) | (simp [ops,Oq.cells]; done) | exact zQ3 _ | (simp [pxs]; done))
  ·have h2:(p.px.length:Int)+1=p.w*p.h:=by simpa using h2
   have e:zZJ p q=(⟨{ p.s with ims:=p.s.ims++[imOf p.w p.h (p.px++[(pixQ q).1])] },p.part,0,0,[]⟩,true):=by unfold zZJ cmpQ; rw [if_pos h,if_pos h2]
   rw [e]; ((repeat' apply And.intro) <;> first | rfl | trivial | (simp only [List.length_append,List.length_cons,List.length_nil]; done) | (simp [ims]; done) | (simp [ops]; done) | (simp [ops,Oq.cells]; done) | exact zQ3 _ | (simp [pxs]; done))
  ·have h2:¬(p.px.length:Int)+1=p.w*p.h:=by simpa using h2
   have e:zZJ p q=({ p with px:=p.px++[(pixQ q).1] },true):=by unfold zZJ cmpQ; rw [if_pos h,if_neg h2]
   rw [e]; ((repeat' apply And.intro) <;> first | rfl | trivial | (simp only [List.length_append,List.length_cons,List.length_nil]; done) | (simp [ims]; done) | (simp [ops]; done) | (simp [ops,Oq.cells]; done) | exact zQ3 _ | (simp [pxs]; done))
theorem zKl (p:PP) (q:LQ) (w:Lb) (hq:okQ q) (hx:p.px.length≤68719476736) (hi:p.s.ims.length≤68719476736) (hp:p.s.ops.length≤68719476736) (hn:p.s.ord.length≤68719476736) (hf:0≤p.w*p.h∧p.w*p.h≤16777216) (hd:0≤p.part∧p.part≤5):AnsG prog 75 1 [aPz,AV.one (Cl.ptr 1 0),AV.one (Cl.d (DV.str (toS w)))] [Bx.cells (ppC p p.part 2),bC [Cl.clo 105 [Cap.ptr 6 0],Cl.d (dQ q.bad)],Bx.row 3 1 (is p.s.ord),Bx.row 43 28 (ims p.s.ims),Bx.row 51 12 (ops p.s.ops),Bx.row 37 5 (pxs p.px),bC [Cl.d (dS q.ws.length (strs q.ws))]] ⟨AV.one (Cl.d (dQ ((zXn p q (ofS (toS w))).2))),[Bx.cells (ppC ((zXn p q (ofS (toS w))).1) (((zXn p q (ofS (toS w))).1).part) 1),Bx.row 3 1 (is ((zXn p q (ofS (toS w))).1).s.ord),Bx.row 43 28 (ims ((zXn p q (ofS (toS w))).1).s.ims),Bx.row 51 12 (ops ((zXn p q (ofS (toS w))).1).s.ops),Bx.row 37 5 (pxs ((zXn p q (ofS (toS w))).1).px)],false⟩:=
 zQy (Γ:=jZi) Ann.leaf zQs Tryz.func75 rfl (nL rfl) rfl fun hwf hbx=>by
  refine Eq.mpr (by kernel_rfl:_=(let f:=(numQ (reQ q) 0 255); let b:=[Cap.ptr 1 0]; let a:=(zXn p q (ofS (toS w))).1; let e:=(reQ f.2); let g:=(numQ (reQ q) 0 4294967295); let m:=(zXn p q (ofS (toS w))).2; let h:=[Bx.cells (ppC a a.part 1),Bx.row 3 1 (is a.s.ord),Bx.row 43 28 (ims a.s.ims),Bx.row 51 12 (ops a.s.ops),Bx.row 37 5 (pxs a.px)]; let c:=(numQ (reQ g.2) 0 4294967295); let n:=(zZU (reQ c.2)); let F:=((reQ c.2).ws.isEmpty && !(reQ c.2).bad); let i:=(Cl.d (dQ m)); let j:=(numQ (reQ q) (-2147483648) 2147483647); let k:=(numQ (reQ j.2) (-2147483648) 2147483647); let l:=(numQ (reQ k.2) (-2147483648) 2147483647); let d:=(numQ (reQ l.2) (-2147483648) 2147483647); let o:=(zZU (reQ d.2)); let G:=((reQ d.2).ws.isEmpty && !(reQ d.2).bad); let r:=[bC [Cl.clo 105 b,Cl.d (dQ q.bad)],bC [Cl.d (dS q.ws.length (strs q.ws))]]; let H:=[bC [Cl.clo 105 b,Cl.d (dQ f.2.bad)],bC [Cl.d (dS f.2.ws.length (strs f.2.ws))]]; let I:=(dJ p.s.c.a=dJ a.s.c.a); let J:=(dJ p.s.c.b=dJ a.s.c.b); let K:=(dJ p.s.c.c=dJ a.s.c.c); let L:=(dJ p.s.c.d=dJ a.s.c.d); let M:=(dJ p.s.tw=dJ a.s.tw); let N:=(dJ p.s.th=dJ a.s.th); let s:=(p.s.ord.length=a.s.ord.length); let t:=(p.s.ims.length=a.s.ims.length); let u:=(p.s.ops.length=a.s.ops.length); let v:=(dJ (wK (p.part+1))=dJ a.part); let x:=(dJ p.w=dJ a.w); let y:=(dJ p.h=dJ a.h); let z:=(p.px.length=a.px.length); let A:=(is p.s.ord=is a.s.ord); let B:=(ims p.s.ims=ims a.s.ims); let C:=(ops p.s.ops=ops a.s.ops); let D:=(pxs p.px=pxs a.px); let O:=(((dJ f.1=dJ a.s.bits)∧I∧J∧K∧L∧M∧N∧s∧t∧u∧v∧x∧y∧z∧True)∧A∧B∧C∧D∧True); let E:=((dQ false=dQ m)∧True); let P:=[bC [Cl.clo 105 b,Cl.d (dQ j.2.bad)],bC [Cl.d (dS j.2.ws.length (strs j.2.ws))]]; let Q:=[bC [Cl.clo 105 b,Cl.d (dQ k.2.bad)],bC [Cl.d (dS k.2.ws.length (strs k.2.ws))]]; let R:=[bC [Cl.clo 105 b,Cl.d (dQ l.2.bad)],bC [Cl.d (dS l.2.ws.length (strs l.2.ws))]]; let S:=[bC [Cl.clo 105 b,Cl.d (dQ d.2.bad)],bC [Cl.d (dS d.2.ws.length (strs d.2.ws))]]; let T:=(dJ p.s.bits=dJ a.s.bits); let U:=((T∧(dJ j.1=dJ a.s.c.a)∧(dJ k.1=dJ a.s.c.b)∧(dJ l.1=dJ a.s.c.c)∧(dJ d.1=dJ a.s.c.d)∧M∧N∧s∧t∧u∧v∧x∧y∧z∧True)∧A∧B∧C∧D∧True); let V:=[bC [Cl.clo 105 b,Cl.d (dQ g.2.bad)],bC [Cl.d (dS g.2.ws.length (strs g.2.ws))]]; let W:=[bC [Cl.clo 105 b,Cl.d (dQ c.2.bad)],bC [Cl.d (dS c.2.ws.length (strs c.2.ws))]]; let X:=((T∧I∧J∧K∧L∧(dJ g.1=dJ a.s.tw)∧(dJ c.1=dJ a.s.th)∧s∧t∧u∧v∧x∧y∧z∧True)∧A∧B∧C∧D∧True); True∧tU8 (tU8 (((p.part==0)=true→tU2 ((AnsG prog 109 2 [aPz] r ⟨aJ f.1,H,false⟩)∧tU7 ((((toS w).toList==(⟨#[98,105,116,115]⟩:ByteArray).toList)=true→True∧(AnsG prog 107 2 [aPz] H ⟨AV.one (Cl.d (dQ (e.ws.isEmpty && !e.bad))),[bC [Cl.clo 105 b,Cl.d (dQ (zZU e).bad)],bC [Cl.d (dS (zZU e).ws.length (strs (zZU e).ws))]],false⟩)∧tU2 ((((dQ (e.ws.isEmpty && !e.bad)=dQ m)∧True)∧O)∧zQm ⟨AV.one i,h,false⟩))∧(((toS w).toList==(⟨#[98,105,116,115]⟩:ByteArray).toList)=(!true)→tU2 ((E∧O)∧zQm ⟨AV.one i,h,false⟩)))))∧((p.part==0)=false→tU2 (((p.part==1)=true→tU2 ((AnsG prog 110 2 [aPz] r ⟨aJ j.1,P,false⟩)∧True∧(AnsG prog 110 2 [aPz] P ⟨aJ k.1,Q,false⟩)∧True∧(AnsG prog 110 2 [aPz] Q ⟨aJ l.1,R,false⟩)∧True∧(AnsG prog 110 2 [aPz] R ⟨aJ d.1,S,false⟩)∧tU8 ((((toS w).toList==(⟨#[99,97,110,118,97,115]⟩:ByteArray).toList)=true→True∧(AnsG prog 107 2 [aPz] S ⟨AV.one (Cl.d (dQ G)),[bC [Cl.clo 105 b,Cl.d (dQ o.bad)],bC [Cl.d (dS o.ws.length (strs o.ws))]],false⟩)∧tU2 ((((dQ G=dQ m)∧True)∧U)∧zQm ⟨AV.one i,h,false⟩))∧(((toS w).toList==(⟨#[99,97,110,118,97,115]⟩:ByteArray).toList)=(!true)→tU2 ((E∧U)∧zQm ⟨AV.one i,h,false⟩)))))∧((p.part==1)=false→tU3 ((AnsG prog 111 2 [aPz] r ⟨aJ g.1,V,false⟩)∧True∧(AnsG prog 111 2 [aPz] V ⟨aJ c.1,W,false⟩)∧tU3 (tU8 ((((toS w).toList==(⟨#[116,105,108,101,115]⟩:ByteArray).toList)=true→True∧(AnsG prog 107 2 [aPz] W ⟨AV.one (Cl.d (dQ F)),[bC [Cl.clo 105 b,Cl.d (dQ n.bad)],bC [Cl.d (dS n.ws.length (strs n.ws))]],false⟩)∧tU2 ((((dQ F=dQ m)∧True)∧X)∧zQm ⟨AV.one i,h,false⟩))∧(((toS w).toList==(⟨#[116,105,108,101,115]⟩:ByteArray).toList)=(!true)→tU2 ((E∧X)∧zQm ⟨AV.one i,h,false⟩)))))))))))) ?_
  delta dJ dQ wK dS aJ aPz bC
  simp only [sS,ppC,ppE]
  simp only [zZ2,zQO,zQ2,zQU,zQS,zQw,zQN]
  clear hwf hbx
  have lb:(⟨#[98,105,116,115]⟩:ByteArray)=toS zYc:=rfl
  have lc:(⟨#[99,97,110,118,97,115]⟩:ByteArray)=toS zZE:=rfl
  have lt:(⟨#[116,105,108,101,115]⟩:ByteArray)=toS zXa:=rfl
  have li:(⟨#[105,109,97,103,101]⟩:ByteArray)=toS zQ0:=rfl
  have ld:(⟨#[100,114,97,119]⟩:ByteArray)=toS zZ0:=rfl
  have lu:(⟨#[112,117,115,104]⟩:ByteArray)=toS zZ1:=rfl
  have lo:(⟨#[112,111,112]⟩:ByteArray)=toS sPop:=rfl
  have lr:(⟨#[111,114,100,101,114]⟩:ByteArray)=toS zZy:=rfl
  have ls:(⟨#[115,111,108,105,100]⟩:ByteArray)=toS zQY:=rfl
  have w1:IntKind.wrap .i64 (p.part+1)=p.part+1:=IntWalk.i64_in _ ⟨by omega,by omega⟩
  simp only [lb,lc,lt,zXj,decide_eq_true_eq,decide_eq_false_iff_not,w1,beq_iff_eq,beq_eq_false_iff_ne]
  refine ⟨fun h1=>⟨(by (first | exact zQt _ (by repeat (first | assumption | apply zQd | apply zQf | apply zQi | apply zQh)) | exact zQr _ (by repeat (first | assumption | apply zQd | apply zQf | apply zQi | apply zQh)) | exact zQp _ (by repeat (first | assumption | apply zQd | apply zQf | apply zQi | apply zQh)) | exact zQq _ | exact zQx _ (by repeat (first | assumption | apply zQd | apply zQf | apply zQi | apply zQh)) | exact zQz _ (by repeat (first | assumption | apply zQd | apply zQf | apply zQi | apply zQh)) | exact zQB _ (by repeat (first | assumption | apply zQd | apply zQf | apply zQi | apply zQh)) | exact zQA _ (by repeat (first | assumption | apply zQd | apply zQf | apply zQi | apply zQh)))),fun h2=>⟨(by (first | exact zQt _ (by repeat (first | assumption | apply zQd | apply zQf | apply zQi | apply zQh)) | exact zQr _ (by repeat (first | assumption | apply zQd | apply zQf | apply zQi | apply zQh)) | exact zQp _ (by repeat (first | assumption | apply zQd | apply zQf | apply zQi | apply zQh)) | exact zQq _ | exact zQx _ (by repeat (first | assumption | apply zQd | apply zQf | apply zQi | apply zQh)) | exact zQz _ (by repeat (first | assumption | apply zQd | apply zQf | apply zQi | apply zQh)) | exact zQB _ (by repeat (first | assumption | apply zQd | apply zQf | apply zQi | apply zQh)) | exact zQA _ (by repeat (first | assumption | apply zQd | apply zQf | apply zQi | apply zQh)))),?_⟩,fun h2=>?_⟩,fun h1=>⟨fun h3=>⟨(by (first | exact zQt _ (by repeat (first | assumption | apply zQd | apply zQf | apply zQi | apply zQh)) | exact zQr _ (by repeat (first | assumption | apply zQd | apply zQf | apply zQi | apply zQh)) | exact zQp _ (by repeat (first | assumption | apply zQd | apply zQf | apply zQi | apply zQh)) | exact zQq _ | exact zQx _ (by repeat (first | assumption | apply zQd | apply zQf | apply zQi | apply zQh)) | exact zQz _ (by repeat (first | assumption | apply zQd | apply zQf | apply zQi | apply zQh)) | exact zQB _ (by repeat (first | assumption | apply zQd | apply zQf | apply zQi | apply zQh)) | exact zQA _ (by repeat (first | assumption | apply zQd | apply zQf | apply zQi | apply zQh)))),(by (first | exact zQt _ (by repeat (first | assumption | apply zQd | apply zQf | apply zQi | apply zQh)) | exact zQr _ (by repeat (first | assumption | apply zQd | apply zQf | apply zQi | apply zQh)) | exact zQp _ (by repeat (first | assumption | apply zQd | apply zQf | apply zQi | apply zQh)) | exact zQq _ | exact zQx _ (by repeat (first | assumption | apply zQd | apply zQf | apply zQi | apply zQh)) | exact zQz _ (by repeat (first | assumption | apply zQd | apply zQf | apply zQi | apply zQh)) | exact zQB _ (by repeat (first | assumption | apply zQd | apply zQf | apply zQi | apply zQh)) | exact zQA _ (by repeat (first | assumption | apply zQd | apply zQf | apply zQi | apply zQh)))),(by (first | exact zQt _ (by repeat (first | assumption | apply zQd | apply zQf | apply zQi | apply zQh)) | exact zQr _ (by repeat (first | assumption | apply zQd | apply zQf | apply zQi | apply zQh)) | exact zQp _ (by repeat (first | assumption | apply zQd | apply zQf | apply zQi | apply zQh)) | exact zQq _ | exact zQx _ (by repeat (first | assumption | apply zQd | apply zQf | apply zQi | apply zQh)) | exact zQz _ (by repeat (first | assumption | apply zQd | apply zQf | apply zQi | apply zQh)) | exact zQB _ (by repeat (first | assumption | apply zQd | apply zQf | apply zQi | apply zQh)) | exact zQA _ (by repeat (first | assumption | apply zQd | apply zQf | apply zQi | apply zQh)))),(by (first | exact zQt _ (by repeat (first | assumption | apply zQd | apply zQf | apply zQi | apply zQh)) | exact zQr _ (by repeat (first | assumption | apply zQd | apply zQf | apply zQi | apply zQh)) | exact zQp _ (by repeat (first | assumption | apply zQd | apply zQf | apply zQi | apply zQh)) | exact zQq _ | exact zQx _ (by repeat (first | assumption | apply zQd | apply zQf | apply zQi | apply zQh)) | exact zQz _ (by repeat (first | assumption | apply zQd | apply zQf | apply zQi | apply zQh)) | exact zQB _ (by repeat (first | assumption | apply zQd | apply zQf | apply zQi | apply zQh)) | exact zQA _ (by repeat (first | assumption | apply zQd | apply zQf | apply zQi | apply zQh)))),fun h2=>⟨(by (first | exact zQt _ (by repeat (first | assumption | apply zQd | apply zQf | apply zQi | apply zQh)) | exact zQr _ (by repeat (first | assumption | apply zQd | apply zQf | apply zQi | apply zQh)) | exact zQp _ (by repeat (first | assumption | apply zQd | apply zQf | apply zQi | apply zQh)) | exact zQq _ | exact zQx _ (by repeat (first | assumption | apply zQd | apply zQf | apply zQi | apply zQh)) | exact zQz _ (by repeat (first | assumption | apply zQd | apply zQf | apply zQi | apply zQh)) | exact zQB _ (by repeat (first | assumption | apply zQd | apply zQf | apply zQi | apply zQh)) | exact zQA _ (by repeat (first | assumption | apply zQd | apply zQf | apply zQi | apply zQh)))),?_⟩,fun h2=>?_⟩,fun h3=>⟨(by (first | exact zQt _ (by repeat (first | assumption | apply zQd | apply zQf | apply zQi | apply zQh)) | exact zQr _ (by repeat (first | assumption | apply zQd | apply zQf | apply zQi | apply zQh)) | exact zQp _ (by repeat (first | assumption | apply zQd | apply zQf | apply zQi | apply zQh)) | exact zQq _ | exact zQx _ (by repeat (first | assumption | apply zQd | apply zQf | apply zQi | apply zQh)) | exact zQz _ (by repeat (first | assumption | apply zQd | apply zQf | apply zQi | apply zQh)) | exact zQB _ (by repeat (first | assumption | apply zQd | apply zQf | apply zQi | apply zQh)) | exact zQA _ (by repeat (first | assumption | apply zQd | apply zQf | apply zQi | apply zQh)))),(by (first | exact zQt _ (by repeat (first | assumption | apply zQd | apply zQf | apply zQi | apply zQh)) | exact zQr _ (by repeat (first | assumption | apply zQd | apply zQf | apply zQi | apply zQh)) | exact zQp _ (by repeat (first | assumption | apply zQd | apply zQf | apply zQi | apply zQh)) | exact zQq _ | exact zQx _ (by repeat (first | assumption | apply zQd | apply zQf | apply zQi | apply zQh)) | exact zQz _ (by repeat (first | assumption | apply zQd | apply zQf | apply zQi | apply zQh)) | exact zQB _ (by repeat (first | assumption | apply zQd | apply zQf | apply zQi | apply zQh)) | exact zQA _ (by repeat (first | assumption | apply zQd | apply zQf | apply zQi | apply zQh)))),fun h2=>⟨(by (first | exact zQt _ (by repeat (first | assumption | apply zQd | apply zQf | apply zQi | apply zQh)) | exact zQr _ (by repeat (first | assumption | apply zQd | apply zQf | apply zQi | apply zQh)) | exact zQp _ (by repeat (first | assumption | apply zQd | apply zQf | apply zQi | apply zQh)) | exact zQq _ | exact zQx _ (by repeat (first | assumption | apply zQd | apply zQf | apply zQi | apply zQh)) | exact zQz _ (by repeat (first | assumption | apply zQd | apply zQf | apply zQi | apply zQh)) | exact zQB _ (by repeat (first | assumption | apply zQd | apply zQf | apply zQi | apply zQh)) | exact zQA _ (by repeat (first | assumption | apply zQd | apply zQf | apply zQi | apply zQh)))),?_⟩,fun h2=>?_⟩⟩⟩
  ·have e:zXn p q w=({ p with part:=p.part+1,s:={ p.s with bits:=(byQ q).1 } },cmpQ (byQ q).2):=by unfold zXn; rw [if_pos h1,decide_eq_true h2]; rfl
   rw [e]; ((repeat' apply And.intro) <;> first | rfl | trivial | (simp only [List.length_append,List.length_cons,List.length_nil]; done) | (simp [ims]; done) | (simp [ops]; done) | (simp [ops,Oq.cells]; done) | exact zQ3 _ | (simp [pxs]; done))
  ·have e:zXn p q w=({ p with part:=p.part+1,s:={ p.s with bits:=(byQ q).1 } },false):=by unfold zXn; rw [if_pos h1,decide_eq_false h2]; rfl
   rw [e]; ((repeat' apply And.intro) <;> first | rfl | trivial | (simp only [List.length_append,List.length_cons,List.length_nil]; done) | (simp [ims]; done) | (simp [ops]; done) | (simp [ops,Oq.cells]; done) | exact zQ3 _ | (simp [pxs]; done))
  ·have e:zXn p q w=({ p with part:=p.part+1,s:={ p.s with c:=⟨(plQ q).1,(plQ (plQ q).2).1,(plQ (plQ (plQ q).2).2).1,(plQ (plQ (plQ (plQ q).2).2).2).1⟩ } },cmpQ (plQ (plQ (plQ (plQ q).2).2).2).2):=by unfold zXn; rw [if_neg h1,if_pos h3,decide_eq_true h2]; rfl
   rw [e]; ((repeat' apply And.intro) <;> first | rfl | trivial | (simp only [List.length_append,List.length_cons,List.length_nil]; done) | (simp [ims]; done) | (simp [ops]; done) | (simp [ops,Oq.cells]; done) | exact zQ3 _ | (simp [pxs]; done))
  ·have e:zXn p q w=({ p with part:=p.part+1,s:={ p.s with c:=⟨(plQ q).1,(plQ (plQ q).2).1,(plQ (plQ (plQ q).2).2).1,(plQ (plQ (plQ (plQ q).2).2).2).1⟩ } },false):=by unfold zXn; rw [if_neg h1,if_pos h3,decide_eq_false h2]; rfl
   rw [e]; ((repeat' apply And.intro) <;> first | rfl | trivial | (simp only [List.length_append,List.length_cons,List.length_nil]; done) | (simp [ims]; done) | (simp [ops]; done) | (simp [ops,Oq.cells]; done) | exact zQ3 _ | (simp [pxs]; done))
  ·have e:zXn p q w=({ p with part:=p.part+1,s:={ p.s with tw:=(numQ q 0 4294967295).1,th:=(numQ (numQ q 0 4294967295).2 0 4294967295).1 } },cmpQ (numQ (numQ q 0 4294967295).2 0 4294967295).2):=by unfold zXn; rw [if_neg h1,if_neg h3,decide_eq_true h2]; rfl
   rw [e]; ((repeat' apply And.intro) <;> first | rfl | trivial | (simp only [List.length_append,List.length_cons,List.length_nil]; done) | (simp [ims]; done) | (simp [ops]; done) | (simp [ops,Oq.cells]; done) | exact zQ3 _ | (simp [pxs]; done))
  ·have e:zXn p q w=({ p with part:=p.part+1,s:={ p.s with tw:=(numQ q 0 4294967295).1,th:=(numQ (numQ q 0 4294967295).2 0 4294967295).1 } },false):=by unfold zXn; rw [if_neg h1,if_neg h3,decide_eq_false h2]; rfl
   rw [e]; ((repeat' apply And.intro) <;> first | rfl | trivial | (simp only [List.length_append,List.length_cons,List.length_nil]; done) | (simp [ims]; done) | (simp [ops]; done) | (simp [ops,Oq.cells]; done) | exact zQ3 _ | (simp [pxs]; done))
theorem zJC (p:PP) (q:LQ) (w:Lb) (hq:okQ q) (hx:p.px.length≤68719476736) (hi:p.s.ims.length≤68719476736) (hp:p.s.ops.length≤68719476736) (hn:p.s.ord.length≤68719476736) (hf:0≤p.w*p.h∧p.w*p.h≤16777216) (hd:0≤p.part∧p.part≤5):AnsG prog 77 1 [aPz,AV.one (Cl.ptr 1 0),AV.one (Cl.d (DV.str (toS w)))] [Bx.cells (ppC p p.part 2),bC [Cl.clo 105 [Cap.ptr 6 0],Cl.d (dQ q.bad)],Bx.row 3 1 (is p.s.ord),Bx.row 43 28 (ims p.s.ims),Bx.row 51 12 (ops p.s.ops),Bx.row 37 5 (pxs p.px),bC [Cl.d (dS q.ws.length (strs q.ws))]] ⟨AV.one (Cl.d (dQ ((zZG p q (ofS (toS w))).2))),[Bx.cells (ppC ((zZG p q (ofS (toS w))).1) (((zZG p q (ofS (toS w))).1).part) 1),Bx.row 3 1 (is ((zZG p q (ofS (toS w))).1).s.ord),Bx.row 43 28 (ims ((zZG p q (ofS (toS w))).1).s.ims),Bx.row 51 12 (ops ((zZG p q (ofS (toS w))).1).s.ops),Bx.row 37 5 (pxs ((zZG p q (ofS (toS w))).1).px)],false⟩:=
 zQy (Γ:=jZi) Ann.leaf zQs Tryz.func77 rfl (nL rfl) rfl fun hwf hbx=>by
  refine Eq.mpr (by kernel_rfl:_=(let B:=(decide ((p.s.ims.length:Int)≥64)); let e:=[Cap.ptr 1 0]; let c:=(sizQ (reQ q)); let f:=(reQ c.2); let g:=(zZU f); let C:=(f.ws.isEmpty && !f.bad); let a:=(zZG p q (ofS (toS w))); let h:=(Cl.d (dQ a.2)); let b:=(pixQ f); let D:=(zQg c.1.1 c.1.2 b.1); let i:=[Bx.cells (ppC a.1 a.1.part 1),Bx.row 3 1 (is a.1.s.ord),Bx.row 43 28 (ims a.1.s.ims),Bx.row 51 12 (ops a.1.s.ops),Bx.row 37 5 (pxs a.1.px)]; let d:=(reQ b.2); let j:=(dJ p.s.bits=dJ a.1.s.bits); let k:=(dJ p.s.c.a=dJ a.1.s.c.a); let l:=(dJ p.s.c.b=dJ a.1.s.c.b); let m:=(dJ p.s.c.c=dJ a.1.s.c.c); let n:=(dJ p.s.c.d=dJ a.1.s.c.d); let o:=(dJ p.s.tw=dJ a.1.s.tw); let r:=(dJ p.s.th=dJ a.1.s.th); let s:=(p.s.ord.length=a.1.s.ord.length); let E:=(p.s.ims.length=a.1.s.ims.length); let t:=(p.s.ops.length=a.1.s.ops.length); let u:=(dJ p.part=dJ a.1.part); let F:=(dJ p.w=dJ a.1.w); let G:=(dJ p.h=dJ a.1.h); let v:=(p.px.length=a.1.px.length); let x:=(is p.s.ord=is a.1.s.ord); let H:=(ims p.s.ims=ims a.1.s.ims); let y:=(ops p.s.ops=ops a.1.s.ops); let z:=(pxs p.px=pxs a.1.px); let I:=(dJ c.1.1); let J:=(dJ c.1.2); let A:=[bC [Cl.clo 105 e,Cl.d (dQ c.2.bad)],bC [Cl.d (dS c.2.ws.length (strs c.2.ws))]]; let K:=[bC [Cl.clo 105 e,Cl.d (dQ b.2.bad)],bC [Cl.d (dS b.2.ws.length (strs b.2.ws))]]; let L:=(Im.ds D); tU6 ((p.s.ims.length≤maxLen)∧True∧((B=true→True∧(((dQ false=dQ a.2)∧True)∧((j∧k∧l∧m∧n∧o∧r∧s∧E∧t∧u∧F∧G∧v∧True)∧x∧H∧y∧z∧True))∧zQm ⟨AV.one h,i,false⟩)∧(B=false→True∧(AnsG prog 113 2 [aPz] [bC [Cl.clo 105 e,Cl.d (dQ q.bad)],bC [Cl.d (dS q.ws.length (strs q.ws))]] ⟨AV.tup [AV.one (Cl.d I),AV.one (Cl.d J)],A,false⟩)∧tU7 ((((toS w).toList==(⟨#[105,109,97,103,101]⟩:ByteArray).toList)=true→tU3 (tU8 ((AnsG prog 107 2 [aPz] A ⟨AV.one (Cl.d (dQ C)),[bC [Cl.clo 105 e,Cl.d (dQ g.bad)],bC [Cl.d (dS g.ws.length (strs g.ws))]],false⟩)∧True∧(((dQ C=dQ a.2)∧True)∧((j∧k∧l∧m∧n∧o∧r∧s∧E∧t∧u∧(dJ c.1.1=dJ a.1.w)∧(dJ c.1.2=dJ a.1.h)∧v∧True)∧x∧H∧y∧z∧True))∧zQm ⟨AV.one h,i,false⟩)))∧(((toS w).toList==(⟨#[105,109,97,103,101]⟩:ByteArray).toList)=false→True∧tU8 ((AnsG prog 106 2 [aPz] A ⟨AV.agg [cK b.1.a,cK b.1.b,cK b.1.c,cK b.1.al,cK b.1.f],K,false⟩)∧(Ans prog 114 [RV.d I,RV.d J,RV.agg [dK b.1.a,dK b.1.b,dK b.1.c,dK b.1.al,dK b.1.f]] (imR D))∧True∧(zZl 28 272 p.s.ims.length 1 (ims p.s.ims) L)∧tU4 ((true=true)∧True∧(AnsG prog 107 2 [aPz] K ⟨AV.one (Cl.d (dQ (d.ws.isEmpty && !d.bad))),[bC [Cl.clo 105 e,Cl.d (dQ (zZU d).bad)],bC [Cl.d (dS (zZU d).ws.length (strs (zZU d).ws))]],false⟩)∧True∧(((dQ (d.ws.isEmpty && !d.bad)=dQ a.2)∧True)∧((j∧k∧l∧m∧n∧o∧r∧s∧(p.s.ims.length+1=a.1.s.ims.length)∧t∧u∧F∧G∧v∧True)∧x∧((ims p.s.ims)++L=ims a.1.s.ims)∧y∧z∧True))∧zQm ⟨AV.one h,i,false⟩))))))))) ?_
  delta dJ dK dQ cK dS aPz bC
  simp only [sS,ppC,ppE]
  simp only [zZ2,zQO,zQ2,zQU,zQS,zQw,zQN]
  clear hwf hbx
  have lb:(⟨#[98,105,116,115]⟩:ByteArray)=toS zYc:=rfl
  have lc:(⟨#[99,97,110,118,97,115]⟩:ByteArray)=toS zZE:=rfl
  have lt:(⟨#[116,105,108,101,115]⟩:ByteArray)=toS zXa:=rfl
  have li:(⟨#[105,109,97,103,101]⟩:ByteArray)=toS zQ0:=rfl
  have ld:(⟨#[100,114,97,119]⟩:ByteArray)=toS zZ0:=rfl
  have lu:(⟨#[112,117,115,104]⟩:ByteArray)=toS zZ1:=rfl
  have lo:(⟨#[112,111,112]⟩:ByteArray)=toS sPop:=rfl
  have lr:(⟨#[111,114,100,101,114]⟩:ByteArray)=toS zZy:=rfl
  have ls:(⟨#[115,111,108,105,100]⟩:ByteArray)=toS zQY:=rfl
  have aS:=image_Solid_dat' (sizQ q).1.1 (sizQ q).1.2 (pixQ (sizQ q).2).1
  simp only [li,zXj,decide_eq_true_eq,decide_eq_false_iff_not]
  refine ⟨by unfold maxLen; omega,fun h1=>?_,fun h1=>⟨(by (first | exact zQt _ (by repeat (first | assumption | apply zQd | apply zQf | apply zQi | apply zQh)) | exact zQr _ (by repeat (first | assumption | apply zQd | apply zQf | apply zQi | apply zQh)) | exact zQp _ (by repeat (first | assumption | apply zQd | apply zQf | apply zQi | apply zQh)) | exact zQq _ | exact zQx _ (by repeat (first | assumption | apply zQd | apply zQf | apply zQi | apply zQh)) | exact zQz _ (by repeat (first | assumption | apply zQd | apply zQf | apply zQi | apply zQh)) | exact zQB _ (by repeat (first | assumption | apply zQd | apply zQf | apply zQi | apply zQh)) | exact zQA _ (by repeat (first | assumption | apply zQd | apply zQf | apply zQi | apply zQh)))),fun h2=>⟨(by (first | exact zQt _ (by repeat (first | assumption | apply zQd | apply zQf | apply zQi | apply zQh)) | exact zQr _ (by repeat (first | assumption | apply zQd | apply zQf | apply zQi | apply zQh)) | exact zQp _ (by repeat (first | assumption | apply zQd | apply zQf | apply zQi | apply zQh)) | exact zQq _ | exact zQx _ (by repeat (first | assumption | apply zQd | apply zQf | apply zQi | apply zQh)) | exact zQz _ (by repeat (first | assumption | apply zQd | apply zQf | apply zQi | apply zQh)) | exact zQB _ (by repeat (first | assumption | apply zQd | apply zQf | apply zQi | apply zQh)) | exact zQA _ (by repeat (first | assumption | apply zQd | apply zQf | apply zQi | apply zQh)))),?_⟩,fun h2=>⟨(by (first | exact zQt _ (by repeat (first | assumption | apply zQd | apply zQf | apply zQi | apply zQh)) | exact zQr _ (by repeat (first | assumption | apply zQd | apply zQf | apply zQi | apply zQh)) | exact zQp _ (by repeat (first | assumption | apply zQd | apply zQf | apply zQi | apply zQh)) | exact zQq _ | exact zQx _ (by repeat (first | assumption | apply zQd | apply zQf | apply zQi | apply zQh)) | exact zQz _ (by repeat (first | assumption | apply zQd | apply zQf | apply zQi | apply zQh)) | exact zQB _ (by repeat (first | assumption | apply zQd | apply zQf | apply zQi | apply zQh)) | exact zQA _ (by repeat (first | assumption | apply zQd | apply zQf | apply zQi | apply zQh)))),aS,⟨zZC _,Im.ds_len _,by unfold maxLen; omega,by omega⟩,(by (first | exact zQt _ (by repeat (first | assumption | apply zQd | apply zQf | apply zQi | apply zQh)) | exact zQr _ (by repeat (first | assumption | apply zQd | apply zQf | apply zQi | apply zQh)) | exact zQp _ (by repeat (first | assumption | apply zQd | apply zQf | apply zQi | apply zQh)) | exact zQq _ | exact zQx _ (by repeat (first | assumption | apply zQd | apply zQf | apply zQi | apply zQh)) | exact zQz _ (by repeat (first | assumption | apply zQd | apply zQf | apply zQi | apply zQh)) | exact zQB _ (by repeat (first | assumption | apply zQd | apply zQf | apply zQi | apply zQh)) | exact zQA _ (by repeat (first | assumption | apply zQd | apply zQf | apply zQi | apply zQh)))),?_⟩⟩⟩
  ·have e:zZG p q w=(p,false):=by unfold zZG; rw [if_pos (by omega)]
   rw [e]; ((repeat' apply And.intro) <;> first | rfl | trivial | (simp only [List.length_append,List.length_cons,List.length_nil]; done) | (simp [ims]; done) | (simp [ops]; done) | (simp [ops,Oq.cells]; done) | exact zQ3 _ | (simp [pxs]; done))
  ·have e:zZG p q w=({ p with w:=(sizQ q).1.1,h:=(sizQ q).1.2 },cmpQ (sizQ q).2):=by unfold zZG; rw [if_neg (by omega),if_pos h2]
   rw [e]; ((repeat' apply And.intro) <;> first | rfl | trivial | (simp only [List.length_append,List.length_cons,List.length_nil]; done) | (simp [ims]; done) | (simp [ops]; done) | (simp [ops,Oq.cells]; done) | exact zQ3 _ | (simp [pxs]; done))
  ·have e:zZG p q w=({ p with s:={ p.s with ims:=p.s.ims++[zQg (sizQ q).1.1 (sizQ q).1.2 (pixQ (sizQ q).2).1] } },cmpQ (pixQ (sizQ q).2).2):=by unfold zZG; rw [if_neg (by omega),if_neg h2]
   rw [e]; ((repeat' apply And.intro) <;> first | rfl | trivial | (simp only [List.length_append,List.length_cons,List.length_nil]; done) | (simp [ims]; done) | (simp [ops]; done) | (simp [ops,Oq.cells]; done) | exact zQ3 _ | (simp [pxs]; done))
theorem zK0 (p:PP) (q:LQ) (w:Lb) (hq:okQ q) (hx:p.px.length≤68719476736) (hi:p.s.ims.length≤68719476736) (hp:p.s.ops.length≤68719476736) (hn:p.s.ord.length≤68719476736) (hf:0≤p.w*p.h∧p.w*p.h≤16777216) (hd:0≤p.part∧p.part≤5):AnsG prog 78 1 [aPz,AV.one (Cl.ptr 1 0),AV.one (Cl.d (DV.str (toS w)))] [Bx.cells (ppC p p.part 2),bC [Cl.clo 105 [Cap.ptr 6 0],Cl.d (dQ q.bad)],Bx.row 3 1 (is p.s.ord),Bx.row 43 28 (ims p.s.ims),Bx.row 51 12 (ops p.s.ops),Bx.row 37 5 (pxs p.px),bC [Cl.d (dS q.ws.length (strs q.ws))]] ⟨AV.one (Cl.d (dQ ((pOp p q (ofS (toS w))).2))),[Bx.cells (ppC ((pOp p q (ofS (toS w))).1) (((pOp p q (ofS (toS w))).1).part) 1),Bx.row 3 1 (is ((pOp p q (ofS (toS w))).1).s.ord),Bx.row 43 28 (ims ((pOp p q (ofS (toS w))).1).s.ims),Bx.row 51 12 (ops ((pOp p q (ofS (toS w))).1).s.ops),Bx.row 37 5 (pxs ((pOp p q (ofS (toS w))).1).px)],false⟩:=
 zQy (Γ:=jZi) Ann.leaf zQs Tryz.func78 rfl (nL rfl) rfl fun hwf hbx=>by
  refine Eq.mpr (by kernel_rfl:_=(let t:=((reQ q).ws.isEmpty && !(reQ q).bad); let u:=(decide ((p.s.ops.length:Int)≥4096)); let d:=(ops p.s.ops); let e:=[Cap.ptr 1 0]; let v:=([dJ 3,dJ 0,dJ 0,dJ 0,dJ 0,dJ 0,dJ 0,dK 0,dJ 0,dJ 0,dQ false,dQ false]); let b:=(zZL (reQ q)); let l:=(reQ b.2); let m:=(zZU l); let x:=(l.ws.isEmpty && !l.bad); let c:=(zZO (reQ q)); let n:=(reQ c.2); let o:=(zZU n); let y:=(n.ws.isEmpty && !n.bad); let a:=(pOp p q (ofS (toS w))).1; let f:=(pOp p q (ofS (toS w))).2; let g:=[Bx.cells (ppC a a.part 1),Bx.row 3 1 (is a.s.ord),Bx.row 43 28 (ims a.s.ims),Bx.row 51 12 (ops a.s.ops),Bx.row 37 5 (pxs a.px)]; let h:=(Cl.d (dQ f)); let z:=(dJ p.s.bits=dJ a.s.bits); let A:=(dJ p.s.c.a=dJ a.s.c.a); let B:=(dJ p.s.c.b=dJ a.s.c.b); let C:=(dJ p.s.c.c=dJ a.s.c.c); let D:=(dJ p.s.c.d=dJ a.s.c.d); let E:=(dJ p.s.tw=dJ a.s.tw); let F:=(dJ p.s.th=dJ a.s.th); let G:=(p.s.ord.length=a.s.ord.length); let H:=(p.s.ims.length=a.s.ims.length); let I:=(dJ p.part=dJ a.part); let J:=(dJ p.w=dJ a.w); let K:=(dJ p.h=dJ a.h); let L:=(p.px.length=a.px.length); let i:=(is p.s.ord=is a.s.ord); let j:=(ims p.s.ims=ims a.s.ims); let k:=(pxs p.px=pxs a.px); let M:=(((dQ false=dQ f)∧True)∧((z∧A∧B∧C∧D∧E∧F∧G∧H∧(p.s.ops.length=a.s.ops.length)∧I∧J∧K∧L∧True)∧i∧j∧(ops p.s.ops=ops a.s.ops)∧k∧True)); let r:=[bC [Cl.clo 105 e,Cl.d (dQ q.bad)],bC [Cl.d (dS q.ws.length (strs q.ws))]]; let N:=[bC [Cl.clo 105 e,Cl.d (dQ c.2.bad)],bC [Cl.d (dS c.2.ws.length (strs c.2.ws))]]; let s:=(z∧A∧B∧C∧D∧E∧F∧G∧H∧(p.s.ops.length+1=a.s.ops.length)∧I∧J∧K∧L∧True); let O:=[bC [Cl.clo 105 e,Cl.d (dQ b.2.bad)],bC [Cl.d (dS b.2.ws.length (strs b.2.ws))]]; tU6 ((p.s.ops.length≤maxLen)∧True∧((u=true→True∧M∧zQm ⟨AV.one h,g,false⟩)∧(u=false→tU6 ((((toS w).toList==(⟨#[100,114,97,119]⟩:ByteArray).toList)=true→True∧(AnsG prog 115 2 [aPz] r ⟨AV.agg [cJ c.1.kind,cJ c.1.image,cJ c.1.x,cJ c.1.y,cJ c.1.mask,cJ c.1.mx,cJ c.1.my,cK c.1.opac,cJ c.1.oper,cJ c.1.mode,Cl.d (dQ c.1.iso),Cl.d (dQ c.1.kno)],N,false⟩)∧True∧tU8 ((zZl 12 88 p.s.ops.length 1 d (Oq.cells c.1))∧tU4 ((true=true)∧True∧(AnsG prog 107 2 [aPz] N ⟨AV.one (Cl.d (dQ y)),[bC [Cl.clo 105 e,Cl.d (dQ o.bad)],bC [Cl.d (dS o.ws.length (strs o.ws))]],false⟩)∧True∧(((dQ y=dQ f)∧True)∧(s∧i∧j∧(d++(Oq.cells c.1)=ops a.s.ops)∧k∧True))∧zQm ⟨AV.one h,g,false⟩)))∧(((toS w).toList==(⟨#[100,114,97,119]⟩:ByteArray).toList)=false→tU2 ((((toS w).toList==(⟨#[112,117,115,104]⟩:ByteArray).toList)=true→True∧(AnsG prog 116 2 [aPz] r ⟨AV.agg [cJ b.1.kind,cJ b.1.image,cJ b.1.x,cJ b.1.y,cJ b.1.mask,cJ b.1.mx,cJ b.1.my,cK b.1.opac,cJ b.1.oper,cJ b.1.mode,Cl.d (dQ b.1.iso),Cl.d (dQ b.1.kno)],O,false⟩)∧True∧tU8 ((zZl 12 88 p.s.ops.length 1 d (Oq.cells b.1))∧tU4 ((true=true)∧True∧(AnsG prog 107 2 [aPz] O ⟨AV.one (Cl.d (dQ x)),[bC [Cl.clo 105 e,Cl.d (dQ m.bad)],bC [Cl.d (dS m.ws.length (strs m.ws))]],false⟩)∧True∧(((dQ x=dQ f)∧True)∧(s∧i∧j∧(d++(Oq.cells b.1)=ops a.s.ops)∧k∧True))∧zQm ⟨AV.one h,g,false⟩)))∧(((toS w).toList==(⟨#[112,117,115,104]⟩:ByteArray).toList)=false→tU2 ((((toS w).toList==(⟨#[112,111,112]⟩:ByteArray).toList)=true→tU8 ((zZl 12 88 p.s.ops.length 1 d v)∧tU4 ((true=true)∧True∧(AnsG prog 107 2 [aPz] r ⟨AV.one (Cl.d (dQ t)),[bC [Cl.clo 105 e,Cl.d (dQ (zZU (reQ q)).bad)],bC [Cl.d (dS (zZU (reQ q)).ws.length (strs (zZU (reQ q)).ws))]],false⟩)∧True∧(((dQ t=dQ f)∧True)∧(s∧i∧j∧(d++v=ops a.s.ops)∧k∧True))∧zQm ⟨AV.one h,g,false⟩)))∧(((toS w).toList==(⟨#[112,111,112]⟩:ByteArray).toList)=false→True∧M∧zQm ⟨AV.one h,g,false⟩))))))))))) ?_
  delta dJ dK dQ cJ cK dS aPz bC
  simp only [sS,ppC,ppE]
  simp only [zZ2,zQO,zQ2,zQU,zQS,zQw,zQN]
  clear hwf hbx
  have lb:(⟨#[98,105,116,115]⟩:ByteArray)=toS zYc:=rfl
  have lc:(⟨#[99,97,110,118,97,115]⟩:ByteArray)=toS zZE:=rfl
  have lt:(⟨#[116,105,108,101,115]⟩:ByteArray)=toS zXa:=rfl
  have li:(⟨#[105,109,97,103,101]⟩:ByteArray)=toS zQ0:=rfl
  have ld:(⟨#[100,114,97,119]⟩:ByteArray)=toS zZ0:=rfl
  have lu:(⟨#[112,117,115,104]⟩:ByteArray)=toS zZ1:=rfl
  have lo:(⟨#[112,111,112]⟩:ByteArray)=toS sPop:=rfl
  have lr:(⟨#[111,114,100,101,114]⟩:ByteArray)=toS zZy:=rfl
  have ls:(⟨#[115,111,108,105,100]⟩:ByteArray)=toS zQY:=rfl
  simp only [ld,lu,lo,zXj,decide_eq_true_eq,decide_eq_false_iff_not]
  refine ⟨by unfold maxLen; omega,fun h1=>?_,fun h1=>⟨fun h2=>⟨(by (first | exact zQt _ (by repeat (first | assumption | apply zQd | apply zQf | apply zQi | apply zQh)) | exact zQr _ (by repeat (first | assumption | apply zQd | apply zQf | apply zQi | apply zQh)) | exact zQp _ (by repeat (first | assumption | apply zQd | apply zQf | apply zQi | apply zQh)) | exact zQq _ | exact zQx _ (by repeat (first | assumption | apply zQd | apply zQf | apply zQi | apply zQh)) | exact zQz _ (by repeat (first | assumption | apply zQd | apply zQf | apply zQi | apply zQh)) | exact zQB _ (by repeat (first | assumption | apply zQd | apply zQf | apply zQi | apply zQh)) | exact zQA _ (by repeat (first | assumption | apply zQd | apply zQf | apply zQi | apply zQh)))),⟨zQ6 _,rfl,by unfold maxLen; omega,by omega⟩,(by (first | exact zQt _ (by repeat (first | assumption | apply zQd | apply zQf | apply zQi | apply zQh)) | exact zQr _ (by repeat (first | assumption | apply zQd | apply zQf | apply zQi | apply zQh)) | exact zQp _ (by repeat (first | assumption | apply zQd | apply zQf | apply zQi | apply zQh)) | exact zQq _ | exact zQx _ (by repeat (first | assumption | apply zQd | apply zQf | apply zQi | apply zQh)) | exact zQz _ (by repeat (first | assumption | apply zQd | apply zQf | apply zQi | apply zQh)) | exact zQB _ (by repeat (first | assumption | apply zQd | apply zQf | apply zQi | apply zQh)) | exact zQA _ (by repeat (first | assumption | apply zQd | apply zQf | apply zQi | apply zQh)))),?_⟩,fun h2=>⟨fun h3=>⟨(by (first | exact zQt _ (by repeat (first | assumption | apply zQd | apply zQf | apply zQi | apply zQh)) | exact zQr _ (by repeat (first | assumption | apply zQd | apply zQf | apply zQi | apply zQh)) | exact zQp _ (by repeat (first | assumption | apply zQd | apply zQf | apply zQi | apply zQh)) | exact zQq _ | exact zQx _ (by repeat (first | assumption | apply zQd | apply zQf | apply zQi | apply zQh)) | exact zQz _ (by repeat (first | assumption | apply zQd | apply zQf | apply zQi | apply zQh)) | exact zQB _ (by repeat (first | assumption | apply zQd | apply zQf | apply zQi | apply zQh)) | exact zQA _ (by repeat (first | assumption | apply zQd | apply zQf | apply zQi | apply zQh)))),⟨zQ6 _,rfl,by unfold maxLen; omega,by omega⟩,(by (first | exact zQt _ (by repeat (first | assumption | apply zQd | apply zQf | apply zQi | apply zQh)) | exact zQr _ (by repeat (first | assumption | apply zQd | apply zQf | apply zQi | apply zQh)) | exact zQp _ (by repeat (first | assumption | apply zQd | apply zQf | apply zQi | apply zQh)) | exact zQq _ | exact zQx _ (by repeat (first | assumption | apply zQd | apply zQf | apply zQi | apply zQh)) | exact zQz _ (by repeat (first | assumption | apply zQd | apply zQf | apply zQi | apply zQh)) | exact zQB _ (by repeat (first | assumption | apply zQd | apply zQf | apply zQi | apply zQh)) | exact zQA _ (by repeat (first | assumption | apply zQd | apply zQf | apply zQi | apply zQh)))),?_⟩,fun h3=>⟨fun h4=>⟨⟨zQ6 _,rfl,by unfold maxLen; omega,by omega⟩,(by (first | exact zQt _ (by repeat (first | assumption | apply zQd | apply zQf | apply zQi | apply zQh)) | exact zQr _ (by repeat (first | assumption | apply zQd | apply zQf | apply zQi | apply zQh)) | exact zQp _ (by repeat (first | assumption | apply zQd | apply zQf | apply zQi | apply zQh)) | exact zQq _ | exact zQx _ (by repeat (first | assumption | apply zQd | apply zQf | apply zQi | apply zQh)) | exact zQz _ (by repeat (first | assumption | apply zQd | apply zQf | apply zQi | apply zQh)) | exact zQB _ (by repeat (first | assumption | apply zQd | apply zQf | apply zQi | apply zQh)) | exact zQA _ (by repeat (first | assumption | apply zQd | apply zQf | apply zQi | apply zQh)))),?_⟩,fun h4=>?_⟩⟩⟩⟩
  ·have e:pOp p q w=(p,false):=by unfold pOp; rw [if_pos (by omega)]
   rw [e]; ((repeat' apply And.intro) <;> first | rfl | trivial | (simp only [List.length_append,List.length_cons,List.length_nil]; done) | (simp [ims]; done) | (simp [ops]; done) | (simp [ops,Oq.cells]; done) | exact zQ3 _ | (simp [pxs]; done))
  ·have e:pOp p q w=({ p with s:={ p.s with ops:=p.s.ops++[(zZO q).1] } },cmpQ (zZO q).2):=by unfold pOp; rw [if_neg (by omega),if_pos h2]
   rw [e]; ((repeat' apply And.intro) <;> first | rfl | trivial | (simp only [List.length_append,List.length_cons,List.length_nil]; done) | (simp [ims]; done) | (simp [ops]; done) | (simp [ops,Oq.cells]; done) | exact zQ3 _ | (simp [pxs]; done))
  ·have e:pOp p q w=({ p with s:={ p.s with ops:=p.s.ops++[(zZL q).1] } },cmpQ (zZL q).2):=by unfold pOp; rw [if_neg (by omega),if_neg h2,if_pos h3]
   rw [e]; ((repeat' apply And.intro) <;> first | rfl | trivial | (simp only [List.length_append,List.length_cons,List.length_nil]; done) | (simp [ims]; done) | (simp [ops]; done) | (simp [ops,Oq.cells]; done) | exact zQ3 _ | (simp [pxs]; done))
  ·have e:pOp p q w=({ p with s:={ p.s with ops:=p.s.ops++[⟨3,0,0,0,0,0,0,0,0,0,false,false⟩] } },cmpQ q):=by unfold pOp; rw [if_neg (by omega),if_neg h2,if_neg h3,if_pos h4]
   rw [e]; ((repeat' apply And.intro) <;> first | rfl | trivial | (simp only [List.length_append,List.length_cons,List.length_nil]; done) | (simp [ims]; done) | (simp [ops]; done) | (simp [ops,Oq.cells]; done) | exact zQ3 _ | (simp [pxs]; done))
  ·have e:pOp p q w=(p,false):=by unfold pOp; rw [if_neg (by omega),if_neg h2,if_neg h3,if_neg h4]
   rw [e]; ((repeat' apply And.intro) <;> first | rfl | trivial | (simp only [List.length_append,List.length_cons,List.length_nil]; done) | (simp [ims]; done) | (simp [ops]; done) | (simp [ops,Oq.cells]; done) | exact zQ3 _ | (simp [pxs]; done))
theorem zXQ (p:PP):AnsG prog 37 5 [aPz] [Bx.cells (ppC p p.part 1),Bx.row 3 1 (is p.s.ord),Bx.row 43 28 (ims p.s.ims),Bx.row 51 12 (ops p.s.ops),Bx.row 37 5 (pxs p.px)] ⟨AV.one (Cl.d (dQ (decide (p.h > (0:Int))))),[Bx.cells (ppC p p.part 1),Bx.row 3 1 (is p.s.ord),Bx.row 43 28 (ims p.s.ims),Bx.row 51 12 (ops p.s.ops),Bx.row 37 5 (pxs p.px)],false⟩:=
 zQy (Γ:=jZi) Ann.leaf zQs Tryz.func37 rfl (nL rfl) rfl fun hwf hbx=>by
  refine Eq.mpr (by kernel_rfl:_=(let a:=(decide (p.h > 0)); tU7 ((((dQ a=dQ a)∧True)∧(ppE p p))∧zQm ⟨AV.one (Cl.d (dQ a)),[Bx.cells (ppC p p.part 1),Bx.row 3 1 (is p.s.ord),Bx.row 43 28 (ims p.s.ims),Bx.row 51 12 (ops p.s.ops),Bx.row 37 5 (pxs p.px)],false⟩))) ?_
  delta dQ
  simp only [sS,ppC,ppE]
  ((repeat' apply And.intro) <;> first | rfl | trivial | (simp only [List.length_append,List.length_cons,List.length_nil]; done) | (simp [ims]; done) | (simp [ops]; done) | (simp [ops,Oq.cells]; done) | exact zQ3 _ | (simp [pxs]; done))
theorem zJB (p:PP) (w:Lb) (hw:w.length≤4294967280) (hx:p.px.length≤68719476736) (hi:p.s.ims.length≤68719476736) (hp:p.s.ops.length≤68719476736) (hn:p.s.ord.length≤68719476736) (hf:0≤p.w*p.h∧p.w*p.h≤16777216) (hd:0≤p.part∧p.part≤5):AnsG prog 76 1 [aPz,AV.one (Cl.d (DV.str (toS w)))] [Bx.cells (ppC p p.part 1),Bx.row 3 1 (is p.s.ord),Bx.row 43 28 (ims p.s.ims),Bx.row 51 12 (ops p.s.ops),Bx.row 37 5 (pxs p.px)] ⟨AV.one (Cl.d (dQ ((zXK p (ofS (toS w))).2))),[Bx.cells (ppC ((zXK p (ofS (toS w))).1) (((zXK p (ofS (toS w))).1).part) 1),Bx.row 3 1 (is ((zXK p (ofS (toS w))).1).s.ord),Bx.row 43 28 (ims ((zXK p (ofS (toS w))).1).s.ims),Bx.row 51 12 (ops ((zXK p (ofS (toS w))).1).s.ops),Bx.row 37 5 (pxs ((zXK p (ofS (toS w))).1).px)],false⟩:=
 zQy (Γ:=jZi) (let a:=((zQo w).drop 1); let b:=((((zQo (ofS (toS w))).length:Nat):Int) - 1); let c:=(Cl.d (dS b.toNat (List.take (b.toNat*1) (List.drop ((1:Int).toNat*1) (strs (zQo (ofS (toS w)))))))); Ann.seq Ann.leaf (Ann.seq Ann.leaf (Ann.seq (Ann.seq Ann.leaf (Ann.loop ⟨Nat,fun k=>k≤(zQo w).length - 1∧(a.take k).all (okN 0 4294967295)=true,fun k=>⟨[(0,aPz),(5,AV.one c),(13,AV.one c),(14,aJ ((b.toNat:Nat):Int)),(15,aJ (k:Int))],[(0,bC [cJ p.s.bits,cJ p.s.c.a,cJ p.s.c.b,cJ p.s.c.c,cJ p.s.c.d,cJ p.s.tw,cJ p.s.th,Cl.ref 2001 (p.s.ord++(a.take k).map numV).length,Cl.ref 2 p.s.ims.length,Cl.ref 3 p.s.ops.length,cJ p.part,cJ p.w,cJ p.h,Cl.ref 4 p.px.length]),(2001,Bx.row 3 1 (is (p.s.ord++(a.take k).map numV))),(2,Bx.row 43 28 (ims p.s.ims)),(3,Bx.row 51 12 (ops p.s.ops)),(4,Bx.row 37 5 (pxs p.px))]⟩,fun k=>(zQo w).length - 1 - k⟩ fun k=>Ann.leaf)) Ann.leaf))) zQs Tryz.func76 rfl (nL rfl) rfl fun hwf hbx=>by
  refine Eq.mpr (by kernel_rfl:_=(let q:=(p.s.ops.length=p.s.ops.length); let r:=(p.s.ims.length=p.s.ims.length); let g:=(zQo (ofS (toS w))); let c:=((zQo w).drop 1); let a:=(zXK p (ofS (toS w))).1; let m:=(zXK p (ofS (toS w))).2; let h:=(Cl.d (dQ m)); let i:=[Bx.cells (ppC a a.part 1),Bx.row 3 1 (is a.s.ord),Bx.row 43 28 (ims a.s.ims),Bx.row 51 12 (ops a.s.ops),Bx.row 37 5 (pxs a.px)]; let d:=((g.length:Nat):Int); let f:=(List.take ((d - 1).toNat*1) (List.drop ((1:Int).toNat*1) (strs g))); let e:=(((d - 1).toNat:Nat):Int); let s:=fun (k:Nat)=>(k≤(zQo w).length - 1∧(c.take k).all (okN 0 4294967295)=true); let j:=(dS (d - 1).toNat f=dS (d - 1).toNat f); let t:=(dJ e=dJ e); let u:=fun (k:Nat)=>(((dJ p.s.bits=dJ a.s.bits)∧(dJ p.s.c.a=dJ a.s.c.a)∧(dJ p.s.c.b=dJ a.s.c.b)∧(dJ p.s.c.c=dJ a.s.c.c)∧(dJ p.s.c.d=dJ a.s.c.d)∧(dJ p.s.tw=dJ a.s.tw)∧(dJ p.s.th=dJ a.s.th)∧((p.s.ord++(c.take k).map numV).length=a.s.ord.length)∧(p.s.ims.length=a.s.ims.length)∧(p.s.ops.length=a.s.ops.length)∧(dJ p.part=dJ a.part)∧(dJ p.w=dJ a.w)∧(dJ p.h=dJ a.h)∧(p.px.length=a.px.length)∧True)∧(is (p.s.ord++(c.take k).map numV)=is a.s.ord)∧(ims p.s.ims=ims a.s.ims)∧(ops p.s.ops=ops a.s.ops)∧(pxs p.px=pxs a.px)∧True); let n:=fun (k:Nat)=>(((dQ false=dQ m)∧True)∧(u k)); tU2 ((Ans prog 104 [RV.d (DV.str (toS w)),RV.d (DV.str (⟨#[32]⟩:ByteArray))] (RV.d (dS g.length (strs g))))∧(0≤(1:Int)∧(1:Int)≤d∧d≤d)∧tU4 ((∃ k:Nat,let v:=(p.s.ord++(c.take k).map numV); (s k)∧(((0=0)∧j∧j∧t∧(dJ 0=dJ (k:Int))∧True)∧(((dJ p.s.bits=dJ p.s.bits)∧(dJ p.s.c.a=dJ p.s.c.a)∧(dJ p.s.c.b=dJ p.s.c.b)∧(dJ p.s.c.c=dJ p.s.c.c)∧(dJ p.s.c.d=dJ p.s.c.d)∧(dJ p.s.tw=dJ p.s.tw)∧(dJ p.s.th=dJ p.s.th)∧(p.s.ord.length=v.length)∧r∧q∧(dJ p.part=dJ p.part)∧(dJ p.w=dJ p.w)∧(dJ p.h=dJ p.h)∧(p.px.length=p.px.length)∧True)∧(is p.s.ord=is v)∧(ims p.s.ims=ims p.s.ims)∧(ops p.s.ops=ops p.s.ops)∧(pxs p.px=pxs p.px)∧True)))∧∀ k:Nat,let o:=(sAt f ((k:Int).toNat*1)); let b:=(numP (ofS o)); let x:=(decide (b.1 > 4294967295)); let l:=(p.s.ord++(c.take k).map numV); (s k)→True∧(((decide ((k:Int) < e))=true→(0≤(k:Int)∧(k:Int) < e∧(k:Int).toNat*1 < f.length)∧((f[(k:Int).toNat*1]?=some (DV.str o))∧True)∧tU2 ((Ans prog 112 [RV.d (DV.str o)] (RV.tup [rJ b.1,RV.d (dQ b.2)]))∧tU8 (((!b.2)=false→tU4 (((decide (b.1 < 0))=false→tU3 ((x=true→True∧(n k)∧zQm ⟨AV.one h,i,false⟩)∧(x=false→tU8 ((zZl 1 8 l.length 1 (is l) ([dJ b.1]))∧tU6 (∃ k':Nat,let y:=(p.s.ord++(c.take k').map numV); (k'≤(zQo w).length - 1∧(c.take k').all (okN 0 4294967295)=true)∧((zQo w).length - 1 - k' < (zQo w).length - 1 - k)∧(((0=0)∧j∧j∧t∧(dJ (wK ((k:Int)+1))=dJ (k':Int))∧True)∧(((dJ p.s.bits=dJ p.s.bits)∧(dJ p.s.c.a=dJ p.s.c.a)∧(dJ p.s.c.b=dJ p.s.c.b)∧(dJ p.s.c.c=dJ p.s.c.c)∧(dJ p.s.c.d=dJ p.s.c.d)∧(dJ p.s.tw=dJ p.s.tw)∧(dJ p.s.th=dJ p.s.th)∧(l.length+1=y.length)∧r∧q∧(dJ p.part=dJ p.part)∧(dJ p.w=dJ p.w)∧(dJ p.h=dJ p.h)∧(p.px.length=p.px.length)∧True)∧((is l)++([dJ b.1])=is y)∧(ims p.s.ims=ims p.s.ims)∧(ops p.s.ops=ops p.s.ops)∧(pxs p.px=pxs p.px)∧True)))))))∧((decide (b.1 < 0))=(!false)→tU2 ((n k)∧zQm ⟨AV.one h,i,false⟩))))∧((!b.2)=(!false)→tU4 ((n k)∧zQm ⟨AV.one h,i,false⟩)))))∧((decide ((k:Int) < e))=false→tU4 ((((dQ (decide (e > 0))=dQ m)∧True)∧(u k))∧zQm ⟨AV.one h,i,false⟩))))))) ?_
  delta dJ dQ wK dS rJ
  simp only [sS,ppC,ppE]
  simp only [zZ2,zQO,zQ2,zQU,zQS,zQw,zQN]
  clear hwf hbx
  have aS:=jQz w (by omega)
  have hne:=zYV w
  have hsl:=zJ2 w
  have hwl:=zVx _ w (Nat.le_refl _)
  have go:zXK p w=({ p with s:={ p.s with ord:=p.s.ord++zVa ((zQo w).drop 1) } },((zQo w).drop 1).all (okN 0 4294967295) && decide (1 < (zQo w).length)):=rfl
  obtain ⟨ws,hws⟩:∃ ws,zQo w=ws:=⟨_,rfl⟩
  simp only [hws] at aS hne hsl hwl go ⊢
  clear hws
  match ws,hne with
  | k0::r,_=>
  have dr:List.take r.length (List.drop 1 (strs (k0::r)))=strs r:=by
   rw [show (strs (k0::r)).drop 1=strs r from rfl]
   exact List.take_of_length_le (by rw [zZe]; simp)
  have drn:((((k0::r).length:Nat):Int) - 1).toNat=r.length:=by simp
  have d1:(k0::r).drop 1=r:=rfl
  have hl:(k0::r).length=r.length+1:=rfl
  have hi1:Int.toNat 1=1:=rfl
  simp only [Nat.mul_one,hi1,dr,drn,d1,zZe]
  rw [d1] at go
  refine ⟨aS,⟨by omega,by omega,by omega⟩,⟨0,⟨by omega,rfl⟩,by rfl,by simp⟩,fun k hk=>⟨fun hlt=>?_,fun hge=>?_⟩⟩
  ·have h:k < r.length:=by omega
   obtain ⟨hk1,hk2⟩:=hk
   obtain ⟨q1,q2⟩:=zWz h
   obtain ⟨x,hx'⟩:∃ x,r[k]=x:=⟨_,rfl⟩
   have hxl:x.length≤281474976710656:=by have:=hwl x (List.mem_cons_of_mem _ (by rw [← hx']; exact List.getElem_mem h)); omega
   have hts:r.take (k+1)=r.take k++[x]:=by rw [List.take_add_one,List.getElem?_eq_getElem h,hx']; rfl
   have hsp:r=r.take k++x::r.drop (k+1):=by rw [← hx',List.getElem_cons_drop,List.take_append_drop]
   rw [hx'] at q1 q2
   have aN:=zJE x hxl
   have v:(numP x).2=true→(numP x).1=numV x:=fun h=>by
    show zKQ x=_
    unfold zKQ
    rw [zY4 h]
   have bad:okN 0 4294967295 x=false→zXK p w=({ p with s:={ p.s with ord:=p.s.ord++(r.take k).map numV } },false):=fun hb=>by
    rw [go]
    have h1:r.all (okN 0 4294967295)=false:=by rw [hsp,List.all_append,List.all_cons,hb]; simp
    have h2:zVa r=(r.take k).map numV:=by
     conv=>lhs; rw [hsp]
     exact jYy hk2 hb
    rw [h1,h2]; rfl
   simp only [q2,zQN]
   have no:¬((numP x).2=true∧¬(numP x).1 < 0∧¬(numP x).1 > 4294967295)→okN 0 4294967295 x=false:=fun h=>by
    cases hb:okN 0 4294967295 x with
    | false=>rfl
    | true=>
     unfold okN at hb
     simp only [Bool.and_eq_true,decide_eq_true_eq] at hb
     have hc:(numP x).2=true:=hb.1.1
     exact absurd ⟨hc,by rw [v hc]; omega,by rw [v hc]; omega⟩ h
   refine ⟨⟨by omega,by omega,h⟩,q1,aN,fun h1=>⟨fun h2=>⟨fun h3=>?_,fun h3=>⟨?_,k+1,⟨by omega,?_⟩,by omega,?_⟩⟩,fun h2=>?_⟩,fun h1=>?_⟩
   ·rw [bad (no fun g=>g.2.2 h3)]; ((repeat' apply And.intro) <;> first | rfl | trivial | (simp only [List.length_append,List.length_cons,List.length_nil]; done) | (simp [ims]; done) | (simp [ops]; done) | (simp [ops,Oq.cells]; done) | exact zQ3 _ | (simp [pxs]; done))
   ·exact ⟨by simp [is],rfl,by simp; unfold maxLen; omega,by simp; omega⟩
   ·have hb:okN 0 4294967295 x=true:=by
     have e:=v h1
     have h1:zYb x=true:=h1
     rw [e] at h2 h3
     unfold okN; rw [h1]; simp; omega
    rw [hts,List.all_append,hk2,List.all_cons,hb]; rfl
   ·have w1:IntKind.wrap .i64 ((k:Int)+1)=((k+1:Nat):Int):=by rw [IntWalk.i64_in _ ⟨by omega,by omega⟩]; omega
    rw [hts,v h1,w1]
    (repeat' apply And.intro) <;> first | rfl | trivial | (simp; done) | (simp [is]; done) | (simp; omega)
   ·rw [bad (no fun g=>g.2.1 h2)]; ((repeat' apply And.intro) <;> first | rfl | trivial | (simp only [List.length_append,List.length_cons,List.length_nil]; done) | (simp [ims]; done) | (simp [ops]; done) | (simp [ops,Oq.cells]; done) | exact zQ3 _ | (simp [pxs]; done))
   ·rw [bad (no fun g=>by rw [h1] at g; exact absurd g.1 (by decide))]; ((repeat' apply And.intro) <;> first | rfl | trivial | (simp only [List.length_append,List.length_cons,List.length_nil]; done) | (simp [ims]; done) | (simp [ops]; done) | (simp [ops,Oq.cells]; done) | exact zQ3 _ | (simp [pxs]; done))
  ·have:k=r.length:=by omega
   subst this
   obtain ⟨_,hk2⟩:=hk
   rw [List.take_length] at hk2
   have e:zXK p w=({ p with s:={ p.s with ord:=p.s.ord++r.map numV } },decide (0 < r.length)):=by
    rw [go,hk2,jZI hk2,Bool.true_and]
    congr 1
    simp
   rw [e,List.take_length]
   have e2:decide ((r.length:Int) > 0)=decide (0 < r.length):=by rw [Bool.eq_iff_iff]; simp
   rw [e2]
   ((repeat' apply And.intro) <;> first | rfl | trivial | (simp only [List.length_append,List.length_cons,List.length_nil]; done) | (simp [ims]; done) | (simp [ops]; done) | (simp [ops,Oq.cells]; done) | exact zQ3 _ | (simp [pxs]; done))
theorem zKk (p:PP) (w:Lb) (hw:w.length≤4294967280) (hx:p.px.length≤68719476736) (hi:p.s.ims.length≤68719476736) (hp:p.s.ops.length≤68719476736) (hn:p.s.ord.length≤68719476736) (hf:0≤p.w*p.h∧p.w*p.h≤16777216) (hd:0≤p.part∧p.part≤5):AnsG prog 36 1 [aPz,AV.one (Cl.d (DV.str (toS w)))] [Bx.cells (ppC p p.part 1),Bx.row 3 1 (is p.s.ord),Bx.row 43 28 (ims p.s.ims),Bx.row 51 12 (ops p.s.ops),Bx.row 37 5 (pxs p.px)] ⟨AV.one (Cl.d (dQ ((zXL p (ofS (toS w))).2))),[Bx.cells (ppC ((zXL p (ofS (toS w))).1) (((zXL p (ofS (toS w))).1).part) 1),Bx.row 3 1 (is ((zXL p (ofS (toS w))).1).s.ord),Bx.row 43 28 (ims ((zXL p (ofS (toS w))).1).s.ims),Bx.row 51 12 (ops ((zXL p (ofS (toS w))).1).s.ops),Bx.row 37 5 (pxs ((zXL p (ofS (toS w))).1).px)],false⟩:=
 zQy (Γ:=jZi) Ann.leaf zQs Tryz.func36 rfl (nL rfl) rfl fun hwf hbx=>by
  refine Eq.mpr (by kernel_rfl:_=(let t:=(decide (p.h > 0)); let q:=(ofS (toS w)); let i:=(is p.s.ord); let j:=(ops p.s.ops); let k:=(ims p.s.ims); let a:=(zXL p q).1; let l:=(zXL p q).2; let x:=(⟨(sE p.s),(4:Int),p.w,p.h,zQc (pxs p.px)⟩:PP); let d:=(zXK x q); let y:=(⟨(sE p.s),p.part,p.w,p.h,zQc (pxs p.px)⟩:PP); let m:=[Bx.cells (ppC a a.part 1),Bx.row 3 1 (is a.s.ord),Bx.row 43 28 (ims a.s.ims),Bx.row 51 12 (ops a.s.ops),Bx.row 37 5 (pxs a.px)]; let n:=(Cl.d (dQ l)); let o:=(⟨zQo q,false⟩:LQ); let h:=(reQ o); let u:=(reQ (zZS h)); let e:=(zZJ y h); let b:=(toS (zZx h.ws)); let c:=(pOp (⟨(sE p.s),(5:Int),p.w,p.h,zQc (pxs p.px)⟩:PP) u (ofS b)); let z:=[Bx.cells (ppC c.1 c.1.part 1),Bx.row 3 1 (is c.1.s.ord),Bx.row 43 28 (ims c.1.s.ims),Bx.row 51 12 (ops c.1.s.ops),Bx.row 37 5 (pxs c.1.px)]; let f:=(zZG x u (ofS b)); let g:=(zXn y u (ofS b)); let A:=[Cl.d (dS o.ws.length (strs o.ws))]; let B:=[bC [Cl.clo 105 [Cap.ptr 1 0],Cl.d (dQ o.bad)],Bx.cells A]; let C:=[Bx.cells (ppC p p.part 1),Bx.row 3 1 i,Bx.row 43 28 k,Bx.row 51 12 j,Bx.row 37 5 (pxs p.px)]; let D:=(ppC p p.part 2); let r:=[Cl.d (dS (zZS h).ws.length (strs (zZS h).ws))]; let s:=[aPz,AV.one (Cl.ptr 1 0),AV.one (Cl.d (DV.str b))]; let v:=[Cl.clo 105 [Cap.ptr 6 0],Cl.d (dQ (zZS h).bad)]; let E:=[Bx.cells (ppC p 5 2),Bx.cells v,Bx.row 3 1 i,Bx.row 43 28 k,Bx.row 51 12 j,Bx.row 37 5 (pxs p.px),Bx.cells r]; let F:=(((dQ c.2=dQ l)∧True)∧(ppE c.1 a)); let G:=(((decide (p.part≤4))=true→tU7 ((AnsG prog 77 1 s [Bx.cells (ppC p 4 2),Bx.cells v,Bx.row 3 1 i,Bx.row 43 28 k,Bx.row 51 12 j,Bx.row 37 5 (pxs p.px),Bx.cells r] ⟨AV.one (Cl.d (dQ f.2)),[Bx.cells (ppC f.1 f.1.part 1),Bx.row 3 1 (is f.1.s.ord),Bx.row 43 28 (ims f.1.s.ims),Bx.row 51 12 (ops f.1.s.ops),Bx.row 37 5 (pxs f.1.px)],false⟩)∧True∧(((dQ f.2=dQ l)∧True)∧(ppE f.1 a))∧zQm ⟨AV.one n,m,false⟩))∧((decide (p.part≤4))=false→tU7 ((AnsG prog 78 1 s E ⟨AV.one (Cl.d (dQ c.2)),z,false⟩)∧True∧F∧zQm ⟨AV.one n,m,false⟩))); let H:=(((b.toList==(⟨#[115,111,108,105,100]⟩:ByteArray).toList)=false→tU4 (((b.toList==(⟨#[105,109,97,103,101]⟩:ByteArray).toList)=true→tU7 G)∧((b.toList==(⟨#[105,109,97,103,101]⟩:ByteArray).toList)=(!true)→True∧tU8 ((AnsG prog 78 1 s E ⟨AV.one (Cl.d (dQ c.2)),z,false⟩)∧True∧F∧zQm ⟨AV.one n,m,false⟩))))∧((b.toList==(⟨#[115,111,108,105,100]⟩:ByteArray).toList)=(!false)→True∧tU8 G)); tU2 ((AnsG prog 72 0 [AV.one (Cl.d (DV.str (toS w)))] [] ⟨aPz,B,false⟩)∧tU2 ((AnsG prog 37 5 [aPz] C ⟨AV.one (Cl.d (dQ t)),C,false⟩)∧((t=true→tU2 ((AnsG prog 73 1 [aPz,AV.one (Cl.ptr 1 0)] [Bx.cells D,bC [Cl.clo 105 [Cap.ptr 6 0],Cl.d (dQ o.bad)],Bx.row 3 1 i,Bx.row 43 28 k,Bx.row 51 12 j,Bx.row 37 5 (pxs p.px),Bx.cells A] ⟨AV.one (Cl.d (dQ e.2)),[Bx.cells (ppC e.1 e.1.part 1),Bx.row 3 1 (is e.1.s.ord),Bx.row 43 28 (ims e.1.s.ims),Bx.row 51 12 (ops e.1.s.ops),Bx.row 37 5 (pxs e.1.px)],false⟩)∧True∧(((dQ e.2=dQ l)∧True)∧(ppE e.1 a))∧zQm ⟨AV.one n,m,false⟩))∧(t=false→True∧(AnsG prog 74 2 [aPz] B ⟨AV.one (Cl.d (DV.str b)),[bC [Cl.clo 105 [Cap.ptr 1 0],Cl.d (dQ (zZS h).bad)],Bx.cells r],false⟩)∧tU6 (((decide (p.part≤2))=true→tU3 ((AnsG prog 75 1 s [Bx.cells D,Bx.cells v,Bx.row 3 1 i,Bx.row 43 28 k,Bx.row 51 12 j,Bx.row 37 5 (pxs p.px),Bx.cells r] ⟨AV.one (Cl.d (dQ g.2)),[Bx.cells (ppC g.1 g.1.part 1),Bx.row 3 1 (is g.1.s.ord),Bx.row 43 28 (ims g.1.s.ims),Bx.row 51 12 (ops g.1.s.ops),Bx.row 37 5 (pxs g.1.px)],false⟩)∧True∧(((dQ g.2=dQ l)∧True)∧(ppE g.1 a))∧zQm ⟨AV.one n,m,false⟩))∧((decide (p.part≤2))=false→tU3 (((b.toList==(⟨#[111,114,100,101,114]⟩:ByteArray).toList)=true→tU7 (((p.part==3)=true→tU6 ((AnsG prog 76 1 [aPz,AV.one (Cl.d (DV.str (toS w)))] [Bx.cells (ppC p 4 1),Bx.row 3 1 i,Bx.row 43 28 k,Bx.row 51 12 j,Bx.row 37 5 (pxs p.px)] ⟨AV.one (Cl.d (dQ d.2)),[Bx.cells (ppC d.1 d.1.part 1),Bx.row 3 1 (is d.1.s.ord),Bx.row 43 28 (ims d.1.s.ims),Bx.row 51 12 (ops d.1.s.ops),Bx.row 37 5 (pxs d.1.px)],false⟩)∧True∧(((dQ d.2=dQ l)∧True)∧(ppE d.1 a))∧zQm ⟨AV.one n,m,false⟩))∧((p.part==3)=false→tU3 H)))∧((b.toList==(⟨#[111,114,100,101,114]⟩:ByteArray).toList)=(!true)→tU5 H)))))))))) ?_
  delta sE dQ dS aPz bC
  simp only [sS,ppC,ppE]
  simp only [zZ2,zQO,zQ2,zQU,zQS,zQw,zQN]
  clear hwf hbx
  have lb:(⟨#[98,105,116,115]⟩:ByteArray)=toS zYc:=rfl
  have lc:(⟨#[99,97,110,118,97,115]⟩:ByteArray)=toS zZE:=rfl
  have lt:(⟨#[116,105,108,101,115]⟩:ByteArray)=toS zXa:=rfl
  have li:(⟨#[105,109,97,103,101]⟩:ByteArray)=toS zQ0:=rfl
  have ld:(⟨#[100,114,97,119]⟩:ByteArray)=toS zZ0:=rfl
  have lu:(⟨#[112,117,115,104]⟩:ByteArray)=toS zZ1:=rfl
  have lo:(⟨#[112,111,112]⟩:ByteArray)=toS sPop:=rfl
  have lr:(⟨#[111,114,100,101,114]⟩:ByteArray)=toS zZy:=rfl
  have ls:(⟨#[115,111,108,105,100]⟩:ByteArray)=toS zQY:=rfl
  have hq:okQ ⟨zQo w,false⟩:=fun x hx=>by have:=zVx _ w (Nat.le_refl _) x hx; omega
  have aO:=zGF w (by omega)
  have aN:=zZ8 ⟨zQo w,false⟩
  have aIn:=zXQ p
  have q1:okQ (zZS ⟨zQo w,false⟩):=jZP hq
  obtain ⟨Q,hQ⟩:∃ Q:LQ,zZS ⟨zQo w,false⟩=Q:=⟨_,rfl⟩
  obtain ⟨W,hW⟩:∃ W:Lb,zZx (zQo w)=W:=⟨_,rfl⟩
  have go:zXL p w=(if 0 < p.h then zZJ p ⟨zQo w,false⟩ else if p.part≤2 then zXn p Q W
   else if W=zZy∧p.part=3 then zXK { p with part:=4 } w
   else if (W=zQY∨W=zQ0)∧p.part≤4 then zZG { p with part:=4 } Q W
   else pOp { p with part:=5 } Q W):=by rw [← hQ,← hW]; rfl
  simp only [hQ,hW] at aN q1 ⊢
  simp only [lr,ls,li,zXj,decide_eq_true_eq,decide_eq_false_iff_not,beq_iff_eq,beq_eq_false_iff_ne]
  have gPx:=zJA p ⟨zQo w,false⟩ hq hx hi hp hn hf hd
  have gHd:=zKl p Q W q1 hx hi hp hn hf hd
  have gOr:=zJB { p with part:=4 } w hw hx hi hp hn hf ⟨by simp,by simp⟩
  have gIm:=zJC { p with part:=4 } Q W q1 hx hi hp hn hf ⟨by simp,by simp⟩
  have gOp:=zK0 { p with part:=5 } Q W q1 hx hi hp hn hf ⟨by simp,by simp⟩
  have eIm:0 < p.h→False∨True:=fun _=>.inr trivial
  refine ⟨aO,aIn,fun h1=>⟨gPx,?_⟩,fun h1=>⟨aN,fun h2=>⟨gHd,?_⟩,fun h2=>?_⟩⟩
  ·rw [if_pos h1] at go
   rw [go]; ((repeat' apply And.intro) <;> first | rfl | trivial | (simp only [List.length_append,List.length_cons,List.length_nil]; done) | (simp [ims]; done) | (simp [ops]; done) | (simp [ops,Oq.cells]; done) | exact zQ3 _ | (simp [pxs]; done))
  ·rw [if_neg h1,if_pos h2] at go
   rw [go]; ((repeat' apply And.intro) <;> first | rfl | trivial | (simp only [List.length_append,List.length_cons,List.length_nil]; done) | (simp [ims]; done) | (simp [ops]; done) | (simp [ops,Oq.cells]; done) | exact zQ3 _ | (simp [pxs]; done))
  ·rw [if_neg h1,if_neg h2] at go
   refine ⟨fun h3=>⟨fun h4=>⟨gOr,?_⟩,fun h4=>⟨fun h5=>⟨fun h7=>⟨fun h6=>⟨gIm,?_⟩,fun h6=>⟨gOp,?_⟩⟩,fun h7=>⟨gOp,?_⟩⟩,fun h5=>⟨fun h6=>⟨gIm,?_⟩,fun h6=>⟨gOp,?_⟩⟩⟩⟩,fun h3=>⟨fun h5=>⟨fun h7=>⟨fun h6=>⟨gIm,?_⟩,fun h6=>⟨gOp,?_⟩⟩,fun h7=>⟨gOp,?_⟩⟩,fun h5=>⟨fun h6=>⟨gIm,?_⟩,fun h6=>⟨gOp,?_⟩⟩⟩⟩
   ·rw [if_pos ⟨h3,h4⟩] at go
    rw [go]; ((repeat' apply And.intro) <;> first | rfl | trivial | (simp only [List.length_append,List.length_cons,List.length_nil]; done) | (simp [ims]; done) | (simp [ops]; done) | (simp [ops,Oq.cells]; done) | exact zQ3 _ | (simp [pxs]; done))
   ·rw [if_neg (fun h=>h4 h.2),if_pos ⟨.inr h7,h6⟩] at go
    rw [go]; ((repeat' apply And.intro) <;> first | rfl | trivial | (simp only [List.length_append,List.length_cons,List.length_nil]; done) | (simp [ims]; done) | (simp [ops]; done) | (simp [ops,Oq.cells]; done) | exact zQ3 _ | (simp [pxs]; done))
   ·rw [if_neg (fun h=>h4 h.2),if_neg (fun h=>h6 h.2)] at go
    rw [go]; ((repeat' apply And.intro) <;> first | rfl | trivial | (simp only [List.length_append,List.length_cons,List.length_nil]; done) | (simp [ims]; done) | (simp [ops]; done) | (simp [ops,Oq.cells]; done) | exact zQ3 _ | (simp [pxs]; done))
   ·rw [if_neg (fun h=>h4 h.2),if_neg (fun h=>h.1.elim h5 h7)] at go
    rw [go]; ((repeat' apply And.intro) <;> first | rfl | trivial | (simp only [List.length_append,List.length_cons,List.length_nil]; done) | (simp [ims]; done) | (simp [ops]; done) | (simp [ops,Oq.cells]; done) | exact zQ3 _ | (simp [pxs]; done))
   ·rw [if_neg (fun h=>h4 h.2),if_pos ⟨.inl h5,h6⟩] at go
    rw [go]; ((repeat' apply And.intro) <;> first | rfl | trivial | (simp only [List.length_append,List.length_cons,List.length_nil]; done) | (simp [ims]; done) | (simp [ops]; done) | (simp [ops,Oq.cells]; done) | exact zQ3 _ | (simp [pxs]; done))
   ·rw [if_neg (fun h=>h4 h.2),if_neg (fun h=>h6 h.2)] at go
    rw [go]; ((repeat' apply And.intro) <;> first | rfl | trivial | (simp only [List.length_append,List.length_cons,List.length_nil]; done) | (simp [ims]; done) | (simp [ops]; done) | (simp [ops,Oq.cells]; done) | exact zQ3 _ | (simp [pxs]; done))
   ·rw [if_neg (fun h=>h3 h.1),if_pos ⟨.inr h7,h6⟩] at go
    rw [go]; ((repeat' apply And.intro) <;> first | rfl | trivial | (simp only [List.length_append,List.length_cons,List.length_nil]; done) | (simp [ims]; done) | (simp [ops]; done) | (simp [ops,Oq.cells]; done) | exact zQ3 _ | (simp [pxs]; done))
   ·rw [if_neg (fun h=>h3 h.1),if_neg (fun h=>h6 h.2)] at go
    rw [go]; ((repeat' apply And.intro) <;> first | rfl | trivial | (simp only [List.length_append,List.length_cons,List.length_nil]; done) | (simp [ims]; done) | (simp [ops]; done) | (simp [ops,Oq.cells]; done) | exact zQ3 _ | (simp [pxs]; done))
   ·rw [if_neg (fun h=>h3 h.1),if_neg (fun h=>h.1.elim h5 h7)] at go
    rw [go]; ((repeat' apply And.intro) <;> first | rfl | trivial | (simp only [List.length_append,List.length_cons,List.length_nil]; done) | (simp [ims]; done) | (simp [ops]; done) | (simp [ops,Oq.cells]; done) | exact zQ3 _ | (simp [pxs]; done))
   ·rw [if_neg (fun h=>h3 h.1),if_pos ⟨.inl h5,h6⟩] at go
    rw [go]; ((repeat' apply And.intro) <;> first | rfl | trivial | (simp only [List.length_append,List.length_cons,List.length_nil]; done) | (simp [ims]; done) | (simp [ops]; done) | (simp [ops,Oq.cells]; done) | exact zQ3 _ | (simp [pxs]; done))
   ·rw [if_neg (fun h=>h3 h.1),if_neg (fun h=>h6 h.2)] at go
    rw [go]; ((repeat' apply And.intro) <;> first | rfl | trivial | (simp only [List.length_append,List.length_cons,List.length_nil]; done) | (simp [ims]; done) | (simp [ops]; done) | (simp [ops,Oq.cells]; done) | exact zQ3 _ | (simp [pxs]; done))
def fixO (l:List Oq):Int:=match l.findIdx? (fun o=>!prtO o) with
 | some i=>(i:Int)
 | none => -1
def zPP:PP:=⟨zScr,0,0,0,[]⟩
def pEnd (p:PP) (n:Int):Scr × Int × Int:=if p.part≤2∨0 < p.h then (zScr,n+1,19) else if zZX p.s=true∧p.s.ops.all prtO=true then (p.s,0,0) else (zScr,0,19)
def pGo (p:PP) (n:Int) (acc:Lb):Lb→Scr × Int × Int
 | []=>if acc≠[] then (zScr,n+1,19) else pEnd p n
 | c::r=>if c=10 then (if (zXL p acc).2=true then pGo (zXL p acc).1 (n+1) [] r else (zScr,n+1,19)) else pGo p n (acc++[c]) r
def zZa (t:Lb):Scr × Int × Int:=pGo zPP 0 [] t
theorem jKu {p:PP} {n:Int}:∀ {t acc:Lb},(10:UInt8) ∉ t→pGo p n acc t=if acc++t≠[] then (zScr,n+1,19) else pEnd p n
 | [],acc,_=>by rw [List.append_nil]; rfl
 | c::t,acc,h=>by
  simp only [List.mem_cons,not_or] at h
  rw [pGo,if_neg (fun e=>h.1 e.symm),jKu h.2,List.append_assoc]; rfl
theorem jKv {p:PP} {n:Int} {b:Lb}:∀ {a acc:Lb},(10:UInt8) ∉ a→pGo p n acc (a++10::b)=if (zXL p (acc++a)).2=true then pGo (zXL p (acc++a)).1 (n+1) [] b else (zScr,n+1,19)
 | [],acc,_=>by rw [List.append_nil,List.nil_append,pGo,if_pos rfl]
 | c::a,acc,h=>by
  simp only [List.mem_cons,not_or] at h
  rw [List.cons_append,pGo,if_neg (fun e=>h.1 e.symm),jKv h.2,List.append_assoc]; rfl
structure PP.ok (p:PP) (k:Nat):Prop where
  od:p.s.ord.length≤k
  im:p.s.ims.length≤k
  op:p.s.ops.length≤k
  px:p.px.length≤k
  f0:0≤p.w*p.h
  f1:p.w*p.h≤16777216
  d0:0≤p.part
  d1:p.part≤5
  hU:∀ m∈p.s.ims,m.isU
theorem jYw {p:PP} {k:Nat} (h:p.ok k) (q:LQ):(zZJ p q).1.ok (k+1):=by
 obtain ⟨h1,h2,h3,h4,h5,h6,h7,h8,h9⟩:=h
 unfold zZJ
 split
 ·split
  ·exact ⟨by show _≤_; simp; omega,by simp; omega,by simp; omega,by simp,by simp,by simp,h7,h8,fun m hm=>by
    rcases List.mem_append.1 hm with hm | hm
    ·exact h9 m hm
    ·rw [List.mem_singleton.1 hm]; exact zG9 _ _ _⟩
  ·exact ⟨by simp; omega,by simp; omega,by simp; omega,by simp; omega,h5,h6,h7,h8,h9⟩
 ·exact ⟨by simp; omega,by simp; omega,by simp; omega,by simp; omega,h5,h6,h7,h8,h9⟩
theorem jJD {p:PP} {k:Nat} (h:p.ok k) (q:LQ) (w:Lb) (hp:p.part≤2):(zXn p q w).1.ok (k+1):=by
 obtain ⟨h1,h2,h3,h4,h5,h6,h7,h8,h9⟩:=h
 unfold zXn
 (repeat' split) <;> exact ⟨by simp; omega,by simp; omega,by simp; omega,by simp; omega,h5,h6,by simp; omega,by simp; omega,h9⟩
theorem jX9 (q:LQ):0≤(sizQ q).1.1*(sizQ q).1.2∧(sizQ q).1.1*(sizQ q).1.2≤16777216:=by
 unfold sizQ
 simp only
 split
 ·simp
 ·rename_i h
  simp only [not_or] at h
  obtain ⟨h1,h2⟩:=h
  have hb:=jYC (by simpa using h1:(numQ (numQ q 1 16777216).2 1 16777216).2.bad=false)
  have ha:0≤(numQ q 1 16777216).1:=by
   by_cases e:okN 1 16777216 (zZx q.ws)=true
   ·have:=zKw e
    unfold numQ; rw [if_pos e]; show (0:Int)≤numV (zZx q.ws); omega
   ·unfold numQ; rw [if_neg e]; simp
  generalize (numQ (numQ q 1 16777216).2 1 16777216).1=B at *
  generalize (numQ q 1 16777216).1=A at *
  refine ⟨Int.mul_nonneg ha (by show 0≤B; omega),?_⟩
  have h3:A≤16777216 / B:=by omega
  have h4:=Int.mul_le_mul_of_nonneg_right h3 (by omega:0≤B)
  have h5:=Int.ediv_mul_le 16777216 (by omega:B≠0)
  show A*B≤16777216
  omega
theorem jYz {p:PP} {k:Nat} (h:p.ok k) (q:LQ) (w:Lb):(zZG p q w).1.ok (k+1):=by
 obtain ⟨h1,h2,h3,h4,h5,h6,h7,h8,h9⟩:=h
 unfold zZG
 split
 ·exact ⟨by simp; omega,by simp; omega,by simp; omega,by simp; omega,h5,h6,h7,h8,h9⟩
 ·split
  ·exact ⟨by simp; omega,by simp; omega,by simp; omega,by simp; omega,(jX9 q).1,(jX9 q).2,h7,h8,h9⟩
  ·exact ⟨by simp; omega,by simp; omega,by simp; omega,by simp; omega,h5,h6,h7,h8,fun m hm=>by
    rcases List.mem_append.1 hm with hm | hm
    ·exact h9 m hm
    ·rw [List.mem_singleton.1 hm]; exact zYr _ _ _⟩
theorem jV2 {p:PP} {k:Nat} (h:p.ok k) (q:LQ) (w:Lb):(pOp p q w).1.ok (k+1):=by
 obtain ⟨h1,h2,h3,h4,h5,h6,h7,h8,h9⟩:=h
 unfold pOp
 (repeat' split) <;> exact ⟨by simp; omega,by simp; omega,by simp; omega,by simp; omega,h5,h6,h7,h8,h9⟩
theorem jYx (l:List Lb):(zVa l).length≤l.length:=by
 induction l with
 | nil=>exact Nat.le_refl _
 | cons w l ih=>
  unfold zVa
  split
  ·simp; exact ih
  ·simp
theorem jJC {p:PP} {k:Nat} (h:p.ok k) (t:Lb):(zXL p t).1.ok (k+t.length+1):=by
 have up:∀ {P:PP} {a b:Nat},P.ok a→a≤b→P.ok b:=fun {P a b} h hab=>⟨Nat.le_trans h.1 hab,Nat.le_trans h.2 hab,Nat.le_trans h.3 hab,Nat.le_trans h.4 hab,h.5,h.6,h.7,h.8,h.9⟩
 have p4:PP.ok { p with part:=4 } k:=⟨h.1,h.2,h.3,h.4,h.5,h.6,by simp,by simp,h.9⟩
 have p5:PP.ok { p with part:=5 } k:=⟨h.1,h.2,h.3,h.4,h.5,h.6,by simp,by simp,h.9⟩
 unfold zXL
 split
 ·exact up (jYw h _) (by omega)
 ·simp only
  split
  ·rename_i hp; exact up (jJD h _ _ hp) (by omega)
  ·split
   ·obtain ⟨h1,h2,h3,h4,h5,h6,h7,h8,h9⟩:=p4
    have hn:=jYx ((zQo t).drop 1)
    have hs:=zJ2 t
    rw [List.length_drop] at hn
    unfold zXK
    generalize zVa ((zQo t).drop 1)=L at *
    obtain ⟨g1,g2,g3,g4,g5,g6,g7,g8,g9⟩:=h
    exact ⟨by simp; omega,by simp; omega,by simp; omega,by simp; omega,h5,h6,h7,h8,h9⟩
   ·split
    ·exact up (jYz p4 _ _) (by omega)
    ·exact up (jV2 p5 _ _) (by omega)
theorem jVa (p:PP) (n:Int) (t:Lb):((cutL t).2.2=true→pGo p n [] t=(if (zXL p (cutL t).1).2=true then pGo (zXL p (cutL t).1).1 (n+1) [] (cutL t).2.1 else (zScr,n+1,19))∧(cutL t).1.length+(cutL t).2.1.length+1=t.length) ∧
  ((cutL t).2.2=false→t≠[]→pGo p n [] t=(zScr,n+1,19)):=by
 rcases idx1 10 t with ⟨_,h⟩ | ⟨a,b,rfl,h,_⟩
 ·rw [jY8 h]
  refine ⟨fun h=>(by cases h),fun _ hne=>?_⟩
  rw [jKu h,List.nil_append,if_pos hne]
 ·rw [jY9 h]
  refine ⟨fun _=>⟨?_,by simp; omega⟩,fun h=>(by cases h)⟩
  rw [jKv h,List.nil_append]
theorem PP.eta_ (p:PP):(⟨p.s,p.part,p.w,p.h,p.px⟩:PP)=p:=rfl
theorem jVQ (t:Lb):((toS t).toList==(⟨#[]⟩:ByteArray).toList)=decide (t=[]):=zXj t []
def v13 (n:Int):Bool:=decide (1≤n∧n < 13)
theorem jVH {l:List Oq} {k:Nat} (h:k < l.length) (hb:(l.take k).all prtO=true) (hk:prtO l[k]=false):fixO l=(k:Int):=by
 unfold fixO
 have:l.findIdx? (fun o=>!prtO o)=some k:=by
  rw [List.findIdx?_eq_some_iff_getElem]
  refine ⟨h,by simp [hk],fun j hj=>?_⟩
  have:=List.all_eq_true.1 hb l[j] (by rw [List.mem_take_iff_getElem]; exact ⟨j,by omega,rfl⟩)
  simp [this]
 rw [this]
theorem jVF {l:List Oq} (hb:l.all prtO=true):fixO l = -1:=by
 unfold fixO
 have:l.findIdx? (fun o=>!prtO o)=none:=by
  rw [List.findIdx?_eq_none_iff]
  intro o ho
  simp [List.all_eq_true.1 hb o ho]
 rw [this]
theorem jVG (l:List Oq):decide (fixO l≥0)=!l.all prtO:=by
 unfold fixO
 cases h:l.findIdx? (fun o=>!prtO o) with
 | some i=>
  rw [List.findIdx?_eq_some_iff_getElem] at h
  obtain ⟨hi,h1,_⟩:=h
  have:l.all prtO=false:=by
   rw [List.all_eq_false]
   exact ⟨l[i],List.getElem_mem hi,by simpa using h1⟩
  rw [this]; simp
 | none=>
  rw [List.findIdx?_eq_none_iff] at h
  have:l.all prtO=true:=List.all_eq_true.2 fun o ho=>by simpa using h o ho
  rw [this]; simp
def gZ47 (xs:List RV):Option RV:=match xs with | [.agg [.int _ okind,.int _ oimage,.int _ ox,.int _ oy,.int _ omask,.int _ omx,.int _ omy,.int _ oopac,.int _ ooper,.int _ omode,.bool oiso,.bool okno]]=>some (RV.d (dQ (prtO (⟨okind,oimage,ox,oy,omask,omx,omy,oopac,ooper,omode,oiso,okno⟩:Oq)))) | _=>none
def jYT:Gam where
 pure:=fun f xs=>
  if f=55 then gZ1 xs else
  if f=56 then gZ3 xs else
  if f=25 then gZ47 xs else
  if f=39 then (match xs with | [.agg [.int _ okind,.int _ oimage,.int _ ox,.int _ oy,.int _ omask,.int _ omx,.int _ omy,.int _ oopac,.int _ ooper,.int _ omode,.bool oiso,.bool okno]]=>some (RV.d (dQ (!prtO (⟨okind,oimage,ox,oy,omask,omx,omy,oopac,ooper,omode,oiso,okno⟩:Oq)))) | _=>none) else
  if f=79 then (match xs with | [.d (.sl qn qxs),.d (.fn 39)]=>some (rJ (fixO (zQK qxs))) | _=>none) else
  if f=38 then (match xs with | [.d (.sl qn qxs),.d (.fn 39)]=>some (RV.d (dQ (!(zQK qxs).all prtO))) | _=>none) else
  if f=35 then (match xs with | [.d (.str s),.d (.str sep)]=>some (RV.tup [RV.d (DV.str (toS (cutL (ofS s)).1)),RV.d (DV.str (toS (cutL (ofS s)).2.1)),RV.d (dQ (cutL (ofS s)).2.2)]) | _=>none) else
  if f=24 then gZ28 xs else
  none
 modes:=fun f=>
  if f=36 then some ([false,true],1,4) else
  if f=37 then some ([false],5,0) else
  none
 proc:=fun f xs bs=>
  if f=36 then (match xs,bs with | [AV.one (Cl.ptr 0 0),AV.one (Cl.d (DV.str t))],[Bx.cells [Cl.d (DV.int _ bits),Cl.d (DV.int _ cx0),Cl.d (DV.int _ cy0),Cl.d (DV.int _ cx1),Cl.d (DV.int _ cy1),Cl.d (DV.int _ tw),Cl.d (DV.int _ th),Cl.ref 1 on,Cl.ref 2 mn,Cl.ref 3 qn,Cl.d (DV.int _ part),Cl.d (DV.int _ w),Cl.d (DV.int _ h),Cl.ref 4 ln],Bx.row _ _ oxs,Bx.row _ _ mxs,Bx.row _ _ qxs,Bx.row _ _ lxs]=>let a:=(zXL (⟨⟨bits,⟨cx0,cy0,cx1,cy1⟩,tw,th,ints oxs,zQR mxs,zQK qxs⟩,part,w,h,zQc lxs⟩:PP) (ofS t)); some ⟨AV.one (Cl.d (DV.bool a.2)),[Bx.cells (ppC a.1 a.1.part 1),Bx.row 3 1 (is a.1.s.ord),Bx.row 43 28 (ims a.1.s.ims),Bx.row 51 12 (ops a.1.s.ops),Bx.row 37 5 (pxs a.1.px)],false⟩ | _,_=>none) else
  if f=37 then gZ46 xs bs else
  none
 iter:=fun f cs=>
  none
theorem zYA (o:Oq):Ans prog 25 [RV.agg [dJ o.kind,dJ o.image,dJ o.x,dJ o.y,dJ o.mask,dJ o.mx,dJ o.my,dK o.opac,dJ o.oper,dJ o.mode,dQ o.iso,dQ o.kno]] (RV.d (dQ (prtO o))):=
 zQj (Γ:=jYT) Ann.leaf zQs Tryz.func25 rfl (nL rfl) fun hwf=>by
  refine Eq.mpr (by kernel_rfl:_=(let c:=(zQn o.oper); let a:=(dQ (prtO o)); let b:=(RV.d (dQ false)=RV.d a); let d:=(Ans prog 55 [rJ o.oper] (RV.d (DV.str c))); let e:=(((!(c.toList==(⟨#[]⟩:ByteArray).toList))=true→tU2 ((Ans prog 56 [rJ o.mode] (RV.d (DV.str (zQe o.mode))))∧tU3 (RV.d (dQ (!((zQe o.mode).toList==(⟨#[]⟩:ByteArray).toList)))=RV.d a)))∧((!(c.toList==(⟨#[]⟩:ByteArray).toList))=(!true)→tU2 b)); tU6 (((o.kind==1)=true→tU3 ((o.iso=false→tU3 ((o.kno=true→True∧RV.d (dQ false)=RV.d a)∧(o.kno=false→tU2 (d∧tU2 e))))∧(o.iso=(!false)→tU2 b)))∧((o.kind==1)=false→tU2 (((o.kind==2)=true→tU4 (((o.image != 0)=false→tU5 (((o.x != 0)=false→tU4 (((o.y != 0)=true→True∧RV.d (dQ false)=RV.d a)∧((o.y != 0)=false→tU2 (d∧tU2 e))))∧((o.x != 0)=(!false)→tU2 b)))∧((o.image != 0)=(!false)→tU4 b)))∧((o.kind==2)=false→tU2 (((o.kind==3)=true→tU4 (RV.d (dQ ((o.kind==3) && ((o.image==0) && ((o.x==0) && ((o.y==0) && ((o.mask==0) && ((o.mx==0) && ((o.my==0) && ((o.opac==0) && ((o.oper==0) && ((o.mode==0) && ((o.iso==false) && ((o.kno==false) && true)))))))))))))=RV.d a))∧((o.kind==3)=false→True∧RV.d (dQ false)=RV.d a)))))))) ?_
  delta dQ rJ
  simp only [sS,ppC,ppE]
  have en:∀ op:Int,((zQn op).toList=(⟨#[]⟩:ByteArray).toList)↔v13 op=false:=fun op=>by
   unfold v13
   by_cases h:1≤op∧op < 13
   ·rw [decide_eq_true h]
    refine ⟨fun e=>absurd e ?_,fun e=>by cases e⟩
    rcases zX0 h with rfl | rfl | rfl | rfl | rfl | rfl | rfl | rfl | rfl | rfl | rfl | rfl <;> decide +kernel
   ·rw [decide_eq_false h]
    exact ⟨fun _=>rfl,fun _=>by simp [zQn,h]⟩
  have em:∀ op:Int,(!((zQe op).toList==(⟨#[]⟩:ByteArray).toList))=v13 op:=fun op=>by
   unfold v13
   by_cases h:1≤op∧op < 13
   ·rw [decide_eq_true h]
    rcases zX0 h with rfl | rfl | rfl | rfl | rfl | rfl | rfl | rfl | rfl | rfl | rfl | rfl <;> decide +kernel
   ·rw [decide_eq_false h]
    simp [zQe,h]
  have aN:=zZh o.oper
  have aM:=zZ5 o.mode
  have pe:o.kind=3→(o.kind==3 && (o.image==0 && (o.x==0 && (o.y==0 && (o.mask==0 && (o.mx==0 && (o.my==0 && (o.opac==0 && (o.oper==0 && (o.mode==0 && (o.iso==false && (o.kno==false && true))))))))))))=decide (o=popO):=fun h=>by
   rw [Bool.eq_iff_iff]
   obtain ⟨a,b,c,d,e,f,g,h,i,j,k,l⟩:=o
   simp [popO]
  have p0:prtO o=(if o.kind=1 then !o.iso && !o.kno && v13 o.oper && v13 o.mode
   else if o.kind=2 then decide (o.image=0) && decide (o.x=0) && decide (o.y=0) && v13 o.oper && v13 o.mode
   else if o.kind=3 then decide (o=popO) else false):=rfl
  clear hwf
  simp only [ne_eq,en,em,beq_iff_eq,beq_eq_false_iff_ne,bne_iff_ne,bne_eq_false_iff_eq] at *
  rw [p0]
  clear p0 en em
  generalize v13 o.oper=vo at *
  generalize v13 o.mode=vm at *
  (repeat' (first | apply And.intro | intro _)) <;> first | exact aN | exact aM | (simp only [*]; done) | (clear aN aM; simp_all; done) | (clear aN aM; cases vo <;> cases vm <;> simp_all; done)
theorem zWb (o:Oq):Ans prog 39 [RV.agg [dJ o.kind,dJ o.image,dJ o.x,dJ o.y,dJ o.mask,dJ o.mx,dJ o.my,dK o.opac,dJ o.oper,dJ o.mode,dQ o.iso,dQ o.kno]] (RV.d (dQ (!prtO o))):=
 zQj (Γ:=jYT) Ann.leaf zQs Tryz.func39 rfl (nL rfl) fun hwf=>by
  refine Eq.mpr (by kernel_rfl:_=(tU3 ((Ans prog 25 [RV.agg (Oq.cells o)] (RV.d (dQ (prtO o))))∧tU2 (RV.d (dQ (!(prtO o)))=RV.d (dQ (!prtO o)))))) ?_
  delta dQ
  simp only [sS,ppC,ppE]
  exact zYA o
theorem zVO (l:List Oq):Ans prog 79 [RV.d (dS l.length (ops l)),RV.d (DV.fn 39)] (rJ ((fixO (zQK (ops l))))):=
 zQj (Γ:=jYT) (Ann.seq Ann.leaf (Ann.seq (Ann.seq Ann.leaf (Ann.loop ⟨Nat,fun k=>k≤l.length∧(l.take k).all prtO=true,fun k=>⟨[(0,AV.one (Cl.d (dS l.length (ops l)))),(1,AV.one (Cl.d (DV.fn 39))),(7,aJ (l.length:Int)),(8,aJ (k:Int))],[]⟩,fun k=>l.length - k⟩ fun k=>Ann.leaf)) Ann.leaf)) zQs Tryz.func79 rfl (nL rfl) fun hwf=>by
  refine Eq.mpr (by kernel_rfl:_=(let a:=(l.length:Int); let q:=fun (k:Nat)=>(k≤l.length∧(l.take k).all prtO=true); let r:=(dS l.length (ops l)=dS l.length (ops l)); let s:=(DV.fn 39=DV.fn 39); let t:=(dJ a=dJ a); let u:=(dJ (fixO (zQK (ops l)))); tU4 ((∃ k:Nat,(q k)∧((r∧s∧t∧(dJ 0=dJ (k:Int))∧True)∧True))∧∀ k:Nat,let v:=(decide ((k:Int) < a)); let b:=(nAt (ops l) ((k:Int).toNat*12)); let c:=(nAt (ops l) ((k:Int).toNat*12+1)); let d:=(nAt (ops l) ((k:Int).toNat*12+1+1)); let e:=(nAt (ops l) ((k:Int).toNat*12+1+1+1)); let f:=(bAt (ops l) ((k:Int).toNat*12+1+1+1+1+1+1+1+1+1+1)); let g:=(nAt (ops l) ((k:Int).toNat*12+1+1+1+1+1+1+1+1+1)); let h:=(nAt (ops l) ((k:Int).toNat*12+1+1+1+1+1+1+1+1)); let i:=(nAt (ops l) ((k:Int).toNat*12+1+1+1+1+1+1+1)); let j:=(nAt (ops l) ((k:Int).toNat*12+1+1+1+1+1+1)); let m:=(nAt (ops l) ((k:Int).toNat*12+1+1+1+1+1)); let n:=(nAt (ops l) ((k:Int).toNat*12+1+1+1+1)); let o:=(bAt (ops l) ((k:Int).toNat*12+1+1+1+1+1+1+1+1+1+1+1)); let p:=(!prtO (⟨b,c,d,e,n,m,j,i,h,g,f,o⟩:Oq)); (q k)→True∧((v=true→tU5 ((0≤(k:Int)∧(k:Int) < a∧(k:Int).toNat*12 < (ops l).length)∧(((ops l)[(k:Int).toNat*12]?=some (dJ b))∧((ops l)[(k:Int).toNat*12+1]?=some (dJ c))∧((ops l)[(k:Int).toNat*12+1+1]?=some (dJ d))∧((ops l)[(k:Int).toNat*12+1+1+1]?=some (dJ e))∧((ops l)[(k:Int).toNat*12+1+1+1+1]?=some (dJ n))∧((ops l)[(k:Int).toNat*12+1+1+1+1+1]?=some (dJ m))∧((ops l)[(k:Int).toNat*12+1+1+1+1+1+1]?=some (dJ j))∧((ops l)[(k:Int).toNat*12+1+1+1+1+1+1+1]?=some (dK i))∧((ops l)[(k:Int).toNat*12+1+1+1+1+1+1+1+1]?=some (dJ h))∧((ops l)[(k:Int).toNat*12+1+1+1+1+1+1+1+1+1]?=some (dJ g))∧((ops l)[(k:Int).toNat*12+1+1+1+1+1+1+1+1+1+1]?=some (dQ f))∧((ops l)[(k:Int).toNat*12+1+1+1+1+1+1+1+1+1+1+1]?=some (dQ o))∧True)∧(Ans prog 39 [RV.agg [dJ b,dJ c,dJ d,dJ e,dJ n,dJ m,dJ j,dK i,dJ h,dJ g,dQ f,dQ o]] (RV.d (dQ p)))∧((p=true→tU2 (rJ (k:Int)=RV.d u))∧(p=false→tU2 (∃ k':Nat,(k'≤l.length∧(l.take k').all prtO=true)∧(l.length - k' < l.length - k)∧((r∧s∧t∧(dJ (wK ((k:Int)+1))=dJ (k':Int))∧True)∧True))))))∧(v=false→True∧rJ (-1:Int)=RV.d u))))) ?_
  delta dJ dK dQ wK dS rJ
  simp only [sS,ppC,ppE]
  have hos:l.length≤9223372036854775807:=by
   simp only [RV.wfs,RV.wf,DV.wf,DV.wfs,maxLen] at hwf
   omega
  clear hwf
  rw [zQU]
  refine ⟨⟨0,⟨Nat.zero_le _,rfl⟩,rfl⟩,fun k hk=>⟨fun hlt=>?_,fun hge=>?_⟩⟩
  ·have h:k < l.length:=by omega
   obtain ⟨hk1,hk2⟩:=hk
   obtain ⟨q0,q1,q2,q3,q4,q5,q6,q7,q8,q9,q10,q11⟩:=zKu h
   obtain ⟨r0,r1,r2,r3,r4,r5,r6,r7,r8,r9,r10,r11⟩:=zKv h
   have hml:=zQ6 l
   have aP:=zWb l[k]
   have wi:IntKind.wrap .i64 ((k:Int)+1)=((k+1:Nat):Int):=by rw [IntWalk.i64_in _ ⟨by omega,by omega⟩]; omega
   have hts:l.take (k+1)=l.take k++[l[k]]:=by rw [List.take_add_one,List.getElem?_eq_getElem h]; rfl
   simp only [r0,r1,r2,r3,r4,r5,r6,r7,r8,r9,r10,r11,wi]
   refine ⟨⟨by omega,by omega,by omega⟩,⟨q0,q1,q2,q3,q4,q5,q6,q7,q8,q9,q10,q11⟩,aP,fun hp=>?_,fun hp=>⟨k+1,⟨by omega,?_⟩,by omega,rfl⟩⟩
   ·exact (jVH h hk2 hp).symm
   ·rw [hts,List.all_append,hk2]
    have hp:prtO l[k]=true:=hp
    simp [hp]
  ·have:k=l.length:=by omega
   subst this
   have hk2:=hk.2
   rw [List.take_length] at hk2
   exact (jVF hk2).symm
theorem zKp (l:List Oq):Ans prog 38 [RV.d (dS l.length (ops l)),RV.d (DV.fn 39)] (RV.d (dQ (!(zQK (ops l)).all prtO))):=
 zQj (Γ:=jYT) Ann.leaf zQs Tryz.func38 rfl (nL rfl) fun hwf=>by
  refine Eq.mpr (by kernel_rfl:_=(tU3 ((Ans prog 79 [RV.d (dS l.length (ops l)),RV.d (DV.fn 39)] (rJ (fixO (zQK (ops l)))))∧tU2 (RV.d (dQ (decide ((fixO (zQK (ops l)))≥0)))=RV.d (dQ (!(zQK (ops l)).all prtO)))))) ?_
  delta dQ dS rJ
  simp only [sS,ppC,ppE]
  rw [zQU]
  exact ⟨(by have:=zVO l; rw [zQU] at this; exact this),jVG l⟩
theorem zYK (w:Lb) (hw:w.length < 4294967281):Ans prog 15 [RV.d (DV.str (toS w))] (RV.tup [RV.agg [dJ ((zZa (ofS (toS w))).1.bits),dJ ((zZa (ofS (toS w))).1.c.a),dJ ((zZa (ofS (toS w))).1.c.b),dJ ((zZa (ofS (toS w))).1.c.c),dJ ((zZa (ofS (toS w))).1.c.d),dJ ((zZa (ofS (toS w))).1.tw),dJ ((zZa (ofS (toS w))).1.th),dS ((zZa (ofS (toS w))).1.ord.length) (is (zZa (ofS (toS w))).1.ord),dS ((zZa (ofS (toS w))).1.ims.length) (ims (zZa (ofS (toS w))).1.ims),dS ((zZa (ofS (toS w))).1.ops.length) (ops (zZa (ofS (toS w))).1.ops)],rJ (((zZa (ofS (toS w))).2.1)),rJ (((zZa (ofS (toS w))).2.2))]):=
 zQj (Γ:=jYT) (Ann.seq Ann.leaf (Ann.seq Ann.leaf (Ann.seq Ann.leaf (Ann.seq (Ann.loop ⟨PP × Int × Lb,fun x:PP × Int × Lb=>pGo x.1 x.2.1 [] x.2.2=zZa w∧x.1.ok (w.length - x.2.2.length)∧x.2.2.length≤w.length∧0≤x.2.1∧x.2.1≤w.length - x.2.2.length,fun x:PP × Int × Lb=>⟨[(0,AV.one (Cl.d (DV.str (toS x.2.2)))),(2,AV.one (Cl.ptr 2 0)),(5,AV.one (Cl.ptr 11 0)),(6,aJ x.2.1)],[(2,bC [cJ 0,cJ 0,cJ 0,cJ 0,cJ 0,cJ 0,cJ 0,Cl.nil,Cl.nil,Cl.nil]),(11,Bx.cells (ppC x.1 x.1.part 9001)),(9001,Bx.row 3 1 (is x.1.s.ord)),(9002,Bx.row 43 28 (ims x.1.s.ims)),(9003,Bx.row 51 12 (ops x.1.s.ops)),(9004,Bx.row 37 5 (pxs x.1.px))]⟩,fun x:PP × Int × Lb=>x.2.2.length⟩ fun x=>Ann.leaf) Ann.leaf)))) zQs Tryz.func15 rfl (nL rfl) fun hwf=>by
  refine Eq.mpr (by kernel_rfl:_=(let a:=(zZa (ofS (toS w))); let k:=fun (x:PP × Int × Lb)=>(pGo x.1 x.2.1 [] x.2.2=zZa w∧x.1.ok (w.length - x.2.2.length)∧x.2.2.length≤w.length∧0≤x.2.1∧x.2.1≤w.length - x.2.2.length); let c:=(dJ 0=dJ 0); let l:=(c∧c∧c∧c∧c∧c∧c∧tU3 True); let m:=fun (x:PP × Int × Lb)=>(DV.str (toS (cutL (ofS (toS x.2.2))).1)); let g:=fun (x:PP × Int × Lb)=>[Bx.cells (ppC x.1 x.1.part 1),Bx.row 3 1 (is x.1.s.ord),Bx.row 43 28 (ims x.1.s.ims),Bx.row 51 12 (ops x.1.s.ops),Bx.row 37 5 (pxs x.1.px)]; let n:=[dJ 0,dJ 0,dJ 0,dJ 0,dJ 0,dJ 0,dJ 0,dS 0 ([]),dS 0 ([]),dS 0 ([])]; let o:=fun (x:PP × Int × Lb)=>(wK (x.2.1+1)); let r:=fun (x:PP × Int × Lb)=>[RV.agg n,rJ (o x),rJ 19]; let e:=[RV.agg [dJ a.1.bits,dJ a.1.c.a,dJ a.1.c.b,dJ a.1.c.c,dJ a.1.c.d,dJ a.1.tw,dJ a.1.th,dS a.1.ord.length (is a.1.ord),dS a.1.ims.length (ims a.1.ims),dS a.1.ops.length (ops a.1.ops)],rJ a.2.1,rJ a.2.2]; let p:=fun (x:PP × Int × Lb)=>[dJ x.1.s.bits,dJ x.1.s.c.a,dJ x.1.s.c.b,dJ x.1.s.c.c,dJ x.1.s.c.d,dJ x.1.s.tw,dJ x.1.s.th,dS x.1.s.ord.length (is x.1.s.ord),dS x.1.s.ims.length (ims x.1.s.ims),dS x.1.s.ops.length (ops x.1.s.ops)]; let q:=[RV.agg n,rJ 0,rJ 19]; tU7 ((∃ x:PP × Int × Lb,(k x)∧(((DV.str (toS w)=DV.str (toS x.2.2))∧(0=0)∧(0=0)∧(dJ 0=dJ x.2.1)∧True)∧(l∧((dJ 0=dJ x.1.s.bits)∧(dJ 0=dJ x.1.s.c.a)∧(dJ 0=dJ x.1.s.c.b)∧(dJ 0=dJ x.1.s.c.c)∧(dJ 0=dJ x.1.s.c.d)∧(dJ 0=dJ x.1.s.tw)∧(dJ 0=dJ x.1.s.th)∧(0=x.1.s.ord.length)∧(0=x.1.s.ims.length)∧(0=x.1.s.ops.length)∧(dJ 0=dJ x.1.part)∧(dJ 0=dJ x.1.w)∧(dJ 0=dJ x.1.h)∧(0=x.1.px.length)∧True)∧([]=is x.1.s.ord)∧([]=ims x.1.s.ims)∧([]=ops x.1.s.ops)∧([]=pxs x.1.px)∧True)))∧∀ x:PP × Int × Lb,let h:=(decide (x.1.h > 0)); let i:=(!(zQK (ops x.1.s.ops)).all prtO); let f:=(RV.tup (r x)=RV.tup e); let d:=(cutL (ofS (toS x.2.2))); let b:=(zXL (⟨(sE x.1.s),x.1.part,x.1.w,x.1.h,zQc (pxs x.1.px)⟩:PP) (ofS (toS d.1))); let j:=(zZX ((sE x.1.s):Scr)); (k x)→tU2 (((!((toS x.2.2).toList==(⟨#[]⟩:ByteArray).toList))=true→tU4 ((Ans prog 35 [RV.d (DV.str (toS x.2.2)),RV.d (DV.str (⟨#[10]⟩:ByteArray))] (RV.tup [RV.d (m x),RV.d (DV.str (toS d.2.1)),RV.d (dQ d.2.2)]))∧tU2 (tU8 (((!d.2.2)=false→tU2 ((AnsG prog 36 1 [aPz,AV.one (Cl.d (m x))] (g x) ⟨AV.one (Cl.d (dQ b.2)),[Bx.cells (ppC b.1 b.1.part 1),Bx.row 3 1 (is b.1.s.ord),Bx.row 43 28 (ims b.1.s.ims),Bx.row 51 12 (ops b.1.s.ops),Bx.row 37 5 (pxs b.1.px)],false⟩)∧tU2 (((!b.2)=true→tU5 f)∧((!b.2)=false→tU2 (∃ x':PP × Int × Lb,(pGo x'.1 x'.2.1 [] x'.2.2=zZa w∧x'.1.ok (w.length - x'.2.2.length)∧x'.2.2.length≤w.length∧0≤x'.2.1∧x'.2.1≤w.length - x'.2.2.length)∧(x'.2.2.length < x.2.2.length)∧(((DV.str (toS d.2.1)=DV.str (toS x'.2.2))∧(0=0)∧(0=0)∧(dJ (o x)=dJ x'.2.1)∧True)∧(l∧ppE b.1 x'.1)))))))∧((!d.2.2)=(!false)→tU6 f)))))∧((!((toS x.2.2).toList==(⟨#[]⟩:ByteArray).toList))=false→tU6 (((decide (x.1.part≤2))=false→True∧(AnsG prog 37 5 [aPz] (g x) ⟨AV.one (Cl.d (dQ h)),(g x),false⟩)∧True∧((h=true→tU6 f)∧(h=false→tU4 ((Ans prog 24 [RV.agg (p x)] (RV.d (dQ j)))∧tU2 (((!j)=false→tU5 ((Ans prog 38 [RV.d (dS x.1.s.ops.length (ops x.1.s.ops)),RV.d (DV.fn 39)] (RV.d (dQ i)))∧True∧((i=true→tU4 (RV.tup q=RV.tup e))∧(i=false→tU7 (RV.tup [RV.agg (p x),rJ 0,rJ 0]=RV.tup e)))))∧((!j)=(!false)→tU5 (RV.tup q=RV.tup e)))))))∧((decide (x.1.part≤2))=(!false)→tU7 f))))))) ?_
  delta sE dJ dQ wK dS rJ aPz
  simp only [sS,ppC,ppE]
  simp only [zZ2,zQO,zQ2,zQU,zQS,zQw,zQN]
  clear hwf
  refine ⟨⟨(zPP,0,w),⟨rfl,⟨by simp [zPP,zScr],by simp [zPP,zScr],by simp [zPP,zScr],by simp [zPP,zScr],by simp [zPP],by simp [zPP],by simp [zPP],by simp [zPP],fun m hm=>by simp [zPP,zScr] at hm⟩,Nat.le_refl _,Int.le_refl _,by simp⟩,⟨rfl,rfl⟩,(by (repeat' apply And.intro) <;> first | rfl | trivial)⟩,fun x hx=>?_⟩
  obtain ⟨p,n,t⟩:=x
  obtain ⟨e,ok,hl,n0,n1⟩:=hx
  simp only [Scr.eta_,PP.eta_,jVQ,decide_eq_true_eq,decide_eq_false_iff_not] at *
  obtain ⟨c1,c2⟩:=jVa p n t
  have hcl:=jXh t
  obtain ⟨k1,k2,k3,k4,k5,k6,k7,k8,k9⟩:=ok
  have aL:=zKk p (cutL t).1 (by omega) (by omega) (by omega) (by omega) (by omega) ⟨k5,k6⟩ ⟨k7,k8⟩
  have aI:=zXQ p
  have aE:=zYf p.s k9 (by omega)
  have aC:=zKp p.s.ops
  simp only [zQO,zQ2,zQU,zQS,zQN,Scr.eta_,PP.eta_] at aL aE aC
  have wn:IntKind.wrap .i64 (n+1)=n+1:=IntWalk.i64_in _ ⟨by omega,by omega⟩
  rw [wn]
  refine ⟨fun h1=>⟨jVS t (by omega),fun h2=>⟨aL,fun h3=>?_,fun h3=>?_⟩,fun h2=>?_⟩,fun h1=>⟨fun h2=>⟨aI,fun h3=>?_,fun h3=>⟨aE,fun h4=>⟨aC,fun h5=>?_,fun h5=>?_⟩,fun h4=>?_⟩⟩,fun h2=>?_⟩⟩
  ·rw [← e,(c1 h2).1,h3,if_neg (by decide)]; exact (by (repeat' apply And.intro) <;> first | rfl | trivial)
  ·obtain ⟨d1,d2⟩:=c1 h2
   rw [h3,if_pos rfl] at d1
   have ok':=jJC ⟨k1,k2,k3,k4,k5,k6,k7,k8,k9⟩ (cutL t).1
   refine ⟨((zXL p (cutL t).1).1,n+1,(cutL t).2.1),⟨d1.symm.trans e,?_,by show (cutL t).2.1.length≤_; omega,by show 0≤n+1; omega,by show n+1≤_ - (((cutL t).2.1.length:Nat):Int); omega⟩,by show (cutL t).2.1.length < _; omega,⟨rfl,rfl⟩,(by (repeat' apply And.intro) <;> first | rfl | trivial)⟩
   rw [show w.length - (cutL t).2.1.length=w.length - t.length+(cutL t).1.length+1 by omega]
   exact ok'
  ·rw [← e,c2 h2 h1]; exact (by (repeat' apply And.intro) <;> first | rfl | trivial)
  ·subst h1
   have e:pEnd p n=zZa w:=e
   rw [← e]; unfold pEnd; rw [if_pos (.inr h3)]; exact (by (repeat' apply And.intro) <;> first | rfl | trivial)
  ·subst h1
   have e:pEnd p n=zZa w:=e
   rw [← e]; unfold pEnd; rw [if_neg (fun h=>h.elim h2 h3),if_neg (fun h=>by rw [h5] at h; exact absurd h.2 (by decide))]; exact (by (repeat' apply And.intro) <;> first | rfl | trivial)
  ·subst h1
   have e:pEnd p n=zZa w:=e
   rw [← e]; unfold pEnd; rw [if_neg (fun h=>h.elim h2 h3),if_pos ⟨h4,h5⟩]; exact (by (repeat' apply And.intro) <;> first | rfl | trivial)
  ·subst h1
   have e:pEnd p n=zZa w:=e
   rw [← e]; unfold pEnd; rw [if_neg (fun h=>h.elim h2 h3),if_neg (fun h=>by rw [h4] at h; exact absurd h.1 (by decide))]; exact (by (repeat' apply And.intro) <;> first | rfl | trivial)
  ·subst h1
   have e:pEnd p n=zZa w:=e
   rw [← e]; unfold pEnd; rw [if_pos (.inl h2)]; exact (by (repeat' apply And.intro) <;> first | rfl | trivial)
end
set_option maxRecDepth 100000 in
theorem jQu (g:Nat) (w:World) (h0:w.cell? ⟨g,0,none⟩=some (.pointer (some ⟨g,0,none⟩))) :
  Calls prog 98 #[.pointer (some ⟨g,0,none⟩)] w fun e w'=>e=.returned (.tuple #[])∧w'=w:=by
 have hi:(prog.info? 82).map (·.size)=some 2:=by kernel_rfl
 obtain ⟨j,hj,_⟩:=Option.map_eq_some_iff.1 hi
 go_enter Tryz.func98,Tryz.ntmps98
 go_wp2
 rw [Lib.run_neq_ptr_same w _ Tryz.underlying79 hj]
 go_wp2
 go_end0
 exact ⟨rfl,rfl⟩
set_option maxHeartbeats 1000000 in
set_option maxRecDepth 100000 in
theorem zHj (g T:Nat) (w:World) (h0:w.cell? ⟨g,0,none⟩=some (.pointer none)) (hsh:w.shape? g=some (T,2)) (hT:T∈zX9) (hfz:w.frozen? ⟨g,0,none⟩=false) :
  Calls prog 98 #[.pointer (some ⟨g,0,none⟩)] w fun e w'=>e=.returned (.tuple #[])∧w'=w.setCell ⟨g,0,none⟩ (.pointer (some ⟨g,0,none⟩)):=by
 have hi:(prog.info? 82).map (·.size)=some 2:=by kernel_rfl
 obtain ⟨j,hj,hjs'⟩:=Option.map_eq_some_iff.1 hi
 have hjs:j.size≠0:=by rw [hjs']; decide
 have hlies:liesAt prog prog.depth T (2 / prog.cellsOf T) 0 82 1=true:=by
  simp only [zX9,List.mem_cons,List.not_mem_nil,or_false] at hT
  rcases hT with rfl | rfl <;> kernel_rfl
 have hto:=Lib.run_to_unsafe (P:=prog) w ⟨g,0,none⟩ Tryz.underlying79 Tryz.underlying177 hj hjs hsh (Nat.zero_lt_succ 1)
 have hfrom:=Lib.run_from_unsafe (P:=prog) w ⟨g,0,none⟩ Tryz.underlying177 Tryz.underlying79 hj hsh hlies
 go_enter Tryz.func98,Tryz.ntmps98
 go_wp2
 rw [run_callFunc_extern Tryz.func124 (by kernel_rfl) (by kernel_rfl) (by kernel_rfl) (e:=Extern.AbiNoEscape.same) (by kernel_rfl)]
 rw [Lib.run_noEscape]
 simp only [Result.andThen]
 rw [Oper.upon_value]
 go_wp2
 go_end0
 exact ⟨rfl,rfl⟩
theorem jXV {w:World} {S:Nat→Prop} {ι:zQC} {args:List AV} {ins:List Bx} {vs:List Value} {res:AV} {v:Value} (pin:Nat) (hh:zJ0 w S ι args ins vs)
  (hr:zQv w (zJt w S ι ins ⟨res,ins,false⟩ ι) ι (zQP ins) res v):jKm w S ι pin ins ⟨res,ins,false⟩ w ι v:=by
 have hk:zZH w S w (zJt w S ι ins ⟨res,ins,false⟩ ι):=fun g off u hV hu=>⟨⟨.inl ⟨rfl,hV⟩,fun ⟨b,c,hl,e⟩=>(hh.own b g c hl e).1 hV⟩,hu⟩
 exact ⟨hr,fun b=>(hh.bx b).seen hk,fun b g c hl e=>⟨.inr ⟨b,c,hl,e⟩,(hh.own b g c hl e).2⟩,hh.dist,fun b _=>rfl,Bel.refl _ _⟩
theorem zYH (n:Nat) (xs:List DV):AnsG prog 98 1 [aPz] [bC [Cl.ptr 0 0,Cl.ref 1 n],Bx.row 5 1 xs] ⟨AV.tup [],[bC [Cl.ptr 0 0,Cl.ref 1 n],Bx.row 5 1 xs],false⟩:=by
 intro w S ι vs hG hh
 obtain ⟨vs⟩:=vs
 have ha:=hh.args
 match vs,ha with
 | [v],ha=>
  simp only [RepAVs,zQv,zQJ,and_true] at ha
  obtain ⟨_,g,c,hι,rfl⟩:=ha
  have h0:=hh.bx 0
  have hb0:zQP [Bx.cells [Cl.ptr 0 0,Cl.ref 1 n],Bx.row 5 1 xs] 0=Bx.cells [Cl.ptr 0 0,Cl.ref 1 n]:=rfl
  rw [hb0] at h0
  obtain ⟨g',c',cur,T,e1,e2,e0,e3⟩:=h0
  rw [hι] at e1
  simp only [Option.some.injEq,Prod.mk.injEq] at e1
  obtain ⟨rfl,rfl⟩:=e1
  obtain ⟨cur⟩:=cur
  match cur,e3 with
  | [a,b],e3=>
   simp only [zQ1,zQJ] at e3
   obtain ⟨⟨_,g2,c2,e4,rfl⟩,_⟩:=e3
   rw [hι] at e4
   simp only [Option.some.injEq,Prod.mk.injEq] at e4
   obtain ⟨rfl,rfl⟩:=e4
   refine (jQu g w (by simp [World.cell?,e2])).mono ?_
   rintro e w' ⟨rfl,rfl⟩
   exact ⟨_,ι,rfl,jXV 1 hh (by simp only [zQv]; exact ⟨_,rfl,trivial⟩)⟩
theorem zKP:AnsG prog 98 1 [aPz] [bC [Cl.lit (Value.pointer none),Cl.nil]] ⟨AV.tup [],[bC [Cl.ptr 0 0,Cl.ref 1 0],Bx.row 5 1 []],false⟩:=by
 intro w S ι vs hG hh
 obtain ⟨vs⟩:=vs
 have ha:=hh.args
 match vs,ha with
 | [v],ha=>
  simp only [RepAVs,zQv,zQJ,and_true] at ha
  obtain ⟨_,g,c,hι,rfl⟩:=ha
  have h0:=hh.bx 0
  have hb0:zQP [Bx.cells [Cl.lit (Value.pointer none),Cl.nil]] 0=Bx.cells [Cl.lit (Value.pointer none),Cl.nil]:=rfl
  rw [hb0] at h0
  obtain ⟨g',c',cur,T,e1,e2,e0,e3⟩:=h0
  rw [hι] at e1
  simp only [Option.some.injEq,Prod.mk.injEq] at e1
  obtain ⟨rfl,rfl⟩:=e1
  obtain ⟨cur⟩:=cur
  match cur,e3 with
  | [a,b],e3=>
   simp only [zQ1,zQJ] at e3
   obtain ⟨⟨rfl,_⟩,rfl,_⟩:=e3
   have hT:T∈zX9:=(e0 rfl).resolve_left (by simp [zX9])
   have hg:g < w.heap.size:=(Array.getElem?_eq_some_iff.1 e2).1
   refine (zHj g T w (by simp [World.cell?,e2]) (by simp [World.shape?,e2]) hT (Lib.frozen_of_heap e2 0)).mono ?_
   rintro e w' ⟨rfl,rfl⟩
   have hsz:(w.setCell ⟨g,0,none⟩ (.pointer (some ⟨g,0,none⟩))).heap.size=w.heap.size:=by simp [World.setCell]
   have hnew:(w.setCell ⟨g,0,none⟩ (.pointer (some ⟨g,0,none⟩))).heap[g]?=some (.cells #[.pointer (some ⟨g,0,none⟩),.slice none 0 0] T (0,0)):=by
    obtain ⟨hlt,hk⟩:=Array.getElem?_eq_some_iff.1 e2
    show (w.heap.modify g _)[g]?=_
    rw [Array.getElem?_eq_getElem (by rw [Array.size_modify]; exact hlt),Array.getElem_modify_self,hk]
    rfl
   refine ⟨_,fun b=>if b=1 then none else ι b,rfl,?_,fun b=>?_,fun b g' c' hl e=>?_,fun b b' g' c' c'' hl hl' hne e=>?_,fun b hb=>?_,?_⟩
   ·simp only [zQv]; exact ⟨_,rfl,trivial⟩
   ·match b with
    | 0=>exact ⟨g,c,_,T,by simpa using hι,hnew,(fun h=>by cases h),⟨rfl,g,c,by simpa using hι,rfl⟩,⟨rfl,.inl ⟨rfl,rfl,rfl⟩⟩,trivial⟩
    | 1=>exact .inl ⟨rfl,rfl⟩
    | b+2=>trivial
   ·match b with
    | 0=>
     have e:ι 0=some (g',c'):=by simpa using e
     rw [hι] at e
     simp only [Option.some.injEq,Prod.mk.injEq] at e
     obtain ⟨rfl,rfl⟩:=e
     exact ⟨.inr ⟨0,c,rfl,hι⟩,by rw [hsz]; exact hg⟩
    | 1=>simp at e
    | b+2=>cases hl
   ·match b,b' with
    | 0,0=>exact absurd rfl hne
    | 0,1=>simp
    | 1,_=>simp at e
    | b+2,_=>cases hl
    | 0,b'+2=>cases hl'
   ·have:b=0:=by omega
    subst this; rfl
   ·refine ⟨rfl,rfl,rfl,by rw [hsz]; exact Nat.le_refl _,fun g' hg' hl=>?_⟩
    refine Below.heap_setCell w _ _ g' fun e=>hl ?_
    exact ⟨0,c,rfl,by rw [hι]; simp at e; rw [e]⟩
end Go.Proofs.YtheidkkebdhmkaaGreatDoor
