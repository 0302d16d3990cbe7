/-
  Part 6 of what ScriptDecodeNeedsAllBytes rests on.
-/
import Derived.Test.YtlnfgagmiogkgaaScriptDecodeNeedsAllBytesZ2
import Derived.Test.YtlnfgagmiogkgaaScriptDecodeNeedsAllBytesZ5
import Derived.Test.YtlnfgagmiogkgaaScriptDecodeNeedsAllBytesZ4
import Derived.Test.YtlnfgagmiogkgaaRows
import Derived.JoinedOf
import Derived.KernelRfl
namespace Go.Proofs.Ytlnfgagmiogkgaa
open Go.RowKit
set_option linter.unusedVariables false
set_option linter.unusedSimpArgs false
def Leaves (P:Program) (ls:List TypeId) (n:Nat) (xs:List DV):Prop:=
  xs.length=n*ls.length∧∀ (j:Nat) d,xs[j]?=some d→∃ t',ls[j % ls.length]?=some t'∧∃ q,LeafD P q t' d
theorem Leaves.at_ {P:Program} {ls:List TypeId} {n:Nat} {xs:List DV} (h:Leaves P ls n xs) {k r:Nat} {t:TypeId} (hk:k < n) (hr:ls[r]?=some t):∃ d q,xs[k*ls.length+r]?=some d∧LeafD P q t d:=by
  obtain ⟨hn,hx⟩:=h
  have hr':r < ls.length:=(List.getElem?_eq_some_iff.1 hr).1
  have hle:(k+1)*ls.length≤n*ls.length:=Nat.mul_le_mul_right _ (by omega)
  rw [Nat.add_mul] at hle
  have hj:k*ls.length+r < xs.length:=by omega
  obtain ⟨t',a,q,b⟩:=hx _ _ (List.getElem?_eq_getElem hj)
  rw [Nat.mul_comm k,Nat.mul_add_mod,Nat.mod_eq_of_lt hr',hr] at a
  injection a with a
  subst a
  exact ⟨_,q,List.getElem?_eq_getElem hj,b⟩
theorem Leaves.int {P:Program} {ls:List TypeId} {n:Nat} {xs:List DV} (h:Leaves P ls n xs) {k r:Nat} {t:TypeId} {kk:IntKind} (hk:k < n) (hr:ls[r]?=some t) (hu:P.underlying t=some (.int kk)):xs[k*ls.length+r]?=some (.int kk (nAt xs (k*ls.length+r))):=by
  obtain ⟨d,q,e,b⟩:=h.at_ hk hr
  obtain ⟨v,rfl⟩:=b.int hu
  simp only [nAt,e]
theorem Leaves.bool {P:Program} {ls:List TypeId} {n:Nat} {xs:List DV} (h:Leaves P ls n xs) {k r:Nat} {t:TypeId} (hk:k < n) (hr:ls[r]?=some t) (hu:P.underlying t=some .bool):xs[k*ls.length+r]?=some (.bool (bAt xs (k*ls.length+r))):=by
  obtain ⟨d,q,e,b⟩:=h.at_ hk hr
  obtain ⟨v,rfl⟩:=b.bool hu
  simp only [bAt,e]
theorem Leaves.sl {P:Program} {ls:List TypeId} {n:Nat} {xs:List DV} (h:Leaves P ls n xs) {k r:Nat} {t e:TypeId} {ms:List TypeId} (hk:k < n) (hr:ls[r]?=some t) (hu:P.underlying t=some (.slice e)) (hl:lv P e=some ms) :
    xs[k*ls.length+r]?=some (.sl (lAt xs (k*ls.length+r)) (cAt xs (k*ls.length+r)))∧Leaves P ms (lAt xs (k*ls.length+r)) (cAt xs (k*ls.length+r)):=by
  obtain ⟨d,q,e1,b⟩:=h.at_ hk hr
  obtain ⟨m,ys,rfl,_,h1,h2⟩:=b.slice hu hl
  simp only [lAt,cAt,e1]
  exact ⟨trivial,h1,h2⟩
theorem Leaves.ints {P:Program} {t:TypeId} {n:Nat} {xs:List DV} (h:Leaves P [t] n xs) (hu:P.underlying t=some (.int .i64)):xs=is (ints xs)∧n=xs.length:=
  isI_of (by have:=h.1; simpa using this) fun j d hj=>by obtain ⟨t',a,q,b⟩:=h.2 j d hj; exact intLeaf1 hu a b
theorem Leaves.five {P:Program} {t:TypeId} {n:Nat} {xs:List DV} (h:Leaves P [t,t,t,t,t] n xs) (hu:P.underlying t=some (.int .i64)):Is5 n xs:=
  is5_of h.1 fun j d hj=>by obtain ⟨t',a,q,b⟩:=h.2 j d hj; exact intLeaf5 hu a b
theorem Leaves.pics {P:Program} {t ts e:TypeId} {n:Nat} {xs:List DV} (h:Leaves P [t,t,t,t,ts] n xs) (hu:P.underlying t=some (.int .i64)) (hs:P.underlying ts=some (.slice e)) (hl:lv P e=some [t,t,t,t,t]):IsPics n xs:=
  ⟨h.1,fun k hk=>⟨h.int (r:=0) hk rfl hu,h.int (r:=1) hk rfl hu,h.int (r:=2) hk rfl hu,h.int (r:=3) hk rfl hu,(h.sl (r:=4) hk rfl hs hl).1,(h.sl (r:=4) hk rfl hs hl).2.five hu⟩⟩
theorem Leaves.raws {P:Program} {t:TypeId} {n:Nat} {xs:List DV} (h:Leaves P [t,t,t,t,t,t,t,t,t,t,t] n xs) (hu:P.underlying t=some (.int .i64)):IsRws n xs:=by
  refine ⟨h.1,fun i hi=>?_⟩
  have hr:[t,t,t,t,t,t,t,t,t,t,t][i % 11]?=some t:=by
    have h2:i % 11 < 11:=Nat.mod_lt _ (by omega)
    generalize i % 11=r at *
    match r,h2 with
    | 0,_ | 1,_ | 2,_ | 3,_ | 4,_ | 5,_ | 6,_ | 7,_ | 8,_ | 9,_ | 10,_=>rfl
  have:=h.int (k:=i / 11) (r:=i % 11) (by omega) hr hu
  have e:i / 11*[t,t,t,t,t,t,t,t,t,t,t].length+i % 11=i:=by show i / 11*11+i % 11=i; omega
  rw [e] at this
  exact this
theorem blocks_eq {xs ys:List DV} {n m:Nat} (hx:xs.length=n*m) (hy:ys.length=n*m) (h:∀ k,k < n→∀ j,j < m→xs[k*m+j]?=ys[k*m+j]?):xs=ys:=by
  refine List.ext_getElem? fun i=>?_
  by_cases hi:i < n*m
  · have hm:0 < m:=by
      rcases Nat.eq_zero_or_pos m with h0 | h0
      · subst h0; simp at hi
      · exact h0
    have:=h (i / m) (Nat.div_lt_of_lt_mul (by rw [Nat.mul_comm]; exact hi)) (i % m) (Nat.mod_lt _ hm)
    have e:i / m*m+i % m=i:=by rw [Nat.mul_comm]; exact Nat.div_add_mod i m
    rw [e] at this
    exact this
  · rw [List.getElem?_eq_none (by omega),List.getElem?_eq_none (by omega)]
theorem Leaves.ops {P:Program} {t u b:TypeId} {n:Nat} {xs:List DV} (h:Leaves P [t,t,t,t,t,t,t,u,t,t,b,b] n xs) (ht:P.underlying t=some (.int .i64)) (hu:P.underlying u=some (.int .u16)) (hb:P.underlying b=some .bool):IsOps n xs:=by
  have hl:xs.length=n*12:=h.1
  have hn:(toOps xs).length=n:=by unfold toOps; rw [List.length_map,List.length_range,hl]; omega
  refine ⟨blocks_eq hl (by rw [ops_length,hn]) fun k hk j hj=>?_,hn.symm⟩
  have e:(toOps xs)[k]'(by omega)=oqAt xs (k*12):=by simp [toOps]
  rw [ops_get (by omega) j hj,e]
  have key:=fun r (hr:r < 12)=>h.at_ (k:=k) (r:=r) (t:=[t,t,t,t,t,t,t,u,t,t,b,b][r]) hk (List.getElem?_eq_getElem hr)
  match j,hj with
  | 0,_=>exact h.int (r:=0) hk rfl ht
  | 1,_=>exact h.int (r:=1) hk rfl ht
  | 2,_=>exact h.int (r:=2) hk rfl ht
  | 3,_=>exact h.int (r:=3) hk rfl ht
  | 4,_=>exact h.int (r:=4) hk rfl ht
  | 5,_=>exact h.int (r:=5) hk rfl ht
  | 6,_=>exact h.int (r:=6) hk rfl ht
  | 7,_=>exact h.int (r:=7) hk rfl hu
  | 8,_=>exact h.int (r:=8) hk rfl ht
  | 9,_=>exact h.int (r:=9) hk rfl ht
  | 10,_=>exact h.bool (r:=10) hk rfl hb
  | 11,_=>exact h.bool (r:=11) hk rfl hb
def IsBs (n:Nat) (xs:List DV):Prop:=xs.length=n∧∀ i,i < n→xs[i]?=some (.bool (bAt xs i))
theorem Leaves.bools {P:Program} {b:TypeId} {n:Nat} {xs:List DV} (h:Leaves P [b] n xs) (hb:P.underlying b=some .bool):IsBs n xs:=
  ⟨by have:=h.1; simpa using this,fun i hi=>by
    have:=h.bool (k:=i) (r:=0) hi rfl hb
    simpa using this⟩
end Go.Proofs.Ytlnfgagmiogkgaa
namespace Go.Proofs.Ytlnfgagmiogkgaa
open Go.RowKit
set_option linter.unusedVariables false
set_option linter.unusedSimpArgs false
attribute [local irreducible] Ans AnsO AnsG AnsN AnsI
set_option maxRecDepth 4000
def gamScriptDecodeNeedsAllBytes:Gam where
 pure:=fun f xs=>
  if f=12 then (match xs with | [.agg [.int _ bits,.int _ cx0,.int _ cy0,.int _ cx1,.int _ cy1,.int _ tw,.int _ th,.sl on oxs,.sl mn mxs,.sl pn pxs]]=>some (RV.tup [RV.d (DV.sl ((encS (⟨bits,⟨cx0,cy0,cx1,cy1⟩,tw,th,ints oxs,toIms mxs,toOps pxs⟩:Scr)).1.length) (u8s (encS (⟨bits,⟨cx0,cy0,cx1,cy1⟩,tw,th,ints oxs,toIms mxs,toOps pxs⟩:Scr)).1)),RV.d (dJ ((encS (⟨bits,⟨cx0,cy0,cx1,cy1⟩,tw,th,ints oxs,toIms mxs,toOps pxs⟩:Scr)).2))]) | _=>none) else
  if f=16 then (match xs with | [.d (.int _ n),.d (.int _ k)]=>some (RV.d (dJ (modS n k))) | _=>none) else
  if f=19 then (match xs with | [.d (.sl n xs)]=>some (RV.tup [RV.agg [dJ ((decR (ints (xs))).bits),dJ ((decR (ints (xs))).c.a),dJ ((decR (ints (xs))).c.b),dJ ((decR (ints (xs))).c.c),dJ ((decR (ints (xs))).c.d),dJ ((decR (ints (xs))).tw),dJ ((decR (ints (xs))).th),DV.sl ((decR (ints (xs))).ord.length) (is (decR (ints (xs))).ord),DV.sl ((decR (ints (xs))).ims.length) (ims (decR (ints (xs))).ims),DV.sl ((decR (ints (xs))).ops.length) (ops (decR (ints (xs))).ops)],RV.d (dJ (decE (ints (xs))))]) | _=>none) else
  if f=19 then (match xs with | [.d (.sl n xs)]=>some (RV.tup [RV.agg [dJ ((decR (ints (xs))).bits),dJ ((decR (ints (xs))).c.a),dJ ((decR (ints (xs))).c.b),dJ ((decR (ints (xs))).c.c),dJ ((decR (ints (xs))).c.d),dJ ((decR (ints (xs))).tw),dJ ((decR (ints (xs))).th),DV.sl ((decR (ints (xs))).ord.length) (is (decR (ints (xs))).ord),DV.sl ((decR (ints (xs))).ims.length) (ims (decR (ints (xs))).ims),DV.sl ((decR (ints (xs))).ops.length) (ops (decR (ints (xs))).ops)],RV.d (dJ (decE (ints (xs))))]) | _=>none) else
  if f=13 then (match xs with | []=>some (RV.d (dQ true)) | _=>none) else
  none
 modes:=fun f=>
  if f=9 then some ([true],0,3) else
  none
 proc:=fun f xs bs=>
  if f=9 then (match xs,bs with | [AV.agg [Cl.d (DV.int _ sb),Cl.d (DV.int _ sx),Cl.d (DV.int _ sy),Cl.d (DV.int _ sw),Cl.d (DV.int _ sh),Cl.d (DV.int _ stw),Cl.d (DV.int _ sth),Cl.d (DV.sl son soxs),Cl.d (DV.sl spn spxs),Cl.d (DV.sl srn srxs)]],[]=>some ⟨AV.agg [cJ ((((⟨sb,sx,sy,sw,sh,stw,sth,son,soxs,spn,spxs,srn,srxs⟩:Scn)).bits)),cJ ((((⟨sb,sx,sy,sw,sh,stw,sth,son,soxs,spn,spxs,srn,srxs⟩:Scn)).c.a)),cJ ((((⟨sb,sx,sy,sw,sh,stw,sth,son,soxs,spn,spxs,srn,srxs⟩:Scn)).c.b)),cJ ((((⟨sb,sx,sy,sw,sh,stw,sth,son,soxs,spn,spxs,srn,srxs⟩:Scn)).c.c)),cJ ((((⟨sb,sx,sy,sw,sh,stw,sth,son,soxs,spn,spxs,srn,srxs⟩:Scn)).c.d)),cJ ((((⟨sb,sx,sy,sw,sh,stw,sth,son,soxs,spn,spxs,srn,srxs⟩:Scn)).gtw)),cJ ((((⟨sb,sx,sy,sw,sh,stw,sth,son,soxs,spn,spxs,srn,srxs⟩:Scn)).gth)),Cl.ref 0 (((⟨sb,sx,sy,sw,sh,stw,sth,son,soxs,spn,spxs,srn,srxs⟩:Scn)).ord.length),Cl.ref 1 (((⟨sb,sx,sy,sw,sh,stw,sth,son,soxs,spn,spxs,srn,srxs⟩:Scn)).ims.length),Cl.ref 2 (((⟨sb,sx,sy,sw,sh,stw,sth,son,soxs,spn,spxs,srn,srxs⟩:Scn)).ops.length)],[Bx.row 3 1 (is ((⟨sb,sx,sy,sw,sh,stw,sth,son,soxs,spn,spxs,srn,srxs⟩:Scn)).ord),Bx.row 43 28 (ims ((⟨sb,sx,sy,sw,sh,stw,sth,son,soxs,spn,spxs,srn,srxs⟩:Scn)).ims),Bx.row 55 12 (ops ((⟨sb,sx,sy,sw,sh,stw,sth,son,soxs,spn,spxs,srn,srxs⟩:Scn)).ops)],false⟩ | _,_=>none) else
  none
 iter:=fun f cs=>
  none
def L18_ScriptDecodeNeedsAllBytes_ann (s:Scn) (at_:Int) (mn:Nat) (mxs:List DV):Ann:=Ann.leaf
theorem L18_ScriptDecodeNeedsAllBytes_vc (s:Scn) (at_:Int) (mn:Nat) (mxs:List DV):vcg Try.prog gamScriptDecodeNeedsAllBytes 52 (bodyOf Try.f6) (L18_ScriptDecodeNeedsAllBytes_ann s at_ mn mxs) kn0 (start [RV.agg [DV.int .i64 s.b,DV.int .i64 s.x,DV.int .i64 s.y,DV.int .i64 s.w,DV.int .i64 s.h,DV.int .i64 s.tw,DV.int .i64 s.th,DV.sl s.on s.oxs,DV.sl s.pn s.pxs,DV.sl s.rn s.rxs],RV.d (DV.int .i64 at_),RV.d (DV.sl mn mxs)]) (post Try.prog Try.f6.results.toList (·=RV.d (DV.bool true))) =
  (tU3 ((AnsG Try.prog 9 0 [AV.agg [cJ (s.b),cJ (s.x),cJ (s.y),cJ (s.w),cJ (s.h),cJ (s.tw),cJ (s.th),Cl.d (DV.sl s.on s.oxs),Cl.d (DV.sl s.pn s.pxs),Cl.d (DV.sl s.rn s.rxs)]] [] ⟨AV.agg [cJ (((s).bits)),cJ (((s).c.a)),cJ (((s).c.b)),cJ (((s).c.c)),cJ (((s).c.d)),cJ (((s).gtw)),cJ (((s).gth)),Cl.ref 0 ((s).ord.length),Cl.ref 1 ((s).ims.length),Cl.ref 2 ((s).ops.length)],[Bx.row 3 1 (is (s).ord),Bx.row 43 28 (ims (s).ims),Bx.row 55 12 (ops (s).ops)],false⟩)∧(Ans Try.prog 12 [RV.agg [dJ ((s).bits),dJ ((s).c.a),dJ ((s).c.b),dJ ((s).c.c),dJ ((s).c.d),dJ ((s).gtw),dJ ((s).gth),DV.sl ((s).ord.length) (is (s).ord),DV.sl ((s).ims.length) (ims (s).ims),DV.sl ((s).ops.length) (ops (s).ops)]] (RV.tup [RV.d (DV.sl ((encS (⟨((s).bits),((s).c),((s).gtw),((s).gth),ints (is (s).ord),toIms (ims (s).ims),toOps (ops (s).ops)⟩:Scr)).1.length) (u8s (encS (⟨((s).bits),((s).c),((s).gtw),((s).gth),ints (is (s).ord),toIms (ims (s).ims),toOps (ops (s).ops)⟩:Scr)).1)),RV.d (dJ ((encS (⟨((s).bits),((s).c),((s).gtw),((s).gth),ints (is (s).ord),toIms (ims (s).ims),toOps (ops (s).ops)⟩:Scr)).2))]))∧tU7 ((((((encS (⟨((s).bits),((s).c),((s).gtw),((s).gth),ints (is (s).ord),toIms (ims (s).ims),toOps (ops (s).ops)⟩:Scr)).2) != (0:Int))=true→True∧RV.d (dQ false)=RV.d (dQ true))∧((((encS (⟨((s).bits),((s).c),((s).gtw),((s).gth),ints (is (s).ord),toIms (ims (s).ims),toOps (ops (s).ops)⟩:Scr)).2) != (0:Int))=false→tU4 ((Ans Try.prog 16 [RV.d (dJ at_),RV.d (dJ (((encS (⟨((s).bits),((s).c),((s).gtw),((s).gth),ints (is (s).ord),toIms (ims (s).ims),toOps (ops (s).ops)⟩:Scr)).1.length:Nat):Int))] (RV.d (dJ (modS at_ (((encS (⟨((s).bits),((s).c),((s).gtw),((s).gth),ints (is (s).ord),toIms (ims (s).ims),toOps (ops (s).ops)⟩:Scr)).1.length:Nat):Int)))))∧(0≤(0:Int)∧(0:Int)≤modS at_ (((encS (⟨((s).bits),((s).c),((s).gtw),((s).gth),ints (is (s).ord),toIms (ims (s).ims),toOps (ops (s).ops)⟩:Scr)).1.length:Nat):Int)∧modS at_ (((encS (⟨((s).bits),((s).c),((s).gtw),((s).gth),ints (is (s).ord),toIms (ims (s).ims),toOps (ops (s).ops)⟩:Scr)).1.length:Nat):Int)≤(((encS (⟨((s).bits),((s).c),((s).gtw),((s).gth),ints (is (s).ord),toIms (ims (s).ims),toOps (ops (s).ops)⟩:Scr)).1.length:Nat):Int))∧(Ans Try.prog 19 [RV.d (DV.sl ((modS at_ (((encS (⟨((s).bits),((s).c),((s).gtw),((s).gth),ints (is (s).ord),toIms (ims (s).ims),toOps (ops (s).ops)⟩:Scr)).1.length:Nat):Int) - (0:Int)).toNat) (List.take ((modS at_ (((encS (⟨((s).bits),((s).c),((s).gtw),((s).gth),ints (is (s).ord),toIms (ims (s).ims),toOps (ops (s).ops)⟩:Scr)).1.length:Nat):Int) - (0:Int)).toNat*1) (List.drop ((0:Int).toNat*1) (u8s (encS (⟨((s).bits),((s).c),((s).gtw),((s).gth),ints (is (s).ord),toIms (ims (s).ims),toOps (ops (s).ops)⟩:Scr)).1))))] (RV.tup [RV.agg [dJ ((decR (ints ((List.take ((modS at_ (((encS (⟨((s).bits),((s).c),((s).gtw),((s).gth),ints (is (s).ord),toIms (ims (s).ims),toOps (ops (s).ops)⟩:Scr)).1.length:Nat):Int) - (0:Int)).toNat*1) (List.drop ((0:Int).toNat*1) (u8s (encS (⟨((s).bits),((s).c),((s).gtw),((s).gth),ints (is (s).ord),toIms (ims (s).ims),toOps (ops (s).ops)⟩:Scr)).1)))))).bits),dJ ((decR (ints ((List.take ((modS at_ (((encS (⟨((s).bits),((s).c),((s).gtw),((s).gth),ints (is (s).ord),toIms (ims (s).ims),toOps (ops (s).ops)⟩:Scr)).1.length:Nat):Int) - (0:Int)).toNat*1) (List.drop ((0:Int).toNat*1) (u8s (encS (⟨((s).bits),((s).c),((s).gtw),((s).gth),ints (is (s).ord),toIms (ims (s).ims),toOps (ops (s).ops)⟩:Scr)).1)))))).c.a),dJ ((decR (ints ((List.take ((modS at_ (((encS (⟨((s).bits),((s).c),((s).gtw),((s).gth),ints (is (s).ord),toIms (ims (s).ims),toOps (ops (s).ops)⟩:Scr)).1.length:Nat):Int) - (0:Int)).toNat*1) (List.drop ((0:Int).toNat*1) (u8s (encS (⟨((s).bits),((s).c),((s).gtw),((s).gth),ints (is (s).ord),toIms (ims (s).ims),toOps (ops (s).ops)⟩:Scr)).1)))))).c.b),dJ ((decR (ints ((List.take ((modS at_ (((encS (⟨((s).bits),((s).c),((s).gtw),((s).gth),ints (is (s).ord),toIms (ims (s).ims),toOps (ops (s).ops)⟩:Scr)).1.length:Nat):Int) - (0:Int)).toNat*1) (List.drop ((0:Int).toNat*1) (u8s (encS (⟨((s).bits),((s).c),((s).gtw),((s).gth),ints (is (s).ord),toIms (ims (s).ims),toOps (ops (s).ops)⟩:Scr)).1)))))).c.c),dJ ((decR (ints ((List.take ((modS at_ (((encS (⟨((s).bits),((s).c),((s).gtw),((s).gth),ints (is (s).ord),toIms (ims (s).ims),toOps (ops (s).ops)⟩:Scr)).1.length:Nat):Int) - (0:Int)).toNat*1) (List.drop ((0:Int).toNat*1) (u8s (encS (⟨((s).bits),((s).c),((s).gtw),((s).gth),ints (is (s).ord),toIms (ims (s).ims),toOps (ops (s).ops)⟩:Scr)).1)))))).c.d),dJ ((decR (ints ((List.take ((modS at_ (((encS (⟨((s).bits),((s).c),((s).gtw),((s).gth),ints (is (s).ord),toIms (ims (s).ims),toOps (ops (s).ops)⟩:Scr)).1.length:Nat):Int) - (0:Int)).toNat*1) (List.drop ((0:Int).toNat*1) (u8s (encS (⟨((s).bits),((s).c),((s).gtw),((s).gth),ints (is (s).ord),toIms (ims (s).ims),toOps (ops (s).ops)⟩:Scr)).1)))))).tw),dJ ((decR (ints ((List.take ((modS at_ (((encS (⟨((s).bits),((s).c),((s).gtw),((s).gth),ints (is (s).ord),toIms (ims (s).ims),toOps (ops (s).ops)⟩:Scr)).1.length:Nat):Int) - (0:Int)).toNat*1) (List.drop ((0:Int).toNat*1) (u8s (encS (⟨((s).bits),((s).c),((s).gtw),((s).gth),ints (is (s).ord),toIms (ims (s).ims),toOps (ops (s).ops)⟩:Scr)).1)))))).th),DV.sl ((decR (ints ((List.take ((modS at_ (((encS (⟨((s).bits),((s).c),((s).gtw),((s).gth),ints (is (s).ord),toIms (ims (s).ims),toOps (ops (s).ops)⟩:Scr)).1.length:Nat):Int) - (0:Int)).toNat*1) (List.drop ((0:Int).toNat*1) (u8s (encS (⟨((s).bits),((s).c),((s).gtw),((s).gth),ints (is (s).ord),toIms (ims (s).ims),toOps (ops (s).ops)⟩:Scr)).1)))))).ord.length) (is (decR (ints ((List.take ((modS at_ (((encS (⟨((s).bits),((s).c),((s).gtw),((s).gth),ints (is (s).ord),toIms (ims (s).ims),toOps (ops (s).ops)⟩:Scr)).1.length:Nat):Int) - (0:Int)).toNat*1) (List.drop ((0:Int).toNat*1) (u8s (encS (⟨((s).bits),((s).c),((s).gtw),((s).gth),ints (is (s).ord),toIms (ims (s).ims),toOps (ops (s).ops)⟩:Scr)).1)))))).ord),DV.sl ((decR (ints ((List.take ((modS at_ (((encS (⟨((s).bits),((s).c),((s).gtw),((s).gth),ints (is (s).ord),toIms (ims (s).ims),toOps (ops (s).ops)⟩:Scr)).1.length:Nat):Int) - (0:Int)).toNat*1) (List.drop ((0:Int).toNat*1) (u8s (encS (⟨((s).bits),((s).c),((s).gtw),((s).gth),ints (is (s).ord),toIms (ims (s).ims),toOps (ops (s).ops)⟩:Scr)).1)))))).ims.length) (ims (decR (ints ((List.take ((modS at_ (((encS (⟨((s).bits),((s).c),((s).gtw),((s).gth),ints (is (s).ord),toIms (ims (s).ims),toOps (ops (s).ops)⟩:Scr)).1.length:Nat):Int) - (0:Int)).toNat*1) (List.drop ((0:Int).toNat*1) (u8s (encS (⟨((s).bits),((s).c),((s).gtw),((s).gth),ints (is (s).ord),toIms (ims (s).ims),toOps (ops (s).ops)⟩:Scr)).1)))))).ims),DV.sl ((decR (ints ((List.take ((modS at_ (((encS (⟨((s).bits),((s).c),((s).gtw),((s).gth),ints (is (s).ord),toIms (ims (s).ims),toOps (ops (s).ops)⟩:Scr)).1.length:Nat):Int) - (0:Int)).toNat*1) (List.drop ((0:Int).toNat*1) (u8s (encS (⟨((s).bits),((s).c),((s).gtw),((s).gth),ints (is (s).ord),toIms (ims (s).ims),toOps (ops (s).ops)⟩:Scr)).1)))))).ops.length) (ops (decR (ints ((List.take ((modS at_ (((encS (⟨((s).bits),((s).c),((s).gtw),((s).gth),ints (is (s).ord),toIms (ims (s).ims),toOps (ops (s).ops)⟩:Scr)).1.length:Nat):Int) - (0:Int)).toNat*1) (List.drop ((0:Int).toNat*1) (u8s (encS (⟨((s).bits),((s).c),((s).gtw),((s).gth),ints (is (s).ord),toIms (ims (s).ims),toOps (ops (s).ops)⟩:Scr)).1)))))).ops)],RV.d (dJ (decE (ints ((List.take ((modS at_ (((encS (⟨((s).bits),((s).c),((s).gtw),((s).gth),ints (is (s).ord),toIms (ims (s).ims),toOps (ops (s).ops)⟩:Scr)).1.length:Nat):Int) - (0:Int)).toNat*1) (List.drop ((0:Int).toNat*1) (u8s (encS (⟨((s).bits),((s).c),((s).gtw),((s).gth),ints (is (s).ord),toIms (ims (s).ims),toOps (ops (s).ops)⟩:Scr)).1)))))))]))∧tU7 ((appVc 1 1 0 ((encS (⟨((s).bits),((s).c),((s).gtw),((s).gth),ints (is (s).ord),toIms (ims (s).ims),toOps (ops (s).ops)⟩:Scr)).1.length) ([]) (u8s (encS (⟨((s).bits),((s).c),((s).gtw),((s).gth),ints (is (s).ord),toIms (ims (s).ims),toOps (ops (s).ops)⟩:Scr)).1))∧True∧(appVc 1 1 ((encS (⟨((s).bits),((s).c),((s).gtw),((s).gth),ints (is (s).ord),toIms (ims (s).ims),toOps (ops (s).ops)⟩:Scr)).1.length) mn (u8s (encS (⟨((s).bits),((s).c),((s).gtw),((s).gth),ints (is (s).ord),toIms (ims (s).ims),toOps (ops (s).ops)⟩:Scr)).1) mxs)∧(Ans Try.prog 19 [RV.d (DV.sl (((encS (⟨((s).bits),((s).c),((s).gtw),((s).gth),ints (is (s).ord),toIms (ims (s).ims),toOps (ops (s).ops)⟩:Scr)).1.length)+mn) ((u8s (encS (⟨((s).bits),((s).c),((s).gtw),((s).gth),ints (is (s).ord),toIms (ims (s).ims),toOps (ops (s).ops)⟩:Scr)).1)++mxs))] (RV.tup [RV.agg [dJ ((decR (ints (((u8s (encS (⟨((s).bits),((s).c),((s).gtw),((s).gth),ints (is (s).ord),toIms (ims (s).ims),toOps (ops (s).ops)⟩:Scr)).1)++mxs)))).bits),dJ ((decR (ints (((u8s (encS (⟨((s).bits),((s).c),((s).gtw),((s).gth),ints (is (s).ord),toIms (ims (s).ims),toOps (ops (s).ops)⟩:Scr)).1)++mxs)))).c.a),dJ ((decR (ints (((u8s (encS (⟨((s).bits),((s).c),((s).gtw),((s).gth),ints (is (s).ord),toIms (ims (s).ims),toOps (ops (s).ops)⟩:Scr)).1)++mxs)))).c.b),dJ ((decR (ints (((u8s (encS (⟨((s).bits),((s).c),((s).gtw),((s).gth),ints (is (s).ord),toIms (ims (s).ims),toOps (ops (s).ops)⟩:Scr)).1)++mxs)))).c.c),dJ ((decR (ints (((u8s (encS (⟨((s).bits),((s).c),((s).gtw),((s).gth),ints (is (s).ord),toIms (ims (s).ims),toOps (ops (s).ops)⟩:Scr)).1)++mxs)))).c.d),dJ ((decR (ints (((u8s (encS (⟨((s).bits),((s).c),((s).gtw),((s).gth),ints (is (s).ord),toIms (ims (s).ims),toOps (ops (s).ops)⟩:Scr)).1)++mxs)))).tw),dJ ((decR (ints (((u8s (encS (⟨((s).bits),((s).c),((s).gtw),((s).gth),ints (is (s).ord),toIms (ims (s).ims),toOps (ops (s).ops)⟩:Scr)).1)++mxs)))).th),DV.sl ((decR (ints (((u8s (encS (⟨((s).bits),((s).c),((s).gtw),((s).gth),ints (is (s).ord),toIms (ims (s).ims),toOps (ops (s).ops)⟩:Scr)).1)++mxs)))).ord.length) (is (decR (ints (((u8s (encS (⟨((s).bits),((s).c),((s).gtw),((s).gth),ints (is (s).ord),toIms (ims (s).ims),toOps (ops (s).ops)⟩:Scr)).1)++mxs)))).ord),DV.sl ((decR (ints (((u8s (encS (⟨((s).bits),((s).c),((s).gtw),((s).gth),ints (is (s).ord),toIms (ims (s).ims),toOps (ops (s).ops)⟩:Scr)).1)++mxs)))).ims.length) (ims (decR (ints (((u8s (encS (⟨((s).bits),((s).c),((s).gtw),((s).gth),ints (is (s).ord),toIms (ims (s).ims),toOps (ops (s).ops)⟩:Scr)).1)++mxs)))).ims),DV.sl ((decR (ints (((u8s (encS (⟨((s).bits),((s).c),((s).gtw),((s).gth),ints (is (s).ord),toIms (ims (s).ims),toOps (ops (s).ops)⟩:Scr)).1)++mxs)))).ops.length) (ops (decR (ints (((u8s (encS (⟨((s).bits),((s).c),((s).gtw),((s).gth),ints (is (s).ord),toIms (ims (s).ims),toOps (ops (s).ops)⟩:Scr)).1)++mxs)))).ops)],RV.d (dJ (decE (ints (((u8s (encS (⟨((s).bits),((s).c),((s).gtw),((s).gth),ints (is (s).ord),toIms (ims (s).ims),toOps (ops (s).ops)⟩:Scr)).1)++mxs)))))]))∧tU6 ((Ans Try.prog 13 [] (RV.d (dQ true)))∧True∧((true=true→tU4 (((((decE (ints ((List.take ((modS at_ (((encS (⟨((s).bits),((s).c),((s).gtw),((s).gth),ints (is (s).ord),toIms (ims (s).ims),toOps (ops (s).ops)⟩:Scr)).1.length:Nat):Int) - (0:Int)).toNat*1) (List.drop ((0:Int).toNat*1) (u8s (encS (⟨((s).bits),((s).c),((s).gtw),((s).gth),ints (is (s).ord),toIms (ims (s).ims),toOps (ops (s).ops)⟩:Scr)).1))))))==(19:Int))=true→tU8 (RV.d (dQ (((decE (ints (((u8s (encS (⟨((s).bits),((s).c),((s).gtw),((s).gth),ints (is (s).ord),toIms (ims (s).ims),toOps (ops (s).ops)⟩:Scr)).1)++mxs))))==(0:Int))==(((mn:Nat):Int)==(0:Int))))=RV.d (dQ true)))∧(((decE (ints ((List.take ((modS at_ (((encS (⟨((s).bits),((s).c),((s).gtw),((s).gth),ints (is (s).ord),toIms (ims (s).ims),toOps (ops (s).ops)⟩:Scr)).1.length:Nat):Int) - (0:Int)).toNat*1) (List.drop ((0:Int).toNat*1) (u8s (encS (⟨((s).bits),((s).c),((s).gtw),((s).gth),ints (is (s).ord),toIms (ims (s).ims),toOps (ops (s).ops)⟩:Scr)).1))))))==(19:Int))=(!true)→tU2 (RV.d (dQ false)=RV.d (dQ true))))))∧(true=(!true)→tU4 (RV.d (dQ false)=RV.d (dQ true)))))))))))):=by kernel_rfl
theorem L18_ScriptDecodeNeedsAllBytes_ans (s:Scn) (at_:Int) (mn:Nat) (mxs:List DV) (hs:s.ok) (hm:IsB8 mn mxs) (hmb:mn*1≤140737488355328):Ans Try.prog 6 [RV.agg [DV.int .i64 s.b,DV.int .i64 s.x,DV.int .i64 s.y,DV.int .i64 s.w,DV.int .i64 s.h,DV.int .i64 s.tw,DV.int .i64 s.th,DV.sl s.on s.oxs,DV.sl s.pn s.pxs,DV.sl s.rn s.rxs],RV.d (DV.int .i64 at_),RV.d (DV.sl mn mxs)] (RV.d (DV.bool true)):=
  ans_of_vcg (Γ:=gamScriptDecodeNeedsAllBytes) (L18_ScriptDecodeNeedsAllBytes_ann s at_ mn mxs) mixed_ Try.func6 rfl (Nat.le_of_ble_eq_true rfl) fun hwf=>by
    refine Eq.mpr (L18_ScriptDecodeNeedsAllBytes_vc s at_ mn mxs) ?_
    delta tU2 tU3 tU4 tU6 tU7 tU8 dJ dQ cJ
    simp only [true_and,and_true,RV.d.injEq,RV.agg.injEq,RV.tup.injEq,DV.bool.injEq,DV.int.injEq,DV.sl.injEq,List.cons.injEq,forall_const,Bool.not_false,Bool.not_true,Bool.not_eq_true',Bool.not_eq_false',decide_eq_true_eq,decide_eq_false_iff_not,Int.toNat_natCast,imQ,imQr,imC,oqQ,oqQr,oqC,oqD,pxQ,pxQr,pxC,pxD,G_Mod_ans]
    have hol:=s.ops_len
    have hod:=s.ord_len
    have hIU:=s.ims_isU
    have hin:=s.inR
    have eS:encS ⟨s.bits,s.c,s.gtw,s.gth,s.ord,s.ims,s.ops⟩=(encB s.scr,0):=by
      have hok:encOk ⟨s.bits,s.c,s.gtw,s.gth,s.ord,s.ims,s.ops⟩=true:=hin.ok
      unfold encS; rw [if_pos hok]; rfl
    obtain ⟨hm,rfl⟩:=hm
    have hmB:isB (ints mxs):=isB_of (by
      simp only [RV.wfs,RV.wf,DV.wf] at hwf
      rw [← hm]
      exact hwf.2.2.1.2)
    generalize ints mxs=a at *
    subst hm
    rw [u8s_len] at *
    have a1:=R18_Encode_ans ⟨s.bits,s.c,s.gtw,s.gth,s.ord,s.ims,s.ops⟩ hIU (by show s.ord.length≤_; omega)
    have gs:=G_Script_ans s hs
    simp only [ints_is,toIms_ims,toOps_ops,ints_u8s,eS] at a1 gs ⊢
    have hBB:=isB_encB s.scr
    have hdec:=(dec_enc hin).1
    have hle:(encB s.scr).length≤67108864:=hdec.1
    have hlen:34≤(encB s.scr).length:=by
      have:=hdec.2.1.1.1.1.2.1
      have h0:0 < (encB s.scr).length:=by omega
      have h1:=hin.ok
      have hl:=encB_len (enc_of h1).fm
      have hz:=sizeIms_le (enc_of h1).fm
      unfold sizeS at hl
      have hz0:0≤sizeIms s.scr.ims:=by
        have:=imBs_len (enc_of h1).fm
        omega
      omega
    have hm:=@modS_in at_ ((encB s.scr).length:Int) (by omega) (by omega)
    generalize hK:(modS at_ ((encB s.scr).length:Int)).toNat=K
    have hK0:(modS at_ ((encB s.scr).length:Int) - 0).toNat=K:=by omega
    have hKl:K < (encB s.scr).length:=by omega
    have e1:List.take (K*1) (List.drop (Int.toNat 0*1) (u8s (encB s.scr)))=u8s ((encB s.scr).take K):=by
      rw [Nat.mul_one,← u8s_take]; rfl
    have e2:K=((encB s.scr).take K).length:=by rw [List.length_take]; omega
    have e3:(encB s.scr).length+a.length=(encB s.scr++a).length:=by rw [List.length_append]
    have d1:=script_Decode_ans ((encB s.scr).take K)
    have d2:=script_Decode_ans (encB s.scr++a)
    have E1:decE ((encB s.scr).take K)=19:=(dec_no (dec_less hin hBB hKl)).2
    have E2:((decE (encB s.scr++a)==0)==((a.length:Int)==0))=true:=by
      by_cases ha:a=[]
      · subst ha
        rw [(dec_yes ((dec_more hin []).2 rfl)).2]
        rfl
      · rw [(dec_no (fun h=>ha ((dec_more hin a).1 h))).2]
        have:0 < a.length:=List.length_pos_iff.2 ha
        have:((a.length:Int)==0)=false:=by simp; exact ha
        rw [this]; rfl
    unfold scrD at d1 d2
    rw [← e2] at d1
    simp only [hK0,e1,ints_u8s,← u8s_app,e3,E1,E2]
    rw [E1] at d1
    have nf:∀ {p:Prop},(true=false)→p:=fun h=>by cases h
    refine ⟨gs,a1,fun h=>absurd h (by decide),fun _=>⟨⟨by omega,by omega,by omega⟩,d1,⟨rfl,by rw [u8s_len,Nat.mul_one],by unfold maxLen; omega,by omega⟩,⟨by rw [u8s_len,Nat.mul_one],by rw [u8s_len,Nat.mul_one],by unfold maxLen; omega,?_⟩,d2,L18_awakeD_ans,⟨fun _=>trivial,fun h=>absurd h (by decide)⟩,fun h=>nf h⟩⟩
    rw [Nat.mul_one]
    have:1099511627776*(1 / 1)=1099511627776:=by decide
    omega
end Go.Proofs.Ytlnfgagmiogkgaa
namespace Go.Proofs.Ytlnfgagmiogkgaa.closed
open Go
set_option linter.unusedVariables false
set_option linter.unusedSimpArgs false
set_option maxRecDepth 100000 in
theorem headWord:Try.prog.initOrder=String.ofList [Char.ofNat 104,Char.ofNat 97,Char.ofNat 114,Char.ofNat 110,Char.ofNat 101,Char.ofNat 115,Char.ofNat 115,Char.ofNat 32,Char.ofNat 52,Char.ofNat 101,Char.ofNat 55,Char.ofNat 100,Char.ofNat 98,Char.ofNat 99,Char.ofNat 99,Char.ofNat 49,Char.ofNat 49,Char.ofNat 55,Char.ofNat 98,Char.ofNat 100,Char.ofNat 53,Char.ofNat 57,Char.ofNat 49,Char.ofNat 102,Char.ofNat 97,Char.ofNat 57,Char.ofNat 97,Char.ofNat 101,Char.ofNat 100,Char.ofNat 56,Char.ofNat 101,Char.ofNat 97,Char.ofNat 97,Char.ofNat 56,Char.ofNat 101,Char.ofNat 102,Char.ofNat 57,Char.ofNat 50,Char.ofNat 100,Char.ofNat 52,Char.ofNat 48,Char.ofNat 100,Char.ofNat 49,Char.ofNat 101,Char.ofNat 99,Char.ofNat 101,Char.ofNat 57,Char.ofNat 98,Char.ofNat 97,Char.ofNat 49,Char.ofNat 54,Char.ofNat 99,Char.ofNat 52,Char.ofNat 102,Char.ofNat 99,Char.ofNat 55,Char.ofNat 55,Char.ofNat 100,Char.ofNat 101,Char.ofNat 52,Char.ofNat 48,Char.ofNat 56,Char.ofNat 54,Char.ofNat 98,Char.ofNat 100,Char.ofNat 97,Char.ofNat 53,Char.ofNat 52,Char.ofNat 99,Char.ofNat 48,Char.ofNat 56,Char.ofNat 56,Char.ofNat 32,Char.ofNat 99,Char.ofNat 117,Char.ofNat 116,Char.ofNat 32,Char.ofNat 97,Char.ofNat 116,Char.ofNat 32,Char.ofNat 99,Char.ofNat 111,Char.ofNat 109,Char.ofNat 112,Char.ofNat 111,Char.ofNat 115,Char.ofNat 105,Char.ofNat 116,Char.ofNat 111,Char.ofNat 114,Char.ofNat 47,Char.ofNat 99,Char.ofNat 111,Char.ofNat 109,Char.ofNat 112,Char.ofNat 111,Char.ofNat 115,Char.ofNat 105,Char.ofNat 116,Char.ofNat 111,Char.ofNat 114,Char.ofNat 108,Char.ofNat 97,Char.ofNat 119,Char.ofNat 49,Char.ofNat 56,Char.ofNat 46,Char.ofNat 83,Char.ofNat 99,Char.ofNat 114,Char.ofNat 105,Char.ofNat 112,Char.ofNat 116,Char.ofNat 69,Char.ofNat 110,Char.ofNat 99,Char.ofNat 111,Char.ofNat 100,Char.ofNat 101,Char.ofNat 65,Char.ofNat 103,Char.ofNat 114,Char.ofNat 101,Char.ofNat 101,Char.ofNat 115,Char.ofNat 32,Char.ofNat 99,Char.ofNat 111,Char.ofNat 109,Char.ofNat 112,Char.ofNat 111,Char.ofNat 115,Char.ofNat 105,Char.ofNat 116,Char.ofNat 111,Char.ofNat 114,Char.ofNat 47,Char.ofNat 99,Char.ofNat 111,Char.ofNat 109,Char.ofNat 112,Char.ofNat 111,Char.ofNat 115,Char.ofNat 105,Char.ofNat 116,Char.ofNat 111,Char.ofNat 114,Char.ofNat 108,Char.ofNat 97,Char.ofNat 119,Char.ofNat 49,Char.ofNat 56,Char.ofNat 46,Char.ofNat 83,Char.ofNat 99,Char.ofNat 114,Char.ofNat 105,Char.ofNat 112,Char.ofNat 116,Char.ofNat 69,Char.ofNat 110,Char.ofNat 99,Char.ofNat 111,Char.ofNat 100,Char.ofNat 97,Char.ofNat 98,Char.ofNat 108,Char.ofNat 101,Char.ofNat 65,Char.ofNat 103,Char.ofNat 114,Char.ofNat 101,Char.ofNat 101,Char.ofNat 115,Char.ofNat 32,Char.ofNat 99,Char.ofNat 111,Char.ofNat 109,Char.ofNat 112,Char.ofNat 111,Char.ofNat 115,Char.ofNat 105,Char.ofNat 116,Char.ofNat 111,Char.ofNat 114,Char.ofNat 47,Char.ofNat 99,Char.ofNat 111,Char.ofNat 109,Char.ofNat 112,Char.ofNat 111,Char.ofNat 115,Char.ofNat 105,Char.ofNat 116,Char.ofNat 111,Char.ofNat 114,Char.ofNat 108,Char.ofNat 97,Char.ofNat 119,Char.ofNat 49,Char.ofNat 56,Char.ofNat 46,Char.ofNat 83,Char.ofNat 99,Char.ofNat 114,Char.ofNat 105,Char.ofNat 112,Char.ofNat 116,Char.ofNat 68,Char.ofNat 101,Char.ofNat 99,Char.ofNat 111,Char.ofNat 100,Char.ofNat 101,Char.ofNat 65,Char.ofNat 103,Char.ofNat 114,Char.ofNat 101,Char.ofNat 101,Char.ofNat 115,Char.ofNat 32,Char.ofNat 99,Char.ofNat 111,Char.ofNat 109,Char.ofNat 112,Char.ofNat 111,Char.ofNat 115,Char.ofNat 105,Char.ofNat 116,Char.ofNat 111,Char.ofNat 114,Char.ofNat 47,Char.ofNat 99,Char.ofNat 111,Char.ofNat 109,Char.ofNat 112,Char.ofNat 111,Char.ofNat 115,Char.ofNat 105,Char.ofNat 116,Char.ofNat 111,Char.ofNat 114,Char.ofNat 108,Char.ofNat 97,Char.ofNat 119,Char.ofNat 49,Char.ofNat 56,Char.ofNat 46,Char.ofNat 83,Char.ofNat 99,Char.ofNat 114,Char.ofNat 105,Char.ofNat 112,Char.ofNat 116,Char.ofNat 68,Char.ofNat 101,Char.ofNat 99,Char.ofNat 111,Char.ofNat 100,Char.ofNat 101,Char.ofNat 78,Char.ofNat 101,Char.ofNat 101,Char.ofNat 100,Char.ofNat 115,Char.ofNat 65,Char.ofNat 108,Char.ofNat 108,Char.ofNat 66,Char.ofNat 121,Char.ofNat 116,Char.ofNat 101,Char.ofNat 115,Char.ofNat 32,Char.ofNat 99,Char.ofNat 111,Char.ofNat 109,Char.ofNat 112,Char.ofNat 111,Char.ofNat 115,Char.ofNat 105,Char.ofNat 116,Char.ofNat 111,Char.ofNat 114,Char.ofNat 47,Char.ofNat 99,Char.ofNat 111,Char.ofNat 109,Char.ofNat 112,Char.ofNat 111,Char.ofNat 115,Char.ofNat 105,Char.ofNat 116,Char.ofNat 111,Char.ofNat 114,Char.ofNat 108,Char.ofNat 97,Char.ofNat 119,Char.ofNat 49,Char.ofNat 56,Char.ofNat 46,Char.ofNat 83,Char.ofNat 99,Char.ofNat 114,Char.ofNat 105,Char.ofNat 112,Char.ofNat 116,Char.ofNat 82,Char.ofNat 111,Char.ofNat 117,Char.ofNat 110,Char.ofNat 100,Char.ofNat 84,Char.ofNat 114,Char.ofNat 105,Char.ofNat 112,Char.ofNat 32,Char.ofNat 99,Char.ofNat 111,Char.ofNat 109,Char.ofNat 112,Char.ofNat 111,Char.ofNat 115,Char.ofNat 105,Char.ofNat 116,Char.ofNat 111,Char.ofNat 114,Char.ofNat 47,Char.ofNat 99,Char.ofNat 111,Char.ofNat 109,Char.ofNat 112,Char.ofNat 111,Char.ofNat 115,Char.ofNat 105,Char.ofNat 116,Char.ofNat 111,Char.ofNat 114,Char.ofNat 108,Char.ofNat 97,Char.ofNat 119,Char.ofNat 49,Char.ofNat 56,Char.ofNat 46,Char.ofNat 83,Char.ofNat 99,Char.ofNat 114,Char.ofNat 105,Char.ofNat 112,Char.ofNat 116,Char.ofNat 69,Char.ofNat 113,Char.ofNat 117,Char.ofNat 97,Char.ofNat 108,Char.ofNat 65,Char.ofNat 103,Char.ofNat 114,Char.ofNat 101,Char.ofNat 101,Char.ofNat 115]:=by kernel_rfl
set_option maxRecDepth 100000 in
theorem headSigns:Try.prog.initOrder.toList=[Char.ofNat 104,Char.ofNat 97,Char.ofNat 114,Char.ofNat 110,Char.ofNat 101,Char.ofNat 115,Char.ofNat 115,Char.ofNat 32,Char.ofNat 52,Char.ofNat 101,Char.ofNat 55,Char.ofNat 100,Char.ofNat 98,Char.ofNat 99,Char.ofNat 99,Char.ofNat 49,Char.ofNat 49,Char.ofNat 55,Char.ofNat 98,Char.ofNat 100,Char.ofNat 53,Char.ofNat 57,Char.ofNat 49,Char.ofNat 102,Char.ofNat 97,Char.ofNat 57,Char.ofNat 97,Char.ofNat 101,Char.ofNat 100,Char.ofNat 56,Char.ofNat 101,Char.ofNat 97,Char.ofNat 97,Char.ofNat 56,Char.ofNat 101,Char.ofNat 102,Char.ofNat 57,Char.ofNat 50,Char.ofNat 100,Char.ofNat 52,Char.ofNat 48,Char.ofNat 100,Char.ofNat 49,Char.ofNat 101,Char.ofNat 99,Char.ofNat 101,Char.ofNat 57,Char.ofNat 98,Char.ofNat 97,Char.ofNat 49,Char.ofNat 54,Char.ofNat 99,Char.ofNat 52,Char.ofNat 102,Char.ofNat 99,Char.ofNat 55,Char.ofNat 55,Char.ofNat 100,Char.ofNat 101,Char.ofNat 52,Char.ofNat 48,Char.ofNat 56,Char.ofNat 54,Char.ofNat 98,Char.ofNat 100,Char.ofNat 97,Char.ofNat 53,Char.ofNat 52,Char.ofNat 99,Char.ofNat 48,Char.ofNat 56,Char.ofNat 56,Char.ofNat 32,Char.ofNat 99,Char.ofNat 117,Char.ofNat 116,Char.ofNat 32,Char.ofNat 97,Char.ofNat 116,Char.ofNat 32,Char.ofNat 99,Char.ofNat 111,Char.ofNat 109,Char.ofNat 112,Char.ofNat 111,Char.ofNat 115,Char.ofNat 105,Char.ofNat 116,Char.ofNat 111,Char.ofNat 114,Char.ofNat 47,Char.ofNat 99,Char.ofNat 111,Char.ofNat 109,Char.ofNat 112,Char.ofNat 111,Char.ofNat 115,Char.ofNat 105,Char.ofNat 116,Char.ofNat 111,Char.ofNat 114,Char.ofNat 108,Char.ofNat 97,Char.ofNat 119,Char.ofNat 49,Char.ofNat 56,Char.ofNat 46,Char.ofNat 83,Char.ofNat 99,Char.ofNat 114,Char.ofNat 105,Char.ofNat 112,Char.ofNat 116,Char.ofNat 69,Char.ofNat 110,Char.ofNat 99,Char.ofNat 111,Char.ofNat 100,Char.ofNat 101,Char.ofNat 65,Char.ofNat 103,Char.ofNat 114,Char.ofNat 101,Char.ofNat 101,Char.ofNat 115,Char.ofNat 32,Char.ofNat 99,Char.ofNat 111,Char.ofNat 109,Char.ofNat 112,Char.ofNat 111,Char.ofNat 115,Char.ofNat 105,Char.ofNat 116,Char.ofNat 111,Char.ofNat 114,Char.ofNat 47,Char.ofNat 99,Char.ofNat 111,Char.ofNat 109,Char.ofNat 112,Char.ofNat 111,Char.ofNat 115,Char.ofNat 105,Char.ofNat 116,Char.ofNat 111,Char.ofNat 114,Char.ofNat 108,Char.ofNat 97,Char.ofNat 119,Char.ofNat 49,Char.ofNat 56,Char.ofNat 46,Char.ofNat 83,Char.ofNat 99,Char.ofNat 114,Char.ofNat 105,Char.ofNat 112,Char.ofNat 116,Char.ofNat 69,Char.ofNat 110,Char.ofNat 99,Char.ofNat 111,Char.ofNat 100,Char.ofNat 97,Char.ofNat 98,Char.ofNat 108,Char.ofNat 101,Char.ofNat 65,Char.ofNat 103,Char.ofNat 114,Char.ofNat 101,Char.ofNat 101,Char.ofNat 115,Char.ofNat 32,Char.ofNat 99,Char.ofNat 111,Char.ofNat 109,Char.ofNat 112,Char.ofNat 111,Char.ofNat 115,Char.ofNat 105,Char.ofNat 116,Char.ofNat 111,Char.ofNat 114,Char.ofNat 47,Char.ofNat 99,Char.ofNat 111,Char.ofNat 109,Char.ofNat 112,Char.ofNat 111,Char.ofNat 115,Char.ofNat 105,Char.ofNat 116,Char.ofNat 111,Char.ofNat 114,Char.ofNat 108,Char.ofNat 97,Char.ofNat 119,Char.ofNat 49,Char.ofNat 56,Char.ofNat 46,Char.ofNat 83,Char.ofNat 99,Char.ofNat 114,Char.ofNat 105,Char.ofNat 112,Char.ofNat 116,Char.ofNat 68,Char.ofNat 101,Char.ofNat 99,Char.ofNat 111,Char.ofNat 100,Char.ofNat 101,Char.ofNat 65,Char.ofNat 103,Char.ofNat 114,Char.ofNat 101,Char.ofNat 101,Char.ofNat 115,Char.ofNat 32,Char.ofNat 99,Char.ofNat 111,Char.ofNat 109,Char.ofNat 112,Char.ofNat 111,Char.ofNat 115,Char.ofNat 105,Char.ofNat 116,Char.ofNat 111,Char.ofNat 114,Char.ofNat 47,Char.ofNat 99,Char.ofNat 111,Char.ofNat 109,Char.ofNat 112,Char.ofNat 111,Char.ofNat 115,Char.ofNat 105,Char.ofNat 116,Char.ofNat 111,Char.ofNat 114,Char.ofNat 108,Char.ofNat 97,Char.ofNat 119,Char.ofNat 49,Char.ofNat 56,Char.ofNat 46,Char.ofNat 83,Char.ofNat 99,Char.ofNat 114,Char.ofNat 105,Char.ofNat 112,Char.ofNat 116,Char.ofNat 68,Char.ofNat 101,Char.ofNat 99,Char.ofNat 111,Char.ofNat 100,Char.ofNat 101,Char.ofNat 78,Char.ofNat 101,Char.ofNat 101,Char.ofNat 100,Char.ofNat 115,Char.ofNat 65,Char.ofNat 108,Char.ofNat 108,Char.ofNat 66,Char.ofNat 121,Char.ofNat 116,Char.ofNat 101,Char.ofNat 115,Char.ofNat 32,Char.ofNat 99,Char.ofNat 111,Char.ofNat 109,Char.ofNat 112,Char.ofNat 111,Char.ofNat 115,Char.ofNat 105,Char.ofNat 116,Char.ofNat 111,Char.ofNat 114,Char.ofNat 47,Char.ofNat 99,Char.ofNat 111,Char.ofNat 109,Char.ofNat 112,Char.ofNat 111,Char.ofNat 115,Char.ofNat 105,Char.ofNat 116,Char.ofNat 111,Char.ofNat 114,Char.ofNat 108,Char.ofNat 97,Char.ofNat 119,Char.ofNat 49,Char.ofNat 56,Char.ofNat 46,Char.ofNat 83,Char.ofNat 99,Char.ofNat 114,Char.ofNat 105,Char.ofNat 112,Char.ofNat 116,Char.ofNat 82,Char.ofNat 111,Char.ofNat 117,Char.ofNat 110,Char.ofNat 100,Char.ofNat 84,Char.ofNat 114,Char.ofNat 105,Char.ofNat 112,Char.ofNat 32,Char.ofNat 99,Char.ofNat 111,Char.ofNat 109,Char.ofNat 112,Char.ofNat 111,Char.ofNat 115,Char.ofNat 105,Char.ofNat 116,Char.ofNat 111,Char.ofNat 114,Char.ofNat 47,Char.ofNat 99,Char.ofNat 111,Char.ofNat 109,Char.ofNat 112,Char.ofNat 111,Char.ofNat 115,Char.ofNat 105,Char.ofNat 116,Char.ofNat 111,Char.ofNat 114,Char.ofNat 108,Char.ofNat 97,Char.ofNat 119,Char.ofNat 49,Char.ofNat 56,Char.ofNat 46,Char.ofNat 83,Char.ofNat 99,Char.ofNat 114,Char.ofNat 105,Char.ofNat 112,Char.ofNat 116,Char.ofNat 69,Char.ofNat 113,Char.ofNat 117,Char.ofNat 97,Char.ofNat 108,Char.ofNat 65,Char.ofNat 103,Char.ofNat 114,Char.ofNat 101,Char.ofNat 101,Char.ofNat 115]:=by rw [headWord,String.toList_ofList]
set_option maxRecDepth 100000 in
theorem enters:Try.prog.mayEnter=true:=by
  unfold Program.mayEnter Program.doorFits
  rw [headSigns]
  kernel_rfl
set_option maxRecDepth 100000 in
theorem liftsNot:Try.prog.liftsFinal=false:=by
  unfold Program.liftsFinal Program.headLifts
  rw [headSigns]
  kernel_rfl
set_option maxRecDepth 100000 in
theorem made:Try.prog.make=some .cut:=by
  unfold Program.make
  rw [headSigns]
  kernel_rfl
theorem own:ownKnob Try.prog.godebug=none:=by kernel_rfl
theorem laidOut:laidOutB Try.prog=true:=by kernel_rfl
theorem mapsRow:mapsRowed Try.prog=true:=by kernel_rfl
theorem noStops:(Try.prog.stops==[])=true:=by kernel_rfl
theorem noKnobs:(Try.prog.stopKnobs==[])=true:=by kernel_rfl
theorem plain:Try.prog.plainKeys=true:=by kernel_rfl
theorem heard:Try.prog.stopsHeard=true:=by kernel_rfl
end Go.Proofs.Ytlnfgagmiogkgaa.closed
