/-
  Part 5 of what ScriptDecodeAgrees rests on.
-/
import Derived.Test.YtlnfgagmiogkgaaScriptDecodeAgreesZ4
import Derived.Test.YtlnfgagmiogkgaaScriptDecodeAgreesZ2
import Derived.Test.YtlnfgagmiogkgaaScriptDecodeAgreesZ3
import Derived.Tactics
import Derived.Tactics2
import Derived.Defers
import Derived.Recover
import Derived.WalkSmall
import Derived.Laws.Pointers
namespace Go.Proofs.Ytlnfgagmiogkgaa
open Go.RowKit
set_option linter.unusedVariables false
set_option linter.unusedSimpArgs false
attribute [local irreducible] Ans AnsO AnsG AnsN AnsI
set_option maxRecDepth 4000
def tkV (n:Nat) (l:List Int):Int:=(l.take n).foldl (fun v c=>v*256+c) 0
theorem zWw (l:List Int):tkV 0 l=0:=by simp [tkV]
theorem zWx {k:Nat} {l:List Int} (h:k < l.length):tkV (k+1) l=tkV k l*256+l[k]:=by
  unfold tkV
  rw [List.take_succ_eq_append_getElem h,List.foldl_append]
  rfl
def isB (l:List Int):Prop:=∀ v∈l,0≤v∧v≤255
theorem zKg {l:List Int} (h:DV.wfs (u8s l)):isB l:=fun v hv=>(jQ1 _).1 h _ (List.mem_map.2 ⟨v,hv,rfl⟩)
theorem isB.drop {l:List Int} (h:isB l) (k:Nat):isB (l.drop k):=fun v hv=>h v (List.mem_of_mem_drop hv)
theorem zGr {l:List Int} (h:isB l):∀ k,k≤l.length→0≤tkV k l∧tkV k l < 256 ^ k
  | 0,_=>by rw [zWw]; decide
  | k+1,hk=>by
    have:=zGr h k (by omega)
    have h2:=h l[k] (List.getElem_mem (by omega))
    rw [zWx (by omega),Int.pow_succ]
    omega
theorem or8 {x y:Nat} (hx:x < 281474976710656) (hy:y < 256):(BitVec.ofInt 64 ((x:Int)*256) ||| BitVec.ofInt 64 (y:Int)).toNat=x*256+y:=by
  have e1:(BitVec.ofInt 64 ((x:Int)*256)).toNat=x*256:=by rw [BitVec.toNat_ofInt]; omega
  have e2:(BitVec.ofInt 64 (y:Int)).toNat=y:=by rw [BitVec.toNat_ofInt]; omega
  rw [BitVec.toNat_or,e1,e2]
  have:=Nat.shiftLeft_add_eq_or_of_lt (i:=8) hy x
  rw [Nat.shiftLeft_eq] at this
  exact this.symm
theorem or8I {v c:Int} (hv:0≤v∧v < 4294967296) (hc:0≤c∧c≤255):IntKind.wrap .i64 (((BitVec.ofInt 64 (IntKind.wrap .i64 (v*2 ^ min (Int.toNat 8) 64)) ||| BitVec.ofInt 64 (IntKind.wrap .i64 c)).toNat:Nat):Int)=v*256+c:=by
  have e:(2:Int) ^ min (Int.toNat 8) 64=256:=by decide
  obtain ⟨x,rfl⟩:=Int.eq_ofNat_of_zero_le hv.1
  obtain ⟨y,rfl⟩:=Int.eq_ofNat_of_zero_le hc.1
  rw [e,IntWalk.i64_in ((x:Int)*256) ⟨by omega,by omega⟩,IntWalk.i64_in (y:Int) ⟨by omega,by omega⟩,or8 (by omega) (by omega),IntWalk.i64_in _ ⟨by omega,by omega⟩]
  omega
theorem jYi {l:List Int} {k:Nat} (h:k < l.length):(u8s l)[k]?=some (.int .u8 l[k])∧nAt (u8s l) k=l[k]:=by
  have:(u8s l)[k]?=some (.int .u8 l[k]):=by simp [u8s,List.getElem?_eq_getElem h]
  exact ⟨this,by simp [nAt,this]⟩
theorem zWv (l:List Int) (k:Nat):(u8s l).take k=u8s (l.take k):=by simp [u8s,List.map_take]
theorem zG4 (l:List Int) (k:Nat):(u8s l).drop k=u8s (l.drop k):=by simp [u8s,List.map_drop]
def sgV (l:List Int):Int:=IntKind.wrap .i64 (IntKind.wrap .i32 (tkV 4 l))
def zYt (n size:Nat) (l:List Int):Prop:=n≤l.length∧tkV n l≤(((l.length - n) / size:Nat):Int)
def rdPx (l:List Int):Px:=⟨tkV 2 (l.drop 0),tkV 2 (l.drop 2),tkV 2 (l.drop 4),tkV 2 (l.drop 6),tkV 2 (l.drop 8)⟩
def rdOp (l:List Int):Oq:=⟨tkV 1 (l.drop 0),tkV 1 (l.drop 1),sgV (l.drop 2),sgV (l.drop 6),tkV 1 (l.drop 10),sgV (l.drop 11),sgV (l.drop 15),tkV 2 (l.drop 19),tkV 1 (l.drop 21),tkV 1 (l.drop 22),decide (tkV 1 (l.drop 23) % 2=1),decide (tkV 1 (l.drop 23) / 2 % 2=1)⟩
def zZj (l:List Int):Prop:=24≤l.length∧tkV 1 (l.drop 23)≤3
def zGg:Gam where
 pure:=fun f xs=>
  none
 modes:=fun f=>
  if f=45 then some ([true],0,0) else
  if f=72 then some ([false,true],1,0) else
  if f=73 then some ([false],1,0) else
  if f=74 then some ([false,true,true],1,0) else
  if f=88 then some ([false],1,0) else
  none
 proc:=fun f xs bs=>
  if f=45 then (match xs,bs with | [AV.one (Cl.d (DV.bool b_))],[]=>some ⟨AV.tup [],[],false⟩ | _,_=>none) else
  if f=72 then (match xs,bs with | [AV.one (Cl.ptr 0 0),AV.one (Cl.d (DV.int _ n))],[Bx.cells [Cl.d (DV.sl bn bxs)]]=>some ⟨aJ (((tkV n.toNat (ints bxs)))),[bC [Cl.d (dS (((ints bxs).drop n.toNat).length) (u8s ((ints bxs).drop n.toNat)))]],false⟩ | _,_=>none) else
  if f=73 then (match xs,bs with | [AV.one (Cl.ptr 0 0)],[Bx.cells [Cl.d (DV.sl bn bxs)]]=>some ⟨aJ (((sgV (ints bxs)))),[bC [Cl.d (dS (((ints bxs).drop 4).length) (u8s ((ints bxs).drop 4)))]],false⟩ | _,_=>none) else
  if f=74 then (match xs,bs with | [AV.one (Cl.ptr 0 0),AV.one (Cl.d (DV.int _ n)),AV.one (Cl.d (DV.int _ size))],[Bx.cells [Cl.d (DV.sl bn bxs)]]=>some ⟨aJ (((tkV n.toNat (ints bxs)))),[bC [Cl.d (dS (((ints bxs).drop n.toNat).length) (u8s ((ints bxs).drop n.toNat)))]],false⟩ | _,_=>none) else
  if f=88 then (match xs,bs with | [AV.one (Cl.ptr 0 0)],[Bx.cells [Cl.d (DV.sl bn bxs)]]=>some ⟨AV.agg [cK (((rdPx (ints bxs)).a)),cK (((rdPx (ints bxs)).b)),cK (((rdPx (ints bxs)).c)),cK (((rdPx (ints bxs)).al)),cK (((rdPx (ints bxs)).f))],[bC [Cl.d (dS (((ints bxs).drop 10).length) (u8s ((ints bxs).drop 10)))]],false⟩ | _,_=>none) else
  none
 iter:=fun f cs=>
  none
def zKj:Pan where
 may:=fun f=>f==45 || f==72 || f==73 || f==74 || f==88 || false
 when_:=fun f xs bs=>
  if f=45 then (match xs,bs with | [AV.one (Cl.d (DV.bool b_))],[]=>some (b_=true) | _,_=>none) else
  if f=72 then (match xs,bs with | [AV.one (Cl.ptr 0 0),AV.one (Cl.d (DV.int _ n))],[Bx.cells [Cl.d (DV.sl bn bxs)]]=>some (n.toNat≤(ints bxs).length) | _,_=>none) else
  if f=73 then (match xs,bs with | [AV.one (Cl.ptr 0 0)],[Bx.cells [Cl.d (DV.sl bn bxs)]]=>some (4≤(ints bxs).length) | _,_=>none) else
  if f=74 then (match xs,bs with | [AV.one (Cl.ptr 0 0),AV.one (Cl.d (DV.int _ n)),AV.one (Cl.d (DV.int _ size))],[Bx.cells [Cl.d (DV.sl bn bxs)]]=>some (zYt n.toNat size.toNat (ints bxs)) | _,_=>none) else
  if f=88 then (match xs,bs with | [AV.one (Cl.ptr 0 0)],[Bx.cells [Cl.d (DV.sl bn bxs)]]=>some (10≤(ints bxs).length) | _,_=>none) else
  none
def zXh (b:List Int) (n:Int):Ann:=(Ann.seq Ann.leaf (Ann.seq Ann.leaf (Ann.seq Ann.leaf (Ann.seq (Ann.seq Ann.leaf (Ann.loop ⟨Nat,fun k=>k≤n.toNat,fun k=>⟨[(0,aPz),(1,aJ ((n))),(5,aJ (((tkV k b)))),(21,AV.one (Cl.d (dS ((n - (0:Int)).toNat) (List.take ((n - (0:Int)).toNat*1) (List.drop ((0:Int).toNat*1) (u8s b)))))),(22,aJ (((((n - (0:Int)).toNat:Nat):Int)))),(23,aJ (((k:Int))))],[(0,bC [Cl.d (dS b.length (u8s b))])]⟩,fun k=>n.toNat - k⟩ fun k=>Ann.leaf)) Ann.leaf))))
theorem zJf (b:List Int) (n:Int):xcg Try.prog zGg zKj chM (¬ (n.toNat≤b.length)) ⟨43,fun _=>false,List.range 1,false⟩ (zQl Try.f72) (zXh b n) kn0 (zZq [AV.one (Cl.ptr 0 0),AV.one (Cl.d (DV.int .i64 n))] [Bx.cells [Cl.d (DV.sl b.length (u8s b))]]) (fun e kn s_=>(n.toNat≤b.length)∧zXg Try.prog ⟨43,fun _=>false,List.range 1,false⟩ Try.f72.results.toList ⟨AV.one (Cl.d (DV.int .i64 (tkV n.toNat b))),[Bx.cells [Cl.d (DV.sl ((b.drop n.toNat).length) (u8s (b.drop n.toNat)))]],false⟩ e kn s_) =
  (let zz0:=((decide ((b.length:Int)≥n))=true); let zz1:=[AV.one (Cl.d (dQ (decide ((b.length:Int)≥n))))]; let zz2:=(dJ n=dJ n); let zz3:=(List.take ((n - (0:Int)).toNat*1) (List.drop ((0:Int).toNat*1) (u8s b))); let zz4:=(dS ((n - (0:Int)).toNat) zz3=dS ((n - (0:Int)).toNat) zz3); let zz5:=(dJ (((n - (0:Int)).toNat:Nat):Int)=dJ (((n - (0:Int)).toNat:Nat):Int)); let zz6:=(([dS b.length (u8s b)]=[dS b.length (u8s b)])∧True); tU8 ((((¬ zz0)→PanG Try.prog chM 45 zz1 []∧(¬ (n.toNat≤b.length)))∧(zz0→(AnsG Try.prog 45 0 zz1 [] ⟨AV.tup [],[],false⟩)∧tU6 ((0≤(0:Int)∧(0:Int)≤n∧n≤(b.length:Int))∧tU2 (((∃ k:Nat,(k≤n.toNat)∧(((0=0)∧zz2∧(dJ 0=dJ (tkV k b))∧zz4∧zz5∧(dJ 0=dJ (k:Int))∧True)∧zz6))∧∀ k:Nat,(k≤n.toNat)→True∧(((decide ((k:Int) < (((n - (0:Int)).toNat:Nat):Int)))=true→(0≤(k:Int)∧(k:Int) < (((n - (0:Int)).toNat:Nat):Int)∧(k:Int).toNat*1 < zz3.length)∧((zz3[(k:Int).toNat*1]?=some (DV.int .u8 (nAt zz3 ((k:Int).toNat*1))))∧True)∧tU2 ((0≤(8:Int))∧tU6 (∃ k':Nat,(k'≤n.toNat)∧(n.toNat - k' < n.toNat - k)∧(((0=0)∧zz2∧(dJ (wK (BitVec.ofInt 64 (wK ((tkV k b)*2 ^ min (8:Int).toNat 64)) ||| BitVec.ofInt 64 (wK (nAt zz3 ((k:Int).toNat*1)))).toNat)=dJ (tkV k' b))∧zz4∧zz5∧(dJ (wK ((k:Int)+(1:Int)))=dJ (k':Int))∧True)∧zz6))))∧((decide ((k:Int) < (((n - (0:Int)).toNat:Nat):Int)))=false→tU6 ((0≤n∧n≤(b.length:Int)∧(b.length:Int)≤(b.length:Int))∧tU5 (((n.toNat≤b.length)∧(((dJ (tkV k b)=dJ (tkV n.toNat b))∧True)∧(([dS (((b.length:Int) - n).toNat) (List.take (((b.length:Int) - n).toNat*1) (List.drop (n.toNat*1) (u8s b)))]=[dS ((b.drop n.toNat).length) (u8s (b.drop n.toNat))])∧True))∧zQx ⟨aJ (((tkV n.toNat b))),[bC [Cl.d (dS ((b.drop n.toNat).length) (u8s (b.drop n.toNat)))]],false⟩)))))))))))):=by kernel_rfl
theorem zZu (b:List Int) (n:Int) (hn:1≤n∧n≤4):((n.toNat≤b.length)→AnsG Try.prog 72 1 [AV.one (Cl.ptr 0 0),AV.one (Cl.d (DV.int .i64 n))] [Bx.cells [Cl.d (DV.sl b.length (u8s b))]] ⟨AV.one (Cl.d (DV.int .i64 (tkV n.toNat b))),[Bx.cells [Cl.d (DV.sl ((b.drop n.toNat).length) (u8s (b.drop n.toNat)))]],false⟩)∧((¬ (n.toNat≤b.length))→PanG Try.prog chM 72 [AV.one (Cl.ptr 0 0),AV.one (Cl.d (DV.int .i64 n))] [Bx.cells [Cl.d (DV.sl b.length (u8s b))]]):=
  zZP (Γ:=zGg) (X:=zKj) (zXh b n) zQq Try.func72 rfl (Nat.le_of_ble_eq_true rfl) rfl fun hwf hbx=>by
    refine Eq.mpr (zJf b n) ?_
    delta tU2 tU5 tU6 tU8 dJ dQ wK dS aJ bC
    simp only [true_and,and_true,RV.d.injEq,RV.agg.injEq,RV.tup.injEq,DV.bool.injEq,DV.int.injEq,DV.sl.injEq,List.cons.injEq,forall_const,Bool.not_false,Bool.not_true,Bool.not_eq_true',Bool.not_eq_false',decide_eq_true_eq,decide_eq_false_iff_not,Int.toNat_natCast]
    simp only [Bx.wfL,Bx.wf,Cl.wfs,DV.wf,maxLen] at hbx
    have hB:=zKg hbx.1.1.2
    obtain ⟨hn1,hn4⟩:=hn
    obtain ⟨N,rfl⟩:=Int.eq_ofNat_of_zero_le (by omega:0≤n)
    have hNN:(N:Int).toNat=N:=Int.toNat_natCast N
    have e0:((N:Int) - 0).toNat=N:=by omega
    have eT:List.take (N*1) (List.drop (Int.toNat 0*1) (u8s b))=u8s (b.take N):=by
      rw [Nat.mul_one,← zWv]; rfl
    simp only [hNN,e0,eT]
    have dm:=fun p:Bool=>zZh p
    refine ⟨fun h=>⟨(dm _).2 (by simpa using h),by omega⟩,fun h=>⟨(dm _).1 (by simpa using h),⟨by omega,by omega,by omega⟩,⟨0,Nat.zero_le _,(zWw b).symm,rfl⟩,fun k hk=>⟨fun hlt=>?_,fun hge=>?_⟩⟩⟩
    · have hk':k < (b.take N).length:=by rw [List.length_take]; omega
      have hkb:k < b.length:=by omega
      obtain ⟨q1,q2⟩:=jYi hk'
      have q3:(b.take N)[k]=b[k]:=List.getElem_take
      have hc:=hB b[k] (List.getElem_mem hkb)
      have hv:=zGr hB k (by omega)
      have hv2:tkV k b < 4294967296:=by
        refine Int.lt_of_lt_of_le hv.2 ?_
        have hk4:k < 4:=by omega
        match k,hk4 with
        | 0,_ | 1,_ | 2,_ | 3,_=>decide
      have w1:IntKind.wrap .i64 ((k:Int)+1)=((k+1:Nat):Int):=by rw [IntWalk.i64_in _ ⟨by omega,by omega⟩]; omega
      simp only [Nat.mul_one,q2,q3,w1]
      rw [q3] at q1
      refine ⟨⟨by omega,by omega,by rw [zX4]; exact hk'⟩,q1,by omega,k+1,by omega,by omega,?_,rfl⟩
      rw [or8I ⟨hv.1,hv2⟩ hc,zWx hkb]
    · have:k=N:=by omega
      subst this
      have e1:((b.length:Int) - (k:Int)).toNat=b.length - k:=by omega
      refine ⟨⟨by omega,by omega,by omega⟩,by omega,⟨rfl,by rw [e1,List.length_drop],?_⟩,trivial⟩
      rw [e1,Nat.mul_one,Nat.mul_one,zG4,zWv,List.take_of_length_le (by rw [List.length_drop]; omega)]
def zZT (b:List Int):Ann:=Ann.leaf
theorem zYB (b:List Int):xcg Try.prog zGg zKj chM (¬ (4≤b.length)) ⟨7,fun _=>false,List.range 1,false⟩ (zQl Try.f73) (zZT b) kn0 (zZq [AV.one (Cl.ptr 0 0)] [Bx.cells [Cl.d (DV.sl b.length (u8s b))]]) (fun e kn s_=>(4≤b.length)∧zXg Try.prog ⟨7,fun _=>false,List.range 1,false⟩ Try.f73.results.toList ⟨AV.one (Cl.d (DV.int .i64 (sgV b))),[Bx.cells [Cl.d (DV.sl ((b.drop 4).length) (u8s (b.drop 4)))]],false⟩ e kn s_) =
  (let zz0:=[aPz,aJ ((4))]; let zz1:=[bC [Cl.d (dS b.length (u8s b))]]; tU2 ((((¬ (4≤(iU (b)).length))→PanG Try.prog chM 72 zz0 zz1∧(¬ (4≤b.length)))∧((4≤(iU (b)).length)→(AnsG Try.prog 72 1 zz0 zz1 ⟨aJ (((tkV 4 (iU (b))))),[bC [Cl.d (dS (((iU (b)).drop 4).length) (u8s ((iU (b)).drop 4)))]],false⟩)∧tU3 (((4≤b.length)∧(((dJ (wK (IntKind.wrap .i32 (tkV 4 (iU (b)))))=dJ (sgV b))∧True)∧(([dS (((iU (b)).drop 4).length) (u8s ((iU (b)).drop 4))]=[dS ((b.drop 4).length) (u8s (b.drop 4))])∧True))∧zQx ⟨aJ (((sgV b))),[bC [Cl.d (dS ((b.drop 4).length) (u8s (b.drop 4)))]],false⟩)))))):=by kernel_rfl
theorem zYi (b:List Int):((4≤b.length)→AnsG Try.prog 73 1 [AV.one (Cl.ptr 0 0)] [Bx.cells [Cl.d (DV.sl b.length (u8s b))]] ⟨AV.one (Cl.d (DV.int .i64 (sgV b))),[Bx.cells [Cl.d (DV.sl ((b.drop 4).length) (u8s (b.drop 4)))]],false⟩)∧((¬ (4≤b.length))→PanG Try.prog chM 73 [AV.one (Cl.ptr 0 0)] [Bx.cells [Cl.d (DV.sl b.length (u8s b))]]):=
  zZP (Γ:=zGg) (X:=zKj) (zZT b) zQq Try.func73 rfl (Nat.le_of_ble_eq_true rfl) rfl fun hwf hbx=>by
    refine Eq.mpr (zYB b) ?_
    delta tU2 tU3 dJ wK dS aJ aPz bC iU
    simp only [true_and,and_true,RV.d.injEq,RV.agg.injEq,RV.tup.injEq,DV.bool.injEq,DV.int.injEq,DV.sl.injEq,List.cons.injEq,forall_const,Bool.not_false,Bool.not_true,Bool.not_eq_true',Bool.not_eq_false',decide_eq_true_eq,decide_eq_false_iff_not,Int.toNat_natCast]
    have t:=zZu b 4 ⟨by omega,by omega⟩
    simp only [zQZ]
    exact ⟨fun h=>⟨t.2 h,h⟩,fun h=>⟨t.1 h,h,(by (repeat' apply And.intro) <;> first | rfl | exact trivial)⟩⟩
theorem zZg (b:List Int) (d n:Nat) (h:1≤n∧n≤4):((n≤(b.drop d).length)→AnsG Try.prog 72 1 [AV.one (Cl.ptr 0 0),AV.one (Cl.d (DV.int .i64 (n:Int)))] [Bx.cells [Cl.d (DV.sl (b.drop d).length (u8s (b.drop d)))]] ⟨AV.one (Cl.d (DV.int .i64 (tkV n (b.drop d)))),[Bx.cells [Cl.d (DV.sl (b.drop (d+n)).length (u8s (b.drop (d+n))))]],false⟩) ∧
    ((¬ (n≤(b.drop d).length))→PanG Try.prog chM 72 [AV.one (Cl.ptr 0 0),AV.one (Cl.d (DV.int .i64 (n:Int)))] [Bx.cells [Cl.d (DV.sl (b.drop d).length (u8s (b.drop d)))]]):=by
  have:=zZu (b.drop d) (n:Int) ⟨by omega,by omega⟩
  simp only [Int.toNat_natCast,List.drop_drop] at this
  exact this
theorem zJ0 (b:List Int) (d:Nat):((4≤(b.drop d).length)→AnsG Try.prog 73 1 [AV.one (Cl.ptr 0 0)] [Bx.cells [Cl.d (DV.sl (b.drop d).length (u8s (b.drop d)))]] ⟨AV.one (Cl.d (DV.int .i64 (sgV (b.drop d)))),[Bx.cells [Cl.d (DV.sl (b.drop (d+4)).length (u8s (b.drop (d+4))))]],false⟩) ∧
    ((¬ (4≤(b.drop d).length))→PanG Try.prog chM 73 [AV.one (Cl.ptr 0 0)] [Bx.cells [Cl.d (DV.sl (b.drop d).length (u8s (b.drop d)))]]):=by
  have:=zYi (b.drop d)
  simp only [List.drop_drop] at this
  exact this
def zZ6 (b:List Int) (n:Int) (size:Int):Ann:=Ann.leaf
theorem zY9 (b:List Int) (n:Int) (size:Int):xcg Try.prog zGg zKj chM (¬ (zYt n.toNat size.toNat b)) ⟨22,fun _=>false,List.range 1,false⟩ (zQl Try.f74) (zZ6 b n size) kn0 (zZq [AV.one (Cl.ptr 0 0),AV.one (Cl.d (DV.int .i64 n)),AV.one (Cl.d (DV.int .i64 size))] [Bx.cells [Cl.d (DV.sl b.length (u8s b))]]) (fun e kn s_=>(zYt n.toNat size.toNat b)∧zXg Try.prog ⟨22,fun _=>false,List.range 1,false⟩ Try.f74.results.toList ⟨AV.one (Cl.d (DV.int .i64 (tkV n.toNat b))),[Bx.cells [Cl.d (DV.sl ((b.drop n.toNat).length) (u8s (b.drop n.toNat)))]],false⟩ e kn s_) =
  (let zz0:=(n.toNat≤(iU (b)).length); let zz1:=[aPz,aJ ((n))]; let zz2:=[bC [Cl.d (dS b.length (u8s b))]]; let zz3:=((decide ((tkV n.toNat (iU (b)))≤(wK (Int.tdiv ((((iU (b)).drop n.toNat).length:Nat):Int) size))))=true); let zz4:=[AV.one (Cl.d (dQ (decide ((tkV n.toNat (iU (b)))≤(wK (Int.tdiv ((((iU (b)).drop n.toNat).length:Nat):Int) size))))))]; tU3 ((((¬ zz0)→PanG Try.prog chM 72 zz1 zz2∧(¬ (zYt n.toNat size.toNat b)))∧(zz0→(AnsG Try.prog 72 1 zz1 zz2 ⟨aJ (((tkV n.toNat (iU (b))))),[bC [Cl.d (dS (((iU (b)).drop n.toNat).length) (u8s ((iU (b)).drop n.toNat)))]],false⟩)∧tU8 ((size≠0)∧True∧(((¬ zz3)→PanG Try.prog chM 45 zz4 []∧(¬ (zYt n.toNat size.toNat b)))∧(zz3→(AnsG Try.prog 45 0 zz4 [] ⟨AV.tup [],[],false⟩)∧tU2 (((zYt n.toNat size.toNat b)∧(((dJ (tkV n.toNat (iU (b)))=dJ (tkV n.toNat b))∧True)∧(([dS (((iU (b)).drop n.toNat).length) (u8s ((iU (b)).drop n.toNat))]=[dS ((b.drop n.toNat).length) (u8s (b.drop n.toNat))])∧True))∧zQx ⟨aJ (((tkV n.toNat b))),[bC [Cl.d (dS ((b.drop n.toNat).length) (u8s (b.drop n.toNat)))]],false⟩))))))))):=by kernel_rfl
theorem zYF (b:List Int) (n:Int) (size:Int) (hn:1≤n∧n≤4) (hz:1≤size∧size≤100):((zYt n.toNat size.toNat b)→AnsG Try.prog 74 1 [AV.one (Cl.ptr 0 0),AV.one (Cl.d (DV.int .i64 n)),AV.one (Cl.d (DV.int .i64 size))] [Bx.cells [Cl.d (DV.sl b.length (u8s b))]] ⟨AV.one (Cl.d (DV.int .i64 (tkV n.toNat b))),[Bx.cells [Cl.d (DV.sl ((b.drop n.toNat).length) (u8s (b.drop n.toNat)))]],false⟩)∧((¬ (zYt n.toNat size.toNat b))→PanG Try.prog chM 74 [AV.one (Cl.ptr 0 0),AV.one (Cl.d (DV.int .i64 n)),AV.one (Cl.d (DV.int .i64 size))] [Bx.cells [Cl.d (DV.sl b.length (u8s b))]]):=
  zZP (Γ:=zGg) (X:=zKj) (zZ6 b n size) zQq Try.func74 rfl (Nat.le_of_ble_eq_true rfl) rfl fun hwf hbx=>by
    refine Eq.mpr (zY9 b n size) ?_
    delta tU2 tU3 tU8 dJ dQ wK dS aJ aPz bC iU
    simp only [true_and,and_true,RV.d.injEq,RV.agg.injEq,RV.tup.injEq,DV.bool.injEq,DV.int.injEq,DV.sl.injEq,List.cons.injEq,forall_const,Bool.not_false,Bool.not_true,Bool.not_eq_true',Bool.not_eq_false',decide_eq_true_eq,decide_eq_false_iff_not,Int.toNat_natCast]
    obtain ⟨hn1,hn4⟩:=hn
    obtain ⟨N,rfl⟩:=Int.eq_ofNat_of_zero_le (by omega:0≤n)
    obtain ⟨Z,rfl⟩:=Int.eq_ofNat_of_zero_le (by omega:0≤size)
    have t:=zZu b N ⟨by omega,by omega⟩
    have dm:=fun p:Bool=>zZh p
    simp only [Bx.wfL,Bx.wf,Cl.wfs,DV.wf,maxLen] at hbx
    have eq:IntKind.wrap .i64 (Int.tdiv ((b.drop N).length:Int) (Z:Int))=(((b.length - N) / Z:Nat):Int):=by
      have h1:Int.tdiv ((b.drop N).length:Int) (Z:Int)=(((b.length - N) / Z:Nat):Int):=by rw [List.length_drop]; rfl
      have h2:(b.length - N) / Z≤b.length - N:=Nat.div_le_self _ _
      rw [h1]
      generalize (b.length - N) / Z=q at *
      exact IntWalk.i64_in _ ⟨by omega,by omega⟩
    simp only [zQZ,Int.toNat_natCast,eq] at t ⊢
    unfold zYt
    refine ⟨fun h=>⟨t.2 h,fun h'=>h h'.1⟩,fun h=>⟨t.1 h,by omega,fun h2=>⟨(dm _).2 (by simpa using h2),fun h'=>h2 h'.2⟩,fun h2=>⟨(dm _).1 (by simpa using h2),⟨h,h2⟩,(by (repeat' apply And.intro) <;> first | rfl | exact trivial)⟩⟩⟩
def zZ4 (b:List Int):Ann:=let zz0:=[cK (0),cK (0),cK (0),cK (0),cK (0)]; let zz1:=(2,Bx.cells zz0); let zz2:=(dK (IntKind.wrap .u16 (tkV 2 (ints (u8s b))))); let zz3:=(dK (IntKind.wrap .u16 (tkV 2 (ints (u8s ((ints (u8s b)).drop 2)))))); let zz4:=(dK (IntKind.wrap .u16 (tkV 2 (ints (u8s ((ints (u8s ((ints (u8s b)).drop 2))).drop 2)))))); let zz5:=(dK (IntKind.wrap .u16 (tkV 2 (ints (u8s ((ints (u8s ((ints (u8s ((ints (u8s b)).drop 2))).drop 2))).drop 2)))))); (Ann.seq Ann.leaf (Ann.seq Ann.leaf (Ann.seq (Ann.seq Ann.leaf (Ann.link ⟨Unit,fun _u=>0≤b.length,fun _u=>⟨[(0,aPz),(2,AV.one (Cl.ptr 2 0)),(3,AV.one (Cl.ptr 3 0)),(5,aJ ((0)))],[(0,bC [Cl.d (dS b.length (u8s b))]),zz1,(3,Bx.cells zz0)]⟩,fun _u=>0⟩ (fun _u=>(Ann.seq Ann.leaf (Ann.seq (Ann.sure true Ann.leaf) Ann.leaf))) (Ann.link ⟨Unit,fun _u=>2≤b.length,fun _u=>⟨[(0,aPz),(2,AV.one (Cl.ptr 2 0)),(3,AV.one (Cl.ptr 3 0)),(5,aJ ((1)))],[(0,bC [Cl.d (dS (((ints (u8s b)).drop 2).length) (u8s ((ints (u8s b)).drop 2)))]),zz1,(3,bC [Cl.d zz2,cK (0),cK (0),cK (0),cK (0)])]⟩,fun _u=>0⟩ (fun _u=>(Ann.seq Ann.leaf (Ann.seq (Ann.sure true Ann.leaf) Ann.leaf))) (Ann.link ⟨Unit,fun _u=>4≤b.length,fun _u=>⟨[(0,aPz),(2,AV.one (Cl.ptr 2 0)),(3,AV.one (Cl.ptr 3 0)),(5,aJ ((2)))],[(0,bC [Cl.d (dS (((ints (u8s ((ints (u8s b)).drop 2))).drop 2).length) (u8s ((ints (u8s ((ints (u8s b)).drop 2))).drop 2)))]),zz1,(3,bC [Cl.d zz2,Cl.d zz3,cK (0),cK (0),cK (0)])]⟩,fun _u=>0⟩ (fun _u=>(Ann.seq Ann.leaf (Ann.seq (Ann.sure true Ann.leaf) Ann.leaf))) (Ann.link ⟨Unit,fun _u=>6≤b.length,fun _u=>⟨[(0,aPz),(2,AV.one (Cl.ptr 2 0)),(3,AV.one (Cl.ptr 3 0)),(5,aJ ((3)))],[(0,bC [Cl.d (dS (((ints (u8s ((ints (u8s ((ints (u8s b)).drop 2))).drop 2))).drop 2).length) (u8s ((ints (u8s ((ints (u8s ((ints (u8s b)).drop 2))).drop 2))).drop 2)))]),zz1,(3,bC [Cl.d zz2,Cl.d zz3,Cl.d zz4,cK (0),cK (0)])]⟩,fun _u=>0⟩ (fun _u=>(Ann.seq Ann.leaf (Ann.seq (Ann.sure true Ann.leaf) Ann.leaf))) (Ann.link ⟨Unit,fun _u=>8≤b.length,fun _u=>⟨[(0,aPz),(2,AV.one (Cl.ptr 2 0)),(3,AV.one (Cl.ptr 3 0)),(5,aJ ((4)))],[(0,bC [Cl.d (dS (((ints (u8s ((ints (u8s ((ints (u8s ((ints (u8s b)).drop 2))).drop 2))).drop 2))).drop 2).length) (u8s ((ints (u8s ((ints (u8s ((ints (u8s ((ints (u8s b)).drop 2))).drop 2))).drop 2))).drop 2)))]),zz1,(3,bC [Cl.d zz2,Cl.d zz3,Cl.d zz4,Cl.d zz5,cK (0)])]⟩,fun _u=>0⟩ (fun _u=>(Ann.seq Ann.leaf (Ann.seq (Ann.sure true Ann.leaf) Ann.leaf))) (Ann.link ⟨Unit,fun _u=>10≤b.length,fun _u=>⟨[(0,aPz),(2,AV.one (Cl.ptr 2 0)),(3,AV.one (Cl.ptr 3 0)),(5,aJ ((5)))],[(0,bC [Cl.d (dS (((ints (u8s ((ints (u8s ((ints (u8s ((ints (u8s ((ints (u8s b)).drop 2))).drop 2))).drop 2))).drop 2))).drop 2).length) (u8s ((ints (u8s ((ints (u8s ((ints (u8s ((ints (u8s ((ints (u8s b)).drop 2))).drop 2))).drop 2))).drop 2))).drop 2)))]),zz1,(3,bC [Cl.d zz2,Cl.d zz3,Cl.d zz4,Cl.d zz5,cK ((IntKind.wrap .u16 (tkV 2 (ints (u8s ((ints (u8s ((ints (u8s ((ints (u8s ((ints (u8s b)).drop 2))).drop 2))).drop 2))).drop 2))))))])]⟩,fun _u=>0⟩ (fun _u=>(Ann.seq Ann.leaf (Ann.seq (Ann.sure false Ann.leaf) Ann.leaf))) Ann.leaf))))))) Ann.leaf)))
theorem zY7 (b:List Int):xcg Try.prog zGg zKj chM (¬ (10≤b.length)) ⟨26,fun _=>false,List.range 1,false⟩ (zQl Try.f88) (zZ4 b) kn0 (zZq [AV.one (Cl.ptr 0 0)] [Bx.cells [Cl.d (DV.sl b.length (u8s b))]]) (fun e kn s_=>(10≤b.length)∧zXg Try.prog ⟨26,fun _=>false,List.range 1,false⟩ Try.f88.results.toList ⟨AV.agg [Cl.d (DV.int .u16 ((rdPx b).a)),Cl.d (DV.int .u16 ((rdPx b).b)),Cl.d (DV.int .u16 ((rdPx b).c)),Cl.d (DV.int .u16 ((rdPx b).al)),Cl.d (DV.int .u16 ((rdPx b).f))],[Bx.cells [Cl.d (DV.sl ((b.drop 10).length) (u8s (b.drop 10)))]],false⟩ e kn s_) =
  (let zz0:=[dK 0,dK 0,dK 0,dK 0,dK 0]; let zz1:=(zz0=zz0); let zz2:=[aPz,aJ ((2))]; let zz3:=[bC [Cl.d (dS b.length (u8s b))]]; let zz4:=[bC [Cl.d (dS (((iU (b)).drop 2).length) (u8s ((iU (b)).drop 2)))]]; let zz5:=(0≤(0:Int)∧(0:Int) < ((5:Nat):Int)); let zz6:=[dS (((iU (b)).drop 2).length) (u8s ((iU (b)).drop 2))]; let zz7:=(IntKind.wrap .u16 (tkV 2 (iU (b)))); let zz8:=[dK zz7,dK 0,dK 0,dK 0,dK 0]; let zz9:=(2≤(iU (((iU (b)).drop 2))).length); let zz10:=[bC [Cl.d (dS (((iU (((iU (b)).drop 2))).drop 2).length) (u8s ((iU (((iU (b)).drop 2))).drop 2)))]]; let zz11:=(0≤(1:Int)∧(1:Int) < ((5:Nat):Int)); let zz12:=[dS (((iU (((iU (b)).drop 2))).drop 2).length) (u8s ((iU (((iU (b)).drop 2))).drop 2))]; let zz13:=(IntKind.wrap .u16 (tkV 2 (iU (((iU (b)).drop 2))))); let zz14:=[dK zz7,dK zz13,dK 0,dK 0,dK 0]; let zz15:=(2≤(iU (((iU (((iU (b)).drop 2))).drop 2))).length); let zz16:=[bC [Cl.d (dS (((iU (((iU (((iU (b)).drop 2))).drop 2))).drop 2).length) (u8s ((iU (((iU (((iU (b)).drop 2))).drop 2))).drop 2)))]]; let zz17:=(0≤(2:Int)∧(2:Int) < ((5:Nat):Int)); let zz18:=[dS (((iU (((iU (((iU (b)).drop 2))).drop 2))).drop 2).length) (u8s ((iU (((iU (((iU (b)).drop 2))).drop 2))).drop 2))]; let zz19:=(IntKind.wrap .u16 (tkV 2 (iU (((iU (((iU (b)).drop 2))).drop 2))))); let zz20:=[dK zz7,dK zz13,dK zz19,dK 0,dK 0]; let zz21:=(2≤(iU (((iU (((iU (((iU (b)).drop 2))).drop 2))).drop 2))).length); let zz22:=[bC [Cl.d (dS (((iU (((iU (((iU (((iU (b)).drop 2))).drop 2))).drop 2))).drop 2).length) (u8s ((iU (((iU (((iU (((iU (b)).drop 2))).drop 2))).drop 2))).drop 2)))]]; let zz23:=(0≤(3:Int)∧(3:Int) < ((5:Nat):Int)); let zz24:=[dS (((iU (((iU (((iU (((iU (b)).drop 2))).drop 2))).drop 2))).drop 2).length) (u8s ((iU (((iU (((iU (((iU (b)).drop 2))).drop 2))).drop 2))).drop 2))]; let zz25:=(IntKind.wrap .u16 (tkV 2 (iU (((iU (((iU (((iU (b)).drop 2))).drop 2))).drop 2))))); let zz26:=[dK zz7,dK zz13,dK zz19,dK zz25,dK 0]; let zz27:=(2≤(iU (((iU (((iU (((iU (((iU (b)).drop 2))).drop 2))).drop 2))).drop 2))).length); let zz28:=(0≤(4:Int)∧(4:Int) < ((5:Nat):Int)); let zz29:=[dS (((iU (((iU (((iU (((iU (((iU (b)).drop 2))).drop 2))).drop 2))).drop 2))).drop 2).length) (u8s ((iU (((iU (((iU (((iU (((iU (b)).drop 2))).drop 2))).drop 2))).drop 2))).drop 2))]; let zz30:=[dK zz7,dK zz13,dK zz19,dK zz25,dK (IntKind.wrap .u16 (tkV 2 (iU (((iU (((iU (((iU (((iU (b)).drop 2))).drop 2))).drop 2))).drop 2)))))]; tU3 ((∃ _u:Unit,(0≤b.length)∧(((0=0)∧(0=0)∧(0=0)∧(dJ 0=dJ 0)∧True)∧(([dS b.length (u8s b)]=[dS b.length (u8s b)])∧zz1∧zz1∧True)))∧((∀ _u:Unit,(0≤b.length)→True∧(decide ((0:Int) < (5:Int))=true∧tU4 ((((¬ (2≤(iU (b)).length))→PanG Try.prog chM 72 zz2 zz3∧(¬ (10≤b.length)))∧((2≤(iU (b)).length)→(AnsG Try.prog 72 1 zz2 zz3 ⟨aJ (((tkV 2 (iU (b))))),zz4,false⟩)∧True∧zz5∧tU3 (∃ _u:Unit,(2≤b.length)∧(((0=0)∧(0=0)∧(0=0)∧(dJ (wK ((0:Int)+(1:Int)))=dJ 1)∧True)∧((zz6=zz6)∧zz1∧(zz8=zz8)∧True))))))))∧(∀ _u:Unit,(2≤b.length)→True∧(decide ((1:Int) < (5:Int))=true∧tU4 ((((¬ zz9)→PanG Try.prog chM 72 zz2 zz4∧(¬ (10≤b.length)))∧(zz9→(AnsG Try.prog 72 1 zz2 zz4 ⟨aJ (((tkV 2 (iU (((iU (b)).drop 2)))))),zz10,false⟩)∧True∧zz11∧tU3 (∃ _u:Unit,(4≤b.length)∧(((0=0)∧(0=0)∧(0=0)∧(dJ (wK ((1:Int)+(1:Int)))=dJ 2)∧True)∧((zz12=zz12)∧zz1∧(zz14=zz14)∧True))))))))∧(∀ _u:Unit,(4≤b.length)→True∧(decide ((2:Int) < (5:Int))=true∧tU4 ((((¬ zz15)→PanG Try.prog chM 72 zz2 zz10∧(¬ (10≤b.length)))∧(zz15→(AnsG Try.prog 72 1 zz2 zz10 ⟨aJ (((tkV 2 (iU (((iU (((iU (b)).drop 2))).drop 2)))))),zz16,false⟩)∧True∧zz17∧tU3 (∃ _u:Unit,(6≤b.length)∧(((0=0)∧(0=0)∧(0=0)∧(dJ (wK ((2:Int)+(1:Int)))=dJ 3)∧True)∧((zz18=zz18)∧zz1∧(zz20=zz20)∧True))))))))∧(∀ _u:Unit,(6≤b.length)→True∧(decide ((3:Int) < (5:Int))=true∧tU4 ((((¬ zz21)→PanG Try.prog chM 72 zz2 zz16∧(¬ (10≤b.length)))∧(zz21→(AnsG Try.prog 72 1 zz2 zz16 ⟨aJ (((tkV 2 (iU (((iU (((iU (((iU (b)).drop 2))).drop 2))).drop 2)))))),zz22,false⟩)∧True∧zz23∧tU3 (∃ _u:Unit,(8≤b.length)∧(((0=0)∧(0=0)∧(0=0)∧(dJ (wK ((3:Int)+(1:Int)))=dJ 4)∧True)∧((zz24=zz24)∧zz1∧(zz26=zz26)∧True))))))))∧(∀ _u:Unit,(8≤b.length)→True∧(decide ((4:Int) < (5:Int))=true∧tU4 ((((¬ zz27)→PanG Try.prog chM 72 zz2 zz22∧(¬ (10≤b.length)))∧(zz27→(AnsG Try.prog 72 1 zz2 zz22 ⟨aJ (((tkV 2 (iU (((iU (((iU (((iU (((iU (b)).drop 2))).drop 2))).drop 2))).drop 2)))))),[bC [Cl.d (dS (((iU (((iU (((iU (((iU (((iU (b)).drop 2))).drop 2))).drop 2))).drop 2))).drop 2).length) (u8s ((iU (((iU (((iU (((iU (((iU (b)).drop 2))).drop 2))).drop 2))).drop 2))).drop 2)))]],false⟩)∧True∧zz28∧tU3 (∃ _u:Unit,(10≤b.length)∧(((0=0)∧(0=0)∧(0=0)∧(dJ (wK ((4:Int)+(1:Int)))=dJ 5)∧True)∧((zz29=zz29)∧zz1∧(zz30=zz30)∧True))))))))∧(∀ _u:Unit,(10≤b.length)→True∧(decide ((5:Int) < (5:Int))=false∧zz5∧True∧zz11∧True∧zz17∧tU2 (zz23∧True∧zz28∧tU3 (((10≤b.length)∧(((zz30=[dK ((rdPx b).a),dK ((rdPx b).b),dK ((rdPx b).c),dK ((rdPx b).al),dK ((rdPx b).f)])∧True)∧((zz29=[dS ((b.drop 10).length) (u8s (b.drop 10))])∧True))∧zQx ⟨AV.agg [cK (((rdPx b).a)),cK (((rdPx b).b)),cK (((rdPx b).c)),cK (((rdPx b).al)),cK (((rdPx b).f))],[bC [Cl.d (dS ((b.drop 10).length) (u8s (b.drop 10)))]],false⟩)))))∧True))):=by kernel_rfl
theorem zYD (b:List Int):((10≤b.length)→AnsG Try.prog 88 1 [AV.one (Cl.ptr 0 0)] [Bx.cells [Cl.d (DV.sl b.length (u8s b))]] ⟨AV.agg [Cl.d (DV.int .u16 ((rdPx b).a)),Cl.d (DV.int .u16 ((rdPx b).b)),Cl.d (DV.int .u16 ((rdPx b).c)),Cl.d (DV.int .u16 ((rdPx b).al)),Cl.d (DV.int .u16 ((rdPx b).f))],[Bx.cells [Cl.d (DV.sl ((b.drop 10).length) (u8s (b.drop 10)))]],false⟩)∧((¬ (10≤b.length))→PanG Try.prog chM 88 [AV.one (Cl.ptr 0 0)] [Bx.cells [Cl.d (DV.sl b.length (u8s b))]]):=
  zZP (Γ:=zGg) (X:=zKj) (zZ4 b) zQq Try.func88 rfl (Nat.le_of_ble_eq_true rfl) rfl fun hwf hbx=>by
    refine Eq.mpr (zY7 b) ?_
    delta tU2 tU3 tU4 dJ dK cK wK dS aJ aPz bC iU
    simp only [true_and,and_true,RV.d.injEq,RV.agg.injEq,RV.tup.injEq,DV.bool.injEq,DV.int.injEq,DV.sl.injEq,List.cons.injEq,forall_const,Bool.not_false,Bool.not_true,Bool.not_eq_true',Bool.not_eq_false',decide_eq_true_eq,decide_eq_false_iff_not,Int.toNat_natCast]
    simp only [zQZ,List.drop_drop,Nat.reduceAdd]
    simp only [Bx.wfL,Bx.wf,Cl.wfs,DV.wf,maxLen] at hbx
    have hB:=zKg hbx.1.1.2
    have hv:∀ d,d+2≤b.length→IntKind.wrap .u16 (tkV 2 (b.drop d))=tkV 2 (b.drop d):=fun d hd=>by
      have h1:=zGr (hB.drop d) 2 (by rw [List.length_drop]; omega)
      have h2:(256:Int) ^ 2=65536:=by decide
      rw [h2] at h1
      have h3:IntKind.wrap .u16 (tkV 2 (b.drop d))=tkV 2 (b.drop d) % 65536:=by simp [IntKind.wrap,IntKind.bits,IntKind.signed]
      rw [h3]
      omega
    refine ⟨⟨(),Nat.zero_le _⟩,fun h=>⟨by omega,fun h'=>⟨(zZg b 0 2 ⟨by omega,by omega⟩).2 h',(by first | omega | (rw [List.length_drop] at h'; omega))⟩,fun h'=>⟨(zZg b 0 2 ⟨by omega,by omega⟩).1 h',⟨by omega,by omega⟩,(),(by first | omega | (rw [List.length_drop] at h'; omega)),by decide⟩⟩,fun h=>⟨by omega,fun h'=>⟨(zZg b 2 2 ⟨by omega,by omega⟩).2 h',(by first | omega | (rw [List.length_drop] at h'; omega))⟩,fun h'=>⟨(zZg b 2 2 ⟨by omega,by omega⟩).1 h',⟨by omega,by omega⟩,(),(by first | omega | (rw [List.length_drop] at h'; omega)),by decide⟩⟩,fun h=>⟨by omega,fun h'=>⟨(zZg b 4 2 ⟨by omega,by omega⟩).2 h',(by first | omega | (rw [List.length_drop] at h'; omega))⟩,fun h'=>⟨(zZg b 4 2 ⟨by omega,by omega⟩).1 h',⟨by omega,by omega⟩,(),(by first | omega | (rw [List.length_drop] at h'; omega)),by decide⟩⟩,fun h=>⟨by omega,fun h'=>⟨(zZg b 6 2 ⟨by omega,by omega⟩).2 h',(by first | omega | (rw [List.length_drop] at h'; omega))⟩,fun h'=>⟨(zZg b 6 2 ⟨by omega,by omega⟩).1 h',⟨by omega,by omega⟩,(),(by first | omega | (rw [List.length_drop] at h'; omega)),by decide⟩⟩,fun h=>⟨by omega,fun h'=>⟨(zZg b 8 2 ⟨by omega,by omega⟩).2 h',(by first | omega | (rw [List.length_drop] at h'; omega))⟩,fun h'=>⟨(zZg b 8 2 ⟨by omega,by omega⟩).1 h',⟨by omega,by omega⟩,(),(by first | omega | (rw [List.length_drop] at h'; omega)),by decide⟩⟩,fun h=>⟨by omega,⟨by omega,by omega⟩,⟨by omega,by omega⟩,⟨by omega,by omega⟩,⟨by omega,by omega⟩,⟨by omega,by omega⟩,by omega,⟨⟨?_,?_,?_,?_,?_⟩,trivial,trivial⟩,trivial⟩⟩
    · exact hv 0 (by omega)
    · exact hv 2 (by omega)
    · exact hv 4 (by omega)
    · exact hv 6 (by omega)
    · exact hv 8 (by omega)
def zXB (b:List Int):Ann:=Ann.leaf
theorem zKw (b:List Int):xcg Try.prog zGg zKj chM (¬ (zZj b)) ⟨41,fun _=>false,List.range 1,false⟩ (zQl Try.f76) (zXB b) kn0 (zZq [AV.one (Cl.ptr 0 0)] [Bx.cells [Cl.d (DV.sl b.length (u8s b))]]) (fun e kn s_=>(zZj b)∧zXg Try.prog ⟨41,fun _=>false,List.range 1,false⟩ Try.f76.results.toList ⟨AV.agg [Cl.d (DV.int .i64 ((rdOp b).kind)),Cl.d (DV.int .i64 ((rdOp b).image)),Cl.d (DV.int .i64 ((rdOp b).x)),Cl.d (DV.int .i64 ((rdOp b).y)),Cl.d (DV.int .i64 ((rdOp b).mask)),Cl.d (DV.int .i64 ((rdOp b).mx)),Cl.d (DV.int .i64 ((rdOp b).my)),Cl.d (DV.int .u16 ((rdOp b).opac)),Cl.d (DV.int .i64 ((rdOp b).oper)),Cl.d (DV.int .i64 ((rdOp b).mode)),Cl.d (DV.bool ((rdOp b).iso)),Cl.d (DV.bool ((rdOp b).kno))],[Bx.cells [Cl.d (DV.sl ((b.drop 24).length) (u8s (b.drop 24)))]],false⟩ e kn s_) =
  (let zz0:=[aPz,aJ ((1))]; let zz1:=[bC [Cl.d (dS b.length (u8s b))]]; let zz2:=[bC [Cl.d (dS (((iU (b)).drop 1).length) (u8s ((iU (b)).drop 1)))]]; let zz3:=(1≤(iU (((iU (b)).drop 1))).length); let zz4:=[bC [Cl.d (dS (((iU (((iU (b)).drop 1))).drop 1).length) (u8s ((iU (((iU (b)).drop 1))).drop 1)))]]; let zz5:=(4≤(iU (((iU (((iU (b)).drop 1))).drop 1))).length); let zz6:=[bC [Cl.d (dS (((iU (((iU (((iU (b)).drop 1))).drop 1))).drop 4).length) (u8s ((iU (((iU (((iU (b)).drop 1))).drop 1))).drop 4)))]]; let zz7:=(4≤(iU (((iU (((iU (((iU (b)).drop 1))).drop 1))).drop 4))).length); let zz8:=[bC [Cl.d (dS (((iU (((iU (((iU (((iU (b)).drop 1))).drop 1))).drop 4))).drop 4).length) (u8s ((iU (((iU (((iU (((iU (b)).drop 1))).drop 1))).drop 4))).drop 4)))]]; let zz9:=(1≤(iU (((iU (((iU (((iU (((iU (b)).drop 1))).drop 1))).drop 4))).drop 4))).length); let zz10:=[bC [Cl.d (dS (((iU (((iU (((iU (((iU (((iU (b)).drop 1))).drop 1))).drop 4))).drop 4))).drop 1).length) (u8s ((iU (((iU (((iU (((iU (((iU (b)).drop 1))).drop 1))).drop 4))).drop 4))).drop 1)))]]; let zz11:=(4≤(iU (((iU (((iU (((iU (((iU (((iU (b)).drop 1))).drop 1))).drop 4))).drop 4))).drop 1))).length); let zz12:=[bC [Cl.d (dS (((iU (((iU (((iU (((iU (((iU (((iU (b)).drop 1))).drop 1))).drop 4))).drop 4))).drop 1))).drop 4).length) (u8s ((iU (((iU (((iU (((iU (((iU (((iU (b)).drop 1))).drop 1))).drop 4))).drop 4))).drop 1))).drop 4)))]]; let zz13:=(4≤(iU (((iU (((iU (((iU (((iU (((iU (((iU (b)).drop 1))).drop 1))).drop 4))).drop 4))).drop 1))).drop 4))).length); let zz14:=[bC [Cl.d (dS (((iU (((iU (((iU (((iU (((iU (((iU (((iU (b)).drop 1))).drop 1))).drop 4))).drop 4))).drop 1))).drop 4))).drop 4).length) (u8s ((iU (((iU (((iU (((iU (((iU (((iU (((iU (b)).drop 1))).drop 1))).drop 4))).drop 4))).drop 1))).drop 4))).drop 4)))]]; let zz15:=(2≤(iU (((iU (((iU (((iU (((iU (((iU (((iU (((iU (b)).drop 1))).drop 1))).drop 4))).drop 4))).drop 1))).drop 4))).drop 4))).length); let zz16:=[aPz,aJ ((2))]; let zz17:=[bC [Cl.d (dS (((iU (((iU (((iU (((iU (((iU (((iU (((iU (((iU (b)).drop 1))).drop 1))).drop 4))).drop 4))).drop 1))).drop 4))).drop 4))).drop 2).length) (u8s ((iU (((iU (((iU (((iU (((iU (((iU (((iU (((iU (b)).drop 1))).drop 1))).drop 4))).drop 4))).drop 1))).drop 4))).drop 4))).drop 2)))]]; let zz18:=(1≤(iU (((iU (((iU (((iU (((iU (((iU (((iU (((iU (((iU (b)).drop 1))).drop 1))).drop 4))).drop 4))).drop 1))).drop 4))).drop 4))).drop 2))).length); let zz19:=[bC [Cl.d (dS (((iU (((iU (((iU (((iU (((iU (((iU (((iU (((iU (((iU (b)).drop 1))).drop 1))).drop 4))).drop 4))).drop 1))).drop 4))).drop 4))).drop 2))).drop 1).length) (u8s ((iU (((iU (((iU (((iU (((iU (((iU (((iU (((iU (((iU (b)).drop 1))).drop 1))).drop 4))).drop 4))).drop 1))).drop 4))).drop 4))).drop 2))).drop 1)))]]; let zz20:=(1≤(iU (((iU (((iU (((iU (((iU (((iU (((iU (((iU (((iU (((iU (b)).drop 1))).drop 1))).drop 4))).drop 4))).drop 1))).drop 4))).drop 4))).drop 2))).drop 1))).length); let zz21:=[bC [Cl.d (dS (((iU (((iU (((iU (((iU (((iU (((iU (((iU (((iU (((iU (((iU (b)).drop 1))).drop 1))).drop 4))).drop 4))).drop 1))).drop 4))).drop 4))).drop 2))).drop 1))).drop 1).length) (u8s ((iU (((iU (((iU (((iU (((iU (((iU (((iU (((iU (((iU (((iU (b)).drop 1))).drop 1))).drop 4))).drop 4))).drop 1))).drop 4))).drop 4))).drop 2))).drop 1))).drop 1)))]]; let zz22:=(1≤(iU (((iU (((iU (((iU (((iU (((iU (((iU (((iU (((iU (((iU (((iU (b)).drop 1))).drop 1))).drop 4))).drop 4))).drop 1))).drop 4))).drop 4))).drop 2))).drop 1))).drop 1))).length); let zz23:=((decide ((tkV 1 (iU (((iU (((iU (((iU (((iU (((iU (((iU (((iU (((iU (((iU (((iU (b)).drop 1))).drop 1))).drop 4))).drop 4))).drop 1))).drop 4))).drop 4))).drop 2))).drop 1))).drop 1))))≤(3:Int)))=true); let zz24:=[AV.one (Cl.d (dQ (decide ((tkV 1 (iU (((iU (((iU (((iU (((iU (((iU (((iU (((iU (((iU (((iU (((iU (b)).drop 1))).drop 1))).drop 4))).drop 4))).drop 1))).drop 4))).drop 4))).drop 2))).drop 1))).drop 1))))≤(3:Int)))))]; tU2 ((((¬ (1≤(iU (b)).length))→PanG Try.prog chM 72 zz0 zz1∧(¬ (zZj b)))∧((1≤(iU (b)).length)→(AnsG Try.prog 72 1 zz0 zz1 ⟨aJ (((tkV 1 (iU (b))))),zz2,false⟩)∧True∧(((¬ zz3)→PanG Try.prog chM 72 zz0 zz2∧(¬ (zZj b)))∧(zz3→(AnsG Try.prog 72 1 zz0 zz2 ⟨aJ (((tkV 1 (iU (((iU (b)).drop 1)))))),zz4,false⟩)∧True∧(((¬ zz5)→PanG Try.prog chM 73 [aPz] zz4∧(¬ (zZj b)))∧(zz5→(AnsG Try.prog 73 1 [aPz] zz4 ⟨aJ (((sgV (iU (((iU (((iU (b)).drop 1))).drop 1)))))),zz6,false⟩)∧True∧(((¬ zz7)→PanG Try.prog chM 73 [aPz] zz6∧(¬ (zZj b)))∧(zz7→(AnsG Try.prog 73 1 [aPz] zz6 ⟨aJ (((sgV (iU (((iU (((iU (((iU (b)).drop 1))).drop 1))).drop 4)))))),zz8,false⟩)∧True∧(((¬ zz9)→PanG Try.prog chM 72 zz0 zz8∧(¬ (zZj b)))∧(zz9→(AnsG Try.prog 72 1 zz0 zz8 ⟨aJ (((tkV 1 (iU (((iU (((iU (((iU (((iU (b)).drop 1))).drop 1))).drop 4))).drop 4)))))),zz10,false⟩)∧True∧(((¬ zz11)→PanG Try.prog chM 73 [aPz] zz10∧(¬ (zZj b)))∧(zz11→(AnsG Try.prog 73 1 [aPz] zz10 ⟨aJ (((sgV (iU (((iU (((iU (((iU (((iU (((iU (b)).drop 1))).drop 1))).drop 4))).drop 4))).drop 1)))))),zz12,false⟩)∧True∧(((¬ zz13)→PanG Try.prog chM 73 [aPz] zz12∧(¬ (zZj b)))∧(zz13→(AnsG Try.prog 73 1 [aPz] zz12 ⟨aJ (((sgV (iU (((iU (((iU (((iU (((iU (((iU (((iU (b)).drop 1))).drop 1))).drop 4))).drop 4))).drop 1))).drop 4)))))),zz14,false⟩)∧True∧(((¬ zz15)→PanG Try.prog chM 72 zz16 zz14∧(¬ (zZj b)))∧(zz15→(AnsG Try.prog 72 1 zz16 zz14 ⟨aJ (((tkV 2 (iU (((iU (((iU (((iU (((iU (((iU (((iU (((iU (b)).drop 1))).drop 1))).drop 4))).drop 4))).drop 1))).drop 4))).drop 4)))))),zz17,false⟩)∧tU2 ((((¬ zz18)→PanG Try.prog chM 72 zz0 zz17∧(¬ (zZj b)))∧(zz18→(AnsG Try.prog 72 1 zz0 zz17 ⟨aJ (((tkV 1 (iU (((iU (((iU (((iU (((iU (((iU (((iU (((iU (((iU (b)).drop 1))).drop 1))).drop 4))).drop 4))).drop 1))).drop 4))).drop 4))).drop 2)))))),zz19,false⟩)∧True∧(((¬ zz20)→PanG Try.prog chM 72 zz0 zz19∧(¬ (zZj b)))∧(zz20→(AnsG Try.prog 72 1 zz0 zz19 ⟨aJ (((tkV 1 (iU (((iU (((iU (((iU (((iU (((iU (((iU (((iU (((iU (((iU (b)).drop 1))).drop 1))).drop 4))).drop 4))).drop 1))).drop 4))).drop 4))).drop 2))).drop 1)))))),zz21,false⟩)∧tU4 ((((¬ zz22)→PanG Try.prog chM 72 zz0 zz21∧(¬ (zZj b)))∧(zz22→(AnsG Try.prog 72 1 zz0 zz21 ⟨aJ (((tkV 1 (iU (((iU (((iU (((iU (((iU (((iU (((iU (((iU (((iU (((iU (((iU (b)).drop 1))).drop 1))).drop 4))).drop 4))).drop 1))).drop 4))).drop 4))).drop 2))).drop 1))).drop 1)))))),[bC [Cl.d (dS (((iU (((iU (((iU (((iU (((iU (((iU (((iU (((iU (((iU (((iU (((iU (b)).drop 1))).drop 1))).drop 4))).drop 4))).drop 1))).drop 4))).drop 4))).drop 2))).drop 1))).drop 1))).drop 1).length) (u8s ((iU (((iU (((iU (((iU (((iU (((iU (((iU (((iU (((iU (((iU (((iU (b)).drop 1))).drop 1))).drop 4))).drop 4))).drop 1))).drop 4))).drop 4))).drop 2))).drop 1))).drop 1))).drop 1)))]],false⟩)∧tU3 ((((¬ zz23)→PanG Try.prog chM 45 zz24 []∧(¬ (zZj b)))∧(zz23→(AnsG Try.prog 45 0 zz24 [] ⟨AV.tup [],[],false⟩)∧tU4 (tU8 (((zZj b)∧((([dJ (tkV 1 (iU (b))),dJ (tkV 1 (iU (((iU (b)).drop 1)))),dJ (sgV (iU (((iU (((iU (b)).drop 1))).drop 1)))),dJ (sgV (iU (((iU (((iU (((iU (b)).drop 1))).drop 1))).drop 4)))),dJ (tkV 1 (iU (((iU (((iU (((iU (((iU (b)).drop 1))).drop 1))).drop 4))).drop 4)))),dJ (sgV (iU (((iU (((iU (((iU (((iU (((iU (b)).drop 1))).drop 1))).drop 4))).drop 4))).drop 1)))),dJ (sgV (iU (((iU (((iU (((iU (((iU (((iU (((iU (b)).drop 1))).drop 1))).drop 4))).drop 4))).drop 1))).drop 4)))),dK (IntKind.wrap .u16 (tkV 2 (iU (((iU (((iU (((iU (((iU (((iU (((iU (((iU (b)).drop 1))).drop 1))).drop 4))).drop 4))).drop 1))).drop 4))).drop 4))))),dJ (tkV 1 (iU (((iU (((iU (((iU (((iU (((iU (((iU (((iU (((iU (b)).drop 1))).drop 1))).drop 4))).drop 4))).drop 1))).drop 4))).drop 4))).drop 2)))),dJ (tkV 1 (iU (((iU (((iU (((iU (((iU (((iU (((iU (((iU (((iU (((iU (b)).drop 1))).drop 1))).drop 4))).drop 4))).drop 1))).drop 4))).drop 4))).drop 2))).drop 1)))),dQ ((wK (BitVec.ofInt 64 (tkV 1 (iU (((iU (((iU (((iU (((iU (((iU (((iU (((iU (((iU (((iU (((iU (b)).drop 1))).drop 1))).drop 4))).drop 4))).drop 1))).drop 4))).drop 4))).drop 2))).drop 1))).drop 1)))) &&& BitVec.ofInt 64 (1:Int)).toNat) != (0:Int)),dQ ((wK (BitVec.ofInt 64 (tkV 1 (iU (((iU (((iU (((iU (((iU (((iU (((iU (((iU (((iU (((iU (((iU (b)).drop 1))).drop 1))).drop 4))).drop 4))).drop 1))).drop 4))).drop 4))).drop 2))).drop 1))).drop 1)))) &&& BitVec.ofInt 64 (2:Int)).toNat) != (0:Int))]=(Oq.cells (rdOp b)))∧True)∧(([dS (((iU (((iU (((iU (((iU (((iU (((iU (((iU (((iU (((iU (((iU (((iU (b)).drop 1))).drop 1))).drop 4))).drop 4))).drop 1))).drop 4))).drop 4))).drop 2))).drop 1))).drop 1))).drop 1).length) (u8s ((iU (((iU (((iU (((iU (((iU (((iU (((iU (((iU (((iU (((iU (((iU (b)).drop 1))).drop 1))).drop 4))).drop 4))).drop 1))).drop 4))).drop 4))).drop 2))).drop 1))).drop 1))).drop 1))]=[dS ((b.drop 24).length) (u8s (b.drop 24))])∧True))∧zQx ⟨AV.agg [cJ (((rdOp b).kind)),cJ (((rdOp b).image)),cJ (((rdOp b).x)),cJ (((rdOp b).y)),cJ (((rdOp b).mask)),cJ (((rdOp b).mx)),cJ (((rdOp b).my)),cK (((rdOp b).opac)),cJ (((rdOp b).oper)),cJ (((rdOp b).mode)),Cl.d (dQ ((rdOp b).iso)),Cl.d (dQ ((rdOp b).kno))],[bC [Cl.d (dS ((b.drop 24).length) (u8s (b.drop 24)))]],false⟩)))))))))))))))))))))))))))))))):=by kernel_rfl
theorem zJ4 (b:List Int):((zZj b)→AnsG Try.prog 76 1 [AV.one (Cl.ptr 0 0)] [Bx.cells [Cl.d (DV.sl b.length (u8s b))]] ⟨AV.agg [Cl.d (DV.int .i64 ((rdOp b).kind)),Cl.d (DV.int .i64 ((rdOp b).image)),Cl.d (DV.int .i64 ((rdOp b).x)),Cl.d (DV.int .i64 ((rdOp b).y)),Cl.d (DV.int .i64 ((rdOp b).mask)),Cl.d (DV.int .i64 ((rdOp b).mx)),Cl.d (DV.int .i64 ((rdOp b).my)),Cl.d (DV.int .u16 ((rdOp b).opac)),Cl.d (DV.int .i64 ((rdOp b).oper)),Cl.d (DV.int .i64 ((rdOp b).mode)),Cl.d (DV.bool ((rdOp b).iso)),Cl.d (DV.bool ((rdOp b).kno))],[Bx.cells [Cl.d (DV.sl ((b.drop 24).length) (u8s (b.drop 24)))]],false⟩)∧((¬ (zZj b))→PanG Try.prog chM 76 [AV.one (Cl.ptr 0 0)] [Bx.cells [Cl.d (DV.sl b.length (u8s b))]]):=
  zZP (Γ:=zGg) (X:=zKj) (zXB b) zQq Try.func76 rfl (Nat.le_of_ble_eq_true rfl) rfl fun hwf hbx=>by
    refine Eq.mpr (zKw b) ?_
    delta tU2 tU3 tU4 tU8 dJ dK dQ cJ cK wK dS aJ aPz bC iU
    simp only [true_and,and_true,RV.d.injEq,RV.agg.injEq,RV.tup.injEq,DV.bool.injEq,DV.int.injEq,DV.sl.injEq,List.cons.injEq,forall_const,Bool.not_false,Bool.not_true,Bool.not_eq_true',Bool.not_eq_false',decide_eq_true_eq,decide_eq_false_iff_not,Int.toNat_natCast]
    simp only [zQZ,List.drop_drop,Nat.reduceAdd]
    simp only [Bx.wfL,Bx.wf,Cl.wfs,DV.wf,maxLen] at hbx
    have hB:=zKg hbx.1.1.2
    have dm:=fun p:Bool=>zZh p
    refine ⟨fun h'=>⟨(zZg b 0 1 ⟨by omega,by omega⟩).2 h',fun hw=>by have:=hw.1; first | omega | (rw [List.length_drop] at h'; omega)⟩,fun h=>⟨(zZg b 0 1 ⟨by omega,by omega⟩).1 h,⟨fun h'=>⟨(zZg b 1 1 ⟨by omega,by omega⟩).2 h',fun hw=>by have:=hw.1; first | omega | (rw [List.length_drop] at h'; omega)⟩,fun h=>⟨(zZg b 1 1 ⟨by omega,by omega⟩).1 h,⟨fun h'=>⟨(zJ0 b 2).2 h',fun hw=>by have:=hw.1; first | omega | (rw [List.length_drop] at h'; omega)⟩,fun h=>⟨(zJ0 b 2).1 h,⟨fun h'=>⟨(zJ0 b 6).2 h',fun hw=>by have:=hw.1; first | omega | (rw [List.length_drop] at h'; omega)⟩,fun h=>⟨(zJ0 b 6).1 h,⟨fun h'=>⟨(zZg b 10 1 ⟨by omega,by omega⟩).2 h',fun hw=>by have:=hw.1; first | omega | (rw [List.length_drop] at h'; omega)⟩,fun h=>⟨(zZg b 10 1 ⟨by omega,by omega⟩).1 h,⟨fun h'=>⟨(zJ0 b 11).2 h',fun hw=>by have:=hw.1; first | omega | (rw [List.length_drop] at h'; omega)⟩,fun h=>⟨(zJ0 b 11).1 h,⟨fun h'=>⟨(zJ0 b 15).2 h',fun hw=>by have:=hw.1; first | omega | (rw [List.length_drop] at h'; omega)⟩,fun h=>⟨(zJ0 b 15).1 h,⟨fun h'=>⟨(zZg b 19 2 ⟨by omega,by omega⟩).2 h',fun hw=>by have:=hw.1; first | omega | (rw [List.length_drop] at h'; omega)⟩,fun h=>⟨(zZg b 19 2 ⟨by omega,by omega⟩).1 h,⟨fun h'=>⟨(zZg b 21 1 ⟨by omega,by omega⟩).2 h',fun hw=>by have:=hw.1; first | omega | (rw [List.length_drop] at h'; omega)⟩,fun h=>⟨(zZg b 21 1 ⟨by omega,by omega⟩).1 h,⟨fun h'=>⟨(zZg b 22 1 ⟨by omega,by omega⟩).2 h',fun hw=>by have:=hw.1; first | omega | (rw [List.length_drop] at h'; omega)⟩,fun h=>⟨(zZg b 22 1 ⟨by omega,by omega⟩).1 h,⟨fun h'=>⟨(zZg b 23 1 ⟨by omega,by omega⟩).2 h',fun hw=>by have:=hw.1; first | omega | (rw [List.length_drop] at h'; omega)⟩,fun h=>⟨(zZg b 23 1 ⟨by omega,by omega⟩).1 h,?_⟩⟩⟩⟩⟩⟩⟩⟩⟩⟩⟩⟩⟩⟩⟩⟩⟩⟩⟩⟩⟩⟩
    have h24:24≤b.length:=by rw [List.length_drop] at h; omega
    have hf:=zGr (hB.drop 23) 1 (by rw [List.length_drop]; omega)
    have ho:=zGr (hB.drop 19) 2 (by rw [List.length_drop]; omega)
    have e1:(256:Int) ^ 1=256:=by decide
    have e2:(256:Int) ^ 2=65536:=by decide
    rw [e1] at hf
    rw [e2] at ho
    have how:IntKind.wrap .u16 (tkV 2 (b.drop 19))=tkV 2 (b.drop 19):=IntWalk.u16_in _ ⟨by omega,by omega⟩
    refine ⟨fun h=>⟨(dm _).2 (by simpa using h),fun hw=>h hw.2⟩,fun h=>⟨(dm _).1 (by simpa using h),⟨h24,h⟩,⟨?_,trivial,trivial⟩,trivial⟩⟩
    rw [how]
    unfold rdOp
    generalize tkV 1 (b.drop 23)=f at *
    have hf4:f=0∨f=1∨f=2∨f=3:=by omega
    have g:((IntKind.wrap .i64 ((BitVec.ofInt 64 f &&& BitVec.ofInt 64 1).toNat:Int)) != 0)=decide (f % 2=1)∧((IntKind.wrap .i64 ((BitVec.ofInt 64 f &&& BitVec.ofInt 64 2).toNat:Int)) != 0)=decide (f / 2 % 2=1):=by
      rcases hf4 with rfl | rfl | rfl | rfl <;> exact ⟨by decide,by decide⟩
    rw [g.1,g.2]
    rfl
end Go.Proofs.Ytlnfgagmiogkgaa
namespace Go.Proofs.Ytlnfgagmiogkgaa
open Go.RowKit
set_option linter.unusedVariables false
set_option linter.unusedSimpArgs false
theorem jYP (v:Int):zU8 v=true ↔ -1048576≤v∧v≤1048576:=by simp [zU8]
theorem Im.list_so {m:Im} (hs:m.so=true) (n:Nat):m.list n=List.replicate n m.c:=by
  unfold Im.list
  refine List.ext_getElem (by simp) fun i h1 h2=>?_
  simp [Im.nth,Im.px,hs]
theorem Im.count_pos {m:Im} (hf:m.formed=true):0 < m.w.toNat*m.h.toNat:=by
  obtain ⟨f1,f2,f3,f4,f5⟩:=zZA (Im.formed_of hf).1
  exact Nat.mul_pos (by omega) (by omega)
theorem Im.pixels_so {m:Im} (hf:m.formed=true) (hs:m.so=true):m.pixels=List.replicate (m.w.toNat*m.h.toNat) m.c:=by
  rw [Im.pixels_of hf,Im.list_so hs]
theorem Im.valid_iff {m:Im} (hf:m.formed=true) (most:Int):m.valid most=0↔∀ p∈m.pixels,p.ok most=true:=by
  obtain ⟨h1,h2⟩:=Im.formed_of hf
  unfold Im.valid
  rw [if_neg (by simp [h1]),if_neg (by simp [h2])]
  cases hs:m.so with
  | true=>
    rw [if_pos rfl,Im.pixels_so hf hs]
    have:=Im.count_pos hf
    constructor
    · intro h p hp
      obtain ⟨_,rfl⟩:=List.mem_replicate.1 hp
      split at h
      · assumption
      · cases h
    · intro h
      rw [if_pos (h m.c (List.mem_replicate.2 ⟨by omega,rfl⟩))]
  | false=>
    rw [if_neg (by simp),Im.pixels_of hf]
    unfold Im.okTo Im.count Im.list
    constructor
    · intro h p hp
      split at h
      · rename_i ha
        obtain ⟨k,hk,rfl⟩:=List.mem_map.1 hp
        exact List.all_eq_true.1 ha k hk
      · cases h
    · intro h
      rw [if_pos (List.all_eq_true.2 fun k hk=>h _ (List.mem_map.2 ⟨k,hk,rfl⟩))]
theorem zXl (n:Int) {most:Int} (h0:0≤most) (h1:most≤65535):0≤zQn n most∧zQn n most≤most:=by
  unfold zQn
  rw [IntWalk.i64_in most ⟨by omega,by omega⟩]
  have a2:=@zQ6 (IntKind.wrap .i64 (Int.tdiv n 8)) 2 (by omega) (by omega)
  have a4:=@zQ6 (IntKind.wrap .i64 (Int.tdiv n 8)) 4 (by omega) (by omega)
  split
  · omega
  · split
    · omega
    · split
      · rw [IntWalk.i64_in (most+_) ⟨by omega,by omega⟩]
        have e:Int.tdiv (most+modS (IntKind.wrap .i64 (Int.tdiv n 8)) 2) 2=(most+modS (IntKind.wrap .i64 (Int.tdiv n 8)) 2) / 2:=Int.tdiv_eq_ediv_of_nonneg (by omega)
        rw [e,IntWalk.i64_in _ ⟨by omega,by omega⟩,IntWalk.u16_in _ ⟨by omega,by omega⟩]
        omega
      · split
        · rw [IntWalk.u16_in _ ⟨by omega,by omega⟩]
          omega
        · rw [IntWalk.i64_in (most+1) ⟨by omega,by omega⟩]
          have a:=@zQ6 (IntKind.wrap .i64 (Int.tdiv n 8)) (most+1) (by omega) (by omega)
          rw [IntWalk.u16_in _ ⟨by omega,by omega⟩]
          omega
theorem jYZ (n0 n1 n2 n3 n4:Int) {most:Int} (h0:0≤most) (h1:most≤65535):(zQs n0 n1 n2 n3 n4 most).ok most=true∧0≤(zQs n0 n1 n2 n3 n4 most).a∧0≤(zQs n0 n1 n2 n3 n4 most).b∧0≤(zQs n0 n1 n2 n3 n4 most).c∧0≤(zQs n0 n1 n2 n3 n4 most).al:=by
  have hf:=zXl n4 h0 h1
  have key:∀ a f:Int,0≤a→a≤f→f≤most→Px.ok ⟨zQn n0 a,zQn n1 a,zQn n2 a,a,f⟩ most=true∧0≤zQn n0 a∧0≤zQn n1 a∧0≤zQn n2 a∧0≤a:=fun a f k0 k1 k2=>by
    have q0:=zXl n0 k0 (by omega)
    have q1:=zXl n1 k0 (by omega)
    have q2:=zXl n2 k0 (by omega)
    simp [Px.ok]
    omega
  unfold zQs
  simp only
  split
  · have ha:=zXl (IntKind.wrap .i64 (Int.tdiv n3 3)) hf.1 (by omega)
    exact key _ _ ha.1 ha.2 hf.2
  · exact key _ _ hf.1 (Int.le_refl _) hf.2
def Px.fine (p:Px) (most:Int):Prop:=p.ok most=true∧0≤p.a∧0≤p.b∧0≤p.c∧0≤p.al
theorem jXm (mood:Int) (L:Nat) (xs:List DV) {most:Int} (h0:0≤most) (h1:most≤65535) (k:Nat):(gPx mood L xs most k).fine most:=by
  have hz:Px.zero.fine most:=⟨by simp [Px.ok,Px.zero,h0],by decide,by decide,by decide,by decide⟩
  have hp:∀ k,(gPx1 L xs most k).fine most:=fun k=>jYZ _ _ _ _ _ h0 h1
  unfold gPx
  split
  · exact hz
  · split
    · obtain ⟨a,b⟩:=hp k
      refine ⟨?_,b.1,b.2.1,b.2.2.1,h0⟩
      simp [Px.ok] at a ⊢
      omega
    · split
      · exact hp 0
      · exact hp k
theorem zUF (pw ph so mood:Int) (L:Nat) (xs:List DV) (x0 y0 x1 y1:Int) {most:Int} (h0:0≤most) (h1:most≤65535) (hc:1≤x1 - x0∧x1 - x0≤100∧1≤y1 - y0∧y1 - y0≤100):∀ p∈(zQg pw ph so mood L xs x0 y0 x1 y1 most).pixels,p.fine most:=by
  have hf:=(zV1 pw ph so mood L xs x0 y0 x1 y1 most hc).1
  intro p hp
  rw [zK8 pw ph so mood L xs x0 y0 x1 y1 most _ _ rfl rfl] at hf hp
  split at hf
  · rename_i hs
    rw [if_pos hs,Im.pixels_so hf rfl] at hp
    obtain ⟨_,rfl⟩:=List.mem_replicate.1 hp
    exact jXm _ _ _ h0 h1 _
  · rename_i hs
    rw [if_neg hs] at hp
    cases hk:ofOk (zXH pw 5 x0 x1 pw) (zXH ph 4 y0 y1 pw) (zQm mood L xs most (IntKind.wrap .i64 (zXH pw 5 x0 x1 pw*zXH ph 4 y0 y1 pw)).toNat).length with
    | true=>
      rw [(zUy hk).2] at hp
      unfold zQm at hp
      obtain ⟨k,_,rfl⟩:=List.mem_map.1 hp
      exact jXm _ _ _ h0 h1 _
    | false=>
      rw [zUz hk] at hf
      exact absurd hf (by decide)
def okO (bits:Int) (mn:Nat):List Oq→List Oq→Option (List Oq)
  | [],st=>some st
  | o::r,st=>if errO bits mn o st=0 then okO bits mn r (jQ3 o st) else none
theorem zUg {bits:Int} {mn:Nat}:∀ (l m:List Oq) (st:List Oq),okO bits mn (l++m) st=(okO bits mn l st).bind (okO bits mn m)
  | [],m,st=>rfl
  | o::l,m,st=>by
    simp only [List.cons_append,okO]
    split
    · exact zUg l m _
    · rfl
theorem jXt {bits:Int} {mn:Nat} {st:List Oq} (h:st≠[]):errO bits mn popO st=0:=by
  have h1:popO.kind=3:=rfl
  have h2:popO.fields=true:=by decide
  unfold errO
  rw [if_neg (by rw [h1]; simp),if_neg (by rw [h2]; simp),if_pos h1,if_neg h]
theorem jXe {bits:Int} {mn:Nat}:∀ (n:Nat) (st:List Oq),n≤st.length→okO bits mn (List.replicate n popO) st=some (st.take (st.length - n))
  | 0,st,_=>by simp [okO]
  | n+1,st,h=>by
    have hne:st≠[]:=by intro e; subst e; simp at h
    have h1:popO.kind=3:=rfl
    rw [List.replicate_succ,okO,if_pos (jXt hne)]
    have e:jQ3 popO st=st.dropLast:=by unfold jQ3; rw [if_neg (by rw [h1]; decide),if_pos h1]
    rw [e,jXe n _ (by simp; omega),List.dropLast_eq_take,List.take_take]
    congr 2
    simp; omega
theorem jZq {bits:Int} {mn:Nat} {o:Oq} {st:List Oq} (h:errO bits mn o st=0):okO bits mn [o] st=some (jQ3 o st):=by
  simp only [okO]; rw [if_pos h]
theorem zK7 {n c:Int} (h : -100≤c∧c≤100) : -200≤gOff n c∧gOff n c≤200:=by
  have b:=@zQ6 (IntKind.wrap .i64 (Int.tdiv n 3)) 9 (by omega) (by omega)
  unfold gOff
  split <;> omega
theorem jVU {bits:Int} {mn:Nat} {r:Rw} {push:Bool} {c:Rc} {most:Int} {st:List Oq} (hm:1≤mn∧mn≤64) (hc:(-100≤c.a∧c.a≤100) ∧ -100≤c.b∧c.b≤100) (hb:jKP bits=most) (h0:0≤most∧most≤65535) (hl:st.length < 64) :
    errO bits mn (gOp r push mn c (ctxB st) most) st=0:=by
  have b1:=@zQ6 r.im mn (by omega) (by omega)
  have b2:=@zQ6 (IntKind.wrap .i64 (Int.tdiv r.ma 4)) mn (by omega) (by omega)
  have b3:=@zQ6 (IntKind.wrap .i64 (Int.tdiv r.ope 2)) 12 (by omega) (by omega)
  have b4:=@zQ6 (IntKind.wrap .i64 (Int.tdiv r.mo 2)) 12 (by omega) (by omega)
  have o1:=@zK7 r.x c.a hc.1
  have o2:=@zK7 r.y c.b hc.2
  have o3:=@zK7 r.mx c.a hc.1
  have o4:=@zK7 r.my c.b hc.2
  have s1:=zXl (IntKind.wrap .i64 (Int.tdiv r.op 2)) h0.1 h0.2
  unfold errO
  rw [hb]
  rw [if_neg (by simp [gOp]; cases push <;> simp)]
  rw [if_neg (by
    cases push <;> simp only [gOp,Oq.fields] <;> by_cases q:modS r.ma 4=0 <;> simp [q] <;> omega)]
  rw [if_neg (by cases push <;> simp [gOp])]
  rw [if_neg (by
    cases push <;> simp only [gOp] <;> by_cases q:modS r.ma 4=0 <;> simp [q] <;> omega)]
  rw [if_neg (by
    simp only [Decidable.not_not,jYP,gOp]
    refine ⟨?_,?_,?_,?_⟩ <;> split <;> omega)]
  rw [if_neg (by simp only [gOp]; split <;> omega)]
  rw [if_neg (by simp only [gOp]; split <;> omega)]
  rw [if_neg (by simp only [gOp]; split <;> omega)]
  rw [if_neg (by
    simp only [gOp]
    intro ⟨h1,h2⟩
    rw [h2] at h1
    simp at h1)]
  rw [if_neg (by omega)]
theorem Scn.bits_max (s:Scn):jKP s.bits=s.most∧jKq s.bits=true:=by
  have:=s.most_in
  unfold Scn.bits
  rcases this with h | h <;> rw [h] <;> decide
theorem Scn.run_okO (s:Scn) (k:Nat) (hk:k≤9):okO s.bits s.ims.length (s.run k).1 []=some (s.run k).2:=by
  induction k with
  | zero=>rfl
  | succ k ih=>
    have ih:=ih (by omega)
    have hl:=s.run_len k
    have F:=s.c_facts
    have li:=s.ims_len
    have hm:0≤s.most∧s.most≤65535:=by rcases s.most_in with h | h <;> rw [h] <;> omega
    by_cases h:modS (rwAt s.rxs (k*11)).k 8=0∧0 < (s.run k).2.length
    · rw [Scn.run_pop h,zUg,ih]
      have hne:(s.run k).2≠[]:=by intro e; rw [e] at h; simp at h
      show okO _ _ [popO] _=_
      rw [jZq (jXt hne)]
      rfl
    · obtain ⟨r1,r2⟩:=Scn.run_op h rfl
      have he:=@jVU s.bits s.ims.length (rwAt s.rxs (k*11)) (decide (modS (rwAt s.rxs (k*11)).k 8 < 3)) s.c s.most (s.run k).2 (by omega) (by omega) s.bits_max.1 hm (by omega)
      have hkd:(gOp (rwAt s.rxs (k*11)) (decide (modS (rwAt s.rxs (k*11)).k 8 < 3)) s.ims.length s.c (ctxB (s.run k).2) s.most).kind=if modS (rwAt s.rxs (k*11)).k 8 < 3 then 2 else 1:=by simp [gOp]
      generalize gOp (rwAt s.rxs (k*11)) (decide (modS (rwAt s.rxs (k*11)).k 8 < 3)) s.ims.length s.c (ctxB (s.run k).2) s.most=o at *
      by_cases h2:o.kind=2
      · rw [r1 h2,zUg,ih]
        show okO _ _ [o] _=_
        rw [jZq he]
        unfold jQ3
        rw [if_pos h2]
      · have h3:o.kind≠3:=by rw [hkd]; split <;> decide
        rw [r2 h2,zUg,ih]
        show okO _ _ [o] _=_
        rw [jZq he]
        unfold jQ3
        rw [if_neg h2,if_neg h3]
theorem Scn.ops_ok (s:Scn):okO s.bits s.ims.length s.ops []=some []:=by
  unfold Scn.ops
  rw [zUg,s.run_okO _ (by omega)]
  show okO _ _ _ _=_
  rw [jXe _ _ (Nat.le_refl _),Nat.sub_self]
  rfl
theorem Scn.ops_len (s:Scn):s.ops.length≤18:=by
  have:=s.run_len (min s.rn 9)
  unfold Scn.ops
  simp; omega
theorem Scn.ord_len (s:Scn):s.ord.length≤64:=by
  have ht:=s.tiles_in
  unfold Scn.ord zZO
  split
  · simp
  · have:=(zVq (ints s.oxs) (n:=s.tiles.toNat) (by omega) s.tiles.toNat (Nat.le_refl _)).2
    omega
theorem Scn.fine (s:Scn):∀ m∈s.ims,m.formed=true∧(m.w≤100∧m.h≤100)∧m.valid s.most=0∧∀ more,(zZN m more).valid s.most=0:=by
  have CF:=s.c_facts
  have hq:1≤s.c.c - s.c.a∧s.c.c - s.c.a≤100∧1≤s.c.d - s.c.b∧s.c.d - s.c.b≤100:=by have:=s.facts; omega
  have hm:0≤s.most∧s.most≤65535:=by rcases s.most_in with h | h <;> rw [h] <;> omega
  have key:∀ m:Im,m.formed=true→m.w≤100∧m.h≤100→(∀ p∈m.pixels,p.fine s.most)→m.formed=true∧(m.w≤100∧m.h≤100)∧m.valid s.most=0∧∀ more,(zZN m more).valid s.most=0:=fun m h1 h2 h3=>by
    refine ⟨h1,h2,(Im.valid_iff h1 _).2 fun p hp=>(h3 p hp).1,fun more=>(Im.valid_iff (zJw h1 h2 more) _).2 fun p hp=>?_⟩
    rw [zUE h1 h2 more] at hp
    exact (h3 p hp).1
  intro m hmem
  unfold Scn.ims at hmem
  split at hmem
  · rw [List.mem_singleton] at hmem
    subst hmem
    have F:=s.facts
    have hf:zQz s.gw s.gh=true:=by
      have:=Int.mul_le_mul F.2.2.1.2 F.2.2.2.1.2 (by omega) (by omega)
      simp [zQz]; omega
    refine key _ (zZH _ hf) ⟨by show s.gw≤100; omega,by show s.gh≤100; omega⟩ fun p hp=>?_
    change p∈(zQa s.gw s.gh ⟨s.most,0,0,s.most,s.most⟩).pixels at hp
    rw [Im.pixels_of (zZH _ hf),Im.list,List.mem_map] at hp
    obtain ⟨k,_,rfl⟩:=hp
    have e:(zQa s.gw s.gh ⟨s.most,0,0,s.most,s.most⟩).nth k=⟨s.most,0,0,s.most,s.most⟩:=by simp [Im.nth,Im.px,zQa]
    change ((zQa s.gw s.gh ⟨s.most,0,0,s.most,s.most⟩).nth k).fine s.most
    rw [e]
    exact ⟨by simp [Px.ok]; omega,by simp only; omega,by simp only; omega,by simp only; omega,by simp only; omega⟩
  · simp only [Scn.pics,List.mem_map] at hmem
    obtain ⟨k,_,rfl⟩:=hmem
    obtain ⟨gf,g1,g2,g3,g4⟩:=zV1 (nAt s.pxs (k*5)) (nAt s.pxs (k*5+1)) (nAt s.pxs (k*5+2)) (nAt s.pxs (k*5+3)) (lAt s.pxs (k*5+4)) (cAt s.pxs (k*5+4)) s.c.a s.c.b s.c.c s.c.d s.most hq
    exact key _ gf ⟨g2,g4⟩ fun p hp=>zUF _ _ _ _ _ _ _ _ _ _ hm.1 hm.2 hq p hp
section
variable {α:Type} {f:α→List DV} {m:Nat}
theorem jJW (hf:∀ a,(f a).length=m) (l:List α):(l.flatMap f).length=l.length*m:=by
  induction l with
  | nil=>simp
  | cons a l ih=>rw [List.flatMap_cons,List.length_append,hf,ih,List.length_cons,Nat.add_mul]; omega
theorem jQz (hf:∀ a,(f a).length=m):∀ (l:List α) (k:Nat),(l.flatMap f).take (k*m)=(l.take k).flatMap f
  | [],k=>by simp
  | a::l,0=>by simp
  | a::l,k+1=>by
    rw [List.flatMap_cons,List.take_succ_cons,List.flatMap_cons,List.take_append,hf,List.take_of_length_le (by rw [hf,Nat.add_mul]; omega),show (k+1)*m - m=k*m by rw [Nat.add_mul]; omega,jQz hf l k]
theorem jQA (hf:∀ a,(f a).length=m):∀ (l:List α) (k:Nat),(l.flatMap f).drop (k*m)=(l.drop k).flatMap f
  | [],k=>by simp
  | a::l,0=>by simp
  | a::l,k+1=>by
    rw [List.flatMap_cons,List.drop_succ_cons,List.drop_append,hf,List.drop_of_length_le (by rw [hf,Nat.add_mul]; omega),show (k+1)*m - m=k*m by rw [Nat.add_mul]; omega,jQA hf l k,List.nil_append]
theorem jY1 (hf:∀ a,(f a).length=m) {l:List α} {k:Nat} (h:k < l.length) (a:α):sets (l.flatMap f) (k*m) (f a)=(l.set k a).flatMap f:=by
  have hle:(k+1)*m≤l.length*m:=Nat.mul_le_mul_right _ (by omega)
  rw [zG7 _ _ _ (by rw [jJW hf,hf]; rw [Nat.add_mul] at hle; omega),hf,jQz hf,show k*m+m=(k+1)*m by rw [Nat.add_mul]; omega,jQA hf,List.set_eq_take_append_cons_drop,if_pos h]
  simp
end
end Go.Proofs.Ytlnfgagmiogkgaa
namespace Go.Proofs.Ytlnfgagmiogkgaa
open Go.RowKit
set_option linter.unusedVariables false
set_option linter.unusedSimpArgs false
attribute [local irreducible] Ans AnsO AnsG AnsN AnsI
set_option maxRecDepth 4000
end Go.Proofs.Ytlnfgagmiogkgaa
namespace Go.Proofs.Ytlnfgagmiogkgaa
open Go.RowKit
set_option linter.unusedVariables false
set_option linter.unusedSimpArgs false
def Cl.thaw (bx:Nat→Bx):Cl→Option DV
  | .d v=>some v
  | .nil=>some (.sl 0 [])
  | .ref b n=>match zZD (bx b) with
    | some xs=>some (.sl n xs)
    | none=>none
  | _=>none
def jYk (bx:Nat→Bx):List Cl→Option (List DV)
  | []=>some []
  | c::cs=>match c.thaw bx,jYk bx cs with
    | some d,some ds=>some (d::ds)
    | _,_=>none
mutual
def AV.thaw (bx:Nat→Bx):AV→Option RV
  | .one c=>match c.thaw bx with
    | some d=>some (.d d)
    | none=>none
  | .agg cs=>match jYk bx cs with
    | some ds=>some (.agg ds)
    | none=>none
  | .tup vs=>match AV.thawL bx vs with
    | some rs=>some (.tup rs)
    | none=>none
def AV.thawL (bx:Nat→Bx):List AV→Option (List RV)
  | []=>some []
  | x::xs=>match x.thaw bx,AV.thawL bx xs with
    | some r,some rs=>some (r::rs)
    | _,_=>none
end
section
variable {w:World} {V V':Nat→Prop} {ι:zQi} {bx:Nat→Bx}
theorem jYl (hk:∀ g,V g→V' g) (hb:∀ b,zZB w V ι bx b (bx b)) (ho:∀ b g c,(bx b).live=true→ι b=some (g,c)→V' g) {c:Cl} {d:DV} {v:Value} (h:c.thaw bx=some d) (hr:zQu w V ι bx c v):RepD w V' d v:=by
  have hkk:zQ9 w V w V':=fun g off u hV hu=>⟨hk g hV,hu⟩
  cases c with
  | d x=>
    simp only [Cl.thaw,Option.some.injEq] at h
    subst h
    exact RepD.keep hkk hr
  | nil=>
    simp only [Cl.thaw,Option.some.injEq] at h
    subst h
    simp only [zQu] at hr
    simp only [RepD]
    exact ⟨none,0,hr,Nat.le_refl _,Nat.zero_le _,fun hne=>absurd rfl hne⟩
  | ref b n=>
    simp only [Cl.thaw] at h
    split at h
    · rename_i xs hin
      simp only [Option.some.injEq] at h
      subst h
      simp only [zQu] at hr
      have hbb:=hb b
      cases hB:bx b with
      | row e size ys=>
        rw [hB] at hin hbb
        simp only [zZD,Option.some.injEq] at hin
        subst hin
        obtain ⟨_,⟨h1,h2,h3⟩ | ⟨g,cap,h1,h2,h3⟩⟩:=hr
        · rcases hbb with ⟨h4,h5⟩ | ⟨g,cap,cur,h4,_⟩
          · subst h5 h2
            simp only [RepD]
            exact ⟨none,0,h3,Nat.le_refl _,Nat.zero_le _,fun hne=>absurd rfl hne⟩
          · rw [h1] at h4; cases h4
        · rcases hbb with ⟨h4,h5⟩ | ⟨g',cap',cur,h4,h5,h6,h7,h8⟩
          · rw [h1] at h4; cases h4
          · rw [h1] at h4
            injection h4 with h4
            injection h4 with h4 h4'
            subst h4 h4'
            simp only [RepD]
            exact ⟨_,cap,h2,h3,h6,fun hne=>⟨g,0,rfl,ho b g cap (by rw [hB]; rfl) h1,RepCells.of_row h5 (h8.keep hkk)⟩⟩
      | ice ys=>
        rw [hB] at hin hbb
        simp only [zZD,Option.some.injEq] at hin
        subst hin
        obtain ⟨_,⟨h1,h2,h3⟩ | ⟨g,cap,h1,h2,h3⟩⟩:=hr
        · rcases hbb with ⟨h4,h5⟩ | ⟨g,cap,h4,_⟩
          · subst h5 h2
            simp only [RepD]
            exact ⟨none,0,h3,Nat.le_refl _,Nat.zero_le _,fun hne=>absurd rfl hne⟩
          · rw [h1] at h4; cases h4
        · rcases hbb with ⟨h4,h5⟩ | ⟨g',cap',h4,h5,h6⟩
          · rw [h1] at h4; cases h4
          · rw [h1] at h4
            injection h4 with h4
            injection h4 with h4 h4'
            subst h4 h4'
            simp only [RepD]
            refine ⟨_,cap,h2,h3,h6,fun hne=>⟨g,0,rfl,?_⟩⟩
            have h9:=Lies.keep hkk h5
            exact h9 hne
      | fresh=>rw [hB] at hin; cases hin
      | gone=>rw [hB] at hin; cases hin
      | cells cs=>rw [hB] at hin; cases hin
    · cases h
  | lit u=>cases h
  | ptr b off=>cases h
  | vp cs off=>cases h
  | clo f cs=>cases h
  | dead=>cases h
theorem jZS (hk:∀ g,V g→V' g) (hb:∀ b,zZB w V ι bx b (bx b)) (ho:∀ b g c,(bx b).live=true→ι b=some (g,c)→V' g):∀ {cs:List Cl} {ds:List DV} {vs:List Value},jYk bx cs=some ds→zQK w V ι bx cs vs→zQU w V' ds vs
  | [],ds,vs,h,hr=>by
    simp only [jYk,Option.some.injEq] at h
    subst h
    cases vs with
    | nil=>trivial
    | cons _ _=>exact hr.elim
  | c::cs,ds,vs,h,hr=>by
    simp only [jYk] at h
    split at h
    · rename_i d ds' h1 h2
      simp only [Option.some.injEq] at h
      subst h
      cases vs with
      | nil=>exact hr.elim
      | cons v vs=>exact ⟨jYl hk hb ho h1 hr.1,jZS hk hb ho h2 hr.2⟩
    · cases h
mutual
theorem jQ2 (hk:∀ g,V g→V' g) (hb:∀ b,zZB w V ι bx b (bx b)) (ho:∀ b g c,(bx b).live=true→ι b=some (g,c)→V' g):∀ {x:AV} {r:RV} {v:Value},x.thaw bx=some r→zQe w V ι bx x v→RepR w V' r v
  | .one c,r,v,h,hr=>by
    simp only [AV.thaw] at h
    split at h
    · rename_i d h1
      simp only [Option.some.injEq] at h
      subst h
      simp only [zQe] at hr
      simp only [RepR]
      exact jYl hk hb ho h1 hr
    · cases h
  | .agg cs,r,v,h,hr=>by
    simp only [AV.thaw] at h
    split at h
    · rename_i d h1
      simp only [Option.some.injEq] at h
      subst h
      simp only [zQe] at hr
      obtain ⟨cur,e,hr⟩:=hr
      simp only [RepR]
      exact ⟨cur,e,jZS hk hb ho h1 hr⟩
    · cases h
  | .tup vs,r,v,h,hr=>by
    simp only [AV.thaw] at h
    split at h
    · rename_i d h1
      simp only [Option.some.injEq] at h
      subst h
      simp only [zQe] at hr
      obtain ⟨cur,e,hr⟩:=hr
      simp only [RepR]
      exact ⟨cur,e,thaw_avs hk hb ho h1 hr⟩
    · cases h
theorem thaw_avs (hk:∀ g,V g→V' g) (hb:∀ b,zZB w V ι bx b (bx b)) (ho:∀ b g c,(bx b).live=true→ι b=some (g,c)→V' g):∀ {xs:List AV} {rs:List RV} {vs:List Value},AV.thawL bx xs=some rs→RepAVs w V ι bx xs vs→RepRs w V' rs vs
  | [],rs,vs,h,hr=>by
    simp only [AV.thawL,Option.some.injEq] at h
    subst h
    cases vs with
    | nil=>simp only [RepRs]
    | cons _ _=>simp only [RepAVs] at hr
  | x::xs,rs,vs,h,hr=>by
    simp only [AV.thawL] at h
    split at h
    · rename_i d ds' h1 h2
      simp only [Option.some.injEq] at h
      subst h
      cases vs with
      | nil=>simp only [RepAVs] at hr
      | cons v vs=>
        simp only [RepAVs] at hr
        simp only [RepRs]
        exact ⟨jQ2 hk hb ho h1 hr.1,thaw_avs hk hb ho h2 hr.2⟩
    · cases h
end
end
theorem AnsG.ans {P:Program} {f:FuncId} {args:List AV} {rs:List RV} {r:Ret} {res:RV} (h:AnsG P f 0 args [] r) (ha:args=RV.avs rs) (hr:r.res.thaw (zQA r.outs)=some res):Ans P f rs res:=by
  subst ha
  intro w S vs hg hrep
  have hno:∀ b,(zQA ([]:List Bx) b)=.fresh:=fun b=>by simp [zQA]
  have hnone:∀ g,¬ OwnB (zQA ([]:List Bx)) (fun _=>none) g:=fun g ⟨b,c,hl,e⟩=>by rw [hno] at hl; cases hl
  have hh:zYR w S (fun _=>none) (RV.avs rs) [] vs.toList:=by
    refine ⟨fun b g c hl e=>?_,fun b b' g c c' hl hl' hne e=>?_,fun b=>?_,rep_avs hrep⟩
    · rw [hno] at hl; cases hl
    · rw [hno] at hl; cases hl
    · rw [hno]; trivial
  refine (h w S _ vs hg hh).mono fun ed w' hp=>?_
  obtain ⟨v,ι',rfl,ha⟩:=hp
  refine ⟨v,rfl,jQ2 (fun g hV=>?_) ha.bx (fun b g c hl e=>?_) hr ha.rep,ha.bel.below hnone⟩
  · rcases hV.1 with ⟨_,h⟩ | h | h
    · exact .inl h
    · exact .inr h
    · exact absurd h (hnone g)
  · rcases (ha.own b g c hl e).1 with h | h
    · exact .inr h
    · exact absurd h (hnone g)
end Go.Proofs.Ytlnfgagmiogkgaa
namespace Go.Proofs.Ytlnfgagmiogkgaa
open Go.RowKit
set_option linter.unusedVariables false
set_option linter.unusedSimpArgs false
attribute [local irreducible] Ans AnsO AnsG AnsN AnsI
set_option maxRecDepth 4000
def zZn (n:Nat) (l:List Int):List Px:=(List.range n).map fun i=>rdPx (l.drop (10*i))
def rdW (l:List Int):Int:=tkV 4 (l.drop 1)
def rdH (l:List Int):Int:=tkV 4 (l.drop 5)
def rdN (l:List Int):Nat:=(rdW l*rdH l).toNat
def rdIm (l:List Int):Im:=if tkV 1 l=1 then zQa (rdW l) (rdH l) (rdPx (l.drop 9)) else imOf (rdW l) (rdH l) (zZn (rdN l) (l.drop 9))
def zQ7 (l:List Int):List Int:=if tkV 1 l=1 then l.drop 19 else l.drop (9+10*rdN l)
def zK6 (l:List Int):Prop:=9≤l.length∧tkV 1 l≤1∧1≤rdW l∧1≤rdH l∧rdW l*rdH l≤16777216
def zQT (l:List Int):Prop:=zK6 l∧(if tkV 1 l=1 then 19≤l.length else 9+10*rdN l≤l.length)
def preP (l:List Int) (k:Nat):List Px:=zZn k (l.drop 9)++List.replicate (rdN l - k) Px.zero
theorem jQr (w h:Int) (l:List Px):Ans Try.prog 89 [RV.d (DV.int .i64 w),RV.d (DV.int .i64 h),RV.d (DV.sl l.length (pxs l))] (RV.tup [imR (imOf w h l),RV.d (DV.bool (ofOk w h l.length))]):=by
  have:=jZA w h l.length (pxs l) (zJo l)
  rw [zZf] at this
  exact this.ans rfl rfl
theorem jJy {l:List Int} {k:Nat} (h:k≤rdN l):(preP l k).length=rdN l:=by
  unfold preP zZn
  simp
  omega
theorem jJx {l:List Int} {k:Nat} (h:k < rdN l):(preP l k).set k (rdPx (l.drop (9+10*k)))=preP l (k+1):=by
  unfold preP
  have h1:(zZn k (l.drop 9)).length=k:=by simp [zZn]
  have h2:rdN l - k=(rdN l - (k+1))+1:=by omega
  rw [List.set_append_right _ _ (by omega),h1,Nat.sub_self,h2,List.replicate_succ,List.set_cons_zero]
  have h3:zZn (k+1) (l.drop 9)=zZn k (l.drop 9)++[rdPx (l.drop (9+10*k))]:=by
    unfold zZn
    rw [List.range_succ,List.map_append]
    simp [List.drop_drop]
  rw [h3,List.append_assoc]
  rfl
theorem jJz (l:List Int):preP l (rdN l)=zZn (rdN l) (l.drop 9):=by
  unfold preP
  simp
theorem jQy (n:Nat):pxs (List.replicate n Px.zero)=repl n [DV.int .u16 0,DV.int .u16 0,DV.int .u16 0,DV.int .u16 0,DV.int .u16 0]:=by
  induction n with
  | zero=>rfl
  | succ n ih=>
    rw [List.replicate_succ]
    show Px.zero.ds++pxs (List.replicate n Px.zero)=_
    rw [ih]
    simp [repl,List.replicate_succ]
    rfl
theorem jYE (l:List Int):preP l 0=List.replicate (rdN l) Px.zero:=by
  unfold preP zZn
  simp
def jVT:Gam where
 pure:=fun f xs=>
  if f=87 then (match xs with | [.d (.int _ w),.d (.int _ h),.agg [.int _ c0,.int _ c1,.int _ c2,.int _ ca,.int _ cf]]=>some (RV.agg [dJ ((zQa w h ⟨c0,c1,c2,ca,cf⟩).w),dJ ((zQa w h ⟨c0,c1,c2,ca,cf⟩).h),dQ ((zQa w h ⟨c0,c1,c2,ca,cf⟩).so),dK (((zQa w h ⟨c0,c1,c2,ca,cf⟩).c).a),dK (((zQa w h ⟨c0,c1,c2,ca,cf⟩).c).b),dK (((zQa w h ⟨c0,c1,c2,ca,cf⟩).c).c),dK (((zQa w h ⟨c0,c1,c2,ca,cf⟩).c).al),dK (((zQa w h ⟨c0,c1,c2,ca,cf⟩).c).f),dJ (((zQa w h ⟨c0,c1,c2,ca,cf⟩).p0).w),dJ (((zQa w h ⟨c0,c1,c2,ca,cf⟩).p0).h),dJ (((zQa w h ⟨c0,c1,c2,ca,cf⟩).p0).s),dS (((zQa w h ⟨c0,c1,c2,ca,cf⟩).p0).n) (((zQa w h ⟨c0,c1,c2,ca,cf⟩).p0).xs),dJ (((zQa w h ⟨c0,c1,c2,ca,cf⟩).p1).w),dJ (((zQa w h ⟨c0,c1,c2,ca,cf⟩).p1).h),dJ (((zQa w h ⟨c0,c1,c2,ca,cf⟩).p1).s),dS (((zQa w h ⟨c0,c1,c2,ca,cf⟩).p1).n) (((zQa w h ⟨c0,c1,c2,ca,cf⟩).p1).xs),dJ (((zQa w h ⟨c0,c1,c2,ca,cf⟩).p2).w),dJ (((zQa w h ⟨c0,c1,c2,ca,cf⟩).p2).h),dJ (((zQa w h ⟨c0,c1,c2,ca,cf⟩).p2).s),dS (((zQa w h ⟨c0,c1,c2,ca,cf⟩).p2).n) (((zQa w h ⟨c0,c1,c2,ca,cf⟩).p2).xs),dJ (((zQa w h ⟨c0,c1,c2,ca,cf⟩).p3).w),dJ (((zQa w h ⟨c0,c1,c2,ca,cf⟩).p3).h),dJ (((zQa w h ⟨c0,c1,c2,ca,cf⟩).p3).s),dS (((zQa w h ⟨c0,c1,c2,ca,cf⟩).p3).n) (((zQa w h ⟨c0,c1,c2,ca,cf⟩).p3).xs),dJ (((zQa w h ⟨c0,c1,c2,ca,cf⟩).p4).w),dJ (((zQa w h ⟨c0,c1,c2,ca,cf⟩).p4).h),dJ (((zQa w h ⟨c0,c1,c2,ca,cf⟩).p4).s),dS (((zQa w h ⟨c0,c1,c2,ca,cf⟩).p4).n) (((zQa w h ⟨c0,c1,c2,ca,cf⟩).p4).xs)]) | _=>none) else
  if f=89 then (match xs with | [.d (.int _ w),.d (.int _ h),.d (.sl n xs)]=>some (RV.tup [RV.agg [dJ ((imOf w h (zQb xs)).w),dJ ((imOf w h (zQb xs)).h),dQ ((imOf w h (zQb xs)).so),dK (((imOf w h (zQb xs)).c).a),dK (((imOf w h (zQb xs)).c).b),dK (((imOf w h (zQb xs)).c).c),dK (((imOf w h (zQb xs)).c).al),dK (((imOf w h (zQb xs)).c).f),dJ (((imOf w h (zQb xs)).p0).w),dJ (((imOf w h (zQb xs)).p0).h),dJ (((imOf w h (zQb xs)).p0).s),dS (((imOf w h (zQb xs)).p0).n) (((imOf w h (zQb xs)).p0).xs),dJ (((imOf w h (zQb xs)).p1).w),dJ (((imOf w h (zQb xs)).p1).h),dJ (((imOf w h (zQb xs)).p1).s),dS (((imOf w h (zQb xs)).p1).n) (((imOf w h (zQb xs)).p1).xs),dJ (((imOf w h (zQb xs)).p2).w),dJ (((imOf w h (zQb xs)).p2).h),dJ (((imOf w h (zQb xs)).p2).s),dS (((imOf w h (zQb xs)).p2).n) (((imOf w h (zQb xs)).p2).xs),dJ (((imOf w h (zQb xs)).p3).w),dJ (((imOf w h (zQb xs)).p3).h),dJ (((imOf w h (zQb xs)).p3).s),dS (((imOf w h (zQb xs)).p3).n) (((imOf w h (zQb xs)).p3).xs),dJ (((imOf w h (zQb xs)).p4).w),dJ (((imOf w h (zQb xs)).p4).h),dJ (((imOf w h (zQb xs)).p4).s),dS (((imOf w h (zQb xs)).p4).n) (((imOf w h (zQb xs)).p4).xs)],RV.d (dQ (ofOk w h n))]) | _=>none) else
  none
 modes:=fun f=>
  if f=45 then some ([true],0,0) else
  if f=72 then some ([false,true],1,0) else
  if f=88 then some ([false],1,0) else
  none
 proc:=fun f xs bs=>
  if f=45 then (match xs,bs with | [AV.one (Cl.d (DV.bool b_))],[]=>some ⟨AV.tup [],[],false⟩ | _,_=>none) else
  if f=72 then (match xs,bs with | [AV.one (Cl.ptr 0 0),AV.one (Cl.d (DV.int _ n))],[Bx.cells [Cl.d (DV.sl bn bxs)]]=>some ⟨aJ (((tkV n.toNat (ints bxs)))),[bC [Cl.d (dS (((ints bxs).drop n.toNat).length) (u8s ((ints bxs).drop n.toNat)))]],false⟩ | _,_=>none) else
  if f=88 then (match xs,bs with | [AV.one (Cl.ptr 0 0)],[Bx.cells [Cl.d (DV.sl bn bxs)]]=>some ⟨AV.agg [cK (((rdPx (ints bxs)).a)),cK (((rdPx (ints bxs)).b)),cK (((rdPx (ints bxs)).c)),cK (((rdPx (ints bxs)).al)),cK (((rdPx (ints bxs)).f))],[bC [Cl.d (dS (((ints bxs).drop 10).length) (u8s ((ints bxs).drop 10)))]],false⟩ | _,_=>none) else
  none
 iter:=fun f cs=>
  none
def jKn:Pan where
 may:=fun f=>f==45 || f==72 || f==88 || false
 when_:=fun f xs bs=>
  if f=45 then (match xs,bs with | [AV.one (Cl.d (DV.bool b_))],[]=>some (b_=true) | _,_=>none) else
  if f=72 then (match xs,bs with | [AV.one (Cl.ptr 0 0),AV.one (Cl.d (DV.int _ n))],[Bx.cells [Cl.d (DV.sl bn bxs)]]=>some (n.toNat≤(ints bxs).length) | _,_=>none) else
  if f=88 then (match xs,bs with | [AV.one (Cl.ptr 0 0)],[Bx.cells [Cl.d (DV.sl bn bxs)]]=>some (10≤(ints bxs).length) | _,_=>none) else
  none
def zZ5 (b:List Int):Ann:=let zz0:=(4,aJ (((rdW b)))); let zz1:=(5,aJ (((rdH b)))); let zz2:=(2,bC [cJ (0),cJ (0),Cl.d (dQ false),cK (0),cK (0),cK (0),cK (0),cK (0),cJ (0),cJ (0),cJ (0),Cl.nil,cJ (0),cJ (0),cJ (0),Cl.nil,cJ (0),cJ (0),cJ (0),Cl.nil,cJ (0),cJ (0),cJ (0),Cl.nil,cJ (0),cJ (0),cJ (0),Cl.nil]); (Ann.seq Ann.leaf (Ann.seq Ann.leaf (Ann.cut ⟨Unit,fun u:Unit=>zK6 b,fun u:Unit=>⟨[(0,aPz),(2,AV.one (Cl.ptr 2 0)),(3,aJ (((tkV 1 b)))),zz0,zz1],[(0,bC [Cl.d (dS ((b.drop 9).length) (u8s (b.drop 9)))]),zz2]⟩,fun u:Unit=>0⟩ Ann.leaf fun u=>(Ann.seq Ann.leaf (Ann.seq Ann.leaf (Ann.seq Ann.leaf (Ann.seq (Ann.seq Ann.leaf (Ann.loop ⟨Nat,fun k=>k≤rdN b,fun k=>⟨[(0,aPz),(2,AV.one (Cl.ptr 2 0)),zz0,zz1,(6,AV.one (Cl.ref 9001 (rdN b))),(56,aJ (((((wK ((rdW b)*(rdH b))).toNat:Nat):Int)))),(57,aJ (((k:Int))))],[(0,bC [Cl.d (dS ((b.drop (9+10*k)).length) (u8s (b.drop (9+10*k))))]),zz2,(9001,Bx.row 37 5 (pxs (preP b k)))]⟩,fun k=>rdN b - k⟩ fun k=>Ann.leaf)) Ann.leaf)))))))
theorem zY8 (b:List Int):xcg Try.prog jVT jKn chM (¬ (zQT b)) ⟨74,fun _=>false,List.range 1,false⟩ (zQl Try.f75) (zZ5 b) kn0 (zZq [AV.one (Cl.ptr 0 0)] [Bx.cells [Cl.d (DV.sl b.length (u8s b))]]) (fun e kn s_=>(zQT b)∧zXg Try.prog ⟨74,fun _=>false,List.range 1,false⟩ Try.f75.results.toList ⟨(imD (rdIm b)),[Bx.cells [Cl.d (DV.sl ((zQ7 b).length) (u8s (zQ7 b)))]],false⟩ e kn s_) =
  (let zz0:=[aPz,aJ ((1))]; let zz1:=[bC [Cl.d (dS b.length (u8s b))]]; let zz2:=[bC [Cl.d (dS (((iU (b)).drop 1).length) (u8s ((iU (b)).drop 1)))]]; let zz3:=(4≤(iU (((iU (b)).drop 1))).length); let zz4:=[aPz,aJ ((4))]; let zz5:=[bC [Cl.d (dS (((iU (((iU (b)).drop 1))).drop 4).length) (u8s ((iU (((iU (b)).drop 1))).drop 4)))]]; let zz6:=(4≤(iU (((iU (((iU (b)).drop 1))).drop 4))).length); let zz7:=((decide ((tkV 4 (iU (((iU (b)).drop 1))))≤(wK (Int.tdiv (16777216:Int) (tkV 4 (iU (((iU (((iU (b)).drop 1))).drop 4))))))))=true); let zz8:=[AV.one (Cl.d (dQ (decide ((tkV 4 (iU (((iU (b)).drop 1))))≤(wK (Int.tdiv (16777216:Int) (tkV 4 (iU (((iU (((iU (b)).drop 1))).drop 4))))))))))]; let zz9:=[dS ((b.drop 9).length) (u8s (b.drop 9))]; let zz10:=(dJ 0=dJ 0); let zz11:=(dK 0=dK 0); let zz12:=(zz10∧zz10∧(dQ false=dQ false)∧zz11∧zz11∧zz11∧zz11∧zz11∧zz10∧zz10∧zz10∧True∧zz10∧zz10∧zz10∧True∧zz10∧zz10∧zz10∧True∧zz10∧zz10∧zz10∧True∧zz10∧zz10∧zz10∧True∧True); let zz13:=(((0=0)∧(0=0)∧(dJ (tkV 1 (iU (b)))=dJ (tkV 1 b))∧(dJ (tkV 4 (iU (((iU (b)).drop 1))))=dJ (rdW b))∧(dJ (tkV 4 (iU (((iU (((iU (b)).drop 1))).drop 4))))=dJ (rdH b))∧True)∧(([dS (((iU (((iU (((iU (b)).drop 1))).drop 4))).drop 4).length) (u8s ((iU (((iU (((iU (b)).drop 1))).drop 4))).drop 4))]=zz9)∧zz12∧True)); let zz14:=[AV.one (Cl.d (dQ false))]; let zz15:=(10≤(iU ((b.drop 9))).length); let zz16:=[bC [Cl.d (dS ((b.drop 9).length) (u8s (b.drop 9)))]]; let zz17:=[dS ((zQ7 b).length) (u8s (zQ7 b))]; let zz18:=(wK ((rdW b)*(rdH b))); let zz19:=((decide (zz18≤(wK (Int.tdiv (((b.drop 9).length:Nat):Int) (10:Int)))))=true); let zz20:=[AV.one (Cl.d (dQ (decide (zz18≤(wK (Int.tdiv (((b.drop 9).length:Nat):Int) (10:Int)))))))]; let zz21:=(dJ (rdW b)=dJ (rdW b)); let zz22:=(dJ (rdH b)=dJ (rdH b)); let zz23:=(dJ (zz18.toNat:Int)=dJ (zz18.toNat:Int)); let zz24:=fun (k:Nat)=>[dS ((b.drop (9+10*k)).length) (u8s (b.drop (9+10*k)))]; let zz25:=fun (k:Nat)=>(10≤(iU ((b.drop (9+10*k)))).length); let zz26:=fun (k:Nat)=>[bC [Cl.d (dS ((b.drop (9+10*k)).length) (u8s (b.drop (9+10*k))))]]; tU2 ((((¬ (1≤(iU (b)).length))→PanG Try.prog chM 72 zz0 zz1∧(¬ (zQT b)))∧((1≤(iU (b)).length)→(AnsG Try.prog 72 1 zz0 zz1 ⟨aJ (((tkV 1 (iU (b))))),zz2,false⟩)∧True∧(((¬ zz3)→PanG Try.prog chM 72 zz4 zz2∧(¬ (zQT b)))∧(zz3→(AnsG Try.prog 72 1 zz4 zz2 ⟨aJ (((tkV 4 (iU (((iU (b)).drop 1)))))),zz5,false⟩)∧True∧(((¬ zz6)→PanG Try.prog chM 72 zz4 zz5∧(¬ (zQT b)))∧(zz6→(AnsG Try.prog 72 1 zz4 zz5 ⟨aJ (((tkV 4 (iU (((iU (((iU (b)).drop 1))).drop 4)))))),[bC [Cl.d (dS (((iU (((iU (((iU (b)).drop 1))).drop 4))).drop 4).length) (u8s ((iU (((iU (((iU (b)).drop 1))).drop 4))).drop 4)))]],false⟩)∧tU3 ((tU3 ((((decide ((tkV 1 (iU (b)))≤(1:Int)))=true→tU4 ((((decide ((tkV 4 (iU (((iU (b)).drop 1))))≥(1:Int)))=true→tU4 ((((decide ((tkV 4 (iU (((iU (((iU (b)).drop 1))).drop 4))))≥(1:Int)))=true→tU2 (((tkV 4 (iU (((iU (((iU (b)).drop 1))).drop 4))))≠0)∧tU2 ((((¬ zz7)→PanG Try.prog chM 45 zz8 []∧(¬ (zQT b)))∧(zz7→(AnsG Try.prog 45 0 zz8 [] ⟨AV.tup [],[],false⟩)∧∃ u:Unit,(zK6 b)∧zz13)))))∧((decide ((tkV 4 (iU (((iU (((iU (b)).drop 1))).drop 4))))≥(1:Int)))=(!true)→True∧(((¬ (false=true))→PanG Try.prog chM 45 zz14 []∧(¬ (zQT b)))∧((false=true)→(AnsG Try.prog 45 0 zz14 [] ⟨AV.tup [],[],false⟩)∧∃ u:Unit,(zK6 b)∧zz13))))))∧((decide ((tkV 4 (iU (((iU (b)).drop 1))))≥(1:Int)))=(!true)→tU3 ((((¬ (false=true))→PanG Try.prog chM 45 zz14 []∧(¬ (zQT b)))∧((false=true)→(AnsG Try.prog 45 0 zz14 [] ⟨AV.tup [],[],false⟩)∧∃ u:Unit,(zK6 b)∧zz13)))))))∧((decide ((tkV 1 (iU (b)))≤(1:Int)))=(!true)→tU5 ((((¬ (false=true))→PanG Try.prog chM 45 zz14 []∧(¬ (zQT b)))∧((false=true)→(AnsG Try.prog 45 0 zz14 [] ⟨AV.tup [],[],false⟩)∧∃ u:Unit,(zK6 b)∧zz13)))))))∧∀ u:Unit,(zK6 b)→tU2 (((((tkV 1 b)==(1:Int))=true→tU3 ((((¬ zz15)→PanG Try.prog chM 88 [aPz] zz16∧(¬ (zQT b)))∧(zz15→(AnsG Try.prog 88 1 [aPz] zz16 ⟨AV.agg [cK (((rdPx (iU ((b.drop 9)))).a)),cK (((rdPx (iU ((b.drop 9)))).b)),cK (((rdPx (iU ((b.drop 9)))).c)),cK (((rdPx (iU ((b.drop 9)))).al)),cK (((rdPx (iU ((b.drop 9)))).f))],[bC [Cl.d (dS (((iU ((b.drop 9))).drop 10).length) (u8s ((iU ((b.drop 9))).drop 10)))]],false⟩)∧(Ans Try.prog 87 [rJ ((rdW b)),rJ ((rdH b)),RV.agg [dK ((rdPx (iU ((b.drop 9)))).a),dK ((rdPx (iU ((b.drop 9)))).b),dK ((rdPx (iU ((b.drop 9)))).c),dK ((rdPx (iU ((b.drop 9)))).al),dK ((rdPx (iU ((b.drop 9)))).f)]] ((imR (zQa (rdW b) (rdH b) (rdPx (iU ((b.drop 9))))))))∧True∧((zQT b)∧((((Im.ds (zQa (rdW b) (rdH b) (rdPx (iU ((b.drop 9))))))=(Im.ds (rdIm b)))∧True)∧(([dS (((iU ((b.drop 9))).drop 10).length) (u8s ((iU ((b.drop 9))).drop 10))]=zz17)∧True))∧zQx ⟨(imD (rdIm b)),[bC [Cl.d (dS ((zQ7 b).length) (u8s (zQ7 b)))]],false⟩)))))∧(((tkV 1 b)==(1:Int))=false→tU8 (((10:Int)≠0)∧True∧(((¬ zz19)→PanG Try.prog chM 45 zz20 []∧(¬ (zQT b)))∧(zz19→(AnsG Try.prog 45 0 zz20 [] ⟨AV.tup [],[],false⟩)∧tU3 ((0≤wK ((rdW b)*(rdH b))∧wK ((rdW b)*(rdH b))≤wK ((rdW b)*(rdH b))∧wK ((rdW b)*(rdH b))≤(maxLen:Int)∧((10:Nat):Int)*zz18≤281474976710656)∧tU2 ((zz18.toNat≤maxLen)∧True∧((∃ k:Nat,(k≤rdN b)∧(((0=0)∧(0=0)∧zz21∧zz22∧(zz18.toNat=rdN b)∧zz23∧(dJ 0=dJ (k:Int))∧True)∧((zz9=(zz24 k))∧zz12∧(repl zz18.toNat [dK 0,dK 0,dK 0,dK 0,dK 0]=pxs (preP b k))∧True)))∧∀ k:Nat,(k≤rdN b)→True∧(((decide ((k:Int) < (zz18.toNat:Int)))=true→tU5 ((((¬ (zz25 k))→PanG Try.prog chM 88 [aPz] (zz26 k)∧(¬ (zQT b)))∧((zz25 k)→(AnsG Try.prog 88 1 [aPz] (zz26 k) ⟨AV.agg [cK (((rdPx (iU ((b.drop (9+10*k))))).a)),cK (((rdPx (iU ((b.drop (9+10*k))))).b)),cK (((rdPx (iU ((b.drop (9+10*k))))).c)),cK (((rdPx (iU ((b.drop (9+10*k))))).al)),cK (((rdPx (iU ((b.drop (9+10*k))))).f))],[bC [Cl.d (dS (((iU ((b.drop (9+10*k)))).drop 10).length) (u8s ((iU ((b.drop (9+10*k)))).drop 10)))]],false⟩)∧(0≤(k:Int)∧(k:Int) < ((rdN b:Nat):Int))∧((k:Int).toNat*5+5≤(pxs (preP b k)).length)∧tU2 (∃ k':Nat,(k'≤rdN b)∧(rdN b - k' < rdN b - k)∧(((0=0)∧(0=0)∧zz21∧zz22∧(rdN b=rdN b)∧zz23∧(dJ (wK ((k:Int)+(1:Int)))=dJ (k':Int))∧True)∧(([dS (((iU ((b.drop (9+10*k)))).drop 10).length) (u8s ((iU ((b.drop (9+10*k)))).drop 10))]=[dS ((b.drop (9+10*k')).length) (u8s (b.drop (9+10*k')))])∧zz12∧(sets (pxs (preP b k)) ((k:Int).toNat*5) ([dK ((rdPx (iU ((b.drop (9+10*k))))).a),dK ((rdPx (iU ((b.drop (9+10*k))))).b),dK ((rdPx (iU ((b.drop (9+10*k))))).c),dK ((rdPx (iU ((b.drop (9+10*k))))).al),dK ((rdPx (iU ((b.drop (9+10*k))))).f)])=pxs (preP b k'))∧True)))))))∧((decide ((k:Int) < (zz18.toNat:Int)))=false→tU3 ((Ans Try.prog 89 [rJ ((rdW b)),rJ ((rdH b)),RV.d (dS (rdN b) (pxs (preP b k)))] (RV.tup [(imR (imOf (rdW b) (rdH b) (zQb (pxs (preP b k))))),RV.d (dQ (ofOk (rdW b) (rdH b) (rdN b)))]))∧tU8 (((zQT b)∧((((Im.ds (imOf (rdW b) (rdH b) (zQb (pxs (preP b k)))))=(Im.ds (rdIm b)))∧True)∧(((zz24 k)=zz17)∧True))∧zQx ⟨(imD (rdIm b)),[bC [Cl.d (dS ((zQ7 b).length) (u8s (zQ7 b)))]],false⟩))))))))))))))))))))))):=by kernel_rfl
theorem zYE (b:List Int):((zQT b)→AnsG Try.prog 75 1 [AV.one (Cl.ptr 0 0)] [Bx.cells [Cl.d (DV.sl b.length (u8s b))]] ⟨(imD (rdIm b)),[Bx.cells [Cl.d (DV.sl ((zQ7 b).length) (u8s (zQ7 b)))]],false⟩)∧((¬ (zQT b))→PanG Try.prog chM 75 [AV.one (Cl.ptr 0 0)] [Bx.cells [Cl.d (DV.sl b.length (u8s b))]]):=
  zZP (Γ:=jVT) (X:=jKn) (zZ5 b) zQq Try.func75 rfl (Nat.le_of_ble_eq_true rfl) rfl fun hwf hbx=>by
    refine Eq.mpr (zY8 b) ?_
    delta tU2 tU3 tU4 tU5 tU8 dJ dK dQ cK wK dS rJ aJ aPz bC iU
    simp only [true_and,and_true,RV.d.injEq,RV.agg.injEq,RV.tup.injEq,DV.bool.injEq,DV.int.injEq,DV.sl.injEq,List.cons.injEq,forall_const,Bool.not_false,Bool.not_true,Bool.not_eq_true',Bool.not_eq_false',decide_eq_true_eq,decide_eq_false_iff_not,Int.toNat_natCast]
    simp only [zQZ,List.drop_drop,Nat.reduceAdd]
    simp only [Bx.wfL,Bx.wf,Cl.wfs,DV.wf,maxLen] at hbx
    have hlen:=hbx.1.1.1
    have dm:=fun p:Bool=>zZh p
    have px:=fun d:Nat=>zYD (b.drop d)
    simp only [List.drop_drop] at px
    have hfit:1≤rdW b→1≤rdH b→(rdW b≤IntKind.wrap .i64 (Int.tdiv 16777216 (rdH b))↔rdW b*rdH b≤16777216):=fun hw hh=>zJd hw hh
    have nh1:(9≤b.length→False)→¬ zQT b:=fun h hw=>h hw.1.1
    refine ⟨fun h'=>⟨(zZg b 0 1 ⟨by omega,by omega⟩).2 h',nh1 fun _=>by omega⟩,fun h1=>⟨(zZg b 0 1 ⟨by omega,by omega⟩).1 h1,
      fun h'=>⟨(zZg b 1 4 ⟨by omega,by omega⟩).2 h',nh1 fun _=>by rw [List.length_drop] at h'; omega⟩,fun h2=>⟨(zZg b 1 4 ⟨by omega,by omega⟩).1 h2,
      fun h'=>⟨(zZg b 5 4 ⟨by omega,by omega⟩).2 h',nh1 fun _=>by rw [List.length_drop] at h'; omega⟩,fun h3=>⟨(zZg b 5 4 ⟨by omega,by omega⟩).1 h3,?_⟩⟩⟩⟩
    have nh2:∀ {p:Prop},(zK6 b→False)→p→(p∧¬ zQT b):=fun h hp=>⟨hp,fun hw=>h hw.1⟩
    refine ⟨⟨fun k1=>⟨fun k2=>⟨fun k3=>⟨by omega,fun k4=>?_,fun k4=>⟨(dm _).1 (by simpa using k4),(),?_,⟨trivial,rfl,rfl⟩,trivial,trivial⟩⟩,fun k3=>?_⟩,fun k2=>?_⟩,fun k1=>?_⟩,fun hd=>?_⟩
    · exact nh2 (fun hh=>k4 ((hfit k2 k3).2 hh.2.2.2.2)) ((dm _).2 (by simpa using k4))
    · exact ⟨by rw [List.length_drop] at h3; omega,k1,k2,k3,(hfit k2 k3).1 k4⟩
    · exact ⟨fun h=>nh2 (fun hh=>k3 hh.2.2.2.1) ((dm false).2 h),fun h=>by cases h⟩
    · exact ⟨fun h=>nh2 (fun hh=>k2 hh.2.2.1) ((dm false).2 h),fun h=>by cases h⟩
    · exact ⟨fun h=>nh2 (fun hh=>k1 hh.2.1) ((dm false).2 h),fun h=>by cases h⟩
    · obtain ⟨d1,d2,d3,d4,d5⟩:=hd
      have hpos:0 < rdW b*rdH b:=Int.mul_pos (by omega) (by omega)
      have hN:rdW b*rdH b=(rdN b:Int):=by unfold rdN; omega
      have wN:IntKind.wrap .i64 (rdW b*rdH b)=(rdN b:Int):=by rw [IntWalk.i64_in _ ⟨by omega,by omega⟩,hN]
      have wL:IntKind.wrap .i64 (Int.tdiv ((b.drop 9).length:Int) 10)=(((b.length - 9) / 10:Nat):Int):=by
        have h1:Int.tdiv ((b.drop 9).length:Int) 10=(((b.length - 9) / 10:Nat):Int):=by rw [List.length_drop]; rfl
        rw [h1,IntWalk.i64_in _ ⟨by omega,by omega⟩]
      refine ⟨fun h=>?_,fun h=>?_⟩
      · have hk:tkV 1 b=1:=by simpa using h
        refine ⟨fun h'=>⟨(px 9).2 h',fun hw=>?_⟩,fun h'=>⟨(px 9).1 h',zGe _ _ _,⟨⟨d1,d2,d3,d4,d5⟩,?_⟩,⟨?_,?_⟩⟩⟩
        · have:=hw.2
          rw [if_pos hk] at this
          rw [List.length_drop] at h'
          omega
        · rw [if_pos hk]
          rw [List.length_drop] at h'
          omega
        · have e1:rdIm b=zQa (rdW b) (rdH b) (rdPx (b.drop 9)):=by unfold rdIm; rw [if_pos hk]
          have e2:zQ7 b=b.drop 19:=by unfold zQ7; rw [if_pos hk]
          rw [e1,e2]
          exact ⟨rfl,rfl,rfl⟩
        · exact trivial
      · have hk:¬ tkV 1 b=1:=by simpa using h
        have nw:¬ (9+10*rdN b≤b.length)→¬ zQT b:=fun hn hw=>hn (by have:=hw.2; rw [if_neg hk] at this; exact this)
        have e1:rdIm b=imOf (rdW b) (rdH b) (zZn (rdN b) (b.drop 9)):=by unfold rdIm; rw [if_neg hk]
        have e2:zQ7 b=b.drop (9+10*rdN b):=by unfold zQ7; rw [if_neg hk]
        simp only [wN,wL,Int.toNat_natCast,zZf]
        refine ⟨by omega,fun h'=>⟨(dm _).2 (by simpa using h'),nw (by omega)⟩,fun h'=>⟨(dm _).1 (by simpa using h'),⟨by omega,by omega,by unfold maxLen; omega,by omega⟩,by unfold maxLen; omega,⟨0,Nat.zero_le _,⟨trivial,rfl⟩,⟨rfl,rfl⟩,?_⟩,fun k hk'=>⟨fun hlt=>?_,fun hge=>?_⟩⟩⟩
        · rw [jYE]
          exact (jQy (rdN b)).symm
        · have hkN:k < rdN b:=by omega
          have hlk:=jJy (Nat.le_of_lt hkN)
          have w1:IntKind.wrap .i64 ((k:Int)+1)=((k+1:Nat):Int):=by rw [IntWalk.i64_in _ ⟨by omega,by omega⟩]; omega
          refine ⟨fun h2=>⟨(px (9+10*k)).2 h2,nw (by rw [List.length_drop] at h2; omega)⟩,fun h2=>⟨(px (9+10*k)).1 h2,⟨by omega,by omega⟩,by rw [zQ4,hlk]; omega,k+1,by omega,by omega,w1,⟨rfl,rfl⟩,?_⟩⟩
          have:=jY1 (f:=Px.ds) (m:=5) (fun _=>rfl) (l:=preP b k) (k:=k) (by omega) (rdPx (b.drop (9+10*k)))
          rw [jJx hkN] at this
          exact this
        · have:k=rdN b:=by omega
          subst this
          have o:=jQr (rdW b) (rdH b) (zZn (rdN b) (b.drop 9))
          have hpl:(zZn (rdN b) (b.drop 9)).length=rdN b:=by simp [zZn]
          rw [hpl] at o
          rw [jJz,e1,e2]
          exact ⟨o,⟨⟨d1,d2,d3,d4,d5⟩,by rw [if_neg hk]; omega⟩,⟨rfl,rfl,rfl⟩,trivial⟩
end Go.Proofs.Ytlnfgagmiogkgaa
namespace Go.Proofs.Ytlnfgagmiogkgaa
open Go.RowKit
set_option linter.unusedVariables false
set_option linter.unusedSimpArgs false
attribute [local irreducible] Ans AnsO AnsG AnsN AnsI
set_option maxRecDepth 4000
def imsT (l:List Int):Nat→List Im × List Int
  | 0=>([],l)
  | k+1=>((imsT l k).1++[rdIm (imsT l k).2],zQ7 (imsT l k).2)
def ordL (b:List Int) (k:Nat):List Int:=(List.range k).map fun i=>tkV 4 (b.drop (31+4*i))
def opsL (l:List Int) (k:Nat):List Oq:=(List.range k).map fun i=>rdOp (l.drop (24*i))
def n1P (b:List Int):Nat:=(tkV 4 (b.drop 27)).toNat
def bAP (b:List Int):List Int:=b.drop (31+4*n1P b)
def n2P (b:List Int):Nat:=(tkV 1 (bAP b)).toNat
def bBP (b:List Int):List Int:=(bAP b).drop 1
def bCP (b:List Int):List Int:=(imsT (bBP b) (n2P b)).2
def n3P (b:List Int):Nat:=(tkV 2 (bCP b)).toNat
def bDP (b:List Int):List Int:=(bCP b).drop 2
def hd1P (b:List Int):Prop:=2≤b.length∧tkV 1 b=76∧tkV 1 (b.drop 1)=67
def hd2P (b:List Int):Prop:=hd1P b∧31≤b.length∧zYt 4 4 (b.drop 27)
def hd3P (b:List Int) (k:Nat):Prop:=hd2P b∧zYt 1 9 (bAP b)∧∀ i,i < k→zQT (imsT (bBP b) i).2
def hd4P (b:List Int) (k:Nat):Prop:=hd3P b (n2P b)∧zYt 2 24 (bCP b)∧∀ i,i < k→zZj ((bDP b).drop (24*i))
def zQH (b:List Int):Prop:=hd4P b (n3P b)∧((bDP b).drop (24*n3P b)).length=0
def zQj (b:List Int):Scr:=⟨tkV 1 (b.drop 2),⟨sgV (b.drop 3),sgV (b.drop 7),sgV (b.drop 11),sgV (b.drop 15)⟩,tkV 4 (b.drop 19),tkV 4 (b.drop 23),ordL b (n1P b),(imsT (bBP b) (n2P b)).1,opsL (bDP b) (n3P b)⟩
theorem zX5 {l:List Int} (h:isB l):∀ k,0≤tkV k l∧tkV k l < 256 ^ k
  | 0=>by rw [zWw]; decide
  | k+1=>by
    have ih:=zX5 h k
    by_cases hk:k < l.length
    · have h2:=h l[k] (List.getElem_mem hk)
      rw [zWx hk,Int.pow_succ]
      omega
    · have e:tkV (k+1) l=tkV k l:=by unfold tkV; rw [List.take_of_length_le (by omega),List.take_of_length_le (by omega)]
      rw [e,Int.pow_succ]
      omega
theorem jZB (l:List Int):∃ d,zQ7 l=l.drop d:=by
  unfold zQ7
  split
  · exact ⟨_,rfl⟩
  · exact ⟨_,rfl⟩
theorem zUs (l:List Int):∀ k,∃ d,(imsT l k).2=l.drop d
  | 0=>⟨0,rfl⟩
  | k+1=>by
    obtain ⟨d,hd⟩:=zUs l k
    obtain ⟨e,he⟩:=jZB (imsT l k).2
    exact ⟨d+e,by show zQ7 (imsT l k).2=_; rw [he,hd,List.drop_drop]⟩
theorem zJS {l:List Int} (h:isB l) (k:Nat):isB (imsT l k).2:=by
  obtain ⟨d,hd⟩:=zUs l k
  rw [hd]
  exact h.drop d
theorem zWC (l:List Int):∀ k,(imsT l k).1.length=k
  | 0=>rfl
  | k+1=>by simp [imsT,zWC l k]
theorem jXj (l:List Im) (m:Im):ims l++m.ds=ims (l++[m]):=by simp [ims]
theorem jZ8 (l:List Oq) (o:Oq):ops l++o.cells=ops (l++[o]):=by simp [ops]
theorem jYS (l:List Int) (v:Int):is l++[DV.int .i64 v]=is (l++[v]):=by simp [is]
theorem zW9 (b:List Int) (k:Nat):ordL b (k+1)=ordL b k++[tkV 4 (b.drop (31+4*k))]:=by unfold ordL; rw [List.range_succ,List.map_append]; rfl
theorem zUd (l:List Int) (k:Nat):opsL l (k+1)=opsL l k++[rdOp (l.drop (24*k))]:=by unfold opsL; rw [List.range_succ,List.map_append]; rfl
theorem zWy (b:List Int) (k:Nat):(ordL b k).length=k:=by simp [ordL]
theorem zHf (b:List Int) (k:Nat):(opsL b k).length=k:=by simp [opsL]
def jVS:Gam where
 pure:=fun f xs=>
  none
 modes:=fun f=>
  if f=45 then some ([true],0,0) else
  if f=72 then some ([false,true],1,0) else
  if f=73 then some ([false],1,0) else
  if f=74 then some ([false,true,true],1,0) else
  if f=75 then some ([false],1,0) else
  if f=76 then some ([false],1,0) else
  none
 proc:=fun f xs bs=>
  if f=45 then (match xs,bs with | [AV.one (Cl.d (DV.bool b_))],[]=>some ⟨AV.tup [],[],false⟩ | _,_=>none) else
  if f=72 then (match xs,bs with | [AV.one (Cl.ptr 0 0),AV.one (Cl.d (DV.int _ n))],[Bx.cells [Cl.d (DV.sl bn bxs)]]=>some ⟨aJ (((tkV n.toNat (ints bxs)))),[bC [Cl.d (dS (((ints bxs).drop n.toNat).length) (u8s ((ints bxs).drop n.toNat)))]],false⟩ | _,_=>none) else
  if f=73 then (match xs,bs with | [AV.one (Cl.ptr 0 0)],[Bx.cells [Cl.d (DV.sl bn bxs)]]=>some ⟨aJ (((sgV (ints bxs)))),[bC [Cl.d (dS (((ints bxs).drop 4).length) (u8s ((ints bxs).drop 4)))]],false⟩ | _,_=>none) else
  if f=74 then (match xs,bs with | [AV.one (Cl.ptr 0 0),AV.one (Cl.d (DV.int _ n)),AV.one (Cl.d (DV.int _ size))],[Bx.cells [Cl.d (DV.sl bn bxs)]]=>some ⟨aJ (((tkV n.toNat (ints bxs)))),[bC [Cl.d (dS (((ints bxs).drop n.toNat).length) (u8s ((ints bxs).drop n.toNat)))]],false⟩ | _,_=>none) else
  if f=75 then (match xs,bs with | [AV.one (Cl.ptr 0 0)],[Bx.cells [Cl.d (DV.sl bn bxs)]]=>some ⟨AV.agg [cJ (((rdIm (ints bxs)).w)),cJ (((rdIm (ints bxs)).h)),Cl.d (dQ ((rdIm (ints bxs)).so)),cK (((rdIm (ints bxs)).c.a)),cK (((rdIm (ints bxs)).c.b)),cK (((rdIm (ints bxs)).c.c)),cK (((rdIm (ints bxs)).c.al)),cK (((rdIm (ints bxs)).c.f)),cJ (((rdIm (ints bxs)).p0.w)),cJ (((rdIm (ints bxs)).p0.h)),cJ (((rdIm (ints bxs)).p0.s)),Cl.d (dS ((rdIm (ints bxs)).p0.n) ((rdIm (ints bxs)).p0.xs)),cJ (((rdIm (ints bxs)).p1.w)),cJ (((rdIm (ints bxs)).p1.h)),cJ (((rdIm (ints bxs)).p1.s)),Cl.d (dS ((rdIm (ints bxs)).p1.n) ((rdIm (ints bxs)).p1.xs)),cJ (((rdIm (ints bxs)).p2.w)),cJ (((rdIm (ints bxs)).p2.h)),cJ (((rdIm (ints bxs)).p2.s)),Cl.d (dS ((rdIm (ints bxs)).p2.n) ((rdIm (ints bxs)).p2.xs)),cJ (((rdIm (ints bxs)).p3.w)),cJ (((rdIm (ints bxs)).p3.h)),cJ (((rdIm (ints bxs)).p3.s)),Cl.d (dS ((rdIm (ints bxs)).p3.n) ((rdIm (ints bxs)).p3.xs)),cJ (((rdIm (ints bxs)).p4.w)),cJ (((rdIm (ints bxs)).p4.h)),cJ (((rdIm (ints bxs)).p4.s)),Cl.d (dS ((rdIm (ints bxs)).p4.n) ((rdIm (ints bxs)).p4.xs))],[bC [Cl.d (dS ((zQ7 (ints bxs)).length) (u8s (zQ7 (ints bxs))))]],false⟩ | _,_=>none) else
  if f=76 then (match xs,bs with | [AV.one (Cl.ptr 0 0)],[Bx.cells [Cl.d (DV.sl bn bxs)]]=>some ⟨AV.agg [cJ (((rdOp (ints bxs)).kind)),cJ (((rdOp (ints bxs)).image)),cJ (((rdOp (ints bxs)).x)),cJ (((rdOp (ints bxs)).y)),cJ (((rdOp (ints bxs)).mask)),cJ (((rdOp (ints bxs)).mx)),cJ (((rdOp (ints bxs)).my)),cK (((rdOp (ints bxs)).opac)),cJ (((rdOp (ints bxs)).oper)),cJ (((rdOp (ints bxs)).mode)),Cl.d (dQ ((rdOp (ints bxs)).iso)),Cl.d (dQ ((rdOp (ints bxs)).kno))],[bC [Cl.d (dS (((ints bxs).drop 24).length) (u8s ((ints bxs).drop 24)))]],false⟩ | _,_=>none) else
  none
 iter:=fun f cs=>
  none
def jKm:Pan where
 may:=fun f=>f==45 || f==72 || f==73 || f==74 || f==75 || f==76 || false
 when_:=fun f xs bs=>
  if f=45 then (match xs,bs with | [AV.one (Cl.d (DV.bool b_))],[]=>some (b_=true) | _,_=>none) else
  if f=72 then (match xs,bs with | [AV.one (Cl.ptr 0 0),AV.one (Cl.d (DV.int _ n))],[Bx.cells [Cl.d (DV.sl bn bxs)]]=>some (n.toNat≤(ints bxs).length) | _,_=>none) else
  if f=73 then (match xs,bs with | [AV.one (Cl.ptr 0 0)],[Bx.cells [Cl.d (DV.sl bn bxs)]]=>some (4≤(ints bxs).length) | _,_=>none) else
  if f=74 then (match xs,bs with | [AV.one (Cl.ptr 0 0),AV.one (Cl.d (DV.int _ n)),AV.one (Cl.d (DV.int _ size))],[Bx.cells [Cl.d (DV.sl bn bxs)]]=>some (zYt n.toNat size.toNat (ints bxs)) | _,_=>none) else
  if f=75 then (match xs,bs with | [AV.one (Cl.ptr 0 0)],[Bx.cells [Cl.d (DV.sl bn bxs)]]=>some (zQT (ints bxs)) | _,_=>none) else
  if f=76 then (match xs,bs with | [AV.one (Cl.ptr 0 0)],[Bx.cells [Cl.d (DV.sl bn bxs)]]=>some (zZj (ints bxs)) | _,_=>none) else
  none
def zZV (b:List Int):Ann:=let zz0:=(2,bC [cJ (0),cJ (0),cJ (0),cJ (0),cJ (0),cJ (0),cJ (0),Cl.nil,Cl.nil,Cl.nil]); let zz1:=(dJ (tkV 1 (b.drop 2))); let zz2:=(dJ (sgV (b.drop 3))); let zz3:=(dJ (sgV (b.drop 7))); let zz4:=(dJ (sgV (b.drop 11))); let zz5:=(dJ (sgV (b.drop 15))); let zz6:=(dJ (tkV 4 (b.drop 19))); let zz7:=(dJ (tkV 4 (b.drop 23))); let zz8:=(9001,Bx.row 3 1 (is (ordL b (n1P b)))); (Ann.seq Ann.leaf (Ann.cut ⟨Unit,fun u:Unit=>hd1P b,fun u:Unit=>⟨[(0,aPz),(2,AV.one (Cl.ptr 2 0))],[(0,bC [Cl.d (dS ((b.drop 2).length) (u8s (b.drop 2)))]),zz0]⟩,fun u:Unit=>0⟩ Ann.leaf fun u=>(Ann.seq Ann.leaf (Ann.seq Ann.leaf (Ann.cut ⟨Unit,fun u2:Unit=>hd1P b∧27≤b.length,fun u2:Unit=>⟨[(0,aPz),(2,AV.one (Cl.ptr 2 0)),(3,AV.one (Cl.ptr 3 0))],[(0,bC [Cl.d (dS ((b.drop 27).length) (u8s (b.drop 27)))]),zz0,(3,bC [Cl.d zz1,Cl.d zz2,Cl.d zz3,Cl.d zz4,Cl.d zz5,Cl.d zz6,Cl.d zz7,Cl.nil,Cl.nil,Cl.nil])]⟩,fun u2:Unit=>0⟩ Ann.leaf fun u2=>(Ann.seq (Ann.seq Ann.leaf (Ann.loop ⟨Nat,fun k=>hd2P b∧k≤n1P b,fun k=>⟨[(0,aPz),(2,AV.one (Cl.ptr 2 0)),(3,AV.one (Cl.ptr 3 0)),(33,aJ (((n1P b:Int)))),(34,aJ (((k:Int))))],[(0,bC [Cl.d (dS ((b.drop (31+4*k)).length) (u8s (b.drop (31+4*k))))]),zz0,(3,bC [Cl.d zz1,Cl.d zz2,Cl.d zz3,Cl.d zz4,Cl.d zz5,Cl.d zz6,Cl.d zz7,Cl.ref 9001 k,Cl.nil,Cl.nil]),(9001,Bx.row 3 1 (is (ordL b k)))]⟩,fun k=>n1P b - k⟩ fun k=>Ann.leaf)) (Ann.seq (Ann.seq Ann.leaf (Ann.loop ⟨Nat,fun i=>hd3P b i∧i≤n2P b,fun i=>⟨[(0,aPz),(2,AV.one (Cl.ptr 2 0)),(3,AV.one (Cl.ptr 3 0)),(45,aJ (((n2P b:Int)))),(46,aJ (((i:Int))))],[(0,bC [Cl.d (dS (((imsT (bBP b) i).2).length) (u8s ((imsT (bBP b) i).2)))]),zz0,(3,bC [Cl.d zz1,Cl.d zz2,Cl.d zz3,Cl.d zz4,Cl.d zz5,Cl.d zz6,Cl.d zz7,Cl.ref 9001 (n1P b),Cl.ref 9002 i,Cl.nil]),zz8,(9002,Bx.row 43 28 (ims (imsT (bBP b) i).1))]⟩,fun i=>n2P b - i⟩ fun i=>Ann.leaf)) (Ann.seq (Ann.seq Ann.leaf (Ann.loop ⟨Nat,fun j=>hd4P b j∧j≤n3P b,fun j=>⟨[(0,aPz),(2,AV.one (Cl.ptr 2 0)),(3,AV.one (Cl.ptr 3 0)),(57,aJ (((n3P b:Int)))),(58,aJ (((j:Int))))],[(0,bC [Cl.d (dS (((bDP b).drop (24*j)).length) (u8s ((bDP b).drop (24*j))))]),zz0,(3,bC [Cl.d zz1,Cl.d zz2,Cl.d zz3,Cl.d zz4,Cl.d zz5,Cl.d zz6,Cl.d zz7,Cl.ref 9001 (n1P b),Cl.ref 9002 (n2P b),Cl.ref 9003 j]),zz8,(9002,Bx.row 43 28 (ims (imsT (bBP b) (n2P b)).1)),(9003,Bx.row 55 12 (ops (opsL (bDP b) j)))]⟩,fun j=>n3P b - j⟩ fun j=>Ann.leaf)) Ann.leaf))))))))
theorem zYC (b:List Int):xcg Try.prog jVS jKm chM (¬ (zQH b)) ⟨76,fun _=>false,List.range 1,false⟩ (zQl Try.f46) (zZV b) kn0 (zZq [AV.one (Cl.ptr 0 0)] [Bx.cells [Cl.d (DV.sl b.length (u8s b))]]) (fun e kn s_=>(zQH b)∧zXg Try.prog ⟨76,fun _=>false,List.range 1,false⟩ Try.f46.results.toList ⟨AV.agg [Cl.d (DV.int .i64 ((zQj b).bits)),Cl.d (DV.int .i64 ((zQj b).c.a)),Cl.d (DV.int .i64 ((zQj b).c.b)),Cl.d (DV.int .i64 ((zQj b).c.c)),Cl.d (DV.int .i64 ((zQj b).c.d)),Cl.d (DV.int .i64 ((zQj b).tw)),Cl.d (DV.int .i64 ((zQj b).th)),Cl.ref 1 ((zQj b).ord.length),Cl.ref 2 ((zQj b).ims.length),Cl.ref 3 ((zQj b).ops.length)],[Bx.cells [Cl.d (DV.sl 0 ([]))],Bx.row 3 1 (is (zQj b).ord),Bx.row 43 28 (ims (zQj b).ims),Bx.row 55 12 (ops (zQj b).ops)],false⟩ e kn s_) =
  (let zz0:=(cJ (1)); let zz1:=[aPz,AV.one zz0]; let zz2:=[bC [Cl.d (dS b.length (u8s b))]]; let zz3:=[bC [Cl.d (dS (((iU (b)).drop 1).length) (u8s ((iU (b)).drop 1)))]]; let zz4:=(1≤(iU (((iU (b)).drop 1))).length); let zz5:=(((tkV 1 (iU (((iU (b)).drop 1))))==(67:Int))=true); let zz6:=[AV.one (Cl.d (dQ ((tkV 1 (iU (((iU (b)).drop 1))))==(67:Int))))]; let zz7:=[dS ((b.drop 2).length) (u8s (b.drop 2))]; let zz8:=(dJ 0=dJ 0); let zz9:=(zz8∧zz8∧zz8∧zz8∧zz8∧zz8∧zz8∧tU3 (True)); let zz10:=[AV.one (Cl.d (dQ false))]; let zz11:=(1≤(iU ((b.drop 2))).length); let zz12:=[bC [Cl.d (dS ((b.drop 2).length) (u8s (b.drop 2)))]]; let zz13:=[bC [Cl.d (dS (((iU ((b.drop 2))).drop 1).length) (u8s ((iU ((b.drop 2))).drop 1)))]]; let zz14:=(4≤(iU (((iU ((b.drop 2))).drop 1))).length); let zz15:=[bC [Cl.d (dS (((iU (((iU ((b.drop 2))).drop 1))).drop 4).length) (u8s ((iU (((iU ((b.drop 2))).drop 1))).drop 4)))]]; let zz16:=(4≤(iU (((iU (((iU ((b.drop 2))).drop 1))).drop 4))).length); let zz17:=[bC [Cl.d (dS (((iU (((iU (((iU ((b.drop 2))).drop 1))).drop 4))).drop 4).length) (u8s ((iU (((iU (((iU ((b.drop 2))).drop 1))).drop 4))).drop 4)))]]; let zz18:=(4≤(iU (((iU (((iU (((iU ((b.drop 2))).drop 1))).drop 4))).drop 4))).length); let zz19:=[bC [Cl.d (dS (((iU (((iU (((iU (((iU ((b.drop 2))).drop 1))).drop 4))).drop 4))).drop 4).length) (u8s ((iU (((iU (((iU (((iU ((b.drop 2))).drop 1))).drop 4))).drop 4))).drop 4)))]]; let zz20:=(4≤(iU (((iU (((iU (((iU (((iU ((b.drop 2))).drop 1))).drop 4))).drop 4))).drop 4))).length); let zz21:=[bC [Cl.d (dS (((iU (((iU (((iU (((iU (((iU ((b.drop 2))).drop 1))).drop 4))).drop 4))).drop 4))).drop 4).length) (u8s ((iU (((iU (((iU (((iU (((iU ((b.drop 2))).drop 1))).drop 4))).drop 4))).drop 4))).drop 4)))]]; let zz22:=(4≤(iU (((iU (((iU (((iU (((iU (((iU ((b.drop 2))).drop 1))).drop 4))).drop 4))).drop 4))).drop 4))).length); let zz23:=(cJ (4)); let zz24:=[aPz,AV.one zz23]; let zz25:=[bC [Cl.d (dS (((iU (((iU (((iU (((iU (((iU (((iU ((b.drop 2))).drop 1))).drop 4))).drop 4))).drop 4))).drop 4))).drop 4).length) (u8s ((iU (((iU (((iU (((iU (((iU (((iU ((b.drop 2))).drop 1))).drop 4))).drop 4))).drop 4))).drop 4))).drop 4)))]]; let zz26:=(4≤(iU (((iU (((iU (((iU (((iU (((iU (((iU ((b.drop 2))).drop 1))).drop 4))).drop 4))).drop 4))).drop 4))).drop 4))).length); let zz27:=[aPz,AV.one zz23,AV.one zz23]; let zz28:=[bC [Cl.d (dS ((b.drop 27).length) (u8s (b.drop 27)))]]; let zz29:=(dJ (tkV 1 (b.drop 2))=dJ (tkV 1 (b.drop 2))); let zz30:=(dJ (sgV (b.drop 3))=dJ (sgV (b.drop 3))); let zz31:=(dJ (sgV (b.drop 7))=dJ (sgV (b.drop 7))); let zz32:=(dJ (sgV (b.drop 11))=dJ (sgV (b.drop 11))); let zz33:=(dJ (sgV (b.drop 15))=dJ (sgV (b.drop 15))); let zz34:=(dJ (tkV 4 (b.drop 19))=dJ (tkV 4 (b.drop 19))); let zz35:=(dJ (tkV 4 (b.drop 23))=dJ (tkV 4 (b.drop 23))); let zz36:=fun (k:Nat)=>(4≤(iU ((b.drop (31+4*k)))).length); let zz37:=fun (k:Nat)=>[bC [Cl.d (dS ((b.drop (31+4*k)).length) (u8s (b.drop (31+4*k))))]]; let zz38:=[aPz,AV.one zz0,aJ ((9))]; let zz39:=fun (i:Nat)=>[bC [Cl.d (dS (((imsT (bBP b) i).2).length) (u8s ((imsT (bBP b) i).2)))]]; let zz40:=fun (i:Nat)=>(zQ7 (iU (((imsT (bBP b) i).2)))); let zz41:=fun (i:Nat)=>((zz40 i).length); let zz42:=fun (i:Nat)=>((Im.ds (rdIm (iU (((imsT (bBP b) i).2)))))); let zz43:=(is (ordL b (n1P b))=is (ordL b (n1P b))); let zz44:=[aPz,aJ ((2)),aJ ((24))]; let zz45:=fun (j:Nat)=>[dS (((bDP b).drop (24*j)).length) (u8s ((bDP b).drop (24*j)))]; let zz46:=fun (j:Nat)=>[bC [Cl.d (dS (((bDP b).drop (24*j)).length) (u8s ((bDP b).drop (24*j))))]]; let zz47:=fun (j:Nat)=>((((((bDP b).drop (24*j)).length:Nat):Int)==(0:Int))=true); let zz48:=fun (j:Nat)=>[AV.one (Cl.d (dQ (((((bDP b).drop (24*j)).length:Nat):Int)==(0:Int))))]; True∧(True∧(((¬ (1≤(iU (b)).length))→PanG Try.prog chM 72 zz1 zz2∧(¬ (zQH b)))∧((1≤(iU (b)).length)→(AnsG Try.prog 72 1 zz1 zz2 ⟨aJ (((tkV 1 (iU (b))))),zz3,false⟩)∧tU2 (((((tkV 1 (iU (b)))==(76:Int))=true→True∧(((¬ zz4)→PanG Try.prog chM 72 zz1 zz3∧(¬ (zQH b)))∧(zz4→(AnsG Try.prog 72 1 zz1 zz3 ⟨aJ (((tkV 1 (iU (((iU (b)).drop 1)))))),[bC [Cl.d (dS (((iU (((iU (b)).drop 1))).drop 1).length) (u8s ((iU (((iU (b)).drop 1))).drop 1)))]],false⟩)∧tU2 ((((¬ zz5)→PanG Try.prog chM 45 zz6 []∧(¬ (zQH b)))∧(zz5→(AnsG Try.prog 45 0 zz6 [] ⟨AV.tup [],[],false⟩)∧∃ u:Unit,(hd1P b)∧(((0=0)∧(0=0)∧True)∧(([dS (((iU (((iU (b)).drop 1))).drop 1).length) (u8s ((iU (((iU (b)).drop 1))).drop 1))]=zz7)∧zz9∧True))))))))∧(((tkV 1 (iU (b)))==(76:Int))=(!true)→True∧(((¬ (false=true))→PanG Try.prog chM 45 zz10 []∧(¬ (zQH b)))∧((false=true)→(AnsG Try.prog 45 0 zz10 [] ⟨AV.tup [],[],false⟩)∧∃ u:Unit,(hd1P b)∧(((0=0)∧(0=0)∧True)∧(([dS (((iU (b)).drop 1).length) (u8s ((iU (b)).drop 1))]=zz7)∧zz9∧True))))))))))∧∀ u:Unit,(hd1P b)→True∧(((¬ zz11)→PanG Try.prog chM 72 zz1 zz12∧(¬ (zQH b)))∧(zz11→(AnsG Try.prog 72 1 zz1 zz12 ⟨aJ (((tkV 1 (iU ((b.drop 2)))))),zz13,false⟩)∧tU4 ((((¬ zz14)→PanG Try.prog chM 73 [aPz] zz13∧(¬ (zQH b)))∧(zz14→(AnsG Try.prog 73 1 [aPz] zz13 ⟨aJ (((sgV (iU (((iU ((b.drop 2))).drop 1)))))),zz15,false⟩)∧True∧(((¬ zz16)→PanG Try.prog chM 73 [aPz] zz15∧(¬ (zQH b)))∧(zz16→(AnsG Try.prog 73 1 [aPz] zz15 ⟨aJ (((sgV (iU (((iU (((iU ((b.drop 2))).drop 1))).drop 4)))))),zz17,false⟩)∧True∧(((¬ zz18)→PanG Try.prog chM 73 [aPz] zz17∧(¬ (zQH b)))∧(zz18→(AnsG Try.prog 73 1 [aPz] zz17 ⟨aJ (((sgV (iU (((iU (((iU (((iU ((b.drop 2))).drop 1))).drop 4))).drop 4)))))),zz19,false⟩)∧True∧(((¬ zz20)→PanG Try.prog chM 73 [aPz] zz19∧(¬ (zQH b)))∧(zz20→(AnsG Try.prog 73 1 [aPz] zz19 ⟨aJ (((sgV (iU (((iU (((iU (((iU (((iU ((b.drop 2))).drop 1))).drop 4))).drop 4))).drop 4)))))),zz21,false⟩)∧tU3 ((True∧(((¬ zz22)→PanG Try.prog chM 72 zz24 zz21∧(¬ (zQH b)))∧(zz22→(AnsG Try.prog 72 1 zz24 zz21 ⟨aJ (((tkV 4 (iU (((iU (((iU (((iU (((iU (((iU ((b.drop 2))).drop 1))).drop 4))).drop 4))).drop 4))).drop 4)))))),zz25,false⟩)∧True∧(((¬ zz26)→PanG Try.prog chM 72 zz24 zz25∧(¬ (zQH b)))∧(zz26→(AnsG Try.prog 72 1 zz24 zz25 ⟨aJ (((tkV 4 (iU (((iU (((iU (((iU (((iU (((iU (((iU ((b.drop 2))).drop 1))).drop 4))).drop 4))).drop 4))).drop 4))).drop 4)))))),[bC [Cl.d (dS (((iU (((iU (((iU (((iU (((iU (((iU (((iU ((b.drop 2))).drop 1))).drop 4))).drop 4))).drop 4))).drop 4))).drop 4))).drop 4).length) (u8s ((iU (((iU (((iU (((iU (((iU (((iU (((iU ((b.drop 2))).drop 1))).drop 4))).drop 4))).drop 4))).drop 4))).drop 4))).drop 4)))]],false⟩)∧tU4 (∃ u2:Unit,(hd1P b∧27≤b.length)∧(((0=0)∧(0=0)∧(0=0)∧True)∧(([dS (((iU (((iU (((iU (((iU (((iU (((iU (((iU ((b.drop 2))).drop 1))).drop 4))).drop 4))).drop 4))).drop 4))).drop 4))).drop 4).length) (u8s ((iU (((iU (((iU (((iU (((iU (((iU (((iU ((b.drop 2))).drop 1))).drop 4))).drop 4))).drop 4))).drop 4))).drop 4))).drop 4))]=[dS ((b.drop 27).length) (u8s (b.drop 27))])∧zz9∧((dJ (tkV 1 (iU ((b.drop 2))))=dJ (tkV 1 (b.drop 2)))∧(dJ (sgV (iU (((iU ((b.drop 2))).drop 1))))=dJ (sgV (b.drop 3)))∧(dJ (sgV (iU (((iU (((iU ((b.drop 2))).drop 1))).drop 4))))=dJ (sgV (b.drop 7)))∧(dJ (sgV (iU (((iU (((iU (((iU ((b.drop 2))).drop 1))).drop 4))).drop 4))))=dJ (sgV (b.drop 11)))∧(dJ (sgV (iU (((iU (((iU (((iU (((iU ((b.drop 2))).drop 1))).drop 4))).drop 4))).drop 4))))=dJ (sgV (b.drop 15)))∧(dJ (tkV 4 (iU (((iU (((iU (((iU (((iU (((iU ((b.drop 2))).drop 1))).drop 4))).drop 4))).drop 4))).drop 4))))=dJ (tkV 4 (b.drop 19)))∧(dJ (tkV 4 (iU (((iU (((iU (((iU (((iU (((iU (((iU ((b.drop 2))).drop 1))).drop 4))).drop 4))).drop 4))).drop 4))).drop 4))))=dJ (tkV 4 (b.drop 23)))∧tU3 (True))∧True))))))))∧∀ u2:Unit,(hd1P b∧27≤b.length)→True∧(((¬ (zYt 4 4 (iU ((b.drop 27)))))→PanG Try.prog chM 74 zz27 zz28∧(¬ (zQH b)))∧((zYt 4 4 (iU ((b.drop 27))))→(AnsG Try.prog 74 1 zz27 zz28 ⟨aJ (((tkV 4 (iU ((b.drop 27)))))),[bC [Cl.d (dS (((iU ((b.drop 27))).drop 4).length) (u8s ((iU ((b.drop 27))).drop 4)))]],false⟩)∧True∧((∃ k:Nat,(hd2P b∧k≤n1P b)∧(((0=0)∧(0=0)∧(0=0)∧(dJ (tkV 4 (iU ((b.drop 27))))=dJ (n1P b:Int))∧(dJ 0=dJ (k:Int))∧True)∧(([dS (((iU ((b.drop 27))).drop 4).length) (u8s ((iU ((b.drop 27))).drop 4))]=[dS ((b.drop (31+4*k)).length) (u8s (b.drop (31+4*k)))])∧zz9∧(zz29∧zz30∧zz31∧zz32∧zz33∧zz34∧zz35∧(0=k)∧tU2 (True))∧([]=is (ordL b k))∧True)))∧∀ k:Nat,(hd2P b∧k≤n1P b)→True∧(((decide ((k:Int) < (n1P b:Int)))=true→tU3 ((true=true)∧(((¬ (zz36 k))→PanG Try.prog chM 72 zz24 (zz37 k)∧(¬ (zQH b)))∧((zz36 k)→tU3 ((AnsG Try.prog 72 1 zz24 (zz37 k) ⟨aJ (((tkV 4 (iU ((b.drop (31+4*k))))))),[bC [Cl.d (dS (((iU ((b.drop (31+4*k)))).drop 4).length) (u8s ((iU ((b.drop (31+4*k)))).drop 4)))]],false⟩)∧True∧(zQ8 1 8 k 1 (is (ordL b k)) ([dJ (tkV 4 (iU ((b.drop (31+4*k)))))]))∧tU2 ((true=true)∧tU2 (∃ k':Nat,(hd2P b∧k'≤n1P b)∧(n1P b - k' < n1P b - k)∧(((0=0)∧(0=0)∧(0=0)∧(dJ (n1P b:Int)=dJ (n1P b:Int))∧(dJ (wK ((k:Int)+(1:Int)))=dJ (k':Int))∧True)∧(([dS (((iU ((b.drop (31+4*k)))).drop 4).length) (u8s ((iU ((b.drop (31+4*k)))).drop 4))]=[dS ((b.drop (31+4*k')).length) (u8s (b.drop (31+4*k')))])∧zz9∧(zz29∧zz30∧zz31∧zz32∧zz33∧zz34∧zz35∧(k+1=k')∧tU2 (True))∧((is (ordL b k))++([dJ (tkV 4 (iU ((b.drop (31+4*k)))))])=is (ordL b k'))∧True)))))))))∧((decide ((k:Int) < (n1P b:Int)))=false→True∧(((¬ (zYt 1 9 (iU ((b.drop (31+4*k))))))→PanG Try.prog chM 74 zz38 (zz37 k)∧(¬ (zQH b)))∧((zYt 1 9 (iU ((b.drop (31+4*k)))))→(AnsG Try.prog 74 1 zz38 (zz37 k) ⟨aJ (((tkV 1 (iU ((b.drop (31+4*k))))))),[bC [Cl.d (dS (((iU ((b.drop (31+4*k)))).drop 1).length) (u8s ((iU ((b.drop (31+4*k)))).drop 1)))]],false⟩)∧True∧((∃ i:Nat,(hd3P b i∧i≤n2P b)∧(((0=0)∧(0=0)∧(0=0)∧(dJ (tkV 1 (iU ((b.drop (31+4*k)))))=dJ (n2P b:Int))∧(dJ 0=dJ (i:Int))∧True)∧(([dS (((iU ((b.drop (31+4*k)))).drop 1).length) (u8s ((iU ((b.drop (31+4*k)))).drop 1))]=[dS (((imsT (bBP b) i).2).length) (u8s ((imsT (bBP b) i).2))])∧zz9∧(zz29∧zz30∧zz31∧zz32∧zz33∧zz34∧zz35∧(k=n1P b)∧(0=i)∧True∧True)∧(is (ordL b k)=is (ordL b (n1P b)))∧([]=ims (imsT (bBP b) i).1)∧True)))∧∀ i:Nat,(hd3P b i∧i≤n2P b)→True∧(((decide ((i:Int) < (n2P b:Int)))=true→tU3 ((true=true)∧(((¬ (zQT (iU (((imsT (bBP b) i).2)))))→PanG Try.prog chM 75 [aPz] (zz39 i)∧(¬ (zQH b)))∧((zQT (iU (((imsT (bBP b) i).2))))→tU3 ((AnsG Try.prog 75 1 [aPz] (zz39 i) ⟨(imD (rdIm (iU (((imsT (bBP b) i).2))))),[bC [Cl.d (dS (zz41 i) (u8s (zz40 i)))]],false⟩)∧True∧(zQ8 28 272 i 1 (ims (imsT (bBP b) i).1) (zz42 i))∧tU2 ((true=true)∧tU2 (∃ i':Nat,(hd3P b i'∧i'≤n2P b)∧(n2P b - i' < n2P b - i)∧(((0=0)∧(0=0)∧(0=0)∧(dJ (n2P b:Int)=dJ (n2P b:Int))∧(dJ (wK ((i:Int)+(1:Int)))=dJ (i':Int))∧True)∧(([dS (zz41 i) (u8s (zz40 i))]=[dS (((imsT (bBP b) i').2).length) (u8s ((imsT (bBP b) i').2))])∧zz9∧(zz29∧zz30∧zz31∧zz32∧zz33∧zz34∧zz35∧(n1P b=n1P b)∧(i+1=i')∧True∧True)∧zz43∧((ims (imsT (bBP b) i).1)++(zz42 i)=ims (imsT (bBP b) i').1)∧True)))))))))∧((decide ((i:Int) < (n2P b:Int)))=false→True∧(((¬ (zYt 2 24 (iU (((imsT (bBP b) i).2)))))→PanG Try.prog chM 74 zz44 (zz39 i)∧(¬ (zQH b)))∧((zYt 2 24 (iU (((imsT (bBP b) i).2))))→(AnsG Try.prog 74 1 zz44 (zz39 i) ⟨aJ (((tkV 2 (iU (((imsT (bBP b) i).2)))))),[bC [Cl.d (dS (((iU (((imsT (bBP b) i).2))).drop 2).length) (u8s ((iU (((imsT (bBP b) i).2))).drop 2)))]],false⟩)∧True∧((∃ j:Nat,(hd4P b j∧j≤n3P b)∧(((0=0)∧(0=0)∧(0=0)∧(dJ (tkV 2 (iU (((imsT (bBP b) i).2))))=dJ (n3P b:Int))∧(dJ 0=dJ (j:Int))∧True)∧(([dS (((iU (((imsT (bBP b) i).2))).drop 2).length) (u8s ((iU (((imsT (bBP b) i).2))).drop 2))]=(zz45 j))∧zz9∧(zz29∧zz30∧zz31∧zz32∧zz33∧zz34∧zz35∧(n1P b=n1P b)∧(i=n2P b)∧(0=j)∧True)∧zz43∧(ims (imsT (bBP b) i).1=ims (imsT (bBP b) (n2P b)).1)∧([]=ops (opsL (bDP b) j))∧True)))∧∀ j:Nat,(hd4P b j∧j≤n3P b)→True∧(((decide ((j:Int) < (n3P b:Int)))=true→tU3 ((true=true)∧(((¬ (zZj (iU (((bDP b).drop (24*j))))))→PanG Try.prog chM 76 [aPz] (zz46 j)∧(¬ (zQH b)))∧((zZj (iU (((bDP b).drop (24*j)))))→tU3 ((AnsG Try.prog 76 1 [aPz] (zz46 j) ⟨AV.agg [cJ (((rdOp (iU (((bDP b).drop (24*j))))).kind)),cJ (((rdOp (iU (((bDP b).drop (24*j))))).image)),cJ (((rdOp (iU (((bDP b).drop (24*j))))).x)),cJ (((rdOp (iU (((bDP b).drop (24*j))))).y)),cJ (((rdOp (iU (((bDP b).drop (24*j))))).mask)),cJ (((rdOp (iU (((bDP b).drop (24*j))))).mx)),cJ (((rdOp (iU (((bDP b).drop (24*j))))).my)),cK (((rdOp (iU (((bDP b).drop (24*j))))).opac)),cJ (((rdOp (iU (((bDP b).drop (24*j))))).oper)),cJ (((rdOp (iU (((bDP b).drop (24*j))))).mode)),Cl.d (dQ ((rdOp (iU (((bDP b).drop (24*j))))).iso)),Cl.d (dQ ((rdOp (iU (((bDP b).drop (24*j))))).kno))],[bC [Cl.d (dS (((iU (((bDP b).drop (24*j)))).drop 24).length) (u8s ((iU (((bDP b).drop (24*j)))).drop 24)))]],false⟩)∧True∧(zQ8 12 88 j 1 (ops (opsL (bDP b) j)) ((Oq.cells (rdOp (iU (((bDP b).drop (24*j))))))))∧tU2 ((true=true)∧tU2 (∃ j':Nat,(hd4P b j'∧j'≤n3P b)∧(n3P b - j' < n3P b - j)∧(((0=0)∧(0=0)∧(0=0)∧(dJ (n3P b:Int)=dJ (n3P b:Int))∧(dJ (wK ((j:Int)+(1:Int)))=dJ (j':Int))∧True)∧(([dS (((iU (((bDP b).drop (24*j)))).drop 24).length) (u8s ((iU (((bDP b).drop (24*j)))).drop 24))]=[dS (((bDP b).drop (24*j')).length) (u8s ((bDP b).drop (24*j')))])∧zz9∧(zz29∧zz30∧zz31∧zz32∧zz33∧zz34∧zz35∧(n1P b=n1P b)∧(n2P b=n2P b)∧(j+1=j')∧True)∧zz43∧(ims (imsT (bBP b) (n2P b)).1=ims (imsT (bBP b) (n2P b)).1)∧((ops (opsL (bDP b) j))++((Oq.cells (rdOp (iU (((bDP b).drop (24*j)))))))=ops (opsL (bDP b) j'))∧True)))))))))∧((decide ((j:Int) < (n3P b:Int)))=false→tU6 ((((¬ (zz47 j))→PanG Try.prog chM 45 (zz48 j) []∧(¬ (zQH b)))∧((zz47 j)→(AnsG Try.prog 45 0 (zz48 j) [] ⟨AV.tup [],[],false⟩)∧tU2 (((zQH b)∧((((dJ (tkV 1 (b.drop 2))=dJ ((zQj b).bits))∧(dJ (sgV (b.drop 3))=dJ ((zQj b).c.a))∧(dJ (sgV (b.drop 7))=dJ ((zQj b).c.b))∧(dJ (sgV (b.drop 11))=dJ ((zQj b).c.c))∧(dJ (sgV (b.drop 15))=dJ ((zQj b).c.d))∧(dJ (tkV 4 (b.drop 19))=dJ ((zQj b).tw))∧(dJ (tkV 4 (b.drop 23))=dJ ((zQj b).th))∧(n1P b=(zQj b).ord.length)∧(n2P b=(zQj b).ims.length)∧(j=(zQj b).ops.length)∧True)∧True)∧(((zz45 j)=[dS 0 ([])])∧(is (ordL b (n1P b))=is (zQj b).ord)∧(ims (imsT (bBP b) (n2P b)).1=ims (zQj b).ims)∧(ops (opsL (bDP b) j)=ops (zQj b).ops)∧True))∧zQx ⟨AV.agg [cJ (((zQj b).bits)),cJ (((zQj b).c.a)),cJ (((zQj b).c.b)),cJ (((zQj b).c.c)),cJ (((zQj b).c.d)),cJ (((zQj b).tw)),cJ (((zQj b).th)),Cl.ref 1 ((zQj b).ord.length),Cl.ref 2 ((zQj b).ims.length),Cl.ref 3 ((zQj b).ops.length)],[bC [Cl.d (dS 0 ([]))],Bx.row 3 1 (is (zQj b).ord),Bx.row 43 28 (ims (zQj b).ims),Bx.row 55 12 (ops (zQj b).ops)],false⟩))))))))))))))))))))))))))))))))):=by kernel_rfl
theorem zZU (b:List Int):((zQH b)→AnsG Try.prog 46 1 [AV.one (Cl.ptr 0 0)] [Bx.cells [Cl.d (DV.sl b.length (u8s b))]] ⟨AV.agg [Cl.d (DV.int .i64 ((zQj b).bits)),Cl.d (DV.int .i64 ((zQj b).c.a)),Cl.d (DV.int .i64 ((zQj b).c.b)),Cl.d (DV.int .i64 ((zQj b).c.c)),Cl.d (DV.int .i64 ((zQj b).c.d)),Cl.d (DV.int .i64 ((zQj b).tw)),Cl.d (DV.int .i64 ((zQj b).th)),Cl.ref 1 ((zQj b).ord.length),Cl.ref 2 ((zQj b).ims.length),Cl.ref 3 ((zQj b).ops.length)],[Bx.cells [Cl.d (DV.sl 0 ([]))],Bx.row 3 1 (is (zQj b).ord),Bx.row 43 28 (ims (zQj b).ims),Bx.row 55 12 (ops (zQj b).ops)],false⟩)∧((¬ (zQH b))→PanG Try.prog chM 46 [AV.one (Cl.ptr 0 0)] [Bx.cells [Cl.d (DV.sl b.length (u8s b))]]):=
  zZP (Γ:=jVS) (X:=jKm) (zZV b) zQq Try.func46 rfl (Nat.le_of_ble_eq_true rfl) rfl fun hwf hbx=>by
    refine Eq.mpr (zYC b) ?_
    delta tU2 tU3 tU4 tU6 dJ dQ cJ cK wK dS aJ aPz bC iU
    simp only [true_and,and_true,RV.d.injEq,RV.agg.injEq,RV.tup.injEq,DV.bool.injEq,DV.int.injEq,DV.sl.injEq,List.cons.injEq,forall_const,Bool.not_false,Bool.not_true,Bool.not_eq_true',Bool.not_eq_false',decide_eq_true_eq,decide_eq_false_iff_not,Int.toNat_natCast]
    simp only [zQZ,List.drop_drop,Nat.reduceAdd]
    simp only [Bx.wfL,Bx.wf,Cl.wfs,DV.wf,maxLen] at hbx
    have hB:=zKg hbx.1.1.2
    have hlen:=hbx.1.1.1
    have dm:=fun p:Bool=>zZh p
    have no1:¬ hd1P b→¬ zQH b:=fun h hp=>h hp.1.1.1.1
    have no31:¬ 31≤b.length→¬ zQH b:=fun h hp=>h hp.1.1.1.2.1
    have p1:(256:Int) ^ 1=256:=by decide
    have p2:(256:Int) ^ 2=65536:=by decide
    have p4:(256:Int) ^ 4=4294967296:=by decide
    have c1:tkV 4 (b.drop 27)=(n1P b:Int)∧n1P b≤4294967296:=by
      have:=zX5 (hB.drop 27) 4
      unfold n1P; omega
    have hBA:isB (bAP b):=hB.drop _
    have hBB:isB (bBP b):=hBA.drop _
    have c2:tkV 1 (bAP b)=(n2P b:Int)∧n2P b≤256:=by
      have:=zX5 hBA 1
      unfold n2P; omega
    have hBC:isB (bCP b):=zJS hBB _
    have c3:tkV 2 (bCP b)=(n3P b:Int)∧n3P b≤65536:=by
      have:=zX5 hBC 2
      unfold n3P; omega
    have wS:∀ k:Nat,k≤4294967296→IntKind.wrap .i64 ((k:Int)+1)=((k+1:Nat):Int):=fun k hk=>by rw [IntWalk.i64_in _ ⟨by omega,by omega⟩]; omega
    refine ⟨⟨fun h'=>⟨(zZg b 0 1 ⟨by omega,by omega⟩).2 h',no31 (by omega)⟩,fun h1=>⟨(zZg b 0 1 ⟨by omega,by omega⟩).1 h1,fun hL=>⟨fun h'=>⟨(zZg b 1 1 ⟨by omega,by omega⟩).2 h',no31 (by rw [List.length_drop] at h'; omega)⟩,fun h2=>⟨(zZg b 1 1 ⟨by omega,by omega⟩).1 h2,fun h'=>⟨(dm _).2 h',no1 fun hd=>h' (by simpa using hd.2.2)⟩,fun hC=>⟨(dm _).1 hC,(),⟨by rw [List.length_drop] at h2; omega,by simpa using hL,by simpa using hC⟩,trivial,trivial⟩⟩⟩,
      fun hL=>⟨fun h'=>⟨(dm false).2 h',no1 fun hd=>by rw [hd.2.1] at hL; simp at hL⟩,fun h=>by cases h⟩⟩⟩,fun hd=>⟨fun h'=>⟨(zZg b 2 1 ⟨by omega,by omega⟩).2 h',no31 (by first | omega | (rw [List.length_drop] at h'; omega))⟩,fun h=>⟨(zZg b 2 1 ⟨by omega,by omega⟩).1 h,⟨fun h'=>⟨(zJ0 b 3).2 h',no31 (by first | omega | (rw [List.length_drop] at h'; omega))⟩,fun h=>⟨(zJ0 b 3).1 h,⟨fun h'=>⟨(zJ0 b 7).2 h',no31 (by first | omega | (rw [List.length_drop] at h'; omega))⟩,fun h=>⟨(zJ0 b 7).1 h,⟨fun h'=>⟨(zJ0 b 11).2 h',no31 (by first | omega | (rw [List.length_drop] at h'; omega))⟩,fun h=>⟨(zJ0 b 11).1 h,⟨fun h'=>⟨(zJ0 b 15).2 h',no31 (by first | omega | (rw [List.length_drop] at h'; omega))⟩,fun h=>⟨(zJ0 b 15).1 h,?_⟩⟩⟩⟩⟩⟩⟩⟩⟩⟩⟩
    refine ⟨⟨fun h'=>⟨(zZg b 19 4 ⟨by omega,by omega⟩).2 h',no31 (by first | omega | (rw [List.length_drop] at h'; omega))⟩,fun h=>⟨(zZg b 19 4 ⟨by omega,by omega⟩).1 h,⟨fun h'=>⟨(zZg b 23 4 ⟨by omega,by omega⟩).2 h',no31 (by first | omega | (rw [List.length_drop] at h'; omega))⟩,fun h=>⟨(zZg b 23 4 ⟨by omega,by omega⟩).1 h,(),⟨hd,by rw [List.length_drop] at h; omega⟩,⟨trivial,trivial⟩,trivial,trivial,trivial,trivial,trivial,trivial,trivial⟩⟩⟩⟩,fun hd2=>?_⟩
    have ct:=fun (l:List Int) (n z:Nat) (hn:1≤n∧n≤4) (hz:1≤z∧z≤100)=>zYF l (n:Int) (z:Int) ⟨by omega,by omega⟩ ⟨by omega,by omega⟩
    simp only [Int.toNat_natCast] at ct
    have t27:=ct (b.drop 27) 4 4 ⟨by omega,by omega⟩ ⟨by omega,by omega⟩
    rw [List.drop_drop] at t27
    refine ⟨fun h'=>⟨t27.2 h',fun hp=>h' hp.1.1.1.2.2⟩,fun h27=>⟨t27.1 h27,⟨0,⟨⟨hd,?_,h27⟩,Nat.zero_le _⟩,⟨c1.1,rfl⟩,⟨rfl,rfl⟩,rfl,rfl⟩,fun k hk=>⟨fun hlt=>?_,fun hge=>?_⟩⟩⟩
    · have:=h27.1
      rw [List.length_drop] at this
      omega
    · obtain ⟨k1,k2⟩:=hk
      have hn:31+4*n1P b≤b.length:=by
        have h1:=k1.2.2.2
        rw [c1.1,List.length_drop] at h1
        have h2:=k1.2.1
        omega
      have t:=zZg b (31+4*k) 4 ⟨by omega,by omega⟩
      refine ⟨fun h'=>⟨t.2 h',fun hp=>h' (by rw [List.length_drop]; omega)⟩,fun h'=>⟨t.1 h',⟨by rw [zQW,zWy,Nat.mul_one],rfl,by unfold maxLen; omega,by omega⟩,k+1,⟨k1,by omega⟩,by omega,wS k (by omega),⟨rfl,rfl⟩,rfl,?_⟩⟩
      rw [jYS,zW9]
    · obtain ⟨k1,k2⟩:=hk
      have:k=n1P b:=by omega
      subst this
      have tA:=ct (b.drop (31+4*n1P b)) 1 9 ⟨by omega,by omega⟩ ⟨by omega,by omega⟩
      rw [List.drop_drop] at tA
      have eBB:bBP b=b.drop (31+4*n1P b+1):=by unfold bBP bAP; rw [List.drop_drop]
      refine ⟨fun h'=>⟨tA.2 h',fun hp=>h' hp.1.1.2.1⟩,fun hA=>⟨tA.1 hA,⟨0,⟨⟨k1,hA,fun i hi=>absurd hi (Nat.not_lt_zero i)⟩,Nat.zero_le _⟩,⟨c2.1,rfl⟩,⟨by rw [← eBB]; rfl,by rw [← eBB]; rfl⟩,⟨rfl,rfl⟩,rfl,rfl⟩,fun i hi=>⟨fun hlt=>?_,fun hge=>?_⟩⟩⟩
      · obtain ⟨i1,i2⟩:=hi
        have hi:i < n2P b:=by omega
        have t:=zYE (imsT (bBP b) i).2
        refine ⟨fun h'=>⟨t.2 h',fun hp=>h' (hp.1.1.2.2 i hi)⟩,fun h'=>⟨t.1 h',⟨by rw [zZk,zWC],rfl,by unfold maxLen; omega,by omega⟩,i+1,⟨⟨i1.1,i1.2.1,fun q hq=>?_⟩,by omega⟩,by omega,wS i (by omega),⟨rfl,rfl⟩,rfl,jXj _ _⟩⟩
        by_cases e:q=i
        · subst e; exact h'
        · exact i1.2.2 q (by omega)
      · obtain ⟨i1,i2⟩:=hi
        have:i=n2P b:=by omega
        subst this
        have tC:=ct (bCP b) 2 24 ⟨by omega,by omega⟩ ⟨by omega,by omega⟩
        refine ⟨fun h'=>⟨tC.2 h',fun hp=>h' hp.1.2.1⟩,fun hC=>⟨tC.1 hC,⟨0,⟨⟨i1,hC,fun i hi=>absurd hi (Nat.not_lt_zero i)⟩,Nat.zero_le _⟩,⟨c3.1,rfl⟩,⟨rfl,rfl⟩,⟨rfl,rfl⟩,rfl,rfl⟩,fun j hj=>⟨fun hlt=>?_,fun hge=>?_⟩⟩⟩
        · obtain ⟨j1,j2⟩:=hj
          have hj:j < n3P b:=by omega
          have t:=zJ4 ((bDP b).drop (24*j))
          simp only [List.drop_drop] at t
          refine ⟨fun h'=>⟨t.2 h',fun hp=>h' (hp.1.2.2 j hj)⟩,fun h'=>⟨t.1 h',⟨by rw [zQY,zHf],rfl,by unfold maxLen; omega,by omega⟩,j+1,⟨⟨j1.1,j1.2.1,fun q hq=>?_⟩,by omega⟩,by omega,wS j (by omega),⟨rfl,rfl⟩,rfl,?_⟩⟩
          · by_cases e:q=j
            · subst e; exact h'
            · exact j1.2.2 q (by omega)
          · rw [jZ8,zUd]
        · obtain ⟨j1,j2⟩:=hj
          have:j=n3P b:=by omega
          subst this
          refine ⟨fun h'=>⟨(dm _).2 h',fun hp=>h' (by rw [hp.2]; rfl)⟩,fun h'=>⟨(dm _).1 h',⟨j1,by simpa using h'⟩,?_⟩⟩
          have hz:((bDP b).drop (24*n3P b)).length=0:=by
            have:=of_decide_eq_true h'
            omega
          have hz2:(bDP b).drop (24*n3P b)=[]:=List.length_eq_zero_iff.1 hz
          exact ⟨⟨⟨rfl,rfl,rfl,rfl,rfl,rfl,rfl,(zWy _ _).symm,(zWC _ _).symm,(zHf _ _).symm⟩,⟨hz,by rw [hz2]; rfl⟩,rfl,rfl,rfl⟩,trivial⟩
end Go.Proofs.Ytlnfgagmiogkgaa
namespace Go.Proofs.Ytlnfgagmiogkgaa
open Go.RowKit
set_option linter.unusedVariables false
set_option linter.unusedSimpArgs false
theorem zZx (w:World) (g k:Nat) (xs:Array Value) (y:Value) (hp:w.heap[g]?=some (.cells xs 32 (0,0))) (hk:k < xs.size):∃ v:World,w.setCell ⟨g,k,none⟩ y=v∧w.cell? ⟨g,k,none⟩=some xs[k]∧w.frozen? ⟨g,k,none⟩=false∧v=w.setRow g (xs.setIfInBounds k y)∧v.heap[g]?=some (.cells (xs.setIfInBounds k y) 32 (0,0)):=by
  have e:=setCell_eq_setRow w g k _ _ _ y hp
  exact ⟨_,rfl,by simp [World.cell?,hp,hk],by simp [World.frozen?,hp],e,by rw [e]; exact setRow_heap w g _ _ _ _ hp⟩
theorem zH3 (w:World) (g:Nat) (x0 x1 x2 x3 x4 x5 x6 x7 x8 x9 y0 y1 y2 y3 y4 y5 y6 y7 y8 y9:Value) (hp:w.heap[g]?=some (.cells #[x0,x1,x2,x3,x4,x5,x6,x7,x8,x9] 32 (0,0))):∃ v1 v2 v3 v4 v5 v6 v7 v8 v9 v10:World,(w.cell? ⟨g,0,none⟩=some x0∧w.frozen? ⟨g,0,none⟩=false∧w.setCell ⟨g,0,none⟩ y0=v1)∧(v1.cell? ⟨g,1,none⟩=some x1∧v1.frozen? ⟨g,1,none⟩=false∧v1.setCell ⟨g,1,none⟩ y1=v2)∧(v2.cell? ⟨g,2,none⟩=some x2∧v2.frozen? ⟨g,2,none⟩=false∧v2.setCell ⟨g,2,none⟩ y2=v3)∧(v3.cell? ⟨g,3,none⟩=some x3∧v3.frozen? ⟨g,3,none⟩=false∧v3.setCell ⟨g,3,none⟩ y3=v4)∧(v4.cell? ⟨g,4,none⟩=some x4∧v4.frozen? ⟨g,4,none⟩=false∧v4.setCell ⟨g,4,none⟩ y4=v5)∧(v5.cell? ⟨g,5,none⟩=some x5∧v5.frozen? ⟨g,5,none⟩=false∧v5.setCell ⟨g,5,none⟩ y5=v6)∧(v6.cell? ⟨g,6,none⟩=some x6∧v6.frozen? ⟨g,6,none⟩=false∧v6.setCell ⟨g,6,none⟩ y6=v7)∧(v7.cell? ⟨g,7,none⟩=some x7∧v7.frozen? ⟨g,7,none⟩=false∧v7.setCell ⟨g,7,none⟩ y7=v8)∧(v8.cell? ⟨g,8,none⟩=some x8∧v8.frozen? ⟨g,8,none⟩=false∧v8.setCell ⟨g,8,none⟩ y8=v9)∧(v9.cell? ⟨g,9,none⟩=some x9∧v9.frozen? ⟨g,9,none⟩=false∧v9.setCell ⟨g,9,none⟩ y9=v10)∧v10=w.setRow g #[y0,y1,y2,y3,y4,y5,y6,y7,y8,y9]∧v10.heap[g]?=some (.cells #[y0,y1,y2,y3,y4,y5,y6,y7,y8,y9] 32 (0,0)):=by
  obtain ⟨v1,s1,a0,b0,e1,h1⟩:=zZx w g 0 #[x0,x1,x2,x3,x4,x5,x6,x7,x8,x9] y0 hp (by simp)
  obtain ⟨v2,s2,a1,b1,e2,h2⟩:=zZx v1 g 1 #[y0,x1,x2,x3,x4,x5,x6,x7,x8,x9] y1 h1 (by simp)
  obtain ⟨v3,s3,a2,b2,e3,h3⟩:=zZx v2 g 2 #[y0,y1,x2,x3,x4,x5,x6,x7,x8,x9] y2 h2 (by simp)
  obtain ⟨v4,s4,a3,b3,e4,h4⟩:=zZx v3 g 3 #[y0,y1,y2,x3,x4,x5,x6,x7,x8,x9] y3 h3 (by simp)
  obtain ⟨v5,s5,a4,b4,e5,h5⟩:=zZx v4 g 4 #[y0,y1,y2,y3,x4,x5,x6,x7,x8,x9] y4 h4 (by simp)
  obtain ⟨v6,s6,a5,b5,e6,h6⟩:=zZx v5 g 5 #[y0,y1,y2,y3,y4,x5,x6,x7,x8,x9] y5 h5 (by simp)
  obtain ⟨v7,s7,a6,b6,e7,h7⟩:=zZx v6 g 6 #[y0,y1,y2,y3,y4,y5,x6,x7,x8,x9] y6 h6 (by simp)
  obtain ⟨v8,s8,a7,b7,e8,h8⟩:=zZx v7 g 7 #[y0,y1,y2,y3,y4,y5,y6,x7,x8,x9] y7 h7 (by simp)
  obtain ⟨v9,s9,a8,b8,e9,h9⟩:=zZx v8 g 8 #[y0,y1,y2,y3,y4,y5,y6,y7,x8,x9] y8 h8 (by simp)
  obtain ⟨v10,s10,a9,b9,e10,h10⟩:=zZx v9 g 9 #[y0,y1,y2,y3,y4,y5,y6,y7,y8,x9] y9 h9 (by simp)
  refine ⟨v1,v2,v3,v4,v5,v6,v7,v8,v9,v10,⟨a0,b0,s1⟩,⟨a1,b1,s2⟩,⟨a2,b2,s3⟩,⟨a3,b3,s4⟩,⟨a4,b4,s5⟩,⟨a5,b5,s6⟩,⟨a6,b6,s7⟩,⟨a7,b7,s8⟩,⟨a8,b8,s9⟩,⟨a9,b9,s10⟩,?_,h10⟩
  rw [e10,e9,e8,e7,e6,e5,e4,e3,e2,e1]
  simp only [setRow_setRow]
  rfl
theorem zJc (w:World) (g:Nat) (x0 x1 x2 x3 x4 x5 x6 x7 x8 x9:Value) (hp:w.heap[g]?=some (.cells #[x0,x1,x2,x3,x4,x5,x6,x7,x8,x9] 32 (0,0))):(w.cell? ⟨g,0,none⟩=some x0∧w.frozen? ⟨g,0,none⟩=false∧w.setCell ⟨g,0,none⟩ x0=w)∧(w.cell? ⟨g,1,none⟩=some x1∧w.frozen? ⟨g,1,none⟩=false∧w.setCell ⟨g,1,none⟩ x1=w)∧(w.cell? ⟨g,2,none⟩=some x2∧w.frozen? ⟨g,2,none⟩=false∧w.setCell ⟨g,2,none⟩ x2=w)∧(w.cell? ⟨g,3,none⟩=some x3∧w.frozen? ⟨g,3,none⟩=false∧w.setCell ⟨g,3,none⟩ x3=w)∧(w.cell? ⟨g,4,none⟩=some x4∧w.frozen? ⟨g,4,none⟩=false∧w.setCell ⟨g,4,none⟩ x4=w)∧(w.cell? ⟨g,5,none⟩=some x5∧w.frozen? ⟨g,5,none⟩=false∧w.setCell ⟨g,5,none⟩ x5=w)∧(w.cell? ⟨g,6,none⟩=some x6∧w.frozen? ⟨g,6,none⟩=false∧w.setCell ⟨g,6,none⟩ x6=w)∧(w.cell? ⟨g,7,none⟩=some x7∧w.frozen? ⟨g,7,none⟩=false∧w.setCell ⟨g,7,none⟩ x7=w)∧(w.cell? ⟨g,8,none⟩=some x8∧w.frozen? ⟨g,8,none⟩=false∧w.setCell ⟨g,8,none⟩ x8=w)∧(w.cell? ⟨g,9,none⟩=some x9∧w.frozen? ⟨g,9,none⟩=false∧w.setCell ⟨g,9,none⟩ x9=w):=by
  have h:∀ k (hk:k < 10),w.cell? ⟨g,k,none⟩=some (#[x0,x1,x2,x3,x4,x5,x6,x7,x8,x9][k])∧w.frozen? ⟨g,k,none⟩=false∧w.setCell ⟨g,k,none⟩ (#[x0,x1,x2,x3,x4,x5,x6,x7,x8,x9][k])=w:=fun k hk=>by
    obtain ⟨v,s,a,b,e,_⟩:=zZx w g k #[x0,x1,x2,x3,x4,x5,x6,x7,x8,x9] (#[x0,x1,x2,x3,x4,x5,x6,x7,x8,x9][k]) hp hk
    refine ⟨a,b,?_⟩
    rw [s,e]
    exact (congrArg (w.setRow g) (by simp)).trans (setRow_self w g _ _ _ hp)
  exact ⟨h 0 (by decide),h 1 (by decide),h 2 (by decide),h 3 (by decide),h 4 (by decide),h 5 (by decide),h 6 (by decide),h 7 (by decide),h 8 (by decide),h 9 (by decide)⟩
set_option maxRecDepth 100000 in
theorem zVc (g g2:Nat) (w:World) (x0 x1 x2 x3 x4 x5 x6 x7 x8 x9 y:Value) (hne:g≠g2) (hp:w.heap[g]?=some (.cells #[x0,x1,x2,x3,x4,x5,x6,x7,x8,x9] 32 (0,0))) (hq:w.heap[g2]?=some (.cells #[y] 46 (0,0))) :
    CallsD Try.prog 44 #[.pointer (some ⟨g,0,none⟩),.pointer (some ⟨g2,0,none⟩)] (.panicking ({ v:=.iface 94 (.agg #[]),recovered:=false }::[])) w fun e u' w'=>
      e=.returned (.tuple #[])∧u'=.panicking ({ v:=.iface 94 (.agg #[]),recovered:=true }::[])∧w'=(w.setRow g #[Value.int .i64 0,Value.int .i64 0,Value.int .i64 0,Value.int .i64 0,Value.int .i64 0,Value.int .i64 0,Value.int .i64 0,Value.slice none 0 0,Value.slice none 0 0,Value.slice none 0 0]).setRow g2 #[.int .i64 19]:=by
  have hta:∀ w:World,(Instr.typeAssert (.iface 94 (.agg #[])) 20 94 true).run Try.prog w=.ok (.tuple #[.agg #[],.bool true]) w:=fun _=>by kernel_rfl
  obtain ⟨v1,v2,v3,v4,v5,v6,v7,v8,v9,v10,⟨cv0,fv0,sv1⟩,⟨cv1,fv1,sv2⟩,⟨cv2,fv2,sv3⟩,⟨cv3,fv3,sv4⟩,⟨cv4,fv4,sv5⟩,⟨cv5,fv5,sv6⟩,⟨cv6,fv6,sv7⟩,⟨cv7,fv7,sv8⟩,⟨cv8,fv8,sv9⟩,⟨cv9,fv9,sv10⟩,ev,hv10⟩:=zH3 w g _ _ _ _ _ _ _ _ _ _ (Value.int .i64 0) (Value.int .i64 0) (Value.int .i64 0) (Value.int .i64 0) (Value.int .i64 0) (Value.int .i64 0) (Value.int .i64 0) (Value.slice none 0 0) (Value.slice none 0 0) (Value.slice none 0 0) hp
  have hq2:v10.heap[g2]?=some (.cells #[y] 46 (0,0)):=by rw [ev,setRow_other _ _ _ _ (Ne.symm hne)]; exact hq
  have cu0:v10.cell? ⟨g2,0,none⟩=some y:=by simp [World.cell?,hq2]
  have fu0:v10.frozen? ⟨g2,0,none⟩=false:=by simp [World.frozen?,hq2]
  obtain ⟨u1,su1⟩:∃ X,v10.setCell ⟨g2,0,none⟩ (.int .i64 19)=X:=⟨_,rfl⟩
  have eu:u1=v10.setRow g2 #[.int .i64 19]:=by rw [← su1]; exact setCell_eq_setRow v10 g2 0 _ _ _ _ hq2
  have EV:PLift (u1=(w.setRow g #[Value.int .i64 0,Value.int .i64 0,Value.int .i64 0,Value.int .i64 0,Value.int .i64 0,Value.int .i64 0,Value.int .i64 0,Value.slice none 0 0,Value.slice none 0 0,Value.slice none 0 0]).setRow g2 #[.int .i64 19]):=⟨by rw [eu,ev]⟩
  clear eu ev hq2 hv10 hp hq
  refine callsD_of_wpS Try.func44 rfl fun c₀ cs hu=>?_
  apply wpS_seq
  apply wpS_region
  simp [wpOpsS,go_sem,recoverD,hu,Try.ntmps44,Exit.thenS]
  refine wpS_of_wp ?_
  go_wp2
  simp [bodyPostS,results,Try.results44]
  exact EV.down
set_option maxRecDepth 100000 in
theorem jX7 (g g2:Nat) (w:World) :
    CallsD Try.prog 44 #[.pointer (some ⟨g,0,none⟩),.pointer (some ⟨g2,0,none⟩)] .returning w fun e u' w'=>e=.returned (.tuple #[])∧u'=.returning∧w'=w:=by
  refine callsD_of_wpS Try.func44 rfl fun c₀ cs hu=>?_
  apply wpS_seq
  apply wpS_region
  simp [wpOpsS,go_sem,recoverD,hu,Try.ntmps44,Exit.thenS]
  refine wpS_of_wp ?_
  go_wp2
  simp [bodyPostS,results,Try.results44]
  cases c₀
  simp only at hu
  subst hu
  rfl
def scrD (s:Scr):List DV:=[.int .i64 s.bits,.int .i64 s.c.a,.int .i64 s.c.b,.int .i64 s.c.c,.int .i64 s.c.d,.int .i64 s.tw,.int .i64 s.th,.sl s.ord.length (is s.ord),.sl s.ims.length (ims s.ims),.sl s.ops.length (ops s.ops)]
theorem zUC {w:World} {V:Nat→Prop} {g:Nat} {v:Value} {b:List Int} (hp:w.heap[g]?=some (.cells #[v] 97 (0,0))) (hv:RepD w V (.sl b.length (u8s b)) v) (hn:¬ V g) :
    zYR w V (fun x=>if x=0 then some (g,0) else none) [AV.one (Cl.ptr 0 0)] [Bx.cells [Cl.d (DV.sl b.length (u8s b))]] [.pointer (some ⟨g,0,none⟩)]:=by
  refine ⟨fun x g' c hl e=>?_,fun x x' g1 c c' hl hl' hne e=>?_,fun x=>?_,?_⟩
  · by_cases hx:x=0
    · subst hx
      simp at e
      obtain ⟨rfl,rfl⟩:=e
      exact ⟨hn,(Array.getElem?_eq_some_iff.1 hp).1⟩
    · simp [hx] at e
  · by_cases hx:x=0
    · by_cases hx':x'=0
      · omega
      · simp [hx']
    · simp [hx] at e
  · match x with
    | 0=>exact ⟨g,0,#[v],97,rfl,hp,⟨hv,trivial⟩⟩
    | x+1=>exact trivial
  · simp only [RepAVs,zQe,zQu]
    exact ⟨⟨rfl,g,0,rfl,rfl⟩,trivial⟩
theorem zKC {g k:Nat} {b:List Int} (h:OwnB (zQA [Bx.cells [Cl.d (DV.sl b.length (u8s b))]]) (fun x=>if x=0 then some (g,0) else none) k):k=g:=by
  obtain ⟨x,c,_,e⟩:=h
  by_cases hx:x=0
  · simp [hx] at e
    exact e.1.symm
  · simp [hx] at e
theorem zGY {g:Nat} {b:List Int} {w w':World} (h:Bel (OwnB (zQA [Bx.cells [Cl.d (DV.sl b.length (u8s b))]]) (fun x=>if x=0 then some (g,0) else none)) w w'):Bel (·=g) w w':=
  ⟨h.os,h.tape,h.output,h.size,fun k hk hn=>h.block k hk fun ho=>hn (zKC ho)⟩
theorem jXI {b:List Int} (hb:zQH b) {w:World} {V:Nat→Prop} {g:Nat} {v:Value} (hg:zZX w V) (hp:w.heap[g]?=some (.cells #[v] 97 (0,0))) (hv:RepD w V (.sl b.length (u8s b)) v) (hn:¬ V g) :
    Calls Try.prog 46 #[.pointer (some ⟨g,0,none⟩)] w fun e w'=>∃ v',e=.returned v'∧RepR w' (fun x=>(V x∨w.heap.size≤x)∨x=g) (.agg (scrD (zQj b))) v'∧Bel (·=g) w w':=by
  refine ((zZU b).1 hb w V _ _ hg (zUC hp hv hn)).mono fun ed w' h=>?_
  obtain ⟨v',ι',rfl,ha⟩:=h
  refine ⟨v',rfl,jQ2 (fun x hV=>?_) ha.bx (fun x g' c hl e=>?_) rfl ha.rep,zGY ha.bel⟩
  · rcases hV.1 with ⟨_,h⟩ | h | h
    · exact .inl (.inl h)
    · exact .inl (.inr h)
    · exact .inr (zKC h)
  · rcases (ha.own x g' c hl e).1 with h | h
    · exact .inl (.inr h)
    · exact .inr (zKC h)
theorem jYs {b:List Int} (hb:¬ zQH b) {w:World} {V:Nat→Prop} {g:Nat} {v:Value} (hg:zZX w V) (hp:w.heap[g]?=some (.cells #[v] 97 (0,0))) (hv:RepD w V (.sl b.length (u8s b)) v) (hn:¬ V g) :
    Calls Try.prog 46 #[.pointer (some ⟨g,0,none⟩)] w fun e w'=>e=.panicked chM∧Bel (·=g) w w':=by
  refine ((zZU b).2 hb w V _ _ hg (zUC hp hv hn)).mono fun ed w' h=>?_
  exact ⟨h.1,zGY h.2⟩
theorem zYH {w W:World} {xs ys:Array Value} (hb:Below w.heap.size w W) (h1:W.heap[w.heap.size]?=some (.cells xs 32 (0,0))) (h2:W.heap[w.heap.size+1]?=some (.cells ys 46 (0,0))) {ps qs:Array Value} :
    Below w.heap.size w ((W.setRow w.heap.size ps).setRow (w.heap.size+1) qs):=by
  obtain ⟨b1,b2,b3,b4,b5⟩:=hb
  refine ⟨b1,b2,b3,by simp [World.setRow]; exact b4,fun k hk=>?_⟩
  rw [setRow_other _ _ _ _ (by omega),setRow_other _ _ _ _ (by omega)]
  exact b5 k hk
theorem zJJ {w W:World} {xs ys:Array Value} (h1:W.heap[w.heap.size]?=some (.cells xs 32 (0,0))) (h2:W.heap[w.heap.size+1]?=some (.cells ys 46 (0,0))) {ps qs:Array Value} :
    ((W.setRow w.heap.size ps).setRow (w.heap.size+1) qs).heap[w.heap.size]?=some (.cells ps 32 (0,0))∧((W.setRow w.heap.size ps).setRow (w.heap.size+1) qs).heap[w.heap.size+1]?=some (.cells qs 46 (0,0)):=by
  refine ⟨?_,?_⟩
  · rw [setRow_other _ _ _ _ (by omega)]
    exact setRow_heap W _ _ _ _ _ h1
  · exact setRow_heap _ _ _ _ _ _ (by rw [setRow_other _ _ _ _ (by omega)]; exact h2)
set_option maxRecDepth 100000 in
theorem jZG (A:Option Addr) (len cap:Nat) (w:World) (hL:¬ len≤67108864) :
    Calls Try.prog 19 #[.slice A len cap] w fun e w'=>e=.returned (.tuple #[.agg #[Value.int .i64 0,Value.int .i64 0,Value.int .i64 0,Value.int .i64 0,Value.int .i64 0,Value.int .i64 0,Value.int .i64 0,Value.slice none 0 0,Value.slice none 0 0,Value.slice none 0 0],.int .i64 19])∧Below w.heap.size w w':=by
  have hd:decide ((len:Int)≤67108864)=false:=decide_eq_false (by omega)
  have hmf:∀ (fn:Fn) (first cap:Array Value) (w:World),(Instr.makeFunc fn first cap).run Try.prog w=.ok (.func fn first cap) w:=fun _ _ _ _=>rfl
  have sz:∀ (u:World) (o:Obj),(u.alloc o).heap.size=u.heap.size+1:=fun u o=>by simp
  have old:∀ (u:World) (o:Obj) (k:Nat),k < u.heap.size→(u.alloc o).heap[k]?=u.heap[k]?:=fun u o k hk=>heap_alloc_old u o hk
  have new:∀ (u:World) (o:Obj),(u.alloc o).heap[u.heap.size]?=some o:=fun u o=>heap_alloc_new u o
  go_enter_defers Try.func19,Try.ntmps19
  go_wp2_with fail
  obtain ⟨W,hW⟩:∃ W,W=((w.alloc (.cells #[Value.int .i64 0,Value.int .i64 0,Value.int .i64 0,Value.int .i64 0,Value.int .i64 0,Value.int .i64 0,Value.int .i64 0,Value.slice none 0 0,Value.slice none 0 0,Value.slice none 0 0] 32)).alloc (.cells #[.int .i64 0] 46)):=⟨_,rfl⟩
  have h1:W.heap[w.heap.size]?=some (.cells #[Value.int .i64 0,Value.int .i64 0,Value.int .i64 0,Value.int .i64 0,Value.int .i64 0,Value.int .i64 0,Value.int .i64 0,Value.slice none 0 0,Value.slice none 0 0,Value.slice none 0 0] 32):=by
    rw [hW,old _ _ _ (by simp only [sz]; omega),new]
  have h2:W.heap[w.heap.size+1]?=some (.cells #[.int .i64 0] 46):=by
    rw [hW,← sz w (.cells #[Value.int .i64 0,Value.int .i64 0,Value.int .i64 0,Value.int .i64 0,Value.int .i64 0,Value.int .i64 0,Value.int .i64 0,Value.slice none 0 0,Value.slice none 0 0,Value.slice none 0 0] 32),new]
  have hs:W.heap.size=w.heap.size+2:=by rw [hW]; simp only [sz]
  have hbw:Below w.heap.size w W:=by
    refine ⟨by rw [hW]; rfl,by rw [hW]; rfl,by rw [hW]; rfl,by omega,fun k hk=>?_⟩
    rw [hW,old _ _ _ (by simp only [sz]; omega),old _ _ _ hk]
  rw [← hW]
  clear hW
  refine (zVb _).mono ?_
  rintro e w' ⟨rfl,hw⟩
  rw [hw]
  clear hw w'
  simp only [bodyPost]
  refine ⟨by simp,?_⟩
  go_wp2
  refine ⟨_,_,⟨rfl,rfl⟩,?_⟩
  refine (zVc w.heap.size (w.heap.size+1) W _ _ _ _ _ _ _ _ _ _ _ (by omega) h1 h2).mono ?_
  rintro e u' w'' ⟨rfl,rfl,rfl⟩
  have k3:=zYH hbw h1 h2 (ps:=#[Value.int .i64 0,Value.int .i64 0,Value.int .i64 0,Value.int .i64 0,Value.int .i64 0,Value.int .i64 0,Value.int .i64 0,Value.slice none 0 0,Value.slice none 0 0,Value.slice none 0 0]) (qs:=#[.int .i64 19])
  obtain ⟨k1,k2⟩:=zJJ h1 h2 (ps:=#[Value.int .i64 0,Value.int .i64 0,Value.int .i64 0,Value.int .i64 0,Value.int .i64 0,Value.int .i64 0,Value.int .i64 0,Value.slice none 0 0,Value.slice none 0 0,Value.slice none 0 0]) (qs:=#[.int .i64 19])
  obtain ⟨W',hW'⟩:∃ W',W'=(W.setRow w.heap.size #[Value.int .i64 0,Value.int .i64 0,Value.int .i64 0,Value.int .i64 0,Value.int .i64 0,Value.int .i64 0,Value.int .i64 0,Value.slice none 0 0,Value.slice none 0 0,Value.slice none 0 0]).setRow (w.heap.size+1) #[.int .i64 19]:=⟨_,rfl⟩
  rw [← hW'] at k1 k2 k3 ⊢
  obtain ⟨⟨c0,_,_⟩,⟨c1,_,_⟩,⟨c2,_,_⟩,⟨c3,_,_⟩,⟨c4,_,_⟩,⟨c5,_,_⟩,⟨c6,_,_⟩,⟨c7,_,_⟩,⟨c8,_,_⟩,⟨c9,_,_⟩⟩:=zJc W' w.heap.size _ _ _ _ _ _ _ _ _ _ k1
  have c10:W'.cell? ⟨w.heap.size+1,0,none⟩=some (.int .i64 19):=by simp [World.cell?,k2]
  clear hW' k1 k2
  simp [Leaves,settle,results,Try.results19,go_sem,c0,c1,c2,c3,c4,c5,c6,c7,c8,c9,c10]
  exact k3
theorem jQK {w w':World} {g:Nat} (h:w'.heap[g]?=w.heap[g]?) (off:Nat):w'.cell? ⟨g,off,none⟩=w.cell? ⟨g,off,none⟩:=by simp only [World.cell?,h]
theorem zHu {w R:World} {S:Nat→Prop} (hb:Below w.heap.size w R):zQ9 w S R (fun x=>S x∧x < w.heap.size):=fun g off u hV hu=>by
  have hl:g < w.heap.size:=block_lt_of_cell hu
  exact ⟨⟨hV,hl⟩,by rw [jQK (hb.block g hl)]; exact hu⟩
set_option maxRecDepth 100000 in
theorem jX6 (b:List Int) (A:Option Addr) (cap:Nat) (w:World) (S:Nat→Prop) (hg:zZX w S) (hr:RepD w S (.sl b.length (u8s b)) (.slice A b.length cap)) (hL:b.length≤67108864) (hp:¬ zQH b) :
    Calls Try.prog 19 #[.slice A b.length cap] w fun e w'=>e=.returned (.tuple #[.agg #[Value.int .i64 0,Value.int .i64 0,Value.int .i64 0,Value.int .i64 0,Value.int .i64 0,Value.int .i64 0,Value.int .i64 0,Value.slice none 0 0,Value.slice none 0 0,Value.slice none 0 0],.int .i64 19])∧Below w.heap.size w w':=by
  have hd:decide ((b.length:Int)≤67108864)=true:=decide_eq_true (by omega)
  have hmf:∀ (fn:Fn) (first cap:Array Value) (w:World),(Instr.makeFunc fn first cap).run Try.prog w=.ok (.func fn first cap) w:=fun _ _ _ _=>rfl
  have sz:∀ (u:World) (o:Obj),(u.alloc o).heap.size=u.heap.size+1:=fun u o=>by simp
  have old:∀ (u:World) (o:Obj) (k:Nat),k < u.heap.size→(u.alloc o).heap[k]?=u.heap[k]?:=fun u o k hk=>heap_alloc_old u o hk
  have new:∀ (u:World) (o:Obj),(u.alloc o).heap[u.heap.size]?=some o:=fun u o=>heap_alloc_new u o
  go_enter_defers Try.func19,Try.ntmps19
  go_wp2_with fail
  obtain ⟨W,hW⟩:∃ W,W=((w.alloc (.cells #[Value.int .i64 0,Value.int .i64 0,Value.int .i64 0,Value.int .i64 0,Value.int .i64 0,Value.int .i64 0,Value.int .i64 0,Value.slice none 0 0,Value.slice none 0 0,Value.slice none 0 0] 32)).alloc (.cells #[.int .i64 0] 46)):=⟨_,rfl⟩
  have h1:W.heap[w.heap.size]?=some (.cells #[Value.int .i64 0,Value.int .i64 0,Value.int .i64 0,Value.int .i64 0,Value.int .i64 0,Value.int .i64 0,Value.int .i64 0,Value.slice none 0 0,Value.slice none 0 0,Value.slice none 0 0] 32):=by
    rw [hW,old _ _ _ (by simp only [sz]; omega),new]
  have h2:W.heap[w.heap.size+1]?=some (.cells #[.int .i64 0] 46):=by
    rw [hW,← sz w (.cells #[Value.int .i64 0,Value.int .i64 0,Value.int .i64 0,Value.int .i64 0,Value.int .i64 0,Value.int .i64 0,Value.int .i64 0,Value.slice none 0 0,Value.slice none 0 0,Value.slice none 0 0] 32),new]
  have hs:W.heap.size=w.heap.size+2:=by rw [hW]; simp only [sz]
  have hbw:Below w.heap.size w W:=by
    refine ⟨by rw [hW]; rfl,by rw [hW]; rfl,by rw [hW]; rfl,by omega,fun k hk=>?_⟩
    rw [hW,old _ _ _ (by simp only [sz]; omega),old _ _ _ hk]
  rw [← hW]
  clear hW
  refine (zJY _).mono ?_
  rintro e w' ⟨rfl,hw⟩
  rw [hw]
  clear hw w'
  go_wp2_with fail
  obtain ⟨R,hR⟩:∃ R,R=W.alloc (.cells #[.slice A b.length cap] 97):=⟨_,rfl⟩
  have r1:R.heap[w.heap.size]?=some (.cells #[Value.int .i64 0,Value.int .i64 0,Value.int .i64 0,Value.int .i64 0,Value.int .i64 0,Value.int .i64 0,Value.int .i64 0,Value.slice none 0 0,Value.slice none 0 0,Value.slice none 0 0] 32):=by
    rw [hR,old _ _ _ (by omega)]; exact h1
  have r2:R.heap[w.heap.size+1]?=some (.cells #[.int .i64 0] 46):=by
    rw [hR,old _ _ _ (by omega)]; exact h2
  have r3:R.heap[w.heap.size+2]?=some (.cells #[.slice A b.length cap] 97):=by
    rw [hR,← hs,new]
  have rs:R.heap.size=w.heap.size+3:=by rw [hR,sz]; omega
  have rb:Below w.heap.size w R:=by
    obtain ⟨b1,b2,b3,b4,b5⟩:=hbw
    refine ⟨by rw [hR]; exact b1,by rw [hR]; exact b2,by rw [hR]; exact b3,by omega,fun k hk=>?_⟩
    rw [hR,old _ _ _ (by omega)]
    exact b5 k hk
  try simp only [hs]
  rw [← hR]
  clear hR h1 h2 hbw
  have gR:zZX R (fun x=>S x∧x < w.heap.size):=hg.keep (zHu rb)
  have vR:=RepD.keep (zHu rb) hr
  refine (jYs hp gR r3 vR (by omega)).mono ?_
  rintro e w' ⟨rfl,hB⟩
  have h1:w'.heap[w.heap.size]?=some (.cells #[Value.int .i64 0,Value.int .i64 0,Value.int .i64 0,Value.int .i64 0,Value.int .i64 0,Value.int .i64 0,Value.int .i64 0,Value.slice none 0 0,Value.slice none 0 0,Value.slice none 0 0] 32):=(hB.block _ (by omega) (by omega)).trans r1
  have h2:w'.heap[w.heap.size+1]?=some (.cells #[.int .i64 0] 46):=(hB.block _ (by omega) (by omega)).trans r2
  have hbw:Below w.heap.size w w':=by
    obtain ⟨b1,b2,b3,b4,b5⟩:=rb
    exact ⟨hB.os.trans b1,hB.tape.trans b2,hB.output.trans b3,Nat.le_trans b4 hB.size,fun k hk=>(hB.block k (by omega) (by omega)).trans (b5 k hk)⟩
  clear hB r1 r2 r3 rb gR vR
  simp only [bodyPost]
  refine ⟨by simp,?_⟩
  go_wp2
  refine ⟨_,_,⟨rfl,rfl⟩,?_⟩
  refine (zVc w.heap.size (w.heap.size+1) w' _ _ _ _ _ _ _ _ _ _ _ (by omega) h1 h2).mono ?_
  rintro e u' w'' ⟨rfl,rfl,rfl⟩
  have k3:=zYH hbw h1 h2 (ps:=#[Value.int .i64 0,Value.int .i64 0,Value.int .i64 0,Value.int .i64 0,Value.int .i64 0,Value.int .i64 0,Value.int .i64 0,Value.slice none 0 0,Value.slice none 0 0,Value.slice none 0 0]) (qs:=#[.int .i64 19])
  obtain ⟨k1,k2⟩:=zJJ h1 h2 (ps:=#[Value.int .i64 0,Value.int .i64 0,Value.int .i64 0,Value.int .i64 0,Value.int .i64 0,Value.int .i64 0,Value.int .i64 0,Value.slice none 0 0,Value.slice none 0 0,Value.slice none 0 0]) (qs:=#[.int .i64 19])
  obtain ⟨W',hW'⟩:∃ W',W'=(w'.setRow w.heap.size #[Value.int .i64 0,Value.int .i64 0,Value.int .i64 0,Value.int .i64 0,Value.int .i64 0,Value.int .i64 0,Value.int .i64 0,Value.slice none 0 0,Value.slice none 0 0,Value.slice none 0 0]).setRow (w.heap.size+1) #[.int .i64 19]:=⟨_,rfl⟩
  rw [← hW'] at k1 k2 k3 ⊢
  obtain ⟨⟨c0,_,_⟩,⟨c1,_,_⟩,⟨c2,_,_⟩,⟨c3,_,_⟩,⟨c4,_,_⟩,⟨c5,_,_⟩,⟨c6,_,_⟩,⟨c7,_,_⟩,⟨c8,_,_⟩,⟨c9,_,_⟩⟩:=zJc W' w.heap.size _ _ _ _ _ _ _ _ _ _ k1
  have c10:W'.cell? ⟨w.heap.size+1,0,none⟩=some (.int .i64 19):=by simp [World.cell?,k2]
  clear hW' k1 k2
  simp [Leaves,settle,results,Try.results19,go_sem,c0,c1,c2,c3,c4,c5,c6,c7,c8,c9,c10]
  exact k3
theorem jYt {w:World} {V:Nat→Prop} {s:Scr} {cl:List Value} (h:zQU w V (scrD s) cl):∃ (A1 A2 A3:Option Addr) (n1 n2 n3:Nat),cl=[.int .i64 s.bits,.int .i64 s.c.a,.int .i64 s.c.b,.int .i64 s.c.c,.int .i64 s.c.d,.int .i64 s.tw,.int .i64 s.th,.slice A1 s.ord.length n1,.slice A2 s.ims.length n2,.slice A3 s.ops.length n3]:=by
  unfold scrD at h
  match cl,h with
  | [v0,v1,v2,v3,v4,v5,v6,v7,v8,v9],h=>
    simp only [zQU,RepD] at h
    obtain ⟨⟨rfl,_⟩,⟨rfl,_⟩,⟨rfl,_⟩,⟨rfl,_⟩,⟨rfl,_⟩,⟨rfl,_⟩,⟨rfl,_⟩,⟨A1,n1,rfl,_⟩,⟨A2,n2,rfl,_⟩,⟨A3,n3,rfl,_⟩,_⟩:=h
    exact ⟨A1,A2,A3,n1,n2,n3,rfl⟩
set_option maxRecDepth 100000 in
theorem zHF (b:List Int) (A:Option Addr) (cap:Nat) (w:World) (S:Nat→Prop) (hg:zZX w S) (hr:RepD w S (.sl b.length (u8s b)) (.slice A b.length cap)) (hL:b.length≤67108864) (s:Scr) (hps:PLift (zQj b=s)) (hp:zQH b) (Q:Ending→World→Prop)
    (hz:PLift (¬ (s.ims.length≤64∧s.ops.length≤4096)→∀ w',Below w.heap.size w w'→Q (.returned (.tuple #[.agg #[Value.int .i64 0,Value.int .i64 0,Value.int .i64 0,Value.int .i64 0,Value.int .i64 0,Value.int .i64 0,Value.int .i64 0,Value.slice none 0 0,Value.slice none 0 0,Value.slice none 0 0],.int .i64 19])) w')) (hy:PLift (s.ims.length≤64→s.ops.length≤4096→∀ (cl:List Value) w',zQU w' (fun x=>S x∨w.heap.size≤x) (scrD s) cl→Below w.heap.size w w'→Q (.returned (.tuple #[.agg ⟨cl⟩,.int .i64 0])) w')) :
    Calls Try.prog 19 #[.slice A b.length cap] w Q:=by
  have hd:decide ((b.length:Int)≤67108864)=true:=decide_eq_true (by omega)
  have hmf:∀ (fn:Fn) (first cap:Array Value) (w:World),(Instr.makeFunc fn first cap).run Try.prog w=.ok (.func fn first cap) w:=fun _ _ _ _=>rfl
  have sz:∀ (u:World) (o:Obj),(u.alloc o).heap.size=u.heap.size+1:=fun u o=>by simp
  have old:∀ (u:World) (o:Obj) (k:Nat),k < u.heap.size→(u.alloc o).heap[k]?=u.heap[k]?:=fun u o k hk=>heap_alloc_old u o hk
  have new:∀ (u:World) (o:Obj),(u.alloc o).heap[u.heap.size]?=some o:=fun u o=>heap_alloc_new u o
  go_enter_defers Try.func19,Try.ntmps19
  go_wp2_with fail
  obtain ⟨W,hW⟩:∃ W,W=((w.alloc (.cells #[Value.int .i64 0,Value.int .i64 0,Value.int .i64 0,Value.int .i64 0,Value.int .i64 0,Value.int .i64 0,Value.int .i64 0,Value.slice none 0 0,Value.slice none 0 0,Value.slice none 0 0] 32)).alloc (.cells #[.int .i64 0] 46)):=⟨_,rfl⟩
  have h1:W.heap[w.heap.size]?=some (.cells #[Value.int .i64 0,Value.int .i64 0,Value.int .i64 0,Value.int .i64 0,Value.int .i64 0,Value.int .i64 0,Value.int .i64 0,Value.slice none 0 0,Value.slice none 0 0,Value.slice none 0 0] 32):=by
    rw [hW,old _ _ _ (by simp only [sz]; omega),new]
  have h2:W.heap[w.heap.size+1]?=some (.cells #[.int .i64 0] 46):=by
    rw [hW,← sz w (.cells #[Value.int .i64 0,Value.int .i64 0,Value.int .i64 0,Value.int .i64 0,Value.int .i64 0,Value.int .i64 0,Value.int .i64 0,Value.slice none 0 0,Value.slice none 0 0,Value.slice none 0 0] 32),new]
  have hs:W.heap.size=w.heap.size+2:=by rw [hW]; simp only [sz]
  have hbw:Below w.heap.size w W:=by
    refine ⟨by rw [hW]; rfl,by rw [hW]; rfl,by rw [hW]; rfl,by omega,fun k hk=>?_⟩
    rw [hW,old _ _ _ (by simp only [sz]; omega),old _ _ _ hk]
  rw [← hW]
  clear hW
  refine (zJY _).mono ?_
  rintro e w' ⟨rfl,hw⟩
  rw [hw]
  clear hw w'
  go_wp2_with fail
  obtain ⟨R,hR⟩:∃ R,R=W.alloc (.cells #[.slice A b.length cap] 97):=⟨_,rfl⟩
  have r1:R.heap[w.heap.size]?=some (.cells #[Value.int .i64 0,Value.int .i64 0,Value.int .i64 0,Value.int .i64 0,Value.int .i64 0,Value.int .i64 0,Value.int .i64 0,Value.slice none 0 0,Value.slice none 0 0,Value.slice none 0 0] 32):=by
    rw [hR,old _ _ _ (by omega)]; exact h1
  have r2:R.heap[w.heap.size+1]?=some (.cells #[.int .i64 0] 46):=by
    rw [hR,old _ _ _ (by omega)]; exact h2
  have r3:R.heap[w.heap.size+2]?=some (.cells #[.slice A b.length cap] 97):=by
    rw [hR,← hs,new]
  have rs:R.heap.size=w.heap.size+3:=by rw [hR,sz]; omega
  have rb:Below w.heap.size w R:=by
    obtain ⟨b1,b2,b3,b4,b5⟩:=hbw
    refine ⟨by rw [hR]; exact b1,by rw [hR]; exact b2,by rw [hR]; exact b3,by omega,fun k hk=>?_⟩
    rw [hR,old _ _ _ (by omega)]
    exact b5 k hk
  try simp only [hs]
  rw [← hR]
  clear hR h1 h2 hbw
  have gR:zZX R (fun x=>S x∧x < w.heap.size):=hg.keep (zHu rb)
  have vR:=RepD.keep (zHu rb) hr
  refine (jXI hp gR r3 vR (by omega)).mono ?_
  rintro e w' ⟨v',rfl,hv,hB⟩
  have h1:w'.heap[w.heap.size]?=some (.cells #[Value.int .i64 0,Value.int .i64 0,Value.int .i64 0,Value.int .i64 0,Value.int .i64 0,Value.int .i64 0,Value.int .i64 0,Value.slice none 0 0,Value.slice none 0 0,Value.slice none 0 0] 32):=(hB.block _ (by omega) (by omega)).trans r1
  have h2:w'.heap[w.heap.size+1]?=some (.cells #[.int .i64 0] 46):=(hB.block _ (by omega) (by omega)).trans r2
  have hbw:Below w.heap.size w w':=by
    obtain ⟨b1,b2,b3,b4,b5⟩:=rb
    exact ⟨hB.os.trans b1,hB.tape.trans b2,hB.output.trans b3,Nat.le_trans b4 hB.size,fun k hk=>(hB.block k (by omega) (by omega)).trans (b5 k hk)⟩
  clear hB r1 r2 r3 rb gR vR hp
  simp only [RepR] at hv
  obtain ⟨⟨cl⟩,rfl,hv⟩:=hv
  have hv:zQU w' _ (scrD (zQj b)) cl:=hv
  rw [hps.down] at hv
  obtain ⟨A1,A2,A3,n1,n2,n3,rfl⟩:=jYt hv
  obtain ⟨v1,v2,v3,v4,v5,v6,v7,v8,v9,v10,⟨cv0,fv0,sv1⟩,⟨cv1,fv1,sv2⟩,⟨cv2,fv2,sv3⟩,⟨cv3,fv3,sv4⟩,⟨cv4,fv4,sv5⟩,⟨cv5,fv5,sv6⟩,⟨cv6,fv6,sv7⟩,⟨cv7,fv7,sv8⟩,⟨cv8,fv8,sv9⟩,⟨cv9,fv9,sv10⟩,ev,hv10⟩:=zH3 w' w.heap.size _ _ _ _ _ _ _ _ _ _ (.int .i64 s.bits) (.int .i64 s.c.a) (.int .i64 s.c.b) (.int .i64 s.c.c) (.int .i64 s.c.d) (.int .i64 s.tw) (.int .i64 s.th) (.slice A1 s.ord.length n1) (.slice A2 s.ims.length n2) (.slice A3 s.ops.length n3) h1
  have hq2:v10.heap[w.heap.size+1]?=some (.cells #[.int .i64 0] 46 (0,0)):=by rw [ev,setRow_other _ _ _ _ (by omega)]; exact h2
  have hbv:Below w.heap.size w v10:=by
    rw [ev]
    obtain ⟨b1,b2,b3,b4,b5⟩:=hbw
    exact ⟨b1,b2,b3,by simp [World.setRow]; exact b4,fun k hk=>by rw [setRow_other _ _ _ _ (by omega)]; exact b5 k hk⟩
  have hk10:zQ9 w' (fun x=>((S x∧x < w.heap.size)∨R.heap.size≤x)∨x=w.heap.size+2) v10 (fun x=>S x∨w.heap.size≤x):=fun g off u hV hu=>by
    refine ⟨?_,?_⟩
    · rcases hV with (hV | hV) | hV
      · exact .inl hV.1
      · exact .inr (by omega)
      · exact .inr (by omega)
    · rw [ev,jQK (setRow_other _ _ _ _ ?_)]
      · exact hu
      · rcases hV with (hV | hV) | hV <;> omega
  have HV:=zQU.keep hk10 hv
  have HP:PLift (v10.heap[w.heap.size]?=some (.cells #[.int .i64 s.bits,.int .i64 s.c.a,.int .i64 s.c.b,.int .i64 s.c.c,.int .i64 s.c.d,.int .i64 s.tw,.int .i64 s.th,.slice A1 s.ord.length n1,.slice A2 s.ims.length n2,.slice A3 s.ops.length n3] 32 (0,0))):=⟨hv10⟩
  have HQ:PLift (v10.heap[w.heap.size+1]?=some (.cells #[.int .i64 0] 46 (0,0))):=⟨hq2⟩
  have HK:PLift (Below w.heap.size w v10):=⟨hbv⟩
  have HW:PLift (zQU v10 (fun x=>S x∨w.heap.size≤x) (scrD s) [.int .i64 s.bits,.int .i64 s.c.a,.int .i64 s.c.b,.int .i64 s.c.c,.int .i64 s.c.d,.int .i64 s.tw,.int .i64 s.th,.slice A1 s.ord.length n1,.slice A2 s.ims.length n2,.slice A3 s.ops.length n3]):=⟨HV⟩
  obtain ⟨⟨d0,g0,t0⟩,⟨d1,g1,t1⟩,⟨d2,g2,t2⟩,⟨d3,g3,t3⟩,⟨d4,g4,t4⟩,⟨d5,g5,t5⟩,⟨d6,g6,t6⟩,⟨d7,g7,t7⟩,⟨d8,g8,t8⟩,⟨d9,g9,t9⟩⟩:=zJc v10 w.heap.size _ _ _ _ _ _ _ _ _ _ hv10
  have d10:v10.cell? ⟨w.heap.size+1,0,none⟩=some (.int .i64 0):=by simp [World.cell?,hq2]
  have g10:v10.frozen? ⟨w.heap.size+1,0,none⟩=false:=by simp [World.frozen?,hq2]
  have t10:v10.setCell ⟨w.heap.size+1,0,none⟩ (.int .i64 0)=v10:=(setCell_eq_setRow v10 (w.heap.size+1) 0 _ _ _ _ hq2).trans (setRow_self v10 (w.heap.size+1) _ _ _ hq2)
  clear hv10 ev hq2 hbv hk10 HV hv h1 h2 hbw hg hr
  by_cases hI:s.ims.length≤64
  · have hi:decide ((s.ims.length:Int)≤64)=true:=decide_eq_true (by omega)
    by_cases hO:s.ops.length≤4096
    · have ho:decide ((s.ops.length:Int)≤4096)=true:=decide_eq_true (by omega)
      go_wp2_with fail
      refine (zJY _).mono ?_
      rintro e w' ⟨rfl,hw⟩
      rw [hw]
      clear hw w'
      go_wp2_with fail
      simp only [bodyPostD]
      obtain ⟨hbw⟩:=HK
      obtain ⟨hv⟩:=HW
      refine leaves_cons (f:=44) (args:=#[.pointer (some ⟨w.heap.size,0,none⟩),.pointer (some ⟨w.heap.size+1,0,none⟩)]) (by simp) (by simp [go_sem]) ?_
      refine (jX7 w.heap.size (w.heap.size+1) v10).mono ?_
      rintro e u' w'' ⟨rfl,rfl,hw⟩
      rw [hw]
      clear hw w''
      simp [Leaves,settle,results,Try.results19,go_sem,d0,d1,d2,d3,d4,d5,d6,d7,d8,d9,d10]
      exact hy.down hI hO _ _ hv hbw
    · have ho:decide ((s.ops.length:Int)≤4096)=false:=decide_eq_false (by omega)
      go_wp2_with fail
      refine (zVb _).mono ?_
      rintro e w' ⟨rfl,hw⟩
      rw [hw]
      clear hw w'
      obtain ⟨h1⟩:=HP
      obtain ⟨h2⟩:=HQ
      obtain ⟨hbw⟩:=HK
      simp only [bodyPost]
      refine ⟨by simp,?_⟩
      go_wp2
      refine ⟨_,_,⟨rfl,rfl⟩,?_⟩
      refine (zVc w.heap.size (w.heap.size+1) v10 _ _ _ _ _ _ _ _ _ _ _ (by omega) h1 h2).mono ?_
      rintro e u' w'' ⟨rfl,rfl,rfl⟩
      have k3:=zYH hbw h1 h2 (ps:=#[Value.int .i64 0,Value.int .i64 0,Value.int .i64 0,Value.int .i64 0,Value.int .i64 0,Value.int .i64 0,Value.int .i64 0,Value.slice none 0 0,Value.slice none 0 0,Value.slice none 0 0]) (qs:=#[.int .i64 19])
      obtain ⟨k1,k2⟩:=zJJ h1 h2 (ps:=#[Value.int .i64 0,Value.int .i64 0,Value.int .i64 0,Value.int .i64 0,Value.int .i64 0,Value.int .i64 0,Value.int .i64 0,Value.slice none 0 0,Value.slice none 0 0,Value.slice none 0 0]) (qs:=#[.int .i64 19])
      obtain ⟨W',hW'⟩:∃ W',W'=(v10.setRow w.heap.size #[Value.int .i64 0,Value.int .i64 0,Value.int .i64 0,Value.int .i64 0,Value.int .i64 0,Value.int .i64 0,Value.int .i64 0,Value.slice none 0 0,Value.slice none 0 0,Value.slice none 0 0]).setRow (w.heap.size+1) #[.int .i64 19]:=⟨_,rfl⟩
      rw [← hW'] at k1 k2 k3 ⊢
      obtain ⟨⟨c0,_,_⟩,⟨c1,_,_⟩,⟨c2,_,_⟩,⟨c3,_,_⟩,⟨c4,_,_⟩,⟨c5,_,_⟩,⟨c6,_,_⟩,⟨c7,_,_⟩,⟨c8,_,_⟩,⟨c9,_,_⟩⟩:=zJc W' w.heap.size _ _ _ _ _ _ _ _ _ _ k1
      have c10:W'.cell? ⟨w.heap.size+1,0,none⟩=some (.int .i64 19):=by simp [World.cell?,k2]
      clear hW' k1 k2
      simp [Leaves,settle,results,Try.results19,go_sem,c0,c1,c2,c3,c4,c5,c6,c7,c8,c9,c10]
      exact hz.down (fun h=>hO h.2) _ k3
  · have hi:decide ((s.ims.length:Int)≤64)=false:=decide_eq_false (by omega)
    go_wp2_with fail
    refine (zVb _).mono ?_
    rintro e w' ⟨rfl,hw⟩
    rw [hw]
    clear hw w'
    obtain ⟨h1⟩:=HP
    obtain ⟨h2⟩:=HQ
    obtain ⟨hbw⟩:=HK
    simp only [bodyPost]
    refine ⟨by simp,?_⟩
    go_wp2
    refine ⟨_,_,⟨rfl,rfl⟩,?_⟩
    refine (zVc w.heap.size (w.heap.size+1) v10 _ _ _ _ _ _ _ _ _ _ _ (by omega) h1 h2).mono ?_
    rintro e u' w'' ⟨rfl,rfl,rfl⟩
    have k3:=zYH hbw h1 h2 (ps:=#[Value.int .i64 0,Value.int .i64 0,Value.int .i64 0,Value.int .i64 0,Value.int .i64 0,Value.int .i64 0,Value.int .i64 0,Value.slice none 0 0,Value.slice none 0 0,Value.slice none 0 0]) (qs:=#[.int .i64 19])
    obtain ⟨k1,k2⟩:=zJJ h1 h2 (ps:=#[Value.int .i64 0,Value.int .i64 0,Value.int .i64 0,Value.int .i64 0,Value.int .i64 0,Value.int .i64 0,Value.int .i64 0,Value.slice none 0 0,Value.slice none 0 0,Value.slice none 0 0]) (qs:=#[.int .i64 19])
    obtain ⟨W',hW'⟩:∃ W',W'=(v10.setRow w.heap.size #[Value.int .i64 0,Value.int .i64 0,Value.int .i64 0,Value.int .i64 0,Value.int .i64 0,Value.int .i64 0,Value.int .i64 0,Value.slice none 0 0,Value.slice none 0 0,Value.slice none 0 0]).setRow (w.heap.size+1) #[.int .i64 19]:=⟨_,rfl⟩
    rw [← hW'] at k1 k2 k3 ⊢
    obtain ⟨⟨c0,_,_⟩,⟨c1,_,_⟩,⟨c2,_,_⟩,⟨c3,_,_⟩,⟨c4,_,_⟩,⟨c5,_,_⟩,⟨c6,_,_⟩,⟨c7,_,_⟩,⟨c8,_,_⟩,⟨c9,_,_⟩⟩:=zJc W' w.heap.size _ _ _ _ _ _ _ _ _ _ k1
    have c10:W'.cell? ⟨w.heap.size+1,0,none⟩=some (.int .i64 19):=by simp [World.cell?,k2]
    clear hW' k1 k2
    simp [Leaves,settle,results,Try.results19,go_sem,c0,c1,c2,c3,c4,c5,c6,c7,c8,c9,c10]
    exact hz.down (fun h=>hI h.1) _ k3
theorem jZI (v:Int):byI v 0=v % 256∧byI v 1=v / 256 % 256∧byI v 2=v / 65536 % 256∧byI v 3=v / 16777216 % 256:=by
  have w:∀ x:Int,IntKind.wrap .u8 x=x % 256:=fun x=>by simp [IntKind.wrap,IntKind.bits,IntKind.signed]
  have f:∀ d:Int,0≤d→Int.fdiv v d=v / d:=fun d h=>Int.fdiv_eq_ediv_of_nonneg v h
  have e0:(2:Int) ^ (8*0)=1:=by decide
  have e1:(2:Int) ^ (8*1)=256:=by decide
  have e2:(2:Int) ^ (8*2)=65536:=by decide
  have e3:(2:Int) ^ (8*3)=16777216:=by decide
  unfold byI
  rw [w,w,w,w,e0,e1,e2,e3,f _ (by decide),f _ (by decide),f _ (by decide),f _ (by decide),Int.ediv_one]
  exact ⟨rfl,rfl,rfl,rfl⟩
theorem be1 (v:Int):beI 1 v=[v % 256]:=by simp [beI,jZI v]
theorem be2 (v:Int):beI 2 v=[v / 256 % 256,v % 256]:=by simp [beI,jZI v]
theorem be4 (v:Int):beI 4 v=[v / 16777216 % 256,v / 65536 % 256,v / 256 % 256,v % 256]:=by simp [beI,jZI v]
theorem tk1 (a:Int) (x:List Int):tkV 1 (a::x)=a:=by simp [tkV]
theorem tk2 (a b:Int) (x:List Int):tkV 2 (a::b::x)=a*256+b:=by simp [tkV]
theorem tk4 (a b c d:Int) (x:List Int):tkV 4 (a::b::c::d::x)=((a*256+b)*256+c)*256+d:=by simp [tkV]
theorem zKc {v:Int} (x:List Int) (h:0≤v∧v≤255):tkV 1 (beI 1 v++x)=v:=by
  rw [be1]; simp only [List.cons_append,List.nil_append,tk1]; omega
theorem zWH {v:Int} (x:List Int) (h:0≤v∧v≤65535):tkV 2 (beI 2 v++x)=v:=by
  rw [be2]; simp only [List.cons_append,List.nil_append,tk2]; omega
theorem jYj (v:Int) (x:List Int):tkV 4 (beI 4 v++x)=v % 4294967296:=by
  rw [be4]; simp only [List.cons_append,List.nil_append,tk4]; omega
theorem zVJ {v:Int} (x:List Int) (h:0≤v∧v≤4294967295):tkV 4 (beI 4 v++x)=v:=by
  rw [jYj]; omega
theorem jKd {u:Int} (h:0≤u∧u < 4294967296):IntKind.wrap .i64 (IntKind.wrap .i32 u)=if u < 2147483648 then u else u - 4294967296:=by
  have e:IntKind.wrap .i32 u=if u < 2147483648 then u else u - 4294967296:=by
    simp [IntKind.wrap,IntKind.bits,IntKind.signed]
    split <;> split <;> omega
  rw [e]
  split <;> exact IntWalk.i64_in _ ⟨by omega,by omega⟩
theorem zVO {v:Int} (x:List Int) (h : -2147483648≤v∧v≤2147483647):sgV (beI 4 v++x)=v:=by
  unfold sgV
  rw [jYj,jKd (by omega)]
  split <;> omega
theorem jKc {l:List Int} (h:isB l) (n:1≤l.length):l=beI 1 (tkV 1 l)++l.drop 1:=by
  match l,n with
  | a::x,_=>
    have ha:=h a (by simp)
    have e:a % 256=a:=by omega
    simp only [tk1,be1,e,List.drop_succ_cons,List.drop_zero,List.cons_append,List.nil_append]
theorem jKb {l:List Int} (h:isB l) (n:2≤l.length):l=beI 2 (tkV 2 l)++l.drop 2:=by
  match l,n with
  | a::b::x,_=>
    have ha:=h a (by simp)
    have hb:=h b (by simp)
    have e1:(a*256+b) / 256 % 256=a:=by omega
    have e2:(a*256+b) % 256=b:=by omega
    simp only [tk2,be2,e1,e2,List.drop_succ_cons,List.drop_zero,List.cons_append,List.nil_append]
theorem jVl {u v:Int} (h:u % 4294967296=v % 4294967296):beI 4 u=beI 4 v:=by
  rw [be4,be4]
  have e0:u % 256=v % 256:=by omega
  have e1:u / 256 % 256=v / 256 % 256:=by omega
  have e2:u / 65536 % 256=v / 65536 % 256:=by omega
  have e3:u / 16777216 % 256=v / 16777216 % 256:=by omega
  rw [e0,e1,e2,e3]
theorem jKa {l:List Int} (h:isB l) (n:4≤l.length):l=beI 4 (tkV 4 l)++l.drop 4:=by
  match l,n with
  | a::b::c::d::x,_=>
    have ha:=h a (by simp)
    have hb:=h b (by simp)
    have hc:=h c (by simp)
    have hd:=h d (by simp)
    have e1:(((a*256+b)*256+c)*256+d) / 16777216 % 256=a:=by omega
    have e2:(((a*256+b)*256+c)*256+d) / 65536 % 256=b:=by omega
    have e3:(((a*256+b)*256+c)*256+d) / 256 % 256=c:=by omega
    have e4:(((a*256+b)*256+c)*256+d) % 256=d:=by omega
    simp only [tk4,be4,e1,e2,e3,e4,List.drop_succ_cons,List.drop_zero,List.cons_append,List.nil_append]
theorem jQ5 {l:List Int} (h:isB l):sgV l=if tkV 4 l < 2147483648 then tkV 4 l else tkV 4 l - 4294967296:=by
  have:=zX5 h 4
  have p4:(256:Int) ^ 4=4294967296:=by decide
  rw [p4] at this
  exact jKd this
theorem zVN {l:List Int} (h:isB l) : -2147483648≤sgV l∧sgV l≤2147483647:=by
  have:=zX5 h 4
  have p4:(256:Int) ^ 4=4294967296:=by decide
  rw [p4] at this
  rw [jQ5 h]
  split <;> omega
theorem jVs {l:List Int} (h:isB l) (n:4≤l.length):l=beI 4 (sgV l)++l.drop 4:=by
  have e:beI 4 (sgV l)=beI 4 (tkV 4 l):=jVl (by rw [jQ5 h]; split <;> omega)
  rw [e]
  exact jKa h n
theorem zKb {l:List Int} (h:isB l):0≤tkV 1 l∧tkV 1 l≤255:=by
  have:=zX5 h 1
  have p:(256:Int) ^ 1=256:=by decide
  omega
theorem zVK {l:List Int} (h:isB l):0≤tkV 2 l∧tkV 2 l≤65535:=by
  have:=zX5 h 2
  have p:(256:Int) ^ 2=65536:=by decide
  omega
theorem zWG {l:List Int} (h:isB l):0≤tkV 4 l∧tkV 4 l≤4294967295:=by
  have:=zX5 h 4
  have p:(256:Int) ^ 4=4294967296:=by decide
  omega
theorem at1 {b:List Int} (hB:isB b) (d:Nat) (h:d+1≤b.length):b.drop d=beI 1 (tkV 1 (b.drop d))++b.drop (d+1):=by
  have:=jKc (hB.drop d) (by rw [List.length_drop]; omega)
  rwa [List.drop_drop] at this
theorem at2 {b:List Int} (hB:isB b) (d:Nat) (h:d+2≤b.length):b.drop d=beI 2 (tkV 2 (b.drop d))++b.drop (d+2):=by
  have:=jKb (hB.drop d) (by rw [List.length_drop]; omega)
  rwa [List.drop_drop] at this
theorem at4 {b:List Int} (hB:isB b) (d:Nat) (h:d+4≤b.length):b.drop d=beI 4 (tkV 4 (b.drop d))++b.drop (d+4):=by
  have:=jKa (hB.drop d) (by rw [List.length_drop]; omega)
  rwa [List.drop_drop] at this
theorem atG {b:List Int} (hB:isB b) (d:Nat) (h:d+4≤b.length):b.drop d=beI 4 (sgV (b.drop d))++b.drop (d+4):=by
  have:=jVs (hB.drop d) (by rw [List.length_drop]; omega)
  rwa [List.drop_drop] at this
theorem zQy {a x y:List Int} (h:x=y):a++x=a++y:=by rw [h]
theorem zGG {l:List Int} (hB:isB l) (h:10≤l.length):l=pxB (rdPx l)++l.drop 10:=by
  simp only [pxB,putL,List.flatMap_cons,List.flatMap_nil,List.append_assoc,List.nil_append,rdPx]
  exact (at2 hB 0 (by omega)).trans (zQy ((at2 hB 2 (by omega)).trans (zQy ((at2 hB 4 (by omega)).trans (zQy ((at2 hB 6 (by omega)).trans (zQy (at2 hB 8 (by omega)))))))))
theorem jVb {l:List Int} (hB:isB l) (h:tkV 1 (l.drop 23)≤3):zXe (rdOp l)=tkV 1 (l.drop 23):=by
  have:=(zKb (hB.drop 23)).1
  unfold zXe rdOp
  simp only [decide_eq_true_eq]
  split <;> split <;> omega
theorem jXS {l:List Int} (hB:isB l) (h:zZj l):l=opB (rdOp l)++l.drop 24:=by
  obtain ⟨h,hf⟩:=h
  have e:=jVb hB hf
  simp only [opB,putL,List.flatMap_cons,List.flatMap_nil,List.append_assoc,List.nil_append,e]
  simp only [rdOp]
  exact (at1 hB 0 (by omega)).trans (zQy ((at1 hB 1 (by omega)).trans (zQy ((atG hB 2 (by omega)).trans (zQy ((atG hB 6 (by omega)).trans (zQy ((at1 hB 10 (by omega)).trans (zQy ((atG hB 11 (by omega)).trans (zQy ((atG hB 15 (by omega)).trans (zQy ((at2 hB 19 (by omega)).trans (zQy ((at1 hB 21 (by omega)).trans (zQy ((at1 hB 22 (by omega)).trans (zQy (at1 hB 23 (by omega)))))))))))))))))))))
theorem zGE (n:Nat) (l:List Int):zZn (n+1) l=zZn n l++[rdPx (l.drop (10*n))]:=by
  unfold zZn
  rw [List.range_succ,List.map_append]; rfl
theorem zWX (n:Nat) (l:List Int):(zZn n l).length=n:=by simp [zZn]
theorem zWY {l:List Int} (hB:isB l):∀ n,10*n≤l.length→l=(zZn n l).flatMap pxB++l.drop (10*n)
  | 0,_=>by simp [zZn]
  | n+1,h=>by
    have ih:=zWY hB n (by omega)
    have hp:=zGG (hB.drop (10*n)) (by rw [List.length_drop]; omega)
    rw [List.drop_drop] at hp
    rw [zGE,List.flatMap_append,List.append_assoc]
    refine ih.trans (zQy ?_)
    simp only [List.flatMap_cons,List.flatMap_nil,List.append_nil]
    exact hp
theorem jYB {l:List Int} (h:zQT l):(rdIm l).formed=true∧(rdIm l).w=rdW l∧(rdIm l).h=rdH l∧(rdIm l).so=decide (tkV 1 l=1)∧(tkV 1 l=1→(rdIm l).c=rdPx (l.drop 9))∧(tkV 1 l≠1→(rdIm l).pixels=zZn (rdN l) (l.drop 9)):=by
  obtain ⟨⟨h1,h2,h3,h4,h5⟩,h6⟩:=h
  have hf:zQz (rdW l) (rdH l)=true:=by simp only [zQz,decide_eq_true h3,decide_eq_true h4,decide_eq_true h5]; rfl
  unfold rdIm
  split
  · rename_i hk
    exact ⟨zZH _ hf,rfl,rfl,(decide_eq_true hk).symm,fun _=>rfl,fun hn=>absurd hk hn⟩
  · rename_i hk
    have hpos:0 < rdW l*rdH l:=Int.mul_pos (by omega) (by omega)
    have hok:ofOk (rdW l) (rdH l) (zZn (rdN l) (l.drop 9)).length=true:=by
      unfold ofOk
      rw [hf,zWX,Bool.true_and,decide_eq_true_eq]
      unfold rdN
      omega
    have e:=zKD hok
    obtain ⟨f1,f2⟩:=zUy hok
    refine ⟨f1,?_,?_,?_,fun hn=>absurd hn hk,fun _=>f2⟩
    · rw [e]; rfl
    · rw [e]; rfl
    · rw [e,decide_eq_false hk]; rfl
theorem jXZ {l:List Int} (hB:isB l) (h:zQT l):l=imB_ (rdIm l)++zQ7 l:=by
  obtain ⟨r1,r2,r3,r4,r5,r6⟩:=jYB h
  obtain ⟨⟨h1,h2,h3,h4,h5⟩,h6⟩:=h
  have t:=(zKb hB)
  unfold imB_ zQ7
  rw [r2,r3,r4]
  by_cases hk:tkV 1 l=1
  · rw [if_pos hk] at h6 ⊢
    rw [if_pos (decide_eq_true hk),r5 hk]
    have hp:=zGG (hB.drop 9) (by rw [List.length_drop]; omega)
    rw [List.drop_drop] at hp
    have e0:=at1 hB 0 (by omega)
    rw [List.drop_zero,hk] at e0
    simp only [putL,List.flatMap_cons,List.flatMap_nil,List.append_assoc,List.nil_append,rdW,rdH]
    exact e0.trans (zQy ((at4 hB 1 (by omega)).trans (zQy ((at4 hB 5 (by omega)).trans (zQy hp)))))
  · rw [if_neg hk] at h6 ⊢
    rw [if_neg (by simpa using hk),r6 hk]
    have hp:=zWY (hB.drop 9) (rdN l) (by rw [List.length_drop]; omega)
    rw [List.drop_drop] at hp
    have e0:=at1 hB 0 (by omega)
    rw [List.drop_zero,show tkV 1 l=0 by omega] at e0
    simp only [putL,List.flatMap_cons,List.flatMap_nil,List.append_assoc,List.nil_append]
    exact e0.trans (zQy ((at4 hB 1 (by omega)).trans (zQy ((at4 hB 5 (by omega)).trans (zQy hp)))))
theorem zUr {l:List Int} (hB:isB l):∀ n,(∀ i,i < n→zQT (imsT l i).2)→l=(imsT l n).1.flatMap imB_++(imsT l n).2
  | 0,_=>rfl
  | n+1,h=>by
    have ih:=zUr hB n fun i hi=>h i (by omega)
    have hp:=jXZ (zJS hB n) (h n (by omega))
    refine ih.trans ?_
    show _=((imsT l n).1++[rdIm (imsT l n).2]).flatMap imB_++zQ7 (imsT l n).2
    rw [List.flatMap_append,List.append_assoc]
    refine zQy ?_
    simp only [List.flatMap_cons,List.flatMap_nil,List.append_nil]
    exact hp
theorem zUa {l:List Int} (hB:isB l):∀ n,(∀ i,i < n→zZj (l.drop (24*i)))→l=(opsL l n).flatMap opB++l.drop (24*n)
  | 0,_=>by simp [opsL]
  | n+1,h=>by
    have ih:=zUa hB n fun i hi=>h i (by omega)
    have hp:=jXS (hB.drop (24*n)) (h n (by omega))
    rw [List.drop_drop] at hp
    rw [zUd,List.flatMap_append,List.append_assoc]
    refine ih.trans (zQy ?_)
    simp only [List.flatMap_cons,List.flatMap_nil,List.append_nil]
    exact hp
theorem zW8 {b:List Int} (hB:isB b):∀ n,31+4*n≤b.length→b.drop 31=putL 4 (ordL b n)++b.drop (31+4*n)
  | 0,_=>by simp [ordL,putL]
  | n+1,h=>by
    have ih:=zW8 hB n (by omega)
    have hp:=at4 hB (31+4*n) (by omega)
    rw [zW9]
    unfold putL at ih ⊢
    rw [List.flatMap_append,List.append_assoc]
    refine ih.trans (zQy ?_)
    simp only [List.flatMap_cons,List.flatMap_nil,List.append_nil]
    exact hp
theorem jJa {b:List Int} (hB:isB b) (h:zQH b):encB (zQj b)=b:=by
  obtain ⟨⟨⟨⟨⟨h1,h2,h3⟩,h4,h5⟩,h6,h7⟩,h8,h9⟩,h10⟩:=h
  have c1:tkV 4 (b.drop 27)=(n1P b:Int):=by
    have:=zWG (hB.drop 27)
    unfold n1P; omega
  have hBA:isB (bAP b):=hB.drop _
  have hBB:isB (bBP b):=hBA.drop _
  have c2:tkV 1 (bAP b)=(n2P b:Int):=by
    have:=zKb hBA
    unfold n2P; omega
  have hBC:isB (bCP b):=zJS hBB _
  have hBD:isB (bDP b):=hBC.drop _
  have c3:tkV 2 (bCP b)=(n3P b:Int):=by
    have:=zVK hBC
    unfold n3P; omega
  have hn:31+4*n1P b≤b.length:=by
    have h1:=h5.2
    rw [c1,List.length_drop] at h1
    omega
  have w7:=at4 hB 27 (by omega)
  rw [c1] at w7
  have wo:=zW8 hB (n1P b) hn
  have wA:=jKc hBA h6.1
  rw [c2] at wA
  have wB:=zUr hBB (n2P b) h7
  have wC:=jKb hBC h8.1
  rw [c3] at wC
  have wD:=zUa hBD (n3P b) h9
  rw [List.length_eq_zero_iff.1 h10,List.append_nil] at wD
  have e0:=at1 hB 0 (by omega)
  have e1:=at1 hB 1 (by omega)
  rw [List.drop_zero,h2] at e0
  rw [h3] at e1
  have b76:beI 1 76=[76]:=by decide
  have b67:beI 1 67=[67]:=by decide
  rw [b76] at e0
  rw [b67] at e1
  refine Eq.symm ?_
  unfold encB zQj
  simp only [putL,List.flatMap_cons,List.flatMap_nil,List.append_assoc,List.nil_append,zWy,zWC,zHf,List.cons_append]
  unfold putL at wo
  refine e0.trans (congrArg (76::·) (e1.trans (congrArg (67::·) ((at1 hB 2 (by omega)).trans (zQy ((atG hB 3 (by omega)).trans (zQy ((atG hB 7 (by omega)).trans (zQy ((atG hB 11 (by omega)).trans (zQy ((atG hB 15 (by omega)).trans (zQy ((at4 hB 19 (by omega)).trans (zQy ((at4 hB 23 (by omega)).trans (zQy (w7.trans (zQy (wo.trans (zQy ?_)))))))))))))))))))))
  show bAP b=_
  refine wA.trans (zQy ?_)
  show bBP b=_
  refine wB.trans (zQy ?_)
  show bCP b=_
  exact wC.trans (zQy wD)
theorem zJV {lo hi:Int} {l:List Int}:fitL lo hi l=true↔∀ v∈l,lo≤v∧v≤hi:=by
  unfold fitL
  rw [List.all_eq_true]
  simp
theorem jKL {o:Oq} (h1:0≤o.kind∧o.kind≤255) (h2:0≤o.image∧o.image≤255) (h3:0≤o.mask∧o.mask≤255) (h4:0≤o.oper∧o.oper≤255) (h5:0≤o.mode∧o.mode≤255)
    (h6 : -2147483648≤o.x∧o.x≤2147483647) (h7 : -2147483648≤o.y∧o.y≤2147483647) (h8 : -2147483648≤o.mx∧o.mx≤2147483647) (h9 : -2147483648≤o.my∧o.my≤2147483647):opOk o=true:=by
  unfold opOk
  rw [Bool.and_eq_true,zJV,zJV]
  refine ⟨fun v hv=>?_,fun v hv=>?_⟩ <;> simp only [List.mem_cons,List.not_mem_nil,or_false] at hv
  · rcases hv with rfl | rfl | rfl | rfl | rfl <;> assumption
  · rcases hv with rfl | rfl | rfl | rfl <;> assumption
theorem zHr {v:Int} (h:zU8 v=true) : -2147483648≤v∧v≤2147483647:=by
  unfold zU8 at h
  have:=of_decide_eq_true h
  omega
theorem jY7 {bits:Int} {mn:Nat} {o:Oq} {st:List Oq} (h:errO bits mn o st=0) (hm:mn≤64):opOk o=true:=by
  unfold errO at h
  split at h
  · cases h
  rename_i k1
  split at h
  · cases h
  rename_i k2
  split at h
  · rename_i k3
    have:o=popO:=by
      unfold Oq.fields at k2
      rw [if_pos k3] at k2
      simpa using k2
    subst this
    decide
  rename_i k3
  split at h
  · cases h
  rename_i k4
  split at h
  · cases h
  rename_i k5
  split at h
  · cases h
  split at h
  · cases h
  rename_i k7
  split at h
  · cases h
  rename_i k8
  have k5:=Classical.not_not.1 k5
  have k7:=Classical.not_not.1 k7
  have k8:=Classical.not_not.1 k8
  have k1:=Classical.not_not.1 k1
  have hi:0≤o.image∧o.image≤255:=by
    rcases k1 with k1 | k1 | k1
    · omega
    · unfold Oq.fields at k2
      rw [if_neg k3] at k2
      have:o.image=0:=by
        by_cases hz:o.image=0
        · exact hz
        · exact absurd (by simp [k1,hz]) k2
      omega
    · exact absurd k1 k3
  exact jKL (by omega) hi (by omega) (by omega) (by omega) (zHr k5.1) (zHr k5.2.1) (zHr k5.2.2.1) (zHr k5.2.2.2)
theorem jYL {bits:Int} {mn:Nat}:∀ {l st st':List Oq},okO bits mn l st=some st'→∀ o∈l,∃ s',errO bits mn o s'=0
  | a::l,st,st',h,o,ho=>by
    simp only [okO] at h
    split at h
    · rcases List.mem_cons.1 ho with rfl | ho
      · exact ⟨st,by assumption⟩
      · exact jYL h o ho
    · cases h
theorem Scn.ops_fit (s:Scn):s.ops.all opOk=true:=by
  rw [List.all_eq_true]
  intro o ho
  obtain ⟨st,h⟩:=jYL s.ops_ok o ho
  exact jY7 h (by have:=s.ims_len; omega)
theorem Scn.ord_fit (s:Scn):∀ v∈s.ord,0≤v∧v≤4294967295:=by
  intro v hv
  have ht:=s.tiles_in
  by_cases hl:(ints s.oxs).length=0
  · have:s.ord=[]:=by unfold Scn.ord zZO; rw [if_pos (.inl hl)]
    rw [this] at hv; cases hv
  · have:=((jXR hl (by omega:s.tiles≤64)).mem_iff).1 hv
    simp only [upto,List.mem_map,List.mem_range] at this
    obtain ⟨i,hi,rfl⟩:=this
    show 0≤(i:Int)∧(i:Int)≤4294967295
    omega
theorem Scn.bits_fit (s:Scn):s.bits=8∨s.bits=16:=by
  have:=s.bits_of
  by_cases h:gMax s.b > 255
  · exact .inr (this.1 h).symm
  · exact .inl (this.2 h).symm
theorem zKP:∀ {l:List Im},(∀ m∈l,m.formed=true∧m.w≤100∧m.h≤100)→zQL l≤100009*(l.length:Int)
  | [],_=>by simp [zQL]
  | m::l,h=>by
    have h1:=h m (by simp)
    have h2:=zKP (l:=l) fun m hm=>h m (by simp [hm])
    have h3:=jXn h1.1
    have h4:m.w*m.h≤10000:=by
      have:=Int.mul_le_mul_of_nonneg_left h1.2.2 (by omega:0≤m.w)
      omega
    have h5:zZJ m≤100009:=by unfold zZJ; split <;> omega
    simp only [zQL,List.length_cons]
    omega
theorem Scn.enc (s:Scn) {ms:List Im} {os:List Oq} (h1:ms.length≤64) (h2:∀ m∈ms,m.formed=true∧m.w≤100∧m.h≤100) (h3:os.length≤100) (h4:os.all opOk=true):zQO ⟨s.bits,s.c,s.gtw,s.gth,s.ord,ms,os⟩=true:=by
  obtain ⟨f1,f2,f3,f4,f5,f6⟩:=s.facts
  have CF:=s.c_facts
  have hb:=s.bits_fit
  have ho:=s.ord_len
  have hz:=zKP h2
  have g1:fitL 0 255 [s.bits]=true:=zJV.2 fun v hv=>by
    simp only [List.mem_cons,List.not_mem_nil,or_false] at hv
    subst hv
    omega
  have g2:fitL (-2147483648) 2147483647 [s.c.a,s.c.b,s.c.c,s.c.d]=true:=zJV.2 fun v hv=>by
    simp only [List.mem_cons,List.not_mem_nil,or_false] at hv
    rcases hv with rfl | rfl | rfl | rfl <;> omega
  have g3:fitL 0 4294967295 [s.gtw,s.gth]=true:=zJV.2 fun v hv=>by
    simp only [List.mem_cons,List.not_mem_nil,or_false] at hv
    rcases hv with rfl | rfl <;> omega
  have g4:fitL 0 4294967295 s.ord=true:=zJV.2 s.ord_fit
  have g5:ms.all Im.formed=true:=List.all_eq_true.2 fun m hm=>(h2 m hm).1
  simp only [zQO,zXI,g1,g2,g3,g4,g5,h4,zZm,Bool.and_true,Bool.true_and,Bool.and_eq_true,decide_eq_true_eq]
  exact ⟨⟨h1,by omega⟩,decide_eq_true (by omega)⟩
theorem formed_of {m:Im} {most:Int} (h:m.valid most=0):m.formed=true:=by
  unfold Im.valid at h
  split at h
  · cases h
  split at h
  · cases h
  rename_i a b
  unfold Im.formed
  simp only [Bool.not_eq_false] at a b
  rw [a,b]; rfl
end Go.Proofs.Ytlnfgagmiogkgaa
namespace Go.Proofs.Ytlnfgagmiogkgaa
open Go.RowKit
set_option linter.unusedVariables false
set_option linter.unusedSimpArgs false
attribute [local irreducible] Ans AnsO AnsG AnsN AnsI
set_option maxRecDepth 4000
theorem jVy (o p:Oq):(o.kind==p.kind && (o.image==p.image && (o.x==p.x && (o.y==p.y && (o.mask==p.mask && (o.mx==p.mx && (o.my==p.my && (o.opac==p.opac && (o.oper==p.oper && (o.mode==p.mode && (o.iso==p.iso && (o.kno==p.kno && true))))))))))))=decide (o=p):=by
  obtain ⟨_,_,_,_,_,_,_,_,_,_,_,_⟩:=o
  obtain ⟨_,_,_,_,_,_,_,_,_,_,_,_⟩:=p
  rw [Bool.eq_iff_iff]
  simp only [Oq.mk.injEq,Bool.and_eq_true,beq_iff_eq,decide_eq_true_eq,and_true]
def eqI (m r:Im):Bool:=(m.so==r.so) && m.equal r
def imN (l:List Im) (i:Nat):Im:=l[i]?.getD (zQa 0 0 .zero)
theorem jQt {l:List Im} {i:Nat} (h:i < l.length):imN l i=l[i]:=by simp [imN,List.getElem?_eq_getElem h]
def eqTo (a b:List Im) (k:Nat):Bool:=(List.range k).all fun i=>eqI (imN a i) (imN b i)
def zGh (a b:List Im):Bool:=decide (a.length=b.length) && eqTo a b a.length
def eqS (s t:Scr):Bool:=decide (s.bits=t.bits) && decide (s.c=t.c) && decide (s.tw=t.tw) && decide (s.th=t.th) && decide (s.ord=t.ord) && zGh s.ims t.ims && decide (s.ops=t.ops)
theorem jVd (s t:Scr):eqS s t=((s.bits==t.bits) && (s.c.a==t.c.a && (s.c.b==t.c.b && (s.c.c==t.c.c && (s.c.d==t.c.d && true)))) && (s.tw==t.tw) && (s.th==t.th) && decide (s.ord=t.ord) && zGh s.ims t.ims && decide (s.ops=t.ops)):=by
  have h:decide (s.c=t.c)=(s.c.a==t.c.a && (s.c.b==t.c.b && (s.c.c==t.c.c && (s.c.d==t.c.d && true)))):=by
    obtain ⟨_,⟨_,_,_,_⟩,_,_,_,_,_⟩:=s
    obtain ⟨_,⟨_,_,_,_⟩,_,_,_,_,_⟩:=t
    rw [Bool.eq_iff_iff]
    simp only [Rc.mk.injEq,Bool.and_eq_true,beq_iff_eq,decide_eq_true_eq,and_true]
  unfold eqS
  rw [h]
  rfl
theorem jKy {α:Type} {a b:List α} {k:Nat} (h:k < a.length) (h2:k < b.length) (e:a.take k=b.take k) (ek:a[k]=b[k]):a.take (k+1)=b.take (k+1):=by
  rw [List.take_succ_eq_append_getElem h,List.take_succ_eq_append_getElem h2,e,ek]
theorem jV0 {α:Type} {a b:List α} {k:Nat} (h:k < a.length) (h2:k < b.length) (hn:a[k]≠b[k]):a≠b:=by
  intro e; subst e; exact hn rfl
theorem jVr {α:Type} {a b:List α} (he:a.length=b.length) (e:a.take a.length=b.take a.length):a=b:=by
  rw [List.take_length,he,List.take_length] at e
  exact e
theorem jY8 {a b:List Im} {k:Nat} (h:k < a.length) (h2:k < b.length) (e:eqTo a b k=true) (ek:eqI a[k] b[k]=true):eqTo a b (k+1)=true:=by
  unfold eqTo at e ⊢
  rw [List.range_succ,List.all_append,e]
  simp [jQt h,jQt h2,ek]
theorem jJY {a b:List Im} {k:Nat} (h:k < a.length) (h2:k < b.length) (ek:eqI a[k] b[k]=false):eqTo a b a.length=false:=by
  unfold eqTo
  rw [List.all_eq_false]
  exact ⟨k,List.mem_range.2 h,by rw [jQt h,jQt h2,ek]; simp⟩
def jJS:Gam where
 pure:=fun f xs=>
  if f=50 then (match xs with | [.d (.sl n xs),.d (.sl m ys)]=>some (RV.d (dQ (decide (ints (xs)=ints (ys))))) | _=>none) else
  if f=51 then (match xs with | [.d (.sl n xs),.d (.sl m ys)]=>some (RV.d (dQ (decide (zQp (xs)=zQp (ys))))) | _=>none) else
  if f=52 then (match xs with | [.agg [.int _ w,.int _ h,.bool so,.int _ c0,.int _ c1,.int _ c2,.int _ ca,.int _ cf,.int _ w0,.int _ h0,.int _ s0,.sl n0 xs0,.int _ w1,.int _ h1,.int _ s1,.sl n1 xs1,.int _ w2,.int _ h2,.int _ s2,.sl n2 xs2,.int _ w3,.int _ h3,.int _ s3,.sl n3 xs3,.int _ w4,.int _ h4,.int _ s4,.sl n4 xs4],.agg [.int _ w',.int _ h',.bool so',.int _ c0',.int _ c1',.int _ c2',.int _ ca',.int _ cf',.int _ w0',.int _ h0',.int _ s0',.sl n0' xs0',.int _ w1',.int _ h1',.int _ s1',.sl n1' xs1',.int _ w2',.int _ h2',.int _ s2',.sl n2' xs2',.int _ w3',.int _ h3',.int _ s3',.sl n3' xs3',.int _ w4',.int _ h4',.int _ s4',.sl n4' xs4']]=>some (RV.d (dQ (Im.equal ⟨w,h,so,⟨c0,c1,c2,ca,cf⟩,⟨w0,h0,s0,n0,xs0⟩,⟨w1,h1,s1,n1,xs1⟩,⟨w2,h2,s2,n2,xs2⟩,⟨w3,h3,s3,n3,xs3⟩,⟨w4,h4,s4,n4,xs4⟩⟩ ⟨w',h',so',⟨c0',c1',c2',ca',cf'⟩,⟨w0',h0',s0',n0',xs0'⟩,⟨w1',h1',s1',n1',xs1'⟩,⟨w2',h2',s2',n2',xs2'⟩,⟨w3',h3',s3',n3',xs3'⟩,⟨w4',h4',s4',n4',xs4'⟩⟩))) | _=>none) else
  none
 modes:=fun f=>
  none
 proc:=fun f xs bs=>
  none
 iter:=fun f cs=>
  none
def zJA (a:List Oq) (b:List Oq):Ann:=(Ann.seq Ann.leaf (Ann.seq Ann.leaf (Ann.seq (Ann.seq Ann.leaf (Ann.loop ⟨Nat,fun k=>k≤a.length∧a.take k=b.take k,fun k=>⟨[(0,AV.one (Cl.d (dS a.length (ops a)))),(1,AV.one (Cl.d (dS b.length (ops b)))),(5,aJ (((k:Int))))],[]⟩,fun k=>a.length - k⟩ fun k=>Ann.leaf)) Ann.leaf)))
theorem zGk (a:List Oq) (b:List Oq):vcg Try.prog jJS 26 (zQl Try.f51) (zJA a b) kn0 (zQN [RV.d (DV.sl a.length (ops a)),RV.d (DV.sl b.length (ops b))]) (post Try.prog Try.f51.results.toList (·=RV.d (DV.bool (decide (zQp (ops a)=zQp (ops b)))))) =
  (let zz0:=(dQ (decide (zQp (ops a)=zQp (ops b)))); let zz1:=fun (k:Nat)=>(k≤a.length∧a.take k=b.take k); let zz2:=(dS a.length (ops a)=dS a.length (ops a)); let zz3:=(dS b.length (ops b)=dS b.length (ops b)); tU6 (((((a.length:Int) != (b.length:Int))=true→True∧RV.d (dQ false)=RV.d zz0)∧(((a.length:Int) != (b.length:Int))=false→True∧((∃ k:Nat,(zz1 k)∧((zz2∧zz3∧(dJ 0=dJ (k:Int))∧True)∧(True)))∧∀ k:Nat,(zz1 k)→tU4 ((((decide ((k:Int) < (a.length:Int)))=true→tU2 ((0≤(k:Int)∧(k:Int) < (a.length:Int)∧(k:Int).toNat*12 < (ops a).length)∧((oqQr (ops a) ((k:Int).toNat*12)))∧tU2 ((0≤(k:Int)∧(k:Int) < (b.length:Int)∧(k:Int).toNat*12 < (ops b).length)∧((oqQr (ops b) ((k:Int).toNat*12)))∧True∧(true=true)∧(((!(((nAt (ops a) ((k:Int).toNat*12))==(nAt (ops b) ((k:Int).toNat*12))) && (((nAt (ops a) ((k:Int).toNat*12+1))==(nAt (ops b) ((k:Int).toNat*12+1))) && (((nAt (ops a) ((k:Int).toNat*12+1+1))==(nAt (ops b) ((k:Int).toNat*12+1+1))) && (((nAt (ops a) ((k:Int).toNat*12+1+1+1))==(nAt (ops b) ((k:Int).toNat*12+1+1+1))) && (((nAt (ops a) ((k:Int).toNat*12+1+1+1+1))==(nAt (ops b) ((k:Int).toNat*12+1+1+1+1))) && (((nAt (ops a) ((k:Int).toNat*12+1+1+1+1+1))==(nAt (ops b) ((k:Int).toNat*12+1+1+1+1+1))) && (((nAt (ops a) ((k:Int).toNat*12+1+1+1+1+1+1))==(nAt (ops b) ((k:Int).toNat*12+1+1+1+1+1+1))) && (((nAt (ops a) ((k:Int).toNat*12+1+1+1+1+1+1+1))==(nAt (ops b) ((k:Int).toNat*12+1+1+1+1+1+1+1))) && (((nAt (ops a) ((k:Int).toNat*12+1+1+1+1+1+1+1+1))==(nAt (ops b) ((k:Int).toNat*12+1+1+1+1+1+1+1+1))) && (((nAt (ops a) ((k:Int).toNat*12+1+1+1+1+1+1+1+1+1))==(nAt (ops b) ((k:Int).toNat*12+1+1+1+1+1+1+1+1+1))) && (((bAt (ops a) ((k:Int).toNat*12+1+1+1+1+1+1+1+1+1+1))==(bAt (ops b) ((k:Int).toNat*12+1+1+1+1+1+1+1+1+1+1))) && (((bAt (ops a) ((k:Int).toNat*12+1+1+1+1+1+1+1+1+1+1+1))==(bAt (ops b) ((k:Int).toNat*12+1+1+1+1+1+1+1+1+1+1+1))) && true)))))))))))))=true→True∧RV.d (dQ false)=RV.d zz0)∧((!(((nAt (ops a) ((k:Int).toNat*12))==(nAt (ops b) ((k:Int).toNat*12))) && (((nAt (ops a) ((k:Int).toNat*12+1))==(nAt (ops b) ((k:Int).toNat*12+1))) && (((nAt (ops a) ((k:Int).toNat*12+1+1))==(nAt (ops b) ((k:Int).toNat*12+1+1))) && (((nAt (ops a) ((k:Int).toNat*12+1+1+1))==(nAt (ops b) ((k:Int).toNat*12+1+1+1))) && (((nAt (ops a) ((k:Int).toNat*12+1+1+1+1))==(nAt (ops b) ((k:Int).toNat*12+1+1+1+1))) && (((nAt (ops a) ((k:Int).toNat*12+1+1+1+1+1))==(nAt (ops b) ((k:Int).toNat*12+1+1+1+1+1))) && (((nAt (ops a) ((k:Int).toNat*12+1+1+1+1+1+1))==(nAt (ops b) ((k:Int).toNat*12+1+1+1+1+1+1))) && (((nAt (ops a) ((k:Int).toNat*12+1+1+1+1+1+1+1))==(nAt (ops b) ((k:Int).toNat*12+1+1+1+1+1+1+1))) && (((nAt (ops a) ((k:Int).toNat*12+1+1+1+1+1+1+1+1))==(nAt (ops b) ((k:Int).toNat*12+1+1+1+1+1+1+1+1))) && (((nAt (ops a) ((k:Int).toNat*12+1+1+1+1+1+1+1+1+1))==(nAt (ops b) ((k:Int).toNat*12+1+1+1+1+1+1+1+1+1))) && (((bAt (ops a) ((k:Int).toNat*12+1+1+1+1+1+1+1+1+1+1))==(bAt (ops b) ((k:Int).toNat*12+1+1+1+1+1+1+1+1+1+1))) && (((bAt (ops a) ((k:Int).toNat*12+1+1+1+1+1+1+1+1+1+1+1))==(bAt (ops b) ((k:Int).toNat*12+1+1+1+1+1+1+1+1+1+1+1))) && true)))))))))))))=false→tU3 (∃ k':Nat,(k'≤a.length∧a.take k'=b.take k')∧(a.length - k' < a.length - k)∧((zz2∧zz3∧(dJ (wK ((k:Int)+(1:Int)))=dJ (k':Int))∧True)∧(True))))))))∧((decide ((k:Int) < (a.length:Int)))=false→True∧RV.d (dQ true)=RV.d zz0)))))))):=by kernel_rfl
theorem zUW (a:List Oq) (b:List Oq):Ans Try.prog 51 [RV.d (DV.sl a.length (ops a)),RV.d (DV.sl b.length (ops b))] (RV.d (DV.bool (decide (zQp (ops a)=zQp (ops b))))):=
  zQf (Γ:=jJS) (zJA a b) zQq Try.func51 rfl (Nat.le_of_ble_eq_true rfl) fun hwf=>by
    refine Eq.mpr (zGk a b) ?_
    delta tU2 tU3 tU4 tU6 dJ dQ wK dS
    simp only [true_and,and_true,RV.d.injEq,RV.agg.injEq,RV.tup.injEq,DV.bool.injEq,DV.int.injEq,DV.sl.injEq,List.cons.injEq,forall_const,Bool.not_false,Bool.not_true,Bool.not_eq_true',Bool.not_eq_false',decide_eq_true_eq,decide_eq_false_iff_not,Int.toNat_natCast,oqQr]
    have hil:a.length≤9223372036854775807∧b.length≤9223372036854775807:=by
      simp only [RV.wfs,RV.wf,DV.wf,maxLen] at hwf
      omega
    clear hwf
    simp only [zXu]
    refine ⟨fun h=>?_,fun h=>⟨⟨0,⟨Nat.zero_le _,by simp⟩,rfl⟩,fun k hk=>⟨fun hlt=>?_,fun hge=>?_⟩⟩⟩
    · have h:a.length≠b.length:=by simp at h; omega
      exact (decide_eq_false (fun e=>h (congrArg List.length e))).symm
    · obtain ⟨k1,k2⟩:=hk
      have hl:a.length=b.length:=by simp at h; omega
      have ha:k < a.length:=by omega
      have hb:k < b.length:=by omega
      have q1:=zVT ha
      have q2:=zUc ha
      have r1:=zVT hb
      have r2:=zUc hb
      have w1:IntKind.wrap .i64 ((k:Int)+1)=((k+1:Nat):Int):=by rw [IntWalk.i64_in _ ⟨by omega,by omega⟩]; omega
      simp only [q2,r2,w1]
      simp only [jVy]
      refine ⟨⟨by omega,by omega,by rw [zQY]; omega⟩,q1,⟨by omega,by omega,by rw [zQY]; omega⟩,r1,fun e=>?_,fun e=>⟨k+1,⟨by omega,jKy ha hb k2 (by simpa using e)⟩,by omega,rfl⟩⟩
      exact (decide_eq_false (jV0 ha hb (by simpa using e))).symm
    · obtain ⟨k1,k2⟩:=hk
      have hl:a.length=b.length:=by simp at h; omega
      have:k=a.length:=by omega
      subst this
      exact (decide_eq_true (jVr hl k2)).symm
def zVg (s:Scr) (t:Scr):Ann:=(Ann.seq Ann.leaf (Ann.seq Ann.leaf (Ann.seq (Ann.seq Ann.leaf (Ann.loop ⟨Nat,fun k=>k≤s.ims.length∧eqTo s.ims t.ims k=true,fun k=>⟨[(2,AV.one (Cl.ptr 2 0)),(3,AV.one (Cl.ptr 3 0)),(5,aJ (((k:Int))))],[(2,bC [cJ (s.bits),cJ (s.c.a),cJ (s.c.b),cJ (s.c.c),cJ (s.c.d),cJ (s.tw),cJ (s.th),Cl.d (dS s.ord.length (is s.ord)),Cl.d (dS s.ims.length (ims s.ims)),Cl.d (dS s.ops.length (ops s.ops))]),(3,bC [cJ (t.bits),cJ (t.c.a),cJ (t.c.b),cJ (t.c.c),cJ (t.c.d),cJ (t.tw),cJ (t.th),Cl.d (dS t.ord.length (is t.ord)),Cl.d (dS t.ims.length (ims t.ims)),Cl.d (dS t.ops.length (ops t.ops))])]⟩,fun k=>s.ims.length - k⟩ fun k=>Ann.leaf)) Ann.leaf)))
theorem jQQ (s:Scr) (t:Scr):vcg Try.prog jJS 91 (zQl Try.f21) (zVg s t) kn0 (zQN [RV.agg [DV.int .i64 s.bits,DV.int .i64 s.c.a,DV.int .i64 s.c.b,DV.int .i64 s.c.c,DV.int .i64 s.c.d,DV.int .i64 s.tw,DV.int .i64 s.th,DV.sl s.ord.length (is s.ord),DV.sl s.ims.length (ims s.ims),DV.sl s.ops.length (ops s.ops)],RV.agg [DV.int .i64 t.bits,DV.int .i64 t.c.a,DV.int .i64 t.c.b,DV.int .i64 t.c.c,DV.int .i64 t.c.d,DV.int .i64 t.tw,DV.int .i64 t.th,DV.sl t.ord.length (is t.ord),DV.sl t.ims.length (ims t.ims),DV.sl t.ops.length (ops t.ops)]]) (post Try.prog Try.f21.results.toList (·=RV.d (DV.bool (eqS s (⟨t.bits,⟨t.c.a,t.c.b,t.c.c,t.c.d⟩,t.tw,t.th,ints (is t.ord),zQv (ims t.ims),zQp (ops t.ops)⟩:Scr))))) =
  (let zz0:=fun (k:Nat)=>(k≤s.ims.length∧eqTo s.ims t.ims k=true); let zz1:=[dJ s.bits,dJ s.c.a,dJ s.c.b,dJ s.c.c,dJ s.c.d,dJ s.tw,dJ s.th,dS s.ord.length (is s.ord),dS s.ims.length (ims s.ims),dS s.ops.length (ops s.ops)]; let zz2:=[dJ t.bits,dJ t.c.a,dJ t.c.b,dJ t.c.c,dJ t.c.d,dJ t.tw,dJ t.th,dS t.ord.length (is t.ord),dS t.ims.length (ims t.ims),dS t.ops.length (ops t.ops)]; let zz3:=((zz1=zz1)∧(zz2=zz2)∧True); let zz4:=fun (k:Nat)=>(0≤(k:Int)∧(k:Int) < (s.ims.length:Int)∧(k:Int).toNat*28 < (ims s.ims).length); let zz5:=fun (k:Nat)=>(0≤(k:Int)∧(k:Int) < (t.ims.length:Int)∧(k:Int).toNat*28 < (ims t.ims).length); True∧tU8 ((((s.bits != t.bits)=false→tU7 ((((!((s.c.a==t.c.a) && ((s.c.b==t.c.b) && ((s.c.c==t.c.c) && ((s.c.d==t.c.d) && true)))))=false→tU7 ((((s.tw != t.tw)=false→tU7 ((((s.th != t.th)=false→tU4 ((Ans Try.prog 50 [RV.d (dS s.ord.length (is s.ord)),RV.d (dS t.ord.length (is t.ord))] (RV.d (dQ (decide (ints ((is s.ord))=ints ((is t.ord)))))))∧tU3 ((((!(decide (ints ((is s.ord))=ints ((is t.ord)))))=false→True∧tU8 (((((s.ims.length:Int) != (t.ims.length:Int))=false→tU4 ((Ans Try.prog 51 [RV.d (dS s.ops.length (ops s.ops)),RV.d (dS t.ops.length (ops t.ops))] (RV.d (dQ (decide (zQp ((ops s.ops))=zQp ((ops t.ops)))))))∧tU2 ((((!(decide (zQp ((ops s.ops))=zQp ((ops t.ops)))))=true→True∧RV.d (dQ false)=RV.d (dQ (eqS s (⟨t.bits,t.c,t.tw,t.th,ints (is t.ord),zQv (ims t.ims),zQp (ops t.ops)⟩:Scr))))∧((!(decide (zQp ((ops s.ops))=zQp ((ops t.ops)))))=false→True∧((∃ k:Nat,(zz0 k)∧(((0=0)∧(0=0)∧(dJ 0=dJ (k:Int))∧True)∧zz3))∧∀ k:Nat,(zz0 k)→tU5 ((((decide ((k:Int) < (s.ims.length:Int)))=true→tU3 ((zz4 k)∧True∧(((ims s.ims)[(k:Int).toNat*28+2]?=some (dQ (bAt (ims s.ims) ((k:Int).toNat*28+2))))∧True)∧tU3 ((zz5 k)∧True∧(((ims t.ims)[(k:Int).toNat*28+2]?=some (dQ (bAt (ims t.ims) ((k:Int).toNat*28+2))))∧True)∧tU2 ((((!((bAt (ims s.ims) ((k:Int).toNat*28+2))==(bAt (ims t.ims) ((k:Int).toNat*28+2))))=false→tU3 ((zz4 k)∧((imQr (ims s.ims) ((k:Int).toNat*28)))∧tU3 ((zz5 k)∧((imQr (ims t.ims) ((k:Int).toNat*28)))∧(Ans Try.prog 52 [imR (imQ (ims s.ims) ((k:Int).toNat*28)),imR (imQ (ims t.ims) ((k:Int).toNat*28))] (RV.d (dQ (Im.equal (imQ (ims s.ims) ((k:Int).toNat*28)) (imQ (ims t.ims) ((k:Int).toNat*28))))))∧tU2 ((true=true)∧(((!(Im.equal (imQ (ims s.ims) ((k:Int).toNat*28)) (imQ (ims t.ims) ((k:Int).toNat*28))))=true→True∧RV.d (dQ false)=RV.d (dQ (eqS s (⟨t.bits,t.c,t.tw,t.th,ints (is t.ord),zQv (ims t.ims),zQp (ops t.ops)⟩:Scr))))∧((!(Im.equal (imQ (ims s.ims) ((k:Int).toNat*28)) (imQ (ims t.ims) ((k:Int).toNat*28))))=false→tU3 (∃ k':Nat,(k'≤s.ims.length∧eqTo s.ims t.ims k'=true)∧(s.ims.length - k' < s.ims.length - k)∧(((0=0)∧(0=0)∧(dJ (wK ((k:Int)+(1:Int)))=dJ (k':Int))∧True)∧zz3))))))))∧((!((bAt (ims s.ims) ((k:Int).toNat*28+2))==(bAt (ims t.ims) ((k:Int).toNat*28+2))))=(!false)→True∧(true=true)∧True∧RV.d (dQ false)=RV.d (dQ (eqS s (⟨t.bits,t.c,t.tw,t.th,ints (is t.ord),zQv (ims t.ims),zQp (ops t.ops)⟩:Scr)))))))))∧((decide ((k:Int) < (s.ims.length:Int)))=false→True∧RV.d (dQ true)=RV.d (dQ (eqS s (⟨t.bits,t.c,t.tw,t.th,ints (is t.ord),zQv (ims t.ims),zQp (ops t.ops)⟩:Scr))))))))))))∧(((s.ims.length:Int) != (t.ims.length:Int))=(!false)→tU2 (RV.d (dQ false)=RV.d (dQ (eqS s (⟨t.bits,t.c,t.tw,t.th,ints (is t.ord),zQv (ims t.ims),zQp (ops t.ops)⟩:Scr))))))))∧((!(decide (ints ((is s.ord))=ints ((is t.ord)))))=(!false)→tU4 (RV.d (dQ false)=RV.d (dQ (eqS s (⟨t.bits,t.c,t.tw,t.th,ints (is t.ord),zQv (ims t.ims),zQp (ops t.ops)⟩:Scr)))))))))∧((s.th != t.th)=(!false)→tU6 (RV.d (dQ false)=RV.d (dQ (eqS s (⟨t.bits,t.c,t.tw,t.th,ints (is t.ord),zQv (ims t.ims),zQp (ops t.ops)⟩:Scr))))))))∧((s.tw != t.tw)=(!false)→tU8 (RV.d (dQ false)=RV.d (dQ (eqS s (⟨t.bits,t.c,t.tw,t.th,ints (is t.ord),zQv (ims t.ims),zQp (ops t.ops)⟩:Scr))))))))∧((!((s.c.a==t.c.a) && ((s.c.b==t.c.b) && ((s.c.c==t.c.c) && ((s.c.d==t.c.d) && true)))))=(!false)→tU2 (tU8 (RV.d (dQ false)=RV.d (dQ (eqS s (⟨t.bits,t.c,t.tw,t.th,ints (is t.ord),zQv (ims t.ims),zQp (ops t.ops)⟩:Scr)))))))))∧((s.bits != t.bits)=(!false)→tU4 (tU8 (RV.d (dQ false)=RV.d (dQ (eqS s (⟨t.bits,t.c,t.tw,t.th,ints (is t.ord),zQv (ims t.ims),zQp (ops t.ops)⟩:Scr))))))))):=by kernel_rfl
theorem zHO (s:Scr) (t:Scr) (hM:∀ m∈s.ims,m.isU) (hN:∀ m∈t.ims,m.isU):Ans Try.prog 21 [RV.agg [DV.int .i64 s.bits,DV.int .i64 s.c.a,DV.int .i64 s.c.b,DV.int .i64 s.c.c,DV.int .i64 s.c.d,DV.int .i64 s.tw,DV.int .i64 s.th,DV.sl s.ord.length (is s.ord),DV.sl s.ims.length (ims s.ims),DV.sl s.ops.length (ops s.ops)],RV.agg [DV.int .i64 t.bits,DV.int .i64 t.c.a,DV.int .i64 t.c.b,DV.int .i64 t.c.c,DV.int .i64 t.c.d,DV.int .i64 t.tw,DV.int .i64 t.th,DV.sl t.ord.length (is t.ord),DV.sl t.ims.length (ims t.ims),DV.sl t.ops.length (ops t.ops)]] (RV.d (DV.bool (eqS s (⟨t.bits,⟨t.c.a,t.c.b,t.c.c,t.c.d⟩,t.tw,t.th,ints (is t.ord),zQv (ims t.ims),zQp (ops t.ops)⟩:Scr)))):=
  zQf (Γ:=jJS) (zVg s t) zQq Try.func21 rfl (Nat.le_of_ble_eq_true rfl) fun hwf=>by
    refine Eq.mpr (jQQ s t) ?_
    delta tU2 tU3 tU4 tU5 tU6 tU7 tU8 dJ dQ wK dS
    simp only [true_and,and_true,RV.d.injEq,RV.agg.injEq,RV.tup.injEq,DV.bool.injEq,DV.int.injEq,DV.sl.injEq,List.cons.injEq,forall_const,Bool.not_false,Bool.not_true,Bool.not_eq_true',Bool.not_eq_false',decide_eq_true_eq,decide_eq_false_iff_not,Int.toNat_natCast,imQ,imQr]
    have a1:=zWr s.ord.length (is s.ord) t.ord.length (is t.ord) (jKl rfl) (jKl rfl)
    have a3:=zUW s.ops t.ops
    have hil:s.ims.length≤9223372036854775807:=by
      simp only [RV.wfs,RV.wf,DV.wf,DV.wfs,maxLen] at hwf
      omega
    have eS:(⟨t.bits,t.c,t.tw,t.th,t.ord,t.ims,t.ops⟩:Scr)=t:=rfl
    clear hwf
    simp only [zZo,zXM,zXu,eS] at a1 a3 ⊢
    have E:=jVd s t
    refine ⟨fun h1=>⟨fun h2=>⟨fun h3=>⟨fun h4=>⟨a1,fun h5=>⟨fun h6=>⟨a3,fun h7=>?_,fun h7=>⟨⟨0,⟨Nat.zero_le _,by simp [eqTo]⟩,rfl⟩,fun k hk=>⟨fun hlt=>?_,fun hge=>?_⟩⟩⟩,fun h6=>?_⟩,fun h5=>?_⟩,fun h4=>?_⟩,fun h3=>?_⟩,fun h2=>?_⟩,fun h1=>?_⟩
    · rw [E,decide_eq_false h7]; simp
    · obtain ⟨k1,k2⟩:=hk
      have hl:s.ims.length=t.ims.length:=by simp at h6; omega
      have ha:k < s.ims.length:=by omega
      have hb:k < t.ims.length:=by omega
      have q1:=zVX ha
      have q2:=zVY ha
      have r1:=zVX hb
      have r2:=zVY hb
      have q3:bAt (ims s.ims) (k*28+2)=s.ims[k].so:=q2.2.2.1
      have r3:bAt (ims t.ims) (k*28+2)=t.ims[k].so:=r2.2.2.1
      have q4:(ims s.ims)[k*28+2]?=some (DV.bool s.ims[k].so):=q1.2.2.1
      have r4:(ims t.ims)[k*28+2]?=some (DV.bool t.ims[k].so):=r1.2.2.1
      have w1:IntKind.wrap .i64 ((k:Int)+1)=((k+1:Nat):Int):=by rw [IntWalk.i64_in _ ⟨by omega,by omega⟩]; omega
      have e1:=zVm s.ims[k] t.ims[k] (hM _ (List.getElem_mem ha)) (hN _ (List.getElem_mem hb))
      have bad:eqI s.ims[k] t.ims[k]=false→false=eqS s t:=fun h=>by
        have:zGh s.ims t.ims=false:=by unfold zGh; rw [jJY ha hb h,Bool.and_false]
        rw [E,this]; simp
      simp only [q2,r2,q3,r3,w1]
      have B1:(0:Int)≤(k:Int)∧(k:Int) < (s.ims.length:Int)∧k*28 < (ims s.ims).length:=⟨by omega,by omega,by rw [zZk]; omega⟩
      have B2:(0:Int)≤(k:Int)∧(k:Int) < (t.ims.length:Int)∧k*28 < (ims t.ims).length:=⟨by omega,by omega,by rw [zZk]; omega⟩
      refine ⟨B1,q4,B2,r4,fun h8=>⟨B1,q1,B2,r1,e1,fun h9=>bad ?_,fun h9=>⟨k+1,⟨by omega,jY8 ha hb k2 ?_⟩,by omega,rfl⟩⟩,fun h8=>bad ?_⟩
      · have h9:s.ims[k].equal t.ims[k]=false:=h9
        unfold eqI; rw [h9,Bool.and_false]
      · have h9:s.ims[k].equal t.ims[k]=true:=h9
        unfold eqI; rw [h9,h8]; rfl
      · unfold eqI; rw [h8,Bool.false_and]
    · obtain ⟨k1,k2⟩:=hk
      have hl:s.ims.length=t.ims.length:=by simp at h6; omega
      have:k=s.ims.length:=by omega
      subst this
      have h8:zGh s.ims t.ims=true:=by unfold zGh; rw [k2,decide_eq_true hl]; rfl
      have h1:(s.bits==t.bits)=true:=by simpa using h1
      have h3:(s.tw==t.tw)=true:=by simpa using h3
      have h4:(s.th==t.th)=true:=by simpa using h4
      rw [E,h1,h2,h3,h4,h8,decide_eq_true h5,decide_eq_true h7]; rfl
    · have hl:s.ims.length≠t.ims.length:=by simp at h6; omega
      have:zGh s.ims t.ims=false:=by unfold zGh; rw [decide_eq_false hl]; rfl
      rw [E,this]; simp
    · rw [E,decide_eq_false h5]; simp
    · have h4:(s.th==t.th)=false:=by simpa using h4
      rw [E,h4]; simp
    · have h3:(s.tw==t.tw)=false:=by simpa using h3
      rw [E,h3]; simp
    · rw [E,h2]; simp
    · have h1:(s.bits==t.bits)=false:=by simpa using h1
      rw [E,h1]; simp
end Go.Proofs.Ytlnfgagmiogkgaa
namespace Go.Proofs.Ytlnfgagmiogkgaa
open Go.RowKit
set_option linter.unusedVariables false
set_option linter.unusedSimpArgs false
theorem zUO {α:Type} {a b:α} {x y:List α} (h:a=b) (h2:x=y):a::x=b::y:=by rw [h,h2]
theorem zQQ {L rest:List Int} {d n:Nat} {v:Int} (h:L.drop d=beI n v++rest):L.drop (d+n)=rest:=by
  rw [← List.drop_drop,h,List.drop_left' (zQF v n)]
def pxIn (p:Px):Prop:=(0≤p.a∧p.a≤65535)∧(0≤p.b∧p.b≤65535)∧(0≤p.c∧p.c≤65535)∧(0≤p.al∧p.al≤65535)∧(0≤p.f∧p.f≤65535)
theorem jZk {p:Px} (x:List Int) (h:pxIn p):rdPx (pxB p++x)=p∧(pxB p++x).drop 10=x:=by
  obtain ⟨a,b,c,al,f⟩:=p
  obtain ⟨h1,h2,h3,h4,h5⟩:=h
  have s0:(pxB ⟨a,b,c,al,f⟩++x).drop 0=beI 2 a++(beI 2 b++(beI 2 c++(beI 2 al++(beI 2 f++x)))):=by
    simp only [pxB,putL,List.flatMap_cons,List.flatMap_nil,List.append_assoc,List.nil_append,List.drop_zero]
  generalize pxB ⟨a,b,c,al,f⟩++x=L at *
  have s2:L.drop 2=_:=zQQ s0
  have s4:L.drop 4=_:=zQQ s2
  have s6:L.drop 6=_:=zQQ s4
  have s8:L.drop 8=_:=zQQ s6
  have s10:L.drop 10=_:=zQQ s8
  refine ⟨?_,s10⟩
  rw [List.drop_zero] at s0
  unfold rdPx
  rw [List.drop_zero,s2,s4,s6,s8,s0,zWH _ h1,zWH _ h2,zWH _ h3,zWH _ h4,zWH _ h5]
theorem jXP (n:Nat) (l:List Int):zZn (n+1) l=rdPx l::zZn n (l.drop 10):=by
  unfold zZn
  rw [List.range_succ_eq_map,List.map_cons,List.map_map]
  refine zUO (by rw [Nat.mul_zero,List.drop_zero]) (List.map_congr_left fun i _=>?_)
  simp only [Function.comp_def,List.drop_drop]
  exact congrArg rdPx (congrArg (fun k=>l.drop k) (by omega))
theorem jZX:∀ (l:List Px) (x:List Int),(∀ p∈l,pxIn p)→zZn l.length (l.flatMap pxB++x)=l∧(l.flatMap pxB++x).drop (10*l.length)=x
  | [],x,_=>⟨rfl,rfl⟩
  | p::l,x,h=>by
    have h1:=jZk (l.flatMap pxB++x) (h p (by simp))
    have ih:=jZX l x fun q hq=>h q (by simp [hq])
    rw [List.flatMap_cons,List.append_assoc,List.length_cons,jXP,h1.1,h1.2,ih.1]
    refine ⟨rfl,?_⟩
    rw [show 10*(l.length+1)=10+10*l.length by omega,← List.drop_drop,h1.2,ih.2]
def opIn (o:Oq):Prop:=opOk o=true∧0≤o.opac∧o.opac≤65535
theorem zJU {lo hi:Int} {l:List Int} (h:fitL lo hi l=true):∀ v∈l,lo≤v∧v≤hi:=fun v hv=>by
  unfold fitL at h
  rw [List.all_eq_true] at h
  exact of_decide_eq_true (h v hv)
theorem jKJ {o:Oq} (x:List Int) (h:opIn o):rdOp (opB o++x)=o∧(opB o++x).drop 24=x∧zZj (opB o++x):=by
  obtain ⟨h,hp⟩:=h
  have hl:24≤(opB o++x).length:=by rw [List.length_append,jYK]; omega
  simp only [opOk,Bool.and_eq_true] at h
  have h1:=zJU h.1
  have h2:=zJU h.2
  have hk:=h1 o.kind (by simp)
  have hi:=h1 o.image (by simp)
  have hm:=h1 o.mask (by simp)
  have ho:=h1 o.oper (by simp)
  have hd:=h1 o.mode (by simp)
  have hx:=h2 o.x (by simp)
  have hy:=h2 o.y (by simp)
  have hmx:=h2 o.mx (by simp)
  have hmy:=h2 o.my (by simp)
  clear h h1 h2
  have hf:0≤zXe o∧zXe o≤3:=by unfold zXe; split <;> split <;> omega
  have hf1:decide (zXe o % 2=1)=o.iso:=by
    unfold zXe; cases o.iso <;> cases o.kno <;> decide
  have hf2:decide (zXe o / 2 % 2=1)=o.kno:=by
    unfold zXe; cases o.iso <;> cases o.kno <;> decide
  have s0:(opB o++x).drop 0=beI 1 o.kind++(beI 1 o.image++(beI 4 o.x++(beI 4 o.y++(beI 1 o.mask++(beI 4 o.mx++(beI 4 o.my++(beI 2 o.opac++(beI 1 o.oper++(beI 1 o.mode++(beI 1 (zXe o)++x)))))))))):=by
    simp only [opB,putL,List.flatMap_cons,List.flatMap_nil,List.append_assoc,List.nil_append,List.drop_zero]
  generalize opB o++x=L at *
  have s1:L.drop 1=_:=zQQ s0
  have s2:L.drop 2=_:=zQQ s1
  have s6:L.drop 6=_:=zQQ s2
  have s10:L.drop 10=_:=zQQ s6
  have s11:L.drop 11=_:=zQQ s10
  have s15:L.drop 15=_:=zQQ s11
  have s19:L.drop 19=_:=zQQ s15
  have s21:L.drop 21=_:=zQQ s19
  have s22:L.drop 22=_:=zQQ s21
  have s23:L.drop 23=_:=zQQ s22
  have s24:L.drop 24=_:=zQQ s23
  have t23:tkV 1 (L.drop 23)=zXe o:=by rw [s23]; exact zKc _ ⟨by omega,by omega⟩
  refine ⟨?_,s24,hl,by rw [t23]; exact hf.2⟩
  rw [List.drop_zero] at s0
  unfold rdOp
  rw [t23,hf1,hf2,List.drop_zero,s1,s2,s6,s10,s11,s15,s19,s21,s22,s0,zKc _ hk,zKc _ hi,zVO _ hx,zVO _ hy,zKc _ hm,zVO _ hmx,zVO _ hmy,zWH _ hp,zKc _ ho,zKc _ hd]
theorem jYJ (n:Nat) (l:List Int):opsL l (n+1)=rdOp l::opsL (l.drop 24) n:=by
  unfold opsL
  rw [List.range_succ_eq_map,List.map_cons,List.map_map]
  refine zUO (by rw [Nat.mul_zero,List.drop_zero]) (List.map_congr_left fun i _=>?_)
  simp only [Function.comp_def,List.drop_drop]
  exact congrArg rdOp (congrArg (fun k=>l.drop k) (by omega))
theorem jZ9:∀ (l:List Oq) (x:List Int),(∀ o∈l,opIn o)→opsL (l.flatMap opB++x) l.length=l∧(l.flatMap opB++x).drop (24*l.length)=x∧∀ i,i < l.length→zZj ((l.flatMap opB++x).drop (24*i))
  | [],x,_=>⟨rfl,rfl,fun i hi=>absurd hi (Nat.not_lt_zero i)⟩
  | p::l,x,h=>by
    have h1:=jKJ (l.flatMap opB++x) (h p (by simp))
    have ih:=jZ9 l x fun q hq=>h q (by simp [hq])
    rw [List.flatMap_cons,List.append_assoc,List.length_cons,jYJ,h1.1,h1.2.1,ih.1]
    refine ⟨rfl,?_,fun i hi=>?_⟩
    · rw [show 24*(l.length+1)=24+24*l.length by omega,← List.drop_drop,h1.2.1,ih.2.1]
    · match i with
      | 0=>exact h1.2.2
      | i+1=>
        rw [show 24*(i+1)=24+24*i by omega,← List.drop_drop,h1.2.1]
        exact ih.2.2 i (by omega)
def imIn (m:Im):Prop:=m.formed=true∧pxIn m.c∧∀ p∈m.pixels,pxIn p
def Im.nrm (m:Im):Im:=if m.so then zQa m.w m.h m.c else imOf m.w m.h m.pixels
theorem jK3 {m:Im} (x:List Int) (h:imIn m):rdIm (imB_ m++x)=m.nrm∧zQ7 (imB_ m++x)=x∧zQT (imB_ m++x):=by
  obtain ⟨hf,hc,hp⟩:=h
  have hfit:=(Im.formed_of hf).1
  have hfl:=zZA hfit
  have hlen:=Im.pixels_len hf
  have hli:=jYY hf
  have hL:((imB_ m++x).length:Int)=zZJ m+x.length:=by rw [List.length_append]; omega
  unfold imB_ at hL ⊢
  unfold zZJ at hL
  by_cases hs:m.so=true
  · rw [if_pos hs] at hL ⊢
    rw [if_pos hs] at hL
    have s0:(putL 1 [1]++putL 4 [m.w,m.h]++pxB m.c++x).drop 0=beI 1 1++(beI 4 m.w++(beI 4 m.h++(pxB m.c++x))):=by
      simp only [putL,List.flatMap_cons,List.flatMap_nil,List.append_assoc,List.nil_append,List.drop_zero]
    generalize putL 1 [1]++putL 4 [m.w,m.h]++pxB m.c++x=L at *
    have s1:L.drop 1=_:=zQQ s0
    have s5:L.drop 5=_:=zQQ s1
    have s9:L.drop 9=_:=zQQ s5
    have s19:L.drop 19=x:=by rw [show 19=9+10 from rfl,← List.drop_drop,s9]; exact (jZk x hc).2
    rw [List.drop_zero] at s0
    have k1:tkV 1 L=1:=by rw [s0]; exact zKc _ ⟨by decide,by decide⟩
    have k2:rdW L=m.w:=by unfold rdW; rw [s1]; exact zVJ _ ⟨by omega,by omega⟩
    have k3:rdH L=m.h:=by unfold rdH; rw [s5]; exact zVJ _ ⟨by omega,by omega⟩
    refine ⟨?_,?_,⟨by omega,by omega,by omega,by omega,by rw [k2,k3]; omega⟩,?_⟩
    · unfold rdIm Im.nrm
      rw [if_pos k1,if_pos hs,k2,k3,s9,(jZk x hc).1]
    · unfold zQ7
      rw [if_pos k1,s19]
    · rw [if_pos k1]; omega
  · rw [if_neg hs] at hL ⊢
    rw [if_neg hs] at hL
    have s0:(putL 1 [0]++putL 4 [m.w,m.h]++m.pixels.flatMap pxB++x).drop 0=beI 1 0++(beI 4 m.w++(beI 4 m.h++(m.pixels.flatMap pxB++x))):=by
      simp only [putL,List.flatMap_cons,List.flatMap_nil,List.append_assoc,List.nil_append,List.drop_zero]
    generalize putL 1 [0]++putL 4 [m.w,m.h]++m.pixels.flatMap pxB++x=L at *
    have s1:L.drop 1=_:=zQQ s0
    have s5:L.drop 5=_:=zQQ s1
    have s9:L.drop 9=_:=zQQ s5
    have hpx:=jZX m.pixels x hp
    rw [List.drop_zero] at s0
    have k1:tkV 1 L=0:=by rw [s0]; exact zKc _ ⟨by decide,by decide⟩
    have k1':¬ tkV 1 L=1:=by omega
    have k2:rdW L=m.w:=by unfold rdW; rw [s1]; exact zVJ _ ⟨by omega,by omega⟩
    have k3:rdH L=m.h:=by unfold rdH; rw [s5]; exact zVJ _ ⟨by omega,by omega⟩
    have k4:rdN L=m.pixels.length:=by unfold rdN; rw [k2,k3]; omega
    refine ⟨?_,?_,⟨by omega,by omega,by omega,by omega,by rw [k2,k3]; omega⟩,?_⟩
    · unfold rdIm Im.nrm
      rw [if_neg k1',if_neg hs,k2,k3,k4,s9,hpx.1]
    · unfold zQ7
      rw [if_neg k1',k4,← List.drop_drop,s9,hpx.2]
    · rw [if_neg k1',k4]; omega
theorem zVy (l:List Int):∀ k,imsT l (k+1)=(rdIm l::(imsT (zQ7 l) k).1,(imsT (zQ7 l) k).2)
  | 0=>rfl
  | k+1=>by
    have ih:=zVy l k
    rw [imsT,ih]
    rfl
theorem jXk:∀ (l:List Im) (x:List Int),(∀ m∈l,imIn m)→imsT (l.flatMap imB_++x) l.length=(l.map Im.nrm,x)∧∀ i,i < l.length→zQT (imsT (l.flatMap imB_++x) i).2
  | [],x,_=>⟨rfl,fun i hi=>absurd hi (Nat.not_lt_zero i)⟩
  | m::l,x,h=>by
    have h1:=jK3 (l.flatMap imB_++x) (h m (by simp))
    have ih:=jXk l x fun q hq=>h q (by simp [hq])
    rw [List.flatMap_cons,List.append_assoc,List.length_cons,zVy,h1.1,h1.2.1,ih.1]
    refine ⟨rfl,fun i hi=>?_⟩
    match i with
    | 0=>exact h1.2.2
    | i+1=>
      rw [zVy,h1.2.1]
      exact ih.2 i (by omega)
theorem jZ4 (L:List Int):∀ (o:List Int) (d:Nat) (y:List Int),L.drop d=putL 4 o++y→(∀ v∈o,0≤v∧v≤4294967295)→(List.range o.length).map (fun i=>tkV 4 (L.drop (d+4*i)))=o∧L.drop (d+4*o.length)=y
  | [],d,y,h,_=>⟨rfl,h⟩
  | v::o,d,y,h,hv=>by
    have h0:L.drop d=beI 4 v++(putL 4 o++y):=by
      rw [h]
      simp only [putL,List.flatMap_cons,List.append_assoc]
    have ih:=jZ4 L o (d+4) y (zQQ h0) fun u hu=>hv u (by simp [hu])
    rw [List.length_cons]
    refine ⟨?_,by rw [show d+4*(o.length+1)=d+4+4*o.length by omega]; exact ih.2⟩
    rw [List.range_succ_eq_map,List.map_cons,List.map_map]
    refine zUO (by rw [Nat.mul_zero,Nat.add_zero,h0]; exact zVJ _ (hv v (by simp))) (Eq.trans (List.map_congr_left fun i _=>?_) ih.1)
    simp only [Function.comp_def]
    exact congrArg (fun k=>tkV 4 (L.drop k)) (by omega)
structure Scr.inR (s:Scr):Prop where
  ok:zQO s=true
  im:∀ m∈s.ims,imIn m
  op:∀ o∈s.ops,0≤o.opac∧o.opac≤65535
def Scr.norm (s:Scr):Scr:=⟨s.bits,s.c,s.tw,s.th,s.ord,s.ims.map Im.nrm,s.ops⟩
theorem jYX:∀ l:List Im,9*l.length≤(l.flatMap imB_).length
  | []=>by simp
  | m::l=>by
    have h1:=jYX l
    have h2:9≤(imB_ m).length:=by
      unfold imB_
      split <;> simp only [List.length_append,zQI,List.length_cons,List.length_nil] <;> omega
    rw [List.flatMap_cons,List.length_append,List.length_cons]
    omega
theorem zVa {s:Scr} (h:s.ims.all Im.formed=true):((encB s).length:Int)=zZm s s.ims:=by
  have h1:=zJT h
  have h2:=zWA s.ops
  unfold encB zZm
  simp only [List.length_append,zQI,List.length_cons,List.length_nil]
  omega
theorem jQk {s:Scr} (h:s.inR) (x:List Int):hd4P (encB s++x) (n3P (encB s++x))∧(bDP (encB s++x)).drop (24*n3P (encB s++x))=x∧zQj (encB s++x)=s.norm∧n2P (encB s++x)=s.ims.length∧n3P (encB s++x)=s.ops.length:=by
  obtain ⟨ok,him,hop⟩:=h
  have ok0:=ok
  simp only [zQO,zXI,Bool.and_eq_true,decide_eq_true_eq] at ok
  obtain ⟨⟨⟨⟨⟨⟨⟨⟨o1,o2⟩,o3⟩,o4⟩,o5⟩,o6⟩,o7⟩,o8⟩,o9⟩:=ok
  have f1:=zJU o1 s.bits (by simp)
  have f2:=zJU o2
  have f3:=zJU o3
  have f4:=zJU o4
  have ca:=f2 s.c.a (by simp)
  have cb:=f2 s.c.b (by simp)
  have cc:=f2 s.c.c (by simp)
  have cd:=f2 s.c.d (by simp)
  have ctw:=f3 s.tw (by simp)
  have cth:=f3 s.th (by simp)
  have hel:=zVa o7
  have hol:s.ord.length≤16777216:=by
    have:=zJT o7
    unfold zZm at o9
    omega
  have hops:∀ o∈s.ops,opIn o:=fun o ho=>⟨List.all_eq_true.1 o8 o ho,hop o ho⟩
  have R3:=jZ9 s.ops x hops
  have l3:=zWA s.ops
  have l2:=jYX s.ims
  have R2:=jXk s.ims (beI 2 (s.ops.length:Int)++(s.ops.flatMap opB++x)) him
  have s0:(encB s++x)=[76,67]++(beI 1 s.bits++(beI 4 s.c.a++(beI 4 s.c.b++(beI 4 s.c.c++(beI 4 s.c.d++(beI 4 s.tw++(beI 4 s.th++(beI 4 (s.ord.length:Int)++(putL 4 s.ord++(beI 1 (s.ims.length:Int)++(s.ims.flatMap imB_++(beI 2 (s.ops.length:Int)++(s.ops.flatMap opB++x))))))))))))):=by
    simp only [encB,putL,List.flatMap_cons,List.flatMap_nil,List.append_assoc,List.nil_append,List.cons_append]
  have hLL:31≤(encB s++x).length:=by
    have:=zJT o7
    unfold zZm at hel
    rw [List.length_append]
    omega
  generalize encB s++x=L at *
  have k0:tkV 1 L=76:=by rw [s0]; exact tk1 _ _
  have k1:tkV 1 (L.drop 1)=67:=by rw [s0]; exact tk1 _ _
  have s2:L.drop 2=beI 1 s.bits++(beI 4 s.c.a++(beI 4 s.c.b++(beI 4 s.c.c++(beI 4 s.c.d++(beI 4 s.tw++(beI 4 s.th++(beI 4 (s.ord.length:Int)++(putL 4 s.ord++(beI 1 (s.ims.length:Int)++(s.ims.flatMap imB_++(beI 2 (s.ops.length:Int)++(s.ops.flatMap opB++x)))))))))))):=by rw [s0]; rfl
  clear s0
  have s3:L.drop 3=_:=zQQ s2
  have s7:L.drop 7=_:=zQQ s3
  have s11:L.drop 11=_:=zQQ s7
  have s15:L.drop 15=_:=zQQ s11
  have s19:L.drop 19=_:=zQQ s15
  have s23:L.drop 23=_:=zQQ s19
  have s27:L.drop 27=_:=zQQ s23
  have s31:L.drop 31=_:=zQQ s27
  have R1:=jZ4 L s.ord 31 _ s31 f4
  have t27:tkV 4 (L.drop 27)=(s.ord.length:Int):=by rw [s27]; exact zVJ _ ⟨by omega,by omega⟩
  have e1:n1P L=s.ord.length:=by unfold n1P; rw [t27]; exact Int.toNat_natCast _
  have eA:bAP L=beI 1 (s.ims.length:Int)++(s.ims.flatMap imB_++(beI 2 (s.ops.length:Int)++(s.ops.flatMap opB++x))):=by unfold bAP; rw [e1]; exact R1.2
  have tA:tkV 1 (bAP L)=(s.ims.length:Int):=by rw [eA]; exact zKc _ ⟨by omega,by omega⟩
  have e2:n2P L=s.ims.length:=by unfold n2P; rw [tA]; exact Int.toNat_natCast _
  have eB:bBP L=s.ims.flatMap imB_++(beI 2 (s.ops.length:Int)++(s.ops.flatMap opB++x)):=by
    unfold bBP; rw [eA]; exact List.drop_left' (zQF _ _)
  have eC:bCP L=beI 2 (s.ops.length:Int)++(s.ops.flatMap opB++x):=by unfold bCP; rw [e2,eB,R2.1]
  have tC:tkV 2 (bCP L)=(s.ops.length:Int):=by rw [eC]; exact zWH _ ⟨by omega,by omega⟩
  have e3:n3P L=s.ops.length:=by unfold n3P; rw [tC]; exact Int.toNat_natCast _
  have eD:bDP L=s.ops.flatMap opB++x:=by
    unfold bDP; rw [eC]; exact List.drop_left' (zQF _ _)
  have ln27:(L.drop 27).length=4+(s.ord.length*4+(bAP L).length):=by
    rw [s27,List.length_append,zQF,List.length_append,zQI,eA]
  have lnA:(bAP L).length=1+((s.ims.flatMap imB_).length+(bCP L).length):=by
    rw [eA,List.length_append,zQF,List.length_append,eC]
  have lnC:(bCP L).length=2+(s.ops.length*24+x.length):=by
    rw [eC,List.length_append,zQF,List.length_append,l3]
  refine ⟨⟨⟨⟨⟨by omega,k0,k1⟩,hLL,?_⟩,?_,?_⟩,?_,?_⟩,?_,?_,e2,e3⟩
  · refine ⟨by omega,?_⟩
    rw [t27]
    have:s.ord.length≤((L.drop 27).length - 4) / 4:=(Nat.le_div_iff_mul_le (by omega)).2 (by omega)
    exact_mod_cast this
  · refine ⟨by omega,?_⟩
    rw [tA]
    have:s.ims.length≤((bAP L).length - 1) / 9:=(Nat.le_div_iff_mul_le (by omega)).2 (by omega)
    exact_mod_cast this
  · rw [e2,eB]; exact R2.2
  · refine ⟨by omega,?_⟩
    rw [tC]
    have:s.ops.length≤((bCP L).length - 2) / 24:=(Nat.le_div_iff_mul_le (by omega)).2 (by omega)
    exact_mod_cast this
  · rw [e3,eD]; exact R3.2.2
  · rw [e3,eD]; exact R3.2.1
  · unfold zQj Scr.norm
    have q1:tkV 1 (L.drop 2)=s.bits:=by rw [s2]; exact zKc _ f1
    have q2:sgV (L.drop 3)=s.c.a:=by rw [s3]; exact zVO _ ca
    have q3:sgV (L.drop 7)=s.c.b:=by rw [s7]; exact zVO _ cb
    have q4:sgV (L.drop 11)=s.c.c:=by rw [s11]; exact zVO _ cc
    have q5:sgV (L.drop 15)=s.c.d:=by rw [s15]; exact zVO _ cd
    have q6:tkV 4 (L.drop 19)=s.tw:=by rw [s19]; exact zVJ _ ctw
    have q7:tkV 4 (L.drop 23)=s.th:=by rw [s23]; exact zVJ _ cth
    have q8:ordL L (n1P L)=s.ord:=by rw [e1]; exact R1.1
    have q9:(imsT (bBP L) (n2P L)).1=s.ims.map Im.nrm:=by rw [e2,eB,R2.1]
    have q10:opsL (bDP L) (n3P L)=s.ops:=by rw [e3,eD]; exact R3.1
    rw [q1,q2,q3,q4,q5,q6,q7,q8,q9,q10]
theorem jYA {l:List Int} (hB:isB l):pxIn (rdPx l):=⟨zVK (hB.drop 0),zVK (hB.drop 2),zVK (hB.drop 4),zVK (hB.drop 6),zVK (hB.drop 8)⟩
theorem jKF {l:List Int} (hB:isB l) (h:zQT l):imIn (rdIm l):=by
  obtain ⟨r1,r2,r3,r4,r5,r6⟩:=jYB h
  by_cases hk:tkV 1 l=1
  · have hso:(rdIm l).so=true:=by rw [r4]; exact decide_eq_true hk
    have hc:pxIn (rdIm l).c:=by rw [r5 hk]; exact jYA (hB.drop 9)
    refine ⟨r1,hc,fun p hp=>?_⟩
    rw [Im.pixels_so r1 hso] at hp
    rw [List.eq_of_mem_replicate hp]
    exact hc
  · refine ⟨r1,?_,fun p hp=>?_⟩
    · have hso:(rdIm l).so=false:=by rw [r4]; exact decide_eq_false hk
      have:=(Im.inner_planes (Im.formed_of r1).2 hso).1
      rw [this]
      exact ⟨⟨by decide,by decide⟩,⟨by decide,by decide⟩,⟨by decide,by decide⟩,⟨by decide,by decide⟩,⟨by decide,by decide⟩⟩
    · rw [r6 hk] at hp
      unfold zZn at hp
      obtain ⟨i,_,rfl⟩:=List.mem_map.1 hp
      exact jYA ((hB.drop 9).drop _)
theorem zHw (l:List Int):∀ k,∀ m∈(imsT l k).1,∃ i,i < k∧m=rdIm (imsT l i).2
  | 0,m,hm=>by cases hm
  | k+1,m,hm=>by
    have hm:m∈(imsT l k).1++[rdIm (imsT l k).2]:=hm
    rcases List.mem_append.1 hm with hm | hm
    · obtain ⟨i,hi,e⟩:=zHw l k m hm
      exact ⟨i,by omega,e⟩
    · rw [List.mem_singleton] at hm
      exact ⟨k,by omega,hm⟩
structure readOk (b:List Int):Prop where
  im:∀ i,i < n2P b→zQT (imsT (bBP b) i).2
  len:31+4*n1P b≤b.length
theorem jZ3 {b:List Int} (hB:isB b) (h:∀ i,i < n2P b→zQT (imsT (bBP b) i).2):∀ m∈(zQj b).ims,imIn m:=fun m hm=>by
  obtain ⟨i,hi,rfl⟩:=zHw _ _ m hm
  exact jKF (zJS ((hB.drop _).drop _) i) (h i hi)
theorem jKE {l:List Int} (hB:isB l):opIn (rdOp l):=by
  have a:=zKb (hB.drop 0)
  have b:=zKb (hB.drop 1)
  have c:=zKb (hB.drop 10)
  have d:=zKb (hB.drop 21)
  have e:=zKb (hB.drop 22)
  have f:=zVN (hB.drop 2)
  have g:=zVN (hB.drop 6)
  have i:=zVN (hB.drop 11)
  have j:=zVN (hB.drop 15)
  refine ⟨?_,zVK (hB.drop 19)⟩
  simp only [opOk,rdOp,fitL,List.all_cons,List.all_nil,Bool.and_true,Bool.and_eq_true,decide_eq_true_eq]
  exact ⟨⟨a,b,c,d,e⟩,f,g,i,j⟩
theorem jZ2 {b:List Int} (hB:isB b):∀ o∈(zQj b).ops,opIn o:=fun o ho=>by
  have ho:o∈opsL (bDP b) (n3P b):=ho
  unfold opsL at ho
  obtain ⟨i,_,rfl⟩:=List.mem_map.1 ho
  have hBC:isB (bCP b):=zJS ((hB.drop _).drop _) _
  exact jKE ((hBC.drop _).drop _)
theorem jJA {b:List Int} (hB:isB b) (h1:(zQj b).ims.length≤64) (h2:(zQj b).ops.length≤4096):zXI (zQj b)=true:=by
  have a:=zKb (hB.drop 2)
  have f:=zVN (hB.drop 3)
  have g:=zVN (hB.drop 7)
  have i:=zVN (hB.drop 11)
  have j:=zVN (hB.drop 15)
  have k:=zWG (hB.drop 19)
  have l:=zWG (hB.drop 23)
  simp only [zXI,fitL,List.all_cons,List.all_nil,Bool.and_true,Bool.and_eq_true,decide_eq_true_eq]
  refine ⟨⟨⟨⟨⟨a,f,g,i,j⟩,k,l⟩,?_⟩,h1⟩,h2⟩
  rw [List.all_eq_true]
  intro v hv
  have hv:v∈ordL b (n1P b):=hv
  unfold ordL at hv
  obtain ⟨i,_,rfl⟩:=List.mem_map.1 hv
  exact decide_eq_true (zWG (hB.drop _))
def zXU (b:List Int):Prop:=b.length≤67108864∧zQH b∧(zQj b).ims.length≤64∧(zQj b).ops.length≤4096
theorem jJf {b:List Int} (hB:isB b) (h:zXU b):(zQj b).inR∧encB (zQj b)=b:=by
  obtain ⟨h1,h2,h3,h4⟩:=h
  have e:=jJa hB h2
  have him:=jZ3 hB h2.1.1.2.2
  have hop:=jZ2 hB
  have hf:(zQj b).ims.all Im.formed=true:=List.all_eq_true.2 fun m hm=>(him m hm).1
  refine ⟨⟨?_,him,fun o ho=>(hop o ho).2⟩,e⟩
  have hl:=zVa hf
  rw [e] at hl
  have ho:(zQj b).ops.all opOk=true:=List.all_eq_true.2 fun o ho=>(hop o ho).1
  unfold zQO
  rw [jJA hB h3 h4,hf,ho,decide_eq_true (by omega)]
  rfl
theorem jVe {b:List Int} (hB:isB b) (him:∀ i,i < n2P b→zQT (imsT (bBP b) i).2):(zQO (zQj b)=true∧encB (zQj b)=b)↔zXU b:=by
  refine ⟨fun ⟨h1,h2⟩=>?_,fun h=>⟨(jJf hB h).1.ok,(jJf hB h).2⟩⟩
  have hin:(zQj b).inR:=⟨h1,jZ3 hB him,fun o ho=>(jZ2 hB o ho).2⟩
  have hp:=jQk hin []
  rw [List.append_nil,h2] at hp
  have hE:=zUM h1
  have hl:=zVa hE.fm
  rw [h2] at hl
  have:=hE.sz
  exact ⟨by omega,⟨hp.1,by rw [hp.2.1]; rfl⟩,hE.il,hE.ol⟩
theorem jVf {s:Scr} (h:s.inR):zXU (encB s)∧zQj (encB s)=s.norm:=by
  have hp:=jQk h []
  rw [List.append_nil] at hp
  have hE:=zUM h.ok
  have hl:=zVa hE.fm
  have:=hE.sz
  refine ⟨⟨by omega,⟨hp.1,by rw [hp.2.1]; rfl⟩,?_,?_⟩,hp.2.2.1⟩
  · rw [hp.2.2.1]
    unfold Scr.norm
    simp only [List.length_map]
    exact hE.il
  · rw [hp.2.2.1]
    exact hE.ol
instance (l:List Int):Decidable (zQT l):=by unfold zQT zK6; infer_instance
instance (l:List Int):Decidable (zZj l):=by unfold zZj; infer_instance
instance (b:List Int):Decidable (zQH b):=by unfold zQH hd4P hd3P hd2P hd1P zYt; infer_instance
instance (b:List Int):Decidable (zXU b):=by unfold zXU; infer_instance
def jVo:Scr:=⟨0,⟨0,0,0,0⟩,0,0,[],[],[]⟩
def decR (b:List Int):Scr:=if zXU b then zQj b else jVo
def decE (b:List Int):Int:=if zXU b then 0 else 19
theorem zUN {b:List Int} (h:zXU b):decR b=zQj b∧decE b=0:=by unfold decR decE; rw [if_pos h,if_pos h]; exact ⟨rfl,rfl⟩
theorem zJx {b:List Int} (h:¬ zXU b):decR b=jVo∧decE b=19:=by unfold decR decE; rw [if_neg h,if_neg h]; exact ⟨rfl,rfl⟩
theorem jJe {b:List Int} (h:¬ zXU b) {w w':World} {S:Nat→Prop} (hb:Below w.heap.size w w') :
    ∃ v,Ending.returned (.tuple #[.agg #[.int .i64 0,.int .i64 0,.int .i64 0,.int .i64 0,.int .i64 0,.int .i64 0,.int .i64 0,.slice none 0 0,.slice none 0 0,.slice none 0 0],.int .i64 19])=.returned v∧RepR w' (fun g=>S g∨w.heap.size≤g) (RV.tup [RV.agg (scrD (decR b)),RV.d (.int .i64 (decE b))]) v∧Below w.heap.size w w':=by
  rw [(zJx h).1,(zJx h).2]
  refine ⟨_,rfl,?_,hb⟩
  simp only [RepR,RepRs]
  have hi:∀ n:Int,n=0∨n=19→RepD w' (fun g=>S g∨w.heap.size≤g) (.int .i64 n) (.int .i64 n):=fun n hn=>by
    simp only [RepD,true_and]
    rw [zXk]
    show (-9223372036854775808:Int)≤n∧n≤9223372036854775807
    omega
  have hz:=hi 0 (.inl rfl)
  have hs:RepD w' (fun g=>S g∨w.heap.size≤g) (.sl 0 []) (.slice none 0 0):=by
    simp only [RepD]
    exact ⟨none,0,rfl,Nat.le_refl _,Nat.zero_le _,fun h=>absurd rfl h⟩
  exact ⟨_,rfl,⟨_,rfl,hz,hz,hz,hz,hz,hz,hz,hs,hs,hs,trivial⟩,hi 19 (.inr rfl),trivial⟩
theorem jXw {b:List Int} (h:¬ zXU b) {w:World} {S:Nat→Prop} {f:FuncId} {zs:Array Value}
    (hc:Calls Try.prog f zs w fun e w'=>e=.returned (.tuple #[.agg #[.int .i64 0,.int .i64 0,.int .i64 0,.int .i64 0,.int .i64 0,.int .i64 0,.int .i64 0,.slice none 0 0,.slice none 0 0,.slice none 0 0],.int .i64 19])∧Below w.heap.size w w') :
    Calls Try.prog f zs w fun e w'=>∃ v,e=.returned v∧RepR w' (fun g=>S g∨w.heap.size≤g) (RV.tup [RV.agg (scrD (decR b)),RV.d (.int .i64 (decE b))]) v∧Below w.heap.size w w':=
  hc.mono fun e w' ⟨he,hb⟩=>by rw [he]; exact jJe h hb
theorem zYk (b:List Int):Ans Try.prog 19 [RV.d (.sl b.length (u8s b))] (RV.tup [RV.agg (scrD (decR b)),RV.d (.int .i64 (decE b))]):=by
  intro w S vs hg hr
  obtain ⟨l⟩:=vs
  match l,hr with
  | [v],hr=>
    simp only [RepRs,RepR,and_true] at hr
    have hr0:=hr
    simp only [RepD] at hr
    obtain ⟨A,cap,rfl,_⟩:=hr
    by_cases hL:b.length≤67108864
    · by_cases hp:zQH b
      · refine zHF b A cap w S hg hr0 hL (zQj b) ⟨rfl⟩ hp _ ⟨fun hn w' hb=>?_⟩ ⟨fun hI hO cl e' hv hb=>?_⟩
        · exact jJe (fun h=>hn h.2.2) hb
        · have hd:zXU b:=⟨hL,hp,hI,hO⟩
          rw [(zUN hd).1,(zUN hd).2]
          refine ⟨_,rfl,?_,hb⟩
          simp only [RepR,RepRs]
          refine ⟨_,rfl,⟨_,rfl,hv⟩,?_,trivial⟩
          have hi:RepD e' (fun g=>S g∨w.heap.size≤g) (.int .i64 0) (.int .i64 0):=by
            simp only [RepD,true_and]
            rw [zXk]
            exact ⟨by decide,by decide⟩
          exact hi
      · exact jXw (fun h=>hp h.2.1) (jX6 b A cap w S hg hr0 hL hp)
    · exact jXw (fun h=>hL h.1) (jZG A b.length cap w hL)
end Go.Proofs.Ytlnfgagmiogkgaa
namespace Go.Proofs.Ytlnfgagmiogkgaa
open Go.RowKit
set_option linter.unusedVariables false
set_option linter.unusedSimpArgs false
attribute [local irreducible] Ans AnsO AnsG AnsN AnsI
set_option maxRecDepth 4000
def jVP:Gam where
 pure:=fun f xs=>
  if f=11 then (match xs with | [.agg [.int _ bits,.int _ cx0,.int _ cy0,.int _ cx1,.int _ cy1,.int _ tw,.int _ th,.sl on oxs,.sl mn mxs,.sl pn pxs]]=>some (RV.tup [RV.d (dS ((encS (⟨bits,⟨cx0,cy0,cx1,cy1⟩,tw,th,ints oxs,zQv mxs,zQp pxs⟩:Scr)).1.length) (u8s (encS (⟨bits,⟨cx0,cy0,cx1,cy1⟩,tw,th,ints oxs,zQv mxs,zQp pxs⟩:Scr)).1)),rJ (((encS (⟨bits,⟨cx0,cy0,cx1,cy1⟩,tw,th,ints oxs,zQv mxs,zQp pxs⟩:Scr)).2))]) | _=>none) else
  if f=19 then (match xs with | [.d (.sl n xs)]=>some (RV.tup [RV.agg [dJ ((decR (ints (xs))).bits),dJ ((decR (ints (xs))).c.a),dJ ((decR (ints (xs))).c.b),dJ ((decR (ints (xs))).c.c),dJ ((decR (ints (xs))).c.d),dJ ((decR (ints (xs))).tw),dJ ((decR (ints (xs))).th),dS ((decR (ints (xs))).ord.length) (is (decR (ints (xs))).ord),dS ((decR (ints (xs))).ims.length) (ims (decR (ints (xs))).ims),dS ((decR (ints (xs))).ops.length) (ops (decR (ints (xs))).ops)],rJ ((decE (ints (xs))))]) | _=>none) else
  none
 modes:=fun f=>
  none
 proc:=fun f xs bs=>
  none
 iter:=fun f cs=>
  none
def zKq:Ann:=Ann.leaf
theorem zHZ:vcg Try.prog jVP 32 (zQl Try.f13) (zKq ) kn0 (zQN []) (post Try.prog Try.f13.results.toList (·=RV.d (DV.bool true))) =
  (tU3 ((Ans Try.prog 11 [RV.agg [dJ 8,dJ 0,dJ 0,dJ 1,dJ 1,dJ 1,dJ 1,dS 0 ([]),dS 0 ([]),dS 0 ([])]] (RV.tup [RV.d (dS ((encS (⟨(8:Int),⟨(0:Int),(0:Int),(1:Int),(1:Int)⟩,(1:Int),(1:Int),ints ([]),zQv ([]),zQp ([])⟩:Scr)).1.length) (u8s (encS (⟨(8:Int),⟨(0:Int),(0:Int),(1:Int),(1:Int)⟩,(1:Int),(1:Int),ints ([]),zQv ([]),zQp ([])⟩:Scr)).1)),rJ (((encS (⟨(8:Int),⟨(0:Int),(0:Int),(1:Int),(1:Int)⟩,(1:Int),(1:Int),ints ([]),zQv ([]),zQp ([])⟩:Scr)).2))]))∧tU5 ((Ans Try.prog 19 [RV.d (dS 0 ([]))] (RV.tup [RV.agg [dJ ((decR (ints (([])))).bits),dJ ((decR (ints (([])))).c.a),dJ ((decR (ints (([])))).c.b),dJ ((decR (ints (([])))).c.c),dJ ((decR (ints (([])))).c.d),dJ ((decR (ints (([])))).tw),dJ ((decR (ints (([])))).th),dS ((decR (ints (([])))).ord.length) (is (decR (ints (([])))).ord),dS ((decR (ints (([])))).ims.length) (ims (decR (ints (([])))).ims),dS ((decR (ints (([])))).ops.length) (ops (decR (ints (([])))).ops)],rJ ((decE (ints (([])))))]))∧True∧tU8 ((((((encS (⟨(8:Int),⟨(0:Int),(0:Int),(1:Int),(1:Int)⟩,(1:Int),(1:Int),ints ([]),zQv ([]),zQp ([])⟩:Scr)).2)==(0:Int))=true→tU5 (((((((encS (⟨(8:Int),⟨(0:Int),(0:Int),(1:Int),(1:Int)⟩,(1:Int),(1:Int),ints ([]),zQv ([]),zQp ([])⟩:Scr)).1.length:Nat):Int)==(34:Int))=true→True∧(0≤(0:Int)∧(0:Int)≤(2:Int)∧(2:Int)≤(((encS (⟨(8:Int),⟨(0:Int),(0:Int),(1:Int),(1:Int)⟩,(1:Int),(1:Int),ints ([]),zQv ([]),zQp ([])⟩:Scr)).1.length:Nat):Int))∧(((2:Int) - (0:Int)).toNat=(List.take (((2:Int) - (0:Int)).toNat*1) (List.drop ((0:Int).toNat*1) (u8s (encS (⟨(8:Int),⟨(0:Int),(0:Int),(1:Int),(1:Int)⟩,(1:Int),(1:Int),ints ([]),zQv ([]),zQp ([])⟩:Scr)).1))).length∧zXZ (List.take (((2:Int) - (0:Int)).toNat*1) (List.drop ((0:Int).toNat*1) (u8s (encS (⟨(8:Int),⟨(0:Int),(0:Int),(1:Int),(1:Int)⟩,(1:Int),(1:Int),ints ([]),zQv ([]),zQp ([])⟩:Scr)).1))))∧tU3 (((((strD (List.take (((2:Int) - (0:Int)).toNat*1) (List.drop ((0:Int).toNat*1) (u8s (encS (⟨(8:Int),⟨(0:Int),(0:Int),(1:Int),(1:Int)⟩,(1:Int),(1:Int),ints ([]),zQv ([]),zQp ([])⟩:Scr)).1)))).toList==(⟨#[76,67]⟩:ByteArray).toList)=true→tU4 (RV.d (dQ ((decE (ints (([]))))==(19:Int)))=RV.d (dQ true)))∧(((strD (List.take (((2:Int) - (0:Int)).toNat*1) (List.drop ((0:Int).toNat*1) (u8s (encS (⟨(8:Int),⟨(0:Int),(0:Int),(1:Int),(1:Int)⟩,(1:Int),(1:Int),ints ([]),zQv ([]),zQp ([])⟩:Scr)).1)))).toList==(⟨#[76,67]⟩:ByteArray).toList)=(!true)→tU2 (RV.d (dQ false)=RV.d (dQ true))))))∧(((((encS (⟨(8:Int),⟨(0:Int),(0:Int),(1:Int),(1:Int)⟩,(1:Int),(1:Int),ints ([]),zQv ([]),zQp ([])⟩:Scr)).1.length:Nat):Int)==(34:Int))=(!true)→tU4 (RV.d (dQ false)=RV.d (dQ true))))))∧((((encS (⟨(8:Int),⟨(0:Int),(0:Int),(1:Int),(1:Int)⟩,(1:Int),(1:Int),ints ([]),zQv ([]),zQp ([])⟩:Scr)).2)==(0:Int))=(!true)→tU6 (RV.d (dQ false)=RV.d (dQ true)))))))):=by kernel_rfl
theorem zGp:Ans Try.prog 13 [] (RV.d (DV.bool true)):=
  zQf (Γ:=jVP) (zKq ) zQq Try.func13 rfl (Nat.le_of_ble_eq_true rfl) fun hwf=>by
    refine Eq.mpr (zHZ ) ?_
    delta tU2 tU3 tU4 tU5 tU6 tU8 dJ dQ dS rJ
    simp only [true_and,and_true,RV.d.injEq,RV.agg.injEq,RV.tup.injEq,DV.bool.injEq,DV.int.injEq,DV.sl.injEq,List.cons.injEq,forall_const,Bool.not_false,Bool.not_true,Bool.not_eq_true',Bool.not_eq_false',decide_eq_true_eq,decide_eq_false_iff_not,Int.toNat_natCast]
    have e:=zVr jKz (fun m hm=>by cases hm) (Nat.zero_le _)
    have d:=zYk []
    have hn:¬ zXU []:=fun h=>by
      have:=h.2.1.1.1.1.1.1
      simp at this
    unfold scrD at d
    rw [(zJx hn).1,(zJx hn).2] at d
    have hS:(⟨8,⟨0,0,1,1⟩,1,1,ints [],zQv [],zQp []⟩:Scr)=jKz:=rfl
    have hn0:ints ([]:List DV)=[]:=rfl
    simp only [hS]
    simp only [hn0,(zJx hn).1,(zJx hn).2]
    refine ⟨e,d,?_⟩
    simp only [jJp]
    have t2:List.take ((2 - 0:Int).toNat*1) (List.drop (Int.toNat 0*1) (u8s [76,67,8,0,0,0,0,0,0,0,0,0,0,0,1,0,0,0,1,0,0,0,1,0,0,0,1,0,0,0,0,0,0,0]))=[DV.int .u8 76,DV.int .u8 67]:=rfl
    have sD:strD [DV.int .u8 76,DV.int .u8 67]=⟨#[76,67]⟩:=rfl
    simp only [t2,sD]
    exact ⟨fun _=>⟨fun _=>⟨⟨by decide,by decide,by decide⟩,⟨rfl,⟨_,rfl⟩,⟨_,rfl⟩,trivial⟩,fun _=>rfl,fun h=>absurd h (by rw [beq_self_eq_true]; decide)⟩,fun h=>absurd h (by decide)⟩,fun h=>absurd h (by decide)⟩
end Go.Proofs.Ytlnfgagmiogkgaa
namespace Go.Proofs.Ytlnfgagmiogkgaa
open Go.RowKit
set_option linter.unusedVariables false
set_option linter.unusedSimpArgs false
attribute [local irreducible] Ans AnsO AnsG AnsN AnsI
set_option maxRecDepth 4000
def jVQ:Gam where
 pure:=fun f xs=>
  if f=17 then (match xs with | [.agg [.int _ bits,.int _ cx0,.int _ cy0,.int _ cx1,.int _ cy1,.int _ tw,.int _ th,.sl on oxs,.sl mn mxs,.sl pn pxs]]=>some (RV.d (dQ (zQO (⟨bits,⟨cx0,cy0,cx1,cy1⟩,tw,th,ints oxs,zQv mxs,zQp pxs⟩:Scr)))) | _=>none) else
  if f=33 then (match xs with | [.d (.bool is_)]=>some (rJ ((if is_ then 1 else 0))) | _=>none) else
  if f=34 then (match xs with | []=>some (RV.tup [RV.tup [rJ (37),rJ (5)]]) | [.agg [.int _ w,.int _ h,.bool so,.int _ c0,.int _ c1,.int _ c2,.int _ ca,.int _ cf,.int _ w0,.int _ h0,.int _ s0,.sl n0 xs0,.int _ w1,.int _ h1,.int _ s1,.sl n1 xs1,.int _ w2,.int _ h2,.int _ s2,.sl n2 xs2,.int _ w3,.int _ h3,.int _ s3,.sl n3 xs3,.int _ w4,.int _ h4,.int _ s4,.sl n4 xs4]]=>some (RV.d (dS ((Im.pixels ⟨w,h,so,⟨c0,c1,c2,ca,cf⟩,⟨w0,h0,s0,n0,xs0⟩,⟨w1,h1,s1,n1,xs1⟩,⟨w2,h2,s2,n2,xs2⟩,⟨w3,h3,s3,n3,xs3⟩,⟨w4,h4,s4,n4,xs4⟩⟩).length) (pxs (Im.pixels ⟨w,h,so,⟨c0,c1,c2,ca,cf⟩,⟨w0,h0,s0,n0,xs0⟩,⟨w1,h1,s1,n1,xs1⟩,⟨w2,h2,s2,n2,xs2⟩,⟨w3,h3,s3,n3,xs3⟩,⟨w4,h4,s4,n4,xs4⟩⟩)))) | _=>none) else
  none
 modes:=fun f=>
  if f=32 then some ([false,true,true],0,1) else
  if f=35 then some ([false,true],0,1) else
  none
 proc:=fun f xs bs=>
  if f=32 then (match xs,bs with | [AV.one (Cl.ref 0 bn),AV.one (Cl.d (DV.int _ n)),AV.one (Cl.d (DV.int _ size))],[Bx.row _ _ bxs]=>some ⟨AV.one (Cl.ref 0 (((ints bxs)++beI size.toNat n).length)),[Bx.row 5 1 (u8s ((ints bxs)++beI size.toNat n))],false⟩ | _,_=>none) else
  if f=35 then (match xs,bs with | [AV.one (Cl.ref 0 bn),AV.agg [Cl.d (DV.int _ c0),Cl.d (DV.int _ c1),Cl.d (DV.int _ c2),Cl.d (DV.int _ ca),Cl.d (DV.int _ cf)]],[Bx.row _ _ bxs]=>some ⟨AV.one (Cl.ref 0 (((ints bxs)++pxB ⟨c0,c1,c2,ca,cf⟩).length)),[Bx.row 5 1 (u8s ((ints bxs)++pxB ⟨c0,c1,c2,ca,cf⟩))],false⟩ | _,_=>none) else
  none
 iter:=fun f cs=>
  none
def zJC (s:Scr):Ann:=let zz0:=(1,bC [cJ (s.bits),cJ (s.c.a),cJ (s.c.b),cJ (s.c.c),cJ (s.c.d),cJ (s.tw),cJ (s.th),Cl.d (dS s.ord.length (is s.ord)),Cl.d (dS s.ims.length (ims s.ims)),Cl.d (dS s.ops.length (ops s.ops))]); let zz1:=fun (k:Nat)=>(7,aJ (((k:Int)))); let zz2:=fun (k:Nat)=>(9,AV.one (Cl.ref 9010 ((pxL (mAt s k)).length))); let zz3:=fun (k:Nat)=>(9010,Bx.row 37 5 (pxs (pxL (mAt s k)))); (Ann.seq Ann.leaf (Ann.seq Ann.leaf (Ann.seq Ann.leaf (Ann.seq Ann.leaf (Ann.seq Ann.leaf (Ann.seq Ann.leaf (Ann.seq (Ann.seq Ann.leaf (Ann.loop ⟨Nat,fun i=>i≤s.ord.length,fun i=>⟨[(1,AV.one (Cl.ptr 1 0)),(5,AV.one (Cl.ref 9001 ((encO s i).length))),(6,aJ (((i:Int))))],[zz0,(9001,Bx.row 5 1 (u8s (encO s i)))]⟩,fun i=>s.ord.length - i⟩ fun i=>Ann.leaf)) (Ann.seq Ann.leaf (Ann.seq (Ann.seq Ann.leaf (Ann.loop ⟨Nat,fun k=>k≤s.ims.length,fun k=>⟨[(1,AV.one (Cl.ptr 1 0)),(5,AV.one (Cl.ref 9002 ((encA s k).length))),(zz1 k)],[zz0,(9002,Bx.row 5 1 (u8s (encA s k)))]⟩,fun k=>s.ims.length - k⟩ fun k=>(Ann.seq Ann.leaf (Ann.seq (Ann.seq Ann.leaf (Ann.seq Ann.leaf (Ann.seq Ann.leaf (Ann.cut ⟨Nat,fun z=>z=0,fun z=>⟨[(1,AV.one (Cl.ptr 1 0)),(5,AV.one (Cl.ref 9005 ((encA s k++hdB (mAt s k)).length))),(zz1 k),(zz2 k)],[zz0,(9005,Bx.row 5 1 (u8s (encA s k++hdB (mAt s k)))),(zz3 k)]⟩,fun z=>0⟩ Ann.leaf fun z=>(Ann.seq Ann.leaf (Ann.loop ⟨Nat,fun q=>q≤(pxL (mAt s k)).length,fun q=>⟨[(1,AV.one (Cl.ptr 1 0)),(5,AV.one (Cl.ref 9003 ((encA s k++hdB (mAt s k)++((pxL (mAt s k)).take q).flatMap pxB).length))),(zz1 k),(zz2 k),(10,aJ (((q:Int))))],[zz0,(9003,Bx.row 5 1 (u8s (encA s k++hdB (mAt s k)++((pxL (mAt s k)).take q).flatMap pxB))),(zz3 k)]⟩,fun q=>(pxL (mAt s k)).length - q⟩ fun q=>Ann.leaf)))))) Ann.leaf)))) (Ann.seq Ann.leaf (Ann.seq (Ann.seq Ann.leaf (Ann.loop ⟨Nat,fun j=>j≤s.ops.length,fun j=>⟨[(1,AV.one (Cl.ptr 1 0)),(5,AV.one (Cl.ref 9004 ((encC s j).length))),(11,aJ (((j:Int))))],[zz0,(9004,Bx.row 5 1 (u8s (encC s j)))]⟩,fun j=>s.ops.length - j⟩ fun j=>Ann.leaf)) Ann.leaf)))))))))))
theorem zGl (s:Scr):vcg Try.prog jVQ ⟨170,fun _=>false,List.range 0,false⟩ (zQl Try.f12) (zJC s) kn0 (zZq [AV.agg [Cl.d (DV.int .i64 s.bits),Cl.d (DV.int .i64 s.c.a),Cl.d (DV.int .i64 s.c.b),Cl.d (DV.int .i64 s.c.c),Cl.d (DV.int .i64 s.c.d),Cl.d (DV.int .i64 s.tw),Cl.d (DV.int .i64 s.th),Cl.d (DV.sl s.ord.length (is s.ord)),Cl.d (DV.sl s.ims.length (ims s.ims)),Cl.d (DV.sl s.ops.length (ops s.ops))]] []) (zXg Try.prog ⟨170,fun _=>false,List.range 0,false⟩ Try.f12.results.toList ⟨AV.tup [AV.one (Cl.ref 0 ((encS s).1.length)),AV.one (Cl.d (DV.int .i64 ((encS s).2)))],[Bx.row 5 1 (u8s (encS s).1)],true⟩) =
  (let zz0:=[dJ s.bits,dJ s.c.a,dJ s.c.b,dJ s.c.c,dJ s.c.d,dJ s.tw,dJ s.th,dS s.ord.length (is s.ord),dS s.ims.length (ims s.ims),dS s.ops.length (ops s.ops)]; let zz1:=(cJ (1)); let zz2:=(Cl.ref 0 (((ints ([DV.int .u8 (76:Int),DV.int .u8 (67:Int)]))++beI 1 s.bits).length)); let zz3:=[Bx.row 5 1 (u8s ((ints ([DV.int .u8 (76:Int),DV.int .u8 (67:Int)]))++beI 1 s.bits))]; let zz4:=(cJ (4)); let zz5:=(Cl.ref 0 (((iU (((ints ([DV.int .u8 (76:Int),DV.int .u8 (67:Int)]))++beI 1 s.bits)))++beI 4 s.c.a).length)); let zz6:=[Bx.row 5 1 (u8s ((iU (((ints ([DV.int .u8 (76:Int),DV.int .u8 (67:Int)]))++beI 1 s.bits)))++beI 4 s.c.a))]; let zz7:=(Cl.ref 0 (((iU (((iU (((ints ([DV.int .u8 (76:Int),DV.int .u8 (67:Int)]))++beI 1 s.bits)))++beI 4 s.c.a)))++beI 4 s.c.b).length)); let zz8:=[Bx.row 5 1 (u8s ((iU (((iU (((ints ([DV.int .u8 (76:Int),DV.int .u8 (67:Int)]))++beI 1 s.bits)))++beI 4 s.c.a)))++beI 4 s.c.b))]; let zz9:=(Cl.ref 0 (((iU (((iU (((iU (((ints ([DV.int .u8 (76:Int),DV.int .u8 (67:Int)]))++beI 1 s.bits)))++beI 4 s.c.a)))++beI 4 s.c.b)))++beI 4 s.c.c).length)); let zz10:=[Bx.row 5 1 (u8s ((iU (((iU (((iU (((ints ([DV.int .u8 (76:Int),DV.int .u8 (67:Int)]))++beI 1 s.bits)))++beI 4 s.c.a)))++beI 4 s.c.b)))++beI 4 s.c.c))]; let zz11:=(Cl.ref 0 (((iU (((iU (((iU (((iU (((ints ([DV.int .u8 (76:Int),DV.int .u8 (67:Int)]))++beI 1 s.bits)))++beI 4 s.c.a)))++beI 4 s.c.b)))++beI 4 s.c.c)))++beI 4 s.c.d).length)); let zz12:=[Bx.row 5 1 (u8s ((iU (((iU (((iU (((iU (((ints ([DV.int .u8 (76:Int),DV.int .u8 (67:Int)]))++beI 1 s.bits)))++beI 4 s.c.a)))++beI 4 s.c.b)))++beI 4 s.c.c)))++beI 4 s.c.d))]; let zz13:=(Cl.ref 0 (((iU (((iU (((iU (((iU (((iU (((ints ([DV.int .u8 (76:Int),DV.int .u8 (67:Int)]))++beI 1 s.bits)))++beI 4 s.c.a)))++beI 4 s.c.b)))++beI 4 s.c.c)))++beI 4 s.c.d)))++beI 4 s.tw).length)); let zz14:=[Bx.row 5 1 (u8s ((iU (((iU (((iU (((iU (((iU (((ints ([DV.int .u8 (76:Int),DV.int .u8 (67:Int)]))++beI 1 s.bits)))++beI 4 s.c.a)))++beI 4 s.c.b)))++beI 4 s.c.c)))++beI 4 s.c.d)))++beI 4 s.tw))]; let zz15:=(Cl.ref 0 (((iU (((iU (((iU (((iU (((iU (((iU (((ints ([DV.int .u8 (76:Int),DV.int .u8 (67:Int)]))++beI 1 s.bits)))++beI 4 s.c.a)))++beI 4 s.c.b)))++beI 4 s.c.c)))++beI 4 s.c.d)))++beI 4 s.tw)))++beI 4 s.th).length)); let zz16:=[Bx.row 5 1 (u8s ((iU (((iU (((iU (((iU (((iU (((iU (((ints ([DV.int .u8 (76:Int),DV.int .u8 (67:Int)]))++beI 1 s.bits)))++beI 4 s.c.a)))++beI 4 s.c.b)))++beI 4 s.c.c)))++beI 4 s.c.d)))++beI 4 s.tw)))++beI 4 s.th))]; let zz17:=(zz0=zz0); let zz18:=fun (i:Nat)=>(Cl.ref 0 ((encO s i).length)); let zz19:=fun (i:Nat)=>[Bx.row 5 1 (u8s (encO s i))]; let zz20:=fun (k:Nat)=>(Cl.ref 0 ((encA s k).length)); let zz21:=fun (k:Nat)=>[Bx.row 5 1 (u8s (encA s k))]; let zz22:=fun (k:Nat)=>[Bx.row 5 1 (u8s ((iU ((encA s k)))++beI 1 (if (bAt (ims s.ims) ((k:Int).toNat*28+1+1)) then 1 else 0)))]; let zz23:=fun (k:Nat)=>[Bx.row 5 1 (u8s ((iU (((iU ((encA s k)))++beI 1 (if (bAt (ims s.ims) ((k:Int).toNat*28+1+1)) then 1 else 0))))++beI 4 (nAt (ims s.ims) ((k:Int).toNat*28))))]; let zz24:=fun (k:Nat)=>(((iU (((iU (((iU ((encA s k)))++beI 1 (if (bAt (ims s.ims) ((k:Int).toNat*28+1+1)) then 1 else 0))))++beI 4 (nAt (ims s.ims) ((k:Int).toNat*28)))))++beI 4 (nAt (ims s.ims) ((k:Int).toNat*28+1))).length=(encA s k++hdB (mAt s k)).length); let zz25:=fun (k:Nat)=>(dJ (k:Int)=dJ (k:Int)); let zz26:=fun (k:Nat)=>(u8s ((iU (((iU (((iU ((encA s k)))++beI 1 (if (bAt (ims s.ims) ((k:Int).toNat*28+1+1)) then 1 else 0))))++beI 4 (nAt (ims s.ims) ((k:Int).toNat*28)))))++beI 4 (nAt (ims s.ims) ((k:Int).toNat*28+1)))=u8s (encA s k++hdB (mAt s k))); let zz27:=fun (k:Nat)=>fun (q:Nat)=>(q≤(pxL (mAt s k)).length); let zz28:=fun (k:Nat)=>((pxL (mAt s k)).length=(pxL (mAt s k)).length); let zz29:=fun (k:Nat)=>(pxs (pxL (mAt s k))=pxs (pxL (mAt s k))); let zz30:=(cJ (2)); let zz31:=fun (j:Nat)=>[Bx.row 5 1 (u8s ((iU ((encC s j)))++beI 1 (nAt (ops s.ops) ((j:Int).toNat*12))))]; let zz32:=fun (j:Nat)=>[Bx.row 5 1 (u8s ((iU (((iU ((encC s j)))++beI 1 (nAt (ops s.ops) ((j:Int).toNat*12)))))++beI 1 (nAt (ops s.ops) ((j:Int).toNat*12+1))))]; let zz33:=fun (j:Nat)=>[Bx.row 5 1 (u8s ((iU (((iU (((iU ((encC s j)))++beI 1 (nAt (ops s.ops) ((j:Int).toNat*12)))))++beI 1 (nAt (ops s.ops) ((j:Int).toNat*12+1)))))++beI 4 (nAt (ops s.ops) ((j:Int).toNat*12+1+1))))]; let zz34:=fun (j:Nat)=>[Bx.row 5 1 (u8s ((iU (((iU (((iU (((iU ((encC s j)))++beI 1 (nAt (ops s.ops) ((j:Int).toNat*12)))))++beI 1 (nAt (ops s.ops) ((j:Int).toNat*12+1)))))++beI 4 (nAt (ops s.ops) ((j:Int).toNat*12+1+1)))))++beI 4 (nAt (ops s.ops) ((j:Int).toNat*12+1+1+1))))]; let zz35:=fun (j:Nat)=>[Bx.row 5 1 (u8s ((iU (((iU (((iU (((iU (((iU ((encC s j)))++beI 1 (nAt (ops s.ops) ((j:Int).toNat*12)))))++beI 1 (nAt (ops s.ops) ((j:Int).toNat*12+1)))))++beI 4 (nAt (ops s.ops) ((j:Int).toNat*12+1+1)))))++beI 4 (nAt (ops s.ops) ((j:Int).toNat*12+1+1+1)))))++beI 1 (nAt (ops s.ops) ((j:Int).toNat*12+1+1+1+1))))]; let zz36:=fun (j:Nat)=>[Bx.row 5 1 (u8s ((iU (((iU (((iU (((iU (((iU (((iU ((encC s j)))++beI 1 (nAt (ops s.ops) ((j:Int).toNat*12)))))++beI 1 (nAt (ops s.ops) ((j:Int).toNat*12+1)))))++beI 4 (nAt (ops s.ops) ((j:Int).toNat*12+1+1)))))++beI 4 (nAt (ops s.ops) ((j:Int).toNat*12+1+1+1)))))++beI 1 (nAt (ops s.ops) ((j:Int).toNat*12+1+1+1+1)))))++beI 4 (nAt (ops s.ops) ((j:Int).toNat*12+1+1+1+1+1))))]; let zz37:=fun (j:Nat)=>[Bx.row 5 1 (u8s ((iU (((iU (((iU (((iU (((iU (((iU (((iU ((encC s j)))++beI 1 (nAt (ops s.ops) ((j:Int).toNat*12)))))++beI 1 (nAt (ops s.ops) ((j:Int).toNat*12+1)))))++beI 4 (nAt (ops s.ops) ((j:Int).toNat*12+1+1)))))++beI 4 (nAt (ops s.ops) ((j:Int).toNat*12+1+1+1)))))++beI 1 (nAt (ops s.ops) ((j:Int).toNat*12+1+1+1+1)))))++beI 4 (nAt (ops s.ops) ((j:Int).toNat*12+1+1+1+1+1)))))++beI 4 (nAt (ops s.ops) ((j:Int).toNat*12+1+1+1+1+1+1))))]; let zz38:=fun (j:Nat)=>[Bx.row 5 1 (u8s ((iU (((iU (((iU (((iU (((iU (((iU (((iU (((iU ((encC s j)))++beI 1 (nAt (ops s.ops) ((j:Int).toNat*12)))))++beI 1 (nAt (ops s.ops) ((j:Int).toNat*12+1)))))++beI 4 (nAt (ops s.ops) ((j:Int).toNat*12+1+1)))))++beI 4 (nAt (ops s.ops) ((j:Int).toNat*12+1+1+1)))))++beI 1 (nAt (ops s.ops) ((j:Int).toNat*12+1+1+1+1)))))++beI 4 (nAt (ops s.ops) ((j:Int).toNat*12+1+1+1+1+1)))))++beI 4 (nAt (ops s.ops) ((j:Int).toNat*12+1+1+1+1+1+1)))))++beI 2 (wK (nAt (ops s.ops) ((j:Int).toNat*12+1+1+1+1+1+1+1)))))]; let zz39:=fun (j:Nat)=>[Bx.row 5 1 (u8s ((iU (((iU (((iU (((iU (((iU (((iU (((iU (((iU (((iU ((encC s j)))++beI 1 (nAt (ops s.ops) ((j:Int).toNat*12)))))++beI 1 (nAt (ops s.ops) ((j:Int).toNat*12+1)))))++beI 4 (nAt (ops s.ops) ((j:Int).toNat*12+1+1)))))++beI 4 (nAt (ops s.ops) ((j:Int).toNat*12+1+1+1)))))++beI 1 (nAt (ops s.ops) ((j:Int).toNat*12+1+1+1+1)))))++beI 4 (nAt (ops s.ops) ((j:Int).toNat*12+1+1+1+1+1)))))++beI 4 (nAt (ops s.ops) ((j:Int).toNat*12+1+1+1+1+1+1)))))++beI 2 (wK (nAt (ops s.ops) ((j:Int).toNat*12+1+1+1+1+1+1+1))))))++beI 1 (nAt (ops s.ops) ((j:Int).toNat*12+1+1+1+1+1+1+1+1))))]; let zz40:=fun (j:Nat)=>[Bx.row 5 1 (u8s ((iU (((iU (((iU (((iU (((iU (((iU (((iU (((iU (((iU (((iU ((encC s j)))++beI 1 (nAt (ops s.ops) ((j:Int).toNat*12)))))++beI 1 (nAt (ops s.ops) ((j:Int).toNat*12+1)))))++beI 4 (nAt (ops s.ops) ((j:Int).toNat*12+1+1)))))++beI 4 (nAt (ops s.ops) ((j:Int).toNat*12+1+1+1)))))++beI 1 (nAt (ops s.ops) ((j:Int).toNat*12+1+1+1+1)))))++beI 4 (nAt (ops s.ops) ((j:Int).toNat*12+1+1+1+1+1)))))++beI 4 (nAt (ops s.ops) ((j:Int).toNat*12+1+1+1+1+1+1)))))++beI 2 (wK (nAt (ops s.ops) ((j:Int).toNat*12+1+1+1+1+1+1+1))))))++beI 1 (nAt (ops s.ops) ((j:Int).toNat*12+1+1+1+1+1+1+1+1)))))++beI 1 (nAt (ops s.ops) ((j:Int).toNat*12+1+1+1+1+1+1+1+1+1))))]; tU4 ((Ans Try.prog 17 [RV.agg zz0] (RV.d (dQ (zQO (⟨s.bits,s.c,s.tw,s.th,ints (is s.ord),zQv (ims s.ims),zQp (ops s.ops)⟩:Scr)))))∧True∧(((!(zQO (⟨s.bits,s.c,s.tw,s.th,ints (is s.ord),zQv (ims s.ims),zQp (ops s.ops)⟩:Scr)))=true→tU2 (((((0=(encS s).1.length)∧(dJ 19=dJ ((encS s).2))∧True)∧True)∧(([]=u8s (encS s).1)∧True))∧zQx ⟨AV.tup [AV.one (Cl.ref 0 ((encS s).1.length)),aJ ((((encS s).2)))],[Bx.row 5 1 (u8s (encS s).1)],true⟩))∧((!(zQO (⟨s.bits,s.c,s.tw,s.th,ints (is s.ord),zQv (ims s.ims),zQp (ops s.ops)⟩:Scr)))=false→tU5 ((0 < 2)∧tU2 ((AnsG Try.prog 32 0 [AV.one (Cl.ref 0 2),aJ ((s.bits)),AV.one zz1] [Bx.row 5 1 ([DV.int .u8 (76:Int),DV.int .u8 (67:Int)])] ⟨AV.one zz2,zz3,false⟩)∧tU4 ((AnsG Try.prog 32 0 [AV.one zz2,aJ ((s.c.a)),AV.one zz4] zz3 ⟨AV.one zz5,zz6,false⟩)∧tU2 ((AnsG Try.prog 32 0 [AV.one zz5,aJ ((s.c.b)),AV.one zz4] zz6 ⟨AV.one zz7,zz8,false⟩)∧tU2 ((AnsG Try.prog 32 0 [AV.one zz7,aJ ((s.c.c)),AV.one zz4] zz8 ⟨AV.one zz9,zz10,false⟩)∧tU2 ((AnsG Try.prog 32 0 [AV.one zz9,aJ ((s.c.d)),AV.one zz4] zz10 ⟨AV.one zz11,zz12,false⟩)∧True∧(true=true)∧tU3 ((AnsG Try.prog 32 0 [AV.one zz11,aJ ((s.tw)),AV.one zz4] zz12 ⟨AV.one zz13,zz14,false⟩)∧tU2 ((AnsG Try.prog 32 0 [AV.one zz13,aJ ((s.th)),AV.one zz4] zz14 ⟨AV.one zz15,zz16,false⟩)∧tU3 ((AnsG Try.prog 32 0 [AV.one zz15,aJ (((s.ord.length:Int))),AV.one zz4] zz16 ⟨AV.one (Cl.ref 0 (((iU (((iU (((iU (((iU (((iU (((iU (((iU (((ints ([DV.int .u8 (76:Int),DV.int .u8 (67:Int)]))++beI 1 s.bits)))++beI 4 s.c.a)))++beI 4 s.c.b)))++beI 4 s.c.c)))++beI 4 s.c.d)))++beI 4 s.tw)))++beI 4 s.th)))++beI 4 (s.ord.length:Int)).length)),[Bx.row 5 1 (u8s ((iU (((iU (((iU (((iU (((iU (((iU (((iU (((ints ([DV.int .u8 (76:Int),DV.int .u8 (67:Int)]))++beI 1 s.bits)))++beI 4 s.c.a)))++beI 4 s.c.b)))++beI 4 s.c.c)))++beI 4 s.c.d)))++beI 4 s.tw)))++beI 4 s.th)))++beI 4 (s.ord.length:Int)))],false⟩)∧True∧(true=true)∧True∧((∃ i:Nat,(i≤s.ord.length)∧(((0=0)∧(((iU (((iU (((iU (((iU (((iU (((iU (((iU (((ints ([DV.int .u8 (76:Int),DV.int .u8 (67:Int)]))++beI 1 s.bits)))++beI 4 s.c.a)))++beI 4 s.c.b)))++beI 4 s.c.c)))++beI 4 s.c.d)))++beI 4 s.tw)))++beI 4 s.th)))++beI 4 (s.ord.length:Int)).length=(encO s i).length)∧(dJ 0=dJ (i:Int))∧True)∧(zz17∧(u8s ((iU (((iU (((iU (((iU (((iU (((iU (((iU (((ints ([DV.int .u8 (76:Int),DV.int .u8 (67:Int)]))++beI 1 s.bits)))++beI 4 s.c.a)))++beI 4 s.c.b)))++beI 4 s.c.c)))++beI 4 s.c.d)))++beI 4 s.tw)))++beI 4 s.th)))++beI 4 (s.ord.length:Int))=u8s (encO s i))∧True)))∧∀ i:Nat,(i≤s.ord.length)→tU5 ((((decide ((i:Int) < (s.ord.length:Int)))=true→tU4 ((0≤(i:Int)∧(i:Int) < (s.ord.length:Int)∧(i:Int).toNat*1 < (is s.ord).length)∧(((is s.ord)[(i:Int).toNat*1]?=some (dJ (nAt (is s.ord) ((i:Int).toNat*1))))∧True)∧(AnsG Try.prog 32 0 [AV.one (zz18 i),aJ (((nAt (is s.ord) ((i:Int).toNat*1)))),AV.one zz4] (zz19 i) ⟨AV.one (Cl.ref 0 (((iU ((encO s i)))++beI 4 (nAt (is s.ord) ((i:Int).toNat*1))).length)),[Bx.row 5 1 (u8s ((iU ((encO s i)))++beI 4 (nAt (is s.ord) ((i:Int).toNat*1))))],false⟩)∧tU4 (∃ i':Nat,(i'≤s.ord.length)∧(s.ord.length - i' < s.ord.length - i)∧(((0=0)∧(((iU ((encO s i)))++beI 4 (nAt (is s.ord) ((i:Int).toNat*1))).length=(encO s i').length)∧(dJ (wK ((i:Int)+(1:Int)))=dJ (i':Int))∧True)∧(zz17∧(u8s ((iU ((encO s i)))++beI 4 (nAt (is s.ord) ((i:Int).toNat*1)))=u8s (encO s i'))∧True)))))∧((decide ((i:Int) < (s.ord.length:Int)))=false→tU4 ((AnsG Try.prog 32 0 [AV.one (zz18 i),aJ (((s.ims.length:Int))),AV.one zz1] (zz19 i) ⟨AV.one (Cl.ref 0 (((iU ((encO s i)))++beI 1 (s.ims.length:Int)).length)),[Bx.row 5 1 (u8s ((iU ((encO s i)))++beI 1 (s.ims.length:Int)))],false⟩)∧tU2 (((∃ k:Nat,(k≤s.ims.length)∧(((0=0)∧(((iU ((encO s i)))++beI 1 (s.ims.length:Int)).length=(encA s k).length)∧(dJ 0=dJ (k:Int))∧True)∧(zz17∧(u8s ((iU ((encO s i)))++beI 1 (s.ims.length:Int))=u8s (encA s k))∧True)))∧∀ k:Nat,(k≤s.ims.length)→tU5 ((((decide ((k:Int) < (s.ims.length:Int)))=true→tU3 ((0≤(k:Int)∧(k:Int) < (s.ims.length:Int)∧(k:Int).toNat*28 < (ims s.ims).length)∧((imQr (ims s.ims) ((k:Int).toNat*28)))∧tU5 ((Ans Try.prog 33 [RV.d (dQ (bAt (ims s.ims) ((k:Int).toNat*28+1+1)))] (rJ ((if (bAt (ims s.ims) ((k:Int).toNat*28+1+1)) then 1 else 0))))∧(AnsG Try.prog 32 0 [AV.one (zz20 k),aJ (((if (bAt (ims s.ims) ((k:Int).toNat*28+1+1)) then 1 else 0))),AV.one zz1] (zz21 k) ⟨AV.one (Cl.ref 0 (((iU ((encA s k)))++beI 1 (if (bAt (ims s.ims) ((k:Int).toNat*28+1+1)) then 1 else 0)).length)),(zz22 k),false⟩)∧tU2 ((AnsG Try.prog 32 0 [AV.one (Cl.ref 0 (((iU ((encA s k)))++beI 1 (if (bAt (ims s.ims) ((k:Int).toNat*28+1+1)) then 1 else 0)).length)),aJ (((nAt (ims s.ims) ((k:Int).toNat*28)))),AV.one zz4] (zz22 k) ⟨AV.one (Cl.ref 0 (((iU (((iU ((encA s k)))++beI 1 (if (bAt (ims s.ims) ((k:Int).toNat*28+1+1)) then 1 else 0))))++beI 4 (nAt (ims s.ims) ((k:Int).toNat*28))).length)),(zz23 k),false⟩)∧tU2 ((AnsG Try.prog 32 0 [AV.one (Cl.ref 0 (((iU (((iU ((encA s k)))++beI 1 (if (bAt (ims s.ims) ((k:Int).toNat*28+1+1)) then 1 else 0))))++beI 4 (nAt (ims s.ims) ((k:Int).toNat*28))).length)),aJ (((nAt (ims s.ims) ((k:Int).toNat*28+1)))),AV.one zz4] (zz23 k) ⟨AV.one (Cl.ref 0 (((iU (((iU (((iU ((encA s k)))++beI 1 (if (bAt (ims s.ims) ((k:Int).toNat*28+1+1)) then 1 else 0))))++beI 4 (nAt (ims s.ims) ((k:Int).toNat*28)))))++beI 4 (nAt (ims s.ims) ((k:Int).toNat*28+1))).length)),[Bx.row 5 1 (u8s ((iU (((iU (((iU ((encA s k)))++beI 1 (if (bAt (ims s.ims) ((k:Int).toNat*28+1+1)) then 1 else 0))))++beI 4 (nAt (ims s.ims) ((k:Int).toNat*28)))))++beI 4 (nAt (ims s.ims) ((k:Int).toNat*28+1))))],false⟩)∧True∧(true=true)∧tU4 ((tU3 ((((!(bAt (ims s.ims) ((k:Int).toNat*28+1+1)))=true→True∧(AnsO Try.prog 34 [imR (imQ (ims s.ims) ((k:Int).toNat*28))] 37 5 ((Im.pixels (imQ (ims s.ims) ((k:Int).toNat*28))).length) (pxs (Im.pixels (imQ (ims s.ims) ((k:Int).toNat*28)))))∧True∧∃ z:Nat,(z=0)∧(((0=0)∧(zz24 k)∧(zz25 k)∧((Im.pixels (imQ (ims s.ims) ((k:Int).toNat*28))).length=(pxL (mAt s k)).length)∧True)∧(zz17∧(zz26 k)∧(pxs (Im.pixels (imQ (ims s.ims) ((k:Int).toNat*28)))=pxs (pxL (mAt s k)))∧True)))∧((!(bAt (ims s.ims) ((k:Int).toNat*28+1+1)))=false→∃ z:Nat,(z=0)∧(((0=0)∧(zz24 k)∧(zz25 k)∧(1=(pxL (mAt s k)).length)∧True)∧(zz17∧(zz26 k)∧([dK (nAt (ims s.ims) ((k:Int).toNat*28+1+1+1)),dK (nAt (ims s.ims) ((k:Int).toNat*28+1+1+1+1)),dK (nAt (ims s.ims) ((k:Int).toNat*28+1+1+1+1+1)),dK (nAt (ims s.ims) ((k:Int).toNat*28+1+1+1+1+1+1)),dK (nAt (ims s.ims) ((k:Int).toNat*28+1+1+1+1+1+1+1))]=pxs (pxL (mAt s k)))∧True))))))∧∀ z:Nat,(z=0)→True∧((∃ q:Nat,(zz27 k q)∧(((0=0)∧((encA s k++hdB (mAt s k)).length=(encA s k++hdB (mAt s k)++((pxL (mAt s k)).take q).flatMap pxB).length)∧(zz25 k)∧(zz28 k)∧(dJ 0=dJ (q:Int))∧True)∧(zz17∧(u8s (encA s k++hdB (mAt s k))=u8s (encA s k++hdB (mAt s k)++((pxL (mAt s k)).take q).flatMap pxB))∧(zz29 k)∧True)))∧∀ q:Nat,(zz27 k q)→tU2 (((pxL (mAt s k)).length≤maxLen)∧True∧(((decide ((q:Int) < (((pxL (mAt s k)).length:Nat):Int)))=true→tU3 ((0≤(q:Int)∧(q:Int) < (((pxL (mAt s k)).length:Nat):Int))∧((pxQr (pxs (pxL (mAt s k))) ((q:Int).toNat*5)))∧(AnsG Try.prog 35 0 [AV.one (Cl.ref 0 ((encA s k++hdB (mAt s k)++((pxL (mAt s k)).take q).flatMap pxB).length)),pxD (pxQ (pxs (pxL (mAt s k))) ((q:Int).toNat*5))] [Bx.row 5 1 (u8s (encA s k++hdB (mAt s k)++((pxL (mAt s k)).take q).flatMap pxB))] ⟨AV.one (Cl.ref 0 (((iU ((encA s k++hdB (mAt s k)++((pxL (mAt s k)).take q).flatMap pxB)))++pxB (pxQ (pxs (pxL (mAt s k))) ((q:Int).toNat*5))).length)),[Bx.row 5 1 (u8s ((iU ((encA s k++hdB (mAt s k)++((pxL (mAt s k)).take q).flatMap pxB)))++pxB (pxQ (pxs (pxL (mAt s k))) ((q:Int).toNat*5))))],false⟩)∧tU4 (∃ q':Nat,(q'≤(pxL (mAt s k)).length)∧((pxL (mAt s k)).length - q' < (pxL (mAt s k)).length - q)∧(((0=0)∧(((iU ((encA s k++hdB (mAt s k)++((pxL (mAt s k)).take q).flatMap pxB)))++pxB (pxQ (pxs (pxL (mAt s k))) ((q:Int).toNat*5))).length=(encA s k++hdB (mAt s k)++((pxL (mAt s k)).take q').flatMap pxB).length)∧(zz25 k)∧(zz28 k)∧(dJ (wK ((q:Int)+(1:Int)))=dJ (q':Int))∧True)∧(zz17∧(u8s ((iU ((encA s k++hdB (mAt s k)++((pxL (mAt s k)).take q).flatMap pxB)))++pxB (pxQ (pxs (pxL (mAt s k))) ((q:Int).toNat*5)))=u8s (encA s k++hdB (mAt s k)++((pxL (mAt s k)).take q').flatMap pxB))∧(zz29 k)∧True)))))∧((decide ((q:Int) < (((pxL (mAt s k)).length:Nat):Int)))=false→tU3 (∃ k':Nat,(k'≤s.ims.length)∧(s.ims.length - k' < s.ims.length - k)∧(((0=0)∧((encA s k++hdB (mAt s k)++((pxL (mAt s k)).take q).flatMap pxB).length=(encA s k').length)∧(dJ (wK ((k:Int)+(1:Int)))=dJ (k':Int))∧True)∧(zz17∧(u8s (encA s k++hdB (mAt s k)++((pxL (mAt s k)).take q).flatMap pxB)=u8s (encA s k'))∧True)))))))))))))∧((decide ((k:Int) < (s.ims.length:Int)))=false→tU4 ((AnsG Try.prog 32 0 [AV.one (zz20 k),aJ (((s.ops.length:Int))),AV.one zz30] (zz21 k) ⟨AV.one (Cl.ref 0 (((iU ((encA s k)))++beI 2 (s.ops.length:Int)).length)),[Bx.row 5 1 (u8s ((iU ((encA s k)))++beI 2 (s.ops.length:Int)))],false⟩)∧tU2 (((∃ j:Nat,(j≤s.ops.length)∧(((0=0)∧(((iU ((encA s k)))++beI 2 (s.ops.length:Int)).length=(encC s j).length)∧(dJ 0=dJ (j:Int))∧True)∧(zz17∧(u8s ((iU ((encA s k)))++beI 2 (s.ops.length:Int))=u8s (encC s j))∧True)))∧∀ j:Nat,(j≤s.ops.length)→tU5 ((((decide ((j:Int) < (s.ops.length:Int)))=true→tU3 ((0≤(j:Int)∧(j:Int) < (s.ops.length:Int)∧(j:Int).toNat*12 < (ops s.ops).length)∧((oqQr (ops s.ops) ((j:Int).toNat*12)))∧tU5 ((AnsG Try.prog 32 0 [AV.one (Cl.ref 0 ((encC s j).length)),aJ (((nAt (ops s.ops) ((j:Int).toNat*12)))),AV.one zz1] [Bx.row 5 1 (u8s (encC s j))] ⟨AV.one (Cl.ref 0 (((iU ((encC s j)))++beI 1 (nAt (ops s.ops) ((j:Int).toNat*12))).length)),(zz31 j),false⟩)∧tU2 ((AnsG Try.prog 32 0 [AV.one (Cl.ref 0 (((iU ((encC s j)))++beI 1 (nAt (ops s.ops) ((j:Int).toNat*12))).length)),aJ (((nAt (ops s.ops) ((j:Int).toNat*12+1)))),AV.one zz1] (zz31 j) ⟨AV.one (Cl.ref 0 (((iU (((iU ((encC s j)))++beI 1 (nAt (ops s.ops) ((j:Int).toNat*12)))))++beI 1 (nAt (ops s.ops) ((j:Int).toNat*12+1))).length)),(zz32 j),false⟩)∧tU2 ((AnsG Try.prog 32 0 [AV.one (Cl.ref 0 (((iU (((iU ((encC s j)))++beI 1 (nAt (ops s.ops) ((j:Int).toNat*12)))))++beI 1 (nAt (ops s.ops) ((j:Int).toNat*12+1))).length)),aJ (((nAt (ops s.ops) ((j:Int).toNat*12+1+1)))),AV.one zz4] (zz32 j) ⟨AV.one (Cl.ref 0 (((iU (((iU (((iU ((encC s j)))++beI 1 (nAt (ops s.ops) ((j:Int).toNat*12)))))++beI 1 (nAt (ops s.ops) ((j:Int).toNat*12+1)))))++beI 4 (nAt (ops s.ops) ((j:Int).toNat*12+1+1))).length)),(zz33 j),false⟩)∧tU2 ((AnsG Try.prog 32 0 [AV.one (Cl.ref 0 (((iU (((iU (((iU ((encC s j)))++beI 1 (nAt (ops s.ops) ((j:Int).toNat*12)))))++beI 1 (nAt (ops s.ops) ((j:Int).toNat*12+1)))))++beI 4 (nAt (ops s.ops) ((j:Int).toNat*12+1+1))).length)),aJ (((nAt (ops s.ops) ((j:Int).toNat*12+1+1+1)))),AV.one zz4] (zz33 j) ⟨AV.one (Cl.ref 0 (((iU (((iU (((iU (((iU ((encC s j)))++beI 1 (nAt (ops s.ops) ((j:Int).toNat*12)))))++beI 1 (nAt (ops s.ops) ((j:Int).toNat*12+1)))))++beI 4 (nAt (ops s.ops) ((j:Int).toNat*12+1+1)))))++beI 4 (nAt (ops s.ops) ((j:Int).toNat*12+1+1+1))).length)),(zz34 j),false⟩)∧True∧(true=true)∧tU3 ((AnsG Try.prog 32 0 [AV.one (Cl.ref 0 (((iU (((iU (((iU (((iU ((encC s j)))++beI 1 (nAt (ops s.ops) ((j:Int).toNat*12)))))++beI 1 (nAt (ops s.ops) ((j:Int).toNat*12+1)))))++beI 4 (nAt (ops s.ops) ((j:Int).toNat*12+1+1)))))++beI 4 (nAt (ops s.ops) ((j:Int).toNat*12+1+1+1))).length)),aJ (((nAt (ops s.ops) ((j:Int).toNat*12+1+1+1+1)))),AV.one zz1] (zz34 j) ⟨AV.one (Cl.ref 0 (((iU (((iU (((iU (((iU (((iU ((encC s j)))++beI 1 (nAt (ops s.ops) ((j:Int).toNat*12)))))++beI 1 (nAt (ops s.ops) ((j:Int).toNat*12+1)))))++beI 4 (nAt (ops s.ops) ((j:Int).toNat*12+1+1)))))++beI 4 (nAt (ops s.ops) ((j:Int).toNat*12+1+1+1)))))++beI 1 (nAt (ops s.ops) ((j:Int).toNat*12+1+1+1+1))).length)),(zz35 j),false⟩)∧tU2 ((AnsG Try.prog 32 0 [AV.one (Cl.ref 0 (((iU (((iU (((iU (((iU (((iU ((encC s j)))++beI 1 (nAt (ops s.ops) ((j:Int).toNat*12)))))++beI 1 (nAt (ops s.ops) ((j:Int).toNat*12+1)))))++beI 4 (nAt (ops s.ops) ((j:Int).toNat*12+1+1)))))++beI 4 (nAt (ops s.ops) ((j:Int).toNat*12+1+1+1)))))++beI 1 (nAt (ops s.ops) ((j:Int).toNat*12+1+1+1+1))).length)),aJ (((nAt (ops s.ops) ((j:Int).toNat*12+1+1+1+1+1)))),AV.one zz4] (zz35 j) ⟨AV.one (Cl.ref 0 (((iU (((iU (((iU (((iU (((iU (((iU ((encC s j)))++beI 1 (nAt (ops s.ops) ((j:Int).toNat*12)))))++beI 1 (nAt (ops s.ops) ((j:Int).toNat*12+1)))))++beI 4 (nAt (ops s.ops) ((j:Int).toNat*12+1+1)))))++beI 4 (nAt (ops s.ops) ((j:Int).toNat*12+1+1+1)))))++beI 1 (nAt (ops s.ops) ((j:Int).toNat*12+1+1+1+1)))))++beI 4 (nAt (ops s.ops) ((j:Int).toNat*12+1+1+1+1+1))).length)),(zz36 j),false⟩)∧tU2 ((AnsG Try.prog 32 0 [AV.one (Cl.ref 0 (((iU (((iU (((iU (((iU (((iU (((iU ((encC s j)))++beI 1 (nAt (ops s.ops) ((j:Int).toNat*12)))))++beI 1 (nAt (ops s.ops) ((j:Int).toNat*12+1)))))++beI 4 (nAt (ops s.ops) ((j:Int).toNat*12+1+1)))))++beI 4 (nAt (ops s.ops) ((j:Int).toNat*12+1+1+1)))))++beI 1 (nAt (ops s.ops) ((j:Int).toNat*12+1+1+1+1)))))++beI 4 (nAt (ops s.ops) ((j:Int).toNat*12+1+1+1+1+1))).length)),aJ (((nAt (ops s.ops) ((j:Int).toNat*12+1+1+1+1+1+1)))),AV.one zz4] (zz36 j) ⟨AV.one (Cl.ref 0 (((iU (((iU (((iU (((iU (((iU (((iU (((iU ((encC s j)))++beI 1 (nAt (ops s.ops) ((j:Int).toNat*12)))))++beI 1 (nAt (ops s.ops) ((j:Int).toNat*12+1)))))++beI 4 (nAt (ops s.ops) ((j:Int).toNat*12+1+1)))))++beI 4 (nAt (ops s.ops) ((j:Int).toNat*12+1+1+1)))))++beI 1 (nAt (ops s.ops) ((j:Int).toNat*12+1+1+1+1)))))++beI 4 (nAt (ops s.ops) ((j:Int).toNat*12+1+1+1+1+1)))))++beI 4 (nAt (ops s.ops) ((j:Int).toNat*12+1+1+1+1+1+1))).length)),(zz37 j),false⟩)∧True∧(true=true)∧tU4 ((AnsG Try.prog 32 0 [AV.one (Cl.ref 0 (((iU (((iU (((iU (((iU (((iU (((iU (((iU ((encC s j)))++beI 1 (nAt (ops s.ops) ((j:Int).toNat*12)))))++beI 1 (nAt (ops s.ops) ((j:Int).toNat*12+1)))))++beI 4 (nAt (ops s.ops) ((j:Int).toNat*12+1+1)))))++beI 4 (nAt (ops s.ops) ((j:Int).toNat*12+1+1+1)))))++beI 1 (nAt (ops s.ops) ((j:Int).toNat*12+1+1+1+1)))))++beI 4 (nAt (ops s.ops) ((j:Int).toNat*12+1+1+1+1+1)))))++beI 4 (nAt (ops s.ops) ((j:Int).toNat*12+1+1+1+1+1+1))).length)),aJ (((wK (nAt (ops s.ops) ((j:Int).toNat*12+1+1+1+1+1+1+1))))),AV.one zz30] (zz37 j) ⟨AV.one (Cl.ref 0 (((iU (((iU (((iU (((iU (((iU (((iU (((iU (((iU ((encC s j)))++beI 1 (nAt (ops s.ops) ((j:Int).toNat*12)))))++beI 1 (nAt (ops s.ops) ((j:Int).toNat*12+1)))))++beI 4 (nAt (ops s.ops) ((j:Int).toNat*12+1+1)))))++beI 4 (nAt (ops s.ops) ((j:Int).toNat*12+1+1+1)))))++beI 1 (nAt (ops s.ops) ((j:Int).toNat*12+1+1+1+1)))))++beI 4 (nAt (ops s.ops) ((j:Int).toNat*12+1+1+1+1+1)))))++beI 4 (nAt (ops s.ops) ((j:Int).toNat*12+1+1+1+1+1+1)))))++beI 2 (wK (nAt (ops s.ops) ((j:Int).toNat*12+1+1+1+1+1+1+1)))).length)),(zz38 j),false⟩)∧tU2 ((AnsG Try.prog 32 0 [AV.one (Cl.ref 0 (((iU (((iU (((iU (((iU (((iU (((iU (((iU (((iU ((encC s j)))++beI 1 (nAt (ops s.ops) ((j:Int).toNat*12)))))++beI 1 (nAt (ops s.ops) ((j:Int).toNat*12+1)))))++beI 4 (nAt (ops s.ops) ((j:Int).toNat*12+1+1)))))++beI 4 (nAt (ops s.ops) ((j:Int).toNat*12+1+1+1)))))++beI 1 (nAt (ops s.ops) ((j:Int).toNat*12+1+1+1+1)))))++beI 4 (nAt (ops s.ops) ((j:Int).toNat*12+1+1+1+1+1)))))++beI 4 (nAt (ops s.ops) ((j:Int).toNat*12+1+1+1+1+1+1)))))++beI 2 (wK (nAt (ops s.ops) ((j:Int).toNat*12+1+1+1+1+1+1+1)))).length)),aJ (((nAt (ops s.ops) ((j:Int).toNat*12+1+1+1+1+1+1+1+1)))),AV.one zz1] (zz38 j) ⟨AV.one (Cl.ref 0 (((iU (((iU (((iU (((iU (((iU (((iU (((iU (((iU (((iU ((encC s j)))++beI 1 (nAt (ops s.ops) ((j:Int).toNat*12)))))++beI 1 (nAt (ops s.ops) ((j:Int).toNat*12+1)))))++beI 4 (nAt (ops s.ops) ((j:Int).toNat*12+1+1)))))++beI 4 (nAt (ops s.ops) ((j:Int).toNat*12+1+1+1)))))++beI 1 (nAt (ops s.ops) ((j:Int).toNat*12+1+1+1+1)))))++beI 4 (nAt (ops s.ops) ((j:Int).toNat*12+1+1+1+1+1)))))++beI 4 (nAt (ops s.ops) ((j:Int).toNat*12+1+1+1+1+1+1)))))++beI 2 (wK (nAt (ops s.ops) ((j:Int).toNat*12+1+1+1+1+1+1+1))))))++beI 1 (nAt (ops s.ops) ((j:Int).toNat*12+1+1+1+1+1+1+1+1))).length)),(zz39 j),false⟩)∧tU2 ((AnsG Try.prog 32 0 [AV.one (Cl.ref 0 (((iU (((iU (((iU (((iU (((iU (((iU (((iU (((iU (((iU ((encC s j)))++beI 1 (nAt (ops s.ops) ((j:Int).toNat*12)))))++beI 1 (nAt (ops s.ops) ((j:Int).toNat*12+1)))))++beI 4 (nAt (ops s.ops) ((j:Int).toNat*12+1+1)))))++beI 4 (nAt (ops s.ops) ((j:Int).toNat*12+1+1+1)))))++beI 1 (nAt (ops s.ops) ((j:Int).toNat*12+1+1+1+1)))))++beI 4 (nAt (ops s.ops) ((j:Int).toNat*12+1+1+1+1+1)))))++beI 4 (nAt (ops s.ops) ((j:Int).toNat*12+1+1+1+1+1+1)))))++beI 2 (wK (nAt (ops s.ops) ((j:Int).toNat*12+1+1+1+1+1+1+1))))))++beI 1 (nAt (ops s.ops) ((j:Int).toNat*12+1+1+1+1+1+1+1+1))).length)),aJ (((nAt (ops s.ops) ((j:Int).toNat*12+1+1+1+1+1+1+1+1+1)))),AV.one zz1] (zz39 j) ⟨AV.one (Cl.ref 0 (((iU (((iU (((iU (((iU (((iU (((iU (((iU (((iU (((iU (((iU ((encC s j)))++beI 1 (nAt (ops s.ops) ((j:Int).toNat*12)))))++beI 1 (nAt (ops s.ops) ((j:Int).toNat*12+1)))))++beI 4 (nAt (ops s.ops) ((j:Int).toNat*12+1+1)))))++beI 4 (nAt (ops s.ops) ((j:Int).toNat*12+1+1+1)))))++beI 1 (nAt (ops s.ops) ((j:Int).toNat*12+1+1+1+1)))))++beI 4 (nAt (ops s.ops) ((j:Int).toNat*12+1+1+1+1+1)))))++beI 4 (nAt (ops s.ops) ((j:Int).toNat*12+1+1+1+1+1+1)))))++beI 2 (wK (nAt (ops s.ops) ((j:Int).toNat*12+1+1+1+1+1+1+1))))))++beI 1 (nAt (ops s.ops) ((j:Int).toNat*12+1+1+1+1+1+1+1+1)))))++beI 1 (nAt (ops s.ops) ((j:Int).toNat*12+1+1+1+1+1+1+1+1+1))).length)),(zz40 j),false⟩)∧tU2 ((Ans Try.prog 33 [RV.d (dQ (bAt (ops s.ops) ((j:Int).toNat*12+1+1+1+1+1+1+1+1+1+1)))] (rJ ((if (bAt (ops s.ops) ((j:Int).toNat*12+1+1+1+1+1+1+1+1+1+1)) then 1 else 0))))∧tU2 ((Ans Try.prog 33 [RV.d (dQ (bAt (ops s.ops) ((j:Int).toNat*12+1+1+1+1+1+1+1+1+1+1+1)))] (rJ ((if (bAt (ops s.ops) ((j:Int).toNat*12+1+1+1+1+1+1+1+1+1+1+1)) then 1 else 0))))∧tU2 ((AnsG Try.prog 32 0 [AV.one (Cl.ref 0 (((iU (((iU (((iU (((iU (((iU (((iU (((iU (((iU (((iU (((iU ((encC s j)))++beI 1 (nAt (ops s.ops) ((j:Int).toNat*12)))))++beI 1 (nAt (ops s.ops) ((j:Int).toNat*12+1)))))++beI 4 (nAt (ops s.ops) ((j:Int).toNat*12+1+1)))))++beI 4 (nAt (ops s.ops) ((j:Int).toNat*12+1+1+1)))))++beI 1 (nAt (ops s.ops) ((j:Int).toNat*12+1+1+1+1)))))++beI 4 (nAt (ops s.ops) ((j:Int).toNat*12+1+1+1+1+1)))))++beI 4 (nAt (ops s.ops) ((j:Int).toNat*12+1+1+1+1+1+1)))))++beI 2 (wK (nAt (ops s.ops) ((j:Int).toNat*12+1+1+1+1+1+1+1))))))++beI 1 (nAt (ops s.ops) ((j:Int).toNat*12+1+1+1+1+1+1+1+1)))))++beI 1 (nAt (ops s.ops) ((j:Int).toNat*12+1+1+1+1+1+1+1+1+1))).length)),aJ (((wK ((if (bAt (ops s.ops) ((j:Int).toNat*12+1+1+1+1+1+1+1+1+1+1)) then 1 else 0)+(wK ((2:Int)*(if (bAt (ops s.ops) ((j:Int).toNat*12+1+1+1+1+1+1+1+1+1+1+1)) then 1 else 0))))))),AV.one zz1] (zz40 j) ⟨AV.one (Cl.ref 0 (((iU (((iU (((iU (((iU (((iU (((iU (((iU (((iU (((iU (((iU (((iU ((encC s j)))++beI 1 (nAt (ops s.ops) ((j:Int).toNat*12)))))++beI 1 (nAt (ops s.ops) ((j:Int).toNat*12+1)))))++beI 4 (nAt (ops s.ops) ((j:Int).toNat*12+1+1)))))++beI 4 (nAt (ops s.ops) ((j:Int).toNat*12+1+1+1)))))++beI 1 (nAt (ops s.ops) ((j:Int).toNat*12+1+1+1+1)))))++beI 4 (nAt (ops s.ops) ((j:Int).toNat*12+1+1+1+1+1)))))++beI 4 (nAt (ops s.ops) ((j:Int).toNat*12+1+1+1+1+1+1)))))++beI 2 (wK (nAt (ops s.ops) ((j:Int).toNat*12+1+1+1+1+1+1+1))))))++beI 1 (nAt (ops s.ops) ((j:Int).toNat*12+1+1+1+1+1+1+1+1)))))++beI 1 (nAt (ops s.ops) ((j:Int).toNat*12+1+1+1+1+1+1+1+1+1)))))++beI 1 (wK ((if (bAt (ops s.ops) ((j:Int).toNat*12+1+1+1+1+1+1+1+1+1+1)) then 1 else 0)+(wK ((2:Int)*(if (bAt (ops s.ops) ((j:Int).toNat*12+1+1+1+1+1+1+1+1+1+1+1)) then 1 else 0)))))).length)),[Bx.row 5 1 (u8s ((iU (((iU (((iU (((iU (((iU (((iU (((iU (((iU (((iU (((iU (((iU ((encC s j)))++beI 1 (nAt (ops s.ops) ((j:Int).toNat*12)))))++beI 1 (nAt (ops s.ops) ((j:Int).toNat*12+1)))))++beI 4 (nAt (ops s.ops) ((j:Int).toNat*12+1+1)))))++beI 4 (nAt (ops s.ops) ((j:Int).toNat*12+1+1+1)))))++beI 1 (nAt (ops s.ops) ((j:Int).toNat*12+1+1+1+1)))))++beI 4 (nAt (ops s.ops) ((j:Int).toNat*12+1+1+1+1+1)))))++beI 4 (nAt (ops s.ops) ((j:Int).toNat*12+1+1+1+1+1+1)))))++beI 2 (wK (nAt (ops s.ops) ((j:Int).toNat*12+1+1+1+1+1+1+1))))))++beI 1 (nAt (ops s.ops) ((j:Int).toNat*12+1+1+1+1+1+1+1+1)))))++beI 1 (nAt (ops s.ops) ((j:Int).toNat*12+1+1+1+1+1+1+1+1+1)))))++beI 1 (wK ((if (bAt (ops s.ops) ((j:Int).toNat*12+1+1+1+1+1+1+1+1+1+1)) then 1 else 0)+(wK ((2:Int)*(if (bAt (ops s.ops) ((j:Int).toNat*12+1+1+1+1+1+1+1+1+1+1+1)) then 1 else 0)))))))],false⟩)∧True∧(true=true)∧tU3 (∃ j':Nat,(j'≤s.ops.length)∧(s.ops.length - j' < s.ops.length - j)∧(((0=0)∧(((iU (((iU (((iU (((iU (((iU (((iU (((iU (((iU (((iU (((iU (((iU ((encC s j)))++beI 1 (nAt (ops s.ops) ((j:Int).toNat*12)))))++beI 1 (nAt (ops s.ops) ((j:Int).toNat*12+1)))))++beI 4 (nAt (ops s.ops) ((j:Int).toNat*12+1+1)))))++beI 4 (nAt (ops s.ops) ((j:Int).toNat*12+1+1+1)))))++beI 1 (nAt (ops s.ops) ((j:Int).toNat*12+1+1+1+1)))))++beI 4 (nAt (ops s.ops) ((j:Int).toNat*12+1+1+1+1+1)))))++beI 4 (nAt (ops s.ops) ((j:Int).toNat*12+1+1+1+1+1+1)))))++beI 2 (wK (nAt (ops s.ops) ((j:Int).toNat*12+1+1+1+1+1+1+1))))))++beI 1 (nAt (ops s.ops) ((j:Int).toNat*12+1+1+1+1+1+1+1+1)))))++beI 1 (nAt (ops s.ops) ((j:Int).toNat*12+1+1+1+1+1+1+1+1+1)))))++beI 1 (wK ((if (bAt (ops s.ops) ((j:Int).toNat*12+1+1+1+1+1+1+1+1+1+1)) then 1 else 0)+(wK ((2:Int)*(if (bAt (ops s.ops) ((j:Int).toNat*12+1+1+1+1+1+1+1+1+1+1+1)) then 1 else 0)))))).length=(encC s j').length)∧(dJ (wK ((j:Int)+(1:Int)))=dJ (j':Int))∧True)∧(zz17∧(u8s ((iU (((iU (((iU (((iU (((iU (((iU (((iU (((iU (((iU (((iU (((iU ((encC s j)))++beI 1 (nAt (ops s.ops) ((j:Int).toNat*12)))))++beI 1 (nAt (ops s.ops) ((j:Int).toNat*12+1)))))++beI 4 (nAt (ops s.ops) ((j:Int).toNat*12+1+1)))))++beI 4 (nAt (ops s.ops) ((j:Int).toNat*12+1+1+1)))))++beI 1 (nAt (ops s.ops) ((j:Int).toNat*12+1+1+1+1)))))++beI 4 (nAt (ops s.ops) ((j:Int).toNat*12+1+1+1+1+1)))))++beI 4 (nAt (ops s.ops) ((j:Int).toNat*12+1+1+1+1+1+1)))))++beI 2 (wK (nAt (ops s.ops) ((j:Int).toNat*12+1+1+1+1+1+1+1))))))++beI 1 (nAt (ops s.ops) ((j:Int).toNat*12+1+1+1+1+1+1+1+1)))))++beI 1 (nAt (ops s.ops) ((j:Int).toNat*12+1+1+1+1+1+1+1+1+1)))))++beI 1 (wK ((if (bAt (ops s.ops) ((j:Int).toNat*12+1+1+1+1+1+1+1+1+1+1)) then 1 else 0)+(wK ((2:Int)*(if (bAt (ops s.ops) ((j:Int).toNat*12+1+1+1+1+1+1+1+1+1+1+1)) then 1 else 0))))))=u8s (encC s j'))∧True))))))))))))))))))∧((decide ((j:Int) < (s.ops.length:Int)))=false→tU3 ((((((encC s j).length=(encS s).1.length)∧(dJ 0=dJ ((encS s).2))∧True)∧True)∧((u8s (encC s j)=u8s (encS s).1)∧True))∧zQx ⟨AV.tup [AV.one (Cl.ref 0 ((encS s).1.length)),aJ ((((encS s).2)))],[Bx.row 5 1 (u8s (encS s).1)],true⟩)))))))))))))))))))))))))))))):=by kernel_rfl
theorem zJB (s:Scr) (hM:∀ m∈s.ims,m.isU) (hos:s.ord.length≤17592186044416):AnsG Try.prog 12 0 [AV.agg [Cl.d (DV.int .i64 s.bits),Cl.d (DV.int .i64 s.c.a),Cl.d (DV.int .i64 s.c.b),Cl.d (DV.int .i64 s.c.c),Cl.d (DV.int .i64 s.c.d),Cl.d (DV.int .i64 s.tw),Cl.d (DV.int .i64 s.th),Cl.d (DV.sl s.ord.length (is s.ord)),Cl.d (DV.sl s.ims.length (ims s.ims)),Cl.d (DV.sl s.ops.length (ops s.ops))]] [] ⟨AV.tup [AV.one (Cl.ref 0 ((encS s).1.length)),AV.one (Cl.d (DV.int .i64 ((encS s).2)))],[Bx.row 5 1 (u8s (encS s).1)],true⟩:=
  zQR (Γ:=jVQ) (zJC s) zQq Try.func12 rfl (Nat.le_of_ble_eq_true rfl) rfl fun hwf hbx=>by
    refine Eq.mpr (zGl s) ?_
    delta tU2 tU3 tU4 tU5 dJ dK dQ cJ wK dS rJ aJ iU
    simp only [true_and,and_true,RV.d.injEq,RV.agg.injEq,RV.tup.injEq,DV.bool.injEq,DV.int.injEq,DV.sl.injEq,List.cons.injEq,forall_const,Bool.not_false,Bool.not_true,Bool.not_eq_true',Bool.not_eq_false',decide_eq_true_eq,decide_eq_false_iff_not,Int.toNat_natCast,imQ,imQr,oqQr,pxQ,pxQr,pxD]
    have eo:=zVC s
    have hS:zQO s=false→encS s=([],19):=fun h=>by unfold encS; rw [h]; rfl
    have hT:zQO s=true→encS s=(encB s,0):=fun h=>by unfold encS; rw [if_pos h]
    have hwO:DV.wfs (ops s.ops):=by
      simp only [AV.wfL,AV.wf,Cl.wfs,DV.wf,DV.wfs] at hwf
      exact hwf.1.2.2.2.2.2.2.2.2.2.1.2
    clear hwf
    simp only [zXM,zXu,zQZ,zZo,zJp,zK5]
    refine ⟨eo,fun h=>?_,fun h=>?_⟩
    · rw [hS h]; exact ⟨⟨⟨rfl,rfl⟩,rfl⟩,jQG _ _ _⟩
    · have hT:=hT h
      have E:Enc s:=zUM h
      have hsz:=E.sz
      have hzl:=zZr E.fm
      have hol:=E.ol
      have hil:=E.il
      have hA:=fun k=>zHE E k
      have hC:=fun j=>jXu E j
      unfold zZm at hsz
      have hO:∀ i,(encO s i).length≤300000000:=fun i=>by
        unfold encO hdr7
        simp only [List.length_append,zQI,List.length_cons,List.length_nil,List.length_take]
        omega
      have eH:[76,67]++beI 1 (s.bits)++beI 4 (s.c.a)++beI 4 (s.c.b)++beI 4 (s.c.c)++beI 4 (s.c.d)++beI 4 (s.tw)++beI 4 (s.th)++beI 4 ((s.ord.length:Int))=encO s 0:=by
        unfold encO hdr7
        simp only [putL,List.take_zero,List.flatMap_cons,List.flatMap_nil,List.append_nil,List.append_assoc]
      refine ⟨by omega,zQo ([76,67]) (s.bits) 1 ⟨by omega,by omega⟩ (by first | omega | (simp only [List.length_append,zQF,List.length_cons,List.length_nil]; omega)),zQo ([76,67]++beI 1 (s.bits)) (s.c.a) 4 ⟨by omega,by omega⟩ (by first | omega | (simp only [List.length_append,zQF,List.length_cons,List.length_nil]; omega)),zQo ([76,67]++beI 1 (s.bits)++beI 4 (s.c.a)) (s.c.b) 4 ⟨by omega,by omega⟩ (by first | omega | (simp only [List.length_append,zQF,List.length_cons,List.length_nil]; omega)),zQo ([76,67]++beI 1 (s.bits)++beI 4 (s.c.a)++beI 4 (s.c.b)) (s.c.c) 4 ⟨by omega,by omega⟩ (by first | omega | (simp only [List.length_append,zQF,List.length_cons,List.length_nil]; omega)),zQo ([76,67]++beI 1 (s.bits)++beI 4 (s.c.a)++beI 4 (s.c.b)++beI 4 (s.c.c)) (s.c.d) 4 ⟨by omega,by omega⟩ (by first | omega | (simp only [List.length_append,zQF,List.length_cons,List.length_nil]; omega)),zQo ([76,67]++beI 1 (s.bits)++beI 4 (s.c.a)++beI 4 (s.c.b)++beI 4 (s.c.c)++beI 4 (s.c.d)) (s.tw) 4 ⟨by omega,by omega⟩ (by first | omega | (simp only [List.length_append,zQF,List.length_cons,List.length_nil]; omega)),zQo ([76,67]++beI 1 (s.bits)++beI 4 (s.c.a)++beI 4 (s.c.b)++beI 4 (s.c.c)++beI 4 (s.c.d)++beI 4 (s.tw)) (s.th) 4 ⟨by omega,by omega⟩ (by first | omega | (simp only [List.length_append,zQF,List.length_cons,List.length_nil]; omega)),zQo ([76,67]++beI 1 (s.bits)++beI 4 (s.c.a)++beI 4 (s.c.b)++beI 4 (s.c.c)++beI 4 (s.c.d)++beI 4 (s.tw)++beI 4 (s.th)) ((s.ord.length:Int)) 4 ⟨by omega,by omega⟩ (by first | omega | (simp only [List.length_append,zQF,List.length_cons,List.length_nil]; omega)),⟨0,Nat.zero_le _,⟨by rw [eH],rfl⟩,by rw [eH]⟩,fun i hi=>⟨fun hlt=>?_,fun hge=>?_⟩⟩
      · have hi:i < s.ord.length:=by omega
        obtain ⟨q1,q2⟩:=jJM hi
        have w1:IntKind.wrap .i64 ((i:Int)+1)=((i+1:Nat):Int):=by rw [IntWalk.i64_in _ ⟨by omega,by omega⟩]; omega
        have pb:=zQo (encO s i) s.ord[i] 4 ⟨by omega,by omega⟩ (by have:=hO i; omega)
        have eS:=jJb hi
        simp only [Nat.mul_one,q2,w1]
        refine ⟨⟨by omega,by omega,by rw [zQW]; omega⟩,q1,pb,i+1,by omega,by omega,⟨?_,rfl⟩,?_⟩
        · rw [eS]
        · rw [eS]
      · have:i=s.ord.length:=by omega
        subst this
        have pb:=zQo (encO s s.ord.length) (s.ims.length:Int) 1 ⟨by omega,by omega⟩ (by have:=hO s.ord.length; omega)
        have eA:=jJ2 s
        refine ⟨pb,⟨0,Nat.zero_le _,⟨by rw [eA],rfl⟩,by rw [eA]⟩,fun k hk=>⟨fun hlt=>?_,fun hge=>?_⟩⟩
        · have hk:k < s.ims.length:=by omega
          have q1:=zVX hk
          have q2:=zVY hk
          have w1:IntKind.wrap .i64 ((k:Int)+1)=((k+1:Nat):Int):=by rw [IntWalk.i64_in _ ⟨by omega,by omega⟩]; omega
          have hfm:s.ims[k].formed=true:=by have:=E.fm; rw [List.all_eq_true] at this; exact this _ (List.getElem_mem hk)
          have hAk:=(hA k).2
          have bt:=zKL s.ims[k].so
          have em:=jVC hk
          have hMu:=hM _ (List.getElem_mem hk)
          have po:=zHV s.ims[k] hMu
          have hpx:=Im.pixels_len hfm
          have hpl:s.ims[k].pixels.length≤16777216:=by have:=(sizeIm_le' hfm); omega
          have ep0:s.ims[k].so=false→pxL s.ims[k]=s.ims[k].pixels:=fun h=>by unfold pxL; rw [if_neg (by rw [h]; simp)]
          have ep1:s.ims[k].so=true→pxL s.ims[k]=[s.ims[k].c]:=fun h=>by unfold pxL; rw [if_pos h]
          have hp2:(pxL s.ims[k]).length≤16777216:=by
            cases hc:s.ims[k].so
            · rw [ep0 hc]; exact hpl
            · rw [ep1 hc]; simp
          have eS:=jQI hk
          rw [jVG] at eS
          have eM:encA s k++beI 1 (if s.ims[k].so=true then 1 else 0)++beI 4 (s.ims[k].w)++beI 4 (s.ims[k].h)=encA s k++hdB s.ims[k]:=by
            unfold hdB
            simp only [putL,List.flatMap_cons,List.flatMap_nil,List.append_nil,List.append_assoc]
          simp only [q2,w1,em]
          refine ⟨⟨by omega,by omega,by rw [zZk]; omega⟩,q1,bt,zQo (encA s k) (if s.ims[k].so=true then 1 else 0) 1 ⟨by omega,by omega⟩ (by first | omega | (simp only [List.length_append,zQF,List.length_cons,List.length_nil]; omega)),zQo (encA s k++beI 1 (if s.ims[k].so=true then 1 else 0)) (s.ims[k].w) 4 ⟨by omega,by omega⟩ (by first | omega | (simp only [List.length_append,zQF,List.length_cons,List.length_nil]; omega)),zQo (encA s k++beI 1 (if s.ims[k].so=true then 1 else 0)++beI 4 (s.ims[k].w)) (s.ims[k].h) 4 ⟨by omega,by omega⟩ (by first | omega | (simp only [List.length_append,zQF,List.length_cons,List.length_nil]; omega)),?_⟩
          refine ⟨⟨fun h=>⟨po,0,rfl,⟨by rw [eM],?_⟩,by rw [eM],?_⟩,fun h=>⟨0,rfl,⟨by rw [eM],?_⟩,by rw [eM],?_⟩⟩,fun z _=>⟨⟨0,Nat.zero_le _,⟨by simp,rfl⟩,by simp⟩,fun q hq=>⟨?_,fun hlt=>?_,fun hge=>?_⟩⟩⟩
          · rw [ep0 h]
          · rw [ep0 h]
          · rw [ep1 h]; rfl
          · rw [ep1 h]; rfl
          · unfold maxLen; omega
          · have hq':q < (pxL s.ims[k]).length:=by omega
            have hpm:q < 16777216:=by omega
            have w2:IntKind.wrap .i64 ((q:Int)+1)=((q+1:Nat):Int):=by rw [IntWalk.i64_in _ ⟨by omega,by omega⟩]; omega
            obtain ⟨x0,x1,x2,x3,x4⟩:=zWZ hq'
            have n0:nAt (pxs (pxL s.ims[k])) (q*5)=(pxL s.ims[k])[q].a:=by simp [nAt,x0]
            have n1:nAt (pxs (pxL s.ims[k])) (q*5+1)=(pxL s.ims[k])[q].b:=by simp [nAt,x1]
            have n2:nAt (pxs (pxL s.ims[k])) (q*5+1+1)=(pxL s.ims[k])[q].c:=by simp [nAt,x2]
            have n3:nAt (pxs (pxL s.ims[k])) (q*5+1+1+1)=(pxL s.ims[k])[q].al:=by simp [nAt,x3]
            have n4:nAt (pxs (pxL s.ims[k])) (q*5+1+1+1+1)=(pxL s.ims[k])[q].f:=by simp [nAt,x4]
            simp only [n0,n1,n2,n3,n4,w2]
            have hL:(encA s k++hdB s.ims[k]++((pxL s.ims[k]).take q).flatMap pxB).length≤800000000:=by
              unfold hdB
              simp only [List.length_append,zQI,jZ0,List.length_take,List.length_cons,List.length_nil]
              omega
            have hT:encA s k++hdB s.ims[k]++((pxL s.ims[k]).take q).flatMap pxB++pxB (pxL s.ims[k])[q]=encA s k++hdB s.ims[k]++((pxL s.ims[k]).take (q+1)).flatMap pxB:=by
              rw [List.take_succ_eq_append_getElem hq',List.flatMap_append]
              simp only [List.append_assoc,List.flatMap_cons,List.flatMap_nil,List.append_nil]
            exact ⟨⟨by omega,by omega⟩,⟨x0,x1,x2,x3,x4⟩,zHM _ (pxL s.ims[k])[q] hL,q+1,by omega,by omega,⟨by rw [← hT],rfl⟩,by rw [← hT]⟩
          · have:q=(pxL s.ims[k]).length:=by omega
            subst this
            rw [List.take_length,List.append_assoc,← eS]
            exact ⟨k+1,by omega,by omega,⟨rfl,rfl⟩,rfl⟩
        · have:k=s.ims.length:=by omega
          subst this
          have hAl:=(hA s.ims.length).2
          have pb:=zQo (encA s s.ims.length) (s.ops.length:Int) 2 ⟨by omega,by omega⟩ (by omega)
          have eC:encA s s.ims.length++beI 2 (s.ops.length:Int)=encC s 0:=by
            unfold encC
            simp only [putL,List.take_zero,List.flatMap_cons,List.flatMap_nil,List.append_nil]
          refine ⟨pb,⟨0,Nat.zero_le _,⟨by rw [eC],rfl⟩,by rw [eC]⟩,fun j hj=>⟨fun hlt=>?_,fun hge=>?_⟩⟩
          · have hj:j < s.ops.length:=by omega
            have q1:=zVT hj
            have q2:=zUc hj
            have w1:IntKind.wrap .i64 ((j:Int)+1)=((j+1:Nat):Int):=by rw [IntWalk.i64_in _ ⟨by omega,by omega⟩]; omega
            have hCj:=hC j
            have eS:=jQH hj
            have b1:=zKL s.ops[j].iso
            have b2:=zKL s.ops[j].kno
            have eF:IntKind.wrap .i64 ((if s.ops[j].iso=true then 1 else 0)+IntKind.wrap .i64 (2*if s.ops[j].kno=true then 1 else 0))=zXe s.ops[j]:=by
              unfold zXe
              cases s.ops[j].iso <;> cases s.ops[j].kno <;> decide
            have eO:encC s j++beI 1 (s.ops[j].kind)++beI 1 (s.ops[j].image)++beI 4 (s.ops[j].x)++beI 4 (s.ops[j].y)++beI 1 (s.ops[j].mask)++beI 4 (s.ops[j].mx)++beI 4 (s.ops[j].my)++beI 2 (s.ops[j].opac)++beI 1 (s.ops[j].oper)++beI 1 (s.ops[j].mode)++beI 1 (zXe s.ops[j])=encC s (j+1):=by
              rw [eS]
              simp only [opB,putL,List.flatMap_cons,List.flatMap_nil,List.append_nil,List.append_assoc]
            have hop:=jVp hwO hj
            have w3:IntKind.wrap .i64 s.ops[j].opac=s.ops[j].opac:=IntWalk.i64_in _ ⟨by omega,by omega⟩
            simp only [q2,w1,eF,w3]
            refine ⟨⟨by omega,by omega,by rw [zQY]; omega⟩,q1,zQo (encC s j) (s.ops[j].kind) 1 ⟨by omega,by omega⟩ (by first | omega | (simp only [List.length_append,zQF,List.length_cons,List.length_nil]; omega)),zQo (encC s j++beI 1 (s.ops[j].kind)) (s.ops[j].image) 1 ⟨by omega,by omega⟩ (by first | omega | (simp only [List.length_append,zQF,List.length_cons,List.length_nil]; omega)),zQo (encC s j++beI 1 (s.ops[j].kind)++beI 1 (s.ops[j].image)) (s.ops[j].x) 4 ⟨by omega,by omega⟩ (by first | omega | (simp only [List.length_append,zQF,List.length_cons,List.length_nil]; omega)),zQo (encC s j++beI 1 (s.ops[j].kind)++beI 1 (s.ops[j].image)++beI 4 (s.ops[j].x)) (s.ops[j].y) 4 ⟨by omega,by omega⟩ (by first | omega | (simp only [List.length_append,zQF,List.length_cons,List.length_nil]; omega)),zQo (encC s j++beI 1 (s.ops[j].kind)++beI 1 (s.ops[j].image)++beI 4 (s.ops[j].x)++beI 4 (s.ops[j].y)) (s.ops[j].mask) 1 ⟨by omega,by omega⟩ (by first | omega | (simp only [List.length_append,zQF,List.length_cons,List.length_nil]; omega)),zQo (encC s j++beI 1 (s.ops[j].kind)++beI 1 (s.ops[j].image)++beI 4 (s.ops[j].x)++beI 4 (s.ops[j].y)++beI 1 (s.ops[j].mask)) (s.ops[j].mx) 4 ⟨by omega,by omega⟩ (by first | omega | (simp only [List.length_append,zQF,List.length_cons,List.length_nil]; omega)),zQo (encC s j++beI 1 (s.ops[j].kind)++beI 1 (s.ops[j].image)++beI 4 (s.ops[j].x)++beI 4 (s.ops[j].y)++beI 1 (s.ops[j].mask)++beI 4 (s.ops[j].mx)) (s.ops[j].my) 4 ⟨by omega,by omega⟩ (by first | omega | (simp only [List.length_append,zQF,List.length_cons,List.length_nil]; omega)),zQo (encC s j++beI 1 (s.ops[j].kind)++beI 1 (s.ops[j].image)++beI 4 (s.ops[j].x)++beI 4 (s.ops[j].y)++beI 1 (s.ops[j].mask)++beI 4 (s.ops[j].mx)++beI 4 (s.ops[j].my)) (s.ops[j].opac) 2 ⟨by omega,by omega⟩ (by first | omega | (simp only [List.length_append,zQF,List.length_cons,List.length_nil]; omega)),zQo (encC s j++beI 1 (s.ops[j].kind)++beI 1 (s.ops[j].image)++beI 4 (s.ops[j].x)++beI 4 (s.ops[j].y)++beI 1 (s.ops[j].mask)++beI 4 (s.ops[j].mx)++beI 4 (s.ops[j].my)++beI 2 (s.ops[j].opac)) (s.ops[j].oper) 1 ⟨by omega,by omega⟩ (by first | omega | (simp only [List.length_append,zQF,List.length_cons,List.length_nil]; omega)),zQo (encC s j++beI 1 (s.ops[j].kind)++beI 1 (s.ops[j].image)++beI 4 (s.ops[j].x)++beI 4 (s.ops[j].y)++beI 1 (s.ops[j].mask)++beI 4 (s.ops[j].mx)++beI 4 (s.ops[j].my)++beI 2 (s.ops[j].opac)++beI 1 (s.ops[j].oper)) (s.ops[j].mode) 1 ⟨by omega,by omega⟩ (by first | omega | (simp only [List.length_append,zQF,List.length_cons,List.length_nil]; omega)),b1,b2,zQo (encC s j++beI 1 (s.ops[j].kind)++beI 1 (s.ops[j].image)++beI 4 (s.ops[j].x)++beI 4 (s.ops[j].y)++beI 1 (s.ops[j].mask)++beI 4 (s.ops[j].mx)++beI 4 (s.ops[j].my)++beI 2 (s.ops[j].opac)++beI 1 (s.ops[j].oper)++beI 1 (s.ops[j].mode)) (zXe s.ops[j]) 1 ⟨by omega,by omega⟩ (by first | omega | (simp only [List.length_append,zQF,List.length_cons,List.length_nil]; omega)),j+1,by omega,by omega,⟨by rw [← eO],rfl⟩,by rw [← eO]⟩
          · have:j=s.ops.length:=by omega
            subst this
            rw [hT,jXv]
            exact ⟨⟨⟨rfl,rfl⟩,rfl⟩,jQG _ _ _⟩
end Go.Proofs.Ytlnfgagmiogkgaa
