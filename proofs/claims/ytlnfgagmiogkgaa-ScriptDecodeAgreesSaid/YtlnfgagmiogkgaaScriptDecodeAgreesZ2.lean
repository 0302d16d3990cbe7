/-
  Part 2 of what ScriptDecodeAgrees rests on.
-/
import Derived.Test.YtlnfgagmiogkgaaScriptDecodeAgreesZ1
import Derived.OrdersIn
import Derived.Deep.LoopGhost
import Derived.WalkKit
import Derived.ProofKit
import Derived.SizedLaws
import Derived.OpenShut
import Derived.Test.YtlnfgagmiogkgaaProg
namespace Go.Proofs.Ytlnfgagmiogkgaa
open Go.RowKit
set_option linter.unusedVariables false
set_option linter.unusedSimpArgs false
section
variable (P:Program) (Γ:Gam) (n:Dom) (ops:Array Oper)
def gv (s:AS) (o:Oper):Option Bool:=
  match o.guard with
  | none=>some true
  | some (j,want)=>match (ops[j]?).bind (·.dst) with
    | none=>none
    | some t=>match s.tm t with
      | .tup []=>some false
      | x=>x.bool?.map (·==want)
def zKG (i:Nat) (s:AS):Option (Prop × AS):=
  match ops[i]? with
  | none=>none
  | some o=>match gv ops s o with
    | none=>none
    | some true=>aop P Γ n o s
    | some false=>if jQJ n o then some (True,s.put o.dst (.tup [])) else none
def touch (i:Nat) (s:AS):List Nat × List Nat:=
  match ops[i]? with
  | none=>([],[])
  | some o=>match gv ops s o with
    | some true=>match zKB P Γ o s.eval with
      | some e=>e.touch s.bx
      | none=>([],[])
    | _=>([],[])
def Runs (τ:Nat→List Nat × List Nat):List Nat→AS→AS→Prop
  | [],s,s'=>s=s'
  | i::R,s,s'=>∃ vc s1,zKG P Γ n ops i s=some (vc,s1)∧vc∧touch P Γ ops i s=τ i∧Runs τ R s1 s'
def jKr (x y:List Nat × List Nat):Bool:=
  (x.2.all fun b=>!y.1.contains b && !y.2.contains b) && (y.2.all fun b=>!x.1.contains b)
def jZx (τ:Nat→List Nat × List Nat) (i j:Nat):Bool:=
  match ops[i]?,ops[j]? with
  | some x,some y=>x.apart ops y && jKr (τ i) (τ j)
  | _,_=>false
end
section
variable {P:Program} {Γ:Gam} {n:Dom} {ops:Array Oper}
theorem zVS (s:AS) (d:Option Nat) (v:AV) (t:Nat) (h:d≠some t):(s.put d v).tm t=s.tm t:=by
  cases d with
  | none=>rfl
  | some d=>simp only [AS.put]; rw [if_neg (fun e=>h (by rw [e]))]
theorem zKU (s:AS) (d:Option Nat) (v:AV):(s.put d v).bx=s.bx:=by cases d <;> rfl
theorem zZd:∀ (bs:List Nat) (Bs:List Bx) (s:AS) (b:Nat),b ∉ bs→(s.setBs bs Bs).bx b=s.bx b
  | [],_,_,_,_=>by simp [AS.setBs]
  | _::_,[],_,_,_=>by simp [AS.setBs]
  | x::bs,B::Bs,s,b,h=>by
    rw [AS.setBs,zZd bs Bs _ b (fun e=>h (by simp [e]))]
    simp only [AS.setB]
    rw [if_neg (fun e=>h (by simp [e]))]
theorem zXn:∀ (bs:List Nat) (Bs:List Bx) (s s':AS) (b:Nat),(b ∉ bs→s.bx b=s'.bx b)→(Bs.length < bs.length→s.bx b=s'.bx b)→(s.setBs bs Bs).bx b=(s'.setBs bs Bs).bx b
  | [],_,_,_,_,h,_=>by simpa [AS.setBs] using h (by simp)
  | _::_,[],_,_,_,_,h=>by simpa [AS.setBs] using h (by simp)
  | x::bs,B::Bs,s,s',b,h,h'=>by
    rw [AS.setBs,AS.setBs]
    by_cases e:b=x
    · refine zXn bs Bs _ _ b (fun _=>by simp [AS.setB,e]) (fun _=>by simp [AS.setB,e])
    · refine zXn bs Bs _ _ b (fun hb=>?_) (fun hl=>?_)
      · simp only [AS.setB,if_neg e]; exact h (by simp [e,hb])
      · simp only [AS.setB,if_neg e]; exact h' (by simpa using hl)
theorem zGZ {i:Nat} {s s1:AS} {vc:Prop} (h:zKG P Γ n ops i s=some (vc,s1)):∃ o v wrs bs,ops[i]?=some o∧wrs=(touch P Γ ops i s).2∧s1=(s.setBs wrs bs).put o.dst v:=by
  unfold zKG at h
  split at h
  · cases h
  · rename_i o ho
    split at h
    · cases h
    · rename_i hg
      unfold aop at h
      split at h
      · split at h
        · rename_i e he
          split at h
          · rename_i vc' v ws hf
            simp only [Option.some.injEq,Prod.mk.injEq] at h
            obtain ⟨rfl,rfl⟩:=h
            exact ⟨o,v,ws.map (·.1),ws.map (·.2),ho,by simp [touch,ho,hg,he,Eff2.touch,hf],rfl⟩
          · cases h
        · cases h
      · cases h
    · rename_i hg
      split at h
      · simp only [Option.some.injEq,Prod.mk.injEq] at h
        obtain ⟨rfl,rfl⟩:=h
        exact ⟨o,.tup [],[],[],ho,by simp [touch,ho,hg],by simp [AS.setBs]⟩
      · cases h
theorem zUQ {i:Nat} {o:Oper} (ho:ops[i]?=some o) {s s':AS} (htm:∀ t∈o.looksAt ops,s.tm t=s'.tm t) :
    (∀ b∈(touch P Γ ops i s).1,s.bx b=s'.bx b)→touch P Γ ops i s=touch P Γ ops i s'∧(∀ vc s1,zKG P Γ n ops i s=some (vc,s1) →
      ∃ v bs,s1=(s.setBs (touch P Γ ops i s).2 bs).put o.dst v∧zKG P Γ n ops i s'=some (vc,(s'.setBs (touch P Γ ops i s).2 bs).put o.dst v)):=by
  have hgv:gv ops s o=gv ops s' o:=by
    unfold gv
    cases hg:o.guard with
    | none=>rfl
    | some jw=>
      obtain ⟨j,want⟩:=jw
      simp only
      cases ht:(ops[j]?).bind (·.dst) with
      | none=>rfl
      | some t=>
        have:s.tm t=s'.tm t:=htm t (by simp [Oper.looksAt,hg,ht])
        simp only [this]
  have hev:∀ x∈o.op.operands,s.eval x=s'.eval x:=fun x hx=>by
    cases x with
    | tmp t=>exact htm t (by simp only [Oper.looksAt,List.mem_append,List.mem_filterMap]; exact .inl ⟨_,by simpa using hx,rfl⟩)
    | const v=>rfl
    | global g=>rfl
    | func f=>rfl
  have hprep:zKB P Γ o s.eval=zKB P Γ o s'.eval:=jZm hev
  intro hbx
  have htouch:touch P Γ ops i s=touch P Γ ops i s':=by
    simp only [touch,ho,← hgv,← hprep] at hbx ⊢
    cases hg:gv ops s o with
    | none=>rfl
    | some g=>
      cases g with
      | false=>rfl
      | true=>
        rw [hg] at hbx
        cases he:zKB P Γ o s.eval with
        | none=>rfl
        | some e=>
          rw [he] at hbx
          simp only at hbx ⊢
          exact e.touch_congr hbx
  refine ⟨htouch,fun vc s1 h=>?_⟩
  unfold zKG at h ⊢
  simp only [ho] at h ⊢
  rw [← hgv]
  cases hg:gv ops s o with
  | none=>rw [hg] at h; cases h
  | some g=>
    rw [hg] at h
    cases g with
    | false=>
      simp only at h ⊢
      split at h
      · rename_i hd
        simp only [Option.some.injEq,Prod.mk.injEq] at h
        obtain ⟨rfl,rfl⟩:=h
        have ht:(touch P Γ ops i s).2=[]:=by simp [touch,ho,hg]
        exact ⟨.tup [],[],by rw [ht]; simp [AS.setBs],by rw [ht,if_pos hd]; simp [AS.setBs]⟩
      · cases h
    | true=>
      simp only at h ⊢
      unfold aop at h ⊢
      split at h
      · rename_i hd
        rw [if_pos hd,← hprep]
        cases he:zKB P Γ o s.eval with
        | none=>rw [he] at h; cases h
        | some e=>
          rw [he] at h
          simp only at h ⊢
          have ht:touch P Γ ops i s=e.touch s.bx:=by simp [touch,ho,hg,he]
          rw [ht] at hbx
          obtain ⟨m1,m2⟩:=e.agree hbx
          rw [← m1] at m2 ⊢
          rw [← m2]
          cases hf:e.f (e.rds.map s.bx) ((e.more (e.rds.map s.bx)).map s.bx) with
          | none=>rw [hf] at h; cases h
          | some r=>
            obtain ⟨vc',v,ws⟩:=r
            rw [hf] at h
            simp only [Option.some.injEq,Prod.mk.injEq] at h ⊢
            obtain ⟨rfl,rfl⟩:=h
            have ht2:(touch P Γ ops i s).2=ws.map (·.1):=by rw [ht]; simp [Eff2.touch,hf]
            exact ⟨v,ws.map (·.2),by rw [ht2]; rfl,rfl,by rw [ht2]; rfl⟩
      · cases h
theorem swap {τ:Nat→List Nat × List Nat} {i j:Nat} (hi:jZx ops τ j i=true) {s s1 s2:AS} {v1 v2:Prop}
    (h1:zKG P Γ n ops j s=some (v1,s1)) (t1:touch P Γ ops j s=τ j) (h2:zKG P Γ n ops i s1=some (v2,s2)) (t2:touch P Γ ops i s1=τ i) :
    ∃ s1',zKG P Γ n ops i s=some (v2,s1')∧touch P Γ ops i s=τ i∧zKG P Γ n ops j s1'=some (v1,s2)∧touch P Γ ops j s1'=τ j:=by
  unfold jZx at hi
  split at hi
  · rename_i oj oi hoj hoi
    simp only [Bool.and_eq_true] at hi
    obtain ⟨hap,hb⟩:=hi
    obtain ⟨a1,a2,a3⟩:=Oper.apart_spec hap
    simp only [jKr,Bool.and_eq_true,List.all_eq_true,Bool.not_eq_true'] at hb
    obtain ⟨b1,b2⟩:=hb
    obtain ⟨o',v,wrs,bs,ho',hw,hs1⟩:=zGZ h1
    rw [hoj] at ho'
    injection ho' with ho'
    subst ho'
    rw [t1] at hw
    have htm1:∀ t∈oi.looksAt ops,s1.tm t=s.tm t:=fun t ht=>by
      rw [hs1,zVS _ _ _ _ (fun e=>a1 t e ht),zZa]
    have hbx1:∀ b,b ∉ (τ j).2→s1.bx b=s.bx b:=fun b hb=>by
      rw [hs1,zKU,zZd _ _ _ _ (by rw [hw]; exact hb)]
    obtain ⟨c1,c2⟩:=zUQ (P:=P) (Γ:=Γ) (n:=n) hoi htm1 (by
      rw [t2]
      exact fun b hb=>hbx1 b (fun hm=>by
        have:=b1 b hm
        simp only [List.contains_eq_mem,decide_eq_false_iff_not] at this
        exact this.1 hb))
    rw [t2] at c1 c2
    obtain ⟨v',bs',e1,e2⟩:=c2 _ _ h2
    have htm2:∀ t∈oj.looksAt ops,s.tm t=((s.setBs (τ i).2 bs').put oi.dst v').tm t:=fun t ht=>by
      rw [zVS _ _ _ _ (fun e=>a3 t e ht),zZa]
    obtain ⟨d1,d2⟩:=zUQ (P:=P) (Γ:=Γ) (n:=n) hoj htm2 (by
      rw [t1]
      intro b hb
      rw [zKU,zZd]
      intro hm
      have:=b2 b hm
      simp only [List.contains_eq_mem,decide_eq_false_iff_not] at this
      exact this hb)
    rw [t1] at d1 d2
    obtain ⟨v'',bs'',f1,f2⟩:=d2 _ _ h1
    refine ⟨_,e2,c1.symm,?_,d1.symm⟩
    rw [f2]
    congr 1
    congr 1
    rw [e1,f1]
    apply AS.ext'
    · funext t
      have q:∀ (s:AS) (d:Option Nat) (x:AV) (bs:List Nat) (Bs:List Bx),((s.setBs bs Bs).put d x).tm=(s.put d x).tm:=fun s d x bs Bs=>by
        cases d with
        | none=>simp [AS.put,zZa]
        | some d=>simp [AS.put,zZa]
      by_cases g1:oj.dst=some t
      · have g2:oi.dst≠some t:=a2 t g1
        rw [zVS _ oi.dst _ _ g2,zZa,g1]
        simp [AS.put]
      · rw [zVS _ oj.dst _ _ g1,zZa]
        by_cases g2:oi.dst=some t
        · rw [g2]; simp [AS.put]
        · rw [zVS _ oi.dst _ _ g2,zVS _ oi.dst _ _ g2,zZa,zZa,zVS _ oj.dst _ _ g1,zZa]
    · funext b
      rw [zKU,zKU]
      by_cases g1:b∈(τ j).2
      · have hni:b ∉ (τ i).2:=fun hm=>by
          have:=b1 b g1
          simp only [List.contains_eq_mem,decide_eq_false_iff_not] at this
          exact this.2 hm
        rw [zZd (τ i).2 bs' _ b hni,zKU]
        refine zXn _ _ _ _ _ (fun h=>absurd g1 h) (fun _=>?_)
        rw [zKU,zZd _ _ _ _ hni]
      · rw [zZd (τ j).2 bs'' _ b g1,zKU]
        refine zXn _ _ _ _ _ (fun _=>?_) (fun _=>?_) <;> rw [zKU,zZd _ _ _ _ g1]
  · cases hi
theorem jK9 {τ:Nat→List Nat × List Nat} {i:Nat} {B:List Nat} {s':AS}:∀ {A:List Nat} {s:AS},(∀ j∈A,jZx ops τ j i=true)→Runs P Γ n ops τ (A++i::B) s s' →
    ∃ vc s1,zKG P Γ n ops i s=some (vc,s1)∧vc∧touch P Γ ops i s=τ i∧Runs P Γ n ops τ (A++B) s1 s'
  | [],s,_,h=>h
  | j::A,s,hA,h=>by
    obtain ⟨vj,sj,h1,h2,h3,h4⟩:=h
    obtain ⟨vi,si,g1,g2,g3,g4⟩:=jK9 (fun k hk=>hA k (by simp [hk])) h4
    obtain ⟨s1',e1,e2,e3,e4⟩:=swap (hA j (by simp)) h1 h3 g1 g3
    exact ⟨vi,s1',e1,g2,e2,vj,si,e3,h2,e4,g4⟩
end
section
variable (ops:Array Oper)
def jZt (k:Nat) (t:List Nat):List Edge→Nat
  | []=>0
  | e::es=>match Region.binds .any e && decide (e.on < k) with
    | true=>(2 ^ e.on ||| t.getD e.on 0) ||| jZt k t es
    | false=>jZt k t es
def zJm:Nat→List Nat
  | 0=>[]
  | k+1=>zJm k++[match ops[k]? with
    | some o=>jZt k (zJm k) o.after.toList
    | none=>0]
def zXp (j i:Nat):Bool:=((zJm ops ops.size).getD i 0).testBit j
def jQV (listed:Array Bool):Prop:=∀ i o,ops[i]?=some o→listed.getD i true=true→i < listed.size→∀ e∈o.after.toList,Region.binds .any e=true→listed.getD e.on false=true
theorem zYL:∀ k,(zJm ops k).length=k
  | 0=>rfl
  | k+1=>by simp [zJm,zYL k]
theorem zJN:∀ {n k:Nat},k < n→(zJm ops n).getD k 0=match ops[k]? with
    | some o=>jZt k (zJm ops k) o.after.toList
    | none=>0
  | n+1,k,h=>by
    simp only [zJm,List.getD_eq_getElem?_getD]
    by_cases e:k < n
    · rw [List.getElem?_append_left (by rw [zYL]; exact e)]
      have:=zJN (n:=n) e
      rwa [List.getD_eq_getElem?_getD] at this
    · have:k=n:=by omega
      subst this
      rw [List.getElem?_append_right (by rw [zYL]; omega),zYL]
      simp
theorem zUj {k j:Nat} {t:List Nat}:∀ {es:List Edge},(jZt k t es).testBit j=true→∃ e∈es,Region.binds .any e=true∧e.on < k∧(e.on=j∨(t.getD e.on 0).testBit j=true)
  | [],h=>by simp [jZt] at h
  | e::es,h=>by
    simp only [jZt] at h
    cases hb:Region.binds .any e && decide (e.on < k) with
    | false=>
      rw [hb] at h
      obtain ⟨e',h1,h2⟩:=zUj h
      exact ⟨e',by simp [h1],h2⟩
    | true=>
      rw [hb] at h
      simp only [Nat.testBit_or,Bool.or_eq_true,Nat.testBit_two_pow] at h
      simp only [Bool.and_eq_true,decide_eq_true_eq] at hb
      rcases h with (h | h) | h
      · exact ⟨e,by simp,hb.1,hb.2,.inl (by simpa using h)⟩
      · exact ⟨e,by simp,hb.1,hb.2,.inr h⟩
      · obtain ⟨e',h1,h2⟩:=zUj h
        exact ⟨e',by simp [h1],h2⟩
theorem zVd {listed:Array Bool} (hc:jQV ops listed) (hsz:listed.size=ops.size):∀ (i j:Nat) (o:Oper),ops[i]?=some o→(∀ e∈o.after.toList,Region.binds .any e=true→listed.getD e.on false=true)→zXp ops j i=true→listed.getD j false=true:=by
  intro i
  induction i using Nat.strongRecOn with
  | ind i ih=>
    intro j o ho haft hb
    have hi:i < ops.size:=(Array.getElem?_eq_some_iff.1 ho).1
    unfold zXp at hb
    rw [zJN ops hi,ho] at hb
    obtain ⟨e,h1,h2,h3,h4⟩:=zUj hb
    have hl:=haft e h1 h2
    rcases h4 with rfl | h4
    · exact hl
    · have he:e.on < ops.size:=by omega
      refine ih e.on h3 j ops[e.on] (Array.getElem?_eq_getElem he) ?_ ?_
      · refine hc e.on _ (Array.getElem?_eq_getElem he) ?_ (by omega)
        have:e.on < listed.size:=by omega
        simp [Array.getD,this] at hl ⊢
        exact hl
      · unfold zXp
        rw [zJN ops he]
        rw [zJN ops h3] at h4
        exact h4
def jXN (τ:Nat→List Nat × List Nat):Bool:=
  (List.range ops.size).all fun i=>((ops[i]?).any fun o=>o.after.all fun e=>!Region.binds .any e || decide (e.on < i)) && (List.range i).all fun j=>zXp ops j i || jZx ops τ j i
end
section
variable {P:Program} {Γ:Gam} {n:Dom} {ops:Array Oper}
theorem zUD {w0:World} {S:zQP} {s:AS} {ι:zQi} {a:Act} {w:World} (h:RepS w0 S n s ι a w) {o:Oper} {g:Bool} (hg:gv ops s o=some g):Region.wanted o (yielded ops a.tmps)=g:=by
  unfold gv at hg
  unfold Region.wanted
  cases ho:o.guard with
  | none=>rw [ho] at hg; simp only [Option.some.injEq] at hg; exact hg
  | some jw=>
    obtain ⟨j,want⟩:=jw
    rw [ho] at hg
    simp only at hg ⊢
    cases ht:(ops[j]?).bind (·.dst) with
    | none=>rw [ht] at hg; cases hg
    | some t=>
      rw [ht] at hg
      simp only at hg
      have hr:=h.tm t
      unfold yielded
      rw [ht]
      simp only [Option.bind_some]
      split at hg
      · rename_i hs
        rw [hs] at hr
        simp only [zQe] at hr
        obtain ⟨cur,e,hc⟩:=hr
        have hcur:cur=#[]:=by
          cases hcl:cur.toList with
          | nil=>exact Array.toList_eq_nil_iff.1 hcl
          | cons _ _=>rw [hcl] at hc; simp only [RepAVs] at hc
        subst hcur
        simp only [Option.some.injEq] at hg
        subst hg
        rw [Array.getD_eq_getD_getElem?] at e
        cases hx:a.tmps[t]? with
        | none=>rfl
        | some x=>
          rw [hx] at e
          simp only [Option.getD_some] at e
          subst e
          rfl
      · cases hb:(s.tm t).bool? with
        | none=>rw [hb] at hg; cases hg
        | some b=>
          rw [hb] at hg
          simp only [Option.map_some,Option.some.injEq] at hg
          subst hg
          have e:=zZM hr hb
          rw [Array.getD_eq_getD_getElem?] at e
          cases hx:a.tmps[t]? with
          | none=>rw [hx] at e; simp [undef] at e
          | some x=>
            rw [hx] at e
            simp only [Option.getD_some] at e
            subst e
            simp only
            cases b <;> cases want <;> rfl
theorem zYQ {F:Fence} {m:Nat} (hF:Wide F) {w0:World} {S:zQP} {s s1:AS} {ι:zQi} {a:Act} {w:World} {i:Nat} {vc:Prop} (h:zKG P Γ n ops i s=some (vc,s1)) (hr:RepS w0 S n s ι a w) (hvc:vc) {K:Act→World→Prop} {Q:Exit→Act→World→Prop}
    (hK:∀ ι' a' w',RepS w0 S n s1 ι' a' w'→K a' w'):wpOpIn F m P ops Q i K a w:=by
  unfold zKG at h
  unfold Go.wpOpIn
  split at h
  · cases h
  · rename_i o ho
    simp only [ho]
    split at h
    · cases h
    · rename_i hg
      rw [if_pos (zUD hr hg)]
      exact Oper.wpIn_of_wp hF (jZJ h) (jJm h hr hvc hK)
    · rename_i hg
      rw [zUD hr hg,if_neg (by simp)]
      split at h
      · rename_i hd
        simp only [Option.some.injEq,Prod.mk.injEq] at h
        obtain ⟨rfl,rfl⟩:=h
        refine ⟨fun _ _=>hF.fn _,hK ι _ w (hr.put (fun k hk=>?_) (by simp only [zQe]; exact ⟨_,rfl,by simp only [RepAVs]⟩))⟩
        unfold jQJ at hd
        rw [hk] at hd
        simpa using hd
      · cases h
theorem zGu {F:Fence} {m:Nat} (hF:Wide F) {τ:Nat→List Nat × List Nat} {w0:World} {S:zQP} {Q:Exit→Act→World→Prop} {s':AS}:∀ {R:List Nat} {s:AS} {ι:zQi} {a:Act} {w:World},Runs P Γ n ops τ R s s'→RepS w0 S n s ι a w →
    (∀ ι' a' w',RepS w0 S n s' ι' a' w'→Q .normal a' w')→wpOpsIn F m P ops Q R a w
  | [],s,ι,a,w,h,hr,hQ=>by
    have h:s=s':=h
    subst h; exact hQ ι a w hr
  | i::R,s,ι,a,w,⟨vc,s1,h1,h2,_,h4⟩,hr,hQ=>by
    rw [wpOpsIn_cons]
    exact zYQ hF h1 hr h2 fun ι' a' w' hr'=>zGu hF h4 hr' hQ
def left (ops:Array Oper) (listed:Array Bool):List Nat:=(List.range ops.size).filter fun i=>!listed.getD i true
theorem jJq {F:Fence} {m:Nat} (hF:Wide F) {τ:Nat→List Nat × List Nat} (hok:jXN ops τ=true) {w0:World} {S:zQP} {Q:Exit→Act→World→Prop} {s':AS} (hQ:∀ ι' a' w',RepS w0 S n s' ι' a' w'→Q .normal a' w') :
    ∀ (fuel:Nat) (listed:Array Bool) (s:AS) (ι:zQi) (a:Act) (w:World),jQV ops listed→listed.size=ops.size→(left ops listed).length≤fuel→Runs P Γ n ops τ (left ops listed) s s'→RepS w0 S n s ι a w→wpAnyIn F m P .any ops Q fuel listed a w:=by
  simp only [jXN,List.all_eq_true,Bool.and_eq_true] at hok
  have hready:∀ (listed:Array Bool) i,i∈Region.ready .any ops listed↔i < ops.size∧listed.getD i true=false∧((ops[i]?).map (·.after.all fun e=>!Region.binds .any e || listed.getD e.on false)).getD false=true:=by
    intro listed i
    simp [Region.ready,List.mem_filter]
  have hempty:∀ listed:Array Bool,listed.size=ops.size→Region.ready .any ops listed=[]→left ops listed=[]:=by
    intro listed hsz hr
    cases hl:left ops listed with
    | nil=>rfl
    | cons i R=>
      exfalso
      have hi:i∈left ops listed:=by rw [hl]; simp
      simp only [left,List.mem_filter,List.mem_range,Bool.not_eq_true'] at hi
      have hsorted:∀ j,j < i→listed.getD j true=true:=by
        intro j hj
        cases hjv:listed.getD j true with
        | true=>rfl
        | false=>
          exfalso
          have hjm:j∈left ops listed:=by
            simp only [left,List.mem_filter,List.mem_range,Bool.not_eq_true']
            exact ⟨by omega,hjv⟩
          have hp:(left ops listed).Pairwise (· < ·):=List.Pairwise.filter _ List.pairwise_lt_range
          rw [hl] at hjm hp
          rcases List.mem_cons.1 hjm with e | hm
          · omega
          · have:=(List.pairwise_cons.1 hp).1 j hm
            omega
      have:i∈Region.ready .any ops listed:=by
        rw [hready]
        refine ⟨hi.1,hi.2,?_⟩
        have h1:=(hok i (List.mem_range.2 hi.1)).1
        cases ho:ops[i]? with
        | none=>rw [ho] at h1; simp at h1
        | some o=>
          rw [ho] at h1
          simp only [Option.any_some,Option.map_some,Option.getD_some] at h1 ⊢
          rw [Array.all_eq_true_iff_forall_mem] at h1 ⊢
          intro e he
          have h2:=h1 e he
          simp only [Bool.or_eq_true,Bool.not_eq_true',decide_eq_true_eq] at h2 ⊢
          rcases h2 with h2 | h2
          · exact .inl h2
          · right
            have h3:=hsorted e.on h2
            have hlt:e.on < listed.size:=by omega
            simp [Array.getD,hlt] at h3 ⊢
            exact h3
      rw [hr] at this
      simp at this
  intro fuel
  induction fuel with
  | zero=>
    intro listed s ι a w hcl hsz hl hruns hr
    have h0:left ops listed=[]:=List.eq_nil_of_length_eq_zero (by omega)
    rw [h0] at hruns
    have hs:s=s':=hruns
    subst hs
    refine ⟨?_,hQ ι a w hr⟩
    cases hre:Region.ready .any ops listed with
    | nil=>rfl
    | cons i R=>
      exfalso
      have:i∈Region.ready .any ops listed:=by rw [hre]; simp
      rw [hready] at this
      have hm:i∈left ops listed:=by
        simp only [left,List.mem_filter,List.mem_range,Bool.not_eq_true']
        exact ⟨this.1,this.2.1⟩
      rw [h0] at hm
      simp at hm
  | succ fuel ih=>
    intro listed s ι a w hcl hsz hl hruns hr
    refine ⟨fun he=>?_,fun i hi=>?_⟩
    · have h0:=hempty listed hsz he
      rw [h0] at hruns
      have hs:s=s':=hruns
      subst hs
      exact hQ ι a w hr
    · rw [hready] at hi
      obtain ⟨hlt,hnl,haft⟩:=hi
      have hm:i∈left ops listed:=by
        simp only [left,List.mem_filter,List.mem_range,Bool.not_eq_true']
        exact ⟨hlt,hnl⟩
      obtain ⟨A,B,hAB⟩:=List.append_of_mem hm
      have hp:(left ops listed).Pairwise (· < ·):=List.Pairwise.filter _ List.pairwise_lt_range
      rw [hAB] at hp
      have hA:∀ j∈A,j < i∧listed.getD j true=false:=fun j hj=>by
        refine ⟨(List.pairwise_append.1 hp).2.2 j hj i (by simp),?_⟩
        have:j∈left ops listed:=by rw [hAB]; simp [hj]
        simp only [left,List.mem_filter,List.mem_range,Bool.not_eq_true'] at this
        exact this.2
      have hind:∀ j∈A,jZx ops τ j i=true:=fun j hj=>by
        obtain ⟨h1,h2⟩:=hA j hj
        have h3:=(hok i (List.mem_range.2 hlt)).2 j (List.mem_range.2 h1)
        simp only [Bool.or_eq_true] at h3
        rcases h3 with h3 | h3
        · exfalso
          cases ho:ops[i]? with
          | none=>rw [ho] at haft; simp at haft
          | some o=>
            rw [ho] at haft
            simp only [Option.map_some,Option.getD_some] at haft
            have h4:=zVd ops hcl hsz i j o ho (fun e he hb=>by
              have:=Array.all_eq_true_iff_forall_mem.1 haft e (Array.mem_toList_iff.1 he)
              simpa [hb] using this) h3
            by_cases hlt':j < listed.size
            · simp [Array.getD,hlt'] at h2 h4
              rw [h2] at h4; cases h4
            · simp [Array.getD,hlt'] at h2
        · exact h3
      rw [hAB] at hruns
      obtain ⟨vc,s1,g1,g2,_,g4⟩:=jK9 hind hruns
      have hleft:left ops (listed.setIfInBounds i true)=A++B:=by
        have hnodup:(left ops listed).Nodup:=(List.nodup_range).filter _
        have e1:left ops (listed.setIfInBounds i true)=(left ops listed).filter fun k=>decide (k≠i):=by
          simp only [left,List.filter_filter]
          apply List.filter_congr
          intro k hk
          have hk':k < ops.size:=List.mem_range.1 hk
          by_cases e:k=i
          · subst e
            simp [Array.getD,hsz,hlt]
          · have:(listed.setIfInBounds i true).getD k true=listed.getD k true:=by
              simp only [Array.getD_eq_getD_getElem?,Array.getElem?_setIfInBounds_ne (Ne.symm e)]
            rw [this]; simp [e]
        rw [e1,hAB,List.filter_append,List.filter_cons]
        rw [hAB] at hnodup
        have hn:=List.nodup_append.1 hnodup
        have hA':A.filter (fun k=>decide (k≠i))=A:=List.filter_eq_self.2 fun k hk=>by
          have:=(hA k hk).1
          simp; omega
        have hB':B.filter (fun k=>decide (k≠i))=B:=List.filter_eq_self.2 fun k hk=>by
          have:i≠k:=fun e=>by
            have:=(List.nodup_cons.1 hn.2.1).1
            exact this (by rw [e]; exact hk)
          simp; exact Ne.symm this
        rw [hA',hB']
        simp
      refine zYQ hF g1 hr g2 fun ι' a' w' hr'=>?_
      have hcl2:jQV ops (listed.setIfInBounds i true):=by
        intro k ok hk hkl hks e he hb
        have hmono:∀ q,listed.getD q false=true→(listed.setIfInBounds i true).getD q false=true:=fun q hq=>by
          by_cases e':q=i
          · subst e'
            simp [Array.getD,hsz,hlt]
          · simp only [Array.getD_eq_getD_getElem?,Array.getElem?_setIfInBounds_ne (Ne.symm e')] at hq ⊢
            exact hq
        refine hmono _ ?_
        by_cases e':k=i
        · subst e'
          rw [hk] at haft
          simp only [Option.map_some,Option.getD_some] at haft
          have:=Array.all_eq_true_iff_forall_mem.1 haft e (Array.mem_toList_iff.1 he)
          simpa [hb] using this
        · have hkl':listed.getD k true=true:=by
            simp only [Array.getD_eq_getD_getElem?,Array.getElem?_setIfInBounds_ne (Ne.symm e')] at hkl ⊢
            exact hkl
          exact hcl k ok hk hkl' (by simpa using hks) e he hb
      refine ih _ s1 ι' a' w' hcl2 (by simpa using hsz) ?_ (by rw [hleft]; exact g4) hr'
      rw [hleft]
      have:(left ops listed).length=(A++B).length+1:=by rw [hAB]; simp; omega
      omega
end
abbrev Kn:=Nat→Option Bool
def kx (kn:Kn):Operand→Option Bool
  | .const (.bool b)=>some b
  | .tmp t=>kn t
  | _=>none
def knOf (kn:Kn):Op→Option Bool
  | .move x | .assign x=>kx kn x
  | .pick c x y=>match kx kn c with
    | some true=>kx kn x
    | some false=>kx kn y
    | none=>none
  | .unOp .not _ x=>(kx kn x).map (!·)
  | _=>none
def zYs (kn:Kn) (d:Option Nat) (b:Option Bool):Kn:=
  match d with
  | some d=>fun t=>if t=d then b else kn t
  | none=>kn
def jYr (x:AV) (b:Bool):AV:=
  match x with
  | .one (.d (.bool _))=>.one (.d (.bool b))
  | .one (.lit (.bool _))=>.one (.lit (.bool b))
  | x=>x
def AS.fix (s:AS) (t:Nat) (b:Bool):AS:=s.put (some t) (jYr (s.tm t) b)
def KnOK (kn:Kn) (s:AS):Prop:=∀ t b,kn t=some b→(s.tm t).bool?=some b
inductive Gd where
  | stuck
  | yes
  | no
  | ask (t:Nat) (b want:Bool)
def gd (ops:Array Oper) (kn:Kn) (s:AS) (o:Oper):Gd:=
  match o.guard with
  | none=>.yes
  | some (j,want)=>match (ops[j]?).bind (·.dst) with
    | none=>.stuck
    | some t=>match kn t with
      | some b=>if b=want then .yes else .no
      | none=>match s.tm t with
        | .tup []=>.no
        | .one (.d (.bool b))=>.ask t b want
        | .one (.lit (.bool b))=>.ask t b want
        | _=>.stuck
section
variable (P:Program) (Γ:Gam) (n:Dom)
def aopT (o:Oper) (s:AS):Option (Prop × AS × (List Nat × List Nat)):=
  if jQJ n o then
    match zKB P Γ o s.eval with
    | some e=>match e.f (e.rds.map s.bx) ((e.more (e.rds.map s.bx)).map s.bx) with
      | some (vc,v,ws)=>some (vc,(s.setL ws).put o.dst v,(e.rds++e.more (e.rds.map s.bx),ws.map (·.1)))
      | none=>none
    | none=>none
  else none
def zZ0 (ops:Array Oper):List Nat→Kn→AS→List (List Nat × List Nat)→(Kn→AS→List (List Nat × List Nat)→Prop)→Prop
  | [],kn,s,acc,Q=>Q kn s acc
  | i::R,kn,s,acc,Q=>
    match ops[i]? with
    | none=>False
    | some o=>match gd ops kn s o with
      | .stuck=>False
      | .yes=>match aopT P Γ n o s with
        | some (vc,s',t)=>vc∧zZ0 ops R (zYs kn o.dst (knOf kn o.op)) s' (t::acc) Q
        | none=>False
      | .no=>match jQJ n o with
        | true=>zZ0 ops R (zYs kn o.dst none) (s.put o.dst (.tup [])) (([],[])::acc) Q
        | false=>False
      | .ask t b want=>
        (b=want→match aopT P Γ n o (s.fix t want) with
          | some (vc,s',th)=>vc∧zZ0 ops R (zYs (zYs kn (some t) (some want)) o.dst (knOf (zYs kn (some t) (some want)) o.op)) s' (th::acc) Q
          | none=>False) ∧
        (b=(!want)→match jQJ n o with
          | true=>zZ0 ops R (zYs (zYs kn (some t) (some (!want))) o.dst none) ((s.fix t (!want)).put o.dst (.tup [])) (([],[])::acc) Q
          | false=>False)
end
theorem jX9 {x:AV} {b:Bool} (h:x.bool?=some b):jYr x b=x:=by
  unfold AV.bool? at h
  split at h
  · injection h with h; subst h; rfl
  · injection h with h; subst h; rfl
  · cases h
theorem zWD {s:AS} {t:Nat} {b:Bool} (h:(s.tm t).bool?=some b):s.fix t b=s:=by
  unfold AS.fix
  rw [jX9 h]
  apply AS.ext'
  · funext t'
    simp only [AS.put]
    split
    · rename_i e; rw [e]
    · rfl
  · rfl
theorem zUn {kn:Kn} {s:AS} (h:KnOK kn s) {x:Operand} {b:Bool} (hx:kx kn x=some b):(s.eval x).bool?=some b:=by
  unfold kx at hx
  split at hx
  · injection hx with hx; subst hx; rfl
  · exact h _ _ hx
  · cases hx
section
variable {P:Program} {Γ:Gam} {n:Dom} {ops:Array Oper}
theorem jJ3 {o:Oper} {s s':AS} {vc:Prop} {t:List Nat × List Nat} (h:aopT P Γ n o s=some (vc,s',t)):aop P Γ n o s=some (vc,s')∧∃ e,zKB P Γ o s.eval=some e∧t=e.touch s.bx:=by
  unfold aopT at h
  unfold aop
  split at h
  · rename_i hd
    rw [if_pos hd]
    split at h
    · rename_i e he
      split at h
      · rename_i vc' v ws hf
        simp only [Option.some.injEq,Prod.mk.injEq] at h
        obtain ⟨rfl,rfl,rfl⟩:=h
        refine ⟨?_,e,he,by simp [Eff2.touch,hf]⟩
        try rw [he]
        simp only [hf]
      · cases h
    · cases h
  · cases h
theorem jVD {kn:Kn} {s s':AS} (h:KnOK kn s) {o:Oper} {vc:Prop} (ha:aop P Γ n o s=some (vc,s')):KnOK (zYs kn o.dst (knOf kn o.op)) s':=by
  unfold aop at ha
  split at ha
  · split at ha
    · rename_i e he
      split at ha
      · rename_i vc' v bs hf
        simp only [Option.some.injEq,Prod.mk.injEq] at ha
        obtain ⟨rfl,rfl⟩:=ha
        intro t b hb
        cases hd:o.dst with
        | none=>
          rw [hd] at hb
          have hb:kn t=some b:=hb
          show ((s.setL bs).tm t).bool?=some b
          rw [AS.setL,zZa]
          exact h t b hb
        | some d=>
          rw [hd] at hb
          simp only [zYs] at hb
          by_cases e1:t=d
          · rw [if_pos e1] at hb
            simp only [AS.put,if_pos e1]
            unfold knOf at hb
            unfold zKB at he
            have he':(prep P Γ o s.eval).map Eff.up=some e:=by
              split at he
              · rename_i c hc
                rw [hc] at hb
                cases hb
              · exact he
            clear he
            obtain ⟨e0,he,rfl⟩:=Option.map_eq_some_iff.1 he'
            clear he'
            simp only [Eff.up] at hf
            obtain ⟨⟨vc0,v0,bs0⟩,hf2,hf'⟩:=Option.map_eq_some_iff.1 hf
            clear hf
            have hf:=hf2
            clear hf2
            simp only [Prod.mk.injEq] at hf'
            obtain ⟨rfl,rfl,rfl⟩:=hf'
            unfold prep at he
            split at hb
            · rename_i x hop
              rw [hop] at he
              simp only [Option.some.injEq] at he
              subst he
              simp only [Eff.val,Option.some.injEq,Prod.mk.injEq] at hf
              rw [← hf.2.1]; exact zUn h hb
            · rename_i x hop
              rw [hop] at he
              simp only [Option.some.injEq] at he
              subst he
              simp only [Eff.val,Option.some.injEq,Prod.mk.injEq] at hf
              rw [← hf.2.1]; exact zUn h hb
            · rename_i c x y hop
              rw [hop] at he
              simp only [jQl] at he
              split at hb
              · rename_i hc
                rw [zUn h hc] at he
                simp only [Option.some.injEq] at he
                subst he
                simp only [Eff.val,Option.some.injEq,Prod.mk.injEq] at hf
                rw [← hf.2.1]; exact zUn h hb
              · rename_i hc
                rw [zUn h hc] at he
                simp only [Option.some.injEq] at he
                subst he
                simp only [Eff.val,Option.some.injEq,Prod.mk.injEq] at hf
                rw [← hf.2.1]; exact zUn h hb
              · cases hb
            · rename_i t' x hop
              rw [hop] at he
              simp only [opUn] at he
              cases hx:kx kn x with
              | none=>rw [hx] at hb; cases hb
              | some bx=>
                rw [hx] at hb
                simp only [Option.map_some,Option.some.injEq] at hb
                have:=zUn h hx
                unfold AV.bool? at this
                split at this
                · rename_i b' hs
                  rw [hs] at he
                  simp only [Option.some.injEq] at this he
                  subst this he
                  simp only [Eff.val,Option.some.injEq,Prod.mk.injEq] at hf
                  rw [← hf.2.1,← hb]; rfl
                · rename_i b' hs
                  rw [hs] at he
                  simp only [Option.some.injEq] at this he
                  subst this he
                  simp only [Eff.val,Option.some.injEq,Prod.mk.injEq] at hf
                  rw [← hf.2.1,← hb]; rfl
                · cases this
            · cases hb
          · rw [if_neg e1] at hb
            simp only [AS.put,if_neg e1]
            rw [AS.setL,zZa]
            exact h t b hb
      · cases ha
    · cases ha
  · cases ha
theorem jXg {kn:Kn} {s:AS} (h:KnOK kn s) {t:Nat} {b:Bool} (ht:(s.tm t).bool?=some b):KnOK (zYs kn (some t) (some b)) s:=by
  intro t' b' hb
  simp only [zYs] at hb
  by_cases e:t'=t
  · rw [if_pos e] at hb; injection hb with hb; subst hb; rw [e]; exact ht
  · rw [if_neg e] at hb; exact h _ _ hb
theorem jKQ {kn:Kn} {s:AS} (h:KnOK kn s) (d:Option Nat):KnOK (zYs kn d none) (s.put d (.tup [])):=by
  intro t b hb
  cases d with
  | none=>exact h t b hb
  | some d=>
    simp only [zYs] at hb
    by_cases e:t=d
    · rw [if_pos e] at hb; cases hb
    · rw [if_neg e] at hb
      simp only [AS.put,if_neg e]
      exact h t b hb
def Ran (P:Program) (Γ:Gam) (n:Dom) (ops:Array Oper) (R:List Nat) (s:AS) (acc:List (List Nat × List Nat)) (Q:Kn→AS→List (List Nat × List Nat)→Prop):Prop:=
  ∃ (kn':Kn) (s':AS) (ts:List (List Nat × List Nat)),Q kn' s' (ts.reverse++acc)∧KnOK kn' s'∧ts.length=R.length∧∀ τ:Nat→List Nat × List Nat,(∀ (k:Nat) (i:Nat),R[k]?=some i→τ i=ts.getD k ([],[]))→Runs P Γ n ops τ R s s'
theorem zYd:∀ {R:List Nat} {kn:Kn} {s:AS} {acc:List (List Nat × List Nat)} {Q:Kn→AS→List (List Nat × List Nat)→Prop},zZ0 P Γ n ops R kn s acc Q→KnOK kn s →
    Ran P Γ n ops R s acc Q
  | [],kn,s,acc,Q,h,hk=>⟨kn,s,[],h,hk,rfl,fun τ _=>rfl⟩
  | i::R,kn,s,acc,Q,h,hk=>by
    have yes:∀ {o:Oper} {kn1:Kn},ops[i]?=some o→gv ops s o=some true→KnOK kn1 s→(match aopT P Γ n o s with
        | some (vc,s',t)=>vc∧zZ0 P Γ n ops R (zYs kn1 o.dst (knOf kn1 o.op)) s' (t::acc) Q
        | none=>False)→Ran P Γ n ops (i::R) s acc Q:=by
      intro o kn1 ho hg hk1 h
      split at h
      · rename_i vc s1 t ha
        obtain ⟨hvc,h⟩:=h
        obtain ⟨h1,e,he,rfl⟩:=jJ3 ha
        obtain ⟨kn',s',ts,g1,g2,g3,g4⟩:=zYd h (jVD hk1 h1)
        refine ⟨kn',s',e.touch s.bx::ts,by simpa using g1,g2,by simp [g3],fun τ hτ=>⟨vc,s1,by simp [zKG,ho,hg,h1],hvc,?_,g4 τ fun k j hj=>by simpa using hτ (k+1) j (by simpa using hj)⟩⟩
        have:=hτ 0 i rfl
        rw [this]
        simp [touch,ho,hg,he]
      · exact h.elim
    have no:∀ {o:Oper} {kn1:Kn},ops[i]?=some o→gv ops s o=some false→KnOK kn1 s→(match jQJ n o with
        | true=>zZ0 P Γ n ops R (zYs kn1 o.dst none) (s.put o.dst (.tup [])) (([],[])::acc) Q
        | false=>False)→Ran P Γ n ops (i::R) s acc Q:=by
      intro o kn1 ho hg hk1 h
      split at h
      · rename_i hd
        obtain ⟨kn',s',ts,g1,g2,g3,g4⟩:=zYd h (jKQ hk1 o.dst)
        refine ⟨kn',s',([],[])::ts,by simpa using g1,g2,by simp [g3],fun τ hτ=>⟨True,_,by simp only [zKG,ho,hg,hd,if_true],trivial,?_,g4 τ fun k j hj=>by simpa using hτ (k+1) j (by simpa using hj)⟩⟩
        have:=hτ 0 i rfl
        rw [this]
        simp [touch,ho,hg]
      · exact h.elim
    unfold zZ0 at h
    split at h
    · exact h.elim
    · rename_i o ho
      split at h
      · exact h.elim
      · rename_i hg
        have hgv:gv ops s o=some true:=by
          unfold gd at hg
          unfold gv
          cases hgu:o.guard with
          | none=>rfl
          | some jw=>
            obtain ⟨j,want⟩:=jw
            rw [hgu] at hg
            simp only at hg ⊢
            cases ht:(ops[j]?).bind (·.dst) with
            | none=>rw [ht] at hg; cases hg
            | some t=>
              rw [ht] at hg
              simp only at hg ⊢
              cases hkt:kn t with
              | some b=>
                rw [hkt] at hg
                simp only at hg
                split at hg
                · rename_i hbw
                  subst hbw
                  have hb:=hk t b hkt
                  split
                  · rename_i hs; rw [hs] at hb; simp [AV.bool?] at hb
                  · rw [hb]; simp
                · cases hg
              | none=>
                rw [hkt] at hg
                simp only at hg
                split at hg <;> cases hg
        exact yes ho hgv hk h
      · rename_i hg
        have hgv:gv ops s o=some false:=by
          unfold gd at hg
          unfold gv
          cases hgu:o.guard with
          | none=>rw [hgu] at hg; cases hg
          | some jw=>
            obtain ⟨j,want⟩:=jw
            rw [hgu] at hg
            simp only at hg ⊢
            cases ht:(ops[j]?).bind (·.dst) with
            | none=>rw [ht] at hg; cases hg
            | some t=>
              rw [ht] at hg
              simp only at hg ⊢
              cases hkt:kn t with
              | some b=>
                rw [hkt] at hg
                simp only at hg
                split at hg
                · cases hg
                · rename_i hbw
                  have hb:=hk t b hkt
                  split
                  · rfl
                  · rw [hb]; simp [hbw]
              | none=>
                rw [hkt] at hg
                simp only at hg
                split at hg
                · rename_i hs; simp [hs]
                · cases hg
                · cases hg
                · cases hg
        exact no ho hgv hk h
      · rename_i t b want hg
        have hgt:∃ j,o.guard=some (j,want)∧(ops[j]?).bind (·.dst)=some t∧(s.tm t).bool?=some b:=by
          unfold gd at hg
          cases hgu:o.guard with
          | none=>rw [hgu] at hg; cases hg
          | some jw=>
            obtain ⟨j,want'⟩:=jw
            rw [hgu] at hg
            simp only at hg
            cases ht:(ops[j]?).bind (·.dst) with
            | none=>rw [ht] at hg; cases hg
            | some t'=>
              rw [ht] at hg
              simp only at hg
              cases hkt:kn t' with
              | some b'=>rw [hkt] at hg; simp only at hg; split at hg <;> cases hg
              | none=>
                rw [hkt] at hg
                simp only at hg
                split at hg
                · cases hg
                · rename_i b' hs
                  simp only [Gd.ask.injEq] at hg
                  obtain ⟨rfl,rfl,rfl⟩:=hg
                  exact ⟨j,rfl,ht,by rw [hs]; rfl⟩
                · rename_i b' hs
                  simp only [Gd.ask.injEq] at hg
                  obtain ⟨rfl,rfl,rfl⟩:=hg
                  exact ⟨j,rfl,ht,by rw [hs]; rfl⟩
                · cases hg
        obtain ⟨j,h1,h2,h3⟩:=hgt
        have hgv:gv ops s o=some (b==want):=by
          unfold gv
          rw [h1]
          simp only [h2]
          split
          · rename_i hs; rw [hs] at h3; simp [AV.bool?] at h3
          · rw [h3]; simp
        by_cases hbw:b=want
        · subst hbw
          rw [zWD h3] at h
          exact yes ho (hgv.trans (by simp)) (jXg hk h3) (h.1 rfl)
        · have hbn:b=!want:=by cases b <;> cases want <;> simp_all
          subst hbn
          rw [zWD h3] at h
          exact no ho (hgv.trans (by cases want <;> rfl)) (jXg hk h3) (h.2 rfl)
end
def jXB (w:World):Bool × List DV→Value→Prop
  | (false,ds),v=>∃ d,ds=[d]∧d.plain=some v
  | (true,ds),v=>∃ g,v=.pointer (some ⟨g,0,none⟩)∧∀ i d,ds[i]?=some d→∃ u,d.plain=some u∧w.cell? ⟨g,i,none⟩=some u
def jQW (w:World):List (Bool × List DV)→List Value→Prop
  | [],[]=>True
  | c::cs,v::vs=>jXB w c v∧jQW w cs vs
  | _,_=>False
def zUL (ds:List DV):Array Value:=(ds.map fun d=>d.plain.getD undef).toArray
def AnsI (P:Program) (g:FuncId) (caps:List (Bool × List DV)) (N:Nat) (item:Nat→List DV):Prop:=
  ∀ (lb:Array Value) (l m:Nat) (J:Nat→World→Prop) (Jx:World→Prop),
    (∀ k W,J k W→jQW W caps lb.toList) →
    (∀ k W d,J k W→J k { W with drawn:=d })→(∀ W d,Jx W→Jx { W with drawn:=d }) →
    (∀ k W,k < N→J k W→YieldAt Fence.wide m P l (zUL (item k)) W fun e W'=>(e=.returned (.bool true)∧J (k+1) W')∨(e=.returned (.bool false)∧Jx W')) →
    ∀ W,J 0 W→CallsIn Fence.wide m P g (#[.func (.yield l) #[] #[]]++lb) W fun e W'=>(∃ v,e=.returned v)∧(J N W'∨Jx W')
def jJs (I:World→Prop) (Ix:Code→World→Prop) (W:World):Exit→Act→World→Prop
  | .normal,_,W'=>KeepsOthers W W'∧I W'
  | .ret,_,W'=>KeepsOthers W W'∧Ix .ret W'
  | .exit id,_,W'=>KeepsOthers W W'∧Ix (.exit id) W'
  | _,_,_=>False
def zV3 (B:Nat) (I:World→Prop):Prop:=
  ∀ W W' row,I W→W.grownBy W' row→(∀ r,row=some r→B≤r∧∃ o:Obj,W.heap[r]?=some o∧o.isCells=false)→I W'
theorem zV3.put {B:Nat} {I:World→Prop} (h:zV3 B I) {W:World} {l:Nat} {o:Obj} (o':Obj) (hs:I W) (hB:B≤l) (hl:W.heap[l]?=some o) (ho:o.isCells=false):I (W.putObj l o'):=
  h W _ (some l) hs (grownBy_putObj' W l o') (fun r e=>by cases e; exact ⟨hB,o,hl,ho⟩)
theorem zV3.new_ {B:Nat} {I:World→Prop} (h:zV3 B I) {W:World} (o:Obj) (hs:I W):I (W.alloc o):=
  h W _ none hs (World.grownBy_alloc W o none) (fun r e=>by cases e)
theorem zV3.drawn {B:Nat} {I:World→Prop} (h:zV3 B I) {W:World} (d:Nat) (hs:I W):I { W with drawn:=d }:=
  h W _ none hs ⟨rfl,rfl,rfl,Nat.le_refl _,fun _ _ _=>rfl⟩ (fun r e=>by cases e)
theorem jYC {P:Program} {g:Operand} {ps:Array Tmp} {assign body:Code} {Q:Exit→Act→World→Prop} {a:Act} {w:World} {m gf:Nat} {lb:Array Value}
    (hg:a.eval g=.func (.func gf) #[] lb) (eg:∀ args w,(callFunc gf args).run P w=.ok (.enter gf args) w)
    {caps:List (Bool × List DV)} {N:Nat} {item:Nat→List DV} (hseq:AnsI P gf caps N item) (hps:∀ k,k < N→(item k).length=ps.size)
    (I:Nat→World→Prop) (Ix:Code→World→Prop) (hI:∀ k,zV3 w.heap.size (I k)) (hIx:∀ c,zV3 w.heap.size (Ix c))
    (hcaps:∀ k W,I k W→jQW W caps lb.toList) (h0:I 0 w)
    (hround:∀ l k W,k < N→I k W →
      assign.wpIn (Fence.wide.inRound l) m P (Exit.then (fun a1 W1=>KeepsOthers W W1∧∀ W2,W1.grownBy W2 (some l)→w.heap.size≤l→(∃ r:Loop,W1.heap[l]?=some (.loop r)) →
        body.wpIn (Fence.wide.inRound l) m P (jJs (I (k+1)) Ix W2) a1 W2) (fun _ _ _=>False))
        { tmps:=(ps.zip (zUL (item k))).foldl (fun t (p,v)=>t.setIfInBounds p v) a.tmps,defers:=[] } W)
    (hdone:∀ (D:Nat) (W:World),w.heap.size≤D→I N W→W.heap[D]?=some (.deferred (some []))→Q .normal { a with defers:={ target:=.collected D,args:=#[] }::a.defers } W)
    (hstop:∀ (D:Nat) (c:Code) (W:World),w.heap.size≤D→Ix c W→W.heap[D]?=some (.deferred (some []))→c.wpIn Fence.wide m P Q { a with defers:={ target:=.collected D,args:=#[] }::a.defers } W) :
    (Code.rangeFunc g ps assign body).wpIn Fence.wide m P Q a w:=by
  refine wpIn_rangeFunc ?_
  intro fn hfn
  show ∃ (l:Nat) (mark:List Deferred) (w₁:World) (d:Deferred) (w₁':World) (f:FuncId) (args:Array Value) (w₂:World),(Instr.enterLoop fn a.tmps ps assign body none).run P w=_∧_
  obtain ⟨rec,hrec⟩:∃ rec:LoopState→Option Code→Loop,rec=fun st pe=>{ state:=st,pending:=pe,fn,tmps:=a.tmps,params:=ps,assign,body,defers:=w.heap.size }:=⟨_,rfl⟩
  obtain ⟨W1,hW1⟩:∃ W1,(w.alloc (.deferred (some []))).alloc (.loop (rec .ready none))=W1:=⟨_,rfl⟩
  have hL1:W1.heap[w.heap.size+1]?=some (.loop (rec .ready none)):=by
    rw [← hW1]; have:=World.alloc_heap_new (w.alloc (.deferred (some []))) (.loop (rec .ready none)); rwa [World.size_alloc] at this
  have hK1:W1.heap[w.heap.size]?=some (.deferred (some [])):=by
    rw [← hW1]; exact (Below.heap_alloc _ _ _ (by simp)).trans (World.alloc_heap_new w _)
  have hI1:I 0 W1:=by rw [← hW1]; exact (hI 0).new_ _ ((hI 0).new_ _ h0)
  refine ⟨w.heap.size+1,[{ target:=.collected w.heap.size,args:=#[] }],W1,{ target:=.fn (.func gf) lb,args:=#[.func (.yield (w.heap.size+1)) #[] #[]] },W1,gf,
    #[.func (.yield (w.heap.size+1)) #[] #[]]++lb,W1,?_,?_,?_,?_,fun h=>by (cases h),?_⟩
  · rw [← hW1,hrec]; exact run_enterLoop_outer _ _ _ _ _
  · simp only [resolve,hg]
    simp [go_sem]
  · intro f' hf'; trivial
  · simp [invoke,go_sem,eg]
  · refine CallsIn.mono (hseq lb (w.heap.size+1) (m - 1)
      (fun k W=>I k W∧W.heap[w.heap.size+1]?=some (.loop (rec .ready none))∧W.heap[w.heap.size]?=some (.deferred (some [])))
      (fun W=>∃ c,Ix c W∧W.heap[w.heap.size+1]?=some (.loop (rec .done (some c)))∧W.heap[w.heap.size]?=some (.deferred (some [])))
      (fun k W h=>hcaps k W h.1) (fun k W d h=>⟨(hI k).drawn d h.1,h.2.1,h.2.2⟩) (fun W d ⟨c,h1,h2,h3⟩=>⟨c,(hIx c).drawn d h1,h2,h3⟩) ?_ W1 ⟨hI1,hL1,hK1⟩) ?_
    ·
      rintro k W hk ⟨hi,hl,hkd⟩
      have hy:=run_yield (P:=P) (args:=zUL (item k)) hl (by rw [hrec]; simp only [zUL,List.size_toArray,List.length_map]; exact hps k hk)
      rw [hrec] at hy
      refine ⟨fn,_,assign,body,hy,roundIn_of_wpIn trivial ?_⟩
      have hr:=hround (w.heap.size+1) k W hk hi
      have hr:assign.wpIn (Fence.wide.inRound (w.heap.size+1)) (m - 1) P _ _ W:=fun b k cs h1 h2 _=>hr b k cs h1 h2 (Wide.room (.inr ⟨_,rfl⟩) _)
      refine wpIn_mono hr ?_
      intro e a1 Wa hq
      cases e with
      | normal=>
        obtain ⟨hka,hq⟩:=hq
        have hla:=hka.same _ _ hl rfl
        have hda:=hka.same _ _ hkd rfl
        have hbr:=run_beginRound (P:=P) hla (by rw [hrec])
        refine ⟨_,hbr,?_⟩
        have hlt:w.heap.size+1 < Wa.heap.size:=(Array.getElem?_eq_some_iff.1 hla).1
        have hl2:(Wa.putObj (w.heap.size+1) (.loop { rec .ready none with state:=.busy })).heap[w.heap.size+1]?=some (.loop { rec .ready none with state:=.busy }):=World.putObj_heap_same hlt
        have hk2:(Wa.putObj (w.heap.size+1) (.loop { rec .ready none with state:=.busy })).heap[w.heap.size]?=some (.deferred (some [])):=(World.putObj_heap_other (by omega)).trans hda
        have hb:=hq _ (grownBy_putObj' Wa (w.heap.size+1) (.loop { rec .ready none with state:=.busy })) (by omega) ⟨_,hla⟩
        have hb:body.wpIn (Fence.wide.inRound (w.heap.size+1)) (m - 1) P _ a1 _:=fun b k cs h1 h2 _=>hb b k cs h1 h2 (Wide.room (.inr ⟨_,rfl⟩) _)
        refine wpIn_mono hb ?_
        have fin:∀ (jump:Option Code) (W3:World),KeepsOthers (Wa.putObj (w.heap.size+1) (.loop { rec .ready none with state:=.busy })) W3 →
            (Instr.endRound (w.heap.size+1) jump).run P W3=.ok (.bool jump.isNone) (W3.putObj (w.heap.size+1) (.loop (rec (if jump.isNone then .ready else .done) jump))) ∧
            W3.heap[w.heap.size+1]?=some (.loop { rec .ready none with state:=.busy }) ∧
            (W3.putObj (w.heap.size+1) (.loop (rec (if jump.isNone then .ready else .done) jump))).heap[w.heap.size+1]?=some (.loop (rec (if jump.isNone then .ready else .done) jump)) ∧
            (W3.putObj (w.heap.size+1) (.loop (rec (if jump.isNone then .ready else .done) jump))).heap[w.heap.size]?=some (.deferred (some [])):=fun jump W3 hk3=>by
          have hl3:=hk3.same _ _ hl2 rfl
          have:=run_endRound (P:=P) jump hl3
          rw [hrec] at this ⊢
          exact ⟨this,by rw [hrec] at hl3; exact hl3,World.putObj_heap_same (Array.getElem?_eq_some_iff.1 hl3).1,(World.putObj_heap_other (by omega)).trans (hk3.same _ _ hk2 rfl)⟩
        intro e3 a3 W3 hp
        cases e3 with
        | normal=>
          obtain ⟨hk3,hi3⟩:=hp
          obtain ⟨hr,hl3,hl4,hk4⟩:=fin none W3 hk3
          exact ⟨_,_,hr,.inl ⟨rfl,(hI _).put _ hi3 (by omega) hl3 rfl,hl4,hk4⟩⟩
        | ret=>
          obtain ⟨hk3,hi3⟩:=hp
          obtain ⟨hr,hl3,hl4,hk4⟩:=fin (some .ret) W3 hk3
          exact ⟨_,_,hr,.inr ⟨rfl,.ret,(hIx _).put _ hi3 (by omega) hl3 rfl,hl4,hk4⟩⟩
        | exit id=>
          obtain ⟨hk3,hi3⟩:=hp
          obtain ⟨hr,hl3,hl4,hk4⟩:=fin (some (.exit id)) W3 hk3
          exact ⟨_,_,hr,.inr ⟨rfl,.exit id,(hIx _).put _ hi3 (by omega) hl3 rfl,hl4,hk4⟩⟩
        | goto t=>exact hp.elim
        | panic ch=>exact hp.elim
        | outgrown=>exact hp.elim
      | ret=>exact hq.elim
      | exit id=>exact hq.elim
      | goto t=>exact hq.elim
      | panic ch=>exact hq.elim
      | outgrown=>exact hq.elim
    ·
      rintro e W2 ⟨⟨v,rfl⟩,(⟨hi,hl,hk⟩ | ⟨c,hi,hl,hk⟩)⟩
      · exact ⟨none,_,by have:=run_endLoop (P:=P) hl (by rw [hrec]; simp); rw [hrec] at this; exact this,hdone _ _ (Nat.le_refl _) ((hI _).put _ hi (by omega) hl rfl) ((World.putObj_heap_other (by omega)).trans hk)⟩
      · exact ⟨some c,_,by have:=run_endLoop (P:=P) hl (by rw [hrec]; simp); rw [hrec] at this; exact this,hstop _ c _ (Nat.le_refl _) ((hIx c).put _ hi (by omega) hl rfl) ((World.putObj_heap_other (by omega)).trans hk)⟩
structure Snap where
  tm:List (Nat × AV)
  bx:List (Nat × Bx)
def jXV:List (Nat × AV)→Nat→AV
  | [],_=>.one .dead
  | (t',v)::r,t=>if t=t' then v else jXV r t
def zXj:List (Nat × Bx)→Nat→Bx
  | [],_=>.fresh
  | (t',v)::r,t=>if t=t' then v else zXj r t
def Snap.as (sn:Snap):AS:=⟨jXV sn.tm,zXj sn.bx⟩
abbrev Ren:=List (Nat × Option Nat)
def zKA:Ren→Nat→Option (Option Nat)
  | [],_=>none
  | (b',x)::r,b=>if b=b' then some x else zKA r b
def jXs:Cap→Cap→Option (Prop × Ren)
  | .d v,.d v'=>some (v'=v,[])
  | .ptr b off,.ptr b' off'=>some (off'=off,[(b,some b')])
  | _,_=>none
def zUJ:List Cap→List Cap→Option (Prop × Ren)
  | [],[]=>some (True,[])
  | c::cs,c'::cs'=>match jXs c c',zUJ cs cs' with
    | some (p,r),some (q,r')=>some (p∧q,r++r')
    | _,_=>none
  | _,_=>none
def jY5:Cl→Cl→Option (Prop × Ren)
  | .dead,_=>some (True,[])
  | .d v,.d v'=>some (v'=v,[])
  | .d v,.lit (.bool b)=>some (DV.bool b=v,[])
  | .d v,.nil=>some (DV.sl 0 []=v,[])
  | .lit u,.lit u'=>some (u'=u,[])
  | .nil,.nil=>some (True,[])
  | .ptr b off,.ptr b' off'=>some (off'=off,[(b,some b')])
  | .vp cs off,.vp cs' off'=>some (cs'=cs∧off'=off,[])
  | .ref b n,.ref b' n'=>some (n'=n,[(b,some b')])
  | .ref b n,.nil=>some (0=n,[(b,none)])
  | .clo f cs,.clo f' cs'=>if f'=f then zUJ cs cs' else none
  | _,_=>none
def zUH:List Cl→List Cl→Option (Prop × Ren)
  | [],[]=>some (True,[])
  | c::cs,c'::cs'=>match jY5 c c',zUH cs cs' with
    | some (p,r),some (q,r')=>some (p∧q,r++r')
    | _,_=>none
  | _,_=>none
def zGU:List Cl→Option (List DV)
  | []=>some []
  | .d v::cs=>match zGU cs with
    | some vs=>some (v::vs)
    | none=>none
  | _::_=>none
def jXr (cs cs':List Cl):Option (Prop × Ren):=match zGU cs,dvs cs' with
  | some xs,some ys=>some (ys=xs,[])
  | _,_=>zUH cs cs'
mutual
def zKE:AV→AV→Option (Prop × Ren)
  | .one c,.one c'=>jY5 c c'
  | .one .dead,_=>some (True,[])
  | .agg cs,.agg cs'=>jXr cs cs'
  | .tup vs,.tup vs'=>fitAVs vs vs'
  | _,_=>none
def fitAVs:List AV→List AV→Option (Prop × Ren)
  | [],[]=>some (True,[])
  | x::xs,y::ys=>match zKE x y,fitAVs xs ys with
    | some (p,r),some (q,r')=>some (p∧q,r++r')
    | _,_=>none
  | _,_=>none
end
def jY4 (s:AS):List (Nat × AV)→Option (Prop × Ren)
  | []=>some (True,[])
  | (t,v)::l=>match zKE v (s.tm t),jY4 s l with
    | some (p,r),some (q,r')=>some (p∧q,r++r')
    | _,_=>none
def jX4:Bx→Bx→Option (Prop × Ren)
  | .cells cs,.cells cs'=>jXr cs cs'
  | .row e size xs,.row e' size' xs'=>if e'=e∧size'=size then some (xs'=xs,[]) else none
  | .ice xs,.ice xs'=>some (xs'=xs,[])
  | .gone,.gone=>some (True,[])
  | _,_=>none
def zV2 (s:AS):List (Nat × Bx)→Ren→Option (Prop × Ren)
  | [],r=>some (True,r)
  | (b,B)::l,r=>match zKA r b with
    | some (some b')=>match jX4 B (s.bx b') with
      | some (p,r')=>match zV2 s l (r++r') with
        | some (q,r'')=>some (p∧q,r'')
        | none=>none
      | none=>none
    | some none=>match B with
      | .row _ _ xs=>match zV2 s l r with
        | some (q,r'')=>some ([]=xs∧q,r'')
        | none=>none
      | _=>none
    | none=>none
def jVv (bx:List (Nat × Bx)) (r:Ren):Bool:=
  (r.all fun p=>(zKA r p.1==some p.2) && bx.any fun q=>q.1==p.1) &&
  (r.all fun p=>r.all fun q=>p.1==q.1 || p.2==none || p.2 != q.2) && decide ((bx.map (·.1)).Nodup)
def pins (l:List Nat):Ren:=l.map fun j=>(j,some j)
def jVc (n:Dom) (s:AS) (sn:Snap):Prop:=
  match jY4 s sn.tm with
  | some (p,r)=>match zV2 s sn.bx (r++pins n.pin) with
    | some (q,r')=>match jVv sn.bx r' with
      | true=>p∧q
      | false=>False
    | none=>False
  | none=>False
def AS.melt1 (s:AS) (t:Nat):AS:=match s.tm t with
  | .one (.ref b n)=>match zZD (s.bx b) with
    | some xs=>⟨fun t'=>if t'=t then .one (.d (.sl n xs)) else s.tm t',fun b'=>if b'=b then (s.bx b).freeze else s.bx b'⟩
    | none=>s
  | _=>s
def meltFor:List (Nat × AV)→AS→AS
  | [],s=>s
  | (t,.one (.d _))::l,s=>meltFor l (s.melt1 t)
  | _::l,s=>meltFor l s
def fits (n:Dom) (s:AS) (sn:Snap):Prop:=jVc n (meltFor sn.tm s) sn
structure Inv where
  α:Type
  ok:α→Prop
  st:α→Snap
  μ:α→Nat
inductive Ann:Type 1 where
  | leaf
  | seq (a b:Ann)
  | loop (I:Inv) (a:I.α→Ann)
  | cut (I:Inv) (a:Ann) (b:I.α→Ann)
  | link (I:Inv) (a:I.α→Ann) (next:Ann)
  | split (a:Ann) (t:Nat) (bs:Ann)
  | opt (v:Int) (b:Ann) (next:Ann)
  | sure (b:Bool) (a:Ann)
  | ice (bs ts:List Nat) (a b:Ann)
  | splitAt (i t:Nat) (vs:List Int)
  | range (I:Inv) (T:List Nat) (a b:I.α→Ann)
def Ann.l:Ann→Ann
  | .seq a _=>a
  | _=>.leaf
def Ann.r:Ann→Ann
  | .seq _ b=>b
  | _=>.leaf
inductive zXf where
  | normal
  | exit (id:Nat)
  | ret
def kn0:Kn:=fun _=>none
def zUk (n:Dom):Ann→AS→Prop
  | .link I _ _,s=>∃ z,I.ok z∧fits n s (I.st z)
  | _,_=>False
def zK1 (n:Dom) (f:Ann→Kn→AS→(zXf→Kn→AS→Prop)→Prop) (Q:zXf→Kn→AS→Prop):Ann→Prop
  | .link I a next=>(∀ z,I.ok z→f (a z) kn0 (I.st z).as fun e kn' s'=>match e with
      | .normal=>zUk n next s'
      | e=>Q e kn' s')∧zK1 n f Q next
  | _=>True
def jJE (e:Int):Ann→Prop
  | .opt v _ next=>e=v∨jJE e next
  | _=>False
def jZ6 (f:Ann→Kn→AS→(zXf→Kn→AS→Prop)→Prop) (k:IntKind) (e:Int) (kn:Kn) (s:AS) (t:Nat) (Q:zXf→Kn→AS→Prop):Ann→Prop
  | .opt v b next=>(e=v→f b (zYs kn (some t) none) (s.put (some t) (.one (.d (.int k v)))) Q)∧jZ6 f k e kn s t Q next
  | _=>True
def jVz (f:Ann→Kn→AS→(zXf→Kn→AS→Prop)→Prop) (kn:Kn) (s:AS) (t:Nat) (bs:Ann) (Q:zXf→Kn→AS→Prop):Prop:=
  match s.tm t with
  | .one (.d (.int k e))=>jJE e bs∧jZ6 f k e kn s t Q bs
  | _=>False
def zHG (bx:Nat→Bx):Cap→Option (Bool × List DV)
  | .d v=>if v.plain.isSome then some (false,[v]) else none
  | .ptr b off=>if off=0 then match bx b with
    | .cells cs=>match dvs cs with
      | some ds=>if ds.all (fun d=>d.plain.isSome) then some (true,ds) else none
      | none=>none
    | _=>none else none
def zYO (bx:Nat→Bx):List Cap→Option (List (Bool × List DV))
  | []=>some []
  | c::cs=>match zHG bx c,zYO bx cs with
    | some x,some xs=>some (x::xs)
    | _,_=>none
def AS.only (T:List Nat) (s:AS):AS:=⟨fun t=>if T.contains t then s.tm t else .one .dead,s.bx⟩
def AS.putAll:AS→List Nat→List DV→AS
  | s,p::ps,d::ds=>(s.put (some p) (.one (.d d))).putAll ps ds
  | s,_,_=>s
def Dom.pinned (n:Dom) (names:List Nat):Dom:=⟨n.n,n.keep,n.pin++names,n.round⟩
def Dom.inner (n:Dom) (T names:List Nat):Dom:=⟨n.n,fun t=>n.keep t || T.contains t,n.pin++names,true⟩
def jYF:DV→Prop
  | .int k n=>k.min≤n∧n≤k.max
  | .bool _=>True
  | .str s=>s.size≤maxLen
  | _=>False
def zJI:List DV→Prop
  | []=>True
  | d::ds=>jYF d∧zJI ds
def psOK (ps T:List Nat) (n:Dom):Bool:=(ps.all fun p=>decide (p < n.n) && !T.contains p && !n.keep p) && decide ps.Nodup
abbrev VCF:=Dom→Ann→Kn→AS→(zXf→Kn→AS→Prop)→Prop
def jZj (P:Program) (Γ:Gam) (n:Dom) (fA fB:VCF) (g:Operand) (ps:List Nat) (I:Inv) (T:List Nat) (a b:I.α→Ann) (s:AS) (Q:zXf→Kn→AS→Prop):Prop:=
  match s.eval g with
  | .one (.clo f cs)=>match zYO s.bx cs,enters P f && !n.round && psOK ps T n with
    | some caps,true=>match Γ.iter f caps with
      | some (N,item)=>
        AnsI P f caps N item∧(∀ k,k < N→(item k).length=ps.length∧zJI (item k)) ∧
        (∃ z,I.ok z∧I.μ z=0∧fits (n.pinned (cs.flatMap Cap.names)) s (I.st z)) ∧
        (∀ z,I.ok z→zYO (zXj (I.st z).bx) cs=some caps ∧
          (I.μ z < N→fA (n.inner T (cs.flatMap Cap.names)) (a z) kn0 (((I.st z).as.only T).putAll ps (item (I.μ z))) fun e kn' s'=>match e with
            | .normal=>fB (n.inner T (cs.flatMap Cap.names)) (b z) kn' s' fun e kn' s'=>match e with
              | .normal=>∃ y,I.ok y∧I.μ y=I.μ z+1∧fits (n.inner T (cs.flatMap Cap.names)) s' (I.st y)
              | e=>Q e kn0 (s'.only T)
            | _=>False) ∧
          (I.μ z=N→Q .normal kn0 ((I.st z).as.only T)))
      | none=>False
    | _,_=>False
  | _=>False
def melts:AS→List Nat→AS
  | s,[]=>s
  | s,t::ts=>melts (s.melt1 t) ts
def orIs (e:Int):List Int→Prop
  | []=>False
  | v::vs=>e=v∨orIs e vs
def jJ4 (e:Int) (k:IntKind) (t:Nat) (s:AS) (K:AS→Prop):List Int→Prop
  | []=>True
  | v::vs=>(e=v→K (s.put (some t) (.one (.d (.int k v)))))∧jJ4 e k t s K vs
def jQ4 (vs:List Int) (t:Nat) (s:AS) (K:AS→Prop):Prop:=
  match s.tm t with
  | .one (.d (.int k e))=>orIs e vs∧jJ4 e k t s K vs
  | _=>False
def jJo (P:Program) (Γ:Gam) (n:Dom) (ops:Array Oper) (ann:Ann) (kn:Kn) (s:AS) (K:Kn→AS→List (List Nat × List Nat)→Prop):Prop:=
  match ann with
  | .splitAt i t vs=>zZ0 P Γ n ops ((List.range ops.size).take (i+1)) kn s [] fun kn' s' acc=>jQ4 vs t s' fun s2=>zZ0 P Γ n ops ((List.range ops.size).drop (i+1)) kn' s2 acc K
  | _=>zZ0 P Γ n ops (List.range ops.size) kn s [] K
def vcg (P:Program) (Γ:Gam):Dom→Code→Ann→Kn→AS→(zXf→Kn→AS→Prop)→Prop
  | _,.skip,_,kn,s,Q=>Q .normal kn s
  | _,.label _,_,kn,s,Q=>Q .normal kn s
  | _,.exit id,_,kn,s,Q=>Q (.exit id) kn s
  | _,.ret,_,kn,s,Q=>Q .ret kn s
  | n,.region _ ops draw,ann,kn,s,Q=>jJo P Γ n ops ann kn s fun kn' s' acc=>match draw with
    | true=>jXN ops (fun i=>acc.reverse.getD i ([],[]))=true∧Q .normal kn' s'
    | false=>Q .normal kn' s'
  | n,.seq x y,ann,kn,s,Q=>match ann with
    | .cut I a b=>vcg P Γ n x a kn s (fun e kn' s'=>match e with
        | .normal=>∃ z,I.ok z∧fits n s' (I.st z)
        | e=>Q e kn' s')∧∀ z,I.ok z→vcg P Γ n y (b z) kn0 (I.st z).as Q
    | .ice bs ts a b=>vcg P Γ n x a kn s fun e kn' s'=>match e with
        | .normal=>vcg P Γ n y b kn' (melts (ices s' bs) ts) Q
        | e=>Q e kn' s'
    | .split a t bs=>vcg P Γ n x a kn s fun e kn' s'=>match e with
        | .normal=>jVz (vcg P Γ n y) kn' s' t bs Q
        | e=>Q e kn' s'
    | ann=>vcg P Γ n x ann.l kn s fun e kn' s'=>match e with
        | .normal=>vcg P Γ n y ann.r kn' s' Q
        | e=>Q e kn' s'
  | n,.cond c x y,ann,kn,s,Q=>match ann with
    | .sure b a=>match (s.eval c).bool? with
      | some b'=>b'=b∧match b with
        | true=>vcg P Γ n x a kn s Q
        | false=>vcg P Γ n y a kn s Q
      | none=>False
    | ann=>match kx kn c with
      | some true=>vcg P Γ n x ann.l kn s Q
      | some false=>vcg P Γ n y ann.r kn s Q
      | none=>match (s.eval c).bool? with
        | some b=>(b=true→vcg P Γ n x ann.l kn s Q)∧(b=false→vcg P Γ n y ann.r kn s Q)
        | none=>False
  | n,.block id c,ann,kn,s,Q=>vcg P Γ n c ann kn s fun e kn' s'=>match e with
    | .exit id'=>match decide (id'=id) with
      | true=>Q .normal kn' s'
      | false=>Q (.exit id') kn' s'
    | e=>Q e kn' s'
  | n,.loop c,ann,kn,s,Q=>match ann with
    | .loop I a=>(∃ z,I.ok z∧fits n s (I.st z))∧∀ z,I.ok z→vcg P Γ n c (a z) kn0 (I.st z).as fun e kn' s'=>match e with
        | .normal=>∃ y,I.ok y∧I.μ y < I.μ z∧fits n s' (I.st y)
        | e=>Q e kn' s'
    | .link I a next=>zUk n (.link I a next) s∧zK1 n (vcg P Γ n c) Q (.link I a next)
    | _=>False
  | n,.rangeFunc g ps x y,ann,kn,s,Q=>match ann with
    | .range I T a b=>jZj P Γ n (fun n'=>vcg P Γ n' x) (fun n'=>vcg P Γ n' y) g ps.toList I T a b s Q
    | _=>False
  | _,_,_,_,_,_=>False
section
variable {w:World} {V:Nat→Prop} {ι:zQi} {bx:Nat→Bx}
def nm (ι:zQi) (r:Ren):zQi:=fun b=>match zKA r b with
  | some (some b')=>ι b'
  | _=>none
theorem jX3 {ι':zQi} {bx':Nat→Bx} {c c':Cap} {v:Value} {p:Prop} {r r':Ren} (hf:jXs c c'=some (p,r)) (hp:p) (hr:∀ q∈r,zKA r' q.1=some q.2∧(bx' q.1).known=true) (hι:∀ b,ι' b=nm ι r' b)
    (h:zKk ι bx w V c' v):zKk ι' bx' w V c v:=by
  unfold jXs at hf
  split at hf <;> first
    | (injection hf with hf; injection hf with hf1 hf2; subst hf1 hf2)
    | cases hf
  · subst hp; exact h
  · obtain ⟨h1,g,c,h2,h3⟩:=h
    subst hp
    obtain ⟨e1,e2⟩:=hr _ (List.mem_singleton.2 rfl)
    simp only at e1 e2
    exact ⟨e2,g,c,by rw [hι]; simp only [nm,e1]; exact h2,h3⟩
theorem zUI {ι':zQi} {bx':Nat→Bx} {r':Ren} (hι:∀ b,ι' b=nm ι r' b):∀ {cs cs':List Cap} {vs:List Value} {p:Prop} {r:Ren},zUJ cs cs'=some (p,r)→p→(∀ q∈r,zKA r' q.1=some q.2∧(bx' q.1).known=true) →
    zZG ι bx w V cs' vs→zZG ι' bx' w V cs vs
  | [],[],[],_,_,_,_,_,_=>trivial
  | [],[],_::_,_,_,_,_,_,h=>h.elim
  | c::cs,c'::cs',[],_,_,_,_,_,h=>h.elim
  | c::cs,c'::cs',v::vs,p,r,hf,hp,hr,h=>by
    simp only [zUJ] at hf
    cases h1:jXs c c' with
    | none=>rw [h1] at hf; cases hf
    | some x=>
      cases h2:zUJ cs cs' with
      | none=>rw [h1,h2] at hf; cases hf
      | some y=>
        rw [h1,h2] at hf
        simp only [Option.some.injEq,Prod.mk.injEq] at hf
        obtain ⟨rfl,rfl⟩:=hf
        exact ⟨jX3 h1 hp.1 (fun q hq=>hr q (by simp [hq])) hι h.1,zUI hι h2 hp.2 (fun q hq=>hr q (by simp [hq])) h.2⟩
  | [],_::_,_,_,_,hf,_,_,_=>by cases hf
  | _::_,[],_,_,_,hf,_,_,_=>by cases hf
theorem jQD {ι':zQi} {bx':Nat→Bx} {c c':Cl} {v:Value} {p:Prop} {r r':Ren} (hf:jY5 c c'=some (p,r)) (hp:p) (hr:∀ q∈r,zKA r' q.1=some q.2∧(bx' q.1).known=true) (hι:∀ b,ι' b=nm ι r' b)
    (h:zQu w V ι bx c' v):zQu w V ι' bx' c v:=by
  unfold jY5 at hf
  split at hf <;> first
    | (injection hf with hf; injection hf with hf1 hf2; subst hf1 hf2)
    | cases hf
    | skip
  · trivial
  · subst hp; exact h
  · subst hp; exact zXa (d:=.bool _) h rfl
  · subst hp; exact zXa (d:=.sl 0 []) h rfl
  · subst hp; exact h
  · exact h
  · obtain ⟨h1,g,c,h2,h3⟩:=h
    subst hp
    obtain ⟨e1,e2⟩:=hr _ (List.mem_singleton.2 rfl)
    simp only at e1 e2
    exact ⟨e2,g,c,by rw [hι]; simp only [nm,e1]; exact h2,h3⟩
  · obtain ⟨rfl,rfl⟩:=hp; exact h
  · obtain ⟨h1,h2⟩:=h
    subst hp
    obtain ⟨e1,e2⟩:=hr _ (List.mem_singleton.2 rfl)
    simp only at e1 e2
    exact ⟨e2,by rw [hι]; simp only [nm,e1]; exact h2⟩
  · subst hp
    obtain ⟨e1,e2⟩:=hr _ (List.mem_singleton.2 rfl)
    simp only at e1 e2
    exact ⟨e2,.inl ⟨by rw [hι]; simp only [nm,e1],rfl,h⟩⟩
  · split at hf
    · rename_i e
      subst e
      obtain ⟨lb,h1,h2⟩:=h
      exact ⟨lb,h1,zUI hι hf hp hr h2⟩
    · cases hf
theorem zUG {ι':zQi} {bx':Nat→Bx} {r':Ren} (hι:∀ b,ι' b=nm ι r' b):∀ {cs cs':List Cl} {vs:List Value} {p:Prop} {r:Ren},zUH cs cs'=some (p,r)→p→(∀ q∈r,zKA r' q.1=some q.2∧(bx' q.1).known=true) →
    zQK w V ι bx cs' vs→zQK w V ι' bx' cs vs
  | [],[],[],_,_,_,_,_,_=>trivial
  | [],[],_::_,_,_,_,_,_,h=>h.elim
  | c::cs,c'::cs',[],_,_,_,_,_,h=>h.elim
  | c::cs,c'::cs',v::vs,p,r,hf,hp,hr,h=>by
    simp only [zUH] at hf
    cases h1:jY5 c c' with
    | none=>rw [h1] at hf; cases hf
    | some x=>
      cases h2:zUH cs cs' with
      | none=>rw [h1,h2] at hf; cases hf
      | some y=>
        rw [h1,h2] at hf
        simp only [Option.some.injEq,Prod.mk.injEq] at hf
        obtain ⟨rfl,rfl⟩:=hf
        exact ⟨jQD h1 hp.1 (fun q hq=>hr q (by simp [hq])) hι h.1,zUG hι h2 hp.2 (fun q hq=>hr q (by simp [hq])) h.2⟩
  | [],_::_,_,_,_,hf,_,_,_=>by cases hf
  | _::_,[],_,_,_,hf,_,_,_=>by cases hf
theorem zGz {w:World} {V:Nat→Prop} {ι:zQi} {bx:Nat→Bx}:∀ {cs:List Cl} {vs:List Value} {ds:List DV},zGU cs=some ds→zQU w V ds vs→zQK w V ι bx cs vs
  | [],[],_,_,_=>trivial
  | [],_::_,ds,hd,h=>by simp only [zGU,Option.some.injEq] at hd; subst hd; exact h.elim
  | c::cs,vs,ds,hd,h=>by
    cases c <;> simp only [zGU,reduceCtorEq] at hd
    rename_i v
    cases h2:zGU cs with
    | none=>rw [h2] at hd; cases hd
    | some ds'=>
      rw [h2] at hd
      simp only [Option.some.injEq] at hd
      subst hd
      cases vs with
      | nil=>exact h.elim
      | cons u vs=>exact ⟨h.1,zGz h2 h.2⟩
theorem zGT {ι':zQi} {bx':Nat→Bx} {r':Ren} (hι:∀ b,ι' b=nm ι r' b) {cs cs':List Cl} {vs:List Value} {p:Prop} {r:Ren} (hf:jXr cs cs'=some (p,r)) (hp:p) (hr:∀ q∈r,zKA r' q.1=some q.2∧(bx' q.1).known=true)
    (h:zQK w V ι bx cs' vs):zQK w V ι' bx' cs vs:=by
  unfold jXr at hf
  split at hf
  · rename_i xs ys h1 h2
    simp only [Option.some.injEq,Prod.mk.injEq] at hf
    obtain ⟨rfl,rfl⟩:=hf
    subst hp
    exact zGz h1 (zKz h h2)
  · exact zUG hι hf hp hr h
mutual
theorem jQE {ι':zQi} {bx':Nat→Bx} {r':Ren} (hι:∀ b,ι' b=nm ι r' b):∀ {x y:AV} {v:Value} {p:Prop} {r:Ren},zKE x y=some (p,r)→p→(∀ q∈r,zKA r' q.1=some q.2∧(bx' q.1).known=true) →
    zQe w V ι bx y v→zQe w V ι' bx' x v
  | .one c,.one c',v,p,r,hf,hp,hr,h=>by
    simp only [zKE] at hf
    simp only [zQe] at h ⊢
    exact jQD hf hp hr hι h
  | .one c,.agg cs',v,p,r,hf,hp,hr,h=>by
    cases c <;> simp only [zKE,reduceCtorEq] at hf
    simp only [zQe,zQu]
  | .one c,.tup vs',v,p,r,hf,hp,hr,h=>by
    cases c <;> simp only [zKE,reduceCtorEq] at hf
    simp only [zQe,zQu]
  | .agg cs,.agg cs',v,p,r,hf,hp,hr,h=>by
    simp only [zKE] at hf
    simp only [zQe] at h ⊢
    obtain ⟨cur,e,h⟩:=h
    exact ⟨cur,e,zGT hι hf hp hr h⟩
  | .tup vs,.tup vs',v,p,r,hf,hp,hr,h=>by
    simp only [zKE] at hf
    simp only [zQe] at h ⊢
    obtain ⟨cur,e,h⟩:=h
    exact ⟨cur,e,fitAVs_rep hι hf hp hr h⟩
  | .agg _,.one _,_,_,_,hf,_,_,_=>by simp [zKE] at hf
  | .agg _,.tup _,_,_,_,hf,_,_,_=>by simp [zKE] at hf
  | .tup _,.one _,_,_,_,hf,_,_,_=>by simp [zKE] at hf
  | .tup _,.agg _,_,_,_,hf,_,_,_=>by simp [zKE] at hf
theorem fitAVs_rep {ι':zQi} {bx':Nat→Bx} {r':Ren} (hι:∀ b,ι' b=nm ι r' b):∀ {xs ys:List AV} {vs:List Value} {p:Prop} {r:Ren},fitAVs xs ys=some (p,r)→p→(∀ q∈r,zKA r' q.1=some q.2∧(bx' q.1).known=true) →
    RepAVs w V ι bx ys vs→RepAVs w V ι' bx' xs vs
  | [],[],vs,_,_,_,_,_,h=>by
    cases vs with
    | nil=>simp only [RepAVs]
    | cons _ _=>simp only [RepAVs] at h
  | x::xs,y::ys,[],_,_,_,_,_,h=>by simp only [RepAVs] at h
  | x::xs,y::ys,v::vs,p,r,hf,hp,hr,h=>by
    simp only [fitAVs] at hf
    cases h1:zKE x y with
    | none=>rw [h1] at hf; cases hf
    | some a=>
      cases h2:fitAVs xs ys with
      | none=>rw [h1,h2] at hf; cases hf
      | some b=>
        rw [h1,h2] at hf
        simp only [Option.some.injEq,Prod.mk.injEq] at hf
        obtain ⟨rfl,rfl⟩:=hf
        simp only [RepAVs] at h ⊢
        exact ⟨jQE hι h1 hp.1 (fun q hq=>hr q (by simp [hq])) h.1,fitAVs_rep hι h2 hp.2 (fun q hq=>hr q (by simp [hq])) h.2⟩
  | [],_::_,_,_,_,hf,_,_,_=>by simp [fitAVs] at hf
  | _::_,[],_,_,_,hf,_,_,_=>by simp [fitAVs] at hf
end
end
theorem jXo {s:AS}:∀ {l:List (Nat × AV)} {p:Prop} {r:Ren},jY4 s l=some (p,r)→p→∀ t,jXV l t=.one .dead∨∃ q r1,zKE (jXV l t) (s.tm t)=some (q,r1)∧q∧∀ x∈r1,x∈r
  | [],_,_,_,_,t=>.inl rfl
  | (t',v)::l,p,r,hf,hp,t=>by
    simp only [jY4] at hf
    cases h1:zKE v (s.tm t') with
    | none=>rw [h1] at hf; cases hf
    | some a=>
      cases h2:jY4 s l with
      | none=>rw [h1,h2] at hf; cases hf
      | some b=>
        rw [h1,h2] at hf
        simp only [Option.some.injEq,Prod.mk.injEq] at hf
        obtain ⟨rfl,rfl⟩:=hf
        simp only [jXV]
        by_cases e:t=t'
        · subst e
          rw [if_pos rfl]
          exact .inr ⟨a.1,a.2,h1,hp.1,fun x hx=>by simp [hx]⟩
        · rw [if_neg e]
          rcases jXo h2 hp.2 t with h3 | ⟨q,r1,h3,h4,h5⟩
          · exact .inl h3
          · exact .inr ⟨q,r1,h3,h4,fun x hx=>by simp [h5 x hx]⟩
theorem zZQ {s:AS}:∀ {l:List (Nat × Bx)} {r r':Ren} {p:Prop},zV2 s l r=some (p,r')→∀ x∈r,x∈r'
  | [],r,r',p,h,x,hx=>by simp only [zV2,Option.some.injEq,Prod.mk.injEq] at h; rw [← h.2]; exact hx
  | (b,B)::l,r,r',p,h,x,hx=>by
    simp only [zV2] at h
    split at h
    · split at h
      · split at h
        · rename_i h3
          simp only [Option.some.injEq,Prod.mk.injEq] at h
          rw [← h.2]
          exact zZQ h3 x (by simp [hx])
        · cases h
      · cases h
    · split at h
      · split at h
        · rename_i h3
          simp only [Option.some.injEq,Prod.mk.injEq] at h
          rw [← h.2]
          exact zZQ h3 x hx
        · cases h
      · cases h
    · cases h
theorem zWW:∀ {r:Ren} {b:Nat} {x:Option Nat},zKA r b=some x→(b,x)∈r
  | [],_,_,h=>by cases h
  | (b',y)::r,b,x,h=>by
    simp only [zKA] at h
    split at h
    · rename_i e; injection h with h; subst e h; simp
    · simp [zWW h]
theorem zK9 {s:AS}:∀ {l:List (Nat × Bx)} {r r':Ren} {p:Prop},zV2 s l r=some (p,r')→p→(l.map (·.1)).Nodup→∀ b B,(b,B)∈l →
    (∃ b' q r1,(b,some b')∈r'∧jX4 B (s.bx b')=some (q,r1)∧q∧∀ x∈r1,x∈r')∨((b,none)∈r'∧∃ e size,B=.row e size [])
  | (b0,B0)::l,r,r',p,h,hp,hn,b,B,hm=>by
    simp only [List.map_cons,List.nodup_cons] at hn
    simp only [zV2] at h
    split at h
    · rename_i b' hren
      split at h
      · rename_i q r1 h2
        split at h
        · rename_i q2 r2 h3
          simp only [Option.some.injEq,Prod.mk.injEq] at h
          obtain ⟨rfl,rfl⟩:=h
          rcases List.mem_cons.1 hm with e | hm
          · injection e with e1 e2
            subst e1 e2
            exact .inl ⟨b',q,r1,zZQ h3 _ (by simp [zWW hren]),h2,hp.1,fun x hx=>zZQ h3 x (by simp [hx])⟩
          · exact zK9 h3 hp.2 hn.2 b B hm
        · cases h
      · cases h
    · rename_i hren
      split at h
      · rename_i e size xs
        split at h
        · rename_i q2 r2 h3
          simp only [Option.some.injEq,Prod.mk.injEq] at h
          obtain ⟨rfl,rfl⟩:=h
          rcases List.mem_cons.1 hm with e' | hm
          · injection e' with e1 e2
            subst e1 e2
            exact .inr ⟨zZQ h3 _ (zWW hren),e,size,by rw [← hp.1]⟩
          · exact zK9 h3 hp.2 hn.2 b B hm
        · cases h
      · cases h
    · cases h
theorem jQp:∀ {l:List (Nat × Bx)} {b:Nat},(zXj l b).known=true→(b,zXj l b)∈l
  | [],_,h=>by simp [zXj,Bx.known] at h
  | (b',B)::l,b,h=>by
    simp only [zXj] at h ⊢
    by_cases e:b=b'
    · subst e; simp
    · rw [if_neg e] at h ⊢; simp [jQp h]
theorem zVV:∀ {l:List (Nat × Bx)} {b:Nat} {B:Bx},(l.map (·.1)).Nodup→(b,B)∈l→zXj l b=B
  | (b',B')::l,b,B,hn,h=>by
    simp only [List.map_cons,List.nodup_cons] at hn
    rcases List.mem_cons.1 h with e | h
    · injection e with e1 e2; subst e1 e2; simp [zXj]
    · have:b≠b':=fun e=>hn.1 (by rw [← e]; exact List.mem_map.2 ⟨_,h,rfl⟩)
      simp only [zXj,if_neg this]
      exact zVV hn.2 h
theorem RepS.fit0 {w0:World} {S:zQP} {n:Dom} {s:AS} {ι:zQi} {a:Act} {w:World} (h:RepS w0 S n s ι a w) {sn:Snap} (hf:jVc n s sn):∃ ι',RepS w0 S n sn.as ι' a w:=by
  unfold jVc at hf
  split at hf
  · rename_i p r h1
    split at hf
    · rename_i q r' h2
      split at hf
      · rename_i hok
        obtain ⟨hp,hq⟩:=hf
        simp only [jVv,Bool.and_eq_true,List.all_eq_true,decide_eq_true_eq] at hok
        obtain ⟨⟨o1,o2⟩,o3⟩:=hok
        have hren:∀ x∈r',zKA r' x.1=some x.2:=fun x hx=>by
          have:=(o1 x hx).1
          exact eq_of_beq this
        have hinj:∀ b1 b2 b',(b1,some b')∈r'→(b2,some b')∈r'→b1=b2:=fun b1 b2 b' m1 m2=>by
          have:=o2 _ m1 _ m2
          simpa using this
        have hat:∀ b,(zXj sn.bx b).known=true→(∃ b' q r1,(b,some b')∈r'∧jX4 (zXj sn.bx b) (s.bx b')=some (q,r1)∧q∧∀ x∈r1,x∈r')∨((b,none)∈r'∧∃ e size,zXj sn.bx b=.row e size []):=
          fun b hk=>zK9 h2 hq o3 b _ (jQp hk)
        have hbxk:∀ x∈r',(sn.as.bx x.1).known=true:=fun x hx=>by
          have:=(o1 x hx).2
          rw [List.any_eq_true] at this
          obtain ⟨y,hy,e⟩:=this
          have e:y.1=x.1:=eq_of_beq e
          have hy':(x.1,y.2)∈sn.bx:=by rw [← e]; exact hy
          have hl:=zVV o3 hy'
          show (zXj sn.bx x.1).known=true
          rw [hl]
          have hno:∀ B,(x.1,B)∈sn.bx→B.known=true:=fun B hB=>by
            rcases zK9 h2 hq o3 x.1 B hB with ⟨b',q,r1,_,hfb,_⟩ | ⟨_,e',size,rfl⟩
            · cases B <;> simp_all [jX4,Bx.known]
            · rfl
          exact hno _ hy'
        have hknown:∀ x∈r',zKA r' x.1=some x.2∧(sn.as.bx x.1).known=true:=fun x hx=>⟨hren x hx,hbxk x hx⟩
        have hlive:∀ b,(sn.as.bx b).live=true→(∃ b',(b,some b')∈r'∧(s.bx b').live=true∧nm ι r' b=ι b')∨nm ι r' b=none:=fun b hl=>by
          have hk:(zXj sn.bx b).known=true:=by
            have hl':(zXj sn.bx b).live=true:=hl
            cases hB:zXj sn.bx b <;> rw [hB] at hl' <;> first | rfl | cases hl'
          rcases hat b hk with ⟨b',q,r1,m,hfb,_⟩ | ⟨m,_⟩
          · left
            refine ⟨b',m,?_,by simp only [nm,hren _ m]⟩
            have hl':(zXj sn.bx b).live=true:=hl
            cases hB:zXj sn.bx b <;> cases hB':s.bx b' <;> rw [hB,hB'] at hfb <;> simp only [jX4,reduceCtorEq] at hfb <;> first | rfl | (rw [hB] at hl'; cases hl')
          · right; simp only [nm,hren _ m]
        have hkeep:zQ9 w (Seen S w0.heap.size s.bx ι) w (Seen S w0.heap.size sn.as.bx (nm ι r')):=fun g off u hV hu=>⟨⟨hV.1,fun b c hl e=>by
          rcases hlive b hl with ⟨b',_,hl',e'⟩ | e'
          · exact hV.2 b' c hl' (by rw [← e']; exact e)
          · rw [e'] at e; cases e⟩,hu⟩
        have hVmono:∀ {x:AV} {v:Value},zQe w (Seen S w0.heap.size s.bx ι) ι s.bx x v→zQe w (Seen S w0.heap.size sn.as.bx (nm ι r')) ι s.bx x v:=fun hx=>hx.keep (fun b hb=>⟨hb,rfl⟩) hkeep
        refine ⟨nm ι r',h.bel,h.marks,h.oth,h.size,h.fix,fun b hb=>?_,fun t=>?_,fun b=>?_,fun b g c hl e=>?_,fun b1 b2 g c c' hl hl' hne e=>?_,h.glob.keep hkeep⟩
        · have hm:(b,some b)∈r':=zZQ h2 _ (by simp only [pins,List.mem_append,List.mem_map]; exact .inr ⟨b,hb,rfl⟩)
          exact ⟨by simp only [nm,hren _ hm]; exact (h.pin b hb).1,hbxk _ hm⟩
        · rcases jXo h1 hp t with hd | ⟨q,r1,g1,g2,g3⟩
          · show zQe _ _ _ _ (jXV sn.tm t) _
            rw [hd]; simp only [zQe,zQu]
          · exact jQE (fun _=>rfl) g1 g2 (fun x hx=>hknown x (zZQ h2 x (by simp [g3 x hx]))) (hVmono (h.tm t))
        · show zZB _ _ _ _ b (zXj sn.bx b)
          cases hk:(zXj sn.bx b).known with
          | false=>cases hB:zXj sn.bx b <;> rw [hB] at hk <;> first | trivial | cases hk
          | true=>
            rcases hat b hk with ⟨b',q,r1,m,hfb,hq1,hr1⟩ | ⟨m,e,size,hB⟩
            · have hnm:nm ι r' b=ι b':=by simp only [nm,hren _ m]
              have hrb:=h.bx b'
              cases hB:zXj sn.bx b <;> cases hB':s.bx b' <;> rw [hB,hB'] at hfb <;> simp only [jX4,reduceCtorEq] at hfb <;> rw [hB'] at hrb
              · trivial
              · obtain ⟨g,c,cur,T,g1,g2,g3⟩:=hrb
                refine ⟨g,c,cur,T,by rw [hnm]; exact g1,g2,?_⟩
                exact zGT (fun _=>rfl) hfb hq1 (fun x hx=>hknown x (hr1 x hx)) (g3.keep (fun b hb=>⟨hb,rfl⟩) hkeep)
              · split at hfb
                · rename_i hes
                  simp only [Option.some.injEq,Prod.mk.injEq] at hfb
                  obtain ⟨rfl,rfl⟩:=hfb
                  subst hq1
                  obtain ⟨rfl,rfl⟩:=hes
                  rcases hrb with ⟨g1,g2⟩ | ⟨g,cap,cur,g1,g2,g3,g4,g5⟩
                  · exact .inl ⟨by rw [hnm]; exact g1,g2⟩
                  · exact .inr ⟨g,cap,cur,by rw [hnm]; exact g1,g2,g3,g4,g5.keep hkeep⟩
                · cases hfb
              · simp only [Option.some.injEq,Prod.mk.injEq] at hfb
                obtain ⟨rfl,rfl⟩:=hfb
                subst hq1
                rcases hrb with ⟨g1,g2⟩ | ⟨g,cap,g1,g2,g3⟩
                · exact .inl ⟨by rw [hnm]; exact g1,g2⟩
                · exact .inr ⟨g,cap,by rw [hnm]; exact g1,g2.keep hkeep,g3⟩
            · rw [hB]
              exact .inl ⟨by simp only [nm,hren _ m],rfl⟩
        · rcases hlive b hl with ⟨b',_,hl',e'⟩ | e'
          · exact h.own b' g c hl' (by rw [← e']; exact e)
          · rw [e'] at e; cases e
        · rcases hlive b1 hl with ⟨b1',m1,hl1,e1⟩ | e1
          · rcases hlive b2 hl' with ⟨b2',m2,hl2,e2⟩ | e2
            · rw [e1] at e
              rw [e2]
              refine h.dist b1' b2' g c c' hl1 hl2 (fun e'=>hne ?_) e
              subst e'
              exact hinj _ _ _ m1 m2
            · rw [e2]; simp
          · rw [e1] at e; cases e
      · exact hf.elim
    · exact hf.elim
  · exact hf.elim
theorem RepS.melt1 {w0:World} {S:zQP} {n:Dom} {s:AS} {ι:zQi} {a:Act} {w:World} (h:RepS w0 S n s ι a w) (t:Nat):RepS w0 S n (s.melt1 t) ι a w:=by
  unfold AS.melt1
  split
  · rename_i b m ht
    split
    · rename_i xs hin
      have h2:=h.freeze b
      refine ⟨h2.bel,h2.marks,h2.oth,h2.size,h2.fix,h2.pin,fun t'=>?_,h2.bx,h2.own,h2.dist,h2.glob⟩
      by_cases e:t'=t
      · subst e
        have hv:=h2.tm t'
        have hb:=h2.bx b
        have e1:(s.setB b (s.bx b).freeze).bx b=.ice xs:=by
          simp only [AS.setB,if_true]
          revert hin
          cases s.bx b <;> intro hin <;> simp only [zZD,Option.some.injEq,reduceCtorEq] at hin <;> subst hin <;> rfl
        have e2:(s.setB b (s.bx b).freeze).tm t'=.one (.ref b m):=ht
        rw [e2] at hv
        rw [e1] at hb
        show zQe _ _ _ _ (if t'=t' then .one (.d (.sl m xs)) else s.tm t') _
        rw [if_pos rfl]
        simp only [zQe,zQu] at hv ⊢
        simp only [RepD]
        obtain ⟨_,hv⟩:=hv
        rcases hb with ⟨g1,g2⟩ | ⟨g,cap,g1,g2,g3⟩
        · subst g2
          rcases hv with ⟨_,q1,q2⟩ | ⟨g',cap',q1,_⟩
          · exact ⟨none,0,by rw [q1]; exact q2,by omega,Nat.zero_le _,fun hne=>absurd rfl hne⟩
          · rw [g1] at q1; cases q1
        · rcases hv with ⟨q1,_⟩ | ⟨g',cap',q1,q2,q3⟩
          · rw [g1] at q1; cases q1
          · rw [g1] at q1
            simp only [Option.some.injEq,Prod.mk.injEq] at q1
            obtain ⟨rfl,rfl⟩:=q1
            exact ⟨_,cap,q2,q3,g3,fun hne=>⟨g,0,rfl,g2 hne⟩⟩
      · have:=h2.tm t'
        show zQe _ _ _ _ (if t'=t then .one (.d (.sl m xs)) else s.tm t') _
        rw [if_neg e]
        exact this
    · exact h
  · exact h
theorem RepS.meltFor {w0:World} {S:zQP} {n:Dom} {ι:zQi} {a:Act} {w:World}:∀ (l:List (Nat × AV)) {s:AS},RepS w0 S n s ι a w→RepS w0 S n (meltFor l s) ι a w
  | [],_,h=>h
  | (t,v)::l,s,h=>by
    unfold Go.Proofs.Ytlnfgagmiogkgaa.meltFor
    split
    · rename_i e; cases e
    · rename_i t' d l' e
      injection e with e1 e2
      injection e1 with e3 e4
      subst e2 e3
      exact RepS.meltFor _ (h.melt1 _)
    · rename_i p l' _ e
      injection e with e1 e2
      subst e2
      exact RepS.meltFor _ h
theorem RepS.fit {w0:World} {S:zQP} {n:Dom} {s:AS} {ι:zQi} {a:Act} {w:World} (h:RepS w0 S n s ι a w) {sn:Snap} (hf:fits n s sn):∃ ι',RepS w0 S n sn.as ι' a w:=
  (h.meltFor sn.tm).fit0 hf
def zXf.exit_:zXf→Exit
  | .normal=>.normal
  | .exit id=>.exit id
  | .ret=>.ret
section
variable {P:Program} {Γ:Gam}
theorem zYZ (s:AS):KnOK kn0 s:=fun _ _ h=>by cases h
theorem RepS.turn {w0:World} {S:zQP} {n:Dom} {s:AS} {ι:zQi} {a:Act} {w w':World} (h:RepS w0 S n s ι a w) {row:Option Nat} (hg:w.grownBy w' row)
    (hr:∀ r,row=some r→w0.heap.size≤r∧∃ o:Obj,w.heap[r]?=some o∧o.isCells=false) {ds:List Deferred} (hm:zGo w0 ds w') {ref:World} (ho:KeepsOthers ref w') :
    RepS w0 { S with ref:=ref } n s ι { a with defers:=ds } w':=by
  have hk:zQ9 w (Seen S w0.heap.size s.bx ι) w' (Seen { S with ref:=ref } w0.heap.size s.bx ι):=fun g off u hV hu=>⟨hV,cell_kept hu hg fun r e=>(hr r e).2⟩
  have hl:∀ b g c,(s.bx b).live=true→ι b=some (g,c)→w'.heap[g]?=w.heap[g]?:=fun b g c hb hι=>by
    refine hg.block g (h.own b g c hb hι).2 fun e=>?_
    obtain ⟨o,h1,h2⟩:=(hr g e.symm).2
    obtain ⟨cur,T,i,h3⟩:=h.live_cells hb hι
    rw [h3] at h1
    injection h1 with h1
    subst h1
    cases h2
  refine ⟨⟨hg.os.trans h.bel.os,hg.tape.trans h.bel.tape,hg.output.trans h.bel.output,Nat.le_trans h.bel.size hg.size,fun g h1 h2=>?_⟩,hm,ho,h.size,h.fix,h.pin,fun t=>(h.tm t).keep (fun b hb=>⟨hb,rfl⟩) hk,fun b=>?_,
    fun b g c hb hι=>⟨(h.own b g c hb hι).1,Nat.lt_of_lt_of_le (h.own b g c hb hι).2 hg.size⟩,h.dist,h.glob.keep hk⟩
  · refine (hg.block g (Nat.lt_of_lt_of_le h1 h.bel.size) fun e=>?_).trans (h.bel.block g h1 h2)
    have:=(hr g e.symm).1
    omega
  · cases hkn:(s.bx b).known with
    | true=>exact zZB.keep (fun b hb=>⟨hb,rfl⟩) hk hkn hkn (fun hb g c hι=>hl b g c hb hι) (h.bx b)
    | false=>cases hB:s.bx b <;> rw [hB] at hkn <;> first | trivial | (simp [Bx.known] at hkn)
theorem zJQ {ref w w':World} {row:Option Nat} {B:Nat} (h:KeepsOthers ref w) (hg:w.grownBy w' row) (hr:∀ r,row=some r→B≤r) (hB:ref.heap.size≤B):KeepsOthers ref w':=
  ⟨Nat.le_trans h.size hg.size,fun k o hk ho=>by
    have hlt:k < ref.heap.size:=(Array.getElem?_eq_some_iff.1 hk).1
    refine (hg.block k (Nat.lt_of_lt_of_le hlt h.size) fun e=>?_).trans (h.same k o hk ho)
    have:=hr k e.symm
    omega⟩
theorem zGJ {w0 w w':World} {ds:List Deferred} {row:Option Nat} {B:Nat} (h:zGo w0 ds w) (hg:w.grownBy w' row) (hr:∀ r,row=some r→B≤r) (hB:∀ d∈ds,∀ D,d={ target:=.collected D,args:=#[] }→D < B):zGo w0 ds w':=
  ⟨h.1,fun d hd=>by
    obtain ⟨D,e,h1,h2⟩:=h.2 d hd
    refine ⟨D,e,h1,(hg.block D (Array.getElem?_eq_some_iff.1 h2).1 fun e'=>?_).trans h2⟩
    have:=hr D e'.symm
    have:=hB d hd D e
    omega⟩
theorem zG2 {n:Dom} {F:Fence} (hF:Wide F) {m id:Nat} {ops:Array Oper} {draw:Bool} {kn:Kn} {s:AS} {Q:zXf→Kn→AS→Prop} (hm:P.follows .mixedOrders=true) (h:zZ0 P Γ n ops (List.range ops.size) kn s [] fun kn' s' acc=>match draw with
    | true=>jXN ops (fun i=>acc.reverse.getD i ([],[]))=true∧Q .normal kn' s'
    | false=>Q .normal kn' s') (hk:KnOK kn s) {w0:World} {S:zQP} {ι:zQi} {a:Act} {w:World} (hr:RepS w0 S n s ι a w) {Q':Exit→Act→World→Prop}
    (hQ:∀ e kn' s' ι' a' w',Q e kn' s'→KnOK kn' s'→RepS w0 S n s' ι' a' w'→Q' e.exit_ a' w'):(Code.region id ops draw).wpIn F m P Q' a w:=by
  obtain ⟨kn',s',ts,h1,h2,h3,h4⟩:=zYd h hk
  have hτ:∀ (k i:Nat),(List.range ops.size)[k]?=some i→(fun i=>(ts.reverse++[]).reverse.getD i ([],[])) i=ts.getD k ([],[]):=fun k i hi=>by
    have:k=i:=by
      have hlt:=(List.getElem?_eq_some_iff.1 hi).1
      simp at hlt
      simp [hlt] at hi
      exact hi
    subst this
    simp
  have hruns:=h4 _ hτ
  cases draw with
  | false=>
    simp only at h1
    exact wpIn_region (zGu hF hruns hr fun ι' a' w' hr'=>hQ .normal kn' s' ι' a' w' h1 h2 hr')
  | true=>
    simp only at h1
    obtain ⟨hok,h1⟩:=h1
    refine wpIn_region_any hm ?_
    have hleft:left ops (Array.replicate ops.size false)=List.range ops.size:=by
      unfold left
      rw [List.filter_eq_self]
      intro i hi
      have:i < ops.size:=List.mem_range.1 hi
      simp [Array.getD,this]
    have hr1:RepS w0 S n s ι a { w with drawn:=w.drawn+1 }:=hr.quiet ⟨hr.bel.os,hr.bel.tape,hr.bel.output,hr.bel.size,hr.bel.block⟩ rfl
    exact jJq hF hok (fun ι' a' w' hr'=>hQ .normal kn' s' ι' a' w' h1 h2 hr') ops.size _ s ι a _ (fun i o ho hl hs=>by
      have:i < ops.size:=by simpa using hs
      simp [Array.getD,this] at hl) (by simp) (by rw [hleft]; simp) (by rw [hleft]; exact hruns) hr1
theorem jJK {kn:Kn} {s:AS} {t:Nat} (h:KnOK kn s):KnOK kn (s.melt1 t):=fun t' b hb=>by
  have h1:=h t' b hb
  unfold AS.melt1
  split
  · rename_i b' m ht
    split
    · simp only
      split
      · rename_i e
        subst e
        rw [ht] at h1
        cases h1
      · exact h1
    · exact h1
  · exact h1
theorem zHt {kn:Kn}:∀ (ts:List Nat) {s:AS},KnOK kn s→KnOK kn (melts s ts)
  | [],_,h=>h
  | _::ts,_,h=>zHt ts (jJK h)
theorem RepS.melts {w0:World} {S:zQP} {n:Dom} {ι:zQi} {a:Act} {w:World}:∀ (ts:List Nat) {s:AS},RepS w0 S n s ι a w→RepS w0 S n (melts s ts) ι a w
  | [],_,h=>h
  | t::ts,_,h=>RepS.melts ts (h.melt1 t)
theorem zYe {n:Dom} {ops:Array Oper}:∀ {R:List Nat} {kn:Kn} {s:AS} {acc:List (List Nat × List Nat)} {Q Q':Kn→AS→List (List Nat × List Nat)→Prop},(∀ kn s acc,Q kn s acc→Q' kn s acc)→zZ0 P Γ n ops R kn s acc Q→zZ0 P Γ n ops R kn s acc Q'
  | [],kn,s,acc,Q,Q',hQ,h=>hQ _ _ _ h
  | i::R,kn,s,acc,Q,Q',hQ,h=>by
    unfold zZ0 at h ⊢
    split at h
    · exact h.elim
    · split at h
      · exact h.elim
      · split at h
        · exact ⟨h.1,zYe hQ h.2⟩
        · exact h.elim
      · split at h
        · exact zYe hQ h
        · exact h.elim
      · refine ⟨fun e=>?_,fun e=>?_⟩
        · have h:=h.1 e
          split at h
          · exact ⟨h.1,zYe hQ h.2⟩
          · exact h.elim
        · have h:=h.2 e
          split at h
          · exact zYe hQ h
          · exact h.elim
theorem zXt {n:Dom} {ops:Array Oper} {B:List Nat} {Q:Kn→AS→List (List Nat × List Nat)→Prop}:∀ {A:List Nat} {kn:Kn} {s:AS} {acc:List (List Nat × List Nat)},zZ0 P Γ n ops A kn s acc (fun kn' s' acc'=>zZ0 P Γ n ops B kn' s' acc' Q)→zZ0 P Γ n ops (A++B) kn s acc Q
  | [],kn,s,acc,h=>h
  | i::A,kn,s,acc,h=>by
    rw [List.cons_append]
    unfold zZ0 at h ⊢
    split at h
    · exact h.elim
    · split at h
      · exact h.elim
      · split at h
        · exact ⟨h.1,zXt h.2⟩
        · exact h.elim
      · split at h
        · exact zXt h
        · exact h.elim
      · refine ⟨fun e=>?_,fun e=>?_⟩
        · have h:=h.1 e
          split at h
          · exact ⟨h.1,zXt h.2⟩
          · exact h.elim
        · have h:=h.2 e
          split at h
          · exact zXt h
          · exact h.elim
theorem zG0 {e:Int} {k:IntKind} {t:Nat} {s:AS} {K:AS→Prop}:∀ {vs:List Int},orIs e vs→jJ4 e k t s K vs→K (s.put (some t) (.one (.d (.int k e))))
  | v::vs,h1,h2=>by
    simp only [orIs] at h1
    simp only [jJ4] at h2
    rcases h1 with rfl | h1
    · exact h2.1 rfl
    · exact zG0 h1 h2.2
  | [],h1,_=>h1.elim
theorem zH4 {vs:List Int} {t:Nat} {s:AS} {K:AS→Prop} (h:jQ4 vs t s K):K s:=by
  unfold jQ4 at h
  split at h
  · rename_i k e ht
    have:=zG0 h.1 h.2
    have hs:s.put (some t) (.one (.d (.int k e)))=s:=by
      refine AS.ext' ?_ rfl
      funext t'
      simp only [AS.put]
      split
      · rename_i e'; rw [e',ht]
      · rfl
    rwa [hs] at this
  · exact h.elim
theorem zH1 {n:Dom} {ops:Array Oper} {ann:Ann} {kn:Kn} {s:AS} {K:Kn→AS→List (List Nat × List Nat)→Prop} (h:jJo P Γ n ops ann kn s K):zZ0 P Γ n ops (List.range ops.size) kn s [] K:=by
  unfold jJo at h
  split at h
  · rename_i i t vs
    have h2:=zXt (zYe (fun _ _ _ h=>zH4 h) h)
    rwa [List.take_append_drop] at h2
  · exact h
def jXA (P:Program) (f:VCF) (c:Code):Prop:=
  ∀ (n:Dom) (ann:Ann) (kn:Kn) (s:AS) (Q:zXf→Kn→AS→Prop),f n ann kn s Q→KnOK kn s→∀ (F:Fence),Wide F→(n.round=false→F=Fence.wide) →
    ∀ (w0:World) (S:zQP) (ι:zQi) (a:Act) (w:World),RepS w0 S n s ι a w→∀ (m:Nat) (Q':Exit→Act→World→Prop),
    (∀ e kn' s' ι' a' w',Q e kn' s'→KnOK kn' s'→RepS w0 S n s' ι' a' w'→Q' e.exit_ a' w')→c.wpIn F m P Q' a w
def zYM:Ann→Nat
  | .link _ _ next=>zYM next+1
  | _=>0
theorem jXW {f:VCF} {c:Code} (ih:jXA P f c) {n:Dom} {ann:Ann} {s:AS} {Q:zXf→Kn→AS→Prop} (h1:zUk n ann s) (h2:zK1 n (f n) Q ann) {F:Fence} (hF:Wide F) (hR:n.round=false→F=Fence.wide)
    {w0:World} {S:zQP} {ι:zQi} {a:Act} {w:World} (hr:RepS w0 S n s ι a w) {m:Nat} {Q':Exit→Act→World→Prop}
    (hQ:∀ e kn' s' ι' a' w',Q e kn' s'→KnOK kn' s'→RepS w0 S n s' ι' a' w'→Q' e.exit_ a' w'):(Code.loop c).wpIn F m P Q' a w:=by
  refine wpIn_loop_ghost (fun k a w=>∃ ann s ι,zYM ann=k∧zUk n ann s∧zK1 n (f n) Q ann∧RepS w0 S n s ι a w) (zYM ann) ⟨ann,s,ι,rfl,h1,h2,hr⟩ fun k a w hI=>?_
  obtain ⟨ann,s,ι,rfl,h1,h2,hr⟩:=hI
  cases ann <;> first | exact h1.elim | skip
  rename_i I b next
  obtain ⟨z,hz,hf⟩:=h1
  obtain ⟨ι2,hr2⟩:=hr.fit hf
  simp only [zK1] at h2
  refine ih n (b z) kn0 _ _ (h2.1 z hz) (zYZ _) F hF hR w0 S ι2 a w hr2 m _ fun e kn' s' ι' a' w' hq hk' hr'=>?_
  cases e with
  | normal=>exact ⟨zYM next,by simp [zYM],next,s',ι',rfl,hq,h2.2,hr'⟩
  | exit id=>exact hQ (.exit id) kn' s' ι' a' w' hq hk' hr'
  | ret=>exact hQ .ret kn' s' ι' a' w' hq hk' hr'
theorem jZ5 {f:Ann→Kn→AS→(zXf→Kn→AS→Prop)→Prop} {kn:Kn} {s:AS} {t:Nat} {Q:zXf→Kn→AS→Prop} {k:IntKind} {e:Int} (ht:s.tm t=.one (.d (.int k e))) :
    ∀ {bs:Ann},jJE e bs→jZ6 f k e kn s t Q bs→∃ b,f b (zYs kn (some t) none) s Q
  | .opt v b next,h1,h2=>by
    simp only [jJE] at h1
    simp only [jZ6] at h2
    rcases h1 with h1 | h1
    · have hs:s.put (some t) (.one (.d (.int k v)))=s:=by
        refine AS.ext' ?_ rfl
        funext t'
        simp only [AS.put]
        split
        · rename_i e'; rw [e',ht,h1]
        · rfl
      have:=h2.1 h1
      rw [hs] at this
      exact ⟨b,this⟩
    · exact jZ5 ht h1 h2.2
  | .leaf,h1,_=>h1.elim
  | .seq _ _,h1,_=>h1.elim
  | .loop _ _,h1,_=>h1.elim
  | .cut _ _ _,h1,_=>h1.elim
  | .link _ _ _,h1,_=>h1.elim
  | .split _ _ _,h1,_=>h1.elim
  | .range _ _ _ _,h1,_=>h1.elim
  | .sure _ _,h1,_=>h1.elim
  | .ice _ _ _ _,h1,_=>h1.elim
  | .splitAt _ _ _,h1,_=>h1.elim
theorem jZC:∀ (bs:List Nat) (s:AS),(ices s bs).tm=s.tm
  | [],_=>rfl
  | b::bs,s=>by simp only [ices]; rw [jZC bs]; rfl
theorem RepS.ices {w0:World} {S:zQP} {n:Dom} {ι:zQi} {a:Act} {w:World}:∀ (bs:List Nat) {s:AS},RepS w0 S n s ι a w→RepS w0 S n (ices s bs) ι a w
  | [],_,h=>h
  | b::bs,s,h=>RepS.ices bs (h.freeze b)
theorem RepS.only {w0:World} {S:zQP} {n:Dom} {s:AS} {ι:zQi} {a:Act} {w:World} (h:RepS w0 S n s ι a w) (T:List Nat):RepS w0 S n (s.only T) ι a w:=by
  refine ⟨h.bel,h.marks,h.oth,h.size,h.fix,h.pin,fun t=>?_,h.bx,h.own,h.dist,h.glob⟩
  show zQe _ _ _ _ (if T.contains t then s.tm t else .one .dead) _
  split
  · exact h.tm t
  · simp only [zQe,zQu]
theorem jZo {d:DV} (h:jYF d):∃ u,d.plain=some u∧∀ (w:World) (V:Nat→Prop),RepD w V d u:=by
  cases d with
  | int k n=>exact ⟨_,rfl,fun w V=>by simp only [RepD,true_and]; exact (zXk _ _).2 h⟩
  | bool b=>exact ⟨_,rfl,fun w V=>by simp only [RepD]⟩
  | str s=>exact ⟨_,rfl,fun w V=>by simp only [RepD,true_and]; exact h⟩
  | sl n cs=>exact h.elim
  | fn f=>exact h.elim
theorem RepS.putAll {w0:World} {S:zQP} {n:Dom} {ι:zQi} {w:World}:∀ {ps:List Nat} {ds:List DV} {s:AS} {a:Act},ds.length=ps.length→zJI ds→(∀ p∈ps,p < n.n∧n.keep p=false)→RepS w0 S n s ι a w →
    RepS w0 S n (s.putAll ps ds) ι { a with tmps:=(ps.zip (ds.map fun d=>d.plain.getD undef)).foldl (fun t (p,v)=>t.setIfInBounds p v) a.tmps } w
  | [],[],_,_,_,_,_,h=>h
  | p::ps,d::ds,s,a,hl,hd,hp,h=>by
    obtain ⟨u,h1,h2⟩:=jZo hd.1
    have:=h.put (d:=some p) (x:=.one (.d d)) (v:=u) (fun k hk=>by cases hk; exact hp p (by simp)) (by simp only [zQe,zQu]; exact h2 _ _)
    have:=RepS.putAll (ps:=ps) (ds:=ds) (by simpa using hl) hd.2 (fun q hq=>hp q (by simp [hq])) this
    simpa [AS.putAll,h1,Act.put] using this
  | [],_::_,_,_,hl,_,_,_=>by simp at hl
  | _::_,[],_,_,hl,_,_,_=>by simp at hl
theorem jQM {w0:World} {S:zQP} {n:Dom} {s:AS} {ι:zQi} {a:Act} {w:World} (h:RepS w0 S n s ι a w) {ι0:zQi} {bx0:Nat→Bx} {w1:World} {V1:Nat→Prop}:∀ {cs:List Cap} {lb:List Value} {caps:List (Bool × List DV)},zZG ι0 bx0 w1 V1 cs lb →
    (∀ b∈cs.flatMap Cap.names,ι b=ι0 b)→zYO s.bx cs=some caps→jQW w caps lb
  | [],[],caps,_,_,hc=>by simp only [zYO,Option.some.injEq] at hc; subst hc; trivial
  | c::cs,v::lb,caps,hr,hn,hc=>by
    simp only [zYO] at hc
    cases h1:zHG s.bx c with
    | none=>rw [h1] at hc; cases hc
    | some x=>
      cases h2:zYO s.bx cs with
      | none=>rw [h1,h2] at hc; cases hc
      | some xs=>
        rw [h1,h2] at hc
        simp only [Option.some.injEq] at hc
        subst hc
        refine ⟨?_,jQM h hr.2 (fun b hb=>hn b (by rw [List.flatMap_cons,List.mem_append]; exact .inr hb)) h2⟩
        have hv:=hr.1
        cases c with
        | d x=>
          simp only [zHG] at h1
          split at h1
          · rename_i hp
            simp only [Option.some.injEq] at h1
            subst h1
            obtain ⟨u,hu⟩:=Option.isSome_iff_exists.1 hp
            exact ⟨x,rfl,by rw [RepD.plain hv hu]; exact hu⟩
          · cases h1
        | ptr b off=>
          simp only [zHG] at h1
          split at h1
          · rename_i ho
            subst ho
            split at h1
            · rename_i cells hB
              split at h1
              · rename_i ds hds
                split at h1
                · rename_i hall
                  simp only [Option.some.injEq] at h1
                  subst h1
                  obtain ⟨_,g,c,e1,e2⟩:=hv
                  have hb:=h.bx b
                  rw [hB] at hb
                  obtain ⟨g',c',cur,T,q1,q2,q3⟩:=hb
                  rw [hn b (by simp [Cap.names]),e1] at q1
                  simp only [Option.some.injEq,Prod.mk.injEq] at q1
                  obtain ⟨rfl,rfl⟩:=q1
                  have q4:=zKz q3 hds
                  refine ⟨g,e2,fun i d hi=>?_⟩
                  obtain ⟨u,hu,hd⟩:=zYn q4 i d hi
                  have hp:d.plain.isSome=true:=(List.all_eq_true.1 hall) d (List.mem_of_getElem? hi)
                  obtain ⟨u',hu'⟩:=Option.isSome_iff_exists.1 hp
                  refine ⟨u',hu',?_⟩
                  rw [cell_of_row w g i cur T (0,0) q2,← RepD.plain hd hu']
                  simpa using hu
                · cases h1
              · cases h1
            · cases h1
          · cases h1
  | [],_::_,_,h,_,_=>h.elim
  | _::_,[],_,h,_,_=>h.elim
theorem zGV {w:World} {V:Nat→Prop} {ι:zQi} {bx:Nat→Bx}:∀ {cs:List Cap} {lb:List Value},zZG ι bx w V cs lb→∀ b∈cs.flatMap Cap.names,(bx b).known=true
  | [],[],_,b,hb=>by simp at hb
  | c::cs,v::lb,h,b,hb=>by
    rw [List.flatMap_cons,List.mem_append] at hb
    rcases hb with hb | hb
    · cases c with
      | d x=>simp [Cap.names] at hb
      | ptr b' off=>simp only [Cap.names,List.mem_singleton] at hb; subst hb; exact h.1.1
    · exact zGV h.2 b hb
  | [],_::_,h,_,_=>h.elim
  | _::_,[],h,_,_=>h.elim
def zHD:zXf→Option Code
  | .normal=>none
  | .exit id=>some (.exit id)
  | .ret=>some .ret
theorem jZi {fA fB:VCF} {x y:Code} (ihA:jXA P fA x) (ihB:jXA P fB y) {n:Dom} {g:Operand} {ps:Array Tmp} {I:Inv} {T:List Nat} {aa bb:I.α→Ann} {s:AS} {Q:zXf→Kn→AS→Prop}
    (h:jZj P Γ n fA fB g ps.toList I T aa bb s Q) {F:Fence} (hR:n.round=false→F=Fence.wide)
    {w0:World} {S:zQP} {ι:zQi} {a:Act} {w:World} (hr:RepS w0 S n s ι a w) {m:Nat} {Q':Exit→Act→World→Prop}
    (hQ:∀ e kn' s' ι' a' w',Q e kn' s'→KnOK kn' s'→RepS w0 S n s' ι' a' w'→Q' e.exit_ a' w'):(Code.rangeFunc g ps x y).wpIn F m P Q' a w:=by
  unfold jZj at h
  split at h
  · rename_i f cs hs
    split at h
    · rename_i caps hcaps hflags
      split at h
      · rename_i N item hit
        obtain ⟨hans,hitems,⟨z0,hz0,hμ0,hf0⟩,hrounds⟩:=h
        simp only [Bool.and_eq_true,Bool.not_eq_true'] at hflags
        obtain ⟨⟨hen,hrd⟩,hps⟩:=hflags
        have hFw:=hR hrd
        subst hFw
        simp only [psOK,Bool.and_eq_true,List.all_eq_true,decide_eq_true_eq,Bool.not_eq_true'] at hps
        obtain ⟨hps1,hps2⟩:=hps
        have hv:=hr.eval g
        rw [hs] at hv
        simp only [zQe,zQu] at hv
        obtain ⟨lb,hv,hlb⟩:=hv
        have hr1:RepS w0 { S with nm:=ι } (n.pinned (cs.flatMap Cap.names)) s ι a w:=
          ⟨hr.bel,hr.marks,hr.oth,hr.size,hr.fix,fun b hb=>⟨rfl,by
            simp only [Dom.pinned,List.mem_append] at hb
            rcases hb with hb | hb
            · exact (hr.pin b hb).2
            · exact zGV hlb b hb⟩,hr.tm,hr.bx,hr.own,hr.dist,hr.glob⟩
        obtain ⟨ι1,hr2⟩:=hr1.fit hf0
        have hmk:∀ d∈a.defers,∀ D,d={ target:=.collected D,args:=#[] }→D < w.heap.size:=fun d hd D e=>by
          obtain ⟨D',e',_,h2⟩:=hr.marks.2 d hd
          rw [e'] at e
          simp only [Deferred.mk.injEq,Target.collected.injEq,and_true] at e
          subst e
          exact (Array.getElem?_eq_some_iff.1 h2).1
        have hturn:∀ {s':AS} {n':Dom} {S':zQP} {ι':zQi} {W W':World} {row:Option Nat},S'.ref.heap.size≤w.heap.size→RepS w0 S' n' s' ι' a W→W.grownBy W' row→(∀ r,row=some r→w.heap.size≤r∧∃ o:Obj,W.heap[r]?=some o∧o.isCells=false)→RepS w0 S' n' s' ι' a W':=by
          intro s' n' S' ι' W W' row hs' h' hg hr'
          exact h'.turn hg (fun r e=>⟨Nat.le_trans hr.bel.size (hr' r e).1,(hr' r e).2⟩) (zGJ h'.marks hg (fun r e=>(hr' r e).1) hmk) (zJQ h'.oth hg (fun r e=>(hr' r e).1) hs')
        have hkeepT:∀ t,(T.contains t=true∨n.keep t=true)→t ∉ ps.toList:=fun t ht hm=>by
          obtain ⟨⟨_,h2⟩,h3⟩:=hps1 t hm
          rcases ht with ht | ht
          · rw [ht] at h2; cases h2
          · rw [ht] at h3; cases h3
        have hback:∀ {s':AS} {ι':zQi} {a3:Act} {W W3 ref:World},zGo w0 a.defers W→KeepsOthers S.ref W→KeepsOthers W W3→RepS w0 { S with nm:=ι,ref:=ref,base:=fun t=>a.tmps.getD t undef } (n.inner T (cs.flatMap Cap.names)) s' ι' a3 W3 →
            RepS w0 { S with nm:=ι } (n.pinned (cs.flatMap Cap.names)) (s'.only T) ι' a W3:=by
          intro s' ι' a3 W W3 ref hm1 ho1 hk h3
          refine ⟨h3.bel,hm1.keep hk,ho1.trans hk,hr.size,hr.fix,h3.pin,fun t=>?_,h3.bx,h3.own,h3.dist,h3.glob⟩
          show zQe _ _ _ _ (if T.contains t then s'.tm t else .one .dead) _
          split
          · rename_i ht
            have hfx:=h3.fix t (by show (n.keep t || T.contains t)=true; rw [ht,Bool.or_true])
            have:=h3.tm t
            rw [hfx] at this
            exact this
          · simp only [zQe,zQu]
        have hout:∀ {s':AS} {ι':zQi} {W:World},RepS w0 { S with nm:=ι } (n.pinned (cs.flatMap Cap.names)) s' ι' a W→RepS w0 S n s' ι' a W:=fun h'=>
          ⟨h'.bel,h'.marks,h'.oth,h'.size,h'.fix,fun b hb=>by
            have:=h'.pin b (by simp [Dom.pinned,hb])
            exact ⟨this.1.trans (hr.pin b hb).1,this.2⟩,h'.tm,h'.bx,h'.own,h'.dist,h'.glob⟩
        have hmark:∀ {s':AS} {ι':zQi} {W:World} {D:Nat},w.heap.size≤D→W.heap[D]?=some (.deferred (some []))→RepS w0 S n s' ι' a W→RepS w0 S n s' ι' { a with defers:={ target:=.collected D,args:=#[] }::a.defers } W:=fun hD hW h'=>
          ⟨h'.bel,⟨List.pairwise_cons.2 ⟨fun d hd e=>by
              have:=hmk d hd _ e.symm
              omega,h'.marks.1⟩,fun d hd=>by
            rcases List.mem_cons.1 hd with rfl | hd
            · exact ⟨_,rfl,Nat.le_trans hr.bel.size hD,hW⟩
            · exact h'.marks.2 d hd⟩,h'.oth,h'.size,h'.fix,h'.pin,h'.tm,h'.bx,h'.own,h'.dist,h'.glob⟩
        refine jYC hv (zKS hen) hans (fun k hk=>by rw [(hitems k hk).1]; simp)
          (fun k W=>∃ z ι',I.ok z∧I.μ z=k∧RepS w0 { S with nm:=ι } (n.pinned (cs.flatMap Cap.names)) ((I.st z).as.only T) ι' a W)
          (fun c W=>∃ e kn' s' ι',zHD e=some c∧Q e kn' s'∧KnOK kn' s'∧RepS w0 { S with nm:=ι } (n.pinned (cs.flatMap Cap.names)) s' ι' a W)
          (fun k W W' row ⟨z,ι',h1,h2,h3⟩ hg hrr=>⟨z,ι',h1,h2,hturn hr.oth.size h3 hg hrr⟩)
          (fun c W W' row ⟨e,kn',s',ι',h1,h2,h3,h4⟩ hg hrr=>⟨e,kn',s',ι',h1,h2,h3,hturn hr.oth.size h4 hg hrr⟩)
          (fun k W ⟨z,ι',h1,h2,h3⟩=>jQM h3 hlb (fun b hb=>(h3.pin b (by simp only [Dom.pinned,List.mem_append]; exact .inr hb)).1) (hrounds z h1).1)
          ⟨z0,ι1,hz0,hμ0,hr2.only T⟩ ?_ ?_ ?_
        ·
          rintro l k W hk ⟨z,ι',hz,rfl,h3⟩
          have hit:=hitems (I.μ z) hk
          have hin:RepS w0 { S with nm:=ι,ref:=W,base:=fun t=>a.tmps.getD t undef } (n.inner T (cs.flatMap Cap.names)) ((I.st z).as.only T) ι' { tmps:=a.tmps,defers:=[] } W:=
            ⟨h3.bel,⟨List.Pairwise.nil,fun d hd=>by simp at hd⟩,KeepsOthers.refl W,h3.size,fun t _=>rfl,h3.pin,h3.tm,h3.bx,h3.own,h3.dist,h3.glob⟩
          have hin2:=hin.putAll (ps:=ps.toList) (ds:=item (I.μ z)) hit.1 hit.2 (fun p hp=>by
            obtain ⟨⟨h1,h2⟩,h4⟩:=hps1 p hp
            refine ⟨h1,?_⟩
            simp only [Dom.inner,h2,h4,Bool.or_self])
          have hloop:∀ (f:Array Value→Tmp × Value→Array Value) (t0:Array Value) (vs:List Value),(ps.zip vs.toArray).foldl f t0=(ps.toList.zip vs).foldl f t0:=fun f t0 vs=>by
            rw [← Array.foldl_toList,Array.toList_zip]
          show x.wpIn _ m P _ { tmps:=(ps.zip (zUL (item (I.μ z)))).foldl (fun t (p,v)=>t.setIfInBounds p v) a.tmps,defers:=[] } W
          rw [zUL,hloop]
          refine ihA _ (aa z) kn0 _ _ ((hrounds z hz).2.1 hk) (zYZ _) _ (.inr ⟨l,rfl⟩) (fun h=>by cases h) w0 _ ι' _ W hin2 m _ fun e kn' s' ι2 a1 W1 hq hk' h4=>?_
          cases e with
          | ret=>exact hq.elim
          | exit id=>exact hq.elim
          | normal=>
            refine ⟨h4.oth,fun W2 hg hl hcell=>?_⟩
            obtain ⟨lr,hlr⟩:=hcell
            have h5:=h4.turn hg (fun r e=>by cases e; exact ⟨Nat.le_trans hr.bel.size hl,_,hlr,rfl⟩) (ds:=a1.defers) ⟨h4.marks.1,fun d hd=>by
              obtain ⟨D,e1,e2,e3⟩:=h4.marks.2 d hd
              refine ⟨D,e1,e2,(hg.block D (Array.getElem?_eq_some_iff.1 e3).1 fun e'=>?_).trans e3⟩
              injection e' with e'
              subst e'
              rw [hlr] at e3
              injection e3 with e3
              cases e3⟩ (KeepsOthers.refl W2)
            have hm1:zGo w0 a.defers W:=h3.marks
            have hm2:zGo w0 a.defers W2:=zGJ (hm1.keep h4.oth) hg (fun r e=>by cases e; exact hl) hmk
            have ho2:KeepsOthers S.ref W2:=zJQ (h3.oth.trans h4.oth) hg (fun r e=>by cases e; exact hl) hr.oth.size
            refine ihB _ (bb z) kn' _ _ hq hk' _ (.inr ⟨l,rfl⟩) (fun h=>by cases h) w0 _ ι2 a1 W2 h5 m _ fun e kn2 s2 ι3 a3 W3 hq2 hk2 h6=>?_
            cases e with
            | normal=>
              obtain ⟨y,hy,hμ,hf⟩:=hq2
              obtain ⟨ι4,h7⟩:=h6.fit hf
              exact ⟨h6.oth,y,ι4,hy,hμ,hback hm2 ho2 h6.oth h7⟩
            | ret=>exact ⟨h6.oth,.ret,kn0,s2.only T,ι3,rfl,hq2,zYZ _,hback hm2 ho2 h6.oth h6⟩
            | exit id=>exact ⟨h6.oth,.exit id,kn0,s2.only T,ι3,rfl,hq2,zYZ _,hback hm2 ho2 h6.oth h6⟩
        ·
          rintro Dk W hD ⟨z,ι',hz,hμ,h3⟩ hW
          exact hQ .normal kn0 _ ι' _ W ((hrounds z hz).2.2 hμ) (zYZ _) (hmark hD hW (hout h3))
        · rintro Dk c W hD ⟨e,kn',s',ι',he,hq,hk',h3⟩ hW
          cases e with
          | normal=>cases he
          | ret=>
            simp only [zHD,Option.some.injEq] at he
            subst he
            exact wpIn_ret (hQ .ret kn' s' ι' _ W hq hk' (hmark hD hW (hout h3)))
          | exit id=>
            simp only [zHD,Option.some.injEq] at he
            subst he
            exact wpIn_exit (hQ (.exit id) kn' s' ι' _ W hq hk' (hmark hD hW (hout h3)))
      · exact h.elim
    · exact h.elim
  · exact h.elim
theorem zQS (hm:P.follows .mixedOrders=true):∀ (c:Code),jXA P (fun n=>vcg P Γ n c) c
  | .skip,n,_,kn,s,Q,h,hk,F,hF,hR,w0,S,ι,a,w,hr,m,Q',hQ=>wpIn_skip (hQ .normal kn s ι a w h hk hr)
  | .label _,n,_,kn,s,Q,h,hk,F,hF,hR,w0,S,ι,a,w,hr,m,Q',hQ=>wpIn_label (hQ .normal kn s ι a w h hk hr)
  | .exit id,n,_,kn,s,Q,h,hk,F,hF,hR,w0,S,ι,a,w,hr,m,Q',hQ=>wpIn_exit (hQ (.exit id) kn s ι a w h hk hr)
  | .ret,n,_,kn,s,Q,h,hk,F,hF,hR,w0,S,ι,a,w,hr,m,Q',hQ=>wpIn_ret (hQ .ret kn s ι a w h hk hr)
  | .region id ops draw,n,_,kn,s,Q,h,hk,F,hF,hR,w0,S,ι,a,w,hr,m,Q',hQ=>zG2 hF hm (zH1 h) hk hr hQ
  | .seq x y,n,ann,kn,s,Q,h,hk,F,hF,hR,w0,S,ι,a,w,hr,m,Q',hQ=>by
    simp only [vcg] at h
    refine wpIn_seq ?_
    split at h
    · rename_i I a' b
      obtain ⟨h1,h2⟩:=h
      refine zQS hm x n a' kn s _ h1 hk F hF hR w0 S ι a w hr m _ fun e kn' s' ι' a' w' hq hk' hr'=>?_
      cases e with
      | normal=>
        obtain ⟨z,hz,hf⟩:=hq
        obtain ⟨ι2,hr2⟩:=hr'.fit hf
        exact zQS hm y n (b z) kn0 _ Q (h2 z hz) (zYZ _) F hF hR w0 S ι2 a' w' hr2 m Q' hQ
      | exit id=>exact hQ (.exit id) kn' s' ι' a' w' hq hk' hr'
      | ret=>exact hQ .ret kn' s' ι' a' w' hq hk' hr'
    · rename_i bs ts a' b
      refine zQS hm x n a' kn s _ h hk F hF hR w0 S ι a w hr m _ fun e kn' s' ι' a' w' hq hk' hr'=>?_
      cases e with
      | normal=>exact zQS hm y n b kn' (Go.Proofs.Ytlnfgagmiogkgaa.melts (Go.Proofs.Ytlnfgagmiogkgaa.ices s' bs) ts) Q hq (zHt ts fun t b hb=>by rw [jZC]; exact hk' t b hb) F hF hR w0 S ι' a' w' ((hr'.ices bs).melts ts) m Q' hQ
      | exit id=>exact hQ (.exit id) kn' s' ι' a' w' hq hk' hr'
      | ret=>exact hQ .ret kn' s' ι' a' w' hq hk' hr'
    · rename_i a' t bs
      refine zQS hm x n a' kn s _ h hk F hF hR w0 S ι a w hr m _ fun e kn' s' ι' a' w' hq hk' hr'=>?_
      cases e with
      | normal=>
        simp only at hq
        unfold jVz at hq
        split at hq
        · rename_i k e ht
          obtain ⟨b,hb⟩:=jZ5 ht hq.1 hq.2
          refine zQS hm y n b _ s' Q hb (fun t' b' hb'=>?_) F hF hR w0 S ι' a' w' hr' m Q' hQ
          simp only [zYs] at hb'
          split at hb'
          · cases hb'
          · exact hk' _ _ hb'
        · exact hq.elim
      | exit id=>exact hQ (.exit id) kn' s' ι' a' w' hq hk' hr'
      | ret=>exact hQ .ret kn' s' ι' a' w' hq hk' hr'
    · refine zQS hm x n ann.l kn s _ h hk F hF hR w0 S ι a w hr m _ fun e kn' s' ι' a' w' hq hk' hr'=>?_
      cases e with
      | normal=>exact zQS hm y n ann.r kn' s' Q hq hk' F hF hR w0 S ι' a' w' hr' m Q' hQ
      | exit id=>exact hQ (.exit id) kn' s' ι' a' w' hq hk' hr'
      | ret=>exact hQ .ret kn' s' ι' a' w' hq hk' hr'
  | .cond c x y,n,ann,kn,s,Q,h,hk,F,hF,hR,w0,S,ι,a,w,hr,m,Q',hQ=>by
    simp only [vcg] at h
    split at h
    · rename_i b a'
      split at h
      · rename_i b' hc
        obtain ⟨rfl,h⟩:=h
        cases b' with
        | true=>exact wpIn_cond_true (zZM (hr.eval c) hc) (zQS hm x n a' kn s Q h hk F hF hR w0 S ι a w hr m Q' hQ)
        | false=>exact wpIn_cond_false (zZM (hr.eval c) hc) (zQS hm y n a' kn s Q h hk F hF hR w0 S ι a w hr m Q' hQ)
      · exact h.elim
    split at h
    · rename_i hc
      exact wpIn_cond_true (zZM (hr.eval c) (zUn hk hc)) (zQS hm x n ann.l kn s Q h hk F hF hR w0 S ι a w hr m Q' hQ)
    · rename_i hc
      exact wpIn_cond_false (zZM (hr.eval c) (zUn hk hc)) (zQS hm y n ann.r kn s Q h hk F hF hR w0 S ι a w hr m Q' hQ)
    · split at h
      · rename_i b hc
        exact wpIn_cond_split (zZM (hr.eval c) hc) (fun hb=>zQS hm x n ann.l kn s Q (h.1 hb) hk F hF hR w0 S ι a w hr m Q' hQ) (fun hb=>zQS hm y n ann.r kn s Q (h.2 hb) hk F hF hR w0 S ι a w hr m Q' hQ)
      · exact h.elim
  | .block id c,n,ann,kn,s,Q,h,hk,F,hF,hR,w0,S,ι,a,w,hr,m,Q',hQ=>by
    simp only [vcg] at h
    refine wpIn_block (zQS hm c n ann kn s _ h hk F hF hR w0 S ι a w hr m _ fun e kn' s' ι' a' w' hq hk' hr'=>?_)
    cases e with
    | normal=>exact hQ .normal kn' s' ι' a' w' hq hk' hr'
    | exit id'=>
      simp only at hq
      simp only [zXf.exit_,Exit.inBlock]
      by_cases e:id'=id
      · rw [if_pos e]
        simp only [e,decide_true] at hq
        exact hQ .normal kn' s' ι' a' w' hq hk' hr'
      · rw [if_neg e]
        simp only [e,decide_false] at hq
        exact hQ (.exit id') kn' s' ι' a' w' hq hk' hr'
    | ret=>exact hQ .ret kn' s' ι' a' w' hq hk' hr'
  | .loop c,n,ann,kn,s,Q,h,hk,F,hF,hR,w0,S,ι,a,w,hr,m,Q',hQ=>by
    simp only [vcg] at h
    split at h
    · rename_i I a'
      obtain ⟨⟨z,hz,hf⟩,h2⟩:=h
      obtain ⟨ι2,hr2⟩:=hr.fit hf
      refine wpIn_loop_ghost (fun m a w=>∃ z ι,I.ok z∧I.μ z=m∧RepS w0 S n (I.st z).as ι a w) (I.μ z) ⟨z,ι2,hz,rfl,hr2⟩ fun k a w hI=>?_
      obtain ⟨z,ι,hz,rfl,hr⟩:=hI
      refine zQS hm c n (a' z) kn0 _ _ (h2 z hz) (zYZ _) F hF hR w0 S ι a w hr m _ fun e kn' s' ι' a' w' hq hk' hr'=>?_
      cases e with
      | normal=>
        obtain ⟨y,hy,hlt,hf⟩:=hq
        obtain ⟨ι3,hr3⟩:=hr'.fit hf
        exact ⟨I.μ y,hlt,y,ι3,hy,rfl,hr3⟩
      | exit id=>exact hQ (.exit id) kn' s' ι' a' w' hq hk' hr'
      | ret=>exact hQ .ret kn' s' ι' a' w' hq hk' hr'
    · exact jXW (f:=fun n=>vcg P Γ n c) (zQS hm c) h.1 h.2 hF hR hr hQ
    · exact h.elim
  | .rangeFunc g ps x y,n,ann,kn,s,Q,h,hk,F,hF,hR,w0,S,ι,a,w,hr,m,Q',hQ=>by
    simp only [vcg] at h
    split at h
    · exact jZi (zQS hm x) (zQS hm y) h hR hr hQ
    · exact h.elim
  | .scope _,_,_,_,_,_,h,_,_,_,_,_,_,_,_,_,_,_,_,_=>by simp only [vcg] at h
  | .goto _,_,_,_,_,_,h,_,_,_,_,_,_,_,_,_,_,_,_,_=>by simp only [vcg] at h
  | .refuse _,_,_,_,_,_,h,_,_,_,_,_,_,_,_,_,_,_,_,_=>by simp only [vcg] at h
end
def jJu (P:Program) (s:AS):ResultVar→Option AV
  | .tmp t=>some (s.tm t)
  | .cell t ty=>match s.tm t with
    | .one (.ptr b off)=>match s.bx b,zXY P ty with
      | .cells cs,some (g,k)=>if off+k≤cs.length then zKH g ((cs.drop off).take k) else none
      | _,_=>none
    | _=>none
def zVR (P:Program) (s:AS):List ResultVar→Option (List AV)
  | []=>some []
  | r::rs=>match jJu P s r,zVR P s rs with
    | some v,some vs=>some (v::vs)
    | _,_=>none
def jKC (P:Program) (s:AS) (rs:List ResultVar):Option RV:=
  match zVR P s rs with
  | some xs=>if xs.all AV.flat then match AV.rvs (fun b=>zZD (s.bx b)) xs with
    | some [r]=>some r
    | some l=>some (.tup l)
    | none=>none else none
  | none=>none
def post (P:Program) (rs:List ResultVar) (R:RV→Prop):zXf→Kn→AS→Prop
  | .exit _,_,_=>False
  | _,_,s=>match jKC P s rs with
    | some r=>R r
    | none=>False
def zQN (args:List RV):AS:=⟨fun t=>match args[t]? with
  | some r=>r.av
  | none=>.tup [],fun _=>.fresh⟩
mutual
def DV.wf:DV→Prop
  | .int k n=>k.min≤n∧n≤k.max
  | .bool _=>True
  | .str s=>s.size≤maxLen
  | .sl n xs=>n≤maxLen∧DV.wfs xs
  | .fn _=>True
def DV.wfs:List DV→Prop
  | []=>True
  | x::xs=>x.wf∧DV.wfs xs
end
mutual
def RV.wf:RV→Prop
  | .d x=>x.wf
  | .agg xs=>DV.wfs xs
  | .tup xs=>RV.wfs xs
def RV.wfs:List RV→Prop
  | []=>True
  | x::xs=>x.wf∧RV.wfs xs
end
section
variable {w:World} {V:Nat→Prop}
mutual
theorem RepD.wf:∀ {d:DV} {v:Value},RepD w V d v→d.wf
  | .int k n,v,h=>by simp only [RepD] at h; simp only [DV.wf]; exact (zXk _ _).1 h.2
  | .bool _,_,_=>by simp only [DV.wf]
  | .str s,v,h=>by simp only [RepD] at h; simp only [DV.wf]; exact h.2
  | .fn _,_,_=>by simp only [DV.wf]
  | .sl n xs,v,h=>by
    simp only [RepD] at h
    obtain ⟨A,cap,_,h1,h2,h3⟩:=h
    simp only [DV.wf]
    refine ⟨Nat.le_trans h1 h2,?_⟩
    cases xs with
    | nil=>simp only [DV.wfs]
    | cons d ds=>
      obtain ⟨g,off,_,_,hc⟩:=h3 (by simp)
      exact RepCells.wf hc
theorem RepCells.wf:∀ {xs:List DV} {g off:Nat},RepCells w V xs g off→DV.wfs xs
  | [],_,_,_=>by simp only [DV.wfs]
  | d::ds,g,off,h=>by
    simp only [RepCells] at h
    obtain ⟨⟨u,_,hd⟩,hr⟩:=h
    simp only [DV.wfs]
    exact ⟨RepD.wf hd,RepCells.wf hr⟩
end
theorem zQU.wf:∀ {ds:List DV} {vs:List Value},zQU w V ds vs→DV.wfs ds
  | [],[],_=>by simp only [DV.wfs]
  | _::_,_::_,h=>by simp only [DV.wfs]; exact ⟨h.1.wf,zQU.wf h.2⟩
  | [],_::_,h=>h.elim
  | _::_,[],h=>h.elim
mutual
theorem RepR.wf:∀ {r:RV} {v:Value},RepR w V r v→r.wf
  | .d x,v,h=>by simp only [RepR] at h; simp only [RV.wf]; exact h.wf
  | .agg xs,v,h=>by simp only [RepR] at h; obtain ⟨cs,_,h⟩:=h; simp only [RV.wf]; exact h.wf
  | .tup xs,v,h=>by simp only [RepR] at h; obtain ⟨vs,_,h⟩:=h; simp only [RV.wf]; exact RepRs.wf h
theorem RepRs.wf:∀ {rs:List RV} {vs:List Value},RepRs w V rs vs→RV.wfs rs
  | [],[],_=>by simp only [RV.wfs]
  | _::_,_::_,h=>by simp only [RepRs] at h; simp only [RV.wfs]; exact ⟨RepR.wf h.1,RepRs.wf h.2⟩
  | [],_::_,h=>by simp only [RepRs] at h
  | _::_,[],h=>by simp only [RepRs] at h
end
end
theorem zWV {w:World} {V:Nat→Prop}:∀ {rs:List RV} {vs:List Value},RepRs w V rs vs→rs.length=vs.length
  | [],[],_=>rfl
  | _::_,_::_,h=>by simp only [RepRs] at h; simp [zWV h.2]
  | [],_::_,h=>by simp only [RepRs] at h
  | _::_,[],h=>by simp only [RepRs] at h
theorem zVP {P:Program} {α β:Type} (f:α→Sem β) (w:World):∀ (l:List α) (us:List β),l.length=us.length→(∀ (i:Nat) x u,l[i]?=some x→us[i]?=some u→(f x).run P w=.ok u w)→(l.mapM f).run P w=.ok us w
  | [],[],_,_=>by simp
  | x::l,u::us,hl,h=>by
    rw [List.mapM_cons]
    simp only [Sem.run_bind,h 0 x u rfl rfl,Result.andThen_ok,zVP f w l us (by simpa using hl) (fun i x' u' h1 h2=>h (i+1) x' u' (by simpa using h1) (by simpa using h2)),Sem.run_pure]
  | [],_::_,hl,_=>by simp at hl
  | _::_,[],hl,_=>by simp at hl
def jQc (tmps:Array Value):ResultVar→Sem Value
  | .tmp t=>pure (tmps.getD t undef)
  | .cell c t=>do loadVar t (← asAddr (tmps.getD c undef))
theorem jXM (fn:Func) (tmps:Array Value):results fn tmps=(do let vs ← fn.results.mapM (jQc tmps); pure (if h:vs.size=1 then vs[0] else .tuple vs)):=by
  unfold results
  refine congrArg (fun f:ResultVar→Sem Value=>(do let vs ← fn.results.mapM f; pure (if h:vs.size=1 then vs[0] else .tuple vs):Sem Value)) ?_
  funext x
  cases x <;> rfl
theorem jZV {P:Program} {fn:Func} {w0:World} {S:zQP} {n:Dom} {s:AS} {ι:zQi} {a:Act} {w:World} (h:RepS w0 S n s ι a w) {xs:List AV} (hxs:zVR P s fn.results.toList=some xs) :
    ∃ us:List Value,(results fn a.tmps).run P w=.ok (if h:us.toArray.size=1 then us.toArray[0] else .tuple us.toArray) w∧RepAVs w (Seen S w0.heap.size s.bx ι) ι s.bx xs us:=by
  have key:∀ (rs:List ResultVar) (xs:List AV),zVR P s rs=some xs→∃ us:List Value,rs.length=us.length∧(∀ (i:Nat) x u,rs[i]?=some x→us[i]?=some u→(jQc a.tmps x).run P w=.ok u w) ∧
      RepAVs w (Seen S w0.heap.size s.bx ι) ι s.bx xs us:=by
    intro rs
    induction rs with
    | nil=>intro xs h; simp only [zVR,Option.some.injEq] at h; subst h; exact ⟨[],rfl,fun i x u h=>by simp at h,by simp only [RepAVs]⟩
    | cons rv rs ih=>
      intro xs hx
      simp only [zVR] at hx
      cases h1:jJu P s rv with
      | none=>rw [h1] at hx; cases hx
      | some v=>
        cases h2:zVR P s rs with
        | none=>rw [h1,h2] at hx; cases hx
        | some vs=>
          rw [h1,h2] at hx
          simp only [Option.some.injEq] at hx
          subst hx
          obtain ⟨us,l1,l2,l3⟩:=ih vs h2
          have h0:∃ u,(jQc a.tmps rv).run P w=.ok u w∧zQe w (Seen S w0.heap.size s.bx ι) ι s.bx v u:=by
            cases rv with
            | tmp t=>
              simp only [jJu,Option.some.injEq] at h1
              subst h1
              exact ⟨_,rfl,h.tm t⟩
            | cell c ty=>
              simp only [jJu] at h1
              split at h1
              · rename_i b off hc
                split at h1
                · rename_i cs g k hB hk
                  split at h1
                  · rename_i hle
                    have hv:=h.tm c
                    rw [hc] at hv
                    obtain ⟨_,g',c',hι,ev⟩:=zJP hv
                    have hb:=h.bx b
                    rw [hB] at hb
                    obtain ⟨g2,c2,cur,T,e1,e2,e3⟩:=hb
                    rw [e1] at hι
                    simp only [Option.some.injEq,Prod.mk.injEq] at hι
                    obtain ⟨rfl,rfl⟩:=hι
                    have hp:=zXR (zJh e3 off k) h1
                    have hlen:=zQ5 e3
                    have hk':zXY P ty=some (g,((cur.toList.drop off).take k).length):=by
                      rw [hk]; congr 2; simp at hlen ⊢; omega
                    have hrun:=zZK (P:=P) hk' (w:=w) (b:=g2) (o:=off) (fun j u hj=>by
                      rw [cell_of_row w g2 (off+j) cur T (0,0) e2]
                      rw [List.getElem?_take] at hj
                      split at hj
                      · simpa using hj
                      · cases hj)
                    refine ⟨_,?_,hp.1⟩
                    simp only [jQc,ev,asAddr,Sem.run_bind,Sem.run_pure,Result.andThen_ok,hrun]
                  · cases h1
                · cases h1
              · cases h1
          obtain ⟨u,hu1,hu2⟩:=h0
          refine ⟨u::us,by simp [l1],fun i x u' hx hu'=>?_,by simp only [RepAVs]; exact ⟨hu2,l3⟩⟩
          cases i with
          | zero=>simp at hx hu'; subst hx hu'; exact hu1
          | succ i=>exact l2 i x u' (by simpa using hx) (by simpa using hu')
  obtain ⟨us,l1,l2,l3⟩:=key _ _ hxs
  have hmap:=zVP (P:=P) (jQc a.tmps) w fn.results.toList us l1 l2
  refine ⟨us,?_,l3⟩
  rw [jXM,Sem.run_bind,Array.mapM_eq_mapM_toList,Sem.run_map,hmap]
  simp only [Result.andThen_ok,Sem.run_pure]
theorem jKB {P:Program} {fn:Func} {w0:World} {S:zQP} {n:Dom} {s:AS} {ι:zQi} {a:Act} {w:World} (h:RepS w0 S n s ι a w) {r:RV} (hr:jKC P s fn.results.toList=some r) :
    ∃ v,(results fn a.tmps).run P w=.ok v w∧RepR w (fun g=>S.see g∨w0.heap.size≤g∨S.lent g) r v:=by
  unfold jKC at hr
  split at hr
  · rename_i xs hxs
    split at hr
    · rename_i hflat
      obtain ⟨us,hrun,l3⟩:=jZV h hxs
      have hseen:zQ9 w (Seen S w0.heap.size s.bx ι) w (fun g=>S.see g∨w0.heap.size≤g∨S.lent g):=fun g off u hV hu=>⟨hV.1,hu⟩
      have hlook:∀ x∈xs,∀ b∈x.refs,∀ ys,(fun b=>zZD (s.bx b)) b=some ys→zGi w (fun g=>S.see g∨w0.heap.size≤g∨S.lent g) ι b ys∧(ι b=none→ys=[]):=by
        intro x hx b hb ys hys
        simp only at hys
        have hb':=h.bx b
        cases hB:s.bx b <;> rw [hB] at hys hb' <;> simp only [zZD,Option.some.injEq,reduceCtorEq] at hys <;> subst hys
        · rcases hb' with ⟨g1,g2⟩ | ⟨g,cap,cur,g1,g2,g3,g4,g5⟩
          · exact ⟨fun g c e=>(by rw [g1] at e; cases e),fun _=>g2⟩
          · refine ⟨fun g' c e=>?_,fun e=>(by rw [g1] at e; cases e)⟩
            rw [g1] at e
            simp only [Option.some.injEq,Prod.mk.injEq] at e
            obtain ⟨rfl,rfl⟩:=e
            exact ⟨g3,fun _=>⟨.inr (h.own b g cap (by rw [hB]; rfl) g1).1,RepCells.of_row g2 (g5.keep hseen)⟩⟩
        · rcases hb' with ⟨g1,g2⟩ | ⟨g,cap,g1,g2,g3⟩
          · exact ⟨fun g c e=>(by rw [g1] at e; cases e),fun _=>g2⟩
          · refine ⟨fun g' c e=>?_,fun e=>(by rw [g1] at e; cases e)⟩
            rw [g1] at e
            simp only [Option.some.injEq,Prod.mk.injEq] at e
            obtain ⟨rfl,rfl⟩:=e
            exact ⟨g3,g2.keep hseen⟩
      cases hrv:AV.rvs (fun b=>zZD (s.bx b)) xs with
      | none=>rw [hrv] at hr; cases hr
      | some rvs=>
        rw [hrv] at hr
        have hall:=zH6 hseen hflat l3 hlook hrv
        refine ⟨_,hrun,?_⟩
        have hlen:=zWV hall
        match rvs,us,hall,hlen,hr with
        | [r'],[u],hall,_,hr=>
          simp only [Option.some.injEq] at hr
          subst hr
          simp only [RepRs] at hall
          simpa using hall.1
        | [],[],hall,_,hr=>
          simp only [Option.some.injEq] at hr
          subst hr
          simp only [List.size_toArray,List.length_nil,Nat.zero_ne_one,dite_false,RepR]
          exact ⟨_,rfl,hall⟩
        | r1::r2::rs,u1::u2::us,hall,_,hr=>
          simp only [Option.some.injEq] at hr
          subst hr
          simp only [RepR]
          refine ⟨(u1::u2::us).toArray,by simp,hall⟩
        | [_],[],_,hl,_=>simp at hl
        | [],_::_,_,hl,_=>simp at hl
        | [_],_::_::_,_,hl,_=>simp at hl
        | _::_::_,[],_,hl,_=>simp at hl
        | _::_::_,[_],_,hl,_=>simp at hl
    · cases hr
  · cases hr
theorem zUl {F:Fence} {m:Nat} {P:Program} {fn:Func} {R:Ending→World→Prop} {w0:World} {n:Dom} {s:AS} {ι:zQi} {tmps:Array Value}:∀ (ds:List Deferred) (S:zQP) (w:World),RepS w0 S n s ι { tmps:=tmps,defers:=ds } w→S.ref.heap.size≤w0.heap.size →
    (∀ w',RepS w0 S n s ι { tmps:=tmps,defers:=[] } w'→∃ v,(results fn tmps).run P w'=.ok v w'∧R (.returned v) w')→LeavesInM F m P fn tmps R ds .returning w
  | [],S,w,h,_,hR=>hR w h
  | d::ds,S,w,h,href,hR=>by
    obtain ⟨D,rfl,h1,h2⟩:=h.marks.2 d (by simp)
    have hlt:D < w.heap.size:=(Array.getElem?_eq_some_iff.1 h2).1
    refine ⟨by simp,.inl ⟨D,w.putObj D (.deferred none),rfl,run_takeDeferred h2,zUl ds S _ ?_ href hR⟩⟩
    have hg:=grownBy_putObj' w D (.deferred none)
    refine h.turn hg (fun r e=>by cases e; exact ⟨h1,_,h2,rfl⟩) (ds:=ds) ⟨(List.pairwise_cons.1 h.marks.1).2,fun d' hd'=>?_⟩ (ref:=S.ref) (zJQ h.oth hg (fun r e=>by cases e; exact h1) href)
    obtain ⟨D',rfl,q1,q2⟩:=h.marks.2 d' (by simp [hd'])
    have hne:D'≠D:=fun e=>(List.pairwise_cons.1 h.marks.1).1 _ hd' (by rw [e])
    exact ⟨D',rfl,q1,(World.putObj_heap_other hne).trans q2⟩
def zQl (fn:Func):Code:=fn.body.getD .skip
theorem jQN {fn:Func} (hb:fn.body.isSome=true):fn.body=some (zQl fn):=by
  unfold zQl
  cases h:fn.body with
  | none=>rw [h] at hb; cases hb
  | some c=>rfl
theorem zJy {P:Program} {Γ:Gam} {f:FuncId} {fn:Func} (ann:Ann) (hm:P.follows .mixedOrders=true) (hf:P.funcs[f]?=some fn) (hb:fn.body.isSome=true) {n:Dom} (hn:n.round=false) {s:AS} {Q:zXf→Kn→AS→Prop}
    (h:vcg P Γ n (zQl fn) ann kn0 s Q) {w:World} {S:zQP} {ι:zQi} {vs:Array Value} {R:Ending→World→Prop} (hr:RepS w S n s ι { tmps:=vs++Array.replicate (fn.ntmps - vs.size) undef,defers:=[] } w) (href:S.ref=w)
    (hend:∀ e kn' s' ι' tmps w',Q e kn' s'→RepS w S n s' ι' { tmps:=tmps,defers:=[] } w'→(∀ id,e≠.exit id)∧∃ v,(results fn tmps).run P w'=.ok v w'∧R (.returned v) w')
    (hex:∀ id kn' s',¬ Q (.exit id) kn' s'):Calls P f vs w R:=by
  refine callsIn_wide.1 (callsIn_of_wp_marks (F:=Fence.wide) (n:=1) hf (jQN hb) trivial ?_)
  refine zQS hm (zQl fn) n ann kn0 s Q h (zYZ _) Fence.wide (.inl rfl) (fun _=>rfl) w S ι _ w hr 1 _ fun e kn' s' ι' a' w' hq hk' hr'=>?_
  have done:LeavesInM Fence.wide 1 P fn a'.tmps R a'.defers .returning w':=
    zUl a'.defers S w' hr' (by rw [href]; exact Nat.le_refl _) fun w'' h''=>(hend e kn' s' ι' a'.tmps w'' hq h'').2
  cases e with
  | normal=>exact done
  | ret=>exact done
  | exit id=>exact (hex id kn' s' hq).elim
theorem zG5 {w:World} {V:Nat→Prop} {ι:zQi} {bx:Nat→Bx} {k:Nat}:∀ {xs:List AV} {vs:List Value},RepAVs w V ι bx xs vs→∀ t,zQe w V ι bx ((xs[t]?).getD (.tup [])) ((vs++List.replicate k undef).getD t undef)
  | [],[],_,t=>by
    simp only [List.getElem?_nil,Option.getD_none,zQe,List.nil_append]
    refine ⟨#[],?_,by simp only [RepAVs]⟩
    rw [List.getD_eq_getElem?_getD,List.getElem?_replicate]
    split <;> rfl
  | x::xs,v::vs,h,0=>by simp only [RepAVs] at h; simpa using h.1
  | x::xs,v::vs,h,t+1=>by simp only [RepAVs] at h; simpa using zG5 h.2 t
  | [],_::_,h,_=>by simp only [RepAVs] at h
  | _::_,[],h,_=>by simp only [RepAVs] at h
theorem jXy (vs:Array Value) (k t:Nat):(vs++Array.replicate k undef).getD t undef=(vs.toList++List.replicate k undef).getD t undef:=by
  rw [Array.getD_eq_getD_getElem?,List.getD_eq_getElem?_getD,← Array.getElem?_toList]
  simp
theorem jQd {w:World} {S:Nat→Prop} {fn:Func} {args:List RV} {vs:Array Value} (hl:args.length≤fn.ntmps) (hgl:zZX w S) (hvs:RepRs w S args vs.toList) :
    RepS w { see:=S,ref:=w } fn.ntmps (zQN args) (fun _=>none) { tmps:=vs++Array.replicate (fn.ntmps - vs.size) undef,defers:=[] } w:=by
  have hlen:=zWV hvs
  refine ⟨Bel.refl _ _,⟨List.Pairwise.nil,fun d hd=>by simp at hd⟩,KeepsOthers.refl w,?_,fun t h=>by (cases h),fun b h=>by (cases h),fun t=>?_,fun b=>trivial,fun b g c hl=>by simp [zQN,Bx.live] at hl,fun b b' g c c' hl=>by simp [zQN,Bx.live] at hl,hgl.keep fun g off u hV hu=>⟨⟨.inl hV,fun b c hl=>by simp [zQN,Bx.live] at hl⟩,hu⟩⟩
  · show (vs++Array.replicate (fn.ntmps - vs.size) undef).size=fn.ntmps
    simp at hlen ⊢; omega
  · have hk:zQ9 w S w (Seen { see:=S,ref:=w } w.heap.size (zQN args).bx fun _=>none):=fun g off u hV hu=>⟨⟨.inl hV,fun b c hl=>by simp [zQN,Bx.live] at hl⟩,hu⟩
    have h1:=rep_avs (ι:=fun _=>none) (bx:=(zQN args).bx) (RepRs.keep hk hvs)
    have h2:=zG5 (k:=fn.ntmps - vs.size) h1 t
    rw [← jXy] at h2
    have e:(zQN args).tm t=((RV.avs args)[t]?).getD (.tup []):=by
      have:∀ (l:List RV) (t:Nat),(RV.avs l)[t]?=(l[t]?).map RV.av:=by
        intro l
        induction l with
        | nil=>intro t; simp [RV.avs]
        | cons x l ih=>intro t; cases t <;> simp [RV.avs,ih]
      rw [this]
      simp only [zQN]
      cases args[t]? <;> rfl
    rw [e]
    exact h2
theorem zQf {P:Program} {Γ:Gam} {f:FuncId} {fn:Func} {args:List RV} {res:RV} (ann:Ann) (hm:P.follows .mixedOrders=true) (hf:P.funcs[f]?=some fn) (hb:fn.body.isSome=true) (hl:args.length≤fn.ntmps)
    (h:RV.wfs args→vcg P Γ fn.ntmps (zQl fn) ann kn0 (zQN args) (post P fn.results.toList (·=res))):Ans P f args res:=by
  intro w S vs hgl hvs
  refine zJy ann hm hf hb (n:=fn.ntmps) rfl (h (RepRs.wf hvs)) (jQd hl hgl hvs) rfl (fun e kn' s' ι' tmps w' hq hr'=>?_) (fun id kn' s' hq=>hq)
  have done:post P fn.results.toList (·=res) .ret kn' s'→∃ v,(results fn tmps).run P w'=.ok v w'∧(∃ u,Ending.returned v=.returned u∧RepR w' (fun g=>S g∨w.heap.size≤g) res u∧Below w.heap.size w w'):=by
    intro hq
    simp only [post] at hq
    split at hq
    · rename_i r hres
      subst hq
      obtain ⟨v,h1,h2⟩:=jKB hr' hres
      have hsee:∀ g,(S g∨w.heap.size≤g∨False)→(S g∨w.heap.size≤g):=fun g hV=>hV.imp id fun h=>h.resolve_right id
      exact ⟨v,h1,v,rfl,h2.keep (fun g off u hV hu=>⟨hsee g hV,hu⟩),hr'.bel.below fun g h=>h⟩
    · exact hq.elim
  cases e with
  | normal=>exact ⟨fun _ e=>by (cases e),done hq⟩
  | ret=>exact ⟨fun _ e=>by (cases e),done hq⟩
  | exit id=>exact hq.elim
def jZn (t e size n:Nat) (ys:List DV):zXf→Kn→AS→Prop
  | .exit _,_,_=>False
  | _,_,s=>match s.tm t with
    | .one (.ref b m)=>match s.bx b with
      | .row e' size' zs=>(e'=e∧size'=size)∧ys.length=n*size∧m=n∧zs=ys
      | _=>False
    | .one .nil=>n=0∧ys=[]
    | _=>False
theorem jKH {w0 w:World} {S:zQP} {n:Dom} {s:AS} {ι:zQi} {a:Act} (h:RepS w0 S n s ι a w) (hl:∀ g,¬ S.lent g) {b e size m:Nat} {v:Value} {us:List Value} (hb:(s.bx b).live=true) (ho:zVG w 0 e size v m us) (hn:∀ g,v.ownBlock=some g→∃ c,ι b=some (g,c)):zVG w w0.heap.size e size v m us:=by
  refine ⟨ho.1,?_⟩
  rcases ho.2 with h1 | ⟨g,cap,cur,e1,h1,h2,h3⟩
  · exact .inl h1
  · refine .inr ⟨g,cap,cur,e1,?_,h2,h3⟩
    obtain ⟨c,hc⟩:=hn g (by rw [e1]; rfl)
    exact (h.own b g c hb hc).1.resolve_right (hl g)
theorem zXs {P:Program} {Γ:Gam} {f:FuncId} {fn:Func} {args:List RV} {t e size n:Nat} {ys:List DV} (ann:Ann) (hm:P.follows .mixedOrders=true) (hf:P.funcs[f]?=some fn) (hb:fn.body.isSome=true) (hl:args.length≤fn.ntmps) (hres:fn.results=#[.tmp t])
    (h:RV.wfs args→vcg P Γ fn.ntmps (zQl fn) ann kn0 (zQN args) (jZn t e size n ys)):AnsO P f args e size n ys:=by
  intro w S vs hgl hvs
  refine zJy ann hm hf hb (n:=fn.ntmps) rfl (h (RepRs.wf hvs)) (jQd hl hgl hvs) rfl (fun ex kn' s' ι' tmps w' hq hr'=>?_) (fun id kn' s' hq=>hq)
  have hbel:Below w.heap.size w w':=hr'.bel.below fun g h=>h
  have done:jZn t e size n ys .ret kn' s'→∃ v,(results fn tmps).run P w'=.ok v w'∧(∃ v2 us,Ending.returned v=.returned v2∧zVG w' w.heap.size e size v2 n us∧zQU w' (fun g=>(S g∨w.heap.size≤g)∧v2.ownBlock≠some g) ys us∧ys.length=n*size∧Below w.heap.size w w'):=by
    intro hq
    have hsee:∀ g,(S g∨w.heap.size≤g∨False)→(S g∨w.heap.size≤g):=fun g hV=>hV.imp id fun h=>h.resolve_right id
    refine ⟨_,results_tmp hres _ _ _,?_⟩
    have hv:=hr'.tm t
    simp only [jZn] at hq
    split at hq
    · rename_i b m htm
      rw [htm] at hv
      split at hq
      · rename_i e' size' zs hbx
        obtain ⟨⟨rfl,rfl⟩,hlen,rfl,rfl⟩:=hq
        obtain ⟨us,o1,o2,o3⟩:=zGI hr' hbx hlen hv
        refine ⟨_,us,rfl,jKH hr' (fun g h=>h) (by rw [hbx]; rfl) o1 o3,o2.keep fun g off u hV hu=>⟨⟨hsee g hV.1,fun e=>?_⟩,hu⟩,hlen,hbel⟩
        obtain ⟨c,hc⟩:=o3 g e
        exact hV.2 b c (by rw [hbx]; rfl) hc
      · exact hq.elim
    · rename_i htm
      rw [htm] at hv
      simp only [zQe,zQu] at hv
      obtain ⟨rfl,rfl⟩:=hq
      exact ⟨_,[],rfl,by rw [hv]; exact zW7 _ _ _ _,trivial,by simp,hbel⟩
    · exact hq.elim
  cases ex with
  | normal=>exact ⟨fun _ e=>by (cases e),done hq⟩
  | ret=>exact ⟨fun _ e=>by (cases e),done hq⟩
  | exit id=>exact hq.elim
mutual
def AV.wf:AV→Prop
  | .one c=>match c with
    | .d v=>v.wf
    | _=>True
  | .agg cs=>Cl.wfs cs
  | .tup _=>True
def Cl.wfs:List Cl→Prop
  | []=>True
  | c::cs=>(match c with
    | .d v=>v.wf
    | _=>True)∧Cl.wfs cs
end
def AV.wfL:List AV→Prop
  | []=>True
  | x::xs=>x.wf∧AV.wfL xs
def Bx.wf:Bx→Prop
  | .cells cs=>Cl.wfs cs
  | .row _ _ xs=>DV.wfs xs
  | .ice xs=>DV.wfs xs
  | _=>True
def Bx.wfL:List Bx→Prop
  | []=>True
  | x::xs=>x.wf∧Bx.wfL xs
section
variable {w:World} {V:Nat→Prop} {ι:zQi} {bx:Nat→Bx}
theorem zQK.wf:∀ {cs:List Cl} {vs:List Value},zQK w V ι bx cs vs→Cl.wfs cs
  | [],[],_=>by simp only [Cl.wfs]
  | c::cs,v::vs,h=>by
    simp only [Cl.wfs]
    refine ⟨?_,zQK.wf h.2⟩
    cases c <;> first | exact RepD.wf h.1 | trivial
  | [],_::_,h=>h.elim
  | _::_,[],h=>h.elim
theorem zQe.wf {x:AV} {v:Value} (h:zQe w V ι bx x v):x.wf:=by
  cases x with
  | one c=>simp only [zQe] at h; cases c <;> simp only [AV.wf] <;> first | exact RepD.wf h | trivial
  | agg cs=>simp only [zQe] at h; obtain ⟨cur,_,h⟩:=h; simp only [AV.wf]; exact h.wf
  | tup vs=>simp only [AV.wf]
theorem RepAVs.wf:∀ {xs:List AV} {vs:List Value},RepAVs w V ι bx xs vs→AV.wfL xs
  | [],[],_=>trivial
  | _::_,_::_,h=>by simp only [RepAVs] at h; exact ⟨h.1.wf,RepAVs.wf h.2⟩
  | [],_::_,h=>by simp only [RepAVs] at h
  | _::_,[],h=>by simp only [RepAVs] at h
theorem zZB.wf {b:Nat} {B:Bx} (h:zZB w V ι bx b B):B.wf:=by
  cases B with
  | fresh=>trivial
  | gone=>trivial
  | cells cs=>obtain ⟨_,_,_,_,_,_,h⟩:=h; exact h.wf
  | row e size xs=>
    rcases h with ⟨_,rfl⟩ | ⟨_,_,_,_,_,_,_,h⟩
    · simp only [Bx.wf,DV.wfs]
    · exact h.wf
  | ice xs=>
    rcases h with ⟨_,rfl⟩ | ⟨_,_,_,h,_⟩
    · simp only [Bx.wf,DV.wfs]
    · exact h.cells.wf
end
def zZq (args:List AV) (ins:List Bx):AS:=⟨fun t=>(args[t]?).getD (.tup []),zQA ins⟩
def zipN {α:Type}:Nat→List α→List (Nat × α)
  | _,[]=>[]
  | n,x::xs=>(n,x)::zipN (n+1) xs
def Cl.flatV:Cl→Prop
  | .d v=>v.flat=true
  | .vp _ _=>False
  | .clo _ _=>False
  | _=>True
def zGS:List Cl→Prop
  | []=>True
  | c::cs=>c.flatV∧zGS cs
mutual
def AV.flatV:AV→Prop
  | .one c=>c.flatV
  | .agg cs=>zGS cs
  | .tup vs=>AV.flatVL vs
def AV.flatVL:List AV→Prop
  | []=>True
  | x::xs=>x.flatV∧AV.flatVL xs
end
def Bx.flatV:Bx→Prop
  | .cells cs=>zGS cs
  | .row _ _ xs=>∀ d∈xs,d.flat=true
  | .ice _=>False
  | _=>True
def Bx.flatVL:List Bx→Prop
  | []=>True
  | x::xs=>x.flatV∧Bx.flatVL xs
def zQx (r:Ret):Prop:=match r.fresh with
  | true=>r.res.flatV∧Bx.flatVL r.outs
  | false=>True
def jXU:List AV→AV
  | [x]=>x
  | xs=>.tup xs
def jKf (x:AV) (bx:Nat→Bx):AS:=⟨fun t=>if t=0 then x else .one .dead,bx⟩
def zXg (P:Program) (n:Dom) (rs:List ResultVar) (r:Ret):zXf→Kn→AS→Prop
  | .exit _,_,_=>False
  | _,_,s=>match zVR P s rs with
    | some xs=>fits ⟨1,fun _=>false,n.pin,false⟩ (jKf (jXU xs) s.bx) ⟨[(0,r.res)],zipN 0 r.outs⟩∧zQx r
    | none=>False
section
variable {w:World} {V V':Nat→Prop} {ι:zQi} {bx:Nat→Bx}
theorem jY2 {c:Cl} {v:Value} (hf:c.flatV) (h:zQu w V ι bx c v):zQu w V' ι bx c v:=by
  cases c with
  | d x=>exact RepD.of_flat hf h
  | vp _ _=>exact hf.elim
  | clo _ _=>exact hf.elim
  | lit u=>exact h
  | nil=>exact h
  | ptr b off=>exact h
  | ref b n=>exact h
  | dead=>trivial
theorem zHC:∀ {cs:List Cl} {vs:List Value},zGS cs→zQK w V ι bx cs vs→zQK w V' ι bx cs vs
  | [],[],_,_=>trivial
  | _::_,_::_,hf,h=>⟨jY2 hf.1 h.1,zHC hf.2 h.2⟩
  | [],_::_,_,h=>h.elim
  | _::_,[],_,h=>h.elim
mutual
theorem jY3:∀ {x:AV} {v:Value},x.flatV→zQe w V ι bx x v→zQe w V' ι bx x v
  | .one c,v,hf,h=>by simp only [zQe,AV.flatV] at h hf ⊢; exact jY2 hf h
  | .agg cs,v,hf,h=>by
    simp only [zQe,AV.flatV] at h hf ⊢
    obtain ⟨cur,e,h⟩:=h
    exact ⟨cur,e,zHC hf h⟩
  | .tup vs,v,hf,h=>by
    simp only [zQe,AV.flatV] at h hf ⊢
    obtain ⟨cur,e,h⟩:=h
    exact ⟨cur,e,flat_avs hf h⟩
theorem flat_avs:∀ {xs:List AV} {vs:List Value},AV.flatVL xs→RepAVs w V ι bx xs vs→RepAVs w V' ι bx xs vs
  | [],[],_,_=>by simp only [RepAVs]
  | _::_,_::_,hf,h=>by simp only [RepAVs,AV.flatVL] at h hf ⊢; exact ⟨jY3 hf.1 h.1,flat_avs hf.2 h.2⟩
  | [],_::_,_,h=>by simp only [RepAVs] at h
  | _::_,[],_,h=>by simp only [RepAVs] at h
end
theorem jVa {b:Nat} {B:Bx} (hf:B.flatV) (h:zZB w V ι bx b B):zZB w V' ι bx b B:=by
  cases B with
  | fresh=>trivial
  | gone=>trivial
  | cells cs=>obtain ⟨g,c,cur,T,h1,h2,h3⟩:=h; exact ⟨g,c,cur,T,h1,h2,zHC hf h3⟩
  | row e size xs=>
    rcases h with h | ⟨g,cap,cur,h1,h2,h3,h4,h5⟩
    · exact .inl h
    · exact .inr ⟨g,cap,cur,h1,h2,h3,h4,zQU.of_flat (List.all_eq_true.2 hf) h5⟩
  | ice xs=>exact hf.elim
theorem jQB:∀ {l:List Bx} {b:Nat},Bx.flatVL l→(zQA l b).flatV
  | [],b,_=>by simp [zQA,Bx.flatV]
  | x::l,0,h=>h.1
  | x::l,b+1,h=>jQB (b:=b) h.2
end
theorem zGK:∀ {l:List Bx} {k b:Nat},zXj (zipN k l) (k+b)=zQA l b
  | [],_,_=>rfl
  | x::l,k,0=>by simp [zipN,zXj,zQA]
  | x::l,k,b+1=>by
    have:=zGK (l:=l) (k:=k+1) (b:=b)
    simp only [zipN,zXj]
    rw [if_neg (by omega),show k+(b+1)=k+1+b from by omega,this]
    rfl
theorem jYe:∀ {l:List Bx},(∀ b,(zQA l b).wf)→Bx.wfL l
  | [],_=>trivial
  | x::l,h=>⟨h 0,jYe fun b=>h (b+1)⟩
theorem zVw {w:World} {V:Nat→Prop} {ι:zQi} {bx:Nat→Bx}:∀ {xs:List AV} {vs:List Value},RepAVs w V ι bx xs vs→xs.length=vs.length
  | [],[],_=>rfl
  | _::_,_::_,h=>by simp only [RepAVs] at h; simp [zVw h.2]
  | [],_::_,h=>by simp only [RepAVs] at h
  | _::_,[],h=>by simp only [RepAVs] at h
theorem zGs {fn:Func} {pin:Nat} {args:List AV} {ins:List Bx} (hl:args.length≤fn.ntmps) (hp:(List.range pin).all (fun b=>(zQA ins b).known)=true)
    {w:World} {S:Nat→Prop} {ι:zQi} {vs:Array Value} (hgl:zZX w S) (hh:zYR w S ι args ins vs.toList) :
    RepS w { see:=S,lent:=OwnB (zQA ins) ι,ref:=w,nm:=ι } ⟨fn.ntmps,fun _=>false,List.range pin,false⟩ (zZq args ins) ι { tmps:=vs++Array.replicate (fn.ntmps - vs.size) undef,defers:=[] } w:=by
  have hargs:=hh.args
  have hlen:=zVw hargs
  have hk:zQ9 w S w (Seen { see:=S,lent:=OwnB (zQA ins) ι,ref:=w,nm:=ι } w.heap.size (zQA ins) ι):=fun g off u hV hu=>⟨⟨.inl hV,fun b c hl e=>(hh.own b g c hl e).1 hV⟩,hu⟩
  refine ⟨Bel.refl _ _,⟨List.Pairwise.nil,fun d hd=>by simp at hd⟩,KeepsOthers.refl w,?_,fun t h=>by (cases h),fun b hb=>⟨rfl,(List.all_eq_true.1 hp) b hb⟩,fun t=>?_,fun b=>(hh.bx b).seen hk,fun b g c hl e=>⟨.inr ⟨b,c,hl,e⟩,(hh.own b g c hl e).2⟩,hh.dist,hgl.keep hk⟩
  · show (vs++Array.replicate (fn.ntmps - vs.size) undef).size=fn.ntmps
    simp at hlen ⊢; omega
  · have h1:RepAVs w (Seen { see:=S,lent:=OwnB (zQA ins) ι,ref:=w,nm:=ι } w.heap.size (zQA ins) ι) ι (zQA ins) args vs.toList:=hargs.keep (fun b hb=>⟨hb,rfl⟩) hk
    have h2:=zG5 (k:=fn.ntmps - vs.size) h1 t
    rw [← jXy] at h2
    exact h2
theorem zVt {P:Program} {fn:Func} {pin:Nat} {ins:List Bx} {r:Ret} {kn':Kn} {s':AS} {ι':zQi} {w w':World} {S:Nat→Prop} {ι:zQi} {tmps:Array Value}
    (hr':RepS w { see:=S,lent:=OwnB (zQA ins) ι,ref:=w,nm:=ι } ⟨fn.ntmps,fun _=>false,List.range pin,false⟩ s' ι' { tmps:=tmps,defers:=[] } w') :
    zXg P ⟨fn.ntmps,fun _=>false,List.range pin,false⟩ fn.results.toList r .ret kn' s'→∃ v,(results fn tmps).run P w'=.ok v w'∧∃ v2 ι',Ending.returned v=.returned v2∧jJn w S ι pin ins r w' ι' v2:=by
  intro hq
  simp only [zXg] at hq
  split at hq
  · rename_i xs hxs
    obtain ⟨hfit,hfresh⟩:=hq
    obtain ⟨us,hrun,hus⟩:=jZV hr' hxs
    have hul:=zVw hus
    refine ⟨_,hrun,?_⟩
    have hx:zQe w' (Seen { see:=S,lent:=OwnB (zQA ins) ι,ref:=w,nm:=ι } w.heap.size s'.bx ι') ι' s'.bx (jXU xs) (if h:us.toArray.size=1 then us.toArray[0] else .tuple us.toArray):=by
      match xs,us,hus,hul with
      | [x],[u],hus,_=>simp only [RepAVs] at hus; simpa [jXU] using hus.1
      | [],[],hus,_=>simp only [jXU,zQe]; exact ⟨_,rfl,hus⟩
      | x1::x2::xs,u1::u2::us,hus,_=>simp only [jXU,zQe]; exact ⟨(u1::u2::us).toArray,by simp,hus⟩
      | [_],[],_,hl=>simp at hl
      | [],_::_,_,hl=>simp at hl
      | [_],_::_::_,_,hl=>simp at hl
      | _::_::_,[],_,hl=>simp at hl
      | _::_::_,[_],_,hl=>simp at hl
    generalize (if h:us.toArray.size=1 then us.toArray[0] else .tuple us.toArray)=v at hx
    generalize jXU xs=x at hx hfit
    have h1:RepS w { see:=S,lent:=OwnB (zQA ins) ι,ref:=w,nm:=ι } ⟨1,fun _=>false,List.range pin,false⟩ (jKf x s'.bx) ι' { tmps:=#[v],defers:=[] } w':=
      ⟨hr'.bel,⟨List.Pairwise.nil,fun d hd=>by simp at hd⟩,hr'.oth,rfl,fun t h=>by (cases h),hr'.pin,fun t=>by
        show zQe _ _ _ _ (if t=0 then x else .one .dead) _
        split
        · rename_i e; subst e; exact hx
        · simp only [zQe,zQu],hr'.bx,hr'.own,hr'.dist,hr'.glob⟩
    obtain ⟨ι2,h2⟩:=h1.fit hfit
    have hbx:zXj (zipN 0 r.outs)=zQA r.outs:=by
      funext b
      have:=zGK (l:=r.outs) (k:=0) (b:=b)
      rwa [Nat.zero_add] at this
    have htm:zQe w' (Seen { see:=S,lent:=OwnB (zQA ins) ι,ref:=w,nm:=ι } w.heap.size (zQA r.outs) ι2) ι2 (zQA r.outs) r.res v:=by
      have:=h2.tm 0
      rw [← hbx]
      exact this
    have hb2:∀ b,zZB w' (Seen { see:=S,lent:=OwnB (zQA ins) ι,ref:=w,nm:=ι } w.heap.size (zQA r.outs) ι2) ι2 (zQA r.outs) b (zQA r.outs b):=fun b=>by
      have:=h2.bx b
      rw [← hbx]
      exact this
    have hown:∀ b g c,(zQA r.outs b).live=true→ι2 b=some (g,c)→(w.heap.size≤g∨OwnB (zQA ins) ι g)∧g < w'.heap.size:=fun b g c hl e=>h2.own b g c (by rw [← hbx] at hl; exact hl) e
    have hdist:∀ b b' g c c',(zQA r.outs b).live=true→(zQA r.outs b').live=true→b≠b'→ι2 b=some (g,c)→ι2 b'≠some (g,c'):=fun b b' g c c' hl hl'=>h2.dist b b' g c c' (by rw [← hbx] at hl; exact hl) (by rw [← hbx] at hl'; exact hl')
    have hpin:∀ b,b < pin→ι2 b=ι b:=fun b hb=>(h2.pin b (List.mem_range.2 hb)).1
    refine ⟨v,ι2,rfl,?_⟩
    cases hfr:r.fresh with
    | true=>
      unfold zQx at hfresh
      rw [hfr] at hfresh
      exact ⟨jY3 hfresh.1 htm,fun b=>jVa (jQB hfresh.2) (hb2 b),hown,hdist,hpin,h2.bel⟩
    | false=>
      have hk2:zQ9 w' (Seen { see:=S,lent:=OwnB (zQA ins) ι,ref:=w,nm:=ι } w.heap.size (zQA r.outs) ι2) w' (jXE w S ι ins r ι2):=fun g off u hV hu=>⟨⟨by
        rcases hV.1 with h | h | h
        · exact .inl ⟨hfr,h⟩
        · exact .inr (.inl h)
        · exact .inr (.inr h),fun ⟨b,c,hl,e⟩=>hV.2 b c hl e⟩,hu⟩
      exact ⟨htm.keep (fun b hb=>⟨hb,rfl⟩) hk2,fun b=>(hb2 b).seen hk2,hown,hdist,hpin,h2.bel⟩
  · exact hq.elim
theorem zQR {P:Program} {Γ:Gam} {f:FuncId} {fn:Func} {pin:Nat} {args:List AV} {ins:List Bx} {r:Ret} (ann:Ann) (hm:P.follows .mixedOrders=true) (hf:P.funcs[f]?=some fn) (hb:fn.body.isSome=true) (hl:args.length≤fn.ntmps)
    (hp:(List.range pin).all (fun b=>(zQA ins b).known)=true)
    (h:AV.wfL args→Bx.wfL ins→vcg P Γ ⟨fn.ntmps,fun _=>false,List.range pin,false⟩ (zQl fn) ann kn0 (zZq args ins) (zXg P ⟨fn.ntmps,fun _=>false,List.range pin,false⟩ fn.results.toList r)):AnsG P f pin args ins r:=by
  intro w S ι vs hgl hh
  have hv:=h hh.args.wf (jYe fun b=>(hh.bx b).wf)
  refine zJy ann hm hf hb (n:=⟨fn.ntmps,fun _=>false,List.range pin,false⟩) rfl hv (zGs hl hp hgl hh) rfl (fun e kn' s' ι' tmps w' hq hr'=>?_) (fun id kn' s' hq=>hq)
  cases e with
  | normal=>exact ⟨fun _ e=>by (cases e),zVt (kn':=kn') hr' hq⟩
  | ret=>exact ⟨fun _ e=>by (cases e),zVt (kn':=kn') hr' hq⟩
  | exit id=>exact hq.elim
theorem jKh {x y M:Int} (h1:0≤x) (h2:x≤M) (h3:0≤y) (h4:y≤M):0≤x*y∧x*y≤M*M:=
  ⟨Int.mul_nonneg h1 h3,Int.mul_le_mul h2 h4 h3 (by omega)⟩
def modS (n k:Int):Int:=if k < 1 then 0 else (IntKind.wrap .i64 (n.tmod k+k)).tmod k
theorem jYQ {n k:Int} (hk:1≤k) (hk':k≤4611686018427387904):modS n k=n % k:=by
  unfold modS
  rw [if_neg (by omega)]
  have a:=Int.tmod_lt_of_pos n (show 0 < k by omega)
  have b : -k < n.tmod k:=by
    rcases Int.le_total 0 n with h | h
    · have:=Int.tmod_nonneg k h; omega
    · have:=Int.tmod_lt_of_pos (-n) (show 0 < k by omega)
      rw [Int.neg_tmod] at this
      omega
  rw [IntWalk.i64_in _ ⟨by omega,by omega⟩,Int.tmod_eq_emod_of_nonneg (by omega),Int.add_emod_right,Int.tmod_def]
  rw [show n - k*n.tdiv k=n+k*(-(n.tdiv k)) from by rw [Int.mul_neg]; omega,Int.add_mul_emod_self_left]
structure Rc where
  a:Int
  b:Int
  c:Int
  d:Int
deriving DecidableEq
def okC (v:Int):Bool:=decide (-1073741824≤v) && decide (v≤1073741824)
def Rc.valid (r:Rc):Bool:=okC r.a && okC r.b && okC r.c && okC r.d
def Rc.empty (r:Rc):Bool:=!r.valid || decide (r.c≤r.a) || decide (r.d≤r.b)
def Rc.zero:Rc:=⟨0,0,0,0⟩
def Rc.clean (r:Rc):Rc:=if r.empty then Rc.zero else r
def Rc.area (r:Rc):Int:=if r.empty then 0 else (r.c - r.a)*(r.d - r.b)
def Rc.has (r:Rc) (x y:Int):Bool:=!r.empty && decide (r.a≤x) && decide (x < r.c) && decide (r.b≤y) && decide (y < r.d)
def Rc.inter (r q:Rc):Rc:=if r.empty || q.empty then Rc.zero else Rc.clean ⟨max r.a q.a,max r.b q.b,min r.c q.c,min r.d q.d⟩
def Rc.move (r:Rc) (x y:Int):Rc:=if r.empty || decide (x < -2147483648) || decide (2147483648 < x) || decide (y < -2147483648) || decide (2147483648 < y) then Rc.zero else Rc.clean ⟨r.a+x,r.b+y,r.c+x,r.d+y⟩
theorem Rc.empty_false {r:Rc} (h:r.empty=false) :
    -1073741824≤r.a∧r.a < r.c∧r.c≤1073741824 ∧ -1073741824≤r.b∧r.b < r.d∧r.d≤1073741824:=by
  simp [Rc.empty,Rc.valid,okC] at h
  omega
theorem Rc.empty_iff (r:Rc):r.empty=false ↔ -1073741824≤r.a∧r.a < r.c∧r.c≤1073741824 ∧ -1073741824≤r.b∧r.b < r.d∧r.d≤1073741824:=by
  refine ⟨Rc.empty_false,fun h=>?_⟩
  simp [Rc.empty,Rc.valid,okC]
  omega
def is (l:List Int):List DV:=l.map (.int .i64)
def ints (l:List DV):List Int:=l.map fun | .int _ n=>n | _=>0
theorem zZo (l:List Int):ints (is l)=l:=by simp [ints,is,Function.comp_def]
def Rc.cells (r:Rc):List DV:=[.int .i64 r.a,.int .i64 r.b,.int .i64 r.c,.int .i64 r.d]
def rcs (l:List Rc):List DV:=l.flatMap Rc.cells
def nOf:DV→Int
  | .int _ n=>n
  | _=>0
def jKx:List DV→List Rc
  | a::b::c::d::r=>⟨nOf a,nOf b,nOf c,nOf d⟩::jKx r
  | _=>[]
def jVX (n:Nat) (xs:List DV):Prop:=xs=rcs (jKx xs)∧n=(jKx xs).length
theorem jVX.of {n:Nat} {xs:List DV} (h:jVX n xs):∃ l:List Rc,xs=rcs l∧n=l.length:=⟨_,h.1,h.2⟩
def Rc.pieces (r i:Rc):List Rc:=[⟨r.a,r.b,r.c,i.b⟩,⟨r.a,i.d,r.c,r.d⟩,⟨r.a,i.b,i.a,i.d⟩,⟨i.c,i.b,r.c,i.d⟩]
def filt (l:List Rc):List Rc:=l.filter fun p=>!p.empty
def Rc.sub (r q:Rc):List Rc:=if r.empty then [] else if (r.inter q).empty then [r] else filt (Rc.pieces r (r.inter q))
theorem zQW (l:List Int):(is l).length=l.length:=by simp [is]
theorem jYT {l:List Int} {k:Nat} (h:k < l.length):(is l)[k]?=some (.int .i64 l[k]):=by simp [is,h]
theorem jQn {l:List Int} {k:Nat} (h:k < l.length):nAt (is l) k=l[k]:=by simp [nAt,jYT h]
theorem jQ1:∀ (xs:List DV),DV.wfs xs↔∀ x∈xs,x.wf
  | []=>by simp [DV.wfs]
  | x::xs=>by simp only [DV.wfs,jQ1 xs,List.mem_cons,forall_eq_or_imp]
def atS (l:List Int) (i:Int):Int:=if i < 0 then 0 else (l[i.toNat]?).getD 0
def upto (n:Nat):List Int:=(List.range n).map Int.ofNat
theorem zG3 (n:Nat):(upto n).length=n:=by simp [upto]
theorem jYh (n:Nat):upto (n+1)=upto n++[(n:Int)]:=by simp [upto,List.range_succ]
def stp (l:List Int) (n:Nat):Nat→List Int × List Int
  | 0=>(upto n,[])
  | i+1=>
    let s:=stp l n i
    let k:=(modS (atS l i) s.1.length).toNat
    (s.1.take k++s.1.drop (k+1),s.2++[(s.1[k]?).getD 0])
theorem jKR (l:List Int) (k:Nat):(is l).take k=is (l.take k):=by simp [is,List.map_take]
theorem jKS (l:List Int) (k:Nat):(is l).drop k=is (l.drop k):=by simp [is,List.map_drop]
theorem zUp (l m:List Int):is l++is m=is (l++m):=by simp [is]
theorem jY6 {k N:Nat} (h:k < N):(is (upto k)++List.replicate (N - k) (DV.int .i64 0)).set k (.int .i64 k)=is (upto (k+1))++List.replicate (N - (k+1)) (DV.int .i64 0):=by
  have hl:(is (upto k)).length=k:=by rw [zQW,zG3]
  rw [List.set_append_right _ _ (by omega),hl,Nat.sub_self,show N - k=(N - (k+1))+1 by omega,List.replicate_succ,List.set_cons_zero,jYh,← zUp]
  simp [is]
def zZO (l:List Int) (n:Int):List Int:=if l.length=0∨64 < n then [] else (stp l n.toNat n.toNat).2
theorem jZs {v:Int} {m:Nat} (hm:1≤m) (hm':m≤1000000):0≤modS v m∧(modS v m).toNat < m:=by
  rw [jYQ (by omega) (by omega)]
  have:=Int.emod_nonneg v (show (m:Int)≠0 by omega)
  have:=Int.emod_lt_of_pos v (show 0 < (m:Int) by omega)
  omega
theorem zVq (l:List Int) {n:Nat} (hn:n≤64):∀ i,i≤n→(stp l n i).1.length=n - i∧(stp l n i).2.length=i
  | 0,_=>by simp [stp,zG3]
  | i+1,h=>by
    obtain ⟨h1,h2⟩:=zVq l hn i (by omega)
    have hk:=jZs (v:=atS l i) (m:=(stp l n i).1.length) (by omega) (by omega)
    simp only [stp,List.length_append,List.length_take,List.length_drop,List.length_cons,List.length_nil]
    omega
theorem jZU (l:List Int) {n:Nat} (hn:n≤64):∀ i,i≤n→((stp l n i).2++(stp l n i).1).Perm (upto n)
  | 0,_=>by simp [stp]
  | i+1,h=>by
    obtain ⟨h1,h2⟩:=zVq l hn i (by omega)
    have hk:=jZs (v:=atS l i) (m:=(stp l n i).1.length) (by omega) (by omega)
    have ih:=jZU l hn i (by omega)
    simp only [stp]
    generalize (stp l n i).1=r at *
    generalize (stp l n i).2=o at *
    generalize (modS (atS l i) r.length).toNat=k at *
    have e:r=r.take k++r[k]::r.drop (k+1):=by rw [← List.drop_eq_getElem_cons hk.2,List.take_append_drop]
    rw [List.getElem?_eq_getElem hk.2,Option.getD_some,List.append_assoc]
    refine List.Perm.trans ?_ ih
    refine List.Perm.append_left o ?_
    conv=>rhs; rw [e]
    simp only [List.singleton_append]
    exact List.perm_middle.symm
theorem jXR {l:List Int} {n:Int} (h:l.length≠0) (hn:n≤64):(zZO l n).Perm (upto n.toNat):=by
  have h1:=jZU l (n:=n.toNat) (by omega) n.toNat (Nat.le_refl _)
  have h2:=zVq l (n:=n.toNat) (by omega) n.toNat (Nat.le_refl _)
  have e:(stp l n.toNat n.toNat).1=[]:=List.eq_nil_of_length_eq_zero (by omega)
  rw [e,List.append_nil] at h1
  unfold zZO
  rw [if_neg (by omega)]
  exact h1
def seqL (l:List Int) (n:Int):List Int:=if l.length=0 then upto n.toNat else l
def jK7 (s:List Int) (n:Int):Prop:=(∀ v∈s,0≤v∧v < n)∧s.Nodup
instance (s:List Int) (n:Int):Decidable (jK7 s n):=by unfold jK7; infer_instance
def jKI (l:List Int) (n:Int):Bool:=decide (0≤n) && decide (n≤16777216) && (decide (l.length=0) || decide ((l.length:Int)=n)) && decide (jK7 (seqL l n) n)
theorem jJX {l l':List Int} (he:l.length=l'.length) (hm:l.length≤2 ^ 63 - 1) {B:Bool} (hB:B=decide (l=l')) :
    (∃ k,(k≤l.length∧List.take k l=List.take k l')∧(0:Int)=(k:Int)) ∧
        ∀ (k:Nat),
          k≤l.length∧List.take k l=List.take k l' →
            ((k:Int) < (l.length:Int) →
                (0≤(k:Int)∧(k:Int) < (l.length:Int)∧k*1 < l.length) ∧
                  (is l)[k*1]?=some (DV.int IntKind.i64 (nAt (is l) (k*1))) ∧
                    (0≤(k:Int)∧(k:Int) < (l'.length:Int)∧k*1 < l'.length) ∧
                      (is l')[k*1]?=some (DV.int IntKind.i64 (nAt (is l') (k*1))) ∧
                        ((nAt (is l) (k*1) != nAt (is l') (k*1))=true→false=B) ∧
                          ((nAt (is l) (k*1) != nAt (is l') (k*1))=false →
                            ∃ k':Nat,
                              (k'≤l.length∧List.take k' l=List.take k' l') ∧
                                l.length - k' < l.length - k∧IntKind.i64.wrap ((k:Int)+1)=(k':Int))) ∧
              (¬(k:Int) < (l.length:Int)→true=B):=by
  subst hB
  refine ⟨⟨0,⟨by omega,rfl⟩,rfl⟩,fun k hk=>⟨fun hlt=>?_,fun hge=>?_⟩⟩
  · have h:k < l.length:=by omega
    have h':k < l'.length:=by omega
    have hw:IntKind.wrap .i64 ((k:Int)+1)=((k+1:Nat):Int):=by rw [IntWalk.i64_in _ ⟨by omega,by omega⟩]; omega
    simp only [Nat.mul_one,jQn h,jQn h']
    refine ⟨by omega,jYT h,by omega,jYT h',fun hd=>?_,fun hd=>?_⟩
    · have:l≠l':=fun e=>by subst e; simp at hd
      simp [this]
    · refine ⟨k+1,⟨by omega,?_⟩,by omega,hw⟩
      have hr:l[k]=l'[k]:=by simpa using hd
      rw [List.take_add_one,List.take_add_one,hk.2,List.getElem?_eq_getElem h,List.getElem?_eq_getElem h',hr]
  · have hkl:k=l.length:=by omega
    have:=hk.2
    rw [List.take_of_length_le (by omega),List.take_of_length_le (by omega)] at this
    simp [this]
theorem jKk {n:Nat} {xs:List DV} (hn:xs.length=n) (hx:∀ (j:Nat) d,xs[j]?=some d→∃ v,d=.int .i64 v):xs=is (ints xs)∧n=xs.length:=by
  refine ⟨?_,hn.symm⟩
  clear hn
  induction xs with
  | nil=>rfl
  | cons x xs ih=>
    obtain ⟨v,rfl⟩:=hx 0 _ rfl
    have:=ih fun j d hj=>hx (j+1) d hj
    simp only [is,ints,List.map_cons] at this ⊢
    rw [← this]
structure Oq where
  kind:Int
  image:Int
  x:Int
  y:Int
  mask:Int
  mx:Int
  my:Int
  opac:Int
  oper:Int
  mode:Int
  iso:Bool
  kno:Bool
deriving DecidableEq
def popO:Oq:=⟨3,0,0,0,0,0,0,0,0,0,false,false⟩
def Oq.fields (o:Oq):Bool:=
  if o.kind=3 then decide (o=popO)
  else !(decide (o.kind=1) && (o.iso || o.kno)) && !(decide (o.kind=2) && decide (o.image≠0∨o.x≠0∨o.y≠0)) && decide (o.mask≠0∨o.mx=0∧o.my=0)
def zU8 (v:Int):Bool:=decide (-1048576≤v∧v≤1048576)
def Oq.cells (o:Oq):List DV:=[.int .i64 o.kind,.int .i64 o.image,.int .i64 o.x,.int .i64 o.y,.int .i64 o.mask,.int .i64 o.mx,.int .i64 o.my,.int .u16 o.opac,.int .i64 o.oper,.int .i64 o.mode,.bool o.iso,.bool o.kno]
def oqAt (xs:List DV) (i:Nat):Oq:=⟨nAt xs i,nAt xs (i+1),nAt xs (i+2),nAt xs (i+3),nAt xs (i+4),nAt xs (i+5),nAt xs (i+6),nAt xs (i+7),nAt xs (i+8),nAt xs (i+9),bAt xs (i+10),bAt xs (i+11)⟩
def ops (l:List Oq):List DV:=l.flatMap Oq.cells
theorem zQY (l:List Oq):(ops l).length=l.length*12:=by
  induction l with
  | nil=>rfl
  | cons o l ih=>simp only [ops,List.flatMap_cons,List.length_append,List.length_cons] at ih ⊢; rw [ih]; simp [Oq.cells]; omega
theorem zYq (l m:List Oq):ops (l++m)=ops l++ops m:=by simp [ops]
theorem zHe {l:List Oq} {k:Nat} (h:k < l.length) (j:Nat) (hj:j < 12):(ops l)[k*12+j]?=l[k].cells[j]?:=by
  induction l generalizing k with
  | nil=>simp at h
  | cons o l ih=>
    have e:ops (o::l)=o.cells++ops l:=by simp [ops]
    rw [e]
    cases k with
    | zero=>simp only [List.getElem_cons_zero]; rw [List.getElem?_append_left (by simp [Oq.cells]; omega)]; simp
    | succ k=>
      rw [List.getElem?_append_right (by simp [Oq.cells]; omega)]
      have:=ih (k:=k) (by simpa using h)
      simp only [List.getElem_cons_succ]
      rw [← this]
      congr 1
      simp [Oq.cells]; omega
theorem zVT {l:List Oq} {k:Nat} (h:k < l.length):(ops l)[k*12]?=some (.int .i64 l[k].kind)∧(ops l)[k*12+1]?=some (.int .i64 l[k].image)∧(ops l)[k*12+1+1]?=some (.int .i64 l[k].x)∧(ops l)[k*12+1+1+1]?=some (.int .i64 l[k].y)∧(ops l)[k*12+1+1+1+1]?=some (.int .i64 l[k].mask)∧(ops l)[k*12+1+1+1+1+1]?=some (.int .i64 l[k].mx)∧(ops l)[k*12+1+1+1+1+1+1]?=some (.int .i64 l[k].my)∧(ops l)[k*12+1+1+1+1+1+1+1]?=some (.int .u16 l[k].opac)∧(ops l)[k*12+1+1+1+1+1+1+1+1]?=some (.int .i64 l[k].oper)∧(ops l)[k*12+1+1+1+1+1+1+1+1+1]?=some (.int .i64 l[k].mode)∧(ops l)[k*12+1+1+1+1+1+1+1+1+1+1]?=some (.bool l[k].iso)∧(ops l)[k*12+1+1+1+1+1+1+1+1+1+1+1]?=some (.bool l[k].kno):=by
  have g:=fun j hj=>zHe h j hj
  refine ⟨g 0 (by omega),g 1 (by omega),g 2 (by omega),g 3 (by omega),g 4 (by omega),g 5 (by omega),g 6 (by omega),g 7 (by omega),g 8 (by omega),g 9 (by omega),g 10 (by omega),g 11 (by omega)⟩
theorem zUc {l:List Oq} {k:Nat} (h:k < l.length):nAt (ops l) (k*12)=l[k].kind∧nAt (ops l) (k*12+1)=l[k].image∧nAt (ops l) (k*12+1+1)=l[k].x∧nAt (ops l) (k*12+1+1+1)=l[k].y∧nAt (ops l) (k*12+1+1+1+1)=l[k].mask∧nAt (ops l) (k*12+1+1+1+1+1)=l[k].mx∧nAt (ops l) (k*12+1+1+1+1+1+1)=l[k].my∧nAt (ops l) (k*12+1+1+1+1+1+1+1)=l[k].opac∧nAt (ops l) (k*12+1+1+1+1+1+1+1+1)=l[k].oper∧nAt (ops l) (k*12+1+1+1+1+1+1+1+1+1)=l[k].mode∧bAt (ops l) (k*12+1+1+1+1+1+1+1+1+1+1)=l[k].iso∧bAt (ops l) (k*12+1+1+1+1+1+1+1+1+1+1+1)=l[k].kno:=by
  obtain ⟨e0,e1,e2,e3,e4,e5,e6,e7,e8,e9,e10,e11⟩:=zVT h
  simp only [nAt,bAt,e0,e1,e2,e3,e4,e5,e6,e7,e8,e9,e10,e11,and_self]
theorem jJD {l:List Oq} {k:Nat} (h:k < l.length):oqAt (ops l) (k*12)=l[k]:=by
  obtain ⟨e0,e1,e2,e3,e4,e5,e6,e7,e8,e9,e10,e11⟩:=zUc h
  simp only [oqAt,show k*12+2=k*12+1+1 from rfl,show k*12+3=k*12+1+1+1 from rfl,show k*12+4=k*12+1+1+1+1 from rfl,show k*12+5=k*12+1+1+1+1+1 from rfl,show k*12+6=k*12+1+1+1+1+1+1 from rfl,show k*12+7=k*12+1+1+1+1+1+1+1 from rfl,show k*12+8=k*12+1+1+1+1+1+1+1+1 from rfl,show k*12+9=k*12+1+1+1+1+1+1+1+1+1 from rfl,show k*12+10=k*12+1+1+1+1+1+1+1+1+1+1 from rfl,show k*12+11=k*12+1+1+1+1+1+1+1+1+1+1+1 from rfl,e0,e1,e2,e3,e4,e5,e6,e7,e8,e9,e10,e11]
def zQp (xs:List DV):List Oq:=(List.range (xs.length / 12)).map fun k=>oqAt xs (k*12)
theorem zXu (l:List Oq):zQp (ops l)=l:=by
  have e:(ops l).length / 12=l.length:=by rw [zQY]; omega
  unfold zQp
  rw [e]
  refine List.ext_getElem (by simp) fun i h1 h2=>?_
  simp only [List.getElem_map,List.getElem_range]
  exact jJD h2
def ctxB (l:List Oq):Bool:=match l.getLast? with
  | none=>true
  | some o=>o.iso && !o.kno
def cnt (l:List Rc) (x y:Int):Int:=(l.map fun r=>if r.has x y then (1:Int) else 0).sum
def areas (l:List Rc):Int:=(l.map Rc.area).sum
def us (l:List Int):List DV:=l.map (.int .u16)
theorem jKX (l:List Int):ints (us l)=l:=by simp [ints,us,Function.comp_def]
theorem zJb (l:List Int):(us l).length=l.length:=by simp [us]
theorem jVq {l:List Int} {k:Nat} (h:k < l.length):(us l)[k]?=some (.int .u16 l[k]):=by simp [us,h]
theorem jYf {l:List Int} {k:Nat} (h:k < l.length):nAt (us l) k=l[k]:=by simp [nAt,jVq h]
theorem jYg (l m:List Int):us l++us m=us (l++m):=by simp [us]
def IsU (n:Nat) (xs:List DV):Prop:=xs=us (ints xs)∧n=xs.length
theorem IsU.of {n:Nat} {xs:List DV} (h:IsU n xs):∃ l:List Int,xs=us l∧n=l.length:=by
  refine ⟨ints xs,h.1,?_⟩
  rw [h.2,h.1,zJb,jKX]
theorem jKj {n:Nat} {xs:List DV} (hn:xs.length=n) (hx:∀ (j:Nat) d,xs[j]?=some d→∃ v,d=.int .u16 v):IsU n xs:=by
  refine ⟨?_,hn.symm⟩
  clear hn
  induction xs with
  | nil=>rfl
  | cons x xs ih=>
    obtain ⟨v,rfl⟩:=hx 0 _ rfl
    have:=ih fun j d hj=>hx (j+1) d hj
    simp only [us,ints,List.map_cons] at this ⊢
    rw [← this]
def zQz (w h:Int):Bool:=decide (1≤w) && decide (1≤h) && decide (w*h≤16777216)
def lenW (w h s:Int):Int:=IntKind.wrap .i64 (IntKind.wrap .i64 (IntKind.wrap .i64 (h - 1)*s)+w)
def zQc (w h s:Int) (n:Nat):Bool:=zQz w h && decide (w≤s) && decide (s≤16777216) && decide (lenW w h s≤n)
structure Pl where (w h s:Int) (n:Nat) (xs:List DV)
def Pl.none:Pl:=⟨0,0,0,0,[]⟩
def jV1 (w h s:Int) (n:Nat) (xs:List DV) (w' h' s':Int) (n':Nat) (xs':List DV):Bool:=decide (w=w') && decide (h=h') && decide (s=s') && decide (n=n') && decide (ints xs=ints xs')
theorem zJd {w h:Int} (h1:1≤w) (h2:1≤h):(w≤IntKind.wrap .i64 (Int.tdiv 16777216 h))↔w*h≤16777216:=by
  have hd:Int.tdiv 16777216 h=16777216 / h:=Int.tdiv_eq_ediv_of_nonneg (by omega)
  have h3:(0:Int)≤16777216 / h:=Int.ediv_nonneg (by omega) (by omega)
  have h4:(16777216:Int) / h≤16777216:=Int.ediv_le_self _ (by omega)
  rw [hd,IntWalk.i64_in _ ⟨by omega,by omega⟩,Int.le_ediv_iff_mul_le (by omega)]
theorem zZA {w h:Int} (hf:zQz w h=true):1≤w∧1≤h∧w≤16777216∧h≤16777216∧w*h≤16777216:=by
  simp only [zQz,Bool.and_eq_true,decide_eq_true_eq] at hf
  obtain ⟨⟨h1,h2⟩,h3⟩:=hf
  have e1:w*1≤w*h:=Int.mul_le_mul_of_nonneg_left h2 (by omega)
  have e2:1*h≤w*h:=Int.mul_le_mul_of_nonneg_right h1 (by omega)
  omega
theorem jZv {w h s:Int} (hf:zQz w h=true) (h1:w≤s) (h2:s≤16777216):lenW w h s=(h - 1)*s+w∧1≤lenW w h s∧lenW w h s≤562949953421312∧0≤(h - 1)*s:=by
  obtain ⟨a,b,c,d,_⟩:=zZA hf
  have e:=jKh (x:=h - 1) (y:=s) (M:=16777216) (by omega) (by omega) (by omega) (by omega)
  unfold lenW
  rw [IntWalk.i64_in (h - 1) ⟨by omega,by omega⟩,IntWalk.i64_in ((h - 1)*s) ⟨by omega,by omega⟩,IntWalk.i64_in _ ⟨by omega,by omega⟩]
  omega
theorem zKr {w h s:Int} {n:Nat} (hv:zQc w h s n=true):1≤w∧1≤h∧w≤16777216∧h≤16777216∧w*h≤16777216∧w≤s∧s≤16777216∧(h - 1)*s+w≤n∧0≤(h - 1)*s:=by
  simp only [zQc,Bool.and_eq_true,decide_eq_true_eq] at hv
  obtain ⟨⟨⟨h1,h2⟩,h3⟩,h4⟩:=hv
  obtain ⟨e1,_,_,e4⟩:=jZv h1 h2 h3
  obtain ⟨a,b,c,d,e⟩:=zZA h1
  rw [e1] at h4
  exact ⟨a,b,c,d,e,h2,h3,h4,e4⟩
theorem place {w h s:Int} {n:Nat} {x y:Int} (hv:zQc w h s n=true) (h1:0≤x) (h2:x < w) (h3:0≤y) (h4:y < h):0≤y*s∧y*s+x < n∧y*s+w≤n∧y*s≤281474976710656∧IntKind.wrap .i64 (y*s)=y*s∧IntKind.wrap .i64 (y*s+x)=y*s+x:=by
  obtain ⟨a,b,c,d,e,f,g,i,j⟩:=zKr hv
  have e1:=jKh (x:=y) (y:=s) (M:=16777216) (by omega) (by omega) (by omega) (by omega)
  have e2:y*s≤(h - 1)*s:=Int.mul_le_mul_of_nonneg_right (by omega) (by omega)
  refine ⟨by omega,by omega,by omega,by omega,IntWalk.i64_in _ ⟨by omega,by omega⟩,IntWalk.i64_in _ ⟨by omega,by omega⟩⟩
theorem idx {s:Int} {y x:Nat} (hs:0≤s):((y:Int)*s+(x:Int)).toNat=y*s.toNat+x:=by
  have e1:((y*s.toNat:Nat):Int)=(y:Int)*s:=by rw [Int.natCast_mul,Int.toNat_of_nonneg hs]
  omega
theorem zZZ {k:Nat} (h:k≤9223372036854775806):IntKind.wrap .i64 ((k:Int)+1)=((k+1:Nat):Int):=by rw [IntWalk.i64_in _ ⟨by omega,by omega⟩]; omega
theorem w1_:IntKind.wrap .i64 0=0∧IntKind.wrap .i64 1=1∧IntKind.wrap .i64 2=2∧IntKind.wrap .i64 3=3∧IntKind.wrap .i64 4=4∧IntKind.wrap .i64 5=5∧IntKind.wrap .i64 6=6:=by decide
structure Px where
  a:Int
  b:Int
  c:Int
  al:Int
  f:Int
deriving DecidableEq
def Px.zero:Px:=⟨0,0,0,0,0⟩
def Px.ds (p:Px):List DV:=[.int .u16 p.a,.int .u16 p.b,.int .u16 p.c,.int .u16 p.al,.int .u16 p.f]
def pxs (l:List Px):List DV:=l.flatMap Px.ds
def dI:DV→Int
  | .int _ n=>n
  | _=>0
def zQb:List DV→List Px
  | a::b::c::d::e::r=>⟨dI a,dI b,dI c,dI d,dI e⟩::zQb r
  | _=>[]
theorem zZf:∀ l:List Px,zQb (pxs l)=l
  | []=>rfl
  | p::l=>by
    show zQb (Px.ds p++pxs l)=_
    simp [Px.ds,zQb,dI,zZf l]
theorem zQ4 (l:List Px):(pxs l).length=l.length*5:=by
  induction l with
  | nil=>rfl
  | cons p l ih=>simp [pxs,Px.ds] at ih ⊢; omega
theorem jZZ (p:Px) (l:List Px):pxs (p::l)=Px.ds p++pxs l:=rfl
theorem zGF (l m:List Px):pxs l++pxs m=pxs (l++m):=by simp [pxs]
theorem zWZ:∀ {l:List Px} {k:Nat} (h:k < l.length),(pxs l)[k*5]?=some (.int .u16 l[k].a)∧(pxs l)[k*5+1]?=some (.int .u16 l[k].b)∧(pxs l)[k*5+2]?=some (.int .u16 l[k].c)∧(pxs l)[k*5+3]?=some (.int .u16 l[k].al)∧(pxs l)[k*5+4]?=some (.int .u16 l[k].f)
  | p::l,0,_=>by simp [jZZ,Px.ds]
  | p::l,k+1,h=>by
    have:=zWZ (l:=l) (k:=k) (by simpa using h)
    have e:∀ j,(pxs (p::l))[(k+1)*5+j]?=(pxs l)[k*5+j]?:=fun j=>by
      rw [jZZ,List.getElem?_append_right (by simp [Px.ds]; omega)]
      congr 1
      simp [Px.ds]; omega
    have e0:=e 0
    simp only [Nat.add_zero] at e0
    simp only [e,e0,List.getElem_cons_succ]
    exact this
theorem zQ0 {l:List Px} {k:Nat} (h:k < l.length):nAt (pxs l) (k*5)=l[k].a∧nAt (pxs l) (k*5+1)=l[k].b∧nAt (pxs l) (k*5+2)=l[k].c∧nAt (pxs l) (k*5+3)=l[k].al∧nAt (pxs l) (k*5+4)=l[k].f:=by
  obtain ⟨h1,h2,h3,h4,h5⟩:=zWZ h
  simp [nAt,h1,h2,h3,h4,h5]
def zGq (n:Nat) (xs:List DV):Prop:=xs=pxs (zQb xs)∧n=(zQb xs).length
theorem zGq.of {n:Nat} {xs:List DV} (h:zGq n xs):∃ l:List Px,xs=pxs l∧n=l.length:=⟨zQb xs,h.1,h.2⟩
theorem zJo (l:List Px):zGq l.length (pxs l):=⟨by rw [zZf],by rw [zZf]⟩
structure Im where
  w:Int
  h:Int
  so:Bool
  c:Px
  p0:Pl
  p1:Pl
  p2:Pl
  p3:Pl
  p4:Pl
def Im.zero:Im:=⟨0,0,false,.zero,.none,.none,.none,.none,.none⟩
def Pl.isU (p:Pl):Prop:=IsU p.n p.xs
def Im.isU (m:Im):Prop:=m.p0.isU∧m.p1.isU∧m.p2.isU∧m.p3.isU∧m.p4.isU
def zQV (p:Pl):Bool:=decide (p.w=0) && decide (p.h=0) && decide (p.s=0) && decide (p.n=0)
def okPl (so:Bool) (w h:Int) (p:Pl):Bool:=if so then zQV p else zQc p.w p.h p.s p.n && decide (p.w=w) && decide (p.h=h)
def Im.inner (m:Im):Bool:=(m.so || decide (m.c=Px.zero)) && (okPl m.so m.w m.h m.p0 && (okPl m.so m.w m.h m.p1 && (okPl m.so m.w m.h m.p2 && (okPl m.so m.w m.h m.p3 && okPl m.so m.w m.h m.p4))))
def Im.formed (m:Im):Bool:=zQz m.w m.h && m.inner
def Pl.at_ (p:Pl) (x y:Int):Int:=nAt p.xs (y*p.s+x).toNat
def Im.px (m:Im) (x y:Int):Px:=if m.so then m.c else ⟨m.p0.at_ x y,m.p1.at_ x y,m.p2.at_ x y,m.p3.at_ x y,m.p4.at_ x y⟩
def Px.ok (p:Px) (most:Int):Bool:=decide (p.a≤p.al) && (decide (p.b≤p.al) && (decide (p.c≤p.al) && (decide (p.al≤p.f) && decide (p.f≤most))))
def Im.nth (m:Im) (k:Nat):Px:=m.px ((k % m.w.toNat:Nat):Int) ((k / m.w.toNat:Nat):Int)
def Im.count (m:Im):Nat:=m.w.toNat*m.h.toNat
def Im.okTo (m:Im) (most:Int) (k:Nat):Bool:=(List.range k).all fun i=>(m.nth i).ok most
def Im.valid (m:Im) (most:Int):Int:=
  if zQz m.w m.h=false then 6 else if m.inner=false then 7 else if m.so then (if m.c.ok most then 0 else 8) else if m.okTo most m.count then 0 else 8
def Im.shape (m:Im):Int:=if zQz m.w m.h=false then 6 else if m.inner=false then 7 else 0
def Im.list (m:Im) (k:Nat):List Px:=(List.range k).map m.nth
def Im.pixels (m:Im):List Px:=if m.formed then m.list m.count else []
def Im.at_ (m:Im) (x y:Int):Px:=if m.formed && decide (0≤x) && decide (x < m.w) && decide (0≤y) && decide (y < m.h) then m.px x y else .zero
def zQa (w h:Int) (c:Px):Im:=⟨w,h,true,c,.none,.none,.none,.none,.none⟩
def chan (l:List Px) (g:Px→Int):List DV:=us (l.map g)
def ofIm (w h:Int) (l:List Px):Im:=
  let q (g:Px→Int):Pl:=⟨w,h,w,l.length,chan l g⟩
  ⟨w,h,false,.zero,q Px.a,q Px.b,q Px.c,q Px.al,q Px.f⟩
def ofOk (w h:Int) (n:Nat):Bool:=zQz w h && decide ((n:Int)=w*h)
def imOf (w h:Int) (l:List Px):Im:=if ofOk w h l.length then ofIm w h l else .zero
def Im.equal (m n:Im):Bool:=m.formed && n.formed && decide (m.w=n.w) && decide (m.h=n.h) && decide (m.pixels=n.pixels)
theorem zXo {w h s:Int} {n:Nat} {xs:List DV} (hu:IsU n xs) (hv:zQc w h s n=true) {x y:Int} (hx:0≤x∧x < w) (hy:0≤y∧y < h) :
    IntKind.wrap .i64 (IntKind.wrap .i64 (y*s)+x)=y*s+x∧(0≤y*s+x∧y*s+x < n∧(y*s+x).toNat*1 < xs.length)∧xs[(y*s+x).toNat*1]?=some (.int .u16 (nAt xs ((y*s+x).toNat*1))):=by
  obtain ⟨l,rfl,rfl⟩:=hu.of
  have hp:=place hv hx.1 hx.2 hy.1 hy.2
  have hf:=zKr hv
  have h1:0≤y*s:=hp.1
  have h2:y*s+x < l.length:=by exact_mod_cast hp.2.1
  have hy16:y≤16777216:=by omega
  have hs16:s≤16777216:=by omega
  have hb:y*s≤281474976710656:=by
    have:=Int.mul_le_mul hy16 hs16 (by omega) (by omega)
    omega
  have w1:IntKind.wrap .i64 (y*s)=y*s:=IntWalk.i64_in _ ⟨by omega,by omega⟩
  have w2:IntKind.wrap .i64 (y*s+x)=y*s+x:=IntWalk.i64_in _ ⟨by omega,by omega⟩
  rw [w1,w2]
  have hk:(y*s+x).toNat*1 < l.length:=by omega
  refine ⟨rfl,⟨by omega,h2,by rw [zJb]; exact hk⟩,?_⟩
  rw [jVq hk,jYf hk]
theorem Im.inner_planes {m:Im} (h:m.inner=true) (hs:m.so=false):m.c=Px.zero∧(zQc m.p0.w m.p0.h m.p0.s m.p0.n=true∧m.p0.w=m.w∧m.p0.h=m.h)∧(zQc m.p1.w m.p1.h m.p1.s m.p1.n=true∧m.p1.w=m.w∧m.p1.h=m.h) ∧
    (zQc m.p2.w m.p2.h m.p2.s m.p2.n=true∧m.p2.w=m.w∧m.p2.h=m.h)∧(zQc m.p3.w m.p3.h m.p3.s m.p3.n=true∧m.p3.w=m.w∧m.p3.h=m.h)∧(zQc m.p4.w m.p4.h m.p4.s m.p4.n=true∧m.p4.w=m.w∧m.p4.h=m.h):=by
  simp [Im.inner,okPl,hs] at h
  grind
theorem Im.okTo_succ (m:Im) (most:Int) (k:Nat):m.okTo most (k+1)=(m.okTo most k && (m.nth k).ok most):=by
  simp [Im.okTo,List.range_succ,List.all_append]
theorem Im.okTo_le {m:Im} {most:Int} {k n:Nat} (h:k≤n) (hn:m.okTo most n=true):m.okTo most k=true:=by
  simp only [Im.okTo,List.all_eq_true,List.mem_range] at hn ⊢
  exact fun i hi=>hn i (by omega)
theorem Im.shape_zero {m:Im} (h:m.shape=0):zQz m.w m.h=true∧m.inner=true:=by
  unfold Im.shape at h
  split at h
  · cases h
  · split at h
    · cases h
    · simp_all
theorem Im.valid_shape {m:Im} (most:Int) (h:m.shape≠0):m.valid most=m.shape:=by
  unfold Im.shape at h ⊢
  unfold Im.valid
  split
  · rfl
  · rename_i h1
    rw [if_neg h1] at h
    split
    · rfl
    · rename_i h2
      rw [if_neg h2] at h
      exact absurd rfl h
theorem Im.valid_solid {m:Im} {most:Int} (h:m.shape=0) (hs:m.so=true):m.valid most=if m.c.ok most then 0 else 8:=by
  obtain ⟨h1,h2⟩:=Im.shape_zero h
  simp [Im.valid,h1,h2,hs]
theorem Im.valid_planes {m:Im} {most:Int} (h:m.shape=0) (hs:m.so=false):m.valid most=if m.okTo most (m.w.toNat*m.h.toNat) then 0 else 8:=by
  obtain ⟨h1,h2⟩:=Im.shape_zero h
  unfold Im.valid Im.count
  rw [if_neg (by simp [h1]),if_neg (by simp [h2]),if_neg (by simp [hs])]
theorem Im.nth_in {m:Im} (hf:zQz m.w m.h=true) {k:Nat} (hk:k < m.w.toNat*m.h.toNat):(0≤(((k % m.w.toNat:Nat)):Int)∧(((k % m.w.toNat:Nat)):Int) < m.w)∧(0≤(((k / m.w.toNat:Nat)):Int)∧(((k / m.w.toNat:Nat)):Int) < m.h):=by
  obtain ⟨a,b,c,d,e⟩:=zZA hf
  have h1:=Nat.mod_lt k (show 0 < m.w.toNat by omega)
  have h2:k / m.w.toNat < m.h.toNat:=Nat.div_lt_of_lt_mul hk
  generalize k % m.w.toNat=q at *
  generalize k / m.w.toNat=r at *
  omega
theorem Im.count_le {m:Im} (hf:zQz m.w m.h=true):m.w.toNat*m.h.toNat≤16777216∧((m.w.toNat*m.h.toNat:Nat):Int)=m.w*m.h:=by
  obtain ⟨a,b,c,d,e⟩:=zZA hf
  have:((m.w.toNat*m.h.toNat:Nat):Int)=m.w*m.h:=by
    rw [Int.natCast_mul,Int.toNat_of_nonneg (by omega),Int.toNat_of_nonneg (by omega)]
  exact ⟨by omega,this⟩
theorem jXh {w h:Int} (hf:zQz w h=true) (k:Nat) (hk:k < w.toNat*h.toNat):[DV.int .i64 ((k % w.toNat:Nat):Int),DV.int .i64 ((k / w.toNat:Nat):Int)].length=2∧zJI [DV.int .i64 ((k % w.toNat:Nat):Int),DV.int .i64 ((k / w.toNat:Nat):Int)]:=by
  obtain ⟨a,b,c,d,e⟩:=zZA hf
  obtain ⟨⟨h1,h2⟩,h3,h4⟩:=Im.nth_in (m:=⟨w,h,true,.zero,.none,.none,.none,.none,.none⟩) hf hk
  have m1:IntKind.min .i64 = -9223372036854775808:=rfl
  have m2:IntKind.max .i64=9223372036854775807:=rfl
  simp only at h1 h2 h3 h4
  generalize k % w.toNat=q at *
  generalize k / w.toNat=r at *
  refine ⟨rfl,⟨?_,?_⟩,⟨?_,?_⟩,trivial⟩ <;> (first | rw [m1] | rw [m2]) <;> omega
theorem Im.list_succ (m:Im) (k:Nat):m.list (k+1)=m.list k++[m.nth k]:=by simp [Im.list,List.range_succ]
theorem Im.list_len (m:Im) (k:Nat):(m.list k).length=k:=by simp [Im.list]
theorem Im.pxs_succ (m:Im) (k:Nat):pxs (m.list k)++Px.ds (m.nth k)=pxs (m.list (k+1)):=by rw [Im.list_succ,← zGF]; simp [pxs]
theorem Im.formed_of {m:Im} (h:m.formed=true):zQz m.w m.h=true∧m.inner=true:=by simpa [Im.formed] using h
theorem Im.pixels_of {m:Im} (h:m.formed=true):m.pixels=m.list (m.w.toNat*m.h.toNat):=by simp [Im.pixels,h,Im.count]
theorem Im.nth_at {m:Im} {x y:Nat} (hx:x < m.w.toNat):m.nth (y*m.w.toNat+x)=m.px x y:=by
  have hW:0 < m.w.toNat:=by omega
  have e1:(y*m.w.toNat+x) % m.w.toNat=x:=by rw [Nat.add_comm,Nat.add_mul_mod_self_right,Nat.mod_eq_of_lt hx]
  have e2:(y*m.w.toNat+x) / m.w.toNat=y:=by rw [Nat.add_comm,Nat.add_mul_div_right _ _ hW,Nat.div_eq_of_lt hx,Nat.zero_add]
  rw [Im.nth,e1,e2]
theorem jKY {w h x y:Nat} (hx:x < w) (hy:y < h):y*w+x < w*h:=by
  have h1:(y+1)*w≤h*w:=Nat.mul_le_mul_right _ (by omega)
  rw [Nat.mul_comm w,Nat.add_mul] at *
  omega
def zH5 (p q:Pl):Bool:=jV1 p.w p.h p.s p.n p.xs q.w q.h q.s q.n q.xs
def Im.same (m n:Im):Bool:=zH5 m.p0 n.p0 && (zH5 m.p1 n.p1 && (zH5 m.p2 n.p2 && (zH5 m.p3 n.p3 && (zH5 m.p4 n.p4 && (decide (m.w=n.w) && (decide (m.h=n.h) && ((m.so==n.so) && decide (m.c=n.c))))))))
def zQd (l:List Px) (g:Px→Int) (k:Nat):List DV:=us ((l.take k).map g)++List.replicate (l.length - k) (.int .u16 0)
theorem zJW {l:List Px} {g:Px→Int} {k:Nat} (h:k≤l.length):(zQd l g k).length=l.length:=by
  unfold zQd
  rw [List.length_append,zJb,List.length_map,List.length_take,List.length_replicate]; omega
theorem zZR (l:List Px) (g:Px→Int):zQd l g 0=List.replicate l.length (.int .u16 0):=by simp [zQd,us]
theorem zJX (l:List Px) (g:Px→Int):zQd l g l.length=chan l g:=by simp [zQd,chan]
theorem zXL {l:List Px} {g:Px→Int} {k:Nat} (h:k < l.length) {v:Int} (hv:v=g l[k]):(zQd l g k).set k (.int .u16 v)=zQd l g (k+1):=by
  subst hv
  have hl:(us ((l.take k).map g)).length=k:=by rw [zJb,List.length_map,List.length_take]; omega
  unfold zQd
  rw [List.set_append_right _ _ (by omega),hl,Nat.sub_self,show l.length - k=(l.length - (k+1))+1 by omega,List.replicate_succ,List.set_cons_zero,List.take_add_one,List.getElem?_eq_getElem h,Option.toList_some,List.map_append,← jYg]
  simp [us]
theorem zX6 {l:List Px} {k j:Nat} (h:k < l.length) (hj:j < 5):(pxs l)[k*5+j]?=some (.int .u16 (nAt (pxs l) (k*5+j))):=by
  obtain ⟨a0,a1,a2,a3,a4⟩:=zWZ h
  obtain ⟨b0,b1,b2,b3,b4⟩:=zQ0 h
  match j,hj with
  | 0,_=>rw [Nat.add_zero,a0,b0]
  | 1,_=>rw [a1,b1]
  | 2,_=>rw [a2,b2]
  | 3,_=>rw [a3,b3]
  | 4,_=>rw [a4,b4]
theorem jZY {l:List Px} {k:Nat} (h:k < l.length):(pxs l)[k*5]?=some (.int .u16 (nAt (pxs l) (k*5))):=zX6 (j:=0) h (by omega)
theorem zKf {l:List Px} {g:Px→Int} {k:Nat} (hlt:(k:Int) < (l.length:Int)) (hb:l.length≤16777216) {v:Int} (hv:∀ h:k < l.length,v=g l[k]) :
    ∃ k':Nat,k'≤l.length∧l.length - k' < l.length - k∧IntKind.wrap .i64 ((k:Int)+1)=(k':Int)∧(zQd l g k).set (k*1) (.int .u16 v)=zQd l g k':=
  have h:k < l.length:=by omega
  ⟨k+1,by omega,by omega,zZZ (by omega),by rw [Nat.mul_one]; exact zXL h (hv h)⟩
theorem jYM {l:List Px} {k:Nat} (hlt:(k:Int) < (l.length:Int)) (hb:l.length≤16777216) {v1 v2 v3 v4 v5:Int} (h1:∀ h:k < l.length,v1=l[k].a) (h2:∀ h:k < l.length,v2=l[k].b) (h3:∀ h:k < l.length,v3=l[k].c) (h4:∀ h:k < l.length,v4=l[k].al) (h5:∀ h:k < l.length,v5=l[k].f) :
    ∃ k':Nat,k'≤l.length∧l.length - k' < l.length - k∧IntKind.wrap .i64 ((k:Int)+1)=(k':Int)∧(zQd l Px.a k).set (k*1) (.int .u16 v1)=zQd l Px.a k'∧(zQd l Px.b k).set (k*1) (.int .u16 v2)=zQd l Px.b k'∧(zQd l Px.c k).set (k*1) (.int .u16 v3)=zQd l Px.c k'∧(zQd l Px.al k).set (k*1) (.int .u16 v4)=zQd l Px.al k'∧(zQd l Px.f k).set (k*1) (.int .u16 v5)=zQd l Px.f k':=
  have h:k < l.length:=by omega
  ⟨k+1,by omega,by omega,zZZ (by omega),by rw [Nat.mul_one]; exact zXL h (h1 h),by rw [Nat.mul_one]; exact zXL h (h2 h),by rw [Nat.mul_one]; exact zXL h (h3 h),by rw [Nat.mul_one]; exact zXL h (h4 h),by rw [Nat.mul_one]; exact zXL h (h5 h)⟩
theorem jJI {l:List Px} {g:Px→Int} {k:Nat} (hk:k≤l.length) (hge:¬ (k:Int) < (l.length:Int)):zQd l g k=zQd l g l.length:=by
  rw [show k=l.length by omega]
theorem zWF (l:List Int):∀ d∈us l,d.flat=true:=by
  intro d hd
  simp only [us,List.mem_map] at hd
  obtain ⟨v,_,rfl⟩:=hd
  rfl
theorem zKD {w h:Int} {l:List Px} (hk:ofOk w h l.length=true):imOf w h l=ofIm w h l:=by simp [imOf,hk]
theorem zUz {w h:Int} {l:List Px} (hk:ofOk w h l.length=false):imOf w h l=Im.zero:=by simp [imOf,hk]
theorem jYW (w h:Int) (l:List Px):(∀ d∈(imOf w h l).p0.xs,d.flat=true)∧(∀ d∈(imOf w h l).p1.xs,d.flat=true)∧(∀ d∈(imOf w h l).p2.xs,d.flat=true)∧(∀ d∈(imOf w h l).p3.xs,d.flat=true)∧(∀ d∈(imOf w h l).p4.xs,d.flat=true):=by
  cases hk:ofOk w h l.length with
  | true=>rw [zKD hk]; exact ⟨zWF _,zWF _,zWF _,zWF _,zWF _⟩
  | false=>rw [zUz hk]; simp [Im.zero,Pl.none]
theorem zGN (w h:Int) (l:List Px):(∀ d∈(imOf w h l).p0.xs,d.flat=true)=True∧(∀ d∈(imOf w h l).p1.xs,d.flat=true)=True∧(∀ d∈(imOf w h l).p2.xs,d.flat=true)=True∧(∀ d∈(imOf w h l).p3.xs,d.flat=true)=True∧(∀ d∈(imOf w h l).p4.xs,d.flat=true)=True:=by
  obtain ⟨a,b,c,d,e⟩:=jYW w h l
  exact ⟨eq_true a,eq_true b,eq_true c,eq_true d,eq_true e⟩
def gMax (n:Int):Int:=if modS n 3=2 then 65535 else 255
def zQn (n most:Int):Int:=
  if modS n 8=0 then 0
  else if modS n 8=1∨modS n 8=2 then most
  else if modS n 8=3 then IntKind.wrap .u16 (IntKind.wrap .i64 (Int.tdiv (IntKind.wrap .i64 (IntKind.wrap .i64 most+modS (IntKind.wrap .i64 (Int.tdiv n 8)) 2)) 2))
  else if modS n 8=4 then IntKind.wrap .u16 (min (IntKind.wrap .i64 most) (modS (IntKind.wrap .i64 (Int.tdiv n 8)) 4))
  else IntKind.wrap .u16 (modS (IntKind.wrap .i64 (Int.tdiv n 8)) (IntKind.wrap .i64 (IntKind.wrap .i64 most+1)))
def zQs (n0 n1 n2 n3 n4 most:Int):Px:=
  let f:=zQn n4 most
  let a:=if 0 < modS n3 3 then zQn (IntKind.wrap .i64 (Int.tdiv n3 3)) f else f
  ⟨zQn n0 a,zQn n1 a,zQn n2 a,a,f⟩
def gNum (L:Nat) (xs:List DV) (k j:Nat):Int:=if 0 < L then nAt xs (k % L*5+j) else 0
def gPx1 (L:Nat) (xs:List DV) (most:Int) (k:Nat):Px:=zQs (gNum L xs k 0) (gNum L xs k 1) (gNum L xs k 2) (gNum L xs k 3) (gNum L xs k 4) most
def gPx (mood:Int) (L:Nat) (xs:List DV) (most:Int) (k:Nat):Px:=
  if modS mood 6=0 then .zero
  else if modS mood 6=1 then let p:=gPx1 L xs most k; ⟨p.a,p.b,p.c,most,most⟩
  else if modS mood 6=2 then gPx1 L xs most 0
  else gPx1 L xs most k
def zQm (mood:Int) (L:Nat) (xs:List DV) (most:Int) (n:Nat):List Px:=(List.range n).map (gPx mood L xs most)
theorem zZz (mood:Int) (L:Nat) (xs:List DV) (most:Int) (n:Nat):(zQm mood L xs most n).length=n:=by simp [zQm]
theorem jQw (mood:Int) (L:Nat) (xs:List DV) (most:Int) (n:Nat):zQm mood L xs most (n+1)=zQm mood L xs most n++[gPx mood L xs most n]:=by simp [zQm,List.range_succ]
theorem jJw (l:List Px) (p:Px):pxs (l++[p])=pxs l++Px.ds p:=by simp [pxs]
def Is5 (L:Nat) (xs:List DV):Prop:=xs.length=L*5∧∀ i,i < L*5→xs[i]?=some (.int .i64 (nAt xs i))
theorem jK8 {mood:Int} {L:Nat} {xs:List DV} {most:Int} {n:Nat} (hn:0 < n) (hm:modS mood 6=2):∃ h:0 < (zQm mood L xs most n).length,(zQm mood L xs most n)[0]=gPx1 L xs most 0:=by
  refine ⟨by rw [zZz]; exact hn,?_⟩
  simp [zQm,gPx,hm]
theorem zY3 {mood:Int} {L:Nat} {xs:List DV} {most:Int} {k:Nat} (hk:0 < k) (j:Nat) (hj:j < 5):(pxs (zQm mood L xs most k))[j]?=some (.int .u16 (nAt (pxs (zQm mood L xs most k)) j)):=by
  have h:=zX6 (l:=zQm mood L xs most k) (k:=0) (j:=j) (by rw [zZz]; exact hk) hj
  rw [Nat.zero_mul,Nat.zero_add] at h
  exact h
theorem zHA {mood:Int} {L:Nat} {xs:List DV} {most:Int} {k:Nat} (hk:0 < k) (hm:modS mood 6=2):nAt (pxs (zQm mood L xs most k)) 0=(gPx1 L xs most 0).a∧nAt (pxs (zQm mood L xs most k)) 1=(gPx1 L xs most 0).b∧nAt (pxs (zQm mood L xs most k)) 2=(gPx1 L xs most 0).c∧nAt (pxs (zQm mood L xs most k)) 3=(gPx1 L xs most 0).al∧nAt (pxs (zQm mood L xs most k)) 4=(gPx1 L xs most 0).f:=by
  obtain ⟨h,e⟩:=jK8 (mood:=mood) (L:=L) (xs:=xs) (most:=most) hk hm
  have:=zQ0 h
  rw [e] at this
  simpa only [Nat.zero_mul,Nat.zero_add] using this
theorem jQv {mood:Int} {L:Nat} {xs:List DV} {most:Int} {n k:Nat} (hk:k < n) (hn:n≤16777216) {cs:List DV} (hc:cs=Px.ds (gPx mood L xs most k)) :
    ∃ k':Nat,k'≤n∧n - k' < n - k∧(k+1=k'∧IntKind.wrap .i64 ((k:Int)+1)=(k':Int))∧pxs (zQm mood L xs most k)++cs=pxs (zQm mood L xs most k'):=
  ⟨k+1,by omega,by omega,⟨rfl,zZZ (by omega)⟩,by rw [jQw,jJw,hc]⟩
open Go.RowKit Go.ChangeShapes Go.WideShapes
def Rd (P:Program) (w:World):Nat→TypeId→List Value→Prop
  | 0,_,_=>False
  | fuel+1,t,cs=>
    match P.underlying t with
    | some .bool=>∃ b,cs=[.bool b]
    | some (.int k)=>∃ n,cs=[.int k n]∧(Lit.int k n).wf=true
    | some .string=>∃ s,cs=[.string s]∧s.size≤reachBytes
    | some (.slice e)=>cs=[.slice none 0 0]∨∃ a len cap,cs=[.slice (some a) len cap]∧len≤cap∧cap≤maxLen∧cap*P.bytesOf e≤reachBytes ∧
        ∀ i,i < cap→∃ cs',w.cells? 0 (a.add (i*P.cellsOf e)) (P.cellsOf e)=some cs'∧Rd P w fuel e cs'
    | some (.struct fs)=>cs.length=P.cellsOf t∧∀ f∈fs.toList,Rd P w fuel f.type ((cs.drop f.offset).take (P.cellsOf f.type))
    | some (.array n e)=>cs.length=P.cellsOf t∧∀ i,i < n→Rd P w fuel e ((cs.drop (i*P.cellsOf e)).take (P.cellsOf e))
    | _=>True
section
variable {H:Type} {enc:TypeId × Value→H} {P:Program} {w:World}
theorem zXF {e:TypeId} {n:Nat}:∀ {l:List (DataW H)} {d:DataW H},d∈l→n∈d.weights P e→n∈DataW.weightsAll P e l
  | x::r,d,hd,hn=>by
    simp only [DataW.weightsAll,List.mem_append]
    rcases List.mem_cons.1 hd with rfl | h
    · exact .inl hn
    · exact .inr (zXF h hn)
theorem zJ9 {n:Nat}:∀ {ts:List TypeId} {ds:List (DataW H)} {i:Nat} {t:TypeId} {d:DataW H},ts[i]?=some t→ds[i]?=some d→n∈d.weights P t→n∈DataW.weightsEach P ts ds
  | t::ts,d::ds,0,_,_,ht,hd,hn=>by
    simp at ht hd; subst ht hd
    simp only [DataW.weightsEach,List.mem_append]
    exact .inl hn
  | t::ts,d::ds,i+1,_,_,ht,hd,hn=>by
    simp only [DataW.weightsEach,List.mem_append]
    exact .inr (zJ9 (by simpa using ht) (by simpa using hd) hn)
  | [],_,_,_,_,ht,_,_=>by simp at ht
  | _::_,[],_,_,_,_,hd,_=>by simp at hd
theorem jXO:∀ (fuel:Nat) (t:TypeId) (cs:List Value) (d:DataW H) (ps:List MemPlace),
    DataW.trod enc P w 0 (fun _=>true) true fuel t cs=some (d,ps)→(∀ n∈d.weights P t,n≤reachBytes)→Rd P w fuel t cs:=by
  intro fuel
  induction fuel with
  | zero=>intro t cs d ps h; simp [DataW.trod] at h
  | succ fuel ih=>
    intro t cs d ps h hw
    unfold DataW.trod at h
    unfold Rd
    split at h
    · rename_i b hu; simp only [hu]; exact ⟨_,rfl⟩
    · rename_i k k' n hu
      simp only [hu]
      split at h
      · rename_i hk; obtain ⟨rfl,hwf⟩:=hk; exact ⟨_,rfl,hwf⟩
      · cases h
    · rename_i hu; simp only [hu]
    · rename_i s hu
      simp only [hu]
      split at h
      · simp only [Option.some.injEq,Prod.mk.injEq] at h
        obtain ⟨rfl,_⟩:=h
        exact ⟨_,rfl,by have:=hw s.data.toList.length (List.mem_singleton.2 rfl); rw [Array.length_toList] at this; exact this⟩
      · cases h
    · rename_i hu; simp only [hu]
    · rename_i hu; simp only [hu]
    · rename_i hu; simp only [hu]; exact .inl trivial
    · rename_i e a len cap hu
      simp only [hu]
      split at h
      · rename_i hc
        obtain ⟨_,hl,hm⟩:=hc
        simp only [if_true] at h
        obtain ⟨elems,he,h⟩:=Option.bind_eq_some_iff.1 h
        obtain ⟨rest,hr,h⟩:=Option.map_eq_some_iff.1 h
        simp only [Prod.mk.injEq] at h
        obtain ⟨rfl,_⟩:=h
        have le:=mapM_some_length he
        have lr:=mapM_some_length hr
        simp only [List.length_range] at le lr
        have hwt:DataW.weights P t (.slice (elems.map (·.1)) (rest.map (·.1)))=((elems.map (·.1)).length+(rest.map (·.1)).length)*P.bytesOf e::(DataW.weightsAll P e (elems.map (·.1))++DataW.weightsAll P e (rest.map (·.1))):=by
          simp only [DataW.weights,hu]
        rw [hwt] at hw
        refine .inr ⟨a,len,cap,rfl,hl,hm,?_,?_⟩
        · have:=hw _ (.head _)
          simp only [List.length_map,le,lr] at this
          rwa [show len+(cap - len)=cap from by omega] at this
        · have key:∀ (i:Nat) (x:DataW H × List MemPlace),((w.cells? 0 (a.add (i*P.cellsOf e)) (P.cellsOf e)).bind (DataW.trod enc P w 0 (fun _=>true) true fuel e))=some x→(∀ n∈x.1.weights P e,n≤reachBytes) →
              ∃ cs',w.cells? 0 (a.add (i*P.cellsOf e)) (P.cellsOf e)=some cs'∧Rd P w fuel e cs':=by
            intro i x hx hxw
            obtain ⟨cs',h1,h2⟩:=Option.bind_eq_some_iff.1 hx
            exact ⟨cs',h1,ih e cs' x.1 x.2 h2 hxw⟩
          intro i hi
          rcases Nat.lt_or_ge i len with hlt | hge
          · have hx:elems[i]?=some (elems[i]'(by omega)):=List.getElem?_eq_getElem (by omega)
            have h1:=mapM_some_get he i i (by simp [hlt])
            rw [hx] at h1
            refine key i _ h1 fun n hn=>hw n (.tail _ (List.mem_append.2 (.inl (zXF (List.mem_map.2 ⟨_,List.getElem_mem (by omega),rfl⟩) hn))))
          · have hx:rest[i - len]?=some (rest[i - len]'(by omega)):=List.getElem?_eq_getElem (by omega)
            have h1:=mapM_some_get hr (i - len) (i - len) (List.getElem?_range (by omega))
            rw [hx,show len+(i - len)=i from by omega] at h1
            refine key i _ h1 fun n hn=>hw n (.tail _ (List.mem_append.2 (.inr (zXF (List.mem_map.2 ⟨_,List.getElem_mem (by omega),rfl⟩) hn))))
      · cases h
    · rename_i fs hu
      simp only [hu]
      split at h
      · rename_i hlen
        obtain ⟨xs,hxs,h⟩:=Option.map_eq_some_iff.1 h
        simp only [Prod.mk.injEq] at h
        obtain ⟨rfl,_⟩:=h
        refine ⟨hlen,fun f hf=>?_⟩
        obtain ⟨i,hi,rfl⟩:=List.getElem_of_mem hf
        have hl:=mapM_some_length hxs
        have hx:xs[i]?=some (xs[i]'(by omega)):=List.getElem?_eq_getElem (by omega)
        have h1:=mapM_some_get hxs i _ (List.getElem?_eq_getElem hi)
        rw [hx] at h1
        refine ih _ _ _ _ h1 fun n hn=>hw n ?_
        simp only [DataW.weights,hu]
        exact zJ9 (i:=i) (by rw [List.getElem?_map,List.getElem?_eq_getElem hi]; rfl) (by rw [List.getElem?_map,hx]; rfl) hn
      · cases h
    · rename_i n e hu
      simp only [hu]
      split at h
      · rename_i hlen
        obtain ⟨xs,hxs,h⟩:=Option.map_eq_some_iff.1 h
        simp only [Prod.mk.injEq] at h
        obtain ⟨rfl,_⟩:=h
        refine ⟨hlen,fun i hi=>?_⟩
        have hl:=mapM_some_length hxs
        simp only [List.length_range] at hl
        have hx:xs[i]?=some (xs[i]'(by omega)):=List.getElem?_eq_getElem (by omega)
        have h1:=mapM_some_get hxs i i (by simp [hi])
        rw [hx] at h1
        refine ih _ _ _ _ h1 fun n hn=>hw n ?_
        simp only [DataW.weights,hu]
        exact zXF (List.mem_map.2 ⟨_,List.getElem_mem (by omega),rfl⟩) hn
      · cases h
    all_goals first | (cases h; done) | (rename_i hu; simp only [hu])
end
def Arg (P:Program) (w:World) (t:TypeId) (v:Value):Prop:=
  (∃ fuel,Rd P w fuel t v.cells.toList) ∧
    match P.underlying t with
    | some (.struct _) | some (.array _ _)=>∃ cs,v=.agg cs
    | _=>v.cells=#[v]
def Args (P:Program) (w:World):List TypeId→List Value→Prop
  | [],[]=>True
  | t::ts,v::vs=>Arg P w t v∧Args P w ts vs
  | _,_=>False
theorem zUP {P:Program} {w:World} {r:Reach} {base:Nat} {t:TypeId} {v:Value} (h:Value.okWide P w r base t v) :
    match P.underlying t with
    | some (.struct _) | some (.array _ _)=>∃ cs,v=.agg cs
    | _=>v.cells=#[v]:=by
  unfold Value.okWide at h
  split
  · rename_i hu
    simp only [hu] at h
    obtain ⟨cs,rfl,_⟩:=h
    exact ⟨_,rfl⟩
  · rename_i hu
    simp only [hu] at h
    obtain ⟨cs,rfl,_⟩:=h
    exact ⟨_,rfl⟩
  · rename_i h1 h2
    have h':Cell.okWide P w r base t v:=by
      split at h
      · rename_i hu; exact absurd hu (by intro e; exact h1 _ e)
      · rename_i hu; exact absurd hu (by intro e; exact h2 _ _ e)
      · exact h
    cases v with
    | agg cs=>
      exfalso
      unfold Cell.okWide at h'
      split at h' <;> first | (rename_i hv; cases hv; done) | skip
      unfold Cell.ok at h'
      split at h' <;> first | (rename_i hv; cases hv; done) | exact h'
    | _=>rfl
section
variable {H:Type} {enc:TypeId × Value→H}
theorem zJz {P:Program} {w:World}:∀ {ts:List TypeId} {vs:List Value} {ds:List (DataW H)} {ps:List MemPlace},DataW.TrodAll enc P w 0 (fun _=>true) true ts vs ds ps →
    (∀ n∈DataW.weightsEach P ts ds,n≤reachBytes) →
    (∀ (j:Nat) t v,ts[j]?=some t→vs[j]?=some v→match P.underlying t with | some (.struct _) | some (.array _ _)=>∃ cs,v=.agg cs | _=>v.cells=#[v])→Args P w ts vs∧ds.length=ts.length
  | [],[],[],_,_,_,_=>⟨trivial,rfl⟩
  | t::ts,v::vs,d::ds,_,h,hw,hv=>by
    obtain ⟨p,q,⟨fuel,hf⟩,hr,_⟩:=h
    have hrest:=zJz hr (fun n hn=>hw n (by simp only [DataW.weightsEach,List.mem_append]; exact .inr hn)) (fun j t v ht hv'=>hv (j+1) t v (by simpa using ht) (by simpa using hv'))
    exact ⟨⟨⟨⟨fuel,jXO fuel t _ d p hf (fun n hn=>hw n (by simp only [DataW.weightsEach,List.mem_append]; exact .inl hn))⟩,hv 0 t v rfl rfl⟩,hrest.1⟩,by simp [hrest.2]⟩
  | [],[],_::_,_,h,_,_=>h.elim
  | [],_::_,_,_,h,_,_=>h.elim
  | _::_,[],_,_,h,_,_=>h.elim
  | _::_,_::_,[],_,h,_,_=>h.elim
theorem zKO {P:Program} (laid:laidOutB P=true) {W W':World} (hb:Below W.heap.size W W'):∀ {ts:List TypeId} {vs:List Value} {ds:List (DataW H)} {ps:List MemPlace},
    (∀ t∈ts,P.readableRec t=true∧t < P.types.size)→DataW.TrodAll enc P W 0 (fun _=>true) true ts vs ds ps→DataW.TrodAll enc P W' 0 (fun b=>decide (b < W.heap.size)) true ts vs ds ps
  | [],[],[],_,_,h=>h
  | t::ts,v::vs,d::ds,_,hr,h=>by
    obtain ⟨p,q,hd,hrest,rfl⟩:=h
    have hlt:∀ x∈p,x.block < W.heap.size:=by obtain ⟨m,hm⟩:=hd; exact DataW.trod_lt m _ _ _ hm
    exact ⟨p,q,Below.trod laid (hr t (.head _)).1 (hr t (.head _)).2 hd hb hlt,zKO laid hb (fun t' ht'=>hr t' (.tail _ ht')) hrest,rfl⟩
  | [],[],_::_,_,_,h=>h.elim
  | [],_::_,_,_,_,h=>h.elim
  | _::_,[],_,_,_,h=>h.elim
  | _::_,_::_,[],_,_,h=>h.elim
theorem jJL {C:Checked} {os:Os} {f:FuncId} {fn:Func} {s:ChangeSpec} {tb:TypeId}
    (own:ownKnob C.prog.godebug=none) (started:os.Started) (noInit:C.prog.inits.idxOf? f=none) (hfn:C.prog.funcs[f]?=some fn)
    (witness:∃ (w:World) (tape:Tape) (i:Input),w.os=os∧(w.forCall tape i).Shaped C.prog∧i.vars=[]∧Input.okWide C.prog (w.forCall tape i) .any w.heap.size f i ∧
      s.pre6 enc C.prog fn [] false (w.forCall tape i).memory i.args∧({}:Assume).holds C.prog (lone (Frame.enter C.prog f i.args .normal) [] (w.forCall tape i)))
    (hspec:∀ ds:List (DataW H),ds.length=fn.params.toList.length→s.fn H ds={ results:=[.lit (.bool true)],args:=ds }) (hvars:s.vars=[])
    (hres:fn.resultTypes=#[tb]) (hb:C.prog.underlying tb=some .bool) (laid:laidOutB C.prog=true)
    (hread:∀ t∈fn.params.toList,C.prog.readableRec t=true∧t < C.prog.types.size)
    (walk:∀ (W:World) (args:Array Value),Args C.prog W fn.params.toList args.toList→Calls C.prog f args W fun e W'=>e=.returned (.bool true)∧Below W.heap.size W W') :
    ReturnsInHanded {} C os f .any (s.pre6 enc C.prog fn [] false) (s.post enc C.prog fn false true false false):=by
  refine returnsInHanded_of_change_sized own started noInit hfn witness ?_
  intro W base args ds gs before hval hW _ hsz _
  have hW':=hW
  obtain ⟨p,q,hA,hV,rfl,_,_⟩:=hW
  rw [hvars] at hV
  obtain ⟨rfl,rfl⟩:=trodVars_none hV
  have hvt:s.plain.varTypes C.prog=[]:=by simp [ChangeSpec.plain,DataSpec.varTypes,hvars]
  rw [hvt,List.append_nil,List.append_nil] at hsz
  obtain ⟨ha,hlen⟩:=zJz hA (fun n hn=>by simpa using List.all_eq_true.1 hsz n hn) (fun j t v ht hv=>zUP (hval j t v (by simpa using ht) (by simpa using hv)))
  refine (walk W args ha).mono fun e W' ⟨he,bel⟩=>?_
  subst he
  have hs:=hspec ds hlen
  refine ⟨_,rfl,ds,[],p++[],[],p,[],hW',?_,?_,?_,bel.frame _,fun h=>by cases h⟩
  · rw [List.append_nil,hs,hres]
    exact trodAll_mk1 (shut_bool hb _)
  · rw [List.append_nil,hs]
    exact zKO laid bel hread hA
  · rw [List.append_nil,hs,hvars]
    rfl
end
section
variable {P:Program} {w:World} {fuel:Nat} {t:TypeId} {cs:List Value}
theorem Rd.int {k:IntKind} (hu:P.underlying t=some (.int k)) (h:Rd P w fuel t cs):∃ n,cs=[.int k n]∧(Lit.int k n).wf=true:=by
  cases fuel with
  | zero=>exact h.elim
  | succ fuel=>unfold Rd at h; simp only [hu] at h; exact h
theorem Rd.bool (hu:P.underlying t=some .bool) (h:Rd P w fuel t cs):∃ b,cs=[.bool b]:=by
  cases fuel with
  | zero=>exact h.elim
  | succ fuel=>unfold Rd at h; simp only [hu] at h; exact h
theorem Rd.str (hu:P.underlying t=some .string) (h:Rd P w fuel t cs):∃ s,cs=[.string s]∧s.size≤reachBytes:=by
  cases fuel with
  | zero=>exact h.elim
  | succ fuel=>unfold Rd at h; simp only [hu] at h; exact h
theorem Rd.slice {e:TypeId} (hu:P.underlying t=some (.slice e)) (h:Rd P w fuel t cs) :
    cs=[.slice none 0 0]∨∃ a len cap,cs=[.slice (some a) len cap]∧len≤cap∧cap≤maxLen∧cap*P.bytesOf e≤reachBytes ∧
        ∀ i,i < cap→∃ cs',w.cells? 0 (a.add (i*P.cellsOf e)) (P.cellsOf e)=some cs'∧∃ fuel,Rd P w fuel e cs':=by
  cases fuel with
  | zero=>exact h.elim
  | succ fuel=>
    unfold Rd at h; simp only [hu] at h
    rcases h with h | ⟨a,len,cap,h1,h2,h3,h4,h5⟩
    · exact .inl h
    · exact .inr ⟨a,len,cap,h1,h2,h3,h4,fun i hi=>let ⟨cs',a1,a2⟩:=h5 i hi; ⟨cs',a1,fuel,a2⟩⟩
theorem Rd.struct {fs:Array Field} (hu:P.underlying t=some (.struct fs)) (h:Rd P w fuel t cs) :
    cs.length=P.cellsOf t∧∀ f∈fs.toList,∃ fuel,Rd P w fuel f.type ((cs.drop f.offset).take (P.cellsOf f.type)):=by
  cases fuel with
  | zero=>exact h.elim
  | succ fuel=>
    unfold Rd at h; simp only [hu] at h
    exact ⟨h.1,fun f hf=>⟨fuel,h.2 f hf⟩⟩
theorem Rd.array {e:TypeId} {n:Nat} (hu:P.underlying t=some (.array n e)) (h:Rd P w fuel t cs) :
    cs.length=P.cellsOf t∧∀ i,i < n→∃ fuel,Rd P w fuel e ((cs.drop (i*P.cellsOf e)).take (P.cellsOf e)):=by
  cases fuel with
  | zero=>exact h.elim
  | succ fuel=>
    unfold Rd at h; simp only [hu] at h
    exact ⟨h.1,fun i hi=>⟨fuel,h.2 i hi⟩⟩
end
def zK2 (P:Program) (f:TypeId→Option (List TypeId)):List Field→Nat→Option (List TypeId)
  | [],_=>some []
  | fd::r,off=>(f fd.type).bind fun l=>if fd.offset=off∧P.cellsOf fd.type=l.length then (zK2 P f r (off+l.length)).map (l++·) else none
def zVW (P:Program):Nat→TypeId→Option (List TypeId)
  | 0,_=>none
  | k+1,t=>
    match P.underlying t with
    | some (.struct fs)=>zK2 P (zVW P k) fs.toList 0
    | some (.array n e)=>(zVW P k e).bind fun l=>if P.cellsOf e=l.length then some (List.replicate n l).flatten else none
    | some .bool | some (.int _) | some .string | some (.slice _)=>some [t]
    | _=>none
section
variable {P:Program} {w:World}
theorem zUm {f:TypeId→Option (List TypeId)} {cs:List Value}
    (hf:∀ (t:TypeId) (ts:List TypeId) (fuel:Nat) (cs:List Value),f t=some ts→Rd P w fuel t cs→∀ (i:Nat) (t':TypeId),ts[i]?=some t'→∃ c g,cs[i]?=some c∧Rd P w g t' [c]) :
    ∀ (fs:List Field) (off:Nat) (ts:List TypeId),zK2 P f fs off=some ts→(∀ fd∈fs,∃ fuel,Rd P w fuel fd.type ((cs.drop fd.offset).take (P.cellsOf fd.type))) →
    ∀ (i:Nat) (t':TypeId),ts[i]?=some t'→∃ c g,cs[off+i]?=some c∧Rd P w g t' [c]
  | [],_,ts,h,_,i,t',hi=>by simp [zK2] at h; subst h; simp at hi
  | fd::r,off,ts,h,hr,i,t',hi=>by
    unfold zK2 at h
    obtain ⟨l,hl,h⟩:=Option.bind_eq_some_iff.1 h
    split at h
    · rename_i hc
      obtain ⟨ho,hn⟩:=hc
      obtain ⟨ts',hts,h⟩:=Option.map_eq_some_iff.1 h
      subst h
      rcases Nat.lt_or_ge i l.length with hlt | hge
      · rw [List.getElem?_append_left hlt] at hi
        obtain ⟨fuel,hrd⟩:=hr fd (.head _)
        obtain ⟨c,g,h1,h2⟩:=hf fd.type l fuel _ hl hrd i t' hi
        refine ⟨c,g,?_,h2⟩
        rw [List.getElem?_take,if_pos (by omega),List.getElem?_drop,ho] at h1
        exact h1
      · rw [List.getElem?_append_right hge] at hi
        obtain ⟨c,g,h1,h2⟩:=zUm hf r (off+l.length) ts' hts (fun fd' h'=>hr fd' (.tail _ h')) (i - l.length) t' hi
        exact ⟨c,g,by rw [← h1]; congr 1; omega,h2⟩
    · cases h
theorem zGR {l:List TypeId} (hl:0 < l.length):∀ (n i:Nat) (t:TypeId),(List.replicate n l).flatten[i]?=some t→i / l.length < n∧l[i % l.length]?=some t
  | 0,i,t,h=>by simp at h
  | n+1,i,t,h=>by
    rw [List.replicate_succ,List.flatten_cons] at h
    rcases Nat.lt_or_ge i l.length with hlt | hge
    · rw [List.getElem?_append_left hlt] at h
      rw [Nat.div_eq_of_lt hlt,Nat.mod_eq_of_lt hlt]
      exact ⟨by omega,h⟩
    · rw [List.getElem?_append_right hge] at h
      obtain ⟨h1,h2⟩:=zGR hl n (i - l.length) t h
      have e:i=(i - l.length)+l.length:=by omega
      rw [e,Nat.add_div_right _ hl,Nat.add_mod_right]
      exact ⟨by omega,h2⟩
theorem zJj:∀ (k:Nat) (t:TypeId) (ts:List TypeId) (fuel:Nat) (cs:List Value),zVW P k t=some ts→Rd P w fuel t cs →
    ∀ (i:Nat) (t':TypeId),ts[i]?=some t'→∃ c g,cs[i]?=some c∧Rd P w g t' [c]
  | 0,_,_,_,_,h,_,_,_,_=>by simp [zVW] at h
  | k+1,t,ts,fuel,cs,h,hr,i,t',hi=>by
    unfold zVW at h
    split at h
    · rename_i fs hu
      obtain ⟨_,hfs⟩:=hr.struct hu
      have:=zUm (fun t ts fuel cs h hr=>zJj k t ts fuel cs h hr) fs.toList 0 ts h hfs i t' hi
      simpa using this
    · rename_i n e hu
      obtain ⟨l,hl,h⟩:=Option.bind_eq_some_iff.1 h
      split at h
      · rename_i hc
        simp only [Option.some.injEq] at h
        subst h
        obtain ⟨_,hel⟩:=hr.array hu
        rcases Nat.eq_zero_or_pos l.length with h0 | hpos
        · have:l=[]:=List.eq_nil_of_length_eq_zero h0
          subst this; simp at hi
        · obtain ⟨h1,h2⟩:=zGR hpos n i t' hi
          obtain ⟨fuel',hrd⟩:=hel (i / l.length) h1
          obtain ⟨c,g,h3,h4⟩:=zJj k e l fuel' _ hl hrd (i % l.length) t' h2
          refine ⟨c,g,?_,h4⟩
          rw [List.getElem?_take,if_pos (by rw [hc]; exact Nat.mod_lt _ hpos),List.getElem?_drop,hc,Nat.mul_comm,Nat.div_add_mod] at h3
          exact h3
      · cases h
    all_goals first | (cases h; done) | skip
    all_goals
      rename_i hu
      simp only [Option.some.injEq] at h
      subst h
      match i,hi with
      | 0,hi=>
        simp only [List.getElem?_cons_zero,Option.some.injEq] at hi
        subst hi
        first
        | (obtain ⟨b,rfl⟩:=hr.bool hu; exact ⟨_,fuel,rfl,hr⟩)
        | (obtain ⟨b,rfl,_⟩:=hr.int hu; exact ⟨_,fuel,rfl,hr⟩)
        | (obtain ⟨b,rfl,_⟩:=hr.str hu; exact ⟨_,fuel,rfl,hr⟩)
        | (rcases hr.slice hu with h | ⟨a,len,cap,h,_⟩
           · subst h; exact ⟨_,fuel,rfl,hr⟩
           · subst h; exact ⟨_,fuel,rfl,hr⟩)
      | i+1,hi=>simp at hi
theorem Rd.leaf {k:Nat} {t:TypeId} {ts:List TypeId} {fuel:Nat} {cs:List Value} (h:Rd P w fuel t cs) (hl:zVW P k t=some ts) (i:Nat) {t':TypeId} (ht:ts[i]?=some t') {c:Value} (hc:cs[i]?=some c) :
    ∃ g,Rd P w g t' [c]:=by
  obtain ⟨c',g,h1,h2⟩:=zJj k t ts fuel cs hl h i t' ht
  rw [hc] at h1
  cases h1
  exact ⟨g,h2⟩
theorem Args.cons {t:TypeId} {ts:List TypeId} {vs:List Value} (h:Args P w (t::ts) vs):∃ v vs',vs=v::vs'∧Arg P w t v∧Args P w ts vs':=by
  cases vs with
  | nil=>exact h.elim
  | cons v vs=>exact ⟨v,vs,rfl,h.1,h.2⟩
theorem Args.nil {vs:List Value} (h:Args P w [] vs):vs=[]:=by
  cases vs with
  | nil=>rfl
  | cons v vs=>exact h.elim
theorem Arg.one {t:TypeId} {v:Value} (h:Arg P w t v) (hu:∀ fs,P.underlying t≠some (.struct fs)) (ha:∀ n e,P.underlying t≠some (.array n e)):∃ g,Rd P w g t [v]:=by
  obtain ⟨⟨g,hr⟩,hv⟩:=h
  split at hv
  · rename_i fs he; exact absurd he (hu fs)
  · rename_i n e he; exact absurd he (ha n e)
  · rw [hv] at hr; exact ⟨g,hr⟩
theorem Arg.int {t:TypeId} {v:Value} {k:IntKind} (h:Arg P w t v) (hu:P.underlying t=some (.int k)):∃ n,v=.int k n∧(Lit.int k n).wf=true:=by
  obtain ⟨g,hr⟩:=h.one (by rw [hu]; simp) (by rw [hu]; simp)
  obtain ⟨n,hn,hw⟩:=hr.int hu
  simp only [List.cons.injEq,and_true] at hn
  exact ⟨n,hn,hw⟩
theorem Arg.many {t:TypeId} {v:Value} {n:Nat} (h:Arg P w t v) (hu:(∃ fs,P.underlying t=some (.struct fs))∨∃ n e,P.underlying t=some (.array n e)) (hn:P.cellsOf t=n) :
    ∃ cs:List Value,v=.agg cs.toArray∧cs.length=n∧∃ g,Rd P w g t cs:=by
  obtain ⟨⟨g,hr⟩,hv⟩:=h
  rcases hu with ⟨fs,hu⟩ | ⟨m,e,hu⟩
  · simp only [hu] at hv
    obtain ⟨⟨l⟩,rfl⟩:=hv
    exact ⟨l,rfl,by rw [← hn]; exact (hr.struct hu).1,g,hr⟩
  · simp only [hu] at hv
    obtain ⟨⟨l⟩,rfl⟩:=hv
    exact ⟨l,rfl,by rw [← hn]; exact (hr.array hu).1,g,hr⟩
end
open Go.RowKit Go.ChangeShapes Go.WideShapes
def lv (P:Program) (e:TypeId):Option (List TypeId):=
  match zVW P 8 e with
  | some ls=>if ls.length=P.cellsOf e∧0 < ls.length then some ls else none
  | none=>none
def zZS (P:Program):Nat→TypeId→DV→Prop
  | 0,_,_=>False
  | k+1,t,d=>
    match P.underlying t with
    | some .bool=>∃ b,d=.bool b
    | some (.int q)=>∃ n,d=.int q n
    | some .string=>∃ s,d=.str s
    | some (.slice e)=>∃ n xs,d=.sl n xs∧n*P.bytesOf e≤reachBytes∧match lv P e with
      | some ls=>xs.length=n*ls.length∧∀ (j:Nat) d',xs[j]?=some d'→∃ t',ls[j % ls.length]?=some t'∧zZS P k t' d'
      | none=>xs=[]
    | _=>False
def jX5 (P:Program):Nat→TypeId→Bool
  | 0,_=>false
  | k+1,t=>
    match P.underlying t with
    | some .bool | some (.int _) | some .string=>true
    | some (.slice e)=>match lv P e with
      | some ls=>ls.all (jX5 P k)
      | none=>true
    | _=>false
theorem zW6 {α:Type} {Q:Nat→α→Prop}:∀ n:Nat,(∀ j,j < n→∃ d,Q j d)→∃ xs:List α,xs.length=n∧∀ (j:Nat) d,xs[j]?=some d→Q j d
  | 0,_=>⟨[],rfl,fun j d h=>by simp at h⟩
  | n+1,h=>by
    obtain ⟨xs,h1,h2⟩:=zW6 n fun j hj=>h j (by omega)
    obtain ⟨d,hd⟩:=h n (by omega)
    refine ⟨xs++[d],by simp [h1],fun j d' hj=>?_⟩
    by_cases hlt:j < n
    · rw [List.getElem?_append_left (by omega)] at hj; exact h2 j d' hj
    · rw [List.getElem?_append_right (by omega)] at hj
      have:j - xs.length=0:=by
        have:=(List.getElem?_eq_some_iff.1 hj).1
        simp at this; omega
      rw [this] at hj
      simp at hj
      subst hj
      have:j=n:=by omega
      subst this; exact hd
section
variable {P:Program} {w:World}
theorem jQo {P:Program} {e:TypeId} {ls:List TypeId} (h:lv P e=some ls):zVW P 8 e=some ls∧ls.length=P.cellsOf e∧0 < ls.length:=by
  unfold lv at h
  split at h
  · rename_i l hl
    split at h
    · rename_i hc; injection h with h; subst h; exact ⟨hl,hc.1,hc.2⟩
    · cases h
  · cases h
theorem addr_add' (a:Addr) (i j:Nat) (h:a.spot=none):(a.add i).add j=⟨a.block,a.off+(i+j),none⟩:=by
  obtain ⟨b,o,sp⟩:=a
  simp only at h
  subst h
  rw [zZp,zZp,Nat.add_assoc]
theorem zHa:∀ (k:Nat) (t:TypeId),jX5 P k t=true→∀ (fuel:Nat) (v:Value),Rd P w fuel t [v]→∃ d,RepD w (fun _=>True) d v∧zZS P k t d
  | 0,_,h,_,_,_=>by cases h
  | k+1,t,ho,fuel,v,h=>by
    unfold jX5 at ho
    unfold zZS
    split at ho
    · rename_i hu
      obtain ⟨b,hb⟩:=h.bool hu
      simp only [List.cons.injEq,and_true] at hb
      subst hb
      exact ⟨.bool b,by simp only [RepD],b,rfl⟩
    · rename_i q hu
      obtain ⟨n,hn,hw⟩:=h.int hu
      simp only [List.cons.injEq,and_true] at hn
      subst hn
      exact ⟨.int q n,by simp only [RepD]; exact ⟨trivial,hw⟩,n,rfl⟩
    · rename_i hu
      obtain ⟨s,hs,hw⟩:=h.str hu
      simp only [List.cons.injEq,and_true] at hs
      subst hs
      refine ⟨.str s,by simp only [RepD,true_and]; unfold reachBytes at hw; unfold maxLen; omega,s,rfl⟩
    · rename_i e hu
      rcases h.slice hu with h | ⟨a,len,cap,h1,h2,h3,h4,h5⟩
      · simp only [List.cons.injEq,and_true] at h
        subst h
        refine ⟨.sl 0 [],by simp only [RepD]; exact ⟨none,0,rfl,Nat.le_refl _,Nat.zero_le _,fun e=>absurd rfl e⟩,0,[],rfl,by simp,?_⟩
        split
        · exact ⟨by simp,fun j d h=>by simp at h⟩
        · rfl
      · simp only [List.cons.injEq,and_true] at h1
        subst h1
        have hby:len*P.bytesOf e≤reachBytes:=Nat.le_trans (Nat.mul_le_mul_right _ h2) h4
        cases hl:lv P e with
        | none=>exact ⟨.sl len [],by simp only [RepD]; exact ⟨some a,cap,rfl,h2,h3,fun e=>absurd rfl e⟩,len,[],rfl,hby,rfl⟩
        | some ls=>
          rw [hl] at ho
          simp only [List.all_eq_true] at ho
          obtain ⟨g1,g2,g3⟩:=jQo hl
          have hcell:∀ j,j < len*ls.length→∃ d,a.spot=none∧(∃ u,w.cell? ⟨a.block,a.off+j,none⟩=some u∧RepD w (fun _=>True) d u)∧∃ t',ls[j % ls.length]?=some t'∧zZS P k t' d:=by
            intro j hj
            have hi:j / ls.length < len:=by rw [Nat.div_lt_iff_lt_mul g3]; exact hj
            obtain ⟨cs',c1,fuel',c2⟩:=h5 (j / ls.length) (by omega)
            have hm:j % ls.length < ls.length:=Nat.mod_lt _ g3
            obtain ⟨c,g,e1,e2⟩:=zJj 8 e ls fuel' cs' g1 c2 (j % ls.length) (ls[j % ls.length]) (by simp [hm])
            obtain ⟨d,f1,f2⟩:=zHa k ls[j % ls.length] (ho _ (List.getElem_mem hm)) g c e2
            obtain ⟨_,c3,c4⟩:=World.cells?_some c1
            have hc:=c4 (j % ls.length) (by omega)
            rw [e1] at hc
            have hpos:0 < cap:=Nat.lt_of_lt_of_le (Nat.lt_of_le_of_lt (Nat.zero_le _) hi) h2
            have hcp:0 < P.cellsOf e:=by omega
            have hs:a.spot=none:=by
              cases hsp:a.spot with
              | none=>rfl
              | some x=>
                exfalso
                obtain ⟨cs0,d0,_⟩:=h5 0 hpos
                obtain ⟨_,hlen,d1⟩:=World.cells?_some d0
                have c0:=d1 0 hcp
                rw [Nat.zero_mul,show a.add 0=a from by simp [Addr.add],show a.add 0=a from by simp [Addr.add]] at c0
                have:w.cell? a=none:=by
                  unfold World.cell?
                  split
                  · simp [hsp]
                  · rfl
                rw [this] at c0
                have:=List.getElem?_eq_none_iff.1 c0.symm
                omega
            refine ⟨d,hs,⟨c,?_,f1⟩,_,by simp [hm],f2⟩
            rw [addr_add' _ _ _ hs,← g2,Nat.mul_comm,Nat.div_add_mod] at hc
            exact hc
          obtain ⟨xs,x1,x2⟩:=zW6 (len*ls.length) hcell
          refine ⟨.sl len xs,?_,len,xs,rfl,hby,x1,fun j d' hj=>(x2 j d' hj).2.2⟩
          simp only [RepD]
          refine ⟨some a,cap,rfl,h2,h3,fun hne=>⟨a.block,a.off,?_,trivial,.of_at fun i d hi=>(x2 i d hi).2.1⟩⟩
          cases xs with
          | nil=>exact absurd rfl hne
          | cons d ds=>
            have hs:=(x2 0 d rfl).1
            obtain ⟨b,o,sp⟩:=a
            simp only at hs
            subst hs
            rfl
    · cases ho
def zYx (P:Program) (t:TypeId) (r:RV):Prop:=
  match P.underlying t with
  | some (.struct _) | some (.array _ _)=>∃ ds ls,r=.agg ds∧lv P t=some ls∧ds.length=ls.length∧∀ (i:Nat) d,ds[i]?=some d→∃ t',ls[i]?=some t'∧zZS P 6 t' d
  | _=>∃ d,r=.d d∧zZS P 6 t d
def zJE (P:Program):List TypeId→List RV→Prop
  | [],[]=>True
  | t::ts,r::rs=>zYx P t r∧zJE P ts rs
  | _,_=>False
def okT (P:Program) (t:TypeId):Bool:=
  match P.underlying t with
  | some (.struct _) | some (.array _ _)=>match lv P t with
    | some ls=>ls.all (jX5 P 6)
    | none=>false
  | _=>jX5 P 6 t
theorem jYI {t:TypeId} {v:Value} (ho:okT P t=true) (h:Arg P w t v):∃ r,RepR w (fun _=>True) r v∧zYx P t r:=by
  have many:((∃ fs,P.underlying t=some (.struct fs))∨∃ n e,P.underlying t=some (.array n e))→(match lv P t with | some ls=>ls.all (jX5 P 6) | none=>false)=true→∃ ds ls,RepR w (fun _=>True) (.agg ds) v∧lv P t=some ls∧ds.length=ls.length∧∀ (i:Nat) d,ds[i]?=some d→∃ t',ls[i]?=some t'∧zZS P 6 t' d:=by
    intro hu hl
    obtain ⟨cs,rfl,hlen,g,hr⟩:=h.many hu (n:=P.cellsOf t) rfl
    cases hlv:lv P t with
    | none=>rw [hlv] at hl; cases hl
    | some ls=>
      rw [hlv] at hl
      simp only [List.all_eq_true] at hl
      obtain ⟨g1,g2,g3⟩:=jQo hlv
      have hcell:∀ i,i < ls.length→∃ d,(∃ c,cs[i]?=some c∧RepD w (fun _=>True) d c)∧∃ t',ls[i]?=some t'∧zZS P 6 t' d:=by
        intro i hi
        obtain ⟨c,g',e1,e2⟩:=zJj 8 t ls g cs g1 hr i ls[i] (by simp [hi])
        obtain ⟨d,f1,f2⟩:=zHa 6 ls[i] (hl _ (List.getElem_mem hi)) g' c e2
        exact ⟨d,⟨c,e1,f1⟩,_,by simp [hi],f2⟩
      obtain ⟨ds,x1,x2⟩:=zW6 ls.length hcell
      refine ⟨ds,ls,?_,rfl,x1,fun i d hi=>(x2 i d hi).2⟩
      simp only [RepR]
      refine ⟨_,rfl,?_⟩
      rw [zGx]
      refine ⟨by simp; omega,fun i d v hd hv=>?_⟩
      obtain ⟨⟨c,e1,e2⟩,_⟩:=x2 i d hd
      have:cs[i]?=some v:=by simpa using hv
      rw [e1] at this
      injection this with this
      subst this
      exact e2
  unfold okT at ho
  unfold zYx
  split at ho
  · rename_i fs hu
    obtain ⟨ds,ls,h1,h2⟩:=many (.inl ⟨_,hu⟩) ho
    exact ⟨.agg ds,h1,ds,ls,rfl,h2⟩
  · rename_i n e hu
    obtain ⟨ds,ls,h1,h2⟩:=many (.inr ⟨_,_,hu⟩) ho
    exact ⟨.agg ds,h1,ds,ls,rfl,h2⟩
  · rename_i h1 h2
    obtain ⟨g,hr⟩:=h.one (fun fs e=>h1 fs e) (fun n e e'=>h2 n e e')
    obtain ⟨d,f1,f2⟩:=zHa 6 t ho g v hr
    exact ⟨.d d,by simp only [RepR]; exact f1,⟨d,rfl,f2⟩⟩
theorem zGH:∀ {ts:List TypeId} {vs:List Value},ts.all (okT P)=true→Args P w ts vs→∃ rs,RepRs w (fun _=>True) rs vs∧zJE P ts rs
  | [],[],_,_=>⟨[],by simp only [RepRs],trivial⟩
  | t::ts,v::vs,ho,h=>by
    simp only [List.all_cons,Bool.and_eq_true] at ho
    obtain ⟨r,h1,h2⟩:=jYI ho.1 h.1
    obtain ⟨rs,h3,h4⟩:=zGH ho.2 h.2
    exact ⟨r::rs,by simp only [RepRs]; exact ⟨h1,h3⟩,h2,h4⟩
  | [],_::_,_,h=>h.elim
  | _::_,[],_,h=>h.elim
theorem jKw {f:FuncId} {ts:List TypeId} (hok:ts.all (okT P)=true) (h:∀ rs,zJE P ts rs→RV.wfs rs→Ans P f rs (.d (.bool true))) (W:World) (args:Array Value) (hg:zZX W fun _=>True) (ha:Args P W ts args.toList) :
    Calls P f args W fun e W'=>e=.returned (.bool true)∧Below W.heap.size W W':=by
  obtain ⟨rs,h1,h2⟩:=zGH hok ha
  refine (h rs h2 (RepRs.wf h1) W _ args hg h1).mono fun e w' ⟨v,he,hv,hb⟩=>?_
  simp only [RepR,RepD] at hv
  subst hv
  exact ⟨he,hb⟩
end
theorem zJE.cons {P:Program} {t:TypeId} {ts:List TypeId} {rs:List RV} (h:zJE P (t::ts) rs):∃ r rs',rs=r::rs'∧zYx P t r∧zJE P ts rs':=by
  cases rs with
  | nil=>exact h.elim
  | cons r rs=>exact ⟨r,rs,rfl,h.1,h.2⟩
theorem zJE.nil {P:Program} {rs:List RV} (h:zJE P [] rs):rs=[]:=by
  cases rs with
  | nil=>rfl
  | cons r rs=>exact h.elim
theorem zYx.one {P:Program} {t:TypeId} {r:RV} {k:IntKind} (h:zYx P t r) (hu:P.underlying t=some (.int k)):∃ n,r=.d (.int k n):=by
  unfold zYx at h
  simp only [hu] at h
  obtain ⟨d,rfl,h⟩:=h
  unfold zZS at h
  simp only [hu] at h
  obtain ⟨n,rfl⟩:=h
  exact ⟨n,rfl⟩
theorem zYx.many {P:Program} {t:TypeId} {r:RV} {ls:List TypeId} (h:zYx P t r) (hu:(match P.underlying t with | some (.struct _) | some (.array _ _)=>true | _=>false)=true) (hl:lv P t=some ls) :
    ∃ ds,r=.agg ds∧ds.length=ls.length∧∀ (i:Nat) d,ds[i]?=some d→∃ t',ls[i]?=some t'∧zZS P 6 t' d:=by
  unfold zYx at h
  split at hu
  · rename_i fs he
    simp only [he] at h
    obtain ⟨ds,ls',h1,h2,h3⟩:=h
    rw [hl] at h2; injection h2 with h2; subst h2
    exact ⟨ds,h1,h3⟩
  · rename_i n e he
    simp only [he] at h
    obtain ⟨ds,ls',h1,h2,h3⟩:=h
    rw [hl] at h2; injection h2 with h2; subst h2
    exact ⟨ds,h1,h3⟩
  · cases hu
def zVH (P:Program) (q:Nat) (ls:List TypeId) (ds:List DV):Prop:=ds.length=ls.length∧∀ (i:Nat) d,ds[i]?=some d→∃ t',ls[i]?=some t'∧zZS P q t' d
theorem zVH.cons {P:Program} {q:Nat} {t:TypeId} {ts:List TypeId} {ds:List DV} (h:zVH P q (t::ts) ds):∃ d ds',ds=d::ds'∧zZS P q t d∧zVH P q ts ds':=by
  obtain ⟨h1,h2⟩:=h
  cases ds with
  | nil=>simp at h1
  | cons d ds=>
    refine ⟨d,ds,rfl,?_,by simpa using h1,fun i d' hd=>?_⟩
    · obtain ⟨t',e,h⟩:=h2 0 d rfl
      simp at e; subst e; exact h
    · obtain ⟨t',e,h⟩:=h2 (i+1) d' (by simpa using hd)
      exact ⟨t',by simpa using e,h⟩
theorem zVH.nil {P:Program} {q:Nat} {ds:List DV} (h:zVH P q [] ds):ds=[]:=by
  have:=h.1
  simpa using this
theorem zZS.int {P:Program} {q:Nat} {t:TypeId} {d:DV} {k:IntKind} (h:zZS P q t d) (hu:P.underlying t=some (.int k)):∃ n,d=.int k n:=by
  cases q with
  | zero=>exact h.elim
  | succ q=>unfold zZS at h; simp only [hu] at h; exact h
theorem zZS.bool {P:Program} {q:Nat} {t:TypeId} {d:DV} (h:zZS P q t d) (hu:P.underlying t=some .bool):∃ n,d=.bool n:=by
  cases q with
  | zero=>exact h.elim
  | succ q=>unfold zZS at h; simp only [hu] at h; exact h
theorem zZS.slice {P:Program} {q:Nat} {t e:TypeId} {d:DV} {ls:List TypeId} (h:zZS P q t d) (hu:P.underlying t=some (.slice e)) (hl:lv P e=some ls) :
    ∃ n xs,d=.sl n xs∧n*P.bytesOf e≤reachBytes∧xs.length=n*ls.length∧∀ (j:Nat) d',xs[j]?=some d'→∃ t',ls[j % ls.length]?=some t'∧∃ q,zZS P q t' d':=by
  cases q with
  | zero=>exact h.elim
  | succ q=>
    unfold zZS at h; simp only [hu,hl] at h
    obtain ⟨n,xs,h1,h2,h3,h4⟩:=h
    exact ⟨n,xs,h1,h2,h3,fun j d' hj=>let ⟨t',a,b⟩:=h4 j d' hj; ⟨t',a,q,b⟩⟩
theorem zZS.str {P:Program} {q:Nat} {t:TypeId} {d:DV} (h:zZS P q t d) (hu:P.underlying t=some .string):∃ n,d=.str n:=by
  cases q with
  | zero=>exact h.elim
  | succ q=>unfold zZS at h; simp only [hu] at h; exact h
theorem zYx.slice {P:Program} {t e:TypeId} {r:RV} {ls:List TypeId} (h:zYx P t r) (hu:P.underlying t=some (.slice e)) (hl:lv P e=some ls) :
    ∃ n xs,r=.d (.sl n xs)∧n*P.bytesOf e≤reachBytes∧xs.length=n*ls.length∧∀ (j:Nat) d',xs[j]?=some d'→∃ t',ls[j % ls.length]?=some t'∧∃ q,zZS P q t' d':=by
  unfold zYx at h
  simp only [hu] at h
  obtain ⟨d,rfl,h⟩:=h
  obtain ⟨n,xs,rfl,h2⟩:=zZS.slice h hu hl
  exact ⟨n,xs,rfl,h2⟩
theorem zHv {P:Program} {t t':TypeId} {q j:Nat} {d:DV} {k:IntKind} (hu:P.underlying t=some (.int k)) (a:[t][j % [t].length]?=some t') (b:zZS P q t' d):∃ n,d=.int k n:=by
  have:t'=t:=by
    have h:=List.mem_of_getElem? a
    simpa using h
  subst this
  exact b.int hu
theorem zUq (l:List Int) {n:Nat} (h:n=l.length):IsU n (us l):=by
  subst h
  exact jKj (zJb l) fun j d hj=>by
    simp only [us,List.getElem?_map] at hj
    obtain ⟨v,_,rfl⟩:=Option.map_eq_some_iff.1 hj
    exact ⟨v,rfl⟩
theorem zX8:IsU 0 []:=jKj rfl fun j d hj=>by simp at hj
theorem jXF:Im.zero.isU:=⟨zX8,zX8,zX8,zX8,zX8⟩
theorem zKs (w h:Int) (c:Px):(zQa w h c).isU:=⟨zX8,zX8,zX8,zX8,zX8⟩
theorem jXl (w h:Int) (l:List Px):(imOf w h l).isU:=by
  cases hk:ofOk w h l.length with
  | true=>
    rw [zKD hk]
    refine ⟨zUq _ ?_,zUq _ ?_,zUq _ ?_,zUq _ ?_,zUq _ ?_⟩ <;> exact (List.length_map _).symm
  | false=>rw [zUz hk]; exact jXF
theorem jVE {n:Nat} {xs:List DV} (hn:xs.length=n*5) (hx:∀ (j:Nat) d,xs[j]?=some d→∃ v,d=.int .i64 v):Is5 n xs:=
  ⟨hn,fun i hi=>by
    have hl:i < xs.length:=by omega
    obtain ⟨v,e⟩:=hx i _ (List.getElem?_eq_getElem hl)
    rw [List.getElem?_eq_getElem hl,e]
    simp [nAt,List.getElem?_eq_getElem hl,e]⟩
theorem jJN {P:Program} {t t':TypeId} {q j:Nat} {d:DV} {k:IntKind} (hu:P.underlying t=some (.int k)) (a:[t,t,t,t,t][j % [t,t,t,t,t].length]?=some t') (b:zZS P q t' d):∃ n,d=.int k n:=by
  have:t'=t:=by
    have h:=List.mem_of_getElem? a
    simpa using h
  subst this
  exact b.int hu
theorem zGP (mood:Int) (L:Nat) (xs:List DV) (most:Int) {n k:Nat} (h:k=n):zGq k (pxs (zQm mood L xs most n)):=by
  subst h
  have:=zJo (zQm mood L xs most k)
  rwa [zZz] at this
theorem zQ6 {n k:Int} (h1:1≤k) (h2:k≤4611686018427387904):0≤modS n k∧modS n k < k:=by
  rw [jYQ h1 h2]
  exact ⟨Int.emod_nonneg _ (by omega),Int.emod_lt_of_pos _ (by omega)⟩
def imR (m:Im):RV:=RV.agg [DV.int .i64 m.w,DV.int .i64 m.h,DV.bool m.so,DV.int .u16 m.c.a,DV.int .u16 m.c.b,DV.int .u16 m.c.c,DV.int .u16 m.c.al,DV.int .u16 m.c.f,DV.int .i64 m.p0.w,DV.int .i64 m.p0.h,DV.int .i64 m.p0.s,DV.sl m.p0.n m.p0.xs,DV.int .i64 m.p1.w,DV.int .i64 m.p1.h,DV.int .i64 m.p1.s,DV.sl m.p1.n m.p1.xs,DV.int .i64 m.p2.w,DV.int .i64 m.p2.h,DV.int .i64 m.p2.s,DV.sl m.p2.n m.p2.xs,DV.int .i64 m.p3.w,DV.int .i64 m.p3.h,DV.int .i64 m.p3.s,DV.sl m.p3.n m.p3.xs,DV.int .i64 m.p4.w,DV.int .i64 m.p4.h,DV.int .i64 m.p4.s,DV.sl m.p4.n m.p4.xs]
def imD (m:Im):AV:=AV.agg [Cl.d (DV.int .i64 m.w),Cl.d (DV.int .i64 m.h),Cl.d (DV.bool m.so),Cl.d (DV.int .u16 m.c.a),Cl.d (DV.int .u16 m.c.b),Cl.d (DV.int .u16 m.c.c),Cl.d (DV.int .u16 m.c.al),Cl.d (DV.int .u16 m.c.f),Cl.d (DV.int .i64 m.p0.w),Cl.d (DV.int .i64 m.p0.h),Cl.d (DV.int .i64 m.p0.s),Cl.d (DV.sl m.p0.n m.p0.xs),Cl.d (DV.int .i64 m.p1.w),Cl.d (DV.int .i64 m.p1.h),Cl.d (DV.int .i64 m.p1.s),Cl.d (DV.sl m.p1.n m.p1.xs),Cl.d (DV.int .i64 m.p2.w),Cl.d (DV.int .i64 m.p2.h),Cl.d (DV.int .i64 m.p2.s),Cl.d (DV.sl m.p2.n m.p2.xs),Cl.d (DV.int .i64 m.p3.w),Cl.d (DV.int .i64 m.p3.h),Cl.d (DV.int .i64 m.p3.s),Cl.d (DV.sl m.p3.n m.p3.xs),Cl.d (DV.int .i64 m.p4.w),Cl.d (DV.int .i64 m.p4.h),Cl.d (DV.int .i64 m.p4.s),Cl.d (DV.sl m.p4.n m.p4.xs)]
def imV (b:Nat) (m:Im):AV:=AV.agg [Cl.d (DV.int .i64 m.w),Cl.d (DV.int .i64 m.h),Cl.d (DV.bool m.so),Cl.d (DV.int .u16 m.c.a),Cl.d (DV.int .u16 m.c.b),Cl.d (DV.int .u16 m.c.c),Cl.d (DV.int .u16 m.c.al),Cl.d (DV.int .u16 m.c.f),Cl.d (DV.int .i64 m.p0.w),Cl.d (DV.int .i64 m.p0.h),Cl.d (DV.int .i64 m.p0.s),Cl.ref (b+0) m.p0.n,Cl.d (DV.int .i64 m.p1.w),Cl.d (DV.int .i64 m.p1.h),Cl.d (DV.int .i64 m.p1.s),Cl.ref (b+1) m.p1.n,Cl.d (DV.int .i64 m.p2.w),Cl.d (DV.int .i64 m.p2.h),Cl.d (DV.int .i64 m.p2.s),Cl.ref (b+2) m.p2.n,Cl.d (DV.int .i64 m.p3.w),Cl.d (DV.int .i64 m.p3.h),Cl.d (DV.int .i64 m.p3.s),Cl.ref (b+3) m.p3.n,Cl.d (DV.int .i64 m.p4.w),Cl.d (DV.int .i64 m.p4.h),Cl.d (DV.int .i64 m.p4.s),Cl.ref (b+4) m.p4.n]
def imB (e:Nat) (m:Im):List Bx:=[Bx.row e 1 m.p0.xs,Bx.row e 1 m.p1.xs,Bx.row e 1 m.p2.xs,Bx.row e 1 m.p3.xs,Bx.row e 1 m.p4.xs]
def zXH (p k a b:Int) (often:Int):Int:=if modS (IntKind.wrap .i64 (Int.tdiv often 5)) 3=0 then IntKind.wrap .i64 (b - a) else IntKind.wrap .i64 (1+modS p k)
def zQg (pw ph so mood:Int) (L:Nat) (xs:List DV) (x0 y0 x1 y1 most:Int):Im:=
  let w:=zXH pw 5 x0 x1 pw
  let h:=zXH ph 4 y0 y1 pw
  let l:=zQm mood L xs most (IntKind.wrap .i64 (w*h)).toNat
  if modS so 2=0 then zQa w h (gPx mood L xs most 0) else imOf w h l
theorem zV0 {mood:Int} {L:Nat} {xs:List DV} {most:Int} {n:Nat} (hn:0 < n):nAt (pxs (zQm mood L xs most n)) 0=(gPx mood L xs most 0).a∧nAt (pxs (zQm mood L xs most n)) 1=(gPx mood L xs most 0).b∧nAt (pxs (zQm mood L xs most n)) 2=(gPx mood L xs most 0).c∧nAt (pxs (zQm mood L xs most n)) 3=(gPx mood L xs most 0).al∧nAt (pxs (zQm mood L xs most n)) 4=(gPx mood L xs most 0).f:=by
  have h:0 < (zQm mood L xs most n).length:=by rw [zZz]; exact hn
  have e:(zQm mood L xs most n)[0]=gPx mood L xs most 0:=by simp [zQm]
  have:=zQ0 h
  rw [e] at this
  simpa only [Nat.zero_mul,Nat.zero_add] using this
theorem jX2 (pw ph so mood:Int) (L:Nat) (xs:List DV) (x0 y0 x1 y1 most:Int):(zQg pw ph so mood L xs x0 y0 x1 y1 most).isU:=by
  unfold zQg
  simp only
  split
  · exact zKs _ _ _
  · exact jXl _ _ _
theorem zK8 (pw ph so mood:Int) (L:Nat) (xs:List DV) (x0 y0 x1 y1 most:Int) (W H:Int) (hW:zXH pw 5 x0 x1 pw=W) (hH:zXH ph 4 y0 y1 pw=H):zQg pw ph so mood L xs x0 y0 x1 y1 most=if modS so 2=0 then zQa W H (gPx mood L xs most 0) else imOf W H (zQm mood L xs most (IntKind.wrap .i64 (W*H)).toNat):=by
  unfold zQg
  simp only [hW,hH]
theorem zH0 {W H:Int} (hW:1≤W∧W≤100) (hH:1≤H∧H≤100):1≤IntKind.wrap .i64 (W*H)∧IntKind.wrap .i64 (W*H)≤10000:=by
  have a:=Int.mul_le_mul hW.2 hH.2 (by omega) (by omega)
  have b:=Int.mul_le_mul hW.1 hH.1 (by omega) (by omega)
  rw [IntWalk.i64_in _ ⟨by omega,by omega⟩]
  omega
def strS (p:Pl) (more:Int) (k:Int):Int:=IntKind.wrap .i64 (p.w+modS (IntKind.wrap .i64 (more+k)) 4)
def strV (p:Pl) (s:Int) (i:Nat):Int:=
  if Int.tmod (i:Int) s < p.w then nAt p.xs (IntKind.wrap .i64 (IntKind.wrap .i64 (IntKind.wrap .i64 (Int.tdiv (i:Int) s)*p.s)+Int.tmod (i:Int) s)).toNat else IntKind.wrap .u16 (IntKind.wrap .i64 (40000+(i:Int)))
def jZT (p:Pl) (s:Int) (n:Nat):List DV:=us ((List.range n).map (strV p s))
def strN (p:Pl) (s:Int):Nat:=(IntKind.wrap .i64 (s*p.h)).toNat
def strP (p:Pl) (more:Int) (k:Int):Pl:=⟨p.w,p.h,strS p more k,strN p (strS p more k),jZT p (strS p more k) (strN p (strS p more k))⟩
def zZN (m:Im) (more:Int):Im:=if m.so then m else ⟨m.w,m.h,m.so,m.c,strP m.p0 more 0,strP m.p1 more 1,strP m.p2 more 2,strP m.p3 more 3,strP m.p4 more 4⟩
theorem jYm {p:Pl} {more k:Int} (hw:1≤p.w∧p.w≤100):p.w≤strS p more k∧strS p more k≤103:=by
  have b:=@zQ6 (IntKind.wrap .i64 (more+k)) 4 (by omega) (by omega)
  unfold strS
  rw [IntWalk.i64_in _ ⟨by omega,by omega⟩]
  omega
theorem jYn {p:Pl} {s:Int} (hs:1≤s∧s≤103) (hh:1≤p.h∧p.h≤100):IntKind.wrap .i64 (s*p.h)=(strN p s:Int)∧strN p s≤10300∧((strN p s:Nat):Int)=s*p.h:=by
  have a:=Int.mul_le_mul hs.2 hh.2 (by omega) (by omega)
  have b:=Int.mul_nonneg (show 0≤s by omega) (show 0≤p.h by omega)
  unfold strN
  rw [IntWalk.i64_in _ ⟨by omega,by omega⟩]
  omega
theorem jXG (p:Pl) (s:Int) {n i:Nat} (h:i < n):nAt (jZT p s n) i=strV p s i:=by
  unfold jZT
  rw [jYf (by simpa using h)]
  simp
theorem zYf {p:Pl} {more k:Int} (hv:zQc p.w p.h p.s p.n=true) (hw:p.w≤100) (hh:p.h≤100):zQc (strP p more k).w (strP p more k).h (strP p more k).s (strP p more k).n=true:=by
  have hf:zQz p.w p.h=true:=by unfold zQc at hv; simp at hv; exact hv.1.1.1
  obtain ⟨f1,f2,f3,f4,f5⟩:=zZA hf
  have S:=@jYm p more k ⟨f1,hw⟩
  have N:=@jYn p (strS p more k) ⟨by omega,by omega⟩ ⟨f2,hh⟩
  have L:=jZv hf S.1 (by omega)
  show zQc p.w p.h (strS p more k) (strN p (strS p more k))=true
  unfold zQc
  have e:(p.h - 1)*strS p more k=strS p more k*p.h - strS p more k:=by rw [Int.sub_mul,Int.mul_comm]; omega
  simp only [hf,Bool.true_and,Bool.and_eq_true,decide_eq_true_eq]
  exact ⟨⟨S.1,by omega⟩,by omega⟩
theorem zWI {p:Pl} {more k:Int} (hv:zQc p.w p.h p.s p.n=true) (hw:p.w≤100) (hh:p.h≤100) {x y:Int} (hx:0≤x∧x < p.w) (hy:0≤y∧y < p.h):(strP p more k).at_ x y=p.at_ x y:=by
  have hf:zQz p.w p.h=true:=by unfold zQc at hv; simp at hv; exact hv.1.1.1
  obtain ⟨f1,f2,f3,f4,f5⟩:=zZA hf
  obtain ⟨q1,q2,q3,q4,q5⟩:=place hv hx.1 hx.2 hy.1 hy.2
  obtain ⟨v1,v2,v3,v4,v5,v6,v7,v8,v9⟩:=zKr hv
  have S:=@jYm p more k ⟨f1,hw⟩
  have N:=@jYn p (strS p more k) ⟨by omega,by omega⟩ ⟨f2,hh⟩
  show nAt (jZT p (strS p more k) (strN p (strS p more k))) (y*strS p more k+x).toNat=nAt p.xs (y*p.s+x).toNat
  generalize strS p more k=s at *
  have a1:0≤y*s:=Int.mul_nonneg hy.1 (by omega)
  have a2:(y+1)*s≤p.h*s:=Int.mul_le_mul_of_nonneg_right (by omega) (by omega)
  have a3:(y+1)*s=y*s+s:=by rw [Int.add_mul,Int.one_mul]
  have a4:p.h*s=s*p.h:=Int.mul_comm _ _
  have hi:(y*s+x).toNat < strN p s:=by omega
  rw [jXG _ _ hi]
  have ei:((y*s+x).toNat:Int)=y*s+x:=by omega
  unfold strV
  rw [ei,Int.tmod_eq_emod_of_nonneg (by omega),Int.tdiv_eq_ediv_of_nonneg (by omega)]
  have m1:(y*s+x) % s=x:=by rw [Int.add_comm,Int.add_mul_emod_self_right]; exact Int.emod_eq_of_lt hx.1 (by omega)
  have m2:(y*s+x) / s=y:=by rw [Int.add_comm,Int.add_mul_ediv_right _ _ (by omega),Int.ediv_eq_zero_of_lt hx.1 (by omega)]; omega
  rw [m1,m2,if_pos hx.2]
  rw [IntWalk.i64_in y ⟨by omega,by omega⟩,q5.1,q5.2]
theorem jZE (m:Im) (more:Int):(zZN m more).so=m.so∧(zZN m more).w=m.w∧(zZN m more).h=m.h∧(zZN m more).c=m.c:=by
  unfold zZN
  split <;> simp
theorem zJw {m:Im} (hf:m.formed=true) (hm:m.w≤100∧m.h≤100) (more:Int):(zZN m more).formed=true:=by
  unfold zZN
  split
  · exact hf
  · rename_i hs
    have hs:m.so=false:=by simpa using hs
    obtain ⟨qf,qi⟩:=Im.formed_of hf
    obtain ⟨qc,z0,z1,z2,z3,z4⟩:=Im.inner_planes qi hs
    have p0:=zYf (more:=more) (k:=0) z0.1 (by omega) (by omega)
    have p1:=zYf (more:=more) (k:=1) z1.1 (by omega) (by omega)
    have p2:=zYf (more:=more) (k:=2) z2.1 (by omega) (by omega)
    have p3:=zYf (more:=more) (k:=3) z3.1 (by omega) (by omega)
    have p4:=zYf (more:=more) (k:=4) z4.1 (by omega) (by omega)
    have e:∀ (p:Pl) k,(strP p more k).w=p.w∧(strP p more k).h=p.h:=fun p k=>⟨rfl,rfl⟩
    simp only [(e _ _).1,(e _ _).2,z0.2,z1.2,z2.2,z3.2,z4.2] at p0 p1 p2 p3 p4
    simp [Im.formed,Im.inner,okPl,hs,qf,qc,p0,p1,p2,p3,p4,e,z0.2,z1.2,z2.2,z3.2,z4.2]
theorem jZF {m:Im} (hf:m.formed=true) (hm:m.w≤100∧m.h≤100) (more:Int) {x y:Int} (hx:0≤x∧x < m.w) (hy:0≤y∧y < m.h):(zZN m more).px x y=m.px x y:=by
  unfold zZN
  split
  · rfl
  · rename_i hs
    have hs:m.so=false:=by simpa using hs
    obtain ⟨qf,qi⟩:=Im.formed_of hf
    obtain ⟨qc,z0,z1,z2,z3,z4⟩:=Im.inner_planes qi hs
    unfold Im.px
    simp only [hs]
    rw [zWI z0.1 (by omega) (by omega) (by omega) (by omega),zWI z1.1 (by omega) (by omega) (by omega) (by omega),zWI z2.1 (by omega) (by omega) (by omega) (by omega),zWI z3.1 (by omega) (by omega) (by omega) (by omega),zWI z4.1 (by omega) (by omega) (by omega) (by omega)]
theorem Im.pixels_ext {m r:Im} (hm:m.formed=true) (hr:r.formed=true) (hw:r.w=m.w) (hh:r.h=m.h) (h:∀ x y:Int,(0≤x∧x < m.w)→(0≤y∧y < m.h)→r.px x y=m.px x y):r.pixels=m.pixels:=by
  rw [Im.pixels_of hm,Im.pixels_of hr,hw,hh]
  unfold Im.list
  refine List.map_congr_left fun k hk=>?_
  have hk:=List.mem_range.1 hk
  obtain ⟨a,b⟩:=Im.nth_in (Im.formed_of hm).1 hk
  unfold Im.nth
  rw [hw]
  exact h _ _ a b
theorem zUE {m:Im} (hf:m.formed=true) (hm:m.w≤100∧m.h≤100) (more:Int):(zZN m more).pixels=m.pixels:=
  have g:=jZE m more
  Im.pixels_ext hf (zJw hf hm more) g.2.1 g.2.2.1 (fun x y hx hy=>jZF hf hm more hx hy)
theorem zZH {w h:Int} (c:Px) (hf:zQz w h=true):(zQa w h c).formed=true:=by
  simp [Im.formed,Im.inner,okPl,zQa,hf,zQV,Pl.none]
theorem zUh {w h:Int} {l:List Px} (hk:ofOk w h l.length=true):(ofIm w h l).formed=true:=by
  unfold ofOk at hk
  simp at hk
  obtain ⟨hf,hl⟩:=hk
  obtain ⟨f1,f2,f3,f4,f5⟩:=zZA hf
  have L:=jZv hf (Int.le_refl w) f3
  have e:(h - 1)*w=w*h - w:=by rw [Int.sub_mul,Int.mul_comm]; omega
  have hv:zQc w h w l.length=true:=by
    unfold zQc
    simp only [hf,Bool.true_and,Bool.and_eq_true,decide_eq_true_eq]
    exact ⟨⟨Int.le_refl _,f3⟩,by omega⟩
  simp [Im.formed,Im.inner,okPl,ofIm,hf,hv]
theorem zV1 (pw ph so mood:Int) (L:Nat) (xs:List DV) (x0 y0 x1 y1 most:Int) (hc:1≤x1 - x0∧x1 - x0≤100∧1≤y1 - y0∧y1 - y0≤100) :
    (zQg pw ph so mood L xs x0 y0 x1 y1 most).formed=true∧1≤(zQg pw ph so mood L xs x0 y0 x1 y1 most).w∧(zQg pw ph so mood L xs x0 y0 x1 y1 most).w≤100∧1≤(zQg pw ph so mood L xs x0 y0 x1 y1 most).h∧(zQg pw ph so mood L xs x0 y0 x1 y1 most).h≤100:=by
  have b5:=@zQ6 pw 5 (by omega) (by omega)
  have b4:=@zQ6 ph 4 (by omega) (by omega)
  have hW:1≤zXH pw 5 x0 x1 pw∧zXH pw 5 x0 x1 pw≤100:=by
    unfold zXH
    split <;> rw [IntWalk.i64_in _ ⟨by omega,by omega⟩] <;> omega
  have hH:1≤zXH ph 4 y0 y1 pw∧zXH ph 4 y0 y1 pw≤100:=by
    unfold zXH
    split <;> rw [IntWalk.i64_in _ ⟨by omega,by omega⟩] <;> omega
  rw [zK8 pw ph so mood L xs x0 y0 x1 y1 most _ _ rfl rfl]
  generalize zXH pw 5 x0 x1 pw=W at *
  generalize zXH ph 4 y0 y1 pw=H at *
  have wa:=zH0 hW hH
  have hf:zQz W H=true:=by
    have:=Int.mul_le_mul hW.2 hH.2 (by omega) (by omega)
    simp [zQz]; omega
  have hwm:IntKind.wrap .i64 (W*H)=W*H:=IntWalk.i64_in _ (by
    have:=Int.mul_le_mul hW.2 hH.2 (by omega) (by omega)
    have:=Int.mul_nonneg (a:=W) (b:=H) (by omega) (by omega)
    omega)
  split
  · exact ⟨zZH _ hf,hW.1,hW.2,hH.1,hH.2⟩
  · have hk:ofOk W H (zQm mood L xs most (IntKind.wrap .i64 (W*H)).toNat).length=true:=by
      simp only [ofOk,hf,Bool.true_and,decide_eq_true_eq,zZz]
      omega
    rw [zKD hk]
    exact ⟨zUh hk,hW.1,hW.2,hH.1,hH.2⟩
theorem jVi {l:List Px} {g:Px→Int} {k:Nat} (h:k < l.length):nAt (chan l g) k=g l[k]:=by
  unfold chan
  rw [jYf (by simpa using h)]
  simp
theorem jKN {w h:Int} {l:List Px} {x y:Int} (hk:(y*w+x).toNat < l.length):(ofIm w h l).px x y=l[(y*w+x).toNat]:=by
  simp [Im.px,ofIm,Pl.at_,jVi hk]
theorem Im.list_at {m:Im} {n k:Nat} (h:k < n):(m.list n)[k]'(by rw [Im.list_len]; exact h)=m.nth k:=by simp [Im.list]
theorem Im.pixels_len {m:Im} (hf:m.formed=true):(m.pixels.length:Int)=m.w*m.h:=by
  rw [Im.pixels_of hf,Im.list_len]
  exact (Im.count_le (Im.formed_of hf).1).2
theorem zUy {w h:Int} {l:List Px} (hk:ofOk w h l.length=true):(imOf w h l).formed=true∧(imOf w h l).pixels=l:=by
  rw [zKD hk]
  have hf:=zUh hk
  refine ⟨hf,?_⟩
  rw [Im.pixels_of hf]
  obtain ⟨f1,f2,f3,f4,f5⟩:=zZA (Im.formed_of hf).1
  have hl:l.length=w.toNat*h.toNat:=by
    have:=(Im.count_le (Im.formed_of hf).1).2
    simp [ofOk] at hk
    change ((w.toNat*h.toNat:Nat):Int)=w*h at this
    omega
  refine List.ext_getElem (by rw [Im.list_len]; exact hl.symm) fun i h1 h2=>?_
  rw [Im.list_len] at h1
  rw [Im.list_at h1]
  have hw:0 < w.toNat:=by change 1≤w at f1; omega
  have e:i / w.toNat*w.toNat+i % w.toNat=i:=by rw [Nat.mul_comm]; exact Nat.div_add_mod i w.toNat
  have e2:(((i / w.toNat:Nat):Int)*w+((i % w.toNat:Nat):Int)).toNat=i:=by
    rw [idx (by change 1≤w at f1; omega)]; exact e
  show (ofIm w h l).px ((i % w.toNat:Nat):Int) ((i / w.toNat:Nat):Int)=l[i]
  rw [jKN (by rw [e2]; exact h2)]
  simp only [e2]
theorem zQq:Try.prog.follows .mixedOrders=true:=by kernel_rfl
def gamM:Gam where
 pure:=fun f xs=>
  if f=16 then (match xs with | [.d (.int _ n),.d (.int _ k)]=>some (rJ ((modS n k))) | _=>none) else
  none
 modes:=fun f=>
  none
 proc:=fun f xs bs=>
  none
 iter:=fun f cs=>
  none
def jQY (n:Int) (k:Int):Ann:=Ann.leaf
theorem jJ6 (n:Int) (k:Int):vcg Try.prog gamM 14 (zQl Try.f16) (jQY n k) kn0 (zQN [RV.d (DV.int .i64 n),RV.d (DV.int .i64 k)]) (post Try.prog Try.f16.results.toList (·=RV.d (DV.int .i64 (modS n k)))) =
  ((True)∧(True)∧(True)∧(((decide (k < (1:Int)))=true→(True)∧rJ ((0:Int))=rJ ((modS n k)))∧((decide (k < (1:Int)))=false→(True)∧(True)∧(k≠0)∧(True)∧(True)∧(True)∧(k≠0)∧(True)∧rJ ((Int.tmod (wK ((Int.tmod n k)+k)) k))=rJ ((modS n k))))):=by kernel_rfl
theorem zQr (n:Int) (k:Int):Ans Try.prog 16 [RV.d (DV.int .i64 n),RV.d (DV.int .i64 k)] (RV.d (DV.int .i64 (modS n k))):=
  zQf (Γ:=gamM) (jQY n k) zQq Try.func16 rfl (Nat.le_of_ble_eq_true rfl) fun hwf=>by
    refine Eq.mpr (jJ6 n k) ?_
    delta wK rJ
    simp only [true_and,and_true,RV.d.injEq,DV.int.injEq,forall_const,Bool.not_false,Bool.not_true]
    unfold modS; grind
end Go.Proofs.Ytlnfgagmiogkgaa
namespace Go.Proofs.Ytlnfgagmiogkgaa
open Go.RowKit
set_option linter.unusedVariables false
set_option linter.unusedSimpArgs false
attribute [local irreducible] Ans AnsO AnsG AnsN AnsI
def gamO:Gam where
 pure:=fun f xs=>
  if f=16 then (match xs with | [.d (.int _ n),.d (.int _ k)]=>some (rJ ((modS n k))) | _=>none) else
  if f=59 then (match xs with | [.d (.sl n xs),.d (.int _ i)]=>some (rJ ((atS (ints xs) i))) | _=>none) else
  if f=50 then (match xs with | [.d (.sl n xs),.d (.sl m ys)]=>some (RV.d (dQ (decide (ints xs=ints ys)))) | _=>none) else
  if f=25 then (match xs with | []=>some (RV.tup [RV.tup [rJ (3),rJ (1)]]) | [.d (.sl n xs),.d (.int _ m)]=>some (RV.d (dS ((zZO (ints xs) m).length) (is (zZO (ints xs) m)))) | _=>none) else
  none
 modes:=fun f=>
  none
 proc:=fun f xs bs=>
  none
 iter:=fun f cs=>
  none
def jXD (n:Nat) (xs:List DV) (i:Int):Ann:=Ann.leaf
theorem jVn (n:Nat) (xs:List DV) (i:Int):vcg Try.prog gamO 17 (zQl Try.f59) (jXD n xs i) kn0 (zQN [RV.d (DV.sl n xs),RV.d (DV.int .i64 i)]) (post Try.prog Try.f59.results.toList (·=RV.d (DV.int .i64 (atS (ints xs) i)))) =
  (let zz0:=(dJ (atS (ints xs) i)); let zz1:=(dJ (nAt xs (i.toNat*1))); tU4 ((((decide (i < (0:Int)))=false→tU5 ((((decide (i≥(n:Int)))=true→True∧rJ (0)=RV.d zz0)∧((decide (i≥(n:Int)))=false→tU2 ((0≤i∧i < (n:Int)∧i.toNat*1 < xs.length)∧((xs[i.toNat*1]?=some zz1)∧True)∧True∧RV.d zz1=RV.d zz0)))))∧((decide (i < (0:Int)))=(!false)→tU2 (rJ (0)=RV.d zz0))))):=by kernel_rfl
theorem jJ8 (n:Nat) (xs:List DV) (i:Int) (hx:xs=is (ints xs)∧n=xs.length):Ans Try.prog 59 [RV.d (DV.sl n xs),RV.d (DV.int .i64 i)] (RV.d (DV.int .i64 (atS (ints xs) i))):=
  zQf (Γ:=gamO) (jXD n xs i) zQq Try.func59 rfl (Nat.le_of_ble_eq_true rfl) fun hwf=>by
    refine Eq.mpr (jVn n xs i) ?_
    delta tU2 tU4 tU5 dJ rJ
    simp only [true_and,and_true,RV.d.injEq,RV.agg.injEq,RV.tup.injEq,DV.bool.injEq,DV.int.injEq,DV.sl.injEq,List.cons.injEq,forall_const,Bool.not_false,Bool.not_true,Bool.not_eq_true',Bool.not_eq_false',decide_eq_true_eq,decide_eq_false_iff_not,Int.toNat_natCast,zQr]
    obtain ⟨hx,rfl⟩:=hx
    generalize hl:ints xs=l at *
    subst hx
    simp only [zQW,Nat.mul_one]
    refine ⟨fun h1=>⟨fun h2=>?_,fun h2=>?_⟩,fun h1=>by simp [atS,h1]⟩
    · have:l[i.toNat]?=none:=List.getElem?_eq_none (by omega)
      simp [atS,h1,this]
    · have h:i.toNat < l.length:=by omega
      refine ⟨by omega,?_,?_⟩
      · rw [jQn h]; exact jYT h
      · rw [jQn h]; simp [atS,h1,List.getElem?_eq_getElem h]
def zYy (n:Nat) (xs:List DV) (m:Int):Ann:=let zz0:=(0,AV.one (Cl.d (dS n xs))); let zz1:=(1,aJ ((m))); (Ann.seq Ann.leaf (Ann.seq Ann.leaf (Ann.seq Ann.leaf (Ann.seq (Ann.seq Ann.leaf (Ann.loop ⟨Nat,fun k=>k≤m.toNat,fun k=>⟨[zz0,zz1,(5,AV.one (Cl.ref 1005 m.toNat)),(6,aJ (((k:Int))))],[(1005,Bx.row 3 1 (is (upto k)++List.replicate (m.toNat - k) (dJ 0)))]⟩,fun k=>m.toNat - k⟩ fun k=>Ann.leaf)) (Ann.seq Ann.leaf (Ann.seq (Ann.seq Ann.leaf (Ann.loop ⟨Nat,fun j=>j≤m.toNat,fun j=>⟨[zz0,zz1,(5,AV.one (Cl.d (dS (m.toNat - j) (is (stp (ints xs) m.toNat j).1)))),(7,AV.one (Cl.ref 1007 j)),(8,aJ (((j:Int))))],[(1007,Bx.row 3 1 (is (stp (ints xs) m.toNat j).2))]⟩,fun j=>m.toNat - j⟩ fun j=>Ann.leaf)) Ann.leaf))))))
theorem zWu (n:Nat) (xs:List DV) (m:Int):vcg Try.prog gamO 56 (zQl Try.f25) (zYy n xs m) kn0 (zQN [RV.d (DV.sl n xs),RV.d (DV.int .i64 m)]) (jZn 4 3 1 ((zZO (ints xs) m).length) (is (zZO (ints xs) m))) =
  (let zz0:=(dJ m=dJ m); tU5 (((((n:Int)==(0:Int))=false→tU3 ((((decide (m > (64:Int)))=true→True∧(zZO (ints xs) m).length=0∧is (zZO (ints xs) m)=[])∧((decide (m > (64:Int)))=false→True∧(0≤m∧m≤m∧m≤(maxLen:Int)∧((8:Nat):Int)*m≤281474976710656)∧tU2 (((∃ k:Nat,(k≤m.toNat)∧(((dS n xs=dS n xs)∧zz0∧(m.toNat=m.toNat)∧(dJ 0=dJ (k:Int))∧True)∧((List.replicate m.toNat (dJ 0)=is (upto k)++List.replicate (m.toNat - k) (dJ 0))∧True)))∧∀ k:Nat,(k≤m.toNat)→tU3 ((((decide ((k:Int) < m))=true→tU3 ((0≤(k:Int)∧(k:Int) < (m.toNat:Int))∧((k:Int).toNat*1+1≤(is (upto k)++List.replicate (m.toNat - k) (dJ 0)).length)∧tU3 (∃ k':Nat,(k'≤m.toNat)∧(m.toNat - k' < m.toNat - k)∧(((dS n xs=dS n xs)∧zz0∧(m.toNat=m.toNat)∧(dJ (wK ((k:Int)+(1:Int)))=dJ (k':Int))∧True)∧((List.set (is (upto k)++List.replicate (m.toNat - k) (dJ 0)) ((k:Int).toNat*1) (dJ (k:Int))=is (upto k')++List.replicate (m.toNat - k') (dJ 0))∧True)))))∧((decide ((k:Int) < m))=false→tU2 (((∃ j:Nat,(j≤m.toNat)∧(((dS n xs=dS n xs)∧zz0∧(dS m.toNat (is (upto k)++List.replicate (m.toNat - k) (dJ 0))=dS (m.toNat - j) (is (stp (ints xs) m.toNat j).1))∧(0=j)∧(dJ 0=dJ (j:Int))∧True)∧(([]=is (stp (ints xs) m.toNat j).2)∧True)))∧∀ j:Nat,(j≤m.toNat)→tU3 ((((decide ((((m.toNat - j):Nat):Int) > (0:Int)))=true→tU2 ((Ans Try.prog 59 [RV.d (dS n xs),rJ ((j:Int))] (rJ ((atS (ints xs) (j:Int)))))∧tU2 ((Ans Try.prog 16 [rJ ((atS (ints xs) (j:Int))),rJ ((((m.toNat - j):Nat):Int))] (rJ ((modS (atS (ints xs) (j:Int)) (((m.toNat - j):Nat):Int)))))∧tU4 ((0≤modS (atS (ints xs) (j:Int)) (((m.toNat - j):Nat):Int)∧modS (atS (ints xs) (j:Int)) (((m.toNat - j):Nat):Int) < (((m.toNat - j):Nat):Int)∧(modS (atS (ints xs) (j:Int)) (((m.toNat - j):Nat):Int)).toNat*1 < (is (stp (ints xs) m.toNat j).1).length)∧(((is (stp (ints xs) m.toNat j).1)[(modS (atS (ints xs) (j:Int)) (((m.toNat - j):Nat):Int)).toNat*1]?=some (dJ (nAt (is (stp (ints xs) m.toNat j).1) ((modS (atS (ints xs) (j:Int)) (((m.toNat - j):Nat):Int)).toNat*1))))∧True)∧True∧(zQ8 1 8 j 1 (is (stp (ints xs) m.toNat j).2) ([dJ (nAt (is (stp (ints xs) m.toNat j).1) ((modS (atS (ints xs) (j:Int)) (((m.toNat - j):Nat):Int)).toNat*1))]))∧tU3 ((0≤(0:Int)∧(0:Int)≤modS (atS (ints xs) (j:Int)) (((m.toNat - j):Nat):Int)∧modS (atS (ints xs) (j:Int)) (((m.toNat - j):Nat):Int)≤(((m.toNat - j):Nat):Int))∧(zQ8 1 8 0 ((modS (atS (ints xs) (j:Int)) (((m.toNat - j):Nat):Int) - (0:Int)).toNat) ([]) (List.take ((modS (atS (ints xs) (j:Int)) (((m.toNat - j):Nat):Int) - (0:Int)).toNat*1) (List.drop ((0:Int).toNat*1) (is (stp (ints xs) m.toNat j).1))))∧tU3 ((0≤wK ((modS (atS (ints xs) (j:Int)) (((m.toNat - j):Nat):Int))+(1:Int))∧wK ((modS (atS (ints xs) (j:Int)) (((m.toNat - j):Nat):Int))+(1:Int))≤(((m.toNat - j):Nat):Int)∧(((m.toNat - j):Nat):Int)≤(((m.toNat - j):Nat):Int))∧(zQ8 1 8 ((modS (atS (ints xs) (j:Int)) (((m.toNat - j):Nat):Int) - (0:Int)).toNat) (((((m.toNat - j):Nat):Int) - wK ((modS (atS (ints xs) (j:Int)) (((m.toNat - j):Nat):Int))+(1:Int))).toNat) (List.take ((modS (atS (ints xs) (j:Int)) (((m.toNat - j):Nat):Int) - (0:Int)).toNat*1) (List.drop ((0:Int).toNat*1) (is (stp (ints xs) m.toNat j).1))) (List.take (((((m.toNat - j):Nat):Int) - wK ((modS (atS (ints xs) (j:Int)) (((m.toNat - j):Nat):Int))+(1:Int))).toNat*1) (List.drop ((wK ((modS (atS (ints xs) (j:Int)) (((m.toNat - j):Nat):Int))+(1:Int))).toNat*1) (is (stp (ints xs) m.toNat j).1))))∧True∧(true=true)∧tU3 (∃ j':Nat,(j'≤m.toNat)∧(m.toNat - j' < m.toNat - j)∧(((dS n xs=dS n xs)∧zz0∧(dS (((modS (atS (ints xs) (j:Int)) (((m.toNat - j):Nat):Int) - (0:Int)).toNat)+(((((m.toNat - j):Nat):Int) - wK ((modS (atS (ints xs) (j:Int)) (((m.toNat - j):Nat):Int))+(1:Int))).toNat)) ((List.take ((modS (atS (ints xs) (j:Int)) (((m.toNat - j):Nat):Int) - (0:Int)).toNat*1) (List.drop ((0:Int).toNat*1) (is (stp (ints xs) m.toNat j).1)))++(List.take (((((m.toNat - j):Nat):Int) - wK ((modS (atS (ints xs) (j:Int)) (((m.toNat - j):Nat):Int))+(1:Int))).toNat*1) (List.drop ((wK ((modS (atS (ints xs) (j:Int)) (((m.toNat - j):Nat):Int))+(1:Int))).toNat*1) (is (stp (ints xs) m.toNat j).1))))=dS (m.toNat - j') (is (stp (ints xs) m.toNat j').1))∧(j+1=j')∧(dJ (wK ((j:Int)+(1:Int)))=dJ (j':Int))∧True)∧(((is (stp (ints xs) m.toNat j).2)++([dJ (nAt (is (stp (ints xs) m.toNat j).1) ((modS (atS (ints xs) (j:Int)) (((m.toNat - j):Nat):Int)).toNat*1))])=is (stp (ints xs) m.toNat j').2)∧True)))))))))∧((decide ((((m.toNat - j):Nat):Int) > (0:Int)))=false→tU2 ((3=3∧1=1)∧(is (zZO (ints xs) m)).length=((zZO (ints xs) m).length)*1∧j=(zZO (ints xs) m).length∧is (stp (ints xs) m.toNat j).2=is (zZO (ints xs) m))))))))))))))))∧(((n:Int)==(0:Int))=(!false)→tU2 ((zZO (ints xs) m).length=0∧is (zZO (ints xs) m)=[]))))):=by kernel_rfl
theorem zVI (n:Nat) (xs:List DV) (m:Int) (hx:xs=is (ints xs)∧n=xs.length) (hm:0≤m):AnsO Try.prog 25 [RV.d (DV.sl n xs),RV.d (DV.int .i64 m)] 3 1 ((zZO (ints xs) m).length) (is (zZO (ints xs) m)):=
  zXs (t:=4) (Γ:=gamO) (zYy n xs m) zQq Try.func25 rfl (Nat.le_of_ble_eq_true rfl) rfl fun hwf=>by
    refine Eq.mpr (zWu n xs m) ?_
    delta tU2 tU3 tU4 tU5 dJ wK dS rJ
    simp only [true_and,and_true,RV.d.injEq,RV.agg.injEq,RV.tup.injEq,DV.bool.injEq,DV.int.injEq,DV.sl.injEq,List.cons.injEq,forall_const,Bool.not_false,Bool.not_true,Bool.not_eq_true',Bool.not_eq_false',decide_eq_true_eq,decide_eq_false_iff_not,Int.toNat_natCast,zQr]
    obtain ⟨hx,rfl⟩:=hx
    generalize hl:ints xs=l at *
    subst hx
    have z0:l.length=0→zZO l m=[]:=fun h=>by simp [zZO,h]
    have z1:64 < m→zZO l m=[]:=fun h=>by simp [zZO,h]
    refine ⟨fun hne=>⟨fun hbig=>by rw [z1 hbig]; exact ⟨rfl,rfl⟩,fun hsm=>?_⟩,fun he=>by rw [z0 (by simpa [zQW] using he)]; exact ⟨rfl,rfl⟩⟩
    have hll:l.length≠0:=by simpa [zQW] using hne
    have hp:zZO l m=(stp l m.toNat m.toNat).2:=by unfold zZO; rw [if_neg (by omega)]
    obtain ⟨N,rfl⟩:∃ N:Nat,m=(N:Int):=⟨m.toNat,by omega⟩
    rw [hp]
    simp only [Int.toNat_natCast,Nat.mul_one,maxLen]
    have hN:N≤64:=by omega
    have wr:∀ n:Int,-1000000≤n→n≤1000000→IntKind.wrap .i64 n=n:=fun n h h'=>by rw [IntKind.wrap_i64]; omega
    refine ⟨by omega,⟨0,Nat.zero_le _,rfl,by simp [upto,is]⟩,fun k hk=>⟨fun hlt=>?_,fun hge=>⟨⟨0,Nat.zero_le _,⟨⟨rfl,?_⟩,rfl,rfl⟩,rfl⟩,fun j hj=>⟨fun hlt=>?_,fun hge=>?_⟩⟩⟩⟩
    · refine ⟨by omega,by rw [List.length_append,zQW,zG3,List.length_replicate]; omega,k+1,by omega,by omega,by rw [wr _ (by omega) (by omega)]; omega,jY6 (by omega)⟩
    · have:k=N:=by omega
      subst this
      simp [stp]
    · obtain ⟨h1,h2⟩:=zVq l hN j (by omega)
      have hK:=jZs (v:=atS l j) (m:=(stp l N j).1.length) (by omega) (by omega)
      have e1:(stp l N (j+1)).1=(stp l N j).1.take (modS (atS l j) (stp l N j).1.length).toNat++(stp l N j).1.drop ((modS (atS l j) (stp l N j).1.length).toNat+1):=rfl
      have e2:(stp l N (j+1)).2=(stp l N j).2++[((stp l N j).1[(modS (atS l j) (stp l N j).1.length).toNat]?).getD 0]:=rfl
      have ha:=jJ8 l.length (is l) (j:Int) ⟨by rw [zZo],by rw [zQW]⟩
      rw [zZo] at ha
      generalize (stp l N j).1=r at *
      generalize (stp l N j).2=o at *
      subst h2
      rw [h1] at hK e1 e2
      generalize hg:modS (atS l (o.length:Int)) ((N - o.length:Nat):Int)=g at *
      obtain ⟨K,rfl⟩:∃ K:Nat,g=(K:Int):=⟨g.toNat,by omega⟩
      simp only [Int.toNat_natCast] at hK e1 e2 ⊢
      have w1:IntKind.wrap .i64 ((K:Int)+1)=((K+1:Nat):Int):=by rw [wr _ (by omega) (by omega)]; omega
      have t1:((K:Int) - 0).toNat=K:=by omega
      have t2:(((N - o.length:Nat):Int) - ((K+1:Nat):Int)).toNat=N - o.length - (K+1):=by omega
      have t3:Int.toNat 0=0:=rfl
      have hKr:K < r.length:=by omega
      have d1:List.take (N - o.length - (K+1)) (List.drop (K+1) (is r))=is (r.drop (K+1)):=by rw [jKS,List.take_of_length_le (by rw [zQW,List.length_drop]; omega)]
      simp only [w1,t1,t2,t3,Int.toNat_natCast,List.drop_zero,d1,jKR,zQW,zQ8,Nat.mul_one,zUp,jQn hKr,List.getElem?_eq_getElem hKr,Option.getD_some,maxLen] at e2 ⊢
      refine ⟨ha,⟨by omega,by omega,hKr⟩,jYT hKr,⟨trivial,rfl,by omega,by omega⟩,by omega,⟨rfl,?_,by omega,by omega⟩,by omega,⟨?_,?_,by omega,by omega⟩,o.length+1,by omega,by omega,⟨⟨by omega,by rw [e1]⟩,rfl,by rw [wr _ (by omega) (by omega)]; omega⟩,by rw [e2,← zUp]; rfl⟩
      all_goals simp
      all_goals omega
    · have:j=N:=by omega
      subst this
      have h2:=(zVq l hN j (Nat.le_refl _)).2
      rw [zQW,h2]
      exact ⟨rfl,rfl,rfl⟩
def zY4 (n:Nat) (xs:List DV) (m:Nat) (ys:List DV):Ann:=(Ann.seq Ann.leaf (Ann.seq Ann.leaf (Ann.seq (Ann.seq Ann.leaf (Ann.loop ⟨Nat,fun k=>k≤n∧(ints xs).take k=(ints ys).take k,fun k=>⟨[(0,AV.one (Cl.d (dS n xs))),(1,AV.one (Cl.d (dS m ys))),(5,aJ (((k:Int)))),(6,AV.one (Cl.d (dS n xs))),(7,aJ (((n:Int)))),(8,AV.one (Cl.d (dS m ys))),(9,aJ (((m:Int)))),(10,AV.one (Cl.d (dQ ((n:Int) != (m:Int)))))],[]⟩,fun k=>n - k⟩ fun k=>Ann.leaf)) Ann.leaf)))
theorem zUX (n:Nat) (xs:List DV) (m:Nat) (ys:List DV):vcg Try.prog gamO 26 (zQl Try.f50) (zY4 n xs m ys) kn0 (zQN [RV.d (DV.sl n xs),RV.d (DV.sl m ys)]) (post Try.prog Try.f50.results.toList (·=RV.d (DV.bool (decide (ints xs=ints ys))))) =
  (let zz0:=(dQ (decide (ints xs=ints ys))); let zz1:=fun (k:Nat)=>(k≤n∧(ints xs).take k=(ints ys).take k); let zz2:=(dJ (n:Int)=dJ (n:Int)); let zz3:=(dJ (m:Int)=dJ (m:Int)); let zz4:=(dQ ((n:Int) != (m:Int))=dQ ((n:Int) != (m:Int))); tU6 (((((n:Int) != (m:Int))=true→True∧RV.d (dQ false)=RV.d zz0)∧(((n:Int) != (m:Int))=false→True∧((∃ k:Nat,(zz1 k)∧(((dS n xs=dS n xs)∧(dS m ys=dS m ys)∧(dJ 0=dJ (k:Int))∧(dS n xs=dS n xs)∧zz2∧(dS m ys=dS m ys)∧zz3∧zz4∧True)∧(True)))∧∀ k:Nat,(zz1 k)→tU4 ((((decide ((k:Int) < (n:Int)))=true→tU2 ((0≤(k:Int)∧(k:Int) < (n:Int)∧(k:Int).toNat*1 < xs.length)∧((xs[(k:Int).toNat*1]?=some (dJ (nAt xs ((k:Int).toNat*1))))∧True)∧tU2 ((0≤(k:Int)∧(k:Int) < (m:Int)∧(k:Int).toNat*1 < ys.length)∧((ys[(k:Int).toNat*1]?=some (dJ (nAt ys ((k:Int).toNat*1))))∧True)∧True∧(true=true)∧((((nAt xs ((k:Int).toNat*1)) != (nAt ys ((k:Int).toNat*1)))=true→True∧RV.d (dQ false)=RV.d zz0)∧(((nAt xs ((k:Int).toNat*1)) != (nAt ys ((k:Int).toNat*1)))=false→tU3 (∃ k':Nat,(k'≤n∧(ints xs).take k'=(ints ys).take k')∧(n - k' < n - k)∧(((dS n xs=dS n xs)∧(dS m ys=dS m ys)∧(dJ (wK ((k:Int)+(1:Int)))=dJ (k':Int))∧(dS n xs=dS n xs)∧zz2∧(dS m ys=dS m ys)∧zz3∧zz4∧True)∧(True))))))))∧((decide ((k:Int) < (n:Int)))=false→True∧RV.d (dQ true)=RV.d zz0)))))))):=by kernel_rfl
theorem zWr (n:Nat) (xs:List DV) (m:Nat) (ys:List DV) (hx:xs=is (ints xs)∧n=xs.length) (hy:ys=is (ints ys)∧m=ys.length):Ans Try.prog 50 [RV.d (DV.sl n xs),RV.d (DV.sl m ys)] (RV.d (DV.bool (decide (ints xs=ints ys)))):=
  zQf (Γ:=gamO) (zY4 n xs m ys) zQq Try.func50 rfl (Nat.le_of_ble_eq_true rfl) fun hwf=>by
    refine Eq.mpr (zUX n xs m ys) ?_
    delta tU2 tU3 tU4 tU6 dJ dQ wK dS
    simp only [true_and,and_true,RV.d.injEq,RV.agg.injEq,RV.tup.injEq,DV.bool.injEq,DV.int.injEq,DV.sl.injEq,List.cons.injEq,forall_const,Bool.not_false,Bool.not_true,Bool.not_eq_true',Bool.not_eq_false',decide_eq_true_eq,decide_eq_false_iff_not,Int.toNat_natCast,zQr]
    obtain ⟨hx,rfl⟩:=hx
    obtain ⟨hy,rfl⟩:=hy
    generalize ints xs=l at *
    generalize ints ys=l' at *
    subst hx
    subst hy
    simp only [RV.wfs,RV.wf,DV.wf,maxLen,zQW] at hwf
    simp only [zQW]
    refine ⟨fun hne=>?_,fun he=>jJX (by simp at he; omega) (by omega) rfl⟩
    have:l≠l':=fun h=>by rw [h] at hne; simp at hne
    simp [this]
end Go.Proofs.Ytlnfgagmiogkgaa
namespace Go.Proofs.Ytlnfgagmiogkgaa
open Go.RowKit
set_option linter.unusedVariables false
set_option linter.unusedSimpArgs false
def gam:Gam where
 pure:=fun f xs=>
  if f=82 then (match xs with | [.agg [.int _ a,.int _ b,.int _ c,.int _ d]]=>some (RV.d (dQ (Rc.valid ⟨a,b,c,d⟩))) | _=>none) else
  if f=58 then (match xs with | [.agg [.int _ a,.int _ b,.int _ c,.int _ d]]=>some (RV.d (dQ (Rc.empty ⟨a,b,c,d⟩))) | _=>none) else
  none
 modes:=fun f=>
  none
 proc:=fun f xs bs=>
  none
 iter:=fun f cs=>
  none
def zYw (a:Int) (b:Int) (c:Int) (d:Int):Ann:=Ann.leaf
theorem zWt (a:Int) (b:Int) (c:Int) (d:Int):vcg Try.prog gam 41 (zQl Try.f82) (zYw a b c d) kn0 (zQN [RV.agg [DV.int .i64 a,DV.int .i64 b,DV.int .i64 c,DV.int .i64 d]]) (post Try.prog Try.f82.results.toList (·=RV.d (DV.bool (Rc.valid ⟨a,b,c,d⟩)))) =
  (let zz0:=(dQ (Rc.valid ⟨a,b,c,d⟩)); (True)∧(True)∧(True)∧(True)∧(True)∧(True)∧(((decide (a≥(-1073741824:Int)))=true→(True)∧(True)∧(True)∧(True)∧(True)∧(((decide (a≤(1073741824:Int)))=true→(True)∧(True)∧(True)∧(True)∧(True)∧(((decide (b≥(-1073741824:Int)))=true→(True)∧(True)∧(True)∧(True)∧(True)∧(((decide (b≤(1073741824:Int)))=true→(True)∧(True)∧(True)∧(True)∧(True)∧(((decide (c≥(-1073741824:Int)))=true→(True)∧(True)∧(True)∧(True)∧(True)∧(((decide (c≤(1073741824:Int)))=true→(True)∧(True)∧(True)∧(True)∧(True)∧(((decide (d≥(-1073741824:Int)))=true→(True)∧(True)∧(True)∧(True)∧(True)∧RV.d (dQ (decide (d≤(1073741824:Int))))=RV.d zz0)∧((decide (d≥(-1073741824:Int)))=(!true)→(True)∧(True)∧RV.d (dQ false)=RV.d zz0)))∧((decide (c≤(1073741824:Int)))=(!true)→(True)∧(True)∧(True)∧(True)∧RV.d (dQ false)=RV.d zz0)))∧((decide (c≥(-1073741824:Int)))=(!true)→(True)∧(True)∧(True)∧(True)∧(True)∧(True)∧RV.d (dQ false)=RV.d zz0)))∧((decide (b≤(1073741824:Int)))=(!true)→(True)∧(True)∧(True)∧(True)∧(True)∧(True)∧(True)∧(True)∧RV.d (dQ false)=RV.d zz0)))∧((decide (b≥(-1073741824:Int)))=(!true)→(True)∧(True)∧(True)∧(True)∧(True)∧(True)∧(True)∧(True)∧(True)∧(True)∧RV.d (dQ false)=RV.d zz0)))∧((decide (a≤(1073741824:Int)))=(!true)→(True)∧(True)∧(True)∧(True)∧(True)∧(True)∧(True)∧(True)∧(True)∧(True)∧(True)∧(True)∧RV.d (dQ false)=RV.d zz0)))∧((decide (a≥(-1073741824:Int)))=(!true)→(True)∧(True)∧(True)∧(True)∧(True)∧(True)∧(True)∧(True)∧(True)∧(True)∧(True)∧(True)∧(True)∧(True)∧RV.d (dQ false)=RV.d zz0))):=by kernel_rfl
theorem zVD (a:Int) (b:Int) (c:Int) (d:Int):Ans Try.prog 82 [RV.agg [DV.int .i64 a,DV.int .i64 b,DV.int .i64 c,DV.int .i64 d]] (RV.d (DV.bool (Rc.valid ⟨a,b,c,d⟩))):=
  zQf (Γ:=gam) (zYw a b c d) zQq Try.func82 rfl (Nat.le_of_ble_eq_true rfl) fun hwf=>by
    refine Eq.mpr (zWt a b c d) ?_
    delta dQ
    simp only [true_and,and_true,RV.d.injEq,RV.agg.injEq,RV.tup.injEq,DV.bool.injEq,DV.int.injEq,List.cons.injEq,forall_const,Bool.not_false,Bool.not_true,Bool.not_eq_true',Bool.not_eq_false']
    grind [Rc.valid,okC]
def zVn (a:Int) (b:Int) (c:Int) (d:Int):Ann:=Ann.leaf
theorem jQU (a:Int) (b:Int) (c:Int) (d:Int):vcg Try.prog gam 20 (zQl Try.f58) (zVn a b c d) kn0 (zQN [RV.agg [DV.int .i64 a,DV.int .i64 b,DV.int .i64 c,DV.int .i64 d]]) (post Try.prog Try.f58.results.toList (·=RV.d (DV.bool (Rc.empty ⟨a,b,c,d⟩)))) =
  (let zz0:=(dQ (Rc.empty ⟨a,b,c,d⟩)); (True)∧(True)∧(True)∧(Ans Try.prog 82 [RV.agg [dJ a,dJ b,dJ c,dJ d]] (RV.d (dQ (Rc.valid ⟨a,b,c,d⟩))))∧(True)∧(True)∧(((!(Rc.valid ⟨a,b,c,d⟩))=false→(True)∧(True)∧(True)∧(True)∧(True)∧(True)∧(True)∧(((decide (a≥c))=false→(True)∧(True)∧(True)∧(True)∧(True)∧(True)∧(True)∧RV.d (dQ (decide (b≥d)))=RV.d zz0)∧((decide (a≥c))=(!false)→(True)∧(True)∧RV.d (dQ true)=RV.d zz0)))∧((!(Rc.valid ⟨a,b,c,d⟩))=(!false)→(True)∧(True)∧(True)∧(True)∧RV.d (dQ true)=RV.d zz0))):=by kernel_rfl
theorem zHY (a:Int) (b:Int) (c:Int) (d:Int):Ans Try.prog 58 [RV.agg [DV.int .i64 a,DV.int .i64 b,DV.int .i64 c,DV.int .i64 d]] (RV.d (DV.bool (Rc.empty ⟨a,b,c,d⟩))):=
  zQf (Γ:=gam) (zVn a b c d) zQq Try.func58 rfl (Nat.le_of_ble_eq_true rfl) fun hwf=>by
    refine Eq.mpr (jQU a b c d) ?_
    delta dJ dQ
    simp only [true_and,and_true,RV.d.injEq,RV.agg.injEq,RV.tup.injEq,DV.bool.injEq,DV.int.injEq,List.cons.injEq,forall_const,Bool.not_false,Bool.not_true,Bool.not_eq_true',Bool.not_eq_false',zVD,zQr]
    grind [Rc.empty]
end Go.Proofs.Ytlnfgagmiogkgaa
namespace Go.Proofs.Ytlnfgagmiogkgaa
open Go.RowKit
set_option linter.unusedVariables false
set_option linter.unusedSimpArgs false
attribute [local irreducible] Ans AnsO AnsG AnsN AnsI
def cntS (r:Rc) (w h:Int):Int × Int × Bool:=
  if r.empty then (0,0,false)
  else if w < 1∨IntKind.wrap .i64 (r.c - r.a) < w∨h < 1∨IntKind.wrap .i64 (r.d - r.b) < h then (0,0,false)
  else (IntKind.wrap .i64 (Int.tdiv (IntKind.wrap .i64 (IntKind.wrap .i64 (IntKind.wrap .i64 (r.c - r.a)+w) - 1)) w),IntKind.wrap .i64 (Int.tdiv (IntKind.wrap .i64 (IntKind.wrap .i64 (IntKind.wrap .i64 (r.d - r.b)+h) - 1)) h),true)
end Go.Proofs.Ytlnfgagmiogkgaa
namespace Go.Proofs.Ytlnfgagmiogkgaa
open Go.RowKit
set_option linter.unusedVariables false
set_option linter.unusedSimpArgs false
set_option maxRecDepth 4000
def Im.ds (m:Im):List DV:=[.int .i64 m.w,.int .i64 m.h,.bool m.so,.int .u16 m.c.a,.int .u16 m.c.b,.int .u16 m.c.c,.int .u16 m.c.al,.int .u16 m.c.f,.int .i64 m.p0.w,.int .i64 m.p0.h,.int .i64 m.p0.s,.sl m.p0.n m.p0.xs,.int .i64 m.p1.w,.int .i64 m.p1.h,.int .i64 m.p1.s,.sl m.p1.n m.p1.xs,.int .i64 m.p2.w,.int .i64 m.p2.h,.int .i64 m.p2.s,.sl m.p2.n m.p2.xs,.int .i64 m.p3.w,.int .i64 m.p3.h,.int .i64 m.p3.s,.sl m.p3.n m.p3.xs,.int .i64 m.p4.w,.int .i64 m.p4.h,.int .i64 m.p4.s,.sl m.p4.n m.p4.xs]
theorem Im.ds_len (m:Im):m.ds.length=28:=rfl
def ims (l:List Im):List DV:=l.flatMap Im.ds
theorem zZk (l:List Im):(ims l).length=l.length*28:=by
  induction l with
  | nil=>rfl
  | cons o l ih=>simp only [ims,List.flatMap_cons,List.length_append,List.length_cons] at ih ⊢; rw [ih,Im.ds_len]; omega
theorem jXY (l m:List Im):ims (l++m)=ims l++ims m:=by simp [ims]
theorem jJO (m:Im) (l:List Im):ims (m::l)=m.ds++ims l:=by simp [ims]
theorem jK1 (m:Im):ims [m]=m.ds:=by simp [ims]
theorem jK2 {l:List Im} {k:Nat} (h:k < l.length) (j:Nat) (hj:j < 28):(ims l)[k*28+j]?=l[k].ds[j]?:=by
  induction l generalizing k with
  | nil=>simp at h
  | cons o l ih=>
    rw [jJO]
    cases k with
    | zero=>simp only [List.getElem_cons_zero]; rw [List.getElem?_append_left (by rw [Im.ds_len]; omega)]; simp
    | succ k=>
      rw [List.getElem?_append_right (by rw [Im.ds_len]; omega)]
      have:=ih (k:=k) (by simpa using h)
      simp only [List.getElem_cons_succ]
      rw [← this]
      congr 1
      rw [Im.ds_len]; omega
theorem zVX {l:List Im} {k:Nat} (h:k < l.length):(ims l)[k*28]?=some (.int .i64 l[k].w)∧(ims l)[k*28+1]?=some (.int .i64 l[k].h)∧(ims l)[k*28+1+1]?=some (.bool l[k].so)∧(ims l)[k*28+1+1+1]?=some (.int .u16 l[k].c.a)∧(ims l)[k*28+1+1+1+1]?=some (.int .u16 l[k].c.b)∧(ims l)[k*28+1+1+1+1+1]?=some (.int .u16 l[k].c.c)∧(ims l)[k*28+1+1+1+1+1+1]?=some (.int .u16 l[k].c.al)∧(ims l)[k*28+1+1+1+1+1+1+1]?=some (.int .u16 l[k].c.f)∧(ims l)[k*28+1+1+1+1+1+1+1+1]?=some (.int .i64 l[k].p0.w)∧(ims l)[k*28+1+1+1+1+1+1+1+1+1]?=some (.int .i64 l[k].p0.h)∧(ims l)[k*28+1+1+1+1+1+1+1+1+1+1]?=some (.int .i64 l[k].p0.s)∧(ims l)[k*28+1+1+1+1+1+1+1+1+1+1+1]?=some (.sl l[k].p0.n l[k].p0.xs)∧(ims l)[k*28+1+1+1+1+1+1+1+1+1+1+1+1]?=some (.int .i64 l[k].p1.w)∧(ims l)[k*28+1+1+1+1+1+1+1+1+1+1+1+1+1]?=some (.int .i64 l[k].p1.h)∧(ims l)[k*28+1+1+1+1+1+1+1+1+1+1+1+1+1+1]?=some (.int .i64 l[k].p1.s)∧(ims l)[k*28+1+1+1+1+1+1+1+1+1+1+1+1+1+1+1]?=some (.sl l[k].p1.n l[k].p1.xs)∧(ims l)[k*28+1+1+1+1+1+1+1+1+1+1+1+1+1+1+1+1]?=some (.int .i64 l[k].p2.w)∧(ims l)[k*28+1+1+1+1+1+1+1+1+1+1+1+1+1+1+1+1+1]?=some (.int .i64 l[k].p2.h)∧(ims l)[k*28+1+1+1+1+1+1+1+1+1+1+1+1+1+1+1+1+1+1]?=some (.int .i64 l[k].p2.s)∧(ims l)[k*28+1+1+1+1+1+1+1+1+1+1+1+1+1+1+1+1+1+1+1]?=some (.sl l[k].p2.n l[k].p2.xs)∧(ims l)[k*28+1+1+1+1+1+1+1+1+1+1+1+1+1+1+1+1+1+1+1+1]?=some (.int .i64 l[k].p3.w)∧(ims l)[k*28+1+1+1+1+1+1+1+1+1+1+1+1+1+1+1+1+1+1+1+1+1]?=some (.int .i64 l[k].p3.h)∧(ims l)[k*28+1+1+1+1+1+1+1+1+1+1+1+1+1+1+1+1+1+1+1+1+1+1]?=some (.int .i64 l[k].p3.s)∧(ims l)[k*28+1+1+1+1+1+1+1+1+1+1+1+1+1+1+1+1+1+1+1+1+1+1+1]?=some (.sl l[k].p3.n l[k].p3.xs)∧(ims l)[k*28+1+1+1+1+1+1+1+1+1+1+1+1+1+1+1+1+1+1+1+1+1+1+1+1]?=some (.int .i64 l[k].p4.w)∧(ims l)[k*28+1+1+1+1+1+1+1+1+1+1+1+1+1+1+1+1+1+1+1+1+1+1+1+1+1]?=some (.int .i64 l[k].p4.h)∧(ims l)[k*28+1+1+1+1+1+1+1+1+1+1+1+1+1+1+1+1+1+1+1+1+1+1+1+1+1+1]?=some (.int .i64 l[k].p4.s)∧(ims l)[k*28+1+1+1+1+1+1+1+1+1+1+1+1+1+1+1+1+1+1+1+1+1+1+1+1+1+1+1]?=some (.sl l[k].p4.n l[k].p4.xs):=by
  have g:=fun j hj=>jK2 h j hj
  exact ⟨g 0 (by omega),g 1 (by omega),g 2 (by omega),g 3 (by omega),g 4 (by omega),g 5 (by omega),g 6 (by omega),g 7 (by omega),g 8 (by omega),g 9 (by omega),g 10 (by omega),g 11 (by omega),g 12 (by omega),g 13 (by omega),g 14 (by omega),g 15 (by omega),g 16 (by omega),g 17 (by omega),g 18 (by omega),g 19 (by omega),g 20 (by omega),g 21 (by omega),g 22 (by omega),g 23 (by omega),g 24 (by omega),g 25 (by omega),g 26 (by omega),g 27 (by omega)⟩
theorem zVY {l:List Im} {k:Nat} (h:k < l.length):nAt (ims l) (k*28)=l[k].w∧nAt (ims l) (k*28+1)=l[k].h∧bAt (ims l) (k*28+1+1)=l[k].so∧nAt (ims l) (k*28+1+1+1)=l[k].c.a∧nAt (ims l) (k*28+1+1+1+1)=l[k].c.b∧nAt (ims l) (k*28+1+1+1+1+1)=l[k].c.c∧nAt (ims l) (k*28+1+1+1+1+1+1)=l[k].c.al∧nAt (ims l) (k*28+1+1+1+1+1+1+1)=l[k].c.f∧nAt (ims l) (k*28+1+1+1+1+1+1+1+1)=l[k].p0.w∧nAt (ims l) (k*28+1+1+1+1+1+1+1+1+1)=l[k].p0.h∧nAt (ims l) (k*28+1+1+1+1+1+1+1+1+1+1)=l[k].p0.s∧lAt (ims l) (k*28+1+1+1+1+1+1+1+1+1+1+1)=l[k].p0.n∧cAt (ims l) (k*28+1+1+1+1+1+1+1+1+1+1+1)=l[k].p0.xs∧nAt (ims l) (k*28+1+1+1+1+1+1+1+1+1+1+1+1)=l[k].p1.w∧nAt (ims l) (k*28+1+1+1+1+1+1+1+1+1+1+1+1+1)=l[k].p1.h∧nAt (ims l) (k*28+1+1+1+1+1+1+1+1+1+1+1+1+1+1)=l[k].p1.s∧lAt (ims l) (k*28+1+1+1+1+1+1+1+1+1+1+1+1+1+1+1)=l[k].p1.n∧cAt (ims l) (k*28+1+1+1+1+1+1+1+1+1+1+1+1+1+1+1)=l[k].p1.xs∧nAt (ims l) (k*28+1+1+1+1+1+1+1+1+1+1+1+1+1+1+1+1)=l[k].p2.w∧nAt (ims l) (k*28+1+1+1+1+1+1+1+1+1+1+1+1+1+1+1+1+1)=l[k].p2.h∧nAt (ims l) (k*28+1+1+1+1+1+1+1+1+1+1+1+1+1+1+1+1+1+1)=l[k].p2.s∧lAt (ims l) (k*28+1+1+1+1+1+1+1+1+1+1+1+1+1+1+1+1+1+1+1)=l[k].p2.n∧cAt (ims l) (k*28+1+1+1+1+1+1+1+1+1+1+1+1+1+1+1+1+1+1+1)=l[k].p2.xs∧nAt (ims l) (k*28+1+1+1+1+1+1+1+1+1+1+1+1+1+1+1+1+1+1+1+1)=l[k].p3.w∧nAt (ims l) (k*28+1+1+1+1+1+1+1+1+1+1+1+1+1+1+1+1+1+1+1+1+1)=l[k].p3.h∧nAt (ims l) (k*28+1+1+1+1+1+1+1+1+1+1+1+1+1+1+1+1+1+1+1+1+1+1)=l[k].p3.s∧lAt (ims l) (k*28+1+1+1+1+1+1+1+1+1+1+1+1+1+1+1+1+1+1+1+1+1+1+1)=l[k].p3.n∧cAt (ims l) (k*28+1+1+1+1+1+1+1+1+1+1+1+1+1+1+1+1+1+1+1+1+1+1+1)=l[k].p3.xs∧nAt (ims l) (k*28+1+1+1+1+1+1+1+1+1+1+1+1+1+1+1+1+1+1+1+1+1+1+1+1)=l[k].p4.w∧nAt (ims l) (k*28+1+1+1+1+1+1+1+1+1+1+1+1+1+1+1+1+1+1+1+1+1+1+1+1+1)=l[k].p4.h∧nAt (ims l) (k*28+1+1+1+1+1+1+1+1+1+1+1+1+1+1+1+1+1+1+1+1+1+1+1+1+1+1)=l[k].p4.s∧lAt (ims l) (k*28+1+1+1+1+1+1+1+1+1+1+1+1+1+1+1+1+1+1+1+1+1+1+1+1+1+1+1)=l[k].p4.n∧cAt (ims l) (k*28+1+1+1+1+1+1+1+1+1+1+1+1+1+1+1+1+1+1+1+1+1+1+1+1+1+1+1)=l[k].p4.xs:=by
  obtain ⟨e0,e1,e2,e3,e4,e5,e6,e7,e8,e9,e10,e11,e12,e13,e14,e15,e16,e17,e18,e19,e20,e21,e22,e23,e24,e25,e26,e27⟩:=zVX h
  simp only [nAt,bAt,lAt,cAt,e0,e1,e2,e3,e4,e5,e6,e7,e8,e9,e10,e11,e12,e13,e14,e15,e16,e17,e18,e19,e20,e21,e22,e23,e24,e25,e26,e27,and_self]
def imAt (xs:List DV) (i:Nat):Im:=⟨nAt xs i,nAt xs (i+1),bAt xs (i+2),⟨nAt xs (i+3),nAt xs (i+4),nAt xs (i+5),nAt xs (i+6),nAt xs (i+7)⟩,⟨nAt xs (i+8),nAt xs (i+9),nAt xs (i+10),lAt xs (i+11),cAt xs (i+11)⟩,⟨nAt xs (i+12),nAt xs (i+13),nAt xs (i+14),lAt xs (i+15),cAt xs (i+15)⟩,⟨nAt xs (i+16),nAt xs (i+17),nAt xs (i+18),lAt xs (i+19),cAt xs (i+19)⟩,⟨nAt xs (i+20),nAt xs (i+21),nAt xs (i+22),lAt xs (i+23),cAt xs (i+23)⟩,⟨nAt xs (i+24),nAt xs (i+25),nAt xs (i+26),lAt xs (i+27),cAt xs (i+27)⟩⟩
theorem jJP {l:List Im} {k:Nat} (h:k < l.length):imAt (ims l) (k*28)=l[k]:=by
  have e:=zVY h
  simp only [imAt,show k*28+2=k*28+1+1 from rfl,show k*28+3=k*28+1+1+1 from rfl,show k*28+4=k*28+1+1+1+1 from rfl,show k*28+5=k*28+1+1+1+1+1 from rfl,show k*28+6=k*28+1+1+1+1+1+1 from rfl,show k*28+7=k*28+1+1+1+1+1+1+1 from rfl,show k*28+8=k*28+1+1+1+1+1+1+1+1 from rfl,show k*28+9=k*28+1+1+1+1+1+1+1+1+1 from rfl,show k*28+10=k*28+1+1+1+1+1+1+1+1+1+1 from rfl,show k*28+11=k*28+1+1+1+1+1+1+1+1+1+1+1 from rfl,show k*28+12=k*28+1+1+1+1+1+1+1+1+1+1+1+1 from rfl,show k*28+13=k*28+1+1+1+1+1+1+1+1+1+1+1+1+1 from rfl,show k*28+14=k*28+1+1+1+1+1+1+1+1+1+1+1+1+1+1 from rfl,show k*28+15=k*28+1+1+1+1+1+1+1+1+1+1+1+1+1+1+1 from rfl,show k*28+16=k*28+1+1+1+1+1+1+1+1+1+1+1+1+1+1+1+1 from rfl,show k*28+17=k*28+1+1+1+1+1+1+1+1+1+1+1+1+1+1+1+1+1 from rfl,show k*28+18=k*28+1+1+1+1+1+1+1+1+1+1+1+1+1+1+1+1+1+1 from rfl,show k*28+19=k*28+1+1+1+1+1+1+1+1+1+1+1+1+1+1+1+1+1+1+1 from rfl,show k*28+20=k*28+1+1+1+1+1+1+1+1+1+1+1+1+1+1+1+1+1+1+1+1 from rfl,show k*28+21=k*28+1+1+1+1+1+1+1+1+1+1+1+1+1+1+1+1+1+1+1+1+1 from rfl,show k*28+22=k*28+1+1+1+1+1+1+1+1+1+1+1+1+1+1+1+1+1+1+1+1+1+1 from rfl,show k*28+23=k*28+1+1+1+1+1+1+1+1+1+1+1+1+1+1+1+1+1+1+1+1+1+1+1 from rfl,show k*28+24=k*28+1+1+1+1+1+1+1+1+1+1+1+1+1+1+1+1+1+1+1+1+1+1+1+1 from rfl,show k*28+25=k*28+1+1+1+1+1+1+1+1+1+1+1+1+1+1+1+1+1+1+1+1+1+1+1+1+1 from rfl,show k*28+26=k*28+1+1+1+1+1+1+1+1+1+1+1+1+1+1+1+1+1+1+1+1+1+1+1+1+1+1 from rfl,show k*28+27=k*28+1+1+1+1+1+1+1+1+1+1+1+1+1+1+1+1+1+1+1+1+1+1+1+1+1+1+1 from rfl,e]
def zQv (xs:List DV):List Im:=(List.range (xs.length / 28)).map fun k=>imAt xs (k*28)
theorem zXM (l:List Im):zQv (ims l)=l:=by
  have e:(ims l).length / 28=l.length:=by rw [zZk]; omega
  unfold zQv
  rw [e]
  refine List.ext_getElem (by simp) fun i h1 h2=>?_
  simp only [List.getElem_map,List.getElem_range]
  exact jJP h2
def jVY (n:Nat) (xs:List DV):Prop:=(xs=ims (zQv xs)∧n=(zQv xs).length)∧∀ m∈zQv xs,m.isU
theorem jVY.of {n:Nat} {xs:List DV} (h:jVY n xs):∃ l:List Im,(∀ m∈l,m.isU)∧xs=ims l∧n=l.length:=⟨zQv xs,h.2,h.1.1,h.1.2⟩
def jV2 (n:Nat) (xs:List DV):Prop:=xs=ops (zQp xs)∧n=(zQp xs).length
theorem zUb (o:Oq):ops [o]=o.cells:=by simp [ops]
def gOff (n c:Int):Int:=if modS n 3=0 then c else c+modS (IntKind.wrap .i64 (Int.tdiv n 3)) 9 - 4
structure Rw where
  k:Int
  im:Int
  x:Int
  y:Int
  ma:Int
  mx:Int
  my:Int
  op:Int
  ope:Int
  mo:Int
  fl:Int
def gOp (r:Rw) (push:Bool) (n:Int) (c:Rc) (free:Bool) (most:Int):Oq:=
  let m:=decide (modS r.ma 4=0)
  ⟨if push then 2 else 1,if push then 0 else modS r.im n,if push then 0 else gOff r.x c.a,if push then 0 else gOff r.y c.b,
    if m then 1+modS (IntKind.wrap .i64 (Int.tdiv r.ma 4)) n else 0,if m then gOff r.mx c.a else 0,if m then gOff r.my c.b else 0,
    if modS r.op 2=0 then zQn (IntKind.wrap .i64 (Int.tdiv r.op 2)) most else most,
    if free && decide (modS r.ope 2=0) then 1+modS (IntKind.wrap .i64 (Int.tdiv r.ope 2)) 12 else 4,
    if modS r.mo 2=0 then 1+modS (IntKind.wrap .i64 (Int.tdiv r.mo 2)) 12 else 1,
    push && decide (modS r.fl 2=0),push && decide (modS (IntKind.wrap .i64 (Int.tdiv r.fl 2)) 3=0)⟩
def rwAt (xs:List DV) (i:Nat):Rw:=⟨nAt xs i,nAt xs (i+1),nAt xs (i+2),nAt xs (i+3),nAt xs (i+4),nAt xs (i+5),nAt xs (i+6),nAt xs (i+7),nAt xs (i+8),nAt xs (i+9),nAt xs (i+10)⟩
structure Scn where
  b:Int
  x:Int
  y:Int
  w:Int
  h:Int
  tw:Int
  th:Int
  on:Nat
  oxs:List DV
  pn:Nat
  pxs:List DV
  rn:Nat
  rxs:List DV
def Scn.c (s:Scn):Rc:=⟨modS s.x 13 - 6,modS s.y 13 - 6,modS s.x 13 - 6+(1+modS s.w 5),modS s.y 13 - 6+(1+modS s.h 4)⟩
def Scn.gw (s:Scn):Int:=1+modS s.w 5
def Scn.gh (s:Scn):Int:=1+modS s.h 4
def Scn.gtw (s:Scn):Int:=1+modS s.tw s.gw
def Scn.gth (s:Scn):Int:=1+modS s.th s.gh
def Scn.most (s:Scn):Int:=gMax s.b
def Scn.bits (s:Scn):Int:=if s.most > 255 then 16 else 8
def Scn.tiles (s:Scn):Int:=IntKind.wrap .i64 ((cntS s.c s.gtw s.gth).1*(cntS s.c s.gtw s.gth).2.1)
def Scn.ord (s:Scn):List Int:=zZO (ints s.oxs) s.tiles
def Scn.pic (s:Scn) (k:Nat):Im:=zQg (nAt s.pxs (k*5)) (nAt s.pxs (k*5+1)) (nAt s.pxs (k*5+2)) (nAt s.pxs (k*5+3)) (lAt s.pxs (k*5+4)) (cAt s.pxs (k*5+4)) s.c.a s.c.b s.c.c s.c.d s.most
def Scn.pics (s:Scn) (k:Nat):List Im:=(List.range k).map s.pic
def Scn.solo (s:Scn):Im:=zQa s.gw s.gh ⟨s.most,0,0,s.most,s.most⟩
def Scn.ims (s:Scn):List Im:=if min s.pn 4=0 then [s.solo] else s.pics (min s.pn 4)
def Scn.step (s:Scn) (r:Rw) (z:List Oq × List Oq):List Oq × List Oq:=
  if modS r.k 8=0∧0 < z.2.length then (z.1++[popO],z.2.dropLast)
  else
    let o:=gOp r (decide (modS r.k 8 < 3)) s.ims.length s.c (ctxB z.2) s.most
    (z.1++[o],if modS r.k 8 < 3 then z.2++[o] else z.2)
def Scn.run (s:Scn):Nat→List Oq × List Oq
  | 0=>([],[])
  | k+1=>s.step (rwAt s.rxs (k*11)) (s.run k)
def Scn.ops (s:Scn):List Oq:=(s.run (min s.rn 9)).1++List.replicate (s.run (min s.rn 9)).2.length popO
def jKt (n:Nat) (xs:List DV):Prop:=xs.length=n*5∧∀ k,k < n→xs[k*5]?=some (.int .i64 (nAt xs (k*5)))∧xs[k*5+1]?=some (.int .i64 (nAt xs (k*5+1)))∧xs[k*5+1+1]?=some (.int .i64 (nAt xs (k*5+1+1)))∧xs[k*5+1+1+1]?=some (.int .i64 (nAt xs (k*5+1+1+1)))∧xs[k*5+1+1+1+1]?=some (.sl (lAt xs (k*5+1+1+1+1)) (cAt xs (k*5+1+1+1+1)))∧Is5 (lAt xs (k*5+1+1+1+1)) (cAt xs (k*5+1+1+1+1))
def jVW (n:Nat) (xs:List DV):Prop:=xs.length=n*11∧∀ i,i < n*11→xs[i]?=some (.int .i64 (nAt xs i))
def Scn.ok (s:Scn):Prop:=(s.oxs=is (ints s.oxs)∧s.on=s.oxs.length)∧jKt s.pn s.pxs∧jVW s.rn s.rxs
theorem Scn.facts (s:Scn):(0≤modS s.x 13∧modS s.x 13 < 13)∧(0≤modS s.y 13∧modS s.y 13 < 13)∧(1≤s.gw∧s.gw≤5)∧(1≤s.gh∧s.gh≤4)∧(1≤s.gtw∧s.gtw≤s.gw)∧(1≤s.gth∧s.gth≤s.gh):=by
  have a:=@zQ6 s.x 13 (by omega) (by omega)
  have b:=@zQ6 s.y 13 (by omega) (by omega)
  have c:=@zQ6 s.w 5 (by omega) (by omega)
  have d:=@zQ6 s.h 4 (by omega) (by omega)
  have e:1≤s.gw∧s.gw≤5:=by unfold Scn.gw; omega
  have f:1≤s.gh∧s.gh≤4:=by unfold Scn.gh; omega
  have g:=@zQ6 s.tw s.gw (by omega) (by omega)
  have h:=@zQ6 s.th s.gh (by omega) (by omega)
  exact ⟨a,b,e,f,by unfold Scn.gtw; omega,by unfold Scn.gth; omega⟩
theorem Scn.pics_succ (s:Scn) (k:Nat):s.pics (k+1)=s.pics k++[s.pic k]:=by simp [Scn.pics,List.range_succ]
theorem Scn.pics_len (s:Scn) (k:Nat):(s.pics k).length=k:=by simp [Scn.pics]
theorem Scn.ims_len (s:Scn):1≤s.ims.length∧s.ims.length≤4:=by
  unfold Scn.ims
  split
  · simp
  · rw [Scn.pics_len]; omega
theorem Scn.run_len (s:Scn) (k:Nat):(s.run k).1.length=k∧(s.run k).2.length≤k:=by
  induction k with
  | zero=>simp [Scn.run]
  | succ k ih=>
    simp only [Scn.run,Scn.step]
    split
    · simp; omega
    · simp only []
      split <;> simp <;> omega
theorem Scn.most_in (s:Scn):s.most=255∨s.most=65535:=by
  unfold Scn.most gMax
  split <;> simp
theorem Scn.ims_isU (s:Scn):∀ m∈s.ims,m.isU:=by
  intro m hm
  unfold Scn.ims at hm
  split at hm
  · rw [List.mem_singleton] at hm; subst hm; exact zKs _ _ _
  · simp only [Scn.pics,List.mem_map] at hm
    obtain ⟨k,_,rfl⟩:=hm
    exact jX2 _ _ _ _ _ _ _ _ _ _ _
theorem Scn.c_facts (s:Scn):s.c.c - s.c.a=s.gw∧s.c.d - s.c.b=s.gh ∧ -6≤s.c.a∧s.c.a≤6 ∧ -6≤s.c.b∧s.c.b≤6:=by
  have:=s.facts
  simp only [Scn.c,Scn.gw,Scn.gh] at this ⊢
  omega
theorem Scn.bits_of (s:Scn):(gMax s.b > 255→16=s.bits)∧(¬ gMax s.b > 255→8=s.bits):=by
  unfold Scn.bits Scn.most
  exact ⟨fun h=>by rw [if_pos h],fun h=>by rw [if_neg h]⟩
theorem cnt1 {n w:Int} (h:1≤w) (hw:w≤n) (hn:n≤5):1≤IntKind.wrap .i64 (Int.tdiv (IntKind.wrap .i64 (IntKind.wrap .i64 (IntKind.wrap .i64 n+w) - 1)) w)∧IntKind.wrap .i64 (Int.tdiv (IntKind.wrap .i64 (IntKind.wrap .i64 (IntKind.wrap .i64 n+w) - 1)) w)≤n:=by
  rw [IntWalk.i64_in n ⟨by omega,by omega⟩,IntWalk.i64_in (n+w) ⟨by omega,by omega⟩,IntWalk.i64_in (n+w - 1) ⟨by omega,by omega⟩,Int.tdiv_eq_ediv_of_nonneg (by omega)]
  have:1≤(n+w - 1) / w∧(n+w - 1) / w≤n:=by
    rcases (show w=1∨w=2∨w=3∨w=4∨w=5 by omega) with rfl | rfl | rfl | rfl | rfl <;> omega
  rw [IntWalk.i64_in _ ⟨by omega,by omega⟩]
  exact this
theorem Scn.cnt (s:Scn):(cntS s.c s.gtw s.gth).2.2=true∧(1≤(cntS s.c s.gtw s.gth).1∧(cntS s.c s.gtw s.gth).1≤5)∧1≤(cntS s.c s.gtw s.gth).2.1∧(cntS s.c s.gtw s.gth).2.1≤4:=by
  obtain ⟨f1,f2,f3,f4,f5,f6⟩:=s.facts
  have CF:=s.c_facts
  have he:Rc.empty s.c=false:=by
    rw [Rc.empty_iff]; omega
  unfold cntS
  rw [he,if_neg (by simp),CF.1,CF.2.1,if_neg (by rw [IntWalk.i64_in _ ⟨by omega,by omega⟩,IntWalk.i64_in _ ⟨by omega,by omega⟩]; omega)]
  have a:=cnt1 f5.1 f5.2 (by omega)
  have b:=cnt1 f6.1 f6.2 (by omega)
  exact ⟨rfl,⟨a.1,Int.le_trans a.2 (by omega)⟩,b.1,Int.le_trans b.2 (by omega)⟩
theorem Scn.tiles_in (s:Scn):0≤s.tiles∧s.tiles≤20:=by
  obtain ⟨_,a,b⟩:=s.cnt
  unfold Scn.tiles
  generalize (cntS s.c s.gtw s.gth).1=x at *
  generalize (cntS s.c s.gtw s.gth).2.1=y at *
  have h1:0≤x*y:=Int.mul_nonneg (by omega) (by omega)
  have h2:x*y≤5*4:=Int.mul_le_mul a.2 b.2 (by omega) (by omega)
  rw [IntWalk.i64_in _ ⟨by omega,by omega⟩]
  omega
theorem Scn.run_pop {s:Scn} {k:Nat} (h:modS (rwAt s.rxs (k*11)).k 8=0∧0 < (s.run k).2.length):s.run (k+1)=((s.run k).1++[popO],(s.run k).2.dropLast):=by
  simp only [Scn.run,Scn.step]
  rw [if_pos h]
theorem Scn.run_op {s:Scn} {k:Nat} (h:¬ (modS (rwAt s.rxs (k*11)).k 8=0∧0 < (s.run k).2.length)) {o:Oq} (ho:o=gOp (rwAt s.rxs (k*11)) (decide (modS (rwAt s.rxs (k*11)).k 8 < 3)) s.ims.length s.c (ctxB (s.run k).2) s.most) :
    (o.kind=2→s.run (k+1)=((s.run k).1++[o],(s.run k).2++[o]))∧(o.kind≠2→s.run (k+1)=((s.run k).1++[o],(s.run k).2)):=by
  have e:s.run (k+1)=((s.run k).1++[o],if modS (rwAt s.rxs (k*11)).k 8 < 3 then (s.run k).2++[o] else (s.run k).2):=by
    simp only [Scn.run,Scn.step]
    rw [if_neg h,← ho]
  have hk:o.kind=if modS (rwAt s.rxs (k*11)).k 8 < 3 then 2 else 1:=by
    rw [ho]
    simp [gOp]
  rw [e,hk]
  split <;> simp
theorem jJg {l:List Oq} (h:0 < l.length):ctxB l=(l[l.length - 1].iso && !l[l.length - 1].kno):=by
  unfold ctxB
  rw [List.getLast?_eq_getElem?,List.getElem?_eq_getElem (by omega)]
end Go.Proofs.Ytlnfgagmiogkgaa
