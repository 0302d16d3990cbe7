/-
  Part 2 of what BoundsOutsideNothingHappens rests on.
-/
import Derived.Test.YthjaljiamllaeaaGreatDoorBoundsOutsideNothingHappensZ1
import Derived.Test.YthjaljiamllaeaaGreatDoorProg
import Derived.ProofKit
namespace Go.Proofs.YthjaljiamllaeaaGreatDoor
open Go.RowKit
set_option linter.unusedVariables false
set_option linter.unusedSimpArgs false
set_option maxRecDepth 20000
section
variable (P:Program) (Γ:Gam) (n:Dom) (ops:Array Oper)
def gv (s:AS) (o:Oper):Option Bool:=
 match o.guard with
 | none=>some true
 | some (j,want)=>match (ops[j]?).bind (·.dst) with
  | none=>none
  | some t=>match s.tm t with
   | .tup []=>some false
   | x=>x.bool?.map (·==want)
def zKz (i:Nat) (s:AS):Option (Prop × AS):=
 match ops[i]? with
 | none=>none
 | some o=>match gv ops s o with
  | none=>none
  | some true=>aop P Γ n o s
  | some false=>if jQf n o then some (True,s.put o.dst (.tup [])) else none
def touch (i:Nat) (s:AS):List Nat × List Nat:=
 match ops[i]? with
 | none=>([],[])
 | some o=>match gv ops s o with
  | some true=>match zKs P Γ o s.eval with
   | some e=>e.touch s.bx
   | none=>([],[])
  | _=>([],[])
def Runs (τ:Nat→List Nat × List Nat):List Nat→AS→AS→Prop
 | [],s,s'=>s=s'
 | i::R,s,s'=>∃ vc s1,zKz P Γ n ops i s=some (vc,s1)∧vc∧touch P Γ ops i s=τ i∧Runs τ R s1 s'
def jJO (x y:List Nat × List Nat):Bool:=
 (x.2.all fun b=>!y.1.contains b && !y.2.contains b) && (y.2.all fun b=>!x.1.contains b)
def jYf (τ:Nat→List Nat × List Nat) (i j:Nat):Bool:=
 match ops[i]?,ops[j]? with
 | some x,some y=>x.apart ops y && jJO (τ i) (τ j)
 | _,_=>false
end
section
variable {P:Program} {Γ:Gam} {n:Dom} {ops:Array Oper}
theorem zWB (s:AS) (d:Option Nat) (v:AV) (t:Nat) (h:d≠some t):(s.put d v).tm t=s.tm t:=by
 cases d with
 | none=>rfl
 | some d=>simp only [AS.put]; rw [if_neg (fun e=>h (by rw [e]))]
theorem zVF (s:AS) (d:Option Nat) (v:AV):(s.put d v).bx=s.bx:=by cases d <;> rfl
theorem zZn:∀ (bs:List Nat) (Bs:List Bx) (s:AS) (b:Nat),b ∉ bs→(s.setBs bs Bs).bx b=s.bx b
 | [],_,_,_,_=>by simp [AS.setBs]
 | _::_,[],_,_,_=>by simp [AS.setBs]
 | x::bs,B::Bs,s,b,h=>by
  rw [AS.setBs,zZn bs Bs _ b (fun e=>h (by simp [e]))]
  simp only [AS.setB]
  rw [if_neg (fun e=>h (by simp [e]))]
theorem zXH:∀ (bs:List Nat) (Bs:List Bx) (s s':AS) (b:Nat),(b ∉ bs→s.bx b=s'.bx b)→(Bs.length < bs.length→s.bx b=s'.bx b)→(s.setBs bs Bs).bx b=(s'.setBs bs Bs).bx b
 | [],_,_,_,_,h,_=>by simpa [AS.setBs] using h (by simp)
 | _::_,[],_,_,_,_,h=>by simpa [AS.setBs] using h (by simp)
 | x::bs,B::Bs,s,s',b,h,h'=>by
  rw [AS.setBs,AS.setBs]
  by_cases e:b=x
  ·refine zXH bs Bs _ _ b (fun _=>by simp [AS.setB,e]) (fun _=>by simp [AS.setB,e])
  ·refine zXH bs Bs _ _ b (fun hb=>?_) (fun hl=>?_)
   ·simp only [AS.setB,if_neg e]; exact h (by simp [e,hb])
   ·simp only [AS.setB,if_neg e]; exact h' (by simpa using hl)
theorem jXp {i:Nat} {s s1:AS} {vc:Prop} (h:zKz P Γ n ops i s=some (vc,s1)):∃ o v wrs bs,ops[i]?=some o∧wrs=(touch P Γ ops i s).2∧s1=(s.setBs wrs bs).put o.dst v:=by
 unfold zKz at h
 split at h
 ·cases h
 ·rename_i o ho
  split at h
  ·cases h
  ·rename_i hg
   unfold aop at h
   split at h
   ·split at h
    ·rename_i e he
     split at h
     ·rename_i vc' v ws hf
      simp only [Option.some.injEq,Prod.mk.injEq] at h
      obtain ⟨rfl,rfl⟩:=h
      exact ⟨o,v,ws.map (·.1),ws.map (·.2),ho,by simp [touch,ho,hg,he,Eff2.touch,hf],rfl⟩
     ·cases h
    ·cases h
   ·cases h
  ·rename_i hg
   split at h
   ·simp only [Option.some.injEq,Prod.mk.injEq] at h
    obtain ⟨rfl,rfl⟩:=h
    exact ⟨o,.tup [],[],[],ho,by simp [touch,ho,hg],by simp [AS.setBs]⟩
   ·cases h
theorem zUi {i:Nat} {o:Oper} (ho:ops[i]?=some o) {s s':AS} (htm:∀ t∈o.looksAt ops,s.tm t=s'.tm t) :
  (∀ b∈(touch P Γ ops i s).1,s.bx b=s'.bx b)→touch P Γ ops i s=touch P Γ ops i s'∧(∀ vc s1,zKz P Γ n ops i s=some (vc,s1) →
   ∃ v bs,s1=(s.setBs (touch P Γ ops i s).2 bs).put o.dst v∧zKz P Γ n ops i s'=some (vc,(s'.setBs (touch P Γ ops i s).2 bs).put o.dst v)):=by
 have hgv:gv ops s o=gv ops s' o:=by
  unfold gv
  cases hg:o.guard with
  | none=>rfl
  | some jw=>
   obtain ⟨j,want⟩:=jw
   simp only
   cases ht:(ops[j]?).bind (·.dst) with
   | none=>rfl
   | some t=>
    have:s.tm t=s'.tm t:=htm t (by simp [Oper.looksAt,hg,ht])
    simp only [this]
 have hev:∀ x∈o.op.operands,s.eval x=s'.eval x:=fun x hx=>by
  cases x with
  | tmp t=>exact htm t (by simp only [Oper.looksAt,List.mem_append,List.mem_filterMap]; exact .inl ⟨_,by simpa using hx,rfl⟩)
  | const v=>rfl
  | global g=>rfl
  | func f=>rfl
 have hprep:zKs P Γ o s.eval=zKs P Γ o s'.eval:=jQM hev
 intro hbx
 have htouch:touch P Γ ops i s=touch P Γ ops i s':=by
  simp only [touch,ho,← hgv,← hprep] at hbx ⊢
  cases hg:gv ops s o with
  | none=>rfl
  | some g=>
   cases g with
   | false=>rfl
   | true=>
    rw [hg] at hbx
    cases he:zKs P Γ o s.eval with
    | none=>rfl
    | some e=>
     rw [he] at hbx
     simp only at hbx ⊢
     exact e.touch_congr hbx
 refine ⟨htouch,fun vc s1 h=>?_⟩
 unfold zKz at h ⊢
 simp only [ho] at h ⊢
 rw [← hgv]
 cases hg:gv ops s o with
 | none=>rw [hg] at h; cases h
 | some g=>
  rw [hg] at h
  cases g with
  | false=>
   simp only at h ⊢
   split at h
   ·rename_i hd
    simp only [Option.some.injEq,Prod.mk.injEq] at h
    obtain ⟨rfl,rfl⟩:=h
    have ht:(touch P Γ ops i s).2=[]:=by simp [touch,ho,hg]
    exact ⟨.tup [],[],by rw [ht]; simp [AS.setBs],by rw [ht,if_pos hd]; simp [AS.setBs]⟩
   ·cases h
  | true=>
   simp only at h ⊢
   unfold aop at h ⊢
   split at h
   ·rename_i hd
    rw [if_pos hd,← hprep]
    cases he:zKs P Γ o s.eval with
    | none=>rw [he] at h; cases h
    | some e=>
     rw [he] at h
     simp only at h ⊢
     have ht:touch P Γ ops i s=e.touch s.bx:=by simp [touch,ho,hg,he]
     rw [ht] at hbx
     obtain ⟨m1,m2⟩:=e.agree hbx
     rw [← m1] at m2 ⊢
     rw [← m2]
     cases hf:e.f (e.rds.map s.bx) ((e.more (e.rds.map s.bx)).map s.bx) with
     | none=>rw [hf] at h; cases h
     | some r=>
      obtain ⟨vc',v,ws⟩:=r
      rw [hf] at h
      simp only [Option.some.injEq,Prod.mk.injEq] at h ⊢
      obtain ⟨rfl,rfl⟩:=h
      have ht2:(touch P Γ ops i s).2=ws.map (·.1):=by rw [ht]; simp [Eff2.touch,hf]
      exact ⟨v,ws.map (·.2),by rw [ht2]; rfl,rfl,by rw [ht2]; rfl⟩
   ·cases h
theorem swap {τ:Nat→List Nat × List Nat} {i j:Nat} (hi:jYf ops τ j i=true) {s s1 s2:AS} {v1 v2:Prop}
  (h1:zKz P Γ n ops j s=some (v1,s1)) (t1:touch P Γ ops j s=τ j) (h2:zKz P Γ n ops i s1=some (v2,s2)) (t2:touch P Γ ops i s1=τ i) :
  ∃ s1',zKz P Γ n ops i s=some (v2,s1')∧touch P Γ ops i s=τ i∧zKz P Γ n ops j s1'=some (v1,s2)∧touch P Γ ops j s1'=τ j:=by
 unfold jYf at hi
 split at hi
 ·rename_i oj oi hoj hoi
  simp only [Bool.and_eq_true] at hi
  obtain ⟨hap,hb⟩:=hi
  obtain ⟨a1,a2,a3⟩:=Oper.apart_spec hap
  simp only [jJO,Bool.and_eq_true,List.all_eq_true,Bool.not_eq_true'] at hb
  obtain ⟨b1,b2⟩:=hb
  obtain ⟨o',v,wrs,bs,ho',hw,hs1⟩:=jXp h1
  rw [hoj] at ho'
  injection ho' with ho'
  subst ho'
  rw [t1] at hw
  have htm1:∀ t∈oi.looksAt ops,s1.tm t=s.tm t:=fun t ht=>by
   rw [hs1,zWB _ _ _ _ (fun e=>a1 t e ht),zZc]
  have hbx1:∀ b,b ∉ (τ j).2→s1.bx b=s.bx b:=fun b hb=>by
   rw [hs1,zVF,zZn _ _ _ _ (by rw [hw]; exact hb)]
  obtain ⟨c1,c2⟩:=zUi (P:=P) (Γ:=Γ) (n:=n) hoi htm1 (by
   rw [t2]
   exact fun b hb=>hbx1 b (fun hm=>by
    have:=b1 b hm
    simp only [List.contains_eq_mem,decide_eq_false_iff_not] at this
    exact this.1 hb))
  rw [t2] at c1 c2
  obtain ⟨v',bs',e1,e2⟩:=c2 _ _ h2
  have htm2:∀ t∈oj.looksAt ops,s.tm t=((s.setBs (τ i).2 bs').put oi.dst v').tm t:=fun t ht=>by
   rw [zWB _ _ _ _ (fun e=>a3 t e ht),zZc]
  obtain ⟨d1,d2⟩:=zUi (P:=P) (Γ:=Γ) (n:=n) hoj htm2 (by
   rw [t1]
   intro b hb
   rw [zVF,zZn]
   intro hm
   have:=b2 b hm
   simp only [List.contains_eq_mem,decide_eq_false_iff_not] at this
   exact this hb)
  rw [t1] at d1 d2
  obtain ⟨v'',bs'',f1,f2⟩:=d2 _ _ h1
  refine ⟨_,e2,c1.symm,?_,d1.symm⟩
  rw [f2]
  congr 1
  congr 1
  rw [e1,f1]
  apply AS.ext'
  ·funext t
   have q:∀ (s:AS) (d:Option Nat) (x:AV) (bs:List Nat) (Bs:List Bx),((s.setBs bs Bs).put d x).tm=(s.put d x).tm:=fun s d x bs Bs=>by
    cases d with
    | none=>simp [AS.put,zZc]
    | some d=>simp [AS.put,zZc]
   by_cases g1:oj.dst=some t
   ·have g2:oi.dst≠some t:=a2 t g1
    rw [zWB _ oi.dst _ _ g2,zZc,g1]
    simp [AS.put]
   ·rw [zWB _ oj.dst _ _ g1,zZc]
    by_cases g2:oi.dst=some t
    ·rw [g2]; simp [AS.put]
    ·rw [zWB _ oi.dst _ _ g2,zWB _ oi.dst _ _ g2,zZc,zZc,zWB _ oj.dst _ _ g1,zZc]
  ·funext b
   rw [zVF,zVF]
   by_cases g1:b∈(τ j).2
   ·have hni:b ∉ (τ i).2:=fun hm=>by
     have:=b1 b g1
     simp only [List.contains_eq_mem,decide_eq_false_iff_not] at this
     exact this.2 hm
    rw [zZn (τ i).2 bs' _ b hni,zVF]
    refine zXH _ _ _ _ _ (fun h=>absurd g1 h) (fun _=>?_)
    rw [zVF,zZn _ _ _ _ hni]
   ·rw [zZn (τ j).2 bs'' _ b g1,zVF]
    refine zXH _ _ _ _ _ (fun _=>?_) (fun _=>?_) <;> rw [zVF,zZn _ _ _ _ g1]
 ·cases hi
theorem jK3 {τ:Nat→List Nat × List Nat} {i:Nat} {B:List Nat} {s':AS}:∀ {A:List Nat} {s:AS},(∀ j∈A,jYf ops τ j i=true)→Runs P Γ n ops τ (A++i::B) s s' →
  ∃ vc s1,zKz P Γ n ops i s=some (vc,s1)∧vc∧touch P Γ ops i s=τ i∧Runs P Γ n ops τ (A++B) s1 s'
 | [],s,_,h=>h
 | j::A,s,hA,h=>by
  obtain ⟨vj,sj,h1,h2,h3,h4⟩:=h
  obtain ⟨vi,si,g1,g2,g3,g4⟩:=jK3 (fun k hk=>hA k (by simp [hk])) h4
  obtain ⟨s1',e1,e2,e3,e4⟩:=swap (hA j (by simp)) h1 h3 g1 g3
  exact ⟨vi,s1',e1,g2,e2,vj,si,e3,h2,e4,g4⟩
end
section
variable (ops:Array Oper)
def jQS (k:Nat) (t:List Nat):List Edge→Nat
 | []=>0
 | e::es=>match Region.binds .any e && decide (e.on < k) with
  | true=>(2 ^ e.on ||| t.getD e.on 0) ||| jQS k t es
  | false=>jQS k t es
def zJx:Nat→List Nat
 | 0=>[]
 | k+1=>zJx k++[match ops[k]? with
  | some o=>jQS k (zJx k) o.after.toList
  | none=>0]
def zWa (j i:Nat):Bool:=((zJx ops ops.size).getD i 0).testBit j
def jYN (listed:Array Bool):Prop:=∀ i o,ops[i]?=some o→listed.getD i true=true→i < listed.size→∀ e∈o.after.toList,Region.binds .any e=true→listed.getD e.on false=true
theorem zY6:∀ k,(zJx ops k).length=k
 | 0=>rfl
 | k+1=>by simp [zJx,zY6 k]
theorem zJU:∀ {n k:Nat},k < n→(zJx ops n).getD k 0=match ops[k]? with
  | some o=>jQS k (zJx ops k) o.after.toList
  | none=>0
 | n+1,k,h=>by
  simp only [zJx,List.getD_eq_getElem?_getD]
  by_cases e:k < n
  ·rw [List.getElem?_append_left (by rw [zY6]; exact e)]
   have:=zJU (n:=n) e
   rwa [List.getD_eq_getElem?_getD] at this
  ·have:k=n:=by omega
   subst this
   rw [List.getElem?_append_right (by rw [zY6]; omega),zY6]
   simp
theorem zWS {k j:Nat} {t:List Nat}:∀ {es:List Edge},(jQS k t es).testBit j=true→∃ e∈es,Region.binds .any e=true∧e.on < k∧(e.on=j∨(t.getD e.on 0).testBit j=true)
 | [],h=>by simp [jQS] at h
 | e::es,h=>by
  simp only [jQS] at h
  cases hb:Region.binds .any e && decide (e.on < k) with
  | false=>
   rw [hb] at h
   obtain ⟨e',h1,h2⟩:=zWS h
   exact ⟨e',by simp [h1],h2⟩
  | true=>
   rw [hb] at h
   simp only [Nat.testBit_or,Bool.or_eq_true,Nat.testBit_two_pow] at h
   simp only [Bool.and_eq_true,decide_eq_true_eq] at hb
   rcases h with (h | h) | h
   ·exact ⟨e,by simp,hb.1,hb.2,.inl (by simpa using h)⟩
   ·exact ⟨e,by simp,hb.1,hb.2,.inr h⟩
   ·obtain ⟨e',h1,h2⟩:=zWS h
    exact ⟨e',by simp [h1],h2⟩
theorem zHa {listed:Array Bool} (hc:jYN ops listed) (hsz:listed.size=ops.size):∀ (i j:Nat) (o:Oper),ops[i]?=some o→(∀ e∈o.after.toList,Region.binds .any e=true→listed.getD e.on false=true)→zWa ops j i=true→listed.getD j false=true:=by
 intro i
 induction i using Nat.strongRecOn with
 | ind i ih=>
  intro j o ho haft hb
  have hi:i < ops.size:=(Array.getElem?_eq_some_iff.1 ho).1
  unfold zWa at hb
  rw [zJU ops hi,ho] at hb
  obtain ⟨e,h1,h2,h3,h4⟩:=zWS hb
  have hl:=haft e h1 h2
  rcases h4 with rfl | h4
  ·exact hl
  ·have he:e.on < ops.size:=by omega
   refine ih e.on h3 j ops[e.on] (Array.getElem?_eq_getElem he) ?_ ?_
   ·refine hc e.on _ (Array.getElem?_eq_getElem he) ?_ (by omega)
    have:e.on < listed.size:=by omega
    simp [Array.getD,this] at hl ⊢
    exact hl
   ·unfold zWa
    rw [zJU ops he]
    rw [zJU ops h3] at h4
    exact h4
def jYY (τ:Nat→List Nat × List Nat):Bool:=
 (List.range ops.size).all fun i=>((ops[i]?).any fun o=>o.after.all fun e=>!Region.binds .any e || decide (e.on < i)) && (List.range i).all fun j=>zWa ops j i || jYf ops τ j i
end
section
variable {P:Program} {Γ:Gam} {n:Dom} {ops:Array Oper}
theorem zHY {w0:World} {S:zQS} {s:AS} {ι:zQk} {a:Act} {w:World} (h:RepS w0 S n s ι a w) {o:Oper} {g:Bool} (hg:gv ops s o=some g):Region.wanted o (yielded ops a.tmps)=g:=by
 unfold gv at hg
 unfold Region.wanted
 cases ho:o.guard with
 | none=>rw [ho] at hg; simp only [Option.some.injEq] at hg; exact hg
 | some jw=>
  obtain ⟨j,want⟩:=jw
  rw [ho] at hg
  simp only at hg ⊢
  cases ht:(ops[j]?).bind (·.dst) with
  | none=>rw [ht] at hg; cases hg
  | some t=>
   rw [ht] at hg
   simp only at hg
   have hr:=h.tm t
   unfold yielded
   rw [ht]
   simp only [Option.bind_some]
   split at hg
   ·rename_i hs
    rw [hs] at hr
    simp only [zQh] at hr
    obtain ⟨cur,e,hc⟩:=hr
    have hcur:cur=#[]:=by
     cases hcl:cur.toList with
     | nil=>exact Array.toList_eq_nil_iff.1 hcl
     | cons _ _=>rw [hcl] at hc; simp only [RepAVs] at hc
    subst hcur
    simp only [Option.some.injEq] at hg
    subst hg
    rw [Array.getD_eq_getD_getElem?] at e
    cases hx:a.tmps[t]? with
    | none=>rfl
    | some x=>
     rw [hx] at e
     simp only [Option.getD_some] at e
     subst e
     rfl
   ·cases hb:(s.tm t).bool? with
    | none=>rw [hb] at hg; cases hg
    | some b=>
     rw [hb] at hg
     simp only [Option.map_some,Option.some.injEq] at hg
     subst hg
     have e:=zY0 hr hb
     rw [Array.getD_eq_getD_getElem?] at e
     cases hx:a.tmps[t]? with
     | none=>rw [hx] at e; simp [undef] at e
     | some x=>
      rw [hx] at e
      simp only [Option.getD_some] at e
      subst e
      simp only
      cases b <;> cases want <;> rfl
theorem zUh {F:Fence} {m:Nat} (hF:Wide F) {w0:World} {S:zQS} {s s1:AS} {ι:zQk} {a:Act} {w:World} {i:Nat} {vc:Prop} (h:zKz P Γ n ops i s=some (vc,s1)) (hr:RepS w0 S n s ι a w) (hvc:vc) {K:Act→World→Prop} {Q:Exit→Act→World→Prop}
  (hK:∀ ι' a' w',RepS w0 S n s1 ι' a' w'→K a' w'):wpOpIn F m P ops Q i K a w:=by
 unfold zKz at h
 unfold Go.wpOpIn
 split at h
 ·cases h
 ·rename_i o ho
  simp only [ho]
  split at h
  ·cases h
  ·rename_i hg
   rw [if_pos (zHY hr hg)]
   exact Oper.wpIn_of_wp hF (jQ7 h) (jYL h hr hvc hK)
  ·rename_i hg
   rw [zHY hr hg,if_neg (by simp)]
   split at h
   ·rename_i hd
    simp only [Option.some.injEq,Prod.mk.injEq] at h
    obtain ⟨rfl,rfl⟩:=h
    refine ⟨fun _ _=>hF.fn _,hK ι _ w (hr.put (fun k hk=>?_) (by simp only [zQh]; exact ⟨_,rfl,by simp only [RepAVs]⟩))⟩
    unfold jQf at hd
    rw [hk] at hd
    simpa using hd
   ·cases h
theorem zUG {F:Fence} {m:Nat} (hF:Wide F) {τ:Nat→List Nat × List Nat} {w0:World} {S:zQS} {Q:Exit→Act→World→Prop} {s':AS}:∀ {R:List Nat} {s:AS} {ι:zQk} {a:Act} {w:World},Runs P Γ n ops τ R s s'→RepS w0 S n s ι a w →
  (∀ ι' a' w',RepS w0 S n s' ι' a' w'→Q .normal a' w')→wpOpsIn F m P ops Q R a w
 | [],s,ι,a,w,h,hr,hQ=>by
  have h:s=s':=h
  subst h; exact hQ ι a w hr
 | i::R,s,ι,a,w,⟨vc,s1,h1,h2,_,h4⟩,hr,hQ=>by
  rw [wpOpsIn_cons]
  exact zUh hF h1 hr h2 fun ι' a' w' hr'=>zUG hF h4 hr' hQ
def left (ops:Array Oper) (listed:Array Bool):List Nat:=(List.range ops.size).filter fun i=>!listed.getD i true
theorem jYR {F:Fence} {m:Nat} (hF:Wide F) {τ:Nat→List Nat × List Nat} (hok:jYY ops τ=true) {w0:World} {S:zQS} {Q:Exit→Act→World→Prop} {s':AS} (hQ:∀ ι' a' w',RepS w0 S n s' ι' a' w'→Q .normal a' w') :
  ∀ (fuel:Nat) (listed:Array Bool) (s:AS) (ι:zQk) (a:Act) (w:World),jYN ops listed→listed.size=ops.size→(left ops listed).length≤fuel→Runs P Γ n ops τ (left ops listed) s s'→RepS w0 S n s ι a w→wpAnyIn F m P .any ops Q fuel listed a w:=by
 simp only [jYY,List.all_eq_true,Bool.and_eq_true] at hok
 have hready:∀ (listed:Array Bool) i,i∈Region.ready .any ops listed↔i < ops.size∧listed.getD i true=false∧((ops[i]?).map (·.after.all fun e=>!Region.binds .any e || listed.getD e.on false)).getD false=true:=by
  intro listed i
  simp [Region.ready,List.mem_filter]
 have hempty:∀ listed:Array Bool,listed.size=ops.size→Region.ready .any ops listed=[]→left ops listed=[]:=by
  intro listed hsz hr
  cases hl:left ops listed with
  | nil=>rfl
  | cons i R=>
   exfalso
   have hi:i∈left ops listed:=by rw [hl]; simp
   simp only [left,List.mem_filter,List.mem_range,Bool.not_eq_true'] at hi
   have hsorted:∀ j,j < i→listed.getD j true=true:=by
    intro j hj
    cases hjv:listed.getD j true with
    | true=>rfl
    | false=>
     exfalso
     have hjm:j∈left ops listed:=by
      simp only [left,List.mem_filter,List.mem_range,Bool.not_eq_true']
      exact ⟨by omega,hjv⟩
     have hp:(left ops listed).Pairwise (· < ·):=List.Pairwise.filter _ List.pairwise_lt_range
     rw [hl] at hjm hp
     rcases List.mem_cons.1 hjm with e | hm
     ·omega
     ·have:=(List.pairwise_cons.1 hp).1 j hm
      omega
   have:i∈Region.ready .any ops listed:=by
    rw [hready]
    refine ⟨hi.1,hi.2,?_⟩
    have h1:=(hok i (List.mem_range.2 hi.1)).1
    cases ho:ops[i]? with
    | none=>rw [ho] at h1; simp at h1
    | some o=>
     rw [ho] at h1
     simp only [Option.any_some,Option.map_some,Option.getD_some] at h1 ⊢
     rw [Array.all_eq_true_iff_forall_mem] at h1 ⊢
     intro e he
     have h2:=h1 e he
     simp only [Bool.or_eq_true,Bool.not_eq_true',decide_eq_true_eq] at h2 ⊢
     rcases h2 with h2 | h2
     ·exact .inl h2
     ·right
      have h3:=hsorted e.on h2
      have hlt:e.on < listed.size:=by omega
      simp [Array.getD,hlt] at h3 ⊢
      exact h3
   rw [hr] at this
   simp at this
 intro fuel
 induction fuel with
 | zero=>
  intro listed s ι a w hcl hsz hl hruns hr
  have h0:left ops listed=[]:=List.eq_nil_of_length_eq_zero (by omega)
  rw [h0] at hruns
  have hs:s=s':=hruns
  subst hs
  refine ⟨?_,hQ ι a w hr⟩
  cases hre:Region.ready .any ops listed with
  | nil=>rfl
  | cons i R=>
   exfalso
   have:i∈Region.ready .any ops listed:=by rw [hre]; simp
   rw [hready] at this
   have hm:i∈left ops listed:=by
    simp only [left,List.mem_filter,List.mem_range,Bool.not_eq_true']
    exact ⟨this.1,this.2.1⟩
   rw [h0] at hm
   simp at hm
 | succ fuel ih=>
  intro listed s ι a w hcl hsz hl hruns hr
  refine ⟨fun he=>?_,fun i hi=>?_⟩
  ·have h0:=hempty listed hsz he
   rw [h0] at hruns
   have hs:s=s':=hruns
   subst hs
   exact hQ ι a w hr
  ·rw [hready] at hi
   obtain ⟨hlt,hnl,haft⟩:=hi
   have hm:i∈left ops listed:=by
    simp only [left,List.mem_filter,List.mem_range,Bool.not_eq_true']
    exact ⟨hlt,hnl⟩
   obtain ⟨A,B,hAB⟩:=List.append_of_mem hm
   have hp:(left ops listed).Pairwise (· < ·):=List.Pairwise.filter _ List.pairwise_lt_range
   rw [hAB] at hp
   have hA:∀ j∈A,j < i∧listed.getD j true=false:=fun j hj=>by
    refine ⟨(List.pairwise_append.1 hp).2.2 j hj i (by simp),?_⟩
    have:j∈left ops listed:=by rw [hAB]; simp [hj]
    simp only [left,List.mem_filter,List.mem_range,Bool.not_eq_true'] at this
    exact this.2
   have hind:∀ j∈A,jYf ops τ j i=true:=fun j hj=>by
    obtain ⟨h1,h2⟩:=hA j hj
    have h3:=(hok i (List.mem_range.2 hlt)).2 j (List.mem_range.2 h1)
    simp only [Bool.or_eq_true] at h3
    rcases h3 with h3 | h3
    ·exfalso
     cases ho:ops[i]? with
     | none=>rw [ho] at haft; simp at haft
     | some o=>
      rw [ho] at haft
      simp only [Option.map_some,Option.getD_some] at haft
      have h4:=zHa ops hcl hsz i j o ho (fun e he hb=>by
       have:=Array.all_eq_true_iff_forall_mem.1 haft e (Array.mem_toList_iff.1 he)
       simpa [hb] using this) h3
      by_cases hlt':j < listed.size
      ·simp [Array.getD,hlt'] at h2 h4
       rw [h2] at h4; cases h4
      ·simp [Array.getD,hlt'] at h2
    ·exact h3
   rw [hAB] at hruns
   obtain ⟨vc,s1,g1,g2,_,g4⟩:=jK3 hind hruns
   have hleft:left ops (listed.setIfInBounds i true)=A++B:=by
    have hnodup:(left ops listed).Nodup:=(List.nodup_range).filter _
    have e1:left ops (listed.setIfInBounds i true)=(left ops listed).filter fun k=>decide (k≠i):=by
     simp only [left,List.filter_filter]
     apply List.filter_congr
     intro k hk
     have hk':k < ops.size:=List.mem_range.1 hk
     by_cases e:k=i
     ·subst e
      simp [Array.getD,hsz,hlt]
     ·have:(listed.setIfInBounds i true).getD k true=listed.getD k true:=by
       simp only [Array.getD_eq_getD_getElem?,Array.getElem?_setIfInBounds_ne (Ne.symm e)]
      rw [this]; simp [e]
    rw [e1,hAB,List.filter_append,List.filter_cons]
    rw [hAB] at hnodup
    have hn:=List.nodup_append.1 hnodup
    have hA':A.filter (fun k=>decide (k≠i))=A:=List.filter_eq_self.2 fun k hk=>by
     have:=(hA k hk).1
     simp; omega
    have hB':B.filter (fun k=>decide (k≠i))=B:=List.filter_eq_self.2 fun k hk=>by
     have:i≠k:=fun e=>by
      have:=(List.nodup_cons.1 hn.2.1).1
      exact this (by rw [e]; exact hk)
     simp; exact Ne.symm this
    rw [hA',hB']
    simp
   refine zUh hF g1 hr g2 fun ι' a' w' hr'=>?_
   have hcl2:jYN ops (listed.setIfInBounds i true):=by
    intro k ok hk hkl hks e he hb
    have hmono:∀ q,listed.getD q false=true→(listed.setIfInBounds i true).getD q false=true:=fun q hq=>by
     by_cases e':q=i
     ·subst e'
      simp [Array.getD,hsz,hlt]
     ·simp only [Array.getD_eq_getD_getElem?,Array.getElem?_setIfInBounds_ne (Ne.symm e')] at hq ⊢
      exact hq
    refine hmono _ ?_
    by_cases e':k=i
    ·subst e'
     rw [hk] at haft
     simp only [Option.map_some,Option.getD_some] at haft
     have:=Array.all_eq_true_iff_forall_mem.1 haft e (Array.mem_toList_iff.1 he)
     simpa [hb] using this
    ·have hkl':listed.getD k true=true:=by
      simp only [Array.getD_eq_getD_getElem?,Array.getElem?_setIfInBounds_ne (Ne.symm e')] at hkl ⊢
      exact hkl
     exact hcl k ok hk hkl' (by simpa using hks) e he hb
   refine ih _ s1 ι' a' w' hcl2 (by simpa using hsz) ?_ (by rw [hleft]; exact g4) hr'
   rw [hleft]
   have:(left ops listed).length=(A++B).length+1:=by rw [hAB]; simp; omega
   omega
end
abbrev Kn:=Nat→Option Bool
def kx (kn:Kn):Operand→Option Bool
 | .const (.bool b)=>some b
 | .tmp t=>kn t
 | _=>none
def knOf (kn:Kn):Op→Option Bool
 | .move x | .assign x=>kx kn x
 | .pick c x y=>match kx kn c with
  | some true=>kx kn x
  | some false=>kx kn y
  | none=>none
 | .unOp .not _ x=>(kx kn x).map (!·)
 | _=>none
def zJm (kn:Kn) (d:Option Nat) (b:Option Bool):Kn:=
 match d with
 | some d=>fun t=>if t=d then b else kn t
 | none=>kn
def jXJ (x:AV) (b:Bool):AV:=
 match x with
 | .one (.d (.bool _))=>.one (.d (.bool b))
 | .one (.lit (.bool _))=>.one (.lit (.bool b))
 | x=>x
def AS.fix (s:AS) (t:Nat) (b:Bool):AS:=s.put (some t) (jXJ (s.tm t) b)
def KnOK (kn:Kn) (s:AS):Prop:=∀ t b,kn t=some b→(s.tm t).bool?=some b
inductive Gd where
  | stuck
  | yes
  | no
  | ask (t:Nat) (b want:Bool)
def gd (ops:Array Oper) (kn:Kn) (s:AS) (o:Oper):Gd:=
 match o.guard with
 | none=>.yes
 | some (j,want)=>match (ops[j]?).bind (·.dst) with
  | none=>.stuck
  | some t=>match kn t with
   | some b=>if b=want then .yes else .no
   | none=>match s.tm t with
    | .tup []=>.no
    | .one (.d (.bool b))=>.ask t b want
    | .one (.lit (.bool b))=>.ask t b want
    | _=>.stuck
section
variable (P:Program) (Γ:Gam) (n:Dom)
def aopT (o:Oper) (s:AS):Option (Prop × AS × (List Nat × List Nat)):=
 if jQf n o then
  match zKs P Γ o s.eval with
  | some e=>match e.f (e.rds.map s.bx) ((e.more (e.rds.map s.bx)).map s.bx) with
   | some (vc,v,ws)=>some (vc,(s.setL ws).put o.dst v,(e.rds++e.more (e.rds.map s.bx),ws.map (·.1)))
   | none=>none
  | none=>none
 else none
def zYB (ops:Array Oper):List Nat→Kn→AS→List (List Nat × List Nat)→(Kn→AS→List (List Nat × List Nat)→Prop)→Prop
 | [],kn,s,acc,Q=>Q kn s acc
 | i::R,kn,s,acc,Q=>
  match ops[i]? with
  | none=>False
  | some o=>match gd ops kn s o with
   | .stuck=>False
   | .yes=>match aopT P Γ n o s with
    | some (vc,s',t)=>vc∧zYB ops R (zJm kn o.dst (knOf kn o.op)) s' (t::acc) Q
    | none=>False
   | .no=>match jQf n o with
    | true=>zYB ops R (zJm kn o.dst none) (s.put o.dst (.tup [])) (([],[])::acc) Q
    | false=>False
   | .ask t b want=>
    (b=want→match aopT P Γ n o (s.fix t want) with
     | some (vc,s',th)=>vc∧zYB ops R (zJm (zJm kn (some t) (some want)) o.dst (knOf (zJm kn (some t) (some want)) o.op)) s' (th::acc) Q
     | none=>False) ∧
    (b=(!want)→match jQf n o with
     | true=>zYB ops R (zJm (zJm kn (some t) (some (!want))) o.dst none) ((s.fix t (!want)).put o.dst (.tup [])) (([],[])::acc) Q
     | false=>False)
end
theorem jXo {x:AV} {b:Bool} (h:x.bool?=some b):jXJ x b=x:=by
 unfold AV.bool? at h
 split at h
 ·injection h with h; subst h; rfl
 ·injection h with h; subst h; rfl
 ·cases h
theorem jZJ {s:AS} {t:Nat} {b:Bool} (h:(s.tm t).bool?=some b):s.fix t b=s:=by
 unfold AS.fix
 rw [jXo h]
 apply AS.ext'
 ·funext t'
  simp only [AS.put]
  split
  ·rename_i e; rw [e]
  ·rfl
 ·rfl
theorem zGU {kn:Kn} {s:AS} (h:KnOK kn s) {x:Operand} {b:Bool} (hx:kx kn x=some b):(s.eval x).bool?=some b:=by
 unfold kx at hx
 split at hx
 ·injection hx with hx; subst hx; rfl
 ·exact h _ _ hx
 ·cases hx
section
variable {P:Program} {Γ:Gam} {n:Dom} {ops:Array Oper}
theorem jJv {o:Oper} {s s':AS} {vc:Prop} {t:List Nat × List Nat} (h:aopT P Γ n o s=some (vc,s',t)):aop P Γ n o s=some (vc,s')∧∃ e,zKs P Γ o s.eval=some e∧t=e.touch s.bx:=by
 unfold aopT at h
 unfold aop
 split at h
 ·rename_i hd
  rw [if_pos hd]
  split at h
  ·rename_i e he
   split at h
   ·rename_i vc' v ws hf
    simp only [Option.some.injEq,Prod.mk.injEq] at h
    obtain ⟨rfl,rfl,rfl⟩:=h
    refine ⟨?_,e,he,by simp [Eff2.touch,hf]⟩
    try rw [he]
    simp only [hf]
   ·cases h
  ·cases h
 ·cases h
theorem jKT {kn:Kn} {s s':AS} (h:KnOK kn s) {o:Oper} {vc:Prop} (ha:aop P Γ n o s=some (vc,s')):KnOK (zJm kn o.dst (knOf kn o.op)) s':=by
 unfold aop at ha
 split at ha
 ·split at ha
  ·rename_i e he
   split at ha
   ·rename_i vc' v bs hf
    simp only [Option.some.injEq,Prod.mk.injEq] at ha
    obtain ⟨rfl,rfl⟩:=ha
    intro t b hb
    cases hd:o.dst with
    | none=>
     rw [hd] at hb
     have hb:kn t=some b:=hb
     show ((s.setL bs).tm t).bool?=some b
     rw [AS.setL,zZc]
     exact h t b hb
    | some d=>
     rw [hd] at hb
     simp only [zJm] at hb
     by_cases e1:t=d
     ·rw [if_pos e1] at hb
      simp only [AS.put,if_pos e1]
      unfold knOf at hb
      unfold zKs at he
      have he':(prep P Γ o s.eval).map Eff.up=some e:=by
       split at he
       ·rename_i c hc
        rw [hc] at hb
        cases hb
       ·exact he
      clear he
      obtain ⟨e0,he,rfl⟩:=Option.map_eq_some_iff.1 he'
      clear he'
      simp only [Eff.up] at hf
      obtain ⟨⟨vc0,v0,bs0⟩,hf2,hf'⟩:=Option.map_eq_some_iff.1 hf
      clear hf
      have hf:=hf2
      clear hf2
      simp only [Prod.mk.injEq] at hf'
      obtain ⟨rfl,rfl,rfl⟩:=hf'
      unfold prep at he
      split at hb
      ·rename_i x hop
       rw [hop] at he
       simp only [Option.some.injEq] at he
       subst he
       simp only [Eff.val,Option.some.injEq,Prod.mk.injEq] at hf
       rw [← hf.2.1]; exact zGU h hb
      ·rename_i x hop
       rw [hop] at he
       simp only [Option.some.injEq] at he
       subst he
       simp only [Eff.val,Option.some.injEq,Prod.mk.injEq] at hf
       rw [← hf.2.1]; exact zGU h hb
      ·rename_i c x y hop
       rw [hop] at he
       simp only [zHI] at he
       split at hb
       ·rename_i hc
        rw [zGU h hc] at he
        simp only [Option.some.injEq] at he
        subst he
        simp only [Eff.val,Option.some.injEq,Prod.mk.injEq] at hf
        rw [← hf.2.1]; exact zGU h hb
       ·rename_i hc
        rw [zGU h hc] at he
        simp only [Option.some.injEq] at he
        subst he
        simp only [Eff.val,Option.some.injEq,Prod.mk.injEq] at hf
        rw [← hf.2.1]; exact zGU h hb
       ·cases hb
      ·rename_i t' x hop
       rw [hop] at he
       simp only [opUn] at he
       cases hx:kx kn x with
       | none=>rw [hx] at hb; cases hb
       | some bx=>
        rw [hx] at hb
        simp only [Option.map_some,Option.some.injEq] at hb
        have:=zGU h hx
        unfold AV.bool? at this
        split at this
        ·rename_i b' hs
         rw [hs] at he
         simp only [Option.some.injEq] at this he
         subst this he
         simp only [Eff.val,Option.some.injEq,Prod.mk.injEq] at hf
         rw [← hf.2.1,← hb]; rfl
        ·rename_i b' hs
         rw [hs] at he
         simp only [Option.some.injEq] at this he
         subst this he
         simp only [Eff.val,Option.some.injEq,Prod.mk.injEq] at hf
         rw [← hf.2.1,← hb]; rfl
        ·cases this
      ·cases hb
     ·rw [if_neg e1] at hb
      simp only [AS.put,if_neg e1]
      rw [AS.setL,zZc]
      exact h t b hb
   ·cases ha
  ·cases ha
 ·cases ha
theorem jJK {kn:Kn} {s:AS} (h:KnOK kn s) {t:Nat} {b:Bool} (ht:(s.tm t).bool?=some b):KnOK (zJm kn (some t) (some b)) s:=by
 intro t' b' hb
 simp only [zJm] at hb
 by_cases e:t'=t
 ·rw [if_pos e] at hb; injection hb with hb; subst hb; rw [e]; exact ht
 ·rw [if_neg e] at hb; exact h _ _ hb
theorem jKh {kn:Kn} {s:AS} (h:KnOK kn s) (d:Option Nat):KnOK (zJm kn d none) (s.put d (.tup [])):=by
 intro t b hb
 cases d with
 | none=>exact h t b hb
 | some d=>
  simp only [zJm] at hb
  by_cases e:t=d
  ·rw [if_pos e] at hb; cases hb
  ·rw [if_neg e] at hb
   simp only [AS.put,if_neg e]
   exact h t b hb
def Ran (P:Program) (Γ:Gam) (n:Dom) (ops:Array Oper) (R:List Nat) (s:AS) (acc:List (List Nat × List Nat)) (Q:Kn→AS→List (List Nat × List Nat)→Prop):Prop:=
 ∃ (kn':Kn) (s':AS) (ts:List (List Nat × List Nat)),Q kn' s' (ts.reverse++acc)∧KnOK kn' s'∧ts.length=R.length∧∀ τ:Nat→List Nat × List Nat,(∀ (k:Nat) (i:Nat),R[k]?=some i→τ i=ts.getD k ([],[]))→Runs P Γ n ops τ R s s'
theorem zVl:∀ {R:List Nat} {kn:Kn} {s:AS} {acc:List (List Nat × List Nat)} {Q:Kn→AS→List (List Nat × List Nat)→Prop},zYB P Γ n ops R kn s acc Q→KnOK kn s →
  Ran P Γ n ops R s acc Q
 | [],kn,s,acc,Q,h,hk=>⟨kn,s,[],h,hk,rfl,fun τ _=>rfl⟩
 | i::R,kn,s,acc,Q,h,hk=>by
  have yes:∀ {o:Oper} {kn1:Kn},ops[i]?=some o→gv ops s o=some true→KnOK kn1 s→(match aopT P Γ n o s with
    | some (vc,s',t)=>vc∧zYB P Γ n ops R (zJm kn1 o.dst (knOf kn1 o.op)) s' (t::acc) Q
    | none=>False)→Ran P Γ n ops (i::R) s acc Q:=by
   intro o kn1 ho hg hk1 h
   split at h
   ·rename_i vc s1 t ha
    obtain ⟨hvc,h⟩:=h
    obtain ⟨h1,e,he,rfl⟩:=jJv ha
    obtain ⟨kn',s',ts,g1,g2,g3,g4⟩:=zVl h (jKT hk1 h1)
    refine ⟨kn',s',e.touch s.bx::ts,by simpa using g1,g2,by simp [g3],fun τ hτ=>⟨vc,s1,by simp [zKz,ho,hg,h1],hvc,?_,g4 τ fun k j hj=>by simpa using hτ (k+1) j (by simpa using hj)⟩⟩
    have:=hτ 0 i rfl
    rw [this]
    simp [touch,ho,hg,he]
   ·exact h.elim
  have no:∀ {o:Oper} {kn1:Kn},ops[i]?=some o→gv ops s o=some false→KnOK kn1 s→(match jQf n o with
    | true=>zYB P Γ n ops R (zJm kn1 o.dst none) (s.put o.dst (.tup [])) (([],[])::acc) Q
    | false=>False)→Ran P Γ n ops (i::R) s acc Q:=by
   intro o kn1 ho hg hk1 h
   split at h
   ·rename_i hd
    obtain ⟨kn',s',ts,g1,g2,g3,g4⟩:=zVl h (jKh hk1 o.dst)
    refine ⟨kn',s',([],[])::ts,by simpa using g1,g2,by simp [g3],fun τ hτ=>⟨True,_,by simp only [zKz,ho,hg,hd,if_true],trivial,?_,g4 τ fun k j hj=>by simpa using hτ (k+1) j (by simpa using hj)⟩⟩
    have:=hτ 0 i rfl
    rw [this]
    simp [touch,ho,hg]
   ·exact h.elim
  unfold zYB at h
  split at h
  ·exact h.elim
  ·rename_i o ho
   split at h
   ·exact h.elim
   ·rename_i hg
    have hgv:gv ops s o=some true:=by
     unfold gd at hg
     unfold gv
     cases hgu:o.guard with
     | none=>rfl
     | some jw=>
      obtain ⟨j,want⟩:=jw
      rw [hgu] at hg
      simp only at hg ⊢
      cases ht:(ops[j]?).bind (·.dst) with
      | none=>rw [ht] at hg; cases hg
      | some t=>
       rw [ht] at hg
       simp only at hg ⊢
       cases hkt:kn t with
       | some b=>
        rw [hkt] at hg
        simp only at hg
        split at hg
        ·rename_i hbw
         subst hbw
         have hb:=hk t b hkt
         split
         ·rename_i hs; rw [hs] at hb; simp [AV.bool?] at hb
         ·rw [hb]; simp
        ·cases hg
       | none=>
        rw [hkt] at hg
        simp only at hg
        split at hg <;> cases hg
    exact yes ho hgv hk h
   ·rename_i hg
    have hgv:gv ops s o=some false:=by
     unfold gd at hg
     unfold gv
     cases hgu:o.guard with
     | none=>rw [hgu] at hg; cases hg
     | some jw=>
      obtain ⟨j,want⟩:=jw
      rw [hgu] at hg
      simp only at hg ⊢
      cases ht:(ops[j]?).bind (·.dst) with
      | none=>rw [ht] at hg; cases hg
      | some t=>
       rw [ht] at hg
       simp only at hg ⊢
       cases hkt:kn t with
       | some b=>
        rw [hkt] at hg
        simp only at hg
        split at hg
        ·cases hg
        ·rename_i hbw
         have hb:=hk t b hkt
         split
         ·rfl
         ·rw [hb]; simp [hbw]
       | none=>
        rw [hkt] at hg
        simp only at hg
        split at hg
        ·rename_i hs; simp [hs]
        ·cases hg
        ·cases hg
        ·cases hg
    exact no ho hgv hk h
   ·rename_i t b want hg
    have hgt:∃ j,o.guard=some (j,want)∧(ops[j]?).bind (·.dst)=some t∧(s.tm t).bool?=some b:=by
     unfold gd at hg
     cases hgu:o.guard with
     | none=>rw [hgu] at hg; cases hg
     | some jw=>
      obtain ⟨j,want'⟩:=jw
      rw [hgu] at hg
      simp only at hg
      cases ht:(ops[j]?).bind (·.dst) with
      | none=>rw [ht] at hg; cases hg
      | some t'=>
       rw [ht] at hg
       simp only at hg
       cases hkt:kn t' with
       | some b'=>rw [hkt] at hg; simp only at hg; split at hg <;> cases hg
       | none=>
        rw [hkt] at hg
        simp only at hg
        split at hg
        ·cases hg
        ·rename_i b' hs
         simp only [Gd.ask.injEq] at hg
         obtain ⟨rfl,rfl,rfl⟩:=hg
         exact ⟨j,rfl,ht,by rw [hs]; rfl⟩
        ·rename_i b' hs
         simp only [Gd.ask.injEq] at hg
         obtain ⟨rfl,rfl,rfl⟩:=hg
         exact ⟨j,rfl,ht,by rw [hs]; rfl⟩
        ·cases hg
    obtain ⟨j,h1,h2,h3⟩:=hgt
    have hgv:gv ops s o=some (b==want):=by
     unfold gv
     rw [h1]
     simp only [h2]
     split
     ·rename_i hs; rw [hs] at h3; simp [AV.bool?] at h3
     ·rw [h3]; simp
    by_cases hbw:b=want
    ·subst hbw
     rw [jZJ h3] at h
     exact yes ho (hgv.trans (by simp)) (jJK hk h3) (h.1 rfl)
    ·have hbn:b=!want:=by cases b <;> cases want <;> simp_all
     subst hbn
     rw [jZJ h3] at h
     exact no ho (hgv.trans (by cases want <;> rfl)) (jJK hk h3) (h.2 rfl)
end
def jK8 (w:World):Bool × List DV→Value→Prop
 |(false,ds),v=>∃ d,ds=[d]∧d.plain=some v
 |(true,ds),v=>∃ g,v=.pointer (some ⟨g,0,none⟩)∧∀ i d,ds[i]?=some d→∃ u,d.plain=some u∧w.cell? ⟨g,i,none⟩=some u
def jZP (w:World):List (Bool × List DV)→List Value→Prop
 | [],[]=>True
 | c::cs,v::vs=>jK8 w c v∧jZP w cs vs
 | _,_=>False
def zGc (ds:List DV):Array Value:=(ds.map fun d=>d.plain.getD undef).toArray
def AnsI (P:Program) (g:FuncId) (caps:List (Bool × List DV)) (N:Nat) (item:Nat→List DV):Prop:=
 ∀ (lb:Array Value) (l m:Nat) (J:Nat→World→Prop) (Jx:World→Prop),
  (∀ k W,J k W→jZP W caps lb.toList) →
  (∀ k W d,J k W→J k { W with drawn:=d })→(∀ W d,Jx W→Jx { W with drawn:=d }) →
  (∀ k W,k < N→J k W→YieldAt Fence.wide m P l (zGc (item k)) W fun e W'=>(e=.returned (.bool true)∧J (k+1) W')∨(e=.returned (.bool false)∧Jx W')) →
  ∀ W,J 0 W→CallsIn Fence.wide m P g (#[.func (.yield l) #[] #[]]++lb) W fun e W'=>(∃ v,e=.returned v)∧(J N W'∨Jx W')
def jYU (I:World→Prop) (Ix:Code→World→Prop) (W:World):Exit→Act→World→Prop
 | .normal,_,W'=>KeepsOthers W W'∧I W'
 | .ret,_,W'=>KeepsOthers W W'∧Ix .ret W'
 | .exit id,_,W'=>KeepsOthers W W'∧Ix (.exit id) W'
 | _,_,_=>False
def zVS (B:Nat) (I:World→Prop):Prop:=
 ∀ W W' row,I W→W.grownBy W' row→(∀ r,row=some r→B≤r∧∃ o:Obj,W.heap[r]?=some o∧o.isCells=false)→I W'
theorem zVS.put {B:Nat} {I:World→Prop} (h:zVS B I) {W:World} {l:Nat} {o:Obj} (o':Obj) (hs:I W) (hB:B≤l) (hl:W.heap[l]?=some o) (ho:o.isCells=false):I (W.putObj l o'):=
 h W _ (some l) hs (grownBy_putObj' W l o') (fun r e=>by cases e; exact ⟨hB,o,hl,ho⟩)
theorem zVS.new_ {B:Nat} {I:World→Prop} (h:zVS B I) {W:World} (o:Obj) (hs:I W):I (W.alloc o):=
 h W _ none hs (World.grownBy_alloc W o none) (fun r e=>by cases e)
theorem zVS.drawn {B:Nat} {I:World→Prop} (h:zVS B I) {W:World} (d:Nat) (hs:I W):I { W with drawn:=d }:=
 h W _ none hs ⟨rfl,rfl,rfl,Nat.le_refl _,fun _ _ _=>rfl⟩ (fun r e=>by cases e)
theorem jXW {P:Program} {g:Operand} {ps:Array Tmp} {assign body:Code} {Q:Exit→Act→World→Prop} {a:Act} {w:World} {m gf:Nat} {lb:Array Value}
  (hg:a.eval g=.func (.func gf) #[] lb) (eg:∀ args w,(callFunc gf args).run P w=.ok (.enter gf args) w)
  {caps:List (Bool × List DV)} {N:Nat} {item:Nat→List DV} (hseq:AnsI P gf caps N item) (hps:∀ k,k < N→(item k).length=ps.size)
  (I:Nat→World→Prop) (Ix:Code→World→Prop) (hI:∀ k,zVS w.heap.size (I k)) (hIx:∀ c,zVS w.heap.size (Ix c))
  (hcaps:∀ k W,I k W→jZP W caps lb.toList) (h0:I 0 w)
  (hround:∀ l k W,k < N→I k W →
   assign.wpIn (Fence.wide.inRound l) m P (Exit.then (fun a1 W1=>KeepsOthers W W1∧∀ W2,W1.grownBy W2 (some l)→w.heap.size≤l→(∃ r:Loop,W1.heap[l]?=some (.loop r)) →
    body.wpIn (Fence.wide.inRound l) m P (jYU (I (k+1)) Ix W2) a1 W2) (fun _ _ _=>False))
    { tmps:=(ps.zip (zGc (item k))).foldl (fun t (p,v)=>t.setIfInBounds p v) a.tmps,defers:=[] } W)
  (hdone:∀ (D:Nat) (W:World),w.heap.size≤D→I N W→W.heap[D]?=some (.deferred (some []))→Q .normal { a with defers:={ target:=.collected D,args:=#[] }::a.defers } W)
  (hstop:∀ (D:Nat) (c:Code) (W:World),w.heap.size≤D→Ix c W→W.heap[D]?=some (.deferred (some []))→c.wpIn Fence.wide m P Q { a with defers:={ target:=.collected D,args:=#[] }::a.defers } W) :
  (Code.rangeFunc g ps assign body).wpIn Fence.wide m P Q a w:=by
 refine wpIn_rangeFunc ?_
 intro fn hfn
 show ∃ (l:Nat) (mark:List Deferred) (w₁:World) (d:Deferred) (w₁':World) (f:FuncId) (args:Array Value) (w₂:World),(Instr.enterLoop fn a.tmps ps assign body none).run P w=_∧_
 obtain ⟨rec,hrec⟩:∃ rec:LoopState→Option Code→Loop,rec=fun st pe=>{ state:=st,pending:=pe,fn,tmps:=a.tmps,params:=ps,assign,body,defers:=w.heap.size }:=⟨_,rfl⟩
 obtain ⟨W1,hW1⟩:∃ W1,(w.alloc (.deferred (some []))).alloc (.loop (rec .ready none))=W1:=⟨_,rfl⟩
 have hL1:W1.heap[w.heap.size+1]?=some (.loop (rec .ready none)):=by
  rw [← hW1]; have:=World.alloc_heap_new (w.alloc (.deferred (some []))) (.loop (rec .ready none)); rwa [World.size_alloc] at this
 have hK1:W1.heap[w.heap.size]?=some (.deferred (some [])):=by
  rw [← hW1]; exact (Below.heap_alloc _ _ _ (by simp)).trans (World.alloc_heap_new w _)
 have hI1:I 0 W1:=by rw [← hW1]; exact (hI 0).new_ _ ((hI 0).new_ _ h0)
 refine ⟨w.heap.size+1,[{ target:=.collected w.heap.size,args:=#[] }],W1,{ target:=.fn (.func gf) lb,args:=#[.func (.yield (w.heap.size+1)) #[] #[]] },W1,gf,
  #[.func (.yield (w.heap.size+1)) #[] #[]]++lb,W1,?_,?_,?_,?_,fun h=>by (cases h),?_⟩
 ·rw [← hW1,hrec]; exact run_enterLoop_outer _ _ _ _ _
 ·simp only [resolve,hg]
  simp [go_sem]
 ·intro f' hf'; trivial
 ·simp [invoke,go_sem,eg]
 ·refine CallsIn.mono (hseq lb (w.heap.size+1) (m - 1)
   (fun k W=>I k W∧W.heap[w.heap.size+1]?=some (.loop (rec .ready none))∧W.heap[w.heap.size]?=some (.deferred (some [])))
   (fun W=>∃ c,Ix c W∧W.heap[w.heap.size+1]?=some (.loop (rec .done (some c)))∧W.heap[w.heap.size]?=some (.deferred (some [])))
   (fun k W h=>hcaps k W h.1) (fun k W d h=>⟨(hI k).drawn d h.1,h.2.1,h.2.2⟩) (fun W d ⟨c,h1,h2,h3⟩=>⟨c,(hIx c).drawn d h1,h2,h3⟩) ?_ W1 ⟨hI1,hL1,hK1⟩) ?_
  ·
   rintro k W hk ⟨hi,hl,hkd⟩
   have hy:=run_yield (P:=P) (args:=zGc (item k)) hl (by rw [hrec]; simp only [zGc,List.size_toArray,List.length_map]; exact hps k hk)
   rw [hrec] at hy
   refine ⟨fn,_,assign,body,hy,roundIn_of_wpIn trivial ?_⟩
   have hr:=hround (w.heap.size+1) k W hk hi
   have hr:assign.wpIn (Fence.wide.inRound (w.heap.size+1)) (m - 1) P _ _ W:=fun b k cs h1 h2 _=>hr b k cs h1 h2 (Wide.room (.inr ⟨_,rfl⟩) _)
   refine wpIn_mono hr ?_
   intro e a1 Wa hq
   cases e with
   | normal=>
    obtain ⟨hka,hq⟩:=hq
    have hla:=hka.same _ _ hl rfl
    have hda:=hka.same _ _ hkd rfl
    have hbr:=run_beginRound (P:=P) hla (by rw [hrec])
    refine ⟨_,hbr,?_⟩
    have hlt:w.heap.size+1 < Wa.heap.size:=(Array.getElem?_eq_some_iff.1 hla).1
    have hl2:(Wa.putObj (w.heap.size+1) (.loop { rec .ready none with state:=.busy })).heap[w.heap.size+1]?=some (.loop { rec .ready none with state:=.busy }):=World.putObj_heap_same hlt
    have hk2:(Wa.putObj (w.heap.size+1) (.loop { rec .ready none with state:=.busy })).heap[w.heap.size]?=some (.deferred (some [])):=(World.putObj_heap_other (by omega)).trans hda
    have hb:=hq _ (grownBy_putObj' Wa (w.heap.size+1) (.loop { rec .ready none with state:=.busy })) (by omega) ⟨_,hla⟩
    have hb:body.wpIn (Fence.wide.inRound (w.heap.size+1)) (m - 1) P _ a1 _:=fun b k cs h1 h2 _=>hb b k cs h1 h2 (Wide.room (.inr ⟨_,rfl⟩) _)
    refine wpIn_mono hb ?_
    have fin:∀ (jump:Option Code) (W3:World),KeepsOthers (Wa.putObj (w.heap.size+1) (.loop { rec .ready none with state:=.busy })) W3 →
      (Instr.endRound (w.heap.size+1) jump).run P W3=.ok (.bool jump.isNone) (W3.putObj (w.heap.size+1) (.loop (rec (if jump.isNone then .ready else .done) jump))) ∧
      W3.heap[w.heap.size+1]?=some (.loop { rec .ready none with state:=.busy }) ∧
      (W3.putObj (w.heap.size+1) (.loop (rec (if jump.isNone then .ready else .done) jump))).heap[w.heap.size+1]?=some (.loop (rec (if jump.isNone then .ready else .done) jump)) ∧
      (W3.putObj (w.heap.size+1) (.loop (rec (if jump.isNone then .ready else .done) jump))).heap[w.heap.size]?=some (.deferred (some [])):=fun jump W3 hk3=>by
     have hl3:=hk3.same _ _ hl2 rfl
     have:=run_endRound (P:=P) jump hl3
     rw [hrec] at this ⊢
     exact ⟨this,by rw [hrec] at hl3; exact hl3,World.putObj_heap_same (Array.getElem?_eq_some_iff.1 hl3).1,(World.putObj_heap_other (by omega)).trans (hk3.same _ _ hk2 rfl)⟩
    intro e3 a3 W3 hp
    cases e3 with
    | normal=>
     obtain ⟨hk3,hi3⟩:=hp
     obtain ⟨hr,hl3,hl4,hk4⟩:=fin none W3 hk3
     exact ⟨_,_,hr,.inl ⟨rfl,(hI _).put _ hi3 (by omega) hl3 rfl,hl4,hk4⟩⟩
    | ret=>
     obtain ⟨hk3,hi3⟩:=hp
     obtain ⟨hr,hl3,hl4,hk4⟩:=fin (some .ret) W3 hk3
     exact ⟨_,_,hr,.inr ⟨rfl,.ret,(hIx _).put _ hi3 (by omega) hl3 rfl,hl4,hk4⟩⟩
    | exit id=>
     obtain ⟨hk3,hi3⟩:=hp
     obtain ⟨hr,hl3,hl4,hk4⟩:=fin (some (.exit id)) W3 hk3
     exact ⟨_,_,hr,.inr ⟨rfl,.exit id,(hIx _).put _ hi3 (by omega) hl3 rfl,hl4,hk4⟩⟩
    | goto t=>exact hp.elim
    | panic ch=>exact hp.elim
    | outgrown=>exact hp.elim
   | ret=>exact hq.elim
   | exit id=>exact hq.elim
   | goto t=>exact hq.elim
   | panic ch=>exact hq.elim
   | outgrown=>exact hq.elim
  ·
   rintro e W2 ⟨⟨v,rfl⟩,(⟨hi,hl,hk⟩ | ⟨c,hi,hl,hk⟩)⟩
   ·exact ⟨none,_,by have:=run_endLoop (P:=P) hl (by rw [hrec]; simp); rw [hrec] at this; exact this,hdone _ _ (Nat.le_refl _) ((hI _).put _ hi (by omega) hl rfl) ((World.putObj_heap_other (by omega)).trans hk)⟩
   ·exact ⟨some c,_,by have:=run_endLoop (P:=P) hl (by rw [hrec]; simp); rw [hrec] at this; exact this,hstop _ c _ (Nat.le_refl _) ((hIx c).put _ hi (by omega) hl rfl) ((World.putObj_heap_other (by omega)).trans hk)⟩
structure Snap where
  tm:List (Nat × AV)
  bx:List (Nat × Bx)
def jZ6:List (Nat × AV)→Nat→AV
 | [],_=>.one .dead
 |(t',v)::r,t=>if t=t' then v else jZ6 r t
def zXA:List (Nat × Bx)→Nat→Bx
 | [],_=>.fresh
 |(t',v)::r,t=>if t=t' then v else zXA r t
def Snap.as (sn:Snap):AS:=⟨jZ6 sn.tm,zXA sn.bx⟩
abbrev Ren:=List (Nat × Option Nat)
def zKq:Ren→Nat→Option (Option Nat)
 | [],_=>none
 |(b',x)::r,b=>if b=b' then some x else zKq r b
def jZL:Cap→Cap→Option (Prop × Ren)
 | .d v,.d v'=>some (v'=v,[])
 | .ptr b off,.ptr b' off'=>some (off'=off,[(b,some b')])
 | _,_=>none
def zUb:List Cap→List Cap→Option (Prop × Ren)
 | [],[]=>some (True,[])
 | c::cs,c'::cs'=>match jZL c c',zUb cs cs' with
  | some (p,r),some (q,r')=>some (p∧q,r++r')
  | _,_=>none
 | _,_=>none
def jXi:Cl→Cl→Option (Prop × Ren)
 | .dead,_=>some (True,[])
 | .d v,.d v'=>some (v'=v,[])
 | .d v,.lit (.bool b)=>some (DV.bool b=v,[])
 | .d v,.nil=>some (DV.sl 0 []=v,[])
 | .lit u,.lit u'=>some (u'=u,[])
 | .nil,.nil=>some (True,[])
 | .ptr b off,.ptr b' off'=>some (off'=off,[(b,some b')])
 | .vp cs off,.vp cs' off'=>some (cs'=cs∧off'=off,[])
 | .ref b n,.ref b' n'=>some (n'=n,[(b,some b')])
 | .ref b n,.nil=>some (0=n,[(b,none)])
 | .clo f cs,.clo f' cs'=>if f'=f then zUb cs cs' else none
 | _,_=>none
def zKu:List Cl→List Cl→Option (Prop × Ren)
 | [],[]=>some (True,[])
 | c::cs,c'::cs'=>match jXi c c',zKu cs cs' with
  | some (p,r),some (q,r')=>some (p∧q,r++r')
  | _,_=>none
 | _,_=>none
def zUe:List Cl→Option (List DV)
 | []=>some []
 | .d v::cs=>match zUe cs with
  | some vs=>some (v::vs)
  | none=>none
 | _::_=>none
def zU9 (cs cs':List Cl):Option (Prop × Ren):=match zUe cs,dvs cs' with
 | some xs,some ys=>some (ys=xs,[])
 | _,_=>zKu cs cs'
mutual
def zKv:AV→AV→Option (Prop × Ren)
 | .one c,.one c'=>jXi c c'
 | .one .dead,_=>some (True,[])
 | .agg cs,.agg cs'=>zU9 cs cs'
 | .tup vs,.tup vs'=>fitAVs vs vs'
 | _,_=>none
def fitAVs:List AV→List AV→Option (Prop × Ren)
 | [],[]=>some (True,[])
 | x::xs,y::ys=>match zKv x y,fitAVs xs ys with
  | some (p,r),some (q,r')=>some (p∧q,r++r')
  | _,_=>none
 | _,_=>none
end
def jYu (s:AS):List (Nat × AV)→Option (Prop × Ren)
 | []=>some (True,[])
 |(t,v)::l=>match zKv v (s.tm t),jYu s l with
  | some (p,r),some (q,r')=>some (p∧q,r++r')
  | _,_=>none
def jXk:Bx→Bx→Option (Prop × Ren)
 | .cells cs,.cells cs'=>zU9 cs cs'
 | .row e size xs,.row e' size' xs'=>if e'=e∧size'=size then some (xs'=xs,[]) else none
 | .ice xs,.ice xs'=>some (xs'=xs,[])
 | .gone,.gone=>some (True,[])
 | _,_=>none
def zVO (s:AS):List (Nat × Bx)→Ren→Option (Prop × Ren)
 | [],r=>some (True,r)
 |(b,B)::l,r=>match zKq r b with
  | some (some b')=>match jXk B (s.bx b') with
   | some (p,r')=>match zVO s l (r++r') with
    | some (q,r'')=>some (p∧q,r'')
    | none=>none
   | none=>none
  | some none=>match B with
   | .row _ _ xs=>match zVO s l r with
    | some (q,r'')=>some ([]=xs∧q,r'')
    | none=>none
   | _=>none
  | none=>none
def jKI (bx:List (Nat × Bx)) (r:Ren):Bool:=
 (r.all fun p=>(zKq r p.1==some p.2) && bx.any fun q=>q.1==p.1) &&
 (r.all fun p=>r.all fun q=>p.1==q.1 || p.2==none || p.2 != q.2) && decide ((bx.map (·.1)).Nodup)
def pins (l:List Nat):Ren:=l.map fun j=>(j,some j)
def jKu (n:Dom) (s:AS) (sn:Snap):Prop:=
 match jYu s sn.tm with
 | some (p,r)=>match zVO s sn.bx (r++pins n.pin) with
  | some (q,r')=>match jKI sn.bx r' with
   | true=>p∧q
   | false=>False
  | none=>False
 | none=>False
def AS.melt1 (s:AS) (t:Nat):AS:=match s.tm t with
 | .one (.ref b n)=>match zXp (s.bx b) with
  | some xs=>⟨fun t'=>if t'=t then .one (.d (.sl n xs)) else s.tm t',fun b'=>if b'=b then (s.bx b).freeze else s.bx b'⟩
  | none=>s
 | _=>s
def meltFor:List (Nat × AV)→AS→AS
 | [],s=>s
 |(t,.one (.d _))::l,s=>meltFor l (s.melt1 t)
 | _::l,s=>meltFor l s
def fits (n:Dom) (s:AS) (sn:Snap):Prop:=jKu n (meltFor sn.tm s) sn
structure Inv where
  α:Type
  ok:α→Prop
  st:α→Snap
  μ:α→Nat
inductive Ann:Type 1 where
  | leaf
  | seq (a b:Ann)
  | loop (I:Inv) (a:I.α→Ann)
  | cut (I:Inv) (a:Ann) (b:I.α→Ann)
  | link (I:Inv) (a:I.α→Ann) (next:Ann)
  | split (a:Ann) (t:Nat) (bs:Ann)
  | opt (v:Int) (b:Ann) (next:Ann)
  | sure (b:Bool) (a:Ann)
  | ice (bs ts:List Nat) (a b:Ann)
  | splitAt (i t:Nat) (vs:List Int)
  | range (I:Inv) (T:List Nat) (a b:I.α→Ann)
def Ann.l:Ann→Ann
 | .seq a _=>a
 | _=>.leaf
def Ann.r:Ann→Ann
 | .seq _ b=>b
 | _=>.leaf
inductive zYm where
  | normal
  | exit (id:Nat)
  | ret
def kn0:Kn:=fun _=>none
def jZB (n:Dom):Ann→AS→Prop
 | .link I _ _,s=>∃ z,I.ok z∧fits n s (I.st z)
 | _,_=>False
def zHM (n:Dom) (f:Ann→Kn→AS→(zYm→Kn→AS→Prop)→Prop) (Q:zYm→Kn→AS→Prop):Ann→Prop
 | .link I a next=>(∀ z,I.ok z→f (a z) kn0 (I.st z).as fun e kn' s'=>match e with
   | .normal=>jZB n next s'
   | e=>Q e kn' s')∧zHM n f Q next
 | _=>True
def jY5 (e:Int):Ann→Prop
 | .opt v _ next=>e=v∨jY5 e next
 | _=>False
def jZs (f:Ann→Kn→AS→(zYm→Kn→AS→Prop)→Prop) (k:IntKind) (e:Int) (kn:Kn) (s:AS) (t:Nat) (Q:zYm→Kn→AS→Prop):Ann→Prop
 | .opt v b next=>(e=v→f b (zJm kn (some t) none) (s.put (some t) (.one (.d (.int k v)))) Q)∧jZs f k e kn s t Q next
 | _=>True
def jKL (f:Ann→Kn→AS→(zYm→Kn→AS→Prop)→Prop) (kn:Kn) (s:AS) (t:Nat) (bs:Ann) (Q:zYm→Kn→AS→Prop):Prop:=
 match s.tm t with
 | .one (.d (.int k e))=>jY5 e bs∧jZs f k e kn s t Q bs
 | _=>False
def zG8 (bx:Nat→Bx):Cap→Option (Bool × List DV)
 | .d v=>if v.plain.isSome then some (false,[v]) else none
 | .ptr b off=>if off=0 then match bx b with
  | .cells cs=>match dvs cs with
   | some ds=>if ds.all (fun d=>d.plain.isSome) then some (true,ds) else none
   | none=>none
  | _=>none else none
def zJb (bx:Nat→Bx):List Cap→Option (List (Bool × List DV))
 | []=>some []
 | c::cs=>match zG8 bx c,zJb bx cs with
  | some x,some xs=>some (x::xs)
  | _,_=>none
def AS.only (T:List Nat) (s:AS):AS:=⟨fun t=>if T.contains t then s.tm t else .one .dead,s.bx⟩
def AS.putAll:AS→List Nat→List DV→AS
 | s,p::ps,d::ds=>(s.put (some p) (.one (.d d))).putAll ps ds
 | s,_,_=>s
def Dom.pinned (n:Dom) (names:List Nat):Dom:=⟨n.n,n.keep,n.pin++names,n.round⟩
def Dom.inner (n:Dom) (T names:List Nat):Dom:=⟨n.n,fun t=>n.keep t || T.contains t,n.pin++names,true⟩
def jX1:DV→Prop
 | .int k n=>k.min≤n∧n≤k.max
 | .bool _=>True
 | .str s=>s.size≤maxLen
 | _=>False
def zGB:List DV→Prop
 | []=>True
 | d::ds=>jX1 d∧zGB ds
def psOK (ps T:List Nat) (n:Dom):Bool:=(ps.all fun p=>decide (p < n.n) && !T.contains p && !n.keep p) && decide ps.Nodup
abbrev VCF:=Dom→Ann→Kn→AS→(zYm→Kn→AS→Prop)→Prop
def jQK (P:Program) (Γ:Gam) (n:Dom) (fA fB:VCF) (g:Operand) (ps:List Nat) (I:Inv) (T:List Nat) (a b:I.α→Ann) (s:AS) (Q:zYm→Kn→AS→Prop):Prop:=
 match s.eval g with
 | .one (.clo f cs)=>match zJb s.bx cs,enters P f && !n.round && psOK ps T n with
  | some caps,true=>match Γ.iter f caps with
   | some (N,item)=>
    AnsI P f caps N item∧(∀ k,k < N→(item k).length=ps.length∧zGB (item k)) ∧
    (∃ z,I.ok z∧I.μ z=0∧fits (n.pinned (cs.flatMap Cap.names)) s (I.st z)) ∧
    (∀ z,I.ok z→zJb (zXA (I.st z).bx) cs=some caps ∧
     (I.μ z < N→fA (n.inner T (cs.flatMap Cap.names)) (a z) kn0 (((I.st z).as.only T).putAll ps (item (I.μ z))) fun e kn' s'=>match e with
      | .normal=>fB (n.inner T (cs.flatMap Cap.names)) (b z) kn' s' fun e kn' s'=>match e with
       | .normal=>∃ y,I.ok y∧I.μ y=I.μ z+1∧fits (n.inner T (cs.flatMap Cap.names)) s' (I.st y)
       | e=>Q e kn0 (s'.only T)
      | _=>False) ∧
     (I.μ z=N→Q .normal kn0 ((I.st z).as.only T)))
   | none=>False
  | _,_=>False
 | _=>False
def melts:AS→List Nat→AS
 | s,[]=>s
 | s,t::ts=>melts (s.melt1 t) ts
def orIs (e:Int):List Int→Prop
 | []=>False
 | v::vs=>e=v∨orIs e vs
def jJw (e:Int) (k:IntKind) (t:Nat) (s:AS) (K:AS→Prop):List Int→Prop
 | []=>True
 | v::vs=>(e=v→K (s.put (some t) (.one (.d (.int k v)))))∧jJw e k t s K vs
def jQu (vs:List Int) (t:Nat) (s:AS) (K:AS→Prop):Prop:=
 match s.tm t with
 | .one (.d (.int k e))=>orIs e vs∧jJw e k t s K vs
 | _=>False
def jJR (P:Program) (Γ:Gam) (n:Dom) (ops:Array Oper) (ann:Ann) (kn:Kn) (s:AS) (K:Kn→AS→List (List Nat × List Nat)→Prop):Prop:=
 match ann with
 | .splitAt i t vs=>zYB P Γ n ops ((List.range ops.size).take (i+1)) kn s [] fun kn' s' acc=>jQu vs t s' fun s2=>zYB P Γ n ops ((List.range ops.size).drop (i+1)) kn' s2 acc K
 | _=>zYB P Γ n ops (List.range ops.size) kn s [] K
def vcg (P:Program) (Γ:Gam):Dom→Code→Ann→Kn→AS→(zYm→Kn→AS→Prop)→Prop
 | _,.skip,_,kn,s,Q=>Q .normal kn s
 | _,.label _,_,kn,s,Q=>Q .normal kn s
 | _,.exit id,_,kn,s,Q=>Q (.exit id) kn s
 | _,.ret,_,kn,s,Q=>Q .ret kn s
 | n,.region _ ops draw,ann,kn,s,Q=>jJR P Γ n ops ann kn s fun kn' s' acc=>match draw with
  | true=>jYY ops (fun i=>acc.reverse.getD i ([],[]))=true∧Q .normal kn' s'
  | false=>Q .normal kn' s'
 | n,.seq x y,ann,kn,s,Q=>match ann with
  | .cut I a b=>vcg P Γ n x a kn s (fun e kn' s'=>match e with
    | .normal=>∃ z,I.ok z∧fits n s' (I.st z)
    | e=>Q e kn' s')∧∀ z,I.ok z→vcg P Γ n y (b z) kn0 (I.st z).as Q
  | .ice bs ts a b=>vcg P Γ n x a kn s fun e kn' s'=>match e with
    | .normal=>vcg P Γ n y b kn' (melts (ices s' bs) ts) Q
    | e=>Q e kn' s'
  | .split a t bs=>vcg P Γ n x a kn s fun e kn' s'=>match e with
    | .normal=>jKL (vcg P Γ n y) kn' s' t bs Q
    | e=>Q e kn' s'
  | ann=>vcg P Γ n x ann.l kn s fun e kn' s'=>match e with
    | .normal=>vcg P Γ n y ann.r kn' s' Q
    | e=>Q e kn' s'
 | n,.cond c x y,ann,kn,s,Q=>match ann with
  | .sure b a=>match (s.eval c).bool? with
   | some b'=>b'=b∧match b with
    | true=>vcg P Γ n x a kn s Q
    | false=>vcg P Γ n y a kn s Q
   | none=>False
  | ann=>match kx kn c with
   | some true=>vcg P Γ n x ann.l kn s Q
   | some false=>vcg P Γ n y ann.r kn s Q
   | none=>match (s.eval c).bool? with
    | some b=>(b=true→vcg P Γ n x ann.l kn s Q)∧(b=false→vcg P Γ n y ann.r kn s Q)
    | none=>False
 | n,.block id c,ann,kn,s,Q=>vcg P Γ n c ann kn s fun e kn' s'=>match e with
  | .exit id'=>match decide (id'=id) with
   | true=>Q .normal kn' s'
   | false=>Q (.exit id') kn' s'
  | e=>Q e kn' s'
 | n,.loop c,ann,kn,s,Q=>match ann with
  | .loop I a=>(∃ z,I.ok z∧fits n s (I.st z))∧∀ z,I.ok z→vcg P Γ n c (a z) kn0 (I.st z).as fun e kn' s'=>match e with
    | .normal=>∃ y,I.ok y∧I.μ y < I.μ z∧fits n s' (I.st y)
    | e=>Q e kn' s'
  | .link I a next=>jZB n (.link I a next) s∧zHM n (vcg P Γ n c) Q (.link I a next)
  | _=>False
 | n,.rangeFunc g ps x y,ann,kn,s,Q=>match ann with
  | .range I T a b=>jQK P Γ n (fun n'=>vcg P Γ n' x) (fun n'=>vcg P Γ n' y) g ps.toList I T a b s Q
  | _=>False
 | _,_,_,_,_,_=>False
section
variable {w:World} {V:Nat→Prop} {ι:zQk} {bx:Nat→Bx}
def nm (ι:zQk) (r:Ren):zQk:=fun b=>match zKq r b with
 | some (some b')=>ι b'
 | _=>none
theorem jXj {ι':zQk} {bx':Nat→Bx} {c c':Cap} {v:Value} {p:Prop} {r r':Ren} (hf:jZL c c'=some (p,r)) (hp:p) (hr:∀ q∈r,zKq r' q.1=some q.2∧(bx' q.1).known=true) (hι:∀ b,ι' b=nm ι r' b)
  (h:zKh ι bx w V c' v):zKh ι' bx' w V c v:=by
 unfold jZL at hf
 split at hf <;> first
  |(injection hf with hf; injection hf with hf1 hf2; subst hf1 hf2)
  | cases hf
 ·subst hp; exact h
 ·obtain ⟨h1,g,c,h2,h3⟩:=h
  subst hp
  obtain ⟨e1,e2⟩:=hr _ (List.mem_singleton.2 rfl)
  simp only at e1 e2
  exact ⟨e2,g,c,by rw [hι]; simp only [nm,e1]; exact h2,h3⟩
theorem zUa {ι':zQk} {bx':Nat→Bx} {r':Ren} (hι:∀ b,ι' b=nm ι r' b):∀ {cs cs':List Cap} {vs:List Value} {p:Prop} {r:Ren},zUb cs cs'=some (p,r)→p→(∀ q∈r,zKq r' q.1=some q.2∧(bx' q.1).known=true) →
  zZ0 ι bx w V cs' vs→zZ0 ι' bx' w V cs vs
 | [],[],[],_,_,_,_,_,_=>trivial
 | [],[],_::_,_,_,_,_,_,h=>h.elim
 | c::cs,c'::cs',[],_,_,_,_,_,h=>h.elim
 | c::cs,c'::cs',v::vs,p,r,hf,hp,hr,h=>by
  simp only [zUb] at hf
  cases h1:jZL c c' with
  | none=>rw [h1] at hf; cases hf
  | some x=>
   cases h2:zUb cs cs' with
   | none=>rw [h1,h2] at hf; cases hf
   | some y=>
    rw [h1,h2] at hf
    simp only [Option.some.injEq,Prod.mk.injEq] at hf
    obtain ⟨rfl,rfl⟩:=hf
    exact ⟨jXj h1 hp.1 (fun q hq=>hr q (by simp [hq])) hι h.1,zUa hι h2 hp.2 (fun q hq=>hr q (by simp [hq])) h.2⟩
 | [],_::_,_,_,_,hf,_,_,_=>by cases hf
 | _::_,[],_,_,_,hf,_,_,_=>by cases hf
theorem zH8 {ι':zQk} {bx':Nat→Bx} {c c':Cl} {v:Value} {p:Prop} {r r':Ren} (hf:jXi c c'=some (p,r)) (hp:p) (hr:∀ q∈r,zKq r' q.1=some q.2∧(bx' q.1).known=true) (hι:∀ b,ι' b=nm ι r' b)
  (h:zQt w V ι bx c' v):zQt w V ι' bx' c v:=by
 unfold jXi at hf
 split at hf <;> first
  |(injection hf with hf; injection hf with hf1 hf2; subst hf1 hf2)
  | cases hf
  | skip
 ·trivial
 ·subst hp; exact h
 ·subst hp; exact zXn (d:=.bool _) h rfl
 ·subst hp; exact zXn (d:=.sl 0 []) h rfl
 ·subst hp; exact h
 ·exact h
 ·obtain ⟨h1,g,c,h2,h3⟩:=h
  subst hp
  obtain ⟨e1,e2⟩:=hr _ (List.mem_singleton.2 rfl)
  simp only at e1 e2
  exact ⟨e2,g,c,by rw [hι]; simp only [nm,e1]; exact h2,h3⟩
 ·obtain ⟨rfl,rfl⟩:=hp; exact h
 ·obtain ⟨h1,h2⟩:=h
  subst hp
  obtain ⟨e1,e2⟩:=hr _ (List.mem_singleton.2 rfl)
  simp only at e1 e2
  exact ⟨e2,by rw [hι]; simp only [nm,e1]; exact h2⟩
 ·subst hp
  obtain ⟨e1,e2⟩:=hr _ (List.mem_singleton.2 rfl)
  simp only at e1 e2
  exact ⟨e2,.inl ⟨by rw [hι]; simp only [nm,e1],rfl,h⟩⟩
 ·split at hf
  ·rename_i e
   subst e
   obtain ⟨lb,h1,h2⟩:=h
   exact ⟨lb,h1,zUa hι hf hp hr h2⟩
  ·cases hf
theorem zW9 {ι':zQk} {bx':Nat→Bx} {r':Ren} (hι:∀ b,ι' b=nm ι r' b):∀ {cs cs':List Cl} {vs:List Value} {p:Prop} {r:Ren},zKu cs cs'=some (p,r)→p→(∀ q∈r,zKq r' q.1=some q.2∧(bx' q.1).known=true) →
  zQF w V ι bx cs' vs→zQF w V ι' bx' cs vs
 | [],[],[],_,_,_,_,_,_=>trivial
 | [],[],_::_,_,_,_,_,_,h=>h.elim
 | c::cs,c'::cs',[],_,_,_,_,_,h=>h.elim
 | c::cs,c'::cs',v::vs,p,r,hf,hp,hr,h=>by
  simp only [zKu] at hf
  cases h1:jXi c c' with
  | none=>rw [h1] at hf; cases hf
  | some x=>
   cases h2:zKu cs cs' with
   | none=>rw [h1,h2] at hf; cases hf
   | some y=>
    rw [h1,h2] at hf
    simp only [Option.some.injEq,Prod.mk.injEq] at hf
    obtain ⟨rfl,rfl⟩:=hf
    exact ⟨zH8 h1 hp.1 (fun q hq=>hr q (by simp [hq])) hι h.1,zW9 hι h2 hp.2 (fun q hq=>hr q (by simp [hq])) h.2⟩
 | [],_::_,_,_,_,hf,_,_,_=>by cases hf
 | _::_,[],_,_,_,hf,_,_,_=>by cases hf
theorem zUN {w:World} {V:Nat→Prop} {ι:zQk} {bx:Nat→Bx}:∀ {cs:List Cl} {vs:List Value} {ds:List DV},zUe cs=some ds→zQ2 w V ds vs→zQF w V ι bx cs vs
 | [],[],_,_,_=>trivial
 | [],_::_,ds,hd,h=>by simp only [zUe,Option.some.injEq] at hd; subst hd; exact h.elim
 | c::cs,vs,ds,hd,h=>by
  cases c <;> simp only [zUe,reduceCtorEq] at hd
  rename_i v
  cases h2:zUe cs with
  | none=>rw [h2] at hd; cases hd
  | some ds'=>
   rw [h2] at hd
   simp only [Option.some.injEq] at hd
   subst hd
   cases vs with
   | nil=>exact h.elim
   | cons u vs=>exact ⟨h.1,zUN h2 h.2⟩
theorem jKd {c:Cl} (h:nilC c=true):c=.lit (.pointer none):=by
 unfold nilC at h
 split at h
 ·rfl
 ·cases h
theorem jQ4 {cs cs':List Cl} {p:Prop} {r:Ren} (hf:zU9 cs cs'=some (p,r)) (hp:p) (hn:zJw cs=true):zJw cs'=true:=by
 cases cs with
 | nil=>cases hn
 | cons c0 tl=>
  obtain rfl:=jKd hn
  have h0:zUe (Cl.lit (.pointer none)::tl)=none:=rfl
  unfold zU9 at hf
  rw [h0] at hf
  simp only at hf
  cases cs' with
  | nil=>simp [zKu] at hf
  | cons c cs'=>
   simp only [zKu] at hf
   split at hf
   ·rename_i p1 r1 q1 r2 h1 h2
    cases c <;> simp only [jXi,reduceCtorEq] at h1
    rename_i u
    simp only [Option.some.injEq,Prod.mk.injEq] at h1 hf
    obtain ⟨rfl,rfl⟩:=h1
    obtain ⟨rfl,rfl⟩:=hf
    obtain ⟨rfl,_⟩:=hp
    rfl
   ·cases hf
theorem zU8 {ι':zQk} {bx':Nat→Bx} {r':Ren} (hι:∀ b,ι' b=nm ι r' b) {cs cs':List Cl} {vs:List Value} {p:Prop} {r:Ren} (hf:zU9 cs cs'=some (p,r)) (hp:p) (hr:∀ q∈r,zKq r' q.1=some q.2∧(bx' q.1).known=true)
  (h:zQF w V ι bx cs' vs):zQF w V ι' bx' cs vs:=by
 unfold zU9 at hf
 split at hf
 ·rename_i xs ys h1 h2
  simp only [Option.some.injEq,Prod.mk.injEq] at hf
  obtain ⟨rfl,rfl⟩:=hf
  subst hp
  exact zUN h1 (zKp h h2)
 ·exact zW9 hι hf hp hr h
mutual
theorem zH9 {ι':zQk} {bx':Nat→Bx} {r':Ren} (hι:∀ b,ι' b=nm ι r' b):∀ {x y:AV} {v:Value} {p:Prop} {r:Ren},zKv x y=some (p,r)→p→(∀ q∈r,zKq r' q.1=some q.2∧(bx' q.1).known=true) →
  zQh w V ι bx y v→zQh w V ι' bx' x v
 | .one c,.one c',v,p,r,hf,hp,hr,h=>by
  simp only [zKv] at hf
  simp only [zQh] at h ⊢
  exact zH8 hf hp hr hι h
 | .one c,.agg cs',v,p,r,hf,hp,hr,h=>by
  cases c <;> simp only [zKv,reduceCtorEq] at hf
  simp only [zQh,zQt]
 | .one c,.tup vs',v,p,r,hf,hp,hr,h=>by
  cases c <;> simp only [zKv,reduceCtorEq] at hf
  simp only [zQh,zQt]
 | .agg cs,.agg cs',v,p,r,hf,hp,hr,h=>by
  simp only [zKv] at hf
  simp only [zQh] at h ⊢
  obtain ⟨cur,e,h⟩:=h
  exact ⟨cur,e,zU8 hι hf hp hr h⟩
 | .tup vs,.tup vs',v,p,r,hf,hp,hr,h=>by
  simp only [zKv] at hf
  simp only [zQh] at h ⊢
  obtain ⟨cur,e,h⟩:=h
  exact ⟨cur,e,fitAVs_rep hι hf hp hr h⟩
 | .agg _,.one _,_,_,_,hf,_,_,_=>by simp [zKv] at hf
 | .agg _,.tup _,_,_,_,hf,_,_,_=>by simp [zKv] at hf
 | .tup _,.one _,_,_,_,hf,_,_,_=>by simp [zKv] at hf
 | .tup _,.agg _,_,_,_,hf,_,_,_=>by simp [zKv] at hf
theorem fitAVs_rep {ι':zQk} {bx':Nat→Bx} {r':Ren} (hι:∀ b,ι' b=nm ι r' b):∀ {xs ys:List AV} {vs:List Value} {p:Prop} {r:Ren},fitAVs xs ys=some (p,r)→p→(∀ q∈r,zKq r' q.1=some q.2∧(bx' q.1).known=true) →
  RepAVs w V ι bx ys vs→RepAVs w V ι' bx' xs vs
 | [],[],vs,_,_,_,_,_,h=>by
  cases vs with
  | nil=>simp only [RepAVs]
  | cons _ _=>simp only [RepAVs] at h
 | x::xs,y::ys,[],_,_,_,_,_,h=>by simp only [RepAVs] at h
 | x::xs,y::ys,v::vs,p,r,hf,hp,hr,h=>by
  simp only [fitAVs] at hf
  cases h1:zKv x y with
  | none=>rw [h1] at hf; cases hf
  | some a=>
   cases h2:fitAVs xs ys with
   | none=>rw [h1,h2] at hf; cases hf
   | some b=>
    rw [h1,h2] at hf
    simp only [Option.some.injEq,Prod.mk.injEq] at hf
    obtain ⟨rfl,rfl⟩:=hf
    simp only [RepAVs] at h ⊢
    exact ⟨zH9 hι h1 hp.1 (fun q hq=>hr q (by simp [hq])) h.1,fitAVs_rep hι h2 hp.2 (fun q hq=>hr q (by simp [hq])) h.2⟩
 | [],_::_,_,_,_,hf,_,_,_=>by simp [fitAVs] at hf
 | _::_,[],_,_,_,hf,_,_,_=>by simp [fitAVs] at hf
end
end
theorem jZK {s:AS}:∀ {l:List (Nat × AV)} {p:Prop} {r:Ren},jYu s l=some (p,r)→p→∀ t,jZ6 l t=.one .dead∨∃ q r1,zKv (jZ6 l t) (s.tm t)=some (q,r1)∧q∧∀ x∈r1,x∈r
 | [],_,_,_,_,t=>.inl rfl
 |(t',v)::l,p,r,hf,hp,t=>by
  simp only [jYu] at hf
  cases h1:zKv v (s.tm t') with
  | none=>rw [h1] at hf; cases hf
  | some a=>
   cases h2:jYu s l with
   | none=>rw [h1,h2] at hf; cases hf
   | some b=>
    rw [h1,h2] at hf
    simp only [Option.some.injEq,Prod.mk.injEq] at hf
    obtain ⟨rfl,rfl⟩:=hf
    simp only [jZ6]
    by_cases e:t=t'
    ·subst e
     rw [if_pos rfl]
     exact .inr ⟨a.1,a.2,h1,hp.1,fun x hx=>by simp [hx]⟩
    ·rw [if_neg e]
     rcases jZK h2 hp.2 t with h3 | ⟨q,r1,h3,h4,h5⟩
     ·exact .inl h3
     ·exact .inr ⟨q,r1,h3,h4,fun x hx=>by simp [h5 x hx]⟩
theorem zXa {s:AS}:∀ {l:List (Nat × Bx)} {r r':Ren} {p:Prop},zVO s l r=some (p,r')→∀ x∈r,x∈r'
 | [],r,r',p,h,x,hx=>by simp only [zVO,Option.some.injEq,Prod.mk.injEq] at h; rw [← h.2]; exact hx
 |(b,B)::l,r,r',p,h,x,hx=>by
  simp only [zVO] at h
  split at h
  ·split at h
   ·split at h
    ·rename_i h3
     simp only [Option.some.injEq,Prod.mk.injEq] at h
     rw [← h.2]
     exact zXa h3 x (by simp [hx])
    ·cases h
   ·cases h
  ·split at h
   ·split at h
    ·rename_i h3
     simp only [Option.some.injEq,Prod.mk.injEq] at h
     rw [← h.2]
     exact zXa h3 x hx
    ·cases h
   ·cases h
  ·cases h
theorem zWz:∀ {r:Ren} {b:Nat} {x:Option Nat},zKq r b=some x→(b,x)∈r
 | [],_,_,h=>by cases h
 |(b',y)::r,b,x,h=>by
  simp only [zKq] at h
  split at h
  ·rename_i e; injection h with h; subst e h; simp
  ·simp [zWz h]
theorem zVb {s:AS}:∀ {l:List (Nat × Bx)} {r r':Ren} {p:Prop},zVO s l r=some (p,r')→p→(l.map (·.1)).Nodup→∀ b B,(b,B)∈l →
  (∃ b' q r1,(b,some b')∈r'∧jXk B (s.bx b')=some (q,r1)∧q∧∀ x∈r1,x∈r')∨((b,none)∈r'∧∃ e size,B=.row e size [])
 |(b0,B0)::l,r,r',p,h,hp,hn,b,B,hm=>by
  simp only [List.map_cons,List.nodup_cons] at hn
  simp only [zVO] at h
  split at h
  ·rename_i b' hren
   split at h
   ·rename_i q r1 h2
    split at h
    ·rename_i q2 r2 h3
     simp only [Option.some.injEq,Prod.mk.injEq] at h
     obtain ⟨rfl,rfl⟩:=h
     rcases List.mem_cons.1 hm with e | hm
     ·injection e with e1 e2
      subst e1 e2
      exact .inl ⟨b',q,r1,zXa h3 _ (by simp [zWz hren]),h2,hp.1,fun x hx=>zXa h3 x (by simp [hx])⟩
     ·exact zVb h3 hp.2 hn.2 b B hm
    ·cases h
   ·cases h
  ·rename_i hren
   split at h
   ·rename_i e size xs
    split at h
    ·rename_i q2 r2 h3
     simp only [Option.some.injEq,Prod.mk.injEq] at h
     obtain ⟨rfl,rfl⟩:=h
     rcases List.mem_cons.1 hm with e' | hm
     ·injection e' with e1 e2
      subst e1 e2
      exact .inr ⟨zXa h3 _ (zWz hren),e,size,by rw [← hp.1]⟩
     ·exact zVb h3 hp.2 hn.2 b B hm
    ·cases h
   ·cases h
  ·cases h
theorem zHL:∀ {l:List (Nat × Bx)} {b:Nat},(zXA l b).known=true→(b,zXA l b)∈l
 | [],_,h=>by simp [zXA,Bx.known] at h
 |(b',B)::l,b,h=>by
  simp only [zXA] at h ⊢
  by_cases e:b=b'
  ·subst e; simp
  ·rw [if_neg e] at h ⊢; simp [zHL h]
theorem zVJ:∀ {l:List (Nat × Bx)} {b:Nat} {B:Bx},(l.map (·.1)).Nodup→(b,B)∈l→zXA l b=B
 |(b',B')::l,b,B,hn,h=>by
  simp only [List.map_cons,List.nodup_cons] at hn
  rcases List.mem_cons.1 h with e | h
  ·injection e with e1 e2; subst e1 e2; simp [zXA]
  ·have:b≠b':=fun e=>hn.1 (by rw [← e]; exact List.mem_map.2 ⟨_,h,rfl⟩)
   simp only [zXA,if_neg this]
   exact zVJ hn.2 h
theorem RepS.fit0 {w0:World} {S:zQS} {n:Dom} {s:AS} {ι:zQk} {a:Act} {w:World} (h:RepS w0 S n s ι a w) {sn:Snap} (hf:jKu n s sn):∃ ι',RepS w0 S n sn.as ι' a w:=by
 unfold jKu at hf
 split at hf
 ·rename_i p r h1
  split at hf
  ·rename_i q r' h2
   split at hf
   ·rename_i hok
    obtain ⟨hp,hq⟩:=hf
    simp only [jKI,Bool.and_eq_true,List.all_eq_true,decide_eq_true_eq] at hok
    obtain ⟨⟨o1,o2⟩,o3⟩:=hok
    have hren:∀ x∈r',zKq r' x.1=some x.2:=fun x hx=>by
     have:=(o1 x hx).1
     exact eq_of_beq this
    have hinj:∀ b1 b2 b',(b1,some b')∈r'→(b2,some b')∈r'→b1=b2:=fun b1 b2 b' m1 m2=>by
     have:=o2 _ m1 _ m2
     simpa using this
    have hat:∀ b,(zXA sn.bx b).known=true→(∃ b' q r1,(b,some b')∈r'∧jXk (zXA sn.bx b) (s.bx b')=some (q,r1)∧q∧∀ x∈r1,x∈r')∨((b,none)∈r'∧∃ e size,zXA sn.bx b=.row e size []):=
     fun b hk=>zVb h2 hq o3 b _ (zHL hk)
    have hbxk:∀ x∈r',(sn.as.bx x.1).known=true:=fun x hx=>by
     have:=(o1 x hx).2
     rw [List.any_eq_true] at this
     obtain ⟨y,hy,e⟩:=this
     have e:y.1=x.1:=eq_of_beq e
     have hy':(x.1,y.2)∈sn.bx:=by rw [← e]; exact hy
     have hl:=zVJ o3 hy'
     show (zXA sn.bx x.1).known=true
     rw [hl]
     have hno:∀ B,(x.1,B)∈sn.bx→B.known=true:=fun B hB=>by
      rcases zVb h2 hq o3 x.1 B hB with ⟨b',q,r1,_,hfb,_⟩ | ⟨_,e',size,rfl⟩
      ·cases B <;> simp_all [jXk,Bx.known]
      ·rfl
     exact hno _ hy'
    have hknown:∀ x∈r',zKq r' x.1=some x.2∧(sn.as.bx x.1).known=true:=fun x hx=>⟨hren x hx,hbxk x hx⟩
    have hlive:∀ b,(sn.as.bx b).live=true→(∃ b',(b,some b')∈r'∧(s.bx b').live=true∧nm ι r' b=ι b')∨nm ι r' b=none:=fun b hl=>by
     have hk:(zXA sn.bx b).known=true:=by
      have hl':(zXA sn.bx b).live=true:=hl
      cases hB:zXA sn.bx b <;> rw [hB] at hl' <;> first | rfl | cases hl'
     rcases hat b hk with ⟨b',q,r1,m,hfb,_⟩ | ⟨m,_⟩
     ·left
      refine ⟨b',m,?_,by simp only [nm,hren _ m]⟩
      have hl':(zXA sn.bx b).live=true:=hl
      cases hB:zXA sn.bx b <;> cases hB':s.bx b' <;> rw [hB,hB'] at hfb <;> simp only [jXk,reduceCtorEq] at hfb <;> first | rfl | (rw [hB] at hl'; cases hl')
     ·right; simp only [nm,hren _ m]
    have hkeep:zZh w (Seen S w0.heap.size s.bx ι) w (Seen S w0.heap.size sn.as.bx (nm ι r')):=fun g off u hV hu=>⟨⟨hV.1,fun b c hl e=>by
     rcases hlive b hl with ⟨b',_,hl',e'⟩ | e'
     ·exact hV.2 b' c hl' (by rw [← e']; exact e)
     ·rw [e'] at e; cases e⟩,hu⟩
    have hVmono:∀ {x:AV} {v:Value},zQh w (Seen S w0.heap.size s.bx ι) ι s.bx x v→zQh w (Seen S w0.heap.size sn.as.bx (nm ι r')) ι s.bx x v:=fun hx=>hx.keep (fun b hb=>⟨hb,rfl⟩) hkeep
    refine ⟨nm ι r',h.bel,h.marks,h.oth,h.size,h.fix,fun b hb=>?_,fun t=>?_,fun b=>?_,fun b g c hl e=>?_,fun b1 b2 g c c' hl hl' hne e=>?_,h.glob.keep hkeep⟩
    ·have hm:(b,some b)∈r':=zXa h2 _ (by simp only [pins,List.mem_append,List.mem_map]; exact .inr ⟨b,hb,rfl⟩)
     exact ⟨by simp only [nm,hren _ hm]; exact (h.pin b hb).1,hbxk _ hm⟩
    ·rcases jZK h1 hp t with hd | ⟨q,r1,g1,g2,g3⟩
     ·show zQh _ _ _ _ (jZ6 sn.tm t) _
      rw [hd]; simp only [zQh,zQt]
     ·exact zH9 (fun _=>rfl) g1 g2 (fun x hx=>hknown x (zXa h2 x (by simp [g3 x hx]))) (hVmono (h.tm t))
    ·show zXu _ _ _ _ b (zXA sn.bx b)
     cases hk:(zXA sn.bx b).known with
     | false=>cases hB:zXA sn.bx b <;> rw [hB] at hk <;> first | trivial | cases hk
     | true=>
      rcases hat b hk with ⟨b',q,r1,m,hfb,hq1,hr1⟩ | ⟨m,e,size,hB⟩
      ·have hnm:nm ι r' b=ι b':=by simp only [nm,hren _ m]
       have hrb:=h.bx b'
       cases hB:zXA sn.bx b <;> cases hB':s.bx b' <;> rw [hB,hB'] at hfb <;> simp only [jXk,reduceCtorEq] at hfb <;> rw [hB'] at hrb
       ·trivial
       ·obtain ⟨g,c,cur,T,g1,g2,g0,g3⟩:=hrb
        refine ⟨g,c,cur,T,by rw [hnm]; exact g1,g2,zW2 g0 (jQ4 hfb hq1),?_⟩
        exact zU8 (fun _=>rfl) hfb hq1 (fun x hx=>hknown x (hr1 x hx)) (g3.keep (fun b hb=>⟨hb,rfl⟩) hkeep)
       ·split at hfb
        ·rename_i hes
         simp only [Option.some.injEq,Prod.mk.injEq] at hfb
         obtain ⟨rfl,rfl⟩:=hfb
         subst hq1
         obtain ⟨rfl,rfl⟩:=hes
         rcases hrb with ⟨g1,g2⟩ | ⟨g,cap,cur,g1,g2,g3,g4,g5⟩
         ·exact .inl ⟨by rw [hnm]; exact g1,g2⟩
         ·exact .inr ⟨g,cap,cur,by rw [hnm]; exact g1,g2,g3,g4,g5.keep hkeep⟩
        ·cases hfb
       ·simp only [Option.some.injEq,Prod.mk.injEq] at hfb
        obtain ⟨rfl,rfl⟩:=hfb
        subst hq1
        rcases hrb with ⟨g1,g2⟩ | ⟨g,cap,g1,g2,g3⟩
        ·exact .inl ⟨by rw [hnm]; exact g1,g2⟩
        ·exact .inr ⟨g,cap,by rw [hnm]; exact g1,g2.keep hkeep,g3⟩
      ·rw [hB]
       exact .inl ⟨by simp only [nm,hren _ m],rfl⟩
    ·rcases hlive b hl with ⟨b',_,hl',e'⟩ | e'
     ·exact h.own b' g c hl' (by rw [← e']; exact e)
     ·rw [e'] at e; cases e
    ·rcases hlive b1 hl with ⟨b1',m1,hl1,e1⟩ | e1
     ·rcases hlive b2 hl' with ⟨b2',m2,hl2,e2⟩ | e2
      ·rw [e1] at e
       rw [e2]
       refine h.dist b1' b2' g c c' hl1 hl2 (fun e'=>hne ?_) e
       subst e'
       exact hinj _ _ _ m1 m2
      ·rw [e2]; simp
     ·rw [e1] at e; cases e
   ·exact hf.elim
  ·exact hf.elim
 ·exact hf.elim
theorem RepS.melt1 {w0:World} {S:zQS} {n:Dom} {s:AS} {ι:zQk} {a:Act} {w:World} (h:RepS w0 S n s ι a w) (t:Nat):RepS w0 S n (s.melt1 t) ι a w:=by
 unfold AS.melt1
 split
 ·rename_i b m ht
  split
  ·rename_i xs hin
   have h2:=h.freeze b
   refine ⟨h2.bel,h2.marks,h2.oth,h2.size,h2.fix,h2.pin,fun t'=>?_,h2.bx,h2.own,h2.dist,h2.glob⟩
   by_cases e:t'=t
   ·subst e
    have hv:=h2.tm t'
    have hb:=h2.bx b
    have e1:(s.setB b (s.bx b).freeze).bx b=.ice xs:=by
     simp only [AS.setB,if_true]
     revert hin
     cases s.bx b <;> intro hin <;> simp only [zXp,Option.some.injEq,reduceCtorEq] at hin <;> subst hin <;> rfl
    have e2:(s.setB b (s.bx b).freeze).tm t'=.one (.ref b m):=ht
    rw [e2] at hv
    rw [e1] at hb
    show zQh _ _ _ _ (if t'=t' then .one (.d (.sl m xs)) else s.tm t') _
    rw [if_pos rfl]
    simp only [zQh,zQt] at hv ⊢
    simp only [RepD]
    obtain ⟨_,hv⟩:=hv
    rcases hb with ⟨g1,g2⟩ | ⟨g,cap,g1,g2,g3⟩
    ·subst g2
     rcases hv with ⟨_,q1,q2⟩ | ⟨g',cap',q1,_⟩
     ·exact ⟨none,0,by rw [q1]; exact q2,by omega,Nat.zero_le _,fun hne=>absurd rfl hne⟩
     ·rw [g1] at q1; cases q1
    ·rcases hv with ⟨q1,_⟩ | ⟨g',cap',q1,q2,q3⟩
     ·rw [g1] at q1; cases q1
     ·rw [g1] at q1
      simp only [Option.some.injEq,Prod.mk.injEq] at q1
      obtain ⟨rfl,rfl⟩:=q1
      exact ⟨_,cap,q2,q3,g3,fun hne=>⟨g,0,rfl,g2 hne⟩⟩
   ·have:=h2.tm t'
    show zQh _ _ _ _ (if t'=t then .one (.d (.sl m xs)) else s.tm t') _
    rw [if_neg e]
    exact this
  ·exact h
 ·exact h
theorem RepS.meltFor {w0:World} {S:zQS} {n:Dom} {ι:zQk} {a:Act} {w:World}:∀ (l:List (Nat × AV)) {s:AS},RepS w0 S n s ι a w→RepS w0 S n (meltFor l s) ι a w
 | [],_,h=>h
 |(t,v)::l,s,h=>by
  unfold Go.Proofs.YthjaljiamllaeaaGreatDoor.meltFor
  split
  ·rename_i e; cases e
  ·rename_i t' d l' e
   injection e with e1 e2
   injection e1 with e3 e4
   subst e2 e3
   exact RepS.meltFor _ (h.melt1 _)
  ·rename_i p l' _ e
   injection e with e1 e2
   subst e2
   exact RepS.meltFor _ h
theorem RepS.fit {w0:World} {S:zQS} {n:Dom} {s:AS} {ι:zQk} {a:Act} {w:World} (h:RepS w0 S n s ι a w) {sn:Snap} (hf:fits n s sn):∃ ι',RepS w0 S n sn.as ι' a w:=
 (h.meltFor sn.tm).fit0 hf
def zYm.exit_:zYm→Exit
 | .normal=>.normal
 | .exit id=>.exit id
 | .ret=>.ret
section
variable {P:Program} {Γ:Gam}
theorem zVL (s:AS):KnOK kn0 s:=fun _ _ h=>by cases h
theorem RepS.turn {w0:World} {S:zQS} {n:Dom} {s:AS} {ι:zQk} {a:Act} {w w':World} (h:RepS w0 S n s ι a w) {row:Option Nat} (hg:w.grownBy w' row)
  (hr:∀ r,row=some r→w0.heap.size≤r∧∃ o:Obj,w.heap[r]?=some o∧o.isCells=false) {ds:List Deferred} (hm:zUz w0 ds w') {ref:World} (ho:KeepsOthers ref w') :
  RepS w0 { S with ref:=ref } n s ι { a with defers:=ds } w':=by
 have hk:zZh w (Seen S w0.heap.size s.bx ι) w' (Seen { S with ref:=ref } w0.heap.size s.bx ι):=fun g off u hV hu=>⟨hV,cell_kept hu hg fun r e=>(hr r e).2⟩
 have hl:∀ b g c,(s.bx b).live=true→ι b=some (g,c)→w'.heap[g]?=w.heap[g]?:=fun b g c hb hι=>by
  refine hg.block g (h.own b g c hb hι).2 fun e=>?_
  obtain ⟨o,h1,h2⟩:=(hr g e.symm).2
  obtain ⟨cur,T,i,h3⟩:=h.live_cells hb hι
  rw [h3] at h1
  injection h1 with h1
  subst h1
  cases h2
 refine ⟨⟨hg.os.trans h.bel.os,hg.tape.trans h.bel.tape,hg.output.trans h.bel.output,Nat.le_trans h.bel.size hg.size,fun g h1 h2=>?_⟩,hm,ho,h.size,h.fix,h.pin,fun t=>(h.tm t).keep (fun b hb=>⟨hb,rfl⟩) hk,fun b=>?_,
  fun b g c hb hι=>⟨(h.own b g c hb hι).1,Nat.lt_of_lt_of_le (h.own b g c hb hι).2 hg.size⟩,h.dist,h.glob.keep hk⟩
 ·refine (hg.block g (Nat.lt_of_lt_of_le h1 h.bel.size) fun e=>?_).trans (h.bel.block g h1 h2)
  have:=(hr g e.symm).1
  omega
 ·cases hkn:(s.bx b).known with
  | true=>exact zXu.keep (fun b hb=>⟨hb,rfl⟩) hk hkn hkn (fun hb g c hι=>hl b g c hb hι) (h.bx b)
  | false=>cases hB:s.bx b <;> rw [hB] at hkn <;> first | trivial | (simp [Bx.known] at hkn)
theorem zVy {ref w w':World} {row:Option Nat} {B:Nat} (h:KeepsOthers ref w) (hg:w.grownBy w' row) (hr:∀ r,row=some r→B≤r) (hB:ref.heap.size≤B):KeepsOthers ref w':=
 ⟨Nat.le_trans h.size hg.size,fun k o hk ho=>by
  have hlt:k < ref.heap.size:=(Array.getElem?_eq_some_iff.1 hk).1
  refine (hg.block k (Nat.lt_of_lt_of_le hlt h.size) fun e=>?_).trans (h.same k o hk ho)
  have:=hr k e.symm
  omega⟩
theorem zUZ {w0 w w':World} {ds:List Deferred} {row:Option Nat} {B:Nat} (h:zUz w0 ds w) (hg:w.grownBy w' row) (hr:∀ r,row=some r→B≤r) (hB:∀ d∈ds,∀ D,d={ target:=.collected D,args:=#[] }→D < B):zUz w0 ds w':=
 ⟨h.1,fun d hd=>by
  obtain ⟨D,e,h1,h2⟩:=h.2 d hd
  refine ⟨D,e,h1,(hg.block D (Array.getElem?_eq_some_iff.1 h2).1 fun e'=>?_).trans h2⟩
  have:=hr D e'.symm
  have:=hB d hd D e
  omega⟩
theorem jYO {n:Dom} {F:Fence} (hF:Wide F) {m id:Nat} {ops:Array Oper} {draw:Bool} {kn:Kn} {s:AS} {Q:zYm→Kn→AS→Prop} (hm:P.follows .mixedOrders=true) (h:zYB P Γ n ops (List.range ops.size) kn s [] fun kn' s' acc=>match draw with
  | true=>jYY ops (fun i=>acc.reverse.getD i ([],[]))=true∧Q .normal kn' s'
  | false=>Q .normal kn' s') (hk:KnOK kn s) {w0:World} {S:zQS} {ι:zQk} {a:Act} {w:World} (hr:RepS w0 S n s ι a w) {Q':Exit→Act→World→Prop}
  (hQ:∀ e kn' s' ι' a' w',Q e kn' s'→KnOK kn' s'→RepS w0 S n s' ι' a' w'→Q' e.exit_ a' w'):(Code.region id ops draw).wpIn F m P Q' a w:=by
 obtain ⟨kn',s',ts,h1,h2,h3,h4⟩:=zVl h hk
 have hτ:∀ (k i:Nat),(List.range ops.size)[k]?=some i→(fun i=>(ts.reverse++[]).reverse.getD i ([],[])) i=ts.getD k ([],[]):=fun k i hi=>by
  have:k=i:=by
   have hlt:=(List.getElem?_eq_some_iff.1 hi).1
   simp at hlt
   simp [hlt] at hi
   exact hi
  subst this
  simp
 have hruns:=h4 _ hτ
 cases draw with
 | false=>
  simp only at h1
  exact wpIn_region (zUG hF hruns hr fun ι' a' w' hr'=>hQ .normal kn' s' ι' a' w' h1 h2 hr')
 | true=>
  simp only at h1
  obtain ⟨hok,h1⟩:=h1
  refine wpIn_region_any hm ?_
  have hleft:left ops (Array.replicate ops.size false)=List.range ops.size:=by
   unfold left
   rw [List.filter_eq_self]
   intro i hi
   have:i < ops.size:=List.mem_range.1 hi
   simp [Array.getD,this]
  have hr1:RepS w0 S n s ι a { w with drawn:=w.drawn+1 }:=hr.quiet ⟨hr.bel.os,hr.bel.tape,hr.bel.output,hr.bel.size,hr.bel.block⟩ rfl
  exact jYR hF hok (fun ι' a' w' hr'=>hQ .normal kn' s' ι' a' w' h1 h2 hr') ops.size _ s ι a _ (fun i o ho hl hs=>by
   have:i < ops.size:=by simpa using hs
   simp [Array.getD,this] at hl) (by simp) (by rw [hleft]; simp) (by rw [hleft]; exact hruns) hr1
theorem jJa {kn:Kn} {s:AS} {t:Nat} (h:KnOK kn s):KnOK kn (s.melt1 t):=fun t' b hb=>by
 have h1:=h t' b hb
 unfold AS.melt1
 split
 ·rename_i b' m ht
  split
  ·simp only
   split
   ·rename_i e
    subst e
    rw [ht] at h1
    cases h1
   ·exact h1
  ·exact h1
 ·exact h1
theorem jZz {kn:Kn}:∀ (ts:List Nat) {s:AS},KnOK kn s→KnOK kn (melts s ts)
 | [],_,h=>h
 | _::ts,_,h=>jZz ts (jJa h)
theorem RepS.melts {w0:World} {S:zQS} {n:Dom} {ι:zQk} {a:Act} {w:World}:∀ (ts:List Nat) {s:AS},RepS w0 S n s ι a w→RepS w0 S n (melts s ts) ι a w
 | [],_,h=>h
 | t::ts,_,h=>RepS.melts ts (h.melt1 t)
theorem zYA {n:Dom} {ops:Array Oper}:∀ {R:List Nat} {kn:Kn} {s:AS} {acc:List (List Nat × List Nat)} {Q Q':Kn→AS→List (List Nat × List Nat)→Prop},(∀ kn s acc,Q kn s acc→Q' kn s acc)→zYB P Γ n ops R kn s acc Q→zYB P Γ n ops R kn s acc Q'
 | [],kn,s,acc,Q,Q',hQ,h=>hQ _ _ _ h
 | i::R,kn,s,acc,Q,Q',hQ,h=>by
  unfold zYB at h ⊢
  split at h
  ·exact h.elim
  ·split at h
   ·exact h.elim
   ·split at h
    ·exact ⟨h.1,zYA hQ h.2⟩
    ·exact h.elim
   ·split at h
    ·exact zYA hQ h
    ·exact h.elim
   ·refine ⟨fun e=>?_,fun e=>?_⟩
    ·have h:=h.1 e
     split at h
     ·exact ⟨h.1,zYA hQ h.2⟩
     ·exact h.elim
    ·have h:=h.2 e
     split at h
     ·exact zYA hQ h
     ·exact h.elim
theorem zXO {n:Dom} {ops:Array Oper} {B:List Nat} {Q:Kn→AS→List (List Nat × List Nat)→Prop}:∀ {A:List Nat} {kn:Kn} {s:AS} {acc:List (List Nat × List Nat)},zYB P Γ n ops A kn s acc (fun kn' s' acc'=>zYB P Γ n ops B kn' s' acc' Q)→zYB P Γ n ops (A++B) kn s acc Q
 | [],kn,s,acc,h=>h
 | i::A,kn,s,acc,h=>by
  rw [List.cons_append]
  unfold zYB at h ⊢
  split at h
  ·exact h.elim
  ·split at h
   ·exact h.elim
   ·split at h
    ·exact ⟨h.1,zXO h.2⟩
    ·exact h.elim
   ·split at h
    ·exact zXO h
    ·exact h.elim
   ·refine ⟨fun e=>?_,fun e=>?_⟩
    ·have h:=h.1 e
     split at h
     ·exact ⟨h.1,zXO h.2⟩
     ·exact h.elim
    ·have h:=h.2 e
     split at h
     ·exact zXO h
     ·exact h.elim
theorem zGh {e:Int} {k:IntKind} {t:Nat} {s:AS} {K:AS→Prop}:∀ {vs:List Int},orIs e vs→jJw e k t s K vs→K (s.put (some t) (.one (.d (.int k e))))
 | v::vs,h1,h2=>by
  simp only [orIs] at h1
  simp only [jJw] at h2
  rcases h1 with rfl | h1
  ·exact h2.1 rfl
  ·exact zGh h1 h2.2
 | [],h1,_=>h1.elim
theorem zHp {vs:List Int} {t:Nat} {s:AS} {K:AS→Prop} (h:jQu vs t s K):K s:=by
 unfold jQu at h
 split at h
 ·rename_i k e ht
  have:=zGh h.1 h.2
  have hs:s.put (some t) (.one (.d (.int k e)))=s:=by
   refine AS.ext' ?_ rfl
   funext t'
   simp only [AS.put]
   split
   ·rename_i e'; rw [e',ht]
   ·rfl
  rwa [hs] at this
 ·exact h.elim
theorem jXt {n:Dom} {ops:Array Oper} {ann:Ann} {kn:Kn} {s:AS} {K:Kn→AS→List (List Nat × List Nat)→Prop} (h:jJR P Γ n ops ann kn s K):zYB P Γ n ops (List.range ops.size) kn s [] K:=by
 unfold jJR at h
 split at h
 ·rename_i i t vs
  have h2:=zXO (zYA (fun _ _ _ h=>zHp h) h)
  rwa [List.take_append_drop] at h2
 ·exact h
def jZO (P:Program) (f:VCF) (c:Code):Prop:=
 ∀ (n:Dom) (ann:Ann) (kn:Kn) (s:AS) (Q:zYm→Kn→AS→Prop),f n ann kn s Q→KnOK kn s→∀ (F:Fence),Wide F→(n.round=false→F=Fence.wide) →
  ∀ (w0:World) (S:zQS) (ι:zQk) (a:Act) (w:World),RepS w0 S n s ι a w→∀ (m:Nat) (Q':Exit→Act→World→Prop),
  (∀ e kn' s' ι' a' w',Q e kn' s'→KnOK kn' s'→RepS w0 S n s' ι' a' w'→Q' e.exit_ a' w')→c.wpIn F m P Q' a w
def zWT:Ann→Nat
 | .link _ _ next=>zWT next+1
 | _=>0
theorem jZ7 {f:VCF} {c:Code} (ih:jZO P f c) {n:Dom} {ann:Ann} {s:AS} {Q:zYm→Kn→AS→Prop} (h1:jZB n ann s) (h2:zHM n (f n) Q ann) {F:Fence} (hF:Wide F) (hR:n.round=false→F=Fence.wide)
  {w0:World} {S:zQS} {ι:zQk} {a:Act} {w:World} (hr:RepS w0 S n s ι a w) {m:Nat} {Q':Exit→Act→World→Prop}
  (hQ:∀ e kn' s' ι' a' w',Q e kn' s'→KnOK kn' s'→RepS w0 S n s' ι' a' w'→Q' e.exit_ a' w'):(Code.loop c).wpIn F m P Q' a w:=by
 refine wpIn_loop_ghost (fun k a w=>∃ ann s ι,zWT ann=k∧jZB n ann s∧zHM n (f n) Q ann∧RepS w0 S n s ι a w) (zWT ann) ⟨ann,s,ι,rfl,h1,h2,hr⟩ fun k a w hI=>?_
 obtain ⟨ann,s,ι,rfl,h1,h2,hr⟩:=hI
 cases ann <;> first | exact h1.elim | skip
 rename_i I b next
 obtain ⟨z,hz,hf⟩:=h1
 obtain ⟨ι2,hr2⟩:=hr.fit hf
 simp only [zHM] at h2
 refine ih n (b z) kn0 _ _ (h2.1 z hz) (zVL _) F hF hR w0 S ι2 a w hr2 m _ fun e kn' s' ι' a' w' hq hk' hr'=>?_
 cases e with
 | normal=>exact ⟨zWT next,by simp [zWT],next,s',ι',rfl,hq,h2.2,hr'⟩
 | exit id=>exact hQ (.exit id) kn' s' ι' a' w' hq hk' hr'
 | ret=>exact hQ .ret kn' s' ι' a' w' hq hk' hr'
theorem jZr {f:Ann→Kn→AS→(zYm→Kn→AS→Prop)→Prop} {kn:Kn} {s:AS} {t:Nat} {Q:zYm→Kn→AS→Prop} {k:IntKind} {e:Int} (ht:s.tm t=.one (.d (.int k e))) :
  ∀ {bs:Ann},jY5 e bs→jZs f k e kn s t Q bs→∃ b,f b (zJm kn (some t) none) s Q
 | .opt v b next,h1,h2=>by
  simp only [jY5] at h1
  simp only [jZs] at h2
  rcases h1 with h1 | h1
  ·have hs:s.put (some t) (.one (.d (.int k v)))=s:=by
    refine AS.ext' ?_ rfl
    funext t'
    simp only [AS.put]
    split
    ·rename_i e'; rw [e',ht,h1]
    ·rfl
   have:=h2.1 h1
   rw [hs] at this
   exact ⟨b,this⟩
  ·exact jZr ht h1 h2.2
 | .leaf,h1,_=>h1.elim
 | .seq _ _,h1,_=>h1.elim
 | .loop _ _,h1,_=>h1.elim
 | .cut _ _ _,h1,_=>h1.elim
 | .link _ _ _,h1,_=>h1.elim
 | .split _ _ _,h1,_=>h1.elim
 | .range _ _ _ _,h1,_=>h1.elim
 | .sure _ _,h1,_=>h1.elim
 | .ice _ _ _ _,h1,_=>h1.elim
 | .splitAt _ _ _,h1,_=>h1.elim
theorem jYh:∀ (bs:List Nat) (s:AS),(ices s bs).tm=s.tm
 | [],_=>rfl
 | b::bs,s=>by simp only [ices]; rw [jYh bs]; rfl
theorem RepS.ices {w0:World} {S:zQS} {n:Dom} {ι:zQk} {a:Act} {w:World}:∀ (bs:List Nat) {s:AS},RepS w0 S n s ι a w→RepS w0 S n (ices s bs) ι a w
 | [],_,h=>h
 | b::bs,s,h=>RepS.ices bs (h.freeze b)
theorem RepS.only {w0:World} {S:zQS} {n:Dom} {s:AS} {ι:zQk} {a:Act} {w:World} (h:RepS w0 S n s ι a w) (T:List Nat):RepS w0 S n (s.only T) ι a w:=by
 refine ⟨h.bel,h.marks,h.oth,h.size,h.fix,h.pin,fun t=>?_,h.bx,h.own,h.dist,h.glob⟩
 show zQh _ _ _ _ (if T.contains t then s.tm t else .one .dead) _
 split
 ·exact h.tm t
 ·simp only [zQh,zQt]
theorem jQN {d:DV} (h:jX1 d):∃ u,d.plain=some u∧∀ (w:World) (V:Nat→Prop),RepD w V d u:=by
 cases d with
 | int k n=>exact ⟨_,rfl,fun w V=>by simp only [RepD,true_and]; exact (zZZ _ _).2 h⟩
 | bool b=>exact ⟨_,rfl,fun w V=>by simp only [RepD]⟩
 | str s=>exact ⟨_,rfl,fun w V=>by simp only [RepD,true_and]; exact h⟩
 | sl n cs=>exact h.elim
 | fn f=>exact h.elim
theorem RepS.putAll {w0:World} {S:zQS} {n:Dom} {ι:zQk} {w:World}:∀ {ps:List Nat} {ds:List DV} {s:AS} {a:Act},ds.length=ps.length→zGB ds→(∀ p∈ps,p < n.n∧n.keep p=false)→RepS w0 S n s ι a w →
  RepS w0 S n (s.putAll ps ds) ι { a with tmps:=(ps.zip (ds.map fun d=>d.plain.getD undef)).foldl (fun t (p,v)=>t.setIfInBounds p v) a.tmps } w
 | [],[],_,_,_,_,_,h=>h
 | p::ps,d::ds,s,a,hl,hd,hp,h=>by
  obtain ⟨u,h1,h2⟩:=jQN hd.1
  have:=h.put (d:=some p) (x:=.one (.d d)) (v:=u) (fun k hk=>by cases hk; exact hp p (by simp)) (by simp only [zQh,zQt]; exact h2 _ _)
  have:=RepS.putAll (ps:=ps) (ds:=ds) (by simpa using hl) hd.2 (fun q hq=>hp q (by simp [hq])) this
  simpa [AS.putAll,h1,Act.put] using this
 | [],_::_,_,_,hl,_,_,_=>by simp at hl
 | _::_,[],_,_,hl,_,_,_=>by simp at hl
theorem jQk {w0:World} {S:zQS} {n:Dom} {s:AS} {ι:zQk} {a:Act} {w:World} (h:RepS w0 S n s ι a w) {ι0:zQk} {bx0:Nat→Bx} {w1:World} {V1:Nat→Prop}:∀ {cs:List Cap} {lb:List Value} {caps:List (Bool × List DV)},zZ0 ι0 bx0 w1 V1 cs lb →
  (∀ b∈cs.flatMap Cap.names,ι b=ι0 b)→zJb s.bx cs=some caps→jZP w caps lb
 | [],[],caps,_,_,hc=>by simp only [zJb,Option.some.injEq] at hc; subst hc; trivial
 | c::cs,v::lb,caps,hr,hn,hc=>by
  simp only [zJb] at hc
  cases h1:zG8 s.bx c with
  | none=>rw [h1] at hc; cases hc
  | some x=>
   cases h2:zJb s.bx cs with
   | none=>rw [h1,h2] at hc; cases hc
   | some xs=>
    rw [h1,h2] at hc
    simp only [Option.some.injEq] at hc
    subst hc
    refine ⟨?_,jQk h hr.2 (fun b hb=>hn b (by rw [List.flatMap_cons,List.mem_append]; exact .inr hb)) h2⟩
    have hv:=hr.1
    cases c with
    | d x=>
     simp only [zG8] at h1
     split at h1
     ·rename_i hp
      simp only [Option.some.injEq] at h1
      subst h1
      obtain ⟨u,hu⟩:=Option.isSome_iff_exists.1 hp
      exact ⟨x,rfl,by rw [RepD.plain hv hu]; exact hu⟩
     ·cases h1
    | ptr b off=>
     simp only [zG8] at h1
     split at h1
     ·rename_i ho
      subst ho
      split at h1
      ·rename_i cells hB
       split at h1
       ·rename_i ds hds
        split at h1
        ·rename_i hall
         simp only [Option.some.injEq] at h1
         subst h1
         obtain ⟨_,g,c,e1,e2⟩:=hv
         have hb:=h.bx b
         rw [hB] at hb
         obtain ⟨g',c',cur,T,q1,q2,_,q3⟩:=hb
         rw [hn b (by simp [Cap.names]),e1] at q1
         simp only [Option.some.injEq,Prod.mk.injEq] at q1
         obtain ⟨rfl,rfl⟩:=q1
         have q4:=zKp q3 hds
         refine ⟨g,e2,fun i d hi=>?_⟩
         obtain ⟨u,hu,hd⟩:=zYI q4 i d hi
         have hp:d.plain.isSome=true:=(List.all_eq_true.1 hall) d (List.mem_of_getElem? hi)
         obtain ⟨u',hu'⟩:=Option.isSome_iff_exists.1 hp
         refine ⟨u',hu',?_⟩
         rw [cell_of_row w g i cur T (0,0) q2,← RepD.plain hd hu']
         simpa using hu
        ·cases h1
       ·cases h1
      ·cases h1
     ·cases h1
 | [],_::_,_,h,_,_=>h.elim
 | _::_,[],_,h,_,_=>h.elim
theorem zGd {w:World} {V:Nat→Prop} {ι:zQk} {bx:Nat→Bx}:∀ {cs:List Cap} {lb:List Value},zZ0 ι bx w V cs lb→∀ b∈cs.flatMap Cap.names,(bx b).known=true
 | [],[],_,b,hb=>by simp at hb
 | c::cs,v::lb,h,b,hb=>by
  rw [List.flatMap_cons,List.mem_append] at hb
  rcases hb with hb | hb
  ·cases c with
   | d x=>simp [Cap.names] at hb
   | ptr b' off=>simp only [Cap.names,List.mem_singleton] at hb; subst hb; exact h.1.1
  ·exact zGd h.2 b hb
 | [],_::_,h,_,_=>h.elim
 | _::_,[],h,_,_=>h.elim
def zG4:zYm→Option Code
 | .normal=>none
 | .exit id=>some (.exit id)
 | .ret=>some .ret
theorem jQJ {fA fB:VCF} {x y:Code} (ihA:jZO P fA x) (ihB:jZO P fB y) {n:Dom} {g:Operand} {ps:Array Tmp} {I:Inv} {T:List Nat} {aa bb:I.α→Ann} {s:AS} {Q:zYm→Kn→AS→Prop}
  (h:jQK P Γ n fA fB g ps.toList I T aa bb s Q) {F:Fence} (hR:n.round=false→F=Fence.wide)
  {w0:World} {S:zQS} {ι:zQk} {a:Act} {w:World} (hr:RepS w0 S n s ι a w) {m:Nat} {Q':Exit→Act→World→Prop}
  (hQ:∀ e kn' s' ι' a' w',Q e kn' s'→KnOK kn' s'→RepS w0 S n s' ι' a' w'→Q' e.exit_ a' w'):(Code.rangeFunc g ps x y).wpIn F m P Q' a w:=by
 unfold jQK at h
 split at h
 ·rename_i f cs hs
  split at h
  ·rename_i caps hcaps hflags
   split at h
   ·rename_i N item hit
    obtain ⟨hans,hitems,⟨z0,hz0,hμ0,hf0⟩,hrounds⟩:=h
    simp only [Bool.and_eq_true,Bool.not_eq_true'] at hflags
    obtain ⟨⟨hen,hrd⟩,hps⟩:=hflags
    have hFw:=hR hrd
    subst hFw
    simp only [psOK,Bool.and_eq_true,List.all_eq_true,decide_eq_true_eq,Bool.not_eq_true'] at hps
    obtain ⟨hps1,hps2⟩:=hps
    have hv:=hr.eval g
    rw [hs] at hv
    simp only [zQh,zQt] at hv
    obtain ⟨lb,hv,hlb⟩:=hv
    have hr1:RepS w0 { S with nm:=ι } (n.pinned (cs.flatMap Cap.names)) s ι a w:=
     ⟨hr.bel,hr.marks,hr.oth,hr.size,hr.fix,fun b hb=>⟨rfl,by
      simp only [Dom.pinned,List.mem_append] at hb
      rcases hb with hb | hb
      ·exact (hr.pin b hb).2
      ·exact zGd hlb b hb⟩,hr.tm,hr.bx,hr.own,hr.dist,hr.glob⟩
    obtain ⟨ι1,hr2⟩:=hr1.fit hf0
    have hmk:∀ d∈a.defers,∀ D,d={ target:=.collected D,args:=#[] }→D < w.heap.size:=fun d hd D e=>by
     obtain ⟨D',e',_,h2⟩:=hr.marks.2 d hd
     rw [e'] at e
     simp only [Deferred.mk.injEq,Target.collected.injEq,and_true] at e
     subst e
     exact (Array.getElem?_eq_some_iff.1 h2).1
    have hturn:∀ {s':AS} {n':Dom} {S':zQS} {ι':zQk} {W W':World} {row:Option Nat},S'.ref.heap.size≤w.heap.size→RepS w0 S' n' s' ι' a W→W.grownBy W' row→(∀ r,row=some r→w.heap.size≤r∧∃ o:Obj,W.heap[r]?=some o∧o.isCells=false)→RepS w0 S' n' s' ι' a W':=by
     intro s' n' S' ι' W W' row hs' h' hg hr'
     exact h'.turn hg (fun r e=>⟨Nat.le_trans hr.bel.size (hr' r e).1,(hr' r e).2⟩) (zUZ h'.marks hg (fun r e=>(hr' r e).1) hmk) (zVy h'.oth hg (fun r e=>(hr' r e).1) hs')
    have hkeepT:∀ t,(T.contains t=true∨n.keep t=true)→t ∉ ps.toList:=fun t ht hm=>by
     obtain ⟨⟨_,h2⟩,h3⟩:=hps1 t hm
     rcases ht with ht | ht
     ·rw [ht] at h2; cases h2
     ·rw [ht] at h3; cases h3
    have hback:∀ {s':AS} {ι':zQk} {a3:Act} {W W3 ref:World},zUz w0 a.defers W→KeepsOthers S.ref W→KeepsOthers W W3→RepS w0 { S with nm:=ι,ref:=ref,base:=fun t=>a.tmps.getD t undef } (n.inner T (cs.flatMap Cap.names)) s' ι' a3 W3 →
      RepS w0 { S with nm:=ι } (n.pinned (cs.flatMap Cap.names)) (s'.only T) ι' a W3:=by
     intro s' ι' a3 W W3 ref hm1 ho1 hk h3
     refine ⟨h3.bel,hm1.keep hk,ho1.trans hk,hr.size,hr.fix,h3.pin,fun t=>?_,h3.bx,h3.own,h3.dist,h3.glob⟩
     show zQh _ _ _ _ (if T.contains t then s'.tm t else .one .dead) _
     split
     ·rename_i ht
      have hfx:=h3.fix t (by show (n.keep t || T.contains t)=true; rw [ht,Bool.or_true])
      have:=h3.tm t
      rw [hfx] at this
      exact this
     ·simp only [zQh,zQt]
    have hout:∀ {s':AS} {ι':zQk} {W:World},RepS w0 { S with nm:=ι } (n.pinned (cs.flatMap Cap.names)) s' ι' a W→RepS w0 S n s' ι' a W:=fun h'=>
     ⟨h'.bel,h'.marks,h'.oth,h'.size,h'.fix,fun b hb=>by
      have:=h'.pin b (by simp [Dom.pinned,hb])
      exact ⟨this.1.trans (hr.pin b hb).1,this.2⟩,h'.tm,h'.bx,h'.own,h'.dist,h'.glob⟩
    have hmark:∀ {s':AS} {ι':zQk} {W:World} {D:Nat},w.heap.size≤D→W.heap[D]?=some (.deferred (some []))→RepS w0 S n s' ι' a W→RepS w0 S n s' ι' { a with defers:={ target:=.collected D,args:=#[] }::a.defers } W:=fun hD hW h'=>
     ⟨h'.bel,⟨List.pairwise_cons.2 ⟨fun d hd e=>by
       have:=hmk d hd _ e.symm
       omega,h'.marks.1⟩,fun d hd=>by
      rcases List.mem_cons.1 hd with rfl | hd
      ·exact ⟨_,rfl,Nat.le_trans hr.bel.size hD,hW⟩
      ·exact h'.marks.2 d hd⟩,h'.oth,h'.size,h'.fix,h'.pin,h'.tm,h'.bx,h'.own,h'.dist,h'.glob⟩
    refine jXW hv (zKQ hen) hans (fun k hk=>by rw [(hitems k hk).1]; simp)
     (fun k W=>∃ z ι',I.ok z∧I.μ z=k∧RepS w0 { S with nm:=ι } (n.pinned (cs.flatMap Cap.names)) ((I.st z).as.only T) ι' a W)
     (fun c W=>∃ e kn' s' ι',zG4 e=some c∧Q e kn' s'∧KnOK kn' s'∧RepS w0 { S with nm:=ι } (n.pinned (cs.flatMap Cap.names)) s' ι' a W)
     (fun k W W' row ⟨z,ι',h1,h2,h3⟩ hg hrr=>⟨z,ι',h1,h2,hturn hr.oth.size h3 hg hrr⟩)
     (fun c W W' row ⟨e,kn',s',ι',h1,h2,h3,h4⟩ hg hrr=>⟨e,kn',s',ι',h1,h2,h3,hturn hr.oth.size h4 hg hrr⟩)
     (fun k W ⟨z,ι',h1,h2,h3⟩=>jQk h3 hlb (fun b hb=>(h3.pin b (by simp only [Dom.pinned,List.mem_append]; exact .inr hb)).1) (hrounds z h1).1)
     ⟨z0,ι1,hz0,hμ0,hr2.only T⟩ ?_ ?_ ?_
    ·
     rintro l k W hk ⟨z,ι',hz,rfl,h3⟩
     have hit:=hitems (I.μ z) hk
     have hin:RepS w0 { S with nm:=ι,ref:=W,base:=fun t=>a.tmps.getD t undef } (n.inner T (cs.flatMap Cap.names)) ((I.st z).as.only T) ι' { tmps:=a.tmps,defers:=[] } W:=
      ⟨h3.bel,⟨List.Pairwise.nil,fun d hd=>by simp at hd⟩,KeepsOthers.refl W,h3.size,fun t _=>rfl,h3.pin,h3.tm,h3.bx,h3.own,h3.dist,h3.glob⟩
     have hin2:=hin.putAll (ps:=ps.toList) (ds:=item (I.μ z)) hit.1 hit.2 (fun p hp=>by
      obtain ⟨⟨h1,h2⟩,h4⟩:=hps1 p hp
      refine ⟨h1,?_⟩
      simp only [Dom.inner,h2,h4,Bool.or_self])
     have hloop:∀ (f:Array Value→Tmp × Value→Array Value) (t0:Array Value) (vs:List Value),(ps.zip vs.toArray).foldl f t0=(ps.toList.zip vs).foldl f t0:=fun f t0 vs=>by
      rw [← Array.foldl_toList,Array.toList_zip]
     show x.wpIn _ m P _ { tmps:=(ps.zip (zGc (item (I.μ z)))).foldl (fun t (p,v)=>t.setIfInBounds p v) a.tmps,defers:=[] } W
     rw [zGc,hloop]
     refine ihA _ (aa z) kn0 _ _ ((hrounds z hz).2.1 hk) (zVL _) _ (.inr ⟨l,rfl⟩) (fun h=>by cases h) w0 _ ι' _ W hin2 m _ fun e kn' s' ι2 a1 W1 hq hk' h4=>?_
     cases e with
     | ret=>exact hq.elim
     | exit id=>exact hq.elim
     | normal=>
      refine ⟨h4.oth,fun W2 hg hl hcell=>?_⟩
      obtain ⟨lr,hlr⟩:=hcell
      have h5:=h4.turn hg (fun r e=>by cases e; exact ⟨Nat.le_trans hr.bel.size hl,_,hlr,rfl⟩) (ds:=a1.defers) ⟨h4.marks.1,fun d hd=>by
       obtain ⟨D,e1,e2,e3⟩:=h4.marks.2 d hd
       refine ⟨D,e1,e2,(hg.block D (Array.getElem?_eq_some_iff.1 e3).1 fun e'=>?_).trans e3⟩
       injection e' with e'
       subst e'
       rw [hlr] at e3
       injection e3 with e3
       cases e3⟩ (KeepsOthers.refl W2)
      have hm1:zUz w0 a.defers W:=h3.marks
      have hm2:zUz w0 a.defers W2:=zUZ (hm1.keep h4.oth) hg (fun r e=>by cases e; exact hl) hmk
      have ho2:KeepsOthers S.ref W2:=zVy (h3.oth.trans h4.oth) hg (fun r e=>by cases e; exact hl) hr.oth.size
      refine ihB _ (bb z) kn' _ _ hq hk' _ (.inr ⟨l,rfl⟩) (fun h=>by cases h) w0 _ ι2 a1 W2 h5 m _ fun e kn2 s2 ι3 a3 W3 hq2 hk2 h6=>?_
      cases e with
      | normal=>
       obtain ⟨y,hy,hμ,hf⟩:=hq2
       obtain ⟨ι4,h7⟩:=h6.fit hf
       exact ⟨h6.oth,y,ι4,hy,hμ,hback hm2 ho2 h6.oth h7⟩
      | ret=>exact ⟨h6.oth,.ret,kn0,s2.only T,ι3,rfl,hq2,zVL _,hback hm2 ho2 h6.oth h6⟩
      | exit id=>exact ⟨h6.oth,.exit id,kn0,s2.only T,ι3,rfl,hq2,zVL _,hback hm2 ho2 h6.oth h6⟩
    ·
     rintro Dk W hD ⟨z,ι',hz,hμ,h3⟩ hW
     exact hQ .normal kn0 _ ι' _ W ((hrounds z hz).2.2 hμ) (zVL _) (hmark hD hW (hout h3))
    ·rintro Dk c W hD ⟨e,kn',s',ι',he,hq,hk',h3⟩ hW
     cases e with
     | normal=>cases he
     | ret=>
      simp only [zG4,Option.some.injEq] at he
      subst he
      exact wpIn_ret (hQ .ret kn' s' ι' _ W hq hk' (hmark hD hW (hout h3)))
     | exit id=>
      simp only [zG4,Option.some.injEq] at he
      subst he
      exact wpIn_exit (hQ (.exit id) kn' s' ι' _ W hq hk' (hmark hD hW (hout h3)))
   ·exact h.elim
  ·exact h.elim
 ·exact h.elim
theorem zQM (hm:P.follows .mixedOrders=true):∀ (c:Code),jZO P (fun n=>vcg P Γ n c) c
 | .skip,n,_,kn,s,Q,h,hk,F,hF,hR,w0,S,ι,a,w,hr,m,Q',hQ=>wpIn_skip (hQ .normal kn s ι a w h hk hr)
 | .label _,n,_,kn,s,Q,h,hk,F,hF,hR,w0,S,ι,a,w,hr,m,Q',hQ=>wpIn_label (hQ .normal kn s ι a w h hk hr)
 | .exit id,n,_,kn,s,Q,h,hk,F,hF,hR,w0,S,ι,a,w,hr,m,Q',hQ=>wpIn_exit (hQ (.exit id) kn s ι a w h hk hr)
 | .ret,n,_,kn,s,Q,h,hk,F,hF,hR,w0,S,ι,a,w,hr,m,Q',hQ=>wpIn_ret (hQ .ret kn s ι a w h hk hr)
 | .region id ops draw,n,_,kn,s,Q,h,hk,F,hF,hR,w0,S,ι,a,w,hr,m,Q',hQ=>jYO hF hm (jXt h) hk hr hQ
 | .seq x y,n,ann,kn,s,Q,h,hk,F,hF,hR,w0,S,ι,a,w,hr,m,Q',hQ=>by
  simp only [vcg] at h
  refine wpIn_seq ?_
  split at h
  ·rename_i I a' b
   obtain ⟨h1,h2⟩:=h
   refine zQM hm x n a' kn s _ h1 hk F hF hR w0 S ι a w hr m _ fun e kn' s' ι' a' w' hq hk' hr'=>?_
   cases e with
   | normal=>
    obtain ⟨z,hz,hf⟩:=hq
    obtain ⟨ι2,hr2⟩:=hr'.fit hf
    exact zQM hm y n (b z) kn0 _ Q (h2 z hz) (zVL _) F hF hR w0 S ι2 a' w' hr2 m Q' hQ
   | exit id=>exact hQ (.exit id) kn' s' ι' a' w' hq hk' hr'
   | ret=>exact hQ .ret kn' s' ι' a' w' hq hk' hr'
  ·rename_i bs ts a' b
   refine zQM hm x n a' kn s _ h hk F hF hR w0 S ι a w hr m _ fun e kn' s' ι' a' w' hq hk' hr'=>?_
   cases e with
   | normal=>exact zQM hm y n b kn' (Go.Proofs.YthjaljiamllaeaaGreatDoor.melts (Go.Proofs.YthjaljiamllaeaaGreatDoor.ices s' bs) ts) Q hq (jZz ts fun t b hb=>by rw [jYh]; exact hk' t b hb) F hF hR w0 S ι' a' w' ((hr'.ices bs).melts ts) m Q' hQ
   | exit id=>exact hQ (.exit id) kn' s' ι' a' w' hq hk' hr'
   | ret=>exact hQ .ret kn' s' ι' a' w' hq hk' hr'
  ·rename_i a' t bs
   refine zQM hm x n a' kn s _ h hk F hF hR w0 S ι a w hr m _ fun e kn' s' ι' a' w' hq hk' hr'=>?_
   cases e with
   | normal=>
    simp only at hq
    unfold jKL at hq
    split at hq
    ·rename_i k e ht
     obtain ⟨b,hb⟩:=jZr ht hq.1 hq.2
     refine zQM hm y n b _ s' Q hb (fun t' b' hb'=>?_) F hF hR w0 S ι' a' w' hr' m Q' hQ
     simp only [zJm] at hb'
     split at hb'
     ·cases hb'
     ·exact hk' _ _ hb'
    ·exact hq.elim
   | exit id=>exact hQ (.exit id) kn' s' ι' a' w' hq hk' hr'
   | ret=>exact hQ .ret kn' s' ι' a' w' hq hk' hr'
  ·refine zQM hm x n ann.l kn s _ h hk F hF hR w0 S ι a w hr m _ fun e kn' s' ι' a' w' hq hk' hr'=>?_
   cases e with
   | normal=>exact zQM hm y n ann.r kn' s' Q hq hk' F hF hR w0 S ι' a' w' hr' m Q' hQ
   | exit id=>exact hQ (.exit id) kn' s' ι' a' w' hq hk' hr'
   | ret=>exact hQ .ret kn' s' ι' a' w' hq hk' hr'
 | .cond c x y,n,ann,kn,s,Q,h,hk,F,hF,hR,w0,S,ι,a,w,hr,m,Q',hQ=>by
  simp only [vcg] at h
  split at h
  ·rename_i b a'
   split at h
   ·rename_i b' hc
    obtain ⟨rfl,h⟩:=h
    cases b' with
    | true=>exact wpIn_cond_true (zY0 (hr.eval c) hc) (zQM hm x n a' kn s Q h hk F hF hR w0 S ι a w hr m Q' hQ)
    | false=>exact wpIn_cond_false (zY0 (hr.eval c) hc) (zQM hm y n a' kn s Q h hk F hF hR w0 S ι a w hr m Q' hQ)
   ·exact h.elim
  split at h
  ·rename_i hc
   exact wpIn_cond_true (zY0 (hr.eval c) (zGU hk hc)) (zQM hm x n ann.l kn s Q h hk F hF hR w0 S ι a w hr m Q' hQ)
  ·rename_i hc
   exact wpIn_cond_false (zY0 (hr.eval c) (zGU hk hc)) (zQM hm y n ann.r kn s Q h hk F hF hR w0 S ι a w hr m Q' hQ)
  ·split at h
   ·rename_i b hc
    exact wpIn_cond_split (zY0 (hr.eval c) hc) (fun hb=>zQM hm x n ann.l kn s Q (h.1 hb) hk F hF hR w0 S ι a w hr m Q' hQ) (fun hb=>zQM hm y n ann.r kn s Q (h.2 hb) hk F hF hR w0 S ι a w hr m Q' hQ)
   ·exact h.elim
 | .block id c,n,ann,kn,s,Q,h,hk,F,hF,hR,w0,S,ι,a,w,hr,m,Q',hQ=>by
  simp only [vcg] at h
  refine wpIn_block (zQM hm c n ann kn s _ h hk F hF hR w0 S ι a w hr m _ fun e kn' s' ι' a' w' hq hk' hr'=>?_)
  cases e with
  | normal=>exact hQ .normal kn' s' ι' a' w' hq hk' hr'
  | exit id'=>
   simp only at hq
   simp only [zYm.exit_,Exit.inBlock]
   by_cases e:id'=id
   ·rw [if_pos e]
    simp only [e,decide_true] at hq
    exact hQ .normal kn' s' ι' a' w' hq hk' hr'
   ·rw [if_neg e]
    simp only [e,decide_false] at hq
    exact hQ (.exit id') kn' s' ι' a' w' hq hk' hr'
  | ret=>exact hQ .ret kn' s' ι' a' w' hq hk' hr'
 | .loop c,n,ann,kn,s,Q,h,hk,F,hF,hR,w0,S,ι,a,w,hr,m,Q',hQ=>by
  simp only [vcg] at h
  split at h
  ·rename_i I a'
   obtain ⟨⟨z,hz,hf⟩,h2⟩:=h
   obtain ⟨ι2,hr2⟩:=hr.fit hf
   refine wpIn_loop_ghost (fun m a w=>∃ z ι,I.ok z∧I.μ z=m∧RepS w0 S n (I.st z).as ι a w) (I.μ z) ⟨z,ι2,hz,rfl,hr2⟩ fun k a w hI=>?_
   obtain ⟨z,ι,hz,rfl,hr⟩:=hI
   refine zQM hm c n (a' z) kn0 _ _ (h2 z hz) (zVL _) F hF hR w0 S ι a w hr m _ fun e kn' s' ι' a' w' hq hk' hr'=>?_
   cases e with
   | normal=>
    obtain ⟨y,hy,hlt,hf⟩:=hq
    obtain ⟨ι3,hr3⟩:=hr'.fit hf
    exact ⟨I.μ y,hlt,y,ι3,hy,rfl,hr3⟩
   | exit id=>exact hQ (.exit id) kn' s' ι' a' w' hq hk' hr'
   | ret=>exact hQ .ret kn' s' ι' a' w' hq hk' hr'
  ·exact jZ7 (f:=fun n=>vcg P Γ n c) (zQM hm c) h.1 h.2 hF hR hr hQ
  ·exact h.elim
 | .rangeFunc g ps x y,n,ann,kn,s,Q,h,hk,F,hF,hR,w0,S,ι,a,w,hr,m,Q',hQ=>by
  simp only [vcg] at h
  split at h
  ·exact jQJ (zQM hm x) (zQM hm y) h hR hr hQ
  ·exact h.elim
 | .scope _,_,_,_,_,_,h,_,_,_,_,_,_,_,_,_,_,_,_,_=>by simp only [vcg] at h
 | .goto _,_,_,_,_,_,h,_,_,_,_,_,_,_,_,_,_,_,_,_=>by simp only [vcg] at h
 | .refuse _,_,_,_,_,_,h,_,_,_,_,_,_,_,_,_,_,_,_,_=>by simp only [vcg] at h
end
def jYW (P:Program) (s:AS):ResultVar→Option AV
 | .tmp t=>some (s.tm t)
 | .cell t ty=>match s.tm t with
  | .one (.ptr b off)=>match s.bx b,zYq P ty with
   | .cells cs,some (g,k)=>if off+k≤cs.length then zKA g ((cs.drop off).take k) else none
   | _,_=>none
  | _=>none
def zVE (P:Program) (s:AS):List ResultVar→Option (List AV)
 | []=>some []
 | r::rs=>match jYW P s r,zVE P s rs with
  | some v,some vs=>some (v::vs)
  | _,_=>none
def jJ1 (P:Program) (s:AS) (rs:List ResultVar):Option RV:=
 match zVE P s rs with
 | some xs=>if xs.all AV.flat then match AV.rvs (fun b=>zXp (s.bx b)) xs with
  | some [r]=>some r
  | some l=>some (.tup l)
  | none=>none else none
 | none=>none
def post (P:Program) (rs:List ResultVar) (R:RV→Prop):zYm→Kn→AS→Prop
 | .exit _,_,_=>False
 | _,_,s=>match jJ1 P s rs with
  | some r=>R r
  | none=>False
def start (args:List RV):AS:=⟨fun t=>match args[t]? with
 | some r=>r.av
 | none=>.tup [],fun _=>.fresh⟩
mutual
def DV.wf:DV→Prop
 | .int k n=>k.min≤n∧n≤k.max
 | .bool _=>True
 | .str s=>s.size≤maxLen
 | .sl n xs=>n≤maxLen∧DV.wfs xs
 | .fn _=>True
def DV.wfs:List DV→Prop
 | []=>True
 | x::xs=>x.wf∧DV.wfs xs
end
mutual
def RV.wf:RV→Prop
 | .d x=>x.wf
 | .agg xs=>DV.wfs xs
 | .tup xs=>RV.wfs xs
def RV.wfs:List RV→Prop
 | []=>True
 | x::xs=>x.wf∧RV.wfs xs
end
section
variable {w:World} {V:Nat→Prop}
mutual
theorem RepD.wf:∀ {d:DV} {v:Value},RepD w V d v→d.wf
 | .int k n,v,h=>by simp only [RepD] at h; simp only [DV.wf]; exact (zZZ _ _).1 h.2
 | .bool _,_,_=>by simp only [DV.wf]
 | .str s,v,h=>by simp only [RepD] at h; simp only [DV.wf]; exact h.2
 | .fn _,_,_=>by simp only [DV.wf]
 | .sl n xs,v,h=>by
  simp only [RepD] at h
  obtain ⟨A,cap,_,h1,h2,h3⟩:=h
  simp only [DV.wf]
  refine ⟨Nat.le_trans h1 h2,?_⟩
  cases xs with
  | nil=>simp only [DV.wfs]
  | cons d ds=>
   obtain ⟨g,off,_,_,hc⟩:=h3 (by simp)
   exact RepCells.wf hc
theorem RepCells.wf:∀ {xs:List DV} {g off:Nat},RepCells w V xs g off→DV.wfs xs
 | [],_,_,_=>by simp only [DV.wfs]
 | d::ds,g,off,h=>by
  simp only [RepCells] at h
  obtain ⟨⟨u,_,hd⟩,hr⟩:=h
  simp only [DV.wfs]
  exact ⟨RepD.wf hd,RepCells.wf hr⟩
end
theorem zQ2.wf:∀ {ds:List DV} {vs:List Value},zQ2 w V ds vs→DV.wfs ds
 | [],[],_=>by simp only [DV.wfs]
 | _::_,_::_,h=>by simp only [DV.wfs]; exact ⟨h.1.wf,zQ2.wf h.2⟩
 | [],_::_,h=>h.elim
 | _::_,[],h=>h.elim
mutual
theorem RepR.wf:∀ {r:RV} {v:Value},RepR w V r v→r.wf
 | .d x,v,h=>by simp only [RepR] at h; simp only [RV.wf]; exact h.wf
 | .agg xs,v,h=>by simp only [RepR] at h; obtain ⟨cs,_,h⟩:=h; simp only [RV.wf]; exact h.wf
 | .tup xs,v,h=>by simp only [RepR] at h; obtain ⟨vs,_,h⟩:=h; simp only [RV.wf]; exact RepRs.wf h
theorem RepRs.wf:∀ {rs:List RV} {vs:List Value},RepRs w V rs vs→RV.wfs rs
 | [],[],_=>by simp only [RV.wfs]
 | _::_,_::_,h=>by simp only [RepRs] at h; simp only [RV.wfs]; exact ⟨RepR.wf h.1,RepRs.wf h.2⟩
 | [],_::_,h=>by simp only [RepRs] at h
 | _::_,[],h=>by simp only [RepRs] at h
end
end
theorem zWy {w:World} {V:Nat→Prop}:∀ {rs:List RV} {vs:List Value},RepRs w V rs vs→rs.length=vs.length
 | [],[],_=>rfl
 | _::_,_::_,h=>by simp only [RepRs] at h; simp [zWy h.2]
 | [],_::_,h=>by simp only [RepRs] at h
 | _::_,[],h=>by simp only [RepRs] at h
theorem zVC {P:Program} {α β:Type} (f:α→Sem β) (w:World):∀ (l:List α) (us:List β),l.length=us.length→(∀ (i:Nat) x u,l[i]?=some x→us[i]?=some u→(f x).run P w=.ok u w)→(l.mapM f).run P w=.ok us w
 | [],[],_,_=>by simp
 | x::l,u::us,hl,h=>by
  rw [List.mapM_cons]
  simp only [Sem.run_bind,h 0 x u rfl rfl,Result.andThen_ok,zVC f w l us (by simpa using hl) (fun i x' u' h1 h2=>h (i+1) x' u' (by simpa using h1) (by simpa using h2)),Sem.run_pure]
 | [],_::_,hl,_=>by simp at hl
 | _::_,[],hl,_=>by simp at hl
def zHy (tmps:Array Value):ResultVar→Sem Value
 | .tmp t=>pure (tmps.getD t undef)
 | .cell c t=>do loadVar t (← asAddr (tmps.getD c undef))
theorem jZ0 (fn:Func) (tmps:Array Value):results fn tmps=(do let vs ← fn.results.mapM (zHy tmps); pure (if h:vs.size=1 then vs[0] else .tuple vs)):=by
 unfold results
 refine congrArg (fun f:ResultVar→Sem Value=>(do let vs ← fn.results.mapM f; pure (if h:vs.size=1 then vs[0] else .tuple vs):Sem Value)) ?_
 funext x
 cases x <;> rfl
theorem jZk {P:Program} {fn:Func} {w0:World} {S:zQS} {n:Dom} {s:AS} {ι:zQk} {a:Act} {w:World} (h:RepS w0 S n s ι a w) {xs:List AV} (hxs:zVE P s fn.results.toList=some xs) :
  ∃ us:List Value,(results fn a.tmps).run P w=.ok (if h:us.toArray.size=1 then us.toArray[0] else .tuple us.toArray) w∧RepAVs w (Seen S w0.heap.size s.bx ι) ι s.bx xs us:=by
 have key:∀ (rs:List ResultVar) (xs:List AV),zVE P s rs=some xs→∃ us:List Value,rs.length=us.length∧(∀ (i:Nat) x u,rs[i]?=some x→us[i]?=some u→(zHy a.tmps x).run P w=.ok u w) ∧
   RepAVs w (Seen S w0.heap.size s.bx ι) ι s.bx xs us:=by
  intro rs
  induction rs with
  | nil=>intro xs h; simp only [zVE,Option.some.injEq] at h; subst h; exact ⟨[],rfl,fun i x u h=>by simp at h,by simp only [RepAVs]⟩
  | cons rv rs ih=>
   intro xs hx
   simp only [zVE] at hx
   cases h1:jYW P s rv with
   | none=>rw [h1] at hx; cases hx
   | some v=>
    cases h2:zVE P s rs with
    | none=>rw [h1,h2] at hx; cases hx
    | some vs=>
     rw [h1,h2] at hx
     simp only [Option.some.injEq] at hx
     subst hx
     obtain ⟨us,l1,l2,l3⟩:=ih vs h2
     have h0:∃ u,(zHy a.tmps rv).run P w=.ok u w∧zQh w (Seen S w0.heap.size s.bx ι) ι s.bx v u:=by
      cases rv with
      | tmp t=>
       simp only [jYW,Option.some.injEq] at h1
       subst h1
       exact ⟨_,rfl,h.tm t⟩
      | cell c ty=>
       simp only [jYW] at h1
       split at h1
       ·rename_i b off hc
        split at h1
        ·rename_i cs g k hB hk
         split at h1
         ·rename_i hle
          have hv:=h.tm c
          rw [hc] at hv
          obtain ⟨_,g',c',hι,ev⟩:=zJW hv
          have hb:=h.bx b
          rw [hB] at hb
          obtain ⟨g2,c2,cur,T,e1,e2,_,e3⟩:=hb
          rw [e1] at hι
          simp only [Option.some.injEq,Prod.mk.injEq] at hι
          obtain ⟨rfl,rfl⟩:=hι
          have hp:=zYi (zJt e3 off k) h1
          have hlen:=zQ9 e3
          have hk':zYq P ty=some (g,((cur.toList.drop off).take k).length):=by
           rw [hk]; congr 2; simp at hlen ⊢; omega
          have hrun:=zZ1 (P:=P) hk' (w:=w) (b:=g2) (o:=off) (fun j u hj=>by
           rw [cell_of_row w g2 (off+j) cur T (0,0) e2]
           rw [List.getElem?_take] at hj
           split at hj
           ·simpa using hj
           ·cases hj)
          refine ⟨_,?_,hp.1⟩
          simp only [zHy,ev,asAddr,Sem.run_bind,Sem.run_pure,Result.andThen_ok,hrun]
         ·cases h1
        ·cases h1
       ·cases h1
     obtain ⟨u,hu1,hu2⟩:=h0
     refine ⟨u::us,by simp [l1],fun i x u' hx hu'=>?_,by simp only [RepAVs]; exact ⟨hu2,l3⟩⟩
     cases i with
     | zero=>simp at hx hu'; subst hx hu'; exact hu1
     | succ i=>exact l2 i x u' (by simpa using hx) (by simpa using hu')
 obtain ⟨us,l1,l2,l3⟩:=key _ _ hxs
 have hmap:=zVC (P:=P) (zHy a.tmps) w fn.results.toList us l1 l2
 refine ⟨us,?_,l3⟩
 rw [jZ0,Sem.run_bind,Array.mapM_eq_mapM_toList,Sem.run_map,hmap]
 simp only [Result.andThen_ok,Sem.run_pure]
theorem jJ0 {P:Program} {fn:Func} {w0:World} {S:zQS} {n:Dom} {s:AS} {ι:zQk} {a:Act} {w:World} (h:RepS w0 S n s ι a w) {r:RV} (hr:jJ1 P s fn.results.toList=some r) :
  ∃ v,(results fn a.tmps).run P w=.ok v w∧RepR w (fun g=>S.see g∨w0.heap.size≤g∨S.lent g) r v:=by
 unfold jJ1 at hr
 split at hr
 ·rename_i xs hxs
  split at hr
  ·rename_i hflat
   obtain ⟨us,hrun,l3⟩:=jZk h hxs
   have hseen:zZh w (Seen S w0.heap.size s.bx ι) w (fun g=>S.see g∨w0.heap.size≤g∨S.lent g):=fun g off u hV hu=>⟨hV.1,hu⟩
   have hlook:∀ x∈xs,∀ b∈x.refs,∀ ys,(fun b=>zXp (s.bx b)) b=some ys→zUx w (fun g=>S.see g∨w0.heap.size≤g∨S.lent g) ι b ys∧(ι b=none→ys=[]):=by
    intro x hx b hb ys hys
    simp only at hys
    have hb':=h.bx b
    cases hB:s.bx b <;> rw [hB] at hys hb' <;> simp only [zXp,Option.some.injEq,reduceCtorEq] at hys <;> subst hys
    ·rcases hb' with ⟨g1,g2⟩ | ⟨g,cap,cur,g1,g2,g3,g4,g5⟩
     ·exact ⟨fun g c e=>(by rw [g1] at e; cases e),fun _=>g2⟩
     ·refine ⟨fun g' c e=>?_,fun e=>(by rw [g1] at e; cases e)⟩
      rw [g1] at e
      simp only [Option.some.injEq,Prod.mk.injEq] at e
      obtain ⟨rfl,rfl⟩:=e
      exact ⟨g3,fun _=>⟨.inr (h.own b g cap (by rw [hB]; rfl) g1).1,RepCells.of_row g2 (g5.keep hseen)⟩⟩
    ·rcases hb' with ⟨g1,g2⟩ | ⟨g,cap,g1,g2,g3⟩
     ·exact ⟨fun g c e=>(by rw [g1] at e; cases e),fun _=>g2⟩
     ·refine ⟨fun g' c e=>?_,fun e=>(by rw [g1] at e; cases e)⟩
      rw [g1] at e
      simp only [Option.some.injEq,Prod.mk.injEq] at e
      obtain ⟨rfl,rfl⟩:=e
      exact ⟨g3,g2.keep hseen⟩
   cases hrv:AV.rvs (fun b=>zXp (s.bx b)) xs with
   | none=>rw [hrv] at hr; cases hr
   | some rvs=>
    rw [hrv] at hr
    have hall:=zUF hseen hflat l3 hlook hrv
    refine ⟨_,hrun,?_⟩
    have hlen:=zWy hall
    match rvs,us,hall,hlen,hr with
    | [r'],[u],hall,_,hr=>
     simp only [Option.some.injEq] at hr
     subst hr
     simp only [RepRs] at hall
     simpa using hall.1
    | [],[],hall,_,hr=>
     simp only [Option.some.injEq] at hr
     subst hr
     simp only [List.size_toArray,List.length_nil,Nat.zero_ne_one,dite_false,RepR]
     exact ⟨_,rfl,hall⟩
    | r1::r2::rs,u1::u2::us,hall,_,hr=>
     simp only [Option.some.injEq] at hr
     subst hr
     simp only [RepR]
     refine ⟨(u1::u2::us).toArray,by simp,hall⟩
    | [_],[],_,hl,_=>simp at hl
    | [],_::_,_,hl,_=>simp at hl
    | [_],_::_::_,_,hl,_=>simp at hl
    | _::_::_,[],_,hl,_=>simp at hl
    | _::_::_,[_],_,hl,_=>simp at hl
  ·cases hr
 ·cases hr
theorem zHN {F:Fence} {m:Nat} {P:Program} {fn:Func} {R:Ending→World→Prop} {w0:World} {n:Dom} {s:AS} {ι:zQk} {tmps:Array Value}:∀ (ds:List Deferred) (S:zQS) (w:World),RepS w0 S n s ι { tmps:=tmps,defers:=ds } w→S.ref.heap.size≤w0.heap.size →
  (∀ w',RepS w0 S n s ι { tmps:=tmps,defers:=[] } w'→∃ v,(results fn tmps).run P w'=.ok v w'∧R (.returned v) w')→LeavesInM F m P fn tmps R ds .returning w
 | [],S,w,h,_,hR=>hR w h
 | d::ds,S,w,h,href,hR=>by
  obtain ⟨D,rfl,h1,h2⟩:=h.marks.2 d (by simp)
  have hlt:D < w.heap.size:=(Array.getElem?_eq_some_iff.1 h2).1
  refine ⟨by simp,.inl ⟨D,w.putObj D (.deferred none),rfl,run_takeDeferred h2,zHN ds S _ ?_ href hR⟩⟩
  have hg:=grownBy_putObj' w D (.deferred none)
  refine h.turn hg (fun r e=>by cases e; exact ⟨h1,_,h2,rfl⟩) (ds:=ds) ⟨(List.pairwise_cons.1 h.marks.1).2,fun d' hd'=>?_⟩ (ref:=S.ref) (zVy h.oth hg (fun r e=>by cases e; exact h1) href)
  obtain ⟨D',rfl,q1,q2⟩:=h.marks.2 d' (by simp [hd'])
  have hne:D'≠D:=fun e=>(List.pairwise_cons.1 h.marks.1).1 _ hd' (by rw [e])
  exact ⟨D',rfl,q1,(World.putObj_heap_other hne).trans q2⟩
def zVQ (fn:Func):Code:=fn.body.getD .skip
theorem jYD {fn:Func} (hb:fn.body.isSome=true):fn.body=some (zVQ fn):=by
 unfold zVQ
 cases h:fn.body with
 | none=>rw [h] at hb; cases hb
 | some c=>rfl
theorem zJE {P:Program} {Γ:Gam} {f:FuncId} {fn:Func} (ann:Ann) (hm:P.follows .mixedOrders=true) (hf:P.funcs[f]?=some fn) (hb:fn.body.isSome=true) {n:Dom} (hn:n.round=false) {s:AS} {Q:zYm→Kn→AS→Prop}
  (h:vcg P Γ n (zVQ fn) ann kn0 s Q) {w:World} {S:zQS} {ι:zQk} {vs:Array Value} {R:Ending→World→Prop} (hr:RepS w S n s ι { tmps:=vs++Array.replicate (fn.ntmps - vs.size) undef,defers:=[] } w) (href:S.ref=w)
  (hend:∀ e kn' s' ι' tmps w',Q e kn' s'→RepS w S n s' ι' { tmps:=tmps,defers:=[] } w'→(∀ id,e≠.exit id)∧∃ v,(results fn tmps).run P w'=.ok v w'∧R (.returned v) w')
  (hex:∀ id kn' s',¬ Q (.exit id) kn' s'):Calls P f vs w R:=by
 refine callsIn_wide.1 (callsIn_of_wp_marks (F:=Fence.wide) (n:=1) hf (jYD hb) trivial ?_)
 refine zQM hm (zVQ fn) n ann kn0 s Q h (zVL _) Fence.wide (.inl rfl) (fun _=>rfl) w S ι _ w hr 1 _ fun e kn' s' ι' a' w' hq hk' hr'=>?_
 have done:LeavesInM Fence.wide 1 P fn a'.tmps R a'.defers .returning w':=
  zHN a'.defers S w' hr' (by rw [href]; exact Nat.le_refl _) fun w'' h''=>(hend e kn' s' ι' a'.tmps w'' hq h'').2
 cases e with
 | normal=>exact done
 | ret=>exact done
 | exit id=>exact (hex id kn' s' hq).elim
theorem zGk {w:World} {V:Nat→Prop} {ι:zQk} {bx:Nat→Bx} {k:Nat}:∀ {xs:List AV} {vs:List Value},RepAVs w V ι bx xs vs→∀ t,zQh w V ι bx ((xs[t]?).getD (.tup [])) ((vs++List.replicate k undef).getD t undef)
 | [],[],_,t=>by
  simp only [List.getElem?_nil,Option.getD_none,zQh,List.nil_append]
  refine ⟨#[],?_,by simp only [RepAVs]⟩
  rw [List.getD_eq_getElem?_getD,List.getElem?_replicate]
  split <;> rfl
 | x::xs,v::vs,h,0=>by simp only [RepAVs] at h; simpa using h.1
 | x::xs,v::vs,h,t+1=>by simp only [RepAVs] at h; simpa using zGk h.2 t
 | [],_::_,h,_=>by simp only [RepAVs] at h
 | _::_,[],h,_=>by simp only [RepAVs] at h
theorem jZN (vs:Array Value) (k t:Nat):(vs++Array.replicate k undef).getD t undef=(vs.toList++List.replicate k undef).getD t undef:=by
 rw [Array.getD_eq_getD_getElem?,List.getD_eq_getElem?_getD,← Array.getElem?_toList]
 simp
theorem zHz {w:World} {S:Nat→Prop} {fn:Func} {args:List RV} {vs:Array Value} (hl:args.length≤fn.ntmps) (hgl:zYl w S) (hvs:RepRs w S args vs.toList) :
  RepS w { see:=S,ref:=w } fn.ntmps (start args) (fun _=>none) { tmps:=vs++Array.replicate (fn.ntmps - vs.size) undef,defers:=[] } w:=by
 have hlen:=zWy hvs
 refine ⟨Bel.refl _ _,⟨List.Pairwise.nil,fun d hd=>by simp at hd⟩,KeepsOthers.refl w,?_,fun t h=>by (cases h),fun b h=>by (cases h),fun t=>?_,fun b=>trivial,fun b g c hl=>by simp [start,Bx.live] at hl,fun b b' g c c' hl=>by simp [start,Bx.live] at hl,hgl.keep fun g off u hV hu=>⟨⟨.inl hV,fun b c hl=>by simp [start,Bx.live] at hl⟩,hu⟩⟩
 ·show (vs++Array.replicate (fn.ntmps - vs.size) undef).size=fn.ntmps
  simp at hlen ⊢; omega
 ·have hk:zZh w S w (Seen { see:=S,ref:=w } w.heap.size (start args).bx fun _=>none):=fun g off u hV hu=>⟨⟨.inl hV,fun b c hl=>by simp [start,Bx.live] at hl⟩,hu⟩
  have h1:=rep_avs (ι:=fun _=>none) (bx:=(start args).bx) (RepRs.keep hk hvs)
  have h2:=zGk (k:=fn.ntmps - vs.size) h1 t
  rw [← jZN] at h2
  have e:(start args).tm t=((RV.avs args)[t]?).getD (.tup []):=by
   have:∀ (l:List RV) (t:Nat),(RV.avs l)[t]?=(l[t]?).map RV.av:=by
    intro l
    induction l with
    | nil=>intro t; simp [RV.avs]
    | cons x l ih=>intro t; cases t <;> simp [RV.avs,ih]
   rw [this]
   simp only [start]
   cases args[t]? <;> rfl
  rw [e]
  exact h2
theorem zQa {P:Program} {Γ:Gam} {f:FuncId} {fn:Func} {args:List RV} {res:RV} (ann:Ann) (hm:P.follows .mixedOrders=true) (hf:P.funcs[f]?=some fn) (hb:fn.body.isSome=true) (hl:args.length≤fn.ntmps)
  (h:RV.wfs args→vcg P Γ fn.ntmps (zVQ fn) ann kn0 (start args) (post P fn.results.toList (·=res))):Ans P f args res:=by
 intro w S vs hgl hvs
 refine zJE ann hm hf hb (n:=fn.ntmps) rfl (h (RepRs.wf hvs)) (zHz hl hgl hvs) rfl (fun e kn' s' ι' tmps w' hq hr'=>?_) (fun id kn' s' hq=>hq)
 have done:post P fn.results.toList (·=res) .ret kn' s'→∃ v,(results fn tmps).run P w'=.ok v w'∧(∃ u,Ending.returned v=.returned u∧RepR w' (fun g=>S g∨w.heap.size≤g) res u∧Below w.heap.size w w'):=by
  intro hq
  simp only [post] at hq
  split at hq
  ·rename_i r hres
   subst hq
   obtain ⟨v,h1,h2⟩:=jJ0 hr' hres
   have hsee:∀ g,(S g∨w.heap.size≤g∨False)→(S g∨w.heap.size≤g):=fun g hV=>hV.imp id fun h=>h.resolve_right id
   exact ⟨v,h1,v,rfl,h2.keep (fun g off u hV hu=>⟨hsee g hV,hu⟩),hr'.bel.below fun g h=>h⟩
  ·exact hq.elim
 cases e with
 | normal=>exact ⟨fun _ e=>by (cases e),done hq⟩
 | ret=>exact ⟨fun _ e=>by (cases e),done hq⟩
 | exit id=>exact hq.elim
def jJ6 (t e size n:Nat) (ys:List DV):zYm→Kn→AS→Prop
 | .exit _,_,_=>False
 | _,_,s=>match s.tm t with
  | .one (.ref b m)=>match s.bx b with
   | .row e' size' zs=>(e'=e∧size'=size)∧ys.length=n*size∧m=n∧zs=ys
   | _=>False
  | .one .nil=>n=0∧ys=[]
  | _=>False
theorem jJ9 {w0 w:World} {S:zQS} {n:Dom} {s:AS} {ι:zQk} {a:Act} (h:RepS w0 S n s ι a w) (hl:∀ g,¬ S.lent g) {b e size m:Nat} {v:Value} {us:List Value} (hb:(s.bx b).live=true) (ho:zKD w 0 e size v m us) (hn:∀ g,v.ownBlock=some g→∃ c,ι b=some (g,c)):zKD w w0.heap.size e size v m us:=by
 refine ⟨ho.1,?_⟩
 rcases ho.2 with h1 | ⟨g,cap,cur,e1,h1,h2,h3⟩
 ·exact .inl h1
 ·refine .inr ⟨g,cap,cur,e1,?_,h2,h3⟩
  obtain ⟨c,hc⟩:=hn g (by rw [e1]; rfl)
  exact (h.own b g c hb hc).1.resolve_right (hl g)
theorem zKg {P:Program} {Γ:Gam} {f:FuncId} {fn:Func} {args:List RV} {t e size n:Nat} {ys:List DV} (ann:Ann) (hm:P.follows .mixedOrders=true) (hf:P.funcs[f]?=some fn) (hb:fn.body.isSome=true) (hl:args.length≤fn.ntmps) (hres:fn.results=#[.tmp t])
  (h:RV.wfs args→vcg P Γ fn.ntmps (zVQ fn) ann kn0 (start args) (jJ6 t e size n ys)):AnsO P f args e size n ys:=by
 intro w S vs hgl hvs
 refine zJE ann hm hf hb (n:=fn.ntmps) rfl (h (RepRs.wf hvs)) (zHz hl hgl hvs) rfl (fun ex kn' s' ι' tmps w' hq hr'=>?_) (fun id kn' s' hq=>hq)
 have hbel:Below w.heap.size w w':=hr'.bel.below fun g h=>h
 have done:jJ6 t e size n ys .ret kn' s'→∃ v,(results fn tmps).run P w'=.ok v w'∧(∃ v2 us,Ending.returned v=.returned v2∧zKD w' w.heap.size e size v2 n us∧zQ2 w' (fun g=>(S g∨w.heap.size≤g)∧v2.ownBlock≠some g) ys us∧ys.length=n*size∧Below w.heap.size w w'):=by
  intro hq
  have hsee:∀ g,(S g∨w.heap.size≤g∨False)→(S g∨w.heap.size≤g):=fun g hV=>hV.imp id fun h=>h.resolve_right id
  refine ⟨_,results_tmp hres _ _ _,?_⟩
  have hv:=hr'.tm t
  simp only [jJ6] at hq
  split at hq
  ·rename_i b m htm
   rw [htm] at hv
   split at hq
   ·rename_i e' size' zs hbx
    obtain ⟨⟨rfl,rfl⟩,hlen,rfl,rfl⟩:=hq
    obtain ⟨us,o1,o2,o3⟩:=zVv hr' hbx hlen hv
    refine ⟨_,us,rfl,jJ9 hr' (fun g h=>h) (by rw [hbx]; rfl) o1 o3,o2.keep fun g off u hV hu=>⟨⟨hsee g hV.1,fun e=>?_⟩,hu⟩,hlen,hbel⟩
    obtain ⟨c,hc⟩:=o3 g e
    exact hV.2 b c (by rw [hbx]; rfl) hc
   ·exact hq.elim
  ·rename_i htm
   rw [htm] at hv
   simp only [zQh,zQt] at hv
   obtain ⟨rfl,rfl⟩:=hq
   exact ⟨_,[],rfl,by rw [hv]; exact zJv _ _ _ _,trivial,by simp,hbel⟩
  ·exact hq.elim
 cases ex with
 | normal=>exact ⟨fun _ e=>by (cases e),done hq⟩
 | ret=>exact ⟨fun _ e=>by (cases e),done hq⟩
 | exit id=>exact hq.elim
mutual
def AV.wf:AV→Prop
 | .one c=>match c with
  | .d v=>v.wf
  | _=>True
 | .agg cs=>Cl.wfs cs
 | .tup _=>True
def Cl.wfs:List Cl→Prop
 | []=>True
 | c::cs=>(match c with
  | .d v=>v.wf
  | _=>True)∧Cl.wfs cs
end
def AV.wfL:List AV→Prop
 | []=>True
 | x::xs=>x.wf∧AV.wfL xs
def Bx.wf:Bx→Prop
 | .cells cs=>Cl.wfs cs
 | .row _ _ xs=>DV.wfs xs
 | .ice xs=>DV.wfs xs
 | _=>True
def Bx.wfL:List Bx→Prop
 | []=>True
 | x::xs=>x.wf∧Bx.wfL xs
section
variable {w:World} {V:Nat→Prop} {ι:zQk} {bx:Nat→Bx}
theorem zQF.wf:∀ {cs:List Cl} {vs:List Value},zQF w V ι bx cs vs→Cl.wfs cs
 | [],[],_=>by simp only [Cl.wfs]
 | c::cs,v::vs,h=>by
  simp only [Cl.wfs]
  refine ⟨?_,zQF.wf h.2⟩
  cases c <;> first | exact RepD.wf h.1 | trivial
 | [],_::_,h=>h.elim
 | _::_,[],h=>h.elim
theorem zQh.wf {x:AV} {v:Value} (h:zQh w V ι bx x v):x.wf:=by
 cases x with
 | one c=>simp only [zQh] at h; cases c <;> simp only [AV.wf] <;> first | exact RepD.wf h | trivial
 | agg cs=>simp only [zQh] at h; obtain ⟨cur,_,h⟩:=h; simp only [AV.wf]; exact h.wf
 | tup vs=>simp only [AV.wf]
theorem RepAVs.wf:∀ {xs:List AV} {vs:List Value},RepAVs w V ι bx xs vs→AV.wfL xs
 | [],[],_=>trivial
 | _::_,_::_,h=>by simp only [RepAVs] at h; exact ⟨h.1.wf,RepAVs.wf h.2⟩
 | [],_::_,h=>by simp only [RepAVs] at h
 | _::_,[],h=>by simp only [RepAVs] at h
theorem zXu.wf {b:Nat} {B:Bx} (h:zXu w V ι bx b B):B.wf:=by
 cases B with
 | fresh=>trivial
 | gone=>trivial
 | cells cs=>obtain ⟨_,_,_,_,_,_,_,h⟩:=h; exact h.wf
 | row e size xs=>
  rcases h with ⟨_,rfl⟩ | ⟨_,_,_,_,_,_,_,h⟩
  ·simp only [Bx.wf,DV.wfs]
  ·exact h.wf
 | ice xs=>
  rcases h with ⟨_,rfl⟩ | ⟨_,_,_,h,_⟩
  ·simp only [Bx.wf,DV.wfs]
  ·exact h.cells.wf
end
def jJC (args:List AV) (ins:List Bx):AS:=⟨fun t=>(args[t]?).getD (.tup []),zQD ins⟩
def zipN {α:Type}:Nat→List α→List (Nat × α)
 | _,[]=>[]
 | n,x::xs=>(n,x)::zipN (n+1) xs
def Cl.flatV:Cl→Prop
 | .d v=>v.flat=true
 | .vp _ _=>False
 | .clo _ _=>False
 | _=>True
def zH6:List Cl→Prop
 | []=>True
 | c::cs=>c.flatV∧zH6 cs
mutual
def AV.flatV:AV→Prop
 | .one c=>c.flatV
 | .agg cs=>zH6 cs
 | .tup vs=>AV.flatVL vs
def AV.flatVL:List AV→Prop
 | []=>True
 | x::xs=>x.flatV∧AV.flatVL xs
end
def Bx.flatV:Bx→Prop
 | .cells cs=>zH6 cs
 | .row _ _ xs=>∀ d∈xs,d.flat=true
 | .ice _=>False
 | _=>True
def Bx.flatVL:List Bx→Prop
 | []=>True
 | x::xs=>x.flatV∧Bx.flatVL xs
def zQn (r:Ret):Prop:=match r.fresh with
 | true=>r.res.flatV∧Bx.flatVL r.outs
 | false=>True
def jZ5:List AV→AV
 | [x]=>x
 | xs=>.tup xs
def jJH (x:AV) (bx:Nat→Bx):AS:=⟨fun t=>if t=0 then x else .one .dead,bx⟩
def jJ7 (P:Program) (n:Dom) (rs:List ResultVar) (r:Ret):zYm→Kn→AS→Prop
 | .exit _,_,_=>False
 | _,_,s=>match zVE P s rs with
  | some xs=>fits ⟨1,fun _=>false,n.pin,false⟩ (jJH (jZ5 xs) s.bx) ⟨[(0,r.res)],zipN 0 r.outs⟩∧zQn r
  | none=>False
section
variable {w:World} {V V':Nat→Prop} {ι:zQk} {bx:Nat→Bx}
theorem jYs {c:Cl} {v:Value} (hf:c.flatV) (h:zQt w V ι bx c v):zQt w V' ι bx c v:=by
 cases c with
 | d x=>exact RepD.of_flat hf h
 | vp _ _=>exact hf.elim
 | clo _ _=>exact hf.elim
 | lit u=>exact h
 | nil=>exact h
 | ptr b off=>exact h
 | ref b n=>exact h
 | dead=>trivial
theorem zG2:∀ {cs:List Cl} {vs:List Value},zH6 cs→zQF w V ι bx cs vs→zQF w V' ι bx cs vs
 | [],[],_,_=>trivial
 | _::_,_::_,hf,h=>⟨jYs hf.1 h.1,zG2 hf.2 h.2⟩
 | [],_::_,_,h=>h.elim
 | _::_,[],_,h=>h.elim
mutual
theorem jYt:∀ {x:AV} {v:Value},x.flatV→zQh w V ι bx x v→zQh w V' ι bx x v
 | .one c,v,hf,h=>by simp only [zQh,AV.flatV] at h hf ⊢; exact jYs hf h
 | .agg cs,v,hf,h=>by
  simp only [zQh,AV.flatV] at h hf ⊢
  obtain ⟨cur,e,h⟩:=h
  exact ⟨cur,e,zG2 hf h⟩
 | .tup vs,v,hf,h=>by
  simp only [zQh,AV.flatV] at h hf ⊢
  obtain ⟨cur,e,h⟩:=h
  exact ⟨cur,e,flat_avs hf h⟩
theorem flat_avs:∀ {xs:List AV} {vs:List Value},AV.flatVL xs→RepAVs w V ι bx xs vs→RepAVs w V' ι bx xs vs
 | [],[],_,_=>by simp only [RepAVs]
 | _::_,_::_,hf,h=>by simp only [RepAVs,AV.flatVL] at h hf ⊢; exact ⟨jYt hf.1 h.1,flat_avs hf.2 h.2⟩
 | [],_::_,_,h=>by simp only [RepAVs] at h
 | _::_,[],_,h=>by simp only [RepAVs] at h
end
theorem jKt {b:Nat} {B:Bx} (hf:B.flatV) (h:zXu w V ι bx b B):zXu w V' ι bx b B:=by
 cases B with
 | fresh=>trivial
 | gone=>trivial
 | cells cs=>obtain ⟨g,c,cur,T,h1,h2,h0,h3⟩:=h; exact ⟨g,c,cur,T,h1,h2,h0,zG2 hf h3⟩
 | row e size xs=>
  rcases h with h | ⟨g,cap,cur,h1,h2,h3,h4,h5⟩
  ·exact .inl h
  ·exact .inr ⟨g,cap,cur,h1,h2,h3,h4,zQ2.of_flat (List.all_eq_true.2 hf) h5⟩
 | ice xs=>exact hf.elim
theorem zH7:∀ {l:List Bx} {b:Nat},Bx.flatVL l→(zQD l b).flatV
 | [],b,_=>by simp [zQD,Bx.flatV]
 | x::l,0,h=>h.1
 | x::l,b+1,h=>zH7 (b:=b) h.2
end
theorem zU1:∀ {l:List Bx} {k b:Nat},zXA (zipN k l) (k+b)=zQD l b
 | [],_,_=>rfl
 | x::l,k,0=>by simp [zipN,zXA,zQD]
 | x::l,k,b+1=>by
  have:=zU1 (l:=l) (k:=k+1) (b:=b)
  simp only [zipN,zXA]
  rw [if_neg (by omega),show k+(b+1)=k+1+b from by omega,this]
  rfl
theorem jJA:∀ {l:List Bx},(∀ b,(zQD l b).wf)→Bx.wfL l
 | [],_=>trivial
 | x::l,h=>⟨h 0,jJA fun b=>h (b+1)⟩
theorem zVr {w:World} {V:Nat→Prop} {ι:zQk} {bx:Nat→Bx}:∀ {xs:List AV} {vs:List Value},RepAVs w V ι bx xs vs→xs.length=vs.length
 | [],[],_=>rfl
 | _::_,_::_,h=>by simp only [RepAVs] at h; simp [zVr h.2]
 | [],_::_,h=>by simp only [RepAVs] at h
 | _::_,[],h=>by simp only [RepAVs] at h
theorem jZU {fn:Func} {pin:Nat} {args:List AV} {ins:List Bx} (hl:args.length≤fn.ntmps) (hp:(List.range pin).all (fun b=>(zQD ins b).known)=true)
  {w:World} {S:Nat→Prop} {ι:zQk} {vs:Array Value} (hgl:zYl w S) (hh:zHm w S ι args ins vs.toList) :
  RepS w { see:=S,lent:=OwnB (zQD ins) ι,ref:=w,nm:=ι } ⟨fn.ntmps,fun _=>false,List.range pin,false⟩ (jJC args ins) ι { tmps:=vs++Array.replicate (fn.ntmps - vs.size) undef,defers:=[] } w:=by
 have hargs:=hh.args
 have hlen:=zVr hargs
 have hk:zZh w S w (Seen { see:=S,lent:=OwnB (zQD ins) ι,ref:=w,nm:=ι } w.heap.size (zQD ins) ι):=fun g off u hV hu=>⟨⟨.inl hV,fun b c hl e=>(hh.own b g c hl e).1 hV⟩,hu⟩
 refine ⟨Bel.refl _ _,⟨List.Pairwise.nil,fun d hd=>by simp at hd⟩,KeepsOthers.refl w,?_,fun t h=>by (cases h),fun b hb=>⟨rfl,(List.all_eq_true.1 hp) b hb⟩,fun t=>?_,fun b=>(hh.bx b).seen hk,fun b g c hl e=>⟨.inr ⟨b,c,hl,e⟩,(hh.own b g c hl e).2⟩,hh.dist,hgl.keep hk⟩
 ·show (vs++Array.replicate (fn.ntmps - vs.size) undef).size=fn.ntmps
  simp at hlen ⊢; omega
 ·have h1:RepAVs w (Seen { see:=S,lent:=OwnB (zQD ins) ι,ref:=w,nm:=ι } w.heap.size (zQD ins) ι) ι (zQD ins) args vs.toList:=hargs.keep (fun b hb=>⟨hb,rfl⟩) hk
  have h2:=zGk (k:=fn.ntmps - vs.size) h1 t
  rw [← jZN] at h2
  exact h2
theorem zUL {P:Program} {fn:Func} {pin:Nat} {ins:List Bx} {r:Ret} {kn':Kn} {s':AS} {ι':zQk} {w w':World} {S:Nat→Prop} {ι:zQk} {tmps:Array Value}
  (hr':RepS w { see:=S,lent:=OwnB (zQD ins) ι,ref:=w,nm:=ι } ⟨fn.ntmps,fun _=>false,List.range pin,false⟩ s' ι' { tmps:=tmps,defers:=[] } w') :
  jJ7 P ⟨fn.ntmps,fun _=>false,List.range pin,false⟩ fn.results.toList r .ret kn' s'→∃ v,(results fn tmps).run P w'=.ok v w'∧∃ v2 ι',Ending.returned v=.returned v2∧jKC w S ι pin ins r w' ι' v2:=by
 intro hq
 simp only [jJ7] at hq
 split at hq
 ·rename_i xs hxs
  obtain ⟨hfit,hfresh⟩:=hq
  obtain ⟨us,hrun,hus⟩:=jZk hr' hxs
  have hul:=zVr hus
  refine ⟨_,hrun,?_⟩
  have hx:zQh w' (Seen { see:=S,lent:=OwnB (zQD ins) ι,ref:=w,nm:=ι } w.heap.size s'.bx ι') ι' s'.bx (jZ5 xs) (if h:us.toArray.size=1 then us.toArray[0] else .tuple us.toArray):=by
   match xs,us,hus,hul with
   | [x],[u],hus,_=>simp only [RepAVs] at hus; simpa [jZ5] using hus.1
   | [],[],hus,_=>simp only [jZ5,zQh]; exact ⟨_,rfl,hus⟩
   | x1::x2::xs,u1::u2::us,hus,_=>simp only [jZ5,zQh]; exact ⟨(u1::u2::us).toArray,by simp,hus⟩
   | [_],[],_,hl=>simp at hl
   | [],_::_,_,hl=>simp at hl
   | [_],_::_::_,_,hl=>simp at hl
   | _::_::_,[],_,hl=>simp at hl
   | _::_::_,[_],_,hl=>simp at hl
  generalize (if h:us.toArray.size=1 then us.toArray[0] else .tuple us.toArray)=v at hx
  generalize jZ5 xs=x at hx hfit
  have h1:RepS w { see:=S,lent:=OwnB (zQD ins) ι,ref:=w,nm:=ι } ⟨1,fun _=>false,List.range pin,false⟩ (jJH x s'.bx) ι' { tmps:=#[v],defers:=[] } w':=
   ⟨hr'.bel,⟨List.Pairwise.nil,fun d hd=>by simp at hd⟩,hr'.oth,rfl,fun t h=>by (cases h),hr'.pin,fun t=>by
    show zQh _ _ _ _ (if t=0 then x else .one .dead) _
    split
    ·rename_i e; subst e; exact hx
    ·simp only [zQh,zQt],hr'.bx,hr'.own,hr'.dist,hr'.glob⟩
  obtain ⟨ι2,h2⟩:=h1.fit hfit
  have hbx:zXA (zipN 0 r.outs)=zQD r.outs:=by
   funext b
   have:=zU1 (l:=r.outs) (k:=0) (b:=b)
   rwa [Nat.zero_add] at this
  have htm:zQh w' (Seen { see:=S,lent:=OwnB (zQD ins) ι,ref:=w,nm:=ι } w.heap.size (zQD r.outs) ι2) ι2 (zQD r.outs) r.res v:=by
   have:=h2.tm 0
   rw [← hbx]
   exact this
  have hb2:∀ b,zXu w' (Seen { see:=S,lent:=OwnB (zQD ins) ι,ref:=w,nm:=ι } w.heap.size (zQD r.outs) ι2) ι2 (zQD r.outs) b (zQD r.outs b):=fun b=>by
   have:=h2.bx b
   rw [← hbx]
   exact this
  have hown:∀ b g c,(zQD r.outs b).live=true→ι2 b=some (g,c)→(w.heap.size≤g∨OwnB (zQD ins) ι g)∧g < w'.heap.size:=fun b g c hl e=>h2.own b g c (by rw [← hbx] at hl; exact hl) e
  have hdist:∀ b b' g c c',(zQD r.outs b).live=true→(zQD r.outs b').live=true→b≠b'→ι2 b=some (g,c)→ι2 b'≠some (g,c'):=fun b b' g c c' hl hl'=>h2.dist b b' g c c' (by rw [← hbx] at hl; exact hl) (by rw [← hbx] at hl'; exact hl')
  have hpin:∀ b,b < pin→ι2 b=ι b:=fun b hb=>(h2.pin b (List.mem_range.2 hb)).1
  refine ⟨v,ι2,rfl,?_⟩
  cases hfr:r.fresh with
  | true=>
   unfold zQn at hfresh
   rw [hfr] at hfresh
   exact ⟨jYt hfresh.1 htm,fun b=>jKt (zH7 hfresh.2) (hb2 b),hown,hdist,hpin,h2.bel⟩
  | false=>
   have hk2:zZh w' (Seen { see:=S,lent:=OwnB (zQD ins) ι,ref:=w,nm:=ι } w.heap.size (zQD r.outs) ι2) w' (jZQ w S ι ins r ι2):=fun g off u hV hu=>⟨⟨by
    rcases hV.1 with h | h | h
    ·exact .inl ⟨hfr,h⟩
    ·exact .inr (.inl h)
    ·exact .inr (.inr h),fun ⟨b,c,hl,e⟩=>hV.2 b c hl e⟩,hu⟩
   exact ⟨htm.keep (fun b hb=>⟨hb,rfl⟩) hk2,fun b=>(hb2 b).seen hk2,hown,hdist,hpin,h2.bel⟩
 ·exact hq.elim
theorem zQL {P:Program} {Γ:Gam} {f:FuncId} {fn:Func} {pin:Nat} {args:List AV} {ins:List Bx} {r:Ret} (ann:Ann) (hm:P.follows .mixedOrders=true) (hf:P.funcs[f]?=some fn) (hb:fn.body.isSome=true) (hl:args.length≤fn.ntmps)
  (hp:(List.range pin).all (fun b=>(zQD ins b).known)=true)
  (h:AV.wfL args→Bx.wfL ins→vcg P Γ ⟨fn.ntmps,fun _=>false,List.range pin,false⟩ (zVQ fn) ann kn0 (jJC args ins) (jJ7 P ⟨fn.ntmps,fun _=>false,List.range pin,false⟩ fn.results.toList r)):AnsG P f pin args ins r:=by
 intro w S ι vs hgl hh
 have hv:=h hh.args.wf (jJA fun b=>(hh.bx b).wf)
 refine zJE ann hm hf hb (n:=⟨fn.ntmps,fun _=>false,List.range pin,false⟩) rfl hv (jZU hl hp hgl hh) rfl (fun e kn' s' ι' tmps w' hq hr'=>?_) (fun id kn' s' hq=>hq)
 cases e with
 | normal=>exact ⟨fun _ e=>by (cases e),zUL (kn':=kn') hr' hq⟩
 | ret=>exact ⟨fun _ e=>by (cases e),zUL (kn':=kn') hr' hq⟩
 | exit id=>exact hq.elim
theorem jX8 {x y M:Int} (h1:0≤x) (h2:x≤M) (h3:0≤y) (h4:y≤M):0≤x*y∧x*y≤M*M:=
 ⟨Int.mul_nonneg h1 h3,Int.mul_le_mul h2 h4 h3 (by omega)⟩
def modS (n k:Int):Int:=if k < 1 then 0 else (IntKind.wrap .i64 (n.tmod k+k)).tmod k
theorem jX9 {n k:Int} (hk:1≤k) (hk':k≤4611686018427387904):modS n k=n % k:=by
 unfold modS
 rw [if_neg (by omega)]
 have a:=Int.tmod_lt_of_pos n (show 0 < k by omega)
 have b : -k < n.tmod k:=by
  rcases Int.le_total 0 n with h | h
  ·have:=Int.tmod_nonneg k h; omega
  ·have:=Int.tmod_lt_of_pos (-n) (show 0 < k by omega)
   rw [Int.neg_tmod] at this
   omega
 rw [IntWalk.i64_in _ ⟨by omega,by omega⟩,Int.tmod_eq_emod_of_nonneg (by omega),Int.add_emod_right,Int.tmod_def]
 rw [show n - k*n.tdiv k=n+k*(-(n.tdiv k)) from by rw [Int.mul_neg]; omega,Int.add_mul_emod_self_left]
structure Rc where
  a:Int
  b:Int
  c:Int
  d:Int
deriving DecidableEq
def okC (v:Int):Bool:=decide (-1073741824≤v) && decide (v≤1073741824)
def Rc.valid (r:Rc):Bool:=okC r.a && okC r.b && okC r.c && okC r.d
def Rc.empty (r:Rc):Bool:=!r.valid || decide (r.c≤r.a) || decide (r.d≤r.b)
def Rc.zero:Rc:=⟨0,0,0,0⟩
def Rc.clean (r:Rc):Rc:=if r.empty then Rc.zero else r
def Rc.area (r:Rc):Int:=if r.empty then 0 else (r.c - r.a)*(r.d - r.b)
def Rc.has (r:Rc) (x y:Int):Bool:=!r.empty && decide (r.a≤x) && decide (x < r.c) && decide (r.b≤y) && decide (y < r.d)
def Rc.inter (r q:Rc):Rc:=if r.empty || q.empty then Rc.zero else Rc.clean ⟨max r.a q.a,max r.b q.b,min r.c q.c,min r.d q.d⟩
def Rc.hull (r q:Rc):Rc:=if q.empty then r else if r.empty then q else ⟨min r.a q.a,min r.b q.b,max r.c q.c,max r.d q.d⟩
def Rc.move (r:Rc) (x y:Int):Rc:=if r.empty || decide (x < -2147483648) || decide (2147483648 < x) || decide (y < -2147483648) || decide (2147483648 < y) then Rc.zero else Rc.clean ⟨r.a+x,r.b+y,r.c+x,r.d+y⟩
theorem Rc.empty_false {r:Rc} (h:r.empty=false) :
  -1073741824≤r.a∧r.a < r.c∧r.c≤1073741824 ∧ -1073741824≤r.b∧r.b < r.d∧r.d≤1073741824:=by
 simp [Rc.empty,Rc.valid,okC] at h
 omega
theorem Rc.empty_iff (r:Rc):r.empty=false ↔ -1073741824≤r.a∧r.a < r.c∧r.c≤1073741824 ∧ -1073741824≤r.b∧r.b < r.d∧r.d≤1073741824:=by
 refine ⟨Rc.empty_false,fun h=>?_⟩
 simp [Rc.empty,Rc.valid,okC]
 omega
theorem Rc.zero_empty:Rc.zero.empty=true:=by decide
theorem Rc.clean_of {r:Rc} (h:r.empty=false):r.clean=r:=by simp [Rc.clean,h]
theorem Rc.clean_zero {r:Rc} (h:r.empty=true):r.clean=Rc.zero:=by simp [Rc.clean,h]
theorem Rc.area_wrap (r:Rc):IntKind.wrap .i64 (IntKind.wrap .i64 (r.clean.c - r.clean.a)*IntKind.wrap .i64 (r.clean.d - r.clean.b))=r.area:=by
 by_cases h:r.empty=true
 ·rw [Rc.clean_zero h]; simp [Rc.area,h,Rc.zero,IntKind.wrap_i64]
 ·have h:r.empty=false:=by simpa using h
  obtain ⟨h1,h2,h3,h4,h5,h6⟩:=Rc.empty_false h
  rw [Rc.clean_of h,IntWalk.i64_in (r.c - r.a) ⟨by omega,by omega⟩,IntWalk.i64_in (r.d - r.b) ⟨by omega,by omega⟩]
  have:=jX8 (x:=r.c - r.a) (y:=r.d - r.b) (M:=2147483648) (by omega) (by omega) (by omega) (by omega)
  rw [IntWalk.i64_in _ ⟨by omega,by omega⟩]
  simp [Rc.area,h]
def is (l:List Int):List DV:=l.map (.int .i64)
def ints (l:List DV):List Int:=l.map fun | .int _ n=>n | _=>0
theorem zZ8 (l:List Int):ints (is l)=l:=by simp [ints,is,Function.comp_def]
def Rc.cells (r:Rc):List DV:=[.int .i64 r.a,.int .i64 r.b,.int .i64 r.c,.int .i64 r.d]
def rcs (l:List Rc):List DV:=l.flatMap Rc.cells
theorem zZN (l:List Rc):(rcs l).length=l.length*4:=by
 unfold rcs
 induction l with
 | nil=>rfl
 | cons r l ih=>simp [ih,Rc.cells]; omega
theorem zKS:∀ (l:List Rc) (i:Nat) (h:i < l.length),(rcs l)[i*4]?=some (.int .i64 l[i].a)∧(rcs l)[i*4+1]?=some (.int .i64 l[i].b)∧(rcs l)[i*4+1+1]?=some (.int .i64 l[i].c)∧(rcs l)[i*4+1+1+1]?=some (.int .i64 l[i].d)
 | r::l,0,_=>by simp [rcs,Rc.cells]
 | r::l,i+1,h=>by
  have:=zKS l i (by simpa using h)
  have e:rcs (r::l)=Rc.cells r++rcs l:=by simp [rcs]
  rw [e]
  simp only [List.getElem_cons_succ]
  have key:∀ j,(Rc.cells r++rcs l)[(i+1)*4+j]?=(rcs l)[i*4+j]?:=fun j=>by
   rw [List.getElem?_append_right (by simp [Rc.cells]; omega)]
   congr 1
   simp [Rc.cells]; omega
  exact ⟨by have:=key 0; simp only [Nat.add_zero] at this; rw [this]; exact (zKS l i (by simpa using h)).1,by rw [key 1]; exact this.2.1,by rw [show (i+1)*4+1+1=(i+1)*4+2 from rfl,key 2]; exact this.2.2.1,by rw [show (i+1)*4+1+1+1=(i+1)*4+3 from rfl,key 3]; exact this.2.2.2⟩
def nOf:DV→Int
 | .int _ n=>n
 | _=>0
def zZW:List DV→List Rc
 | a::b::c::d::r=>⟨nOf a,nOf b,nOf c,nOf d⟩::zZW r
 | _=>[]
theorem zJq:∀ l:List Rc,zZW (rcs l)=l
 | []=>rfl
 | r::l=>by
  have e:rcs (r::l)=.int .i64 r.a::.int .i64 r.b::.int .i64 r.c::.int .i64 r.d::rcs l:=by simp [rcs,Rc.cells]
  rw [e,zZW,zJq l]
  rfl
def jJx (n:Nat) (xs:List DV):Prop:=xs=rcs (zZW xs)∧n=(zZW xs).length
theorem jYc (l:List Rc):jJx l.length (rcs l):=⟨by rw [zJq],by rw [zJq]⟩
theorem jJx.of {n:Nat} {xs:List DV} (h:jJx n xs):∃ l:List Rc,xs=rcs l∧n=l.length:=⟨_,h.1,h.2⟩
theorem zVs {l:List Rc} {i:Nat} (h:i < l.length):nAt (rcs l) (i*4)=l[i].a∧nAt (rcs l) (i*4+1)=l[i].b∧nAt (rcs l) (i*4+1+1)=l[i].c∧nAt (rcs l) (i*4+1+1+1)=l[i].d:=by
 obtain ⟨h1,h2,h3,h4⟩:=zKS l i h
 exact ⟨by simp [nAt,h1],by simp [nAt,h2],by simp [nAt,h3],by simp [nAt,h4]⟩
def zQQ (l:List Rc):Rc:=l.foldl Rc.hull Rc.zero
theorem jXc {l:List Rc} {k:Nat} (h:k < l.length):zQQ (l.take (k+1))=(zQQ (l.take k)).hull l[k]:=by
 unfold zQQ
 rw [List.take_add_one,List.foldl_append,List.getElem?_eq_getElem h]
 rfl
def Rc.pieces (r i:Rc):List Rc:=[⟨r.a,r.b,r.c,i.b⟩,⟨r.a,i.d,r.c,r.d⟩,⟨r.a,i.b,i.a,i.d⟩,⟨i.c,i.b,r.c,i.d⟩]
def filt (l:List Rc):List Rc:=l.filter fun p=>!p.empty
def Rc.sub (r q:Rc):List Rc:=if r.empty then [] else if (r.inter q).empty then [r] else filt (Rc.pieces r (r.inter q))
theorem zQN (l:List Int):(is l).length=l.length:=by simp [is]
theorem jQW {l:List Int} {k:Nat} (h:k < l.length):(is l)[k]?=some (.int .i64 l[k]):=by simp [is,h]
theorem zWR {l:List Int} {k:Nat} (h:k < l.length):nAt (is l) k=l[k]:=by simp [nAt,jQW h]
theorem jXs:∀ (xs:List DV),DV.wfs xs↔∀ x∈xs,x.wf
 | []=>by simp [DV.wfs]
 | x::xs=>by simp only [DV.wfs,jXs xs,List.mem_cons,forall_eq_or_imp]
theorem jK9 {l:List Int} (h:DV.wfs (is l)) {k:Nat} (hk:k < l.length) : -9223372036854775808≤l[k]∧l[k]≤9223372036854775807:=by
 have:=(jXs _).1 h (.int .i64 l[k]) (by simp [is])
 simp [DV.wf,IntKind.min,IntKind.max,IntKind.signed,IntKind.bits] at this
 exact this
open Go.Proofs.Tryz (prog)
theorem zQg:prog.follows .mixedOrders=true:=by kernel_rfl
def gZ0 (xs:List RV):Option RV:=match xs with | [.d (.int _ n),.d (.int _ k)]=>some (rJ (modS n k)) | _=>none
def gamM:Gam where
 pure:=fun f xs=>
  if f=9 then gZ0 xs else
  none
 modes:=fun f=>
  none
 proc:=fun f xs bs=>
  none
 iter:=fun f cs=>
  none
theorem zQs (n k:Int):Ans prog 9 [rJ (n),rJ (k)] (rJ ((modS n k))):=
 zQa (Γ:=gamM) Ann.leaf zQg Tryz.func9 rfl (nL rfl) fun hwf=>by
  refine Eq.mpr (by kernel_rfl:_=(True∧True∧True∧(((decide (k < 1))=true→True∧rJ (0:Int)=rJ (modS n k))∧((decide (k < 1))=false→True∧True∧(k≠0)∧True∧True∧True∧(k≠0)∧True∧rJ (Int.tmod (wK ((Int.tmod n k)+k)) k)=rJ (modS n k))))) ?_
  delta wK rJ
  simp only [true_and,and_true,RV.d.injEq,DV.int.injEq,forall_const,Bool.not_false,Bool.not_true]
  unfold modS; grind
def zZV (l:Int) (xs:List DV):Bool:=(ints xs).all fun v=>decide (-l≤v) && decide (v≤l)
def gZ1 (xs:List RV):Option RV:=match xs with | [.agg [.int _ a,.int _ b,.int _ c,.int _ d]]=>some (RV.d (dQ (Rc.valid ⟨a,b,c,d⟩))) | _=>none
def gZ2 (xs:List RV):Option RV:=match xs with | [.agg [.int _ a,.int _ b,.int _ c,.int _ d]]=>some (RV.d (dQ (Rc.empty ⟨a,b,c,d⟩))) | _=>none
def gZ3 (xs:List RV):Option RV:=match xs with | [.agg [.int _ a,.int _ b,.int _ c,.int _ d]]=>some (RV.agg [dJ (Rc.clean ⟨a,b,c,d⟩).a,dJ (Rc.clean ⟨a,b,c,d⟩).b,dJ (Rc.clean ⟨a,b,c,d⟩).c,dJ (Rc.clean ⟨a,b,c,d⟩).d]) | _=>none
def gZ4 (xs:List RV):Option RV:=match xs with | [.agg [.int _ a,.int _ b,.int _ c,.int _ d]]=>some (rJ (Rc.area ⟨a,b,c,d⟩)) | _=>none
def gZ5 (xs:List RV):Option RV:=match xs with | [.agg [.int _ a,.int _ b,.int _ c,.int _ d],.agg [.int _ a',.int _ b',.int _ c',.int _ d']]=>some (RV.agg [dJ (Rc.inter ⟨a,b,c,d⟩ ⟨a',b',c',d'⟩).a,dJ (Rc.inter ⟨a,b,c,d⟩ ⟨a',b',c',d'⟩).b,dJ (Rc.inter ⟨a,b,c,d⟩ ⟨a',b',c',d'⟩).c,dJ (Rc.inter ⟨a,b,c,d⟩ ⟨a',b',c',d'⟩).d]) | _=>none
def gZ6 (xs:List RV):Option RV:=match xs with | [.agg [.int _ a,.int _ b,.int _ c,.int _ d],.d (.int _ x),.d (.int _ y)]=>some (RV.d (dQ (Rc.has ⟨a,b,c,d⟩ x y))) | _=>none
def gam:Gam where
 pure:=fun f xs=>
  if f=83 then (match xs with | [.d (.int _ l),.d (.sl n xs)]=>some (RV.d (dQ (zZV l xs))) | _=>none) else
  if f=57 then gZ1 xs else
  if f=43 then gZ1 xs else
  if f=30 then gZ2 xs else
  if f=58 then gZ3 xs else
  if f=65 then gZ4 xs else
  if f=31 then gZ5 xs else
  if f=26 then gZ2 xs else
  if f=95 then gZ3 xs else
  if f=84 then gZ4 xs else
  if f=10 then gZ6 xs else
  none
 modes:=fun f=>
  none
 proc:=fun f xs bs=>
  none
 iter:=fun f cs=>
  none
theorem zQx (a b c d:Int):Ans prog 43 [RV.agg [dJ a,dJ b,dJ c,dJ d]] (RV.d (dQ (Rc.valid ⟨a,b,c,d⟩))):=
 zQa (Γ:=gam) Ann.leaf zQg Tryz.func43 rfl (nL rfl) fun hwf=>by
  refine Eq.mpr (by kernel_rfl:_=(let f:=(decide (d≥(-1073741824:Int))); let g:=(decide (c≥(-1073741824:Int))); let h:=(decide (b≥(-1073741824:Int))); let i:=(decide (a≥(-1073741824:Int))); let e:=(dQ (Rc.valid ⟨a,b,c,d⟩)); True∧True∧True∧True∧True∧True∧((i=true→True∧True∧True∧True∧True∧(((decide (a≤1073741824))=true→True∧True∧True∧True∧True∧((h=true→True∧True∧True∧True∧True∧(((decide (b≤1073741824))=true→True∧True∧True∧True∧True∧((g=true→True∧True∧True∧True∧True∧(((decide (c≤1073741824))=true→True∧True∧True∧True∧True∧((f=true→True∧True∧True∧True∧True∧RV.d (dQ (decide (d≤1073741824)))=RV.d e)∧(f=(!true)→True∧True∧RV.d (dQ false)=RV.d e)))∧((decide (c≤1073741824))=(!true)→True∧True∧True∧True∧RV.d (dQ false)=RV.d e)))∧(g=(!true)→True∧True∧True∧True∧True∧True∧RV.d (dQ false)=RV.d e)))∧((decide (b≤1073741824))=(!true)→True∧True∧True∧True∧True∧True∧True∧True∧RV.d (dQ false)=RV.d e)))∧(h=(!true)→True∧True∧True∧True∧True∧True∧True∧True∧True∧True∧RV.d (dQ false)=RV.d e)))∧((decide (a≤1073741824))=(!true)→True∧True∧True∧True∧True∧True∧True∧True∧True∧True∧True∧True∧RV.d (dQ false)=RV.d e)))∧(i=(!true)→True∧True∧True∧True∧True∧True∧True∧True∧True∧True∧True∧True∧True∧True∧RV.d (dQ false)=RV.d e)))) ?_
  delta dQ
  simp only [true_and,and_true,RV.d.injEq,RV.agg.injEq,RV.tup.injEq,DV.bool.injEq,DV.int.injEq,List.cons.injEq,forall_const,Bool.not_false,Bool.not_true,Bool.not_eq_true',Bool.not_eq_false']
  grind [Rc.valid,okC]
theorem zQJ (a b c d:Int):Ans prog 26 [RV.agg [dJ a,dJ b,dJ c,dJ d]] (RV.d (dQ (Rc.empty ⟨a,b,c,d⟩))):=
 zQa (Γ:=gam) Ann.leaf zQg Tryz.func26 rfl (nL rfl) fun hwf=>by
  refine Eq.mpr (by kernel_rfl:_=(let e:=(dQ (Rc.empty ⟨a,b,c,d⟩)); True∧True∧True∧(Ans prog 43 [RV.agg [dJ a,dJ b,dJ c,dJ d]] (RV.d (dQ (Rc.valid ⟨a,b,c,d⟩))))∧True∧True∧(((!(Rc.valid ⟨a,b,c,d⟩))=false→True∧True∧True∧True∧True∧True∧True∧(((decide (a≥c))=false→True∧True∧True∧True∧True∧True∧True∧RV.d (dQ (decide (b≥d)))=RV.d e)∧((decide (a≥c))=(!false)→True∧True∧RV.d (dQ true)=RV.d e)))∧((!(Rc.valid ⟨a,b,c,d⟩))=(!false)→True∧True∧True∧True∧RV.d (dQ true)=RV.d e)))) ?_
  delta dJ dQ
  simp only [true_and,and_true,RV.d.injEq,RV.agg.injEq,RV.tup.injEq,DV.bool.injEq,DV.int.injEq,List.cons.injEq,forall_const,Bool.not_false,Bool.not_true,Bool.not_eq_true',Bool.not_eq_false',zQx,zQs]
  grind [Rc.empty]
theorem zZk (a b c d:Int):Ans prog 95 [RV.agg [dJ a,dJ b,dJ c,dJ d]] (RV.agg [dJ ((Rc.clean ⟨a,b,c,d⟩).a),dJ ((Rc.clean ⟨a,b,c,d⟩).b),dJ ((Rc.clean ⟨a,b,c,d⟩).c),dJ ((Rc.clean ⟨a,b,c,d⟩).d)]):=
 zQa (Γ:=gam) Ann.leaf zQg Tryz.func95 rfl (nL rfl) fun hwf=>by
  refine Eq.mpr (by kernel_rfl:_=(let e:=[dJ a,dJ b,dJ c,dJ d]; let f:=[dJ (Rc.clean ⟨a,b,c,d⟩).a,dJ (Rc.clean ⟨a,b,c,d⟩).b,dJ (Rc.clean ⟨a,b,c,d⟩).c,dJ (Rc.clean ⟨a,b,c,d⟩).d]; True∧True∧True∧(Ans prog 26 [RV.agg e] (RV.d (dQ (Rc.empty ⟨a,b,c,d⟩))))∧(((Rc.empty ⟨a,b,c,d⟩)=true→True∧True∧RV.agg [dJ (0:Int),dJ (0:Int),dJ (0:Int),dJ (0:Int)]=RV.agg f)∧((Rc.empty ⟨a,b,c,d⟩)=false→True∧True∧RV.agg e=RV.agg f)))) ?_
  delta dJ dQ
  simp only [true_and,and_true,RV.d.injEq,RV.agg.injEq,RV.tup.injEq,DV.bool.injEq,DV.int.injEq,List.cons.injEq,forall_const,Bool.not_false,Bool.not_true,Bool.not_eq_true',Bool.not_eq_false',zQx,zQs,zQJ]
  grind [Rc.clean,Rc.zero]
theorem zZl (a b c d:Int):Ans prog 84 [RV.agg [dJ a,dJ b,dJ c,dJ d]] (rJ ((Rc.area ⟨a,b,c,d⟩))):=
 zQa (Γ:=gam) Ann.leaf zQg Tryz.func84 rfl (nL rfl) fun hwf=>by
  refine Eq.mpr (by kernel_rfl:_=(True∧True∧True∧(Ans prog 95 [RV.agg [dJ a,dJ b,dJ c,dJ d]] (RV.agg [dJ (Rc.clean ⟨a,b,c,d⟩).a,dJ (Rc.clean ⟨a,b,c,d⟩).b,dJ (Rc.clean ⟨a,b,c,d⟩).c,dJ (Rc.clean ⟨a,b,c,d⟩).d]))∧True∧True∧True∧True∧True∧True∧True∧True∧True∧True∧True∧True∧True∧rJ (wK ((wK ((Rc.clean ⟨a,b,c,d⟩).c - (Rc.clean ⟨a,b,c,d⟩).a))*(wK ((Rc.clean ⟨a,b,c,d⟩).d - (Rc.clean ⟨a,b,c,d⟩).b))))=rJ (Rc.area ⟨a,b,c,d⟩))) ?_
  delta dJ wK rJ
  simp only [true_and,and_true,RV.d.injEq,RV.agg.injEq,RV.tup.injEq,DV.bool.injEq,DV.int.injEq,List.cons.injEq,forall_const,Bool.not_false,Bool.not_true,Bool.not_eq_true',Bool.not_eq_false',zQx,zQs,zQJ,zZk]
  exact Rc.area_wrap _
theorem zQ5 (a b c d x y:Int):Ans prog 10 [RV.agg [dJ a,dJ b,dJ c,dJ d],rJ (x),rJ (y)] (RV.d (dQ (Rc.has ⟨a,b,c,d⟩ x y))):=
 zQa (Γ:=gam) Ann.leaf zQg Tryz.func10 rfl (nL rfl) fun hwf=>by
  refine Eq.mpr (by kernel_rfl:_=(let e:=(dQ (Rc.has ⟨a,b,c,d⟩ x y)); True∧True∧True∧(Ans prog 26 [RV.agg [dJ a,dJ b,dJ c,dJ d]] (RV.d (dQ (Rc.empty ⟨a,b,c,d⟩))))∧True∧True∧(((!(Rc.empty ⟨a,b,c,d⟩))=true→True∧True∧True∧True∧True∧True∧(((decide (x≥a))=true→True∧True∧True∧True∧True∧True∧(((decide (x < c))=true→True∧True∧True∧True∧True∧True∧(((decide (y≥b))=true→True∧True∧True∧True∧True∧True∧RV.d (dQ (decide (y < d)))=RV.d e)∧((decide (y≥b))=(!true)→True∧True∧RV.d (dQ false)=RV.d e)))∧((decide (x < c))=(!true)→True∧True∧True∧True∧RV.d (dQ false)=RV.d e)))∧((decide (x≥a))=(!true)→True∧True∧True∧True∧True∧True∧RV.d (dQ false)=RV.d e)))∧((!(Rc.empty ⟨a,b,c,d⟩))=(!true)→True∧True∧True∧True∧True∧True∧True∧True∧RV.d (dQ false)=RV.d e)))) ?_
  delta dJ dQ
  simp only [true_and,and_true,RV.d.injEq,RV.agg.injEq,RV.tup.injEq,DV.bool.injEq,DV.int.injEq,List.cons.injEq,forall_const,Bool.not_false,Bool.not_true,Bool.not_eq_true',Bool.not_eq_false',zQx,zQs,zQJ,zZk,zZl]
  grind [Rc.has]
theorem zWA (l:Int) (n:Nat) (xs:List DV) (hx:xs=is (ints xs)) (hn:n=xs.length) (hl:0≤l∧l≤4611686018427387904):Ans prog 83 [rJ (l),RV.d (dS n xs)] (RV.d (dQ (zZV l xs))):=
 zQa (Γ:=gam) (Ann.seq Ann.leaf (Ann.seq (Ann.seq Ann.leaf (Ann.loop ⟨Nat,fun k=>k≤n∧zZV l (xs.take k)=true,fun k=>⟨[(0,aJ l),(1,AV.one (Cl.d (dS n xs))),(7,AV.one (Cl.d (dS n xs))),(8,aJ (n:Int)),(9,aJ (k:Int))],[]⟩,fun k=>n - k⟩ fun k=>Ann.leaf)) Ann.leaf)) zQg Tryz.func83 rfl (nL rfl) fun hwf=>by
  refine Eq.mpr (by kernel_rfl:_=(let c:=(dQ (zZV l xs)); let a:=(dS n xs=dS n xs); let d:=fun (k:Nat)=>(k≤n∧zZV l (xs.take k)=true); let e:=(dJ l=dJ l); let f:=(dJ (n:Int)=dJ (n:Int)); True∧True∧True∧True∧((∃ k:Nat,(d k)∧((e∧a∧a∧f∧(dJ (0:Int)=dJ (k:Int))∧True)∧True))∧∀ k:Nat,let b:=(nAt xs ((k:Int).toNat*1)); let g:=(decide (b < (wK (0 - l)))); (d k)→True∧(((decide ((k:Int) < (n:Int)))=true→(0≤(k:Int)∧(k:Int) < (n:Int)∧(k:Int).toNat*1 < xs.length)∧((xs[(k:Int).toNat*1]?=some (dJ b))∧True)∧True∧True∧True∧True∧True∧True∧((g=false→True∧True∧True∧True∧(((decide (b > l))=true→True∧RV.d (dQ false)=RV.d c)∧((decide (b > l))=false→True∧True∧∃ k':Nat,(k'≤n∧zZV l (xs.take k')=true)∧(n - k' < n - k)∧((e∧a∧a∧f∧(dJ (wK ((k:Int)+1))=dJ (k':Int))∧True)∧True))))∧(g=(!false)→True∧True∧RV.d (dQ false)=RV.d c)))∧((decide ((k:Int) < (n:Int)))=false→True∧RV.d (dQ true)=RV.d c))))) ?_
  delta dJ dQ wK dS
  simp only [true_and,and_true,RV.d.injEq,RV.agg.injEq,RV.tup.injEq,DV.bool.injEq,DV.int.injEq,List.cons.injEq,forall_const,Bool.not_false,Bool.not_true,Bool.not_eq_true',Bool.not_eq_false',zQx,zQs,zQJ,zZk,zZl,zQ5]
  obtain ⟨L,rfl⟩:∃ L,xs=is L:=⟨_,hx⟩
  subst hn
  simp only [RV.wfs,RV.wf,DV.wf,zQN,IntKind.min,IntKind.max,IntKind.signed,IntKind.bits,and_true,maxLen] at hwf
  simp only [zQN,Int.toNat_natCast,Nat.mul_one,decide_eq_true_eq,decide_eq_false_iff_not]
  have hsucc:∀ k (h:k < L.length),zZV l (is (L.take (k+1)))=(zZV l (is (L.take k)) && (decide (-l≤L[k]) && decide (L[k]≤l))):=fun k h=>by
   simp only [zZV,zZ8,List.take_add_one,List.all_append,List.getElem?_eq_getElem h,Option.toList_some,List.all_cons,List.all_nil,Bool.and_true]
  have htake:∀ k,(is L).take k=is (L.take k):=fun k=>by simp [is]
  have hall:∀ k (h:k < L.length),zZV l (is L)=true → -l≤L[k]∧L[k]≤l:=fun k h hw=>by
   simp only [zZV,zZ8,List.all_eq_true] at hw
   have:=hw L[k] (List.getElem_mem h)
   simpa using this
  refine ⟨⟨0,⟨by omega,by simp [zZV,ints]⟩,rfl⟩,fun k hk=>⟨fun hlt=>?_,fun hge=>?_⟩⟩
  ·have hlt':k < L.length:=by omega
   have h1:=hsucc k hlt'
   have h2:=hall k hlt'
   have hw:=jK9 hwf.2.2 hlt'
   rw [zWR hlt',jQW hlt',IntWalk.i64_in (0 - l) ⟨by omega,by omega⟩]
   refine ⟨by omega,rfl,fun h3=>⟨fun h4=>?_,fun h4=>⟨k+1,⟨by omega,?_⟩,by omega,?_⟩⟩,fun h3=>?_⟩
   ·cases h5:zZV l (is L) with
    | false=>rfl
    | true=>have:=h2 h5; omega
   ·rw [htake,h1,← htake,hk.2]; simp; omega
   ·rw [IntWalk.i64_in _ ⟨by omega,by omega⟩]; omega
   ·cases h5:zZV l (is L) with
    | false=>rfl
    | true=>have:=h2 h5; omega
  ·have:k=L.length:=by omega
   subst this
   have:=hk.2
   rw [htake,List.take_length] at this
   exact this.symm
theorem zXJ (a b c d:Int):Ans prog 57 [RV.agg [dJ a,dJ b,dJ c,dJ d]] (RV.d (dQ (Rc.valid ⟨a,b,c,d⟩))):=
 zQa (Γ:=gam) Ann.leaf zQg Tryz.func57 rfl (nL rfl) fun hwf=>by
  refine Eq.mpr (by kernel_rfl:_=(let e:=(dQ (zZV (1073741824:Int) ([dJ a,dJ b,dJ c,dJ d]))); True∧True∧True∧True∧True∧True∧True∧True∧True∧True∧True∧(Ans prog 83 [rJ (1073741824:Int),RV.d (dS 4 ([dJ a,dJ b,dJ c,dJ d]))] (RV.d e))∧True∧RV.d e=RV.d (dQ (Rc.valid ⟨a,b,c,d⟩)))) ?_
  delta dJ dQ dS rJ
  simp only [true_and,and_true,RV.d.injEq,RV.agg.injEq,RV.tup.injEq,DV.bool.injEq,DV.int.injEq,List.cons.injEq,forall_const,Bool.not_false,Bool.not_true,Bool.not_eq_true',Bool.not_eq_false',zQx,zQs,zQJ,zZk,zZl,zQ5]
  exact ⟨zWA _ _ _ rfl rfl (by omega),by grind [zZV,ints,Rc.valid,okC]⟩
theorem zZo (a b c d:Int):Ans prog 30 [RV.agg [dJ a,dJ b,dJ c,dJ d]] (RV.d (dQ (Rc.empty ⟨a,b,c,d⟩))):=
 zQa (Γ:=gam) Ann.leaf zQg Tryz.func30 rfl (nL rfl) fun hwf=>by
  refine Eq.mpr (by kernel_rfl:_=(let e:=(dQ (Rc.empty ⟨a,b,c,d⟩)); True∧True∧True∧(Ans prog 57 [RV.agg [dJ a,dJ b,dJ c,dJ d]] (RV.d (dQ (Rc.valid ⟨a,b,c,d⟩))))∧True∧True∧(((!(Rc.valid ⟨a,b,c,d⟩))=false→True∧True∧True∧True∧True∧True∧True∧(((decide (a≥c))=false→True∧True∧True∧True∧True∧True∧True∧RV.d (dQ (decide (b≥d)))=RV.d e)∧((decide (a≥c))=(!false)→True∧True∧RV.d (dQ true)=RV.d e)))∧((!(Rc.valid ⟨a,b,c,d⟩))=(!false)→True∧True∧True∧True∧RV.d (dQ true)=RV.d e)))) ?_
  delta dJ dQ
  simp only [true_and,and_true,RV.d.injEq,RV.agg.injEq,RV.tup.injEq,DV.bool.injEq,DV.int.injEq,List.cons.injEq,forall_const,Bool.not_false,Bool.not_true,Bool.not_eq_true',Bool.not_eq_false',zQx,zQs,zQJ,zZk,zZl,zQ5,zXJ]
  grind [Rc.empty]
theorem zKd (a b c d:Int):Ans prog 58 [RV.agg [dJ a,dJ b,dJ c,dJ d]] (RV.agg [dJ ((Rc.clean ⟨a,b,c,d⟩).a),dJ ((Rc.clean ⟨a,b,c,d⟩).b),dJ ((Rc.clean ⟨a,b,c,d⟩).c),dJ ((Rc.clean ⟨a,b,c,d⟩).d)]):=
 zQa (Γ:=gam) Ann.leaf zQg Tryz.func58 rfl (nL rfl) fun hwf=>by
  refine Eq.mpr (by kernel_rfl:_=(let e:=[dJ a,dJ b,dJ c,dJ d]; let f:=[dJ (Rc.clean ⟨a,b,c,d⟩).a,dJ (Rc.clean ⟨a,b,c,d⟩).b,dJ (Rc.clean ⟨a,b,c,d⟩).c,dJ (Rc.clean ⟨a,b,c,d⟩).d]; True∧True∧True∧(Ans prog 30 [RV.agg e] (RV.d (dQ (Rc.empty ⟨a,b,c,d⟩))))∧(((Rc.empty ⟨a,b,c,d⟩)=true→True∧True∧RV.agg [dJ (0:Int),dJ (0:Int),dJ (0:Int),dJ (0:Int)]=RV.agg f)∧((Rc.empty ⟨a,b,c,d⟩)=false→True∧True∧RV.agg e=RV.agg f)))) ?_
  delta dJ dQ
  simp only [true_and,and_true,RV.d.injEq,RV.agg.injEq,RV.tup.injEq,DV.bool.injEq,DV.int.injEq,List.cons.injEq,forall_const,Bool.not_false,Bool.not_true,Bool.not_eq_true',Bool.not_eq_false',zQx,zQs,zQJ,zZk,zZl,zQ5,zXJ,zZo]
  grind [Rc.clean,Rc.zero]
theorem zY1 (a b c d:Int):Ans prog 65 [RV.agg [dJ a,dJ b,dJ c,dJ d]] (rJ ((Rc.area ⟨a,b,c,d⟩))):=
 zQa (Γ:=gam) Ann.leaf zQg Tryz.func65 rfl (nL rfl) fun hwf=>by
  refine Eq.mpr (by kernel_rfl:_=(True∧True∧True∧(Ans prog 58 [RV.agg [dJ a,dJ b,dJ c,dJ d]] (RV.agg [dJ (Rc.clean ⟨a,b,c,d⟩).a,dJ (Rc.clean ⟨a,b,c,d⟩).b,dJ (Rc.clean ⟨a,b,c,d⟩).c,dJ (Rc.clean ⟨a,b,c,d⟩).d]))∧True∧True∧True∧True∧True∧True∧True∧True∧True∧True∧True∧True∧True∧rJ (wK ((wK ((Rc.clean ⟨a,b,c,d⟩).c - (Rc.clean ⟨a,b,c,d⟩).a))*(wK ((Rc.clean ⟨a,b,c,d⟩).d - (Rc.clean ⟨a,b,c,d⟩).b))))=rJ (Rc.area ⟨a,b,c,d⟩))) ?_
  delta dJ wK rJ
  simp only [true_and,and_true,RV.d.injEq,RV.agg.injEq,RV.tup.injEq,DV.bool.injEq,DV.int.injEq,List.cons.injEq,forall_const,Bool.not_false,Bool.not_true,Bool.not_eq_true',Bool.not_eq_false',zQx,zQs,zQJ,zZk,zZl,zQ5,zXJ,zZo,zKd]
  exact Rc.area_wrap _
theorem zQv (a b c d a' b' c' d':Int):Ans prog 31 [RV.agg [dJ a,dJ b,dJ c,dJ d],RV.agg [dJ a',dJ b',dJ c',dJ d']] (RV.agg [dJ ((Rc.inter ⟨a,b,c,d⟩ ⟨a',b',c',d'⟩).a),dJ ((Rc.inter ⟨a,b,c,d⟩ ⟨a',b',c',d'⟩).b),dJ ((Rc.inter ⟨a,b,c,d⟩ ⟨a',b',c',d'⟩).c),dJ ((Rc.inter ⟨a,b,c,d⟩ ⟨a',b',c',d'⟩).d)]):=
 zQa (Γ:=gam) Ann.leaf zQg Tryz.func31 rfl (nL rfl) fun hwf=>by
  refine Eq.mpr (by kernel_rfl:_=(let h:=[dJ (0:Int),dJ (0:Int),dJ (0:Int),dJ (0:Int)]; let e:=(Rc.inter ⟨a,b,c,d⟩ ⟨a',b',c',d'⟩); let g:=[dJ e.a,dJ e.b,dJ e.c,dJ e.d]; let f:=(Rc.clean ⟨(max a a'),(max b b'),(min c c'),(min d d')⟩); let i:=[dJ f.a,dJ f.b,dJ f.c,dJ f.d]; True∧True∧True∧True∧(Ans prog 30 [RV.agg [dJ a,dJ b,dJ c,dJ d]] (RV.d (dQ (Rc.empty ⟨a,b,c,d⟩))))∧True∧(((Rc.empty ⟨a,b,c,d⟩)=false→True∧(Ans prog 30 [RV.agg [dJ a',dJ b',dJ c',dJ d']] (RV.d (dQ (Rc.empty ⟨a',b',c',d'⟩))))∧True∧(((Rc.empty ⟨a',b',c',d'⟩)=true→True∧True∧RV.agg h=RV.agg g)∧((Rc.empty ⟨a',b',c',d'⟩)=false→True∧True∧True∧True∧True∧True∧True∧True∧True∧True∧True∧True∧True∧True∧True∧True∧True∧True∧True∧True∧True∧(Ans prog 58 [RV.agg [dJ (max a a'),dJ (max b b'),dJ (min c c'),dJ (min d d')]] (RV.agg i))∧True∧RV.agg i=RV.agg g)))∧((Rc.empty ⟨a,b,c,d⟩)=(!false)→True∧True∧True∧RV.agg h=RV.agg g)))) ?_
  delta dJ dQ
  simp only [true_and,and_true,RV.d.injEq,RV.agg.injEq,RV.tup.injEq,DV.bool.injEq,DV.int.injEq,List.cons.injEq,forall_const,Bool.not_false,Bool.not_true,Bool.not_eq_true',Bool.not_eq_false',zQx,zQs,zQJ,zZk,zZl,zQ5,zXJ,zZo,zKd,zY1]
  cases h1:Rc.empty ⟨a,b,c,d⟩ <;> cases h2:Rc.empty ⟨a',b',c',d'⟩ <;> simp [Rc.inter,h1,h2,Rc.zero]
section
attribute [local irreducible] Ans AnsO AnsG AnsN AnsI
def gZ7 (xs:List RV):Option RV:=match xs with | [.d (.sl n xs)]=>let a:=(zQQ (zZW xs)); some (RV.agg [dJ a.a,dJ a.b,dJ a.c,dJ a.d]) | _=>none
def gamB:Gam where
 pure:=fun f xs=>
  if f=30 then gZ2 xs else
  if f=25 then gZ7 xs else
  none
 modes:=fun f=>
  none
 proc:=fun f xs bs=>
  none
 iter:=fun f cs=>
  none
theorem zGA (n:Nat) (xs:List DV) (hx:jJx n xs):Ans prog 25 [RV.d (dS n xs)] (RV.agg [dJ ((zQQ (zZW xs)).a),dJ ((zQQ (zZW xs)).b),dJ ((zQQ (zZW xs)).c),dJ ((zQQ (zZW xs)).d)]):=
 zQa (Γ:=gamB) (Ann.seq Ann.leaf (Ann.seq Ann.leaf (Ann.seq (Ann.seq Ann.leaf (Ann.loop ⟨Nat,fun k=>k≤n,fun k=>⟨[(0,AV.one (Cl.d (dS n xs))),(2,AV.one (Cl.ptr 2 0)),(3,AV.one (Cl.ptr 3 0)),(6,AV.one (Cl.d (dS n xs))),(7,aJ (n:Int)),(8,aJ (k:Int))],[(2,bC [cJ 0,cJ 0,cJ 0,cJ 0]),(3,bC [cJ (zQQ ((zZW xs).take k)).a,cJ (zQQ ((zZW xs).take k)).b,cJ (zQQ ((zZW xs).take k)).c,cJ (zQQ ((zZW xs).take k)).d])]⟩,fun k=>n - k⟩ fun k=>Ann.leaf)) Ann.leaf))) zQg Tryz.func25 rfl (nL rfl) fun hwf=>by
  refine Eq.mpr (by kernel_rfl:_=(let i:=(dS n xs=dS n xs); let j:=(zQQ (zZW xs)); let t:=(dJ (n:Int)=dJ (n:Int)); let p:=[dJ 0,dJ 0,dJ 0,dJ 0]; let l:=(p=p); let m:=fun (k:Nat)=>[dJ (zQQ ((zZW xs).take k)).a,dJ (zQQ ((zZW xs).take k)).b,dJ (zQQ ((zZW xs).take k)).c,dJ (zQQ ((zZW xs).take k)).d]; let u:=fun (k:Nat)=>[dJ (nAt xs ((k:Int).toNat*4)),dJ (nAt xs ((k:Int).toNat*4+1)),dJ (nAt xs ((k:Int).toNat*4+1+1)),dJ (nAt xs ((k:Int).toNat*4+1+1+1))]; let q:=fun (k:Nat)=>fun (k':Nat)=>(i∧(0=0)∧(0=0)∧i∧t∧(dJ (wK ((k:Int)+1))=dJ (k':Int))∧True); let r:=fun (k':Nat)=>[dJ (zQQ ((zZW xs).take k')).a,dJ (zQQ ((zZW xs).take k')).b,dJ (zQQ ((zZW xs).take k')).c,dJ (zQQ ((zZW xs).take k')).d]; let s:=fun (k:Nat)=>(Rc.empty ⟨(zQQ ((zZW xs).take k)).a,(zQQ ((zZW xs).take k)).b,(zQQ ((zZW xs).take k)).c,(zQQ ((zZW xs).take k)).d⟩); tU5 ((∃ k:Nat,(k≤n)∧((i∧(0=0)∧(0=0)∧i∧t∧(dJ 0=dJ (k:Int))∧True)∧(l∧(p=(m k))∧True)))∧∀ k:Nat,let o:=(zQQ ((zZW xs).take k)); let e:=(nAt xs ((k:Int).toNat*4)); let f:=(nAt xs ((k:Int).toNat*4+1)); let g:=(nAt xs ((k:Int).toNat*4+1+1)); let h:=(nAt xs ((k:Int).toNat*4+1+1+1)); (k≤n)→True∧(((decide ((k:Int) < (n:Int)))=true→(0≤(k:Int)∧(k:Int) < (n:Int)∧(k:Int).toNat*4 < xs.length)∧((xs[(k:Int).toNat*4]?=some (dJ e))∧(xs[(k:Int).toNat*4+1]?=some (dJ f))∧(xs[(k:Int).toNat*4+1+1]?=some (dJ g))∧(xs[(k:Int).toNat*4+1+1+1]?=some (dJ h))∧True)∧tU3 ((Ans prog 30 [RV.agg (u k)] (RV.d (dQ (Rc.empty ⟨e,f,g,h⟩))))∧True∧(((Rc.empty ⟨e,f,g,h⟩)=true→tU2 (∃ k':Nat,(k'≤n)∧(n - k' < n - k)∧((q k k')∧(l∧((m k)=(r k'))∧True))))∧((Rc.empty ⟨e,f,g,h⟩)=false→True∧(Ans prog 30 [RV.agg (m k)] (RV.d (dQ (s k))))∧True∧(((s k)=true→tU4 (∃ k':Nat,(k'≤n)∧(n - k' < n - k)∧((q k k')∧(l∧((u k)=(r k'))∧True))))∧((s k)=false→tU8 (tU8 (tU8 (∃ k':Nat,(k'≤n)∧(n - k' < n - k)∧((q k k')∧(l∧([dJ (min o.a e),dJ (min o.b f),dJ (max o.c g),dJ (max o.d h)]=(r k'))∧True)))))))))))∧((decide ((k:Int) < (n:Int)))=false→tU2 (RV.agg (m k)=RV.agg [dJ j.a,dJ j.b,dJ j.c,dJ j.d])))))) ?_
  delta dJ dQ wK dS
  simp only [sS,zZo,zQJ,zQv,zQs]
  obtain ⟨l,rfl,rfl⟩:=hx.of
  simp only [RV.wfs,RV.wf,DV.wf,maxLen] at hwf
  simp only [zJq,zZN]
  refine ⟨⟨0,by omega,rfl,rfl,rfl,rfl,rfl⟩,fun k hk=>⟨fun hlt=>?_,fun hge=>?_⟩⟩
  ·have h:k < l.length:=by omega
   obtain ⟨e1,e2,e3,e4⟩:=zVs h
   obtain ⟨q1,q2,q3,q4⟩:=zKS l k h
   have hs:=jXc h
   have hw:IntKind.wrap .i64 ((k:Int)+1)=((k+1:Nat):Int):=by rw [IntWalk.i64_in _ ⟨by omega,by omega⟩]; omega
   simp only [e1,e2,e3,e4]
   generalize zQQ (l.take k)=H at *
   refine ⟨by omega,⟨q1,q2,q3,q4⟩,fun he=>⟨k+1,by omega,by omega,hw,?_⟩,fun he=>⟨fun h2=>⟨k+1,by omega,by omega,hw,?_⟩,fun h2=>⟨k+1,by omega,by omega,hw,?_⟩⟩⟩
   ·have he:l[k].empty=true:=he
    rw [hs]; simp [Rc.hull,he]
   ·have he:l[k].empty=false:=he
    have h2:H.empty=true:=h2
    rw [hs]; simp [Rc.hull,he,h2]
   ·have he:l[k].empty=false:=he
    have h2:H.empty=false:=h2
    rw [hs]; simp [Rc.hull,he,h2,Int.min_comm,Int.max_comm]
  ·have:k=l.length:=by omega
   subst this
   simp
end
theorem Rc.has_iff (r:Rc) (x y:Int):r.has x y=true↔r.empty=false∧r.a≤x∧x < r.c∧r.b≤y∧y < r.d:=by
 simp [Rc.has,and_assoc]
theorem Rc.clean_has (r:Rc) (x y:Int):r.clean.has x y=r.has x y:=by
 cases h:r.empty with
 | true=>rw [Rc.clean_zero h]; simp [Rc.has,h,Rc.zero_empty]
 | false=>rw [Rc.clean_of h]
theorem Rc.inter_has (r q:Rc) (x y:Int):(r.inter q).has x y=(r.has x y && q.has x y):=by
 unfold Rc.inter
 cases h1:r.empty with
 | true=>simp [Rc.has,h1,Rc.zero_empty]
 | false=>
  cases h2:q.empty with
  | true=>simp [Rc.has,h2,Rc.zero_empty]
  | false=>
   simp only [Bool.or_self,Bool.false_eq_true,if_false,Rc.clean_has]
   rw [Bool.eq_iff_iff,Bool.and_eq_true,Rc.has_iff,Rc.has_iff,Rc.has_iff,Rc.empty_iff]
   have g1:=(Rc.empty_iff r).1 h1
   have g2:=(Rc.empty_iff q).1 h2
   simp only [h1,h2,true_and]
   omega
theorem Rc.hull_has {r q:Rc} {x y:Int} (h:r.has x y=true∨q.has x y=true):(r.hull q).has x y=true:=by
 unfold Rc.hull
 cases h1:q.empty with
 | true=>
  rcases h with h | h
  ·simpa using h
  ·simp [Rc.has,h1] at h
 | false=>
  cases h2:r.empty with
  | true=>
   rcases h with h | h
   ·simp [Rc.has,h2] at h
   ·simpa using h
  | false=>
   simp only [Bool.false_eq_true,if_false]
   rw [Rc.has_iff,Rc.empty_iff]
   have g1:=(Rc.empty_iff q).1 h1
   have g2:=(Rc.empty_iff r).1 h2
   rw [Rc.has_iff,Rc.has_iff] at h
   simp only
   omega
def cnt (l:List Rc) (x y:Int):Int:=(l.map fun r=>if r.has x y then (1:Int) else 0).sum
def areas (l:List Rc):Int:=(l.map Rc.area).sum
def us (l:List Int):List DV:=l.map (.int .u16)
theorem jKk (l:List Int):ints (us l)=l:=by simp [ints,us,Function.comp_def]
theorem zJp (l:List Int):(us l).length=l.length:=by simp [us]
theorem jKD {l:List Int} {k:Nat} (h:k < l.length):(us l)[k]?=some (.int .u16 l[k]):=by simp [us,h]
theorem jZc {l:List Int} {k:Nat} (h:k < l.length):nAt (us l) k=l[k]:=by simp [nAt,jKD h]
theorem jXv (l m:List Int):us l++us m=us (l++m):=by simp [us]
def IsU (n:Nat) (xs:List DV):Prop:=xs=us (ints xs)∧n=xs.length
theorem IsU.of {n:Nat} {xs:List DV} (h:IsU n xs):∃ l:List Int,xs=us l∧n=l.length:=by
 refine ⟨ints xs,h.1,?_⟩
 rw [h.2,h.1,zJp,jKk]
theorem jJL {n:Nat} {xs:List DV} (hn:xs.length=n) (hx:∀ (j:Nat) d,xs[j]?=some d→∃ v,d=.int .u16 v):IsU n xs:=by
 refine ⟨?_,hn.symm⟩
 clear hn
 induction xs with
 | nil=>rfl
 | cons x xs ih=>
  obtain ⟨v,rfl⟩:=hx 0 _ rfl
  have:=ih fun j d hj=>hx (j+1) d hj
  simp only [us,ints,List.map_cons] at this ⊢
  rw [← this]
def zZK (w h:Int):Bool:=decide (1≤w) && decide (1≤h) && decide (w*h≤16777216)
def lenW (w h s:Int):Int:=IntKind.wrap .i64 (IntKind.wrap .i64 (IntKind.wrap .i64 (h - 1)*s)+w)
def zQY (w h s:Int) (n:Nat):Bool:=zZK w h && decide (w≤s) && decide (s≤16777216) && decide (lenW w h s≤n)
structure Pl where (w h s:Int) (n:Nat) (xs:List DV)
def Pl.none:Pl:=⟨0,0,0,0,[]⟩
def jQY (w h s:Int) (n:Nat) (x y:Int):Bool:=zQY w h s n && decide (0≤x) && decide (x < w) && decide (0≤y) && decide (y < h)
def atP (w h s:Int) (n:Nat) (xs:List DV) (x y:Int):Int:=if jQY w h s n x y then nAt xs (y*s+x).toNat else 0
def jVa (w h s:Int) (n:Nat) (xs:List DV) (w' h' s':Int) (n':Nat) (xs':List DV):Bool:=decide (w=w') && decide (h=h') && decide (s=s') && decide (n=n') && decide (ints xs=ints xs')
theorem jXH {w h:Int} (h1:1≤w) (h2:1≤h):(w≤IntKind.wrap .i64 (Int.tdiv 16777216 h))↔w*h≤16777216:=by
 have hd:Int.tdiv 16777216 h=16777216 / h:=Int.tdiv_eq_ediv_of_nonneg (by omega)
 have h3:(0:Int)≤16777216 / h:=Int.ediv_nonneg (by omega) (by omega)
 have h4:(16777216:Int) / h≤16777216:=Int.ediv_le_self _ (by omega)
 rw [hd,IntWalk.i64_in _ ⟨by omega,by omega⟩,Int.le_ediv_iff_mul_le (by omega)]
theorem zXC {w h:Int} (hf:zZK w h=true):1≤w∧1≤h∧w≤16777216∧h≤16777216∧w*h≤16777216:=by
 simp only [zZK,Bool.and_eq_true,decide_eq_true_eq] at hf
 obtain ⟨⟨h1,h2⟩,h3⟩:=hf
 have e1:w*1≤w*h:=Int.mul_le_mul_of_nonneg_left h2 (by omega)
 have e2:1*h≤w*h:=Int.mul_le_mul_of_nonneg_right h1 (by omega)
 omega
theorem jQT {w h s:Int} (hf:zZK w h=true) (h1:w≤s) (h2:s≤16777216):lenW w h s=(h - 1)*s+w∧1≤lenW w h s∧lenW w h s≤562949953421312∧0≤(h - 1)*s:=by
 obtain ⟨a,b,c,d,_⟩:=zXC hf
 have e:=jX8 (x:=h - 1) (y:=s) (M:=16777216) (by omega) (by omega) (by omega) (by omega)
 unfold lenW
 rw [IntWalk.i64_in (h - 1) ⟨by omega,by omega⟩,IntWalk.i64_in ((h - 1)*s) ⟨by omega,by omega⟩,IntWalk.i64_in _ ⟨by omega,by omega⟩]
 omega
theorem zYg {w h s:Int} {n:Nat} (hv:zQY w h s n=true):1≤w∧1≤h∧w≤16777216∧h≤16777216∧w*h≤16777216∧w≤s∧s≤16777216∧(h - 1)*s+w≤n∧0≤(h - 1)*s:=by
 simp only [zQY,Bool.and_eq_true,decide_eq_true_eq] at hv
 obtain ⟨⟨⟨h1,h2⟩,h3⟩,h4⟩:=hv
 obtain ⟨e1,_,_,e4⟩:=jQT h1 h2 h3
 obtain ⟨a,b,c,d,e⟩:=zXC h1
 rw [e1] at h4
 exact ⟨a,b,c,d,e,h2,h3,h4,e4⟩
theorem place {w h s:Int} {n:Nat} {x y:Int} (hv:zQY w h s n=true) (h1:0≤x) (h2:x < w) (h3:0≤y) (h4:y < h):0≤y*s∧y*s+x < n∧y*s+w≤n∧y*s≤281474976710656∧IntKind.wrap .i64 (y*s)=y*s∧IntKind.wrap .i64 (y*s+x)=y*s+x:=by
 obtain ⟨a,b,c,d,e,f,g,i,j⟩:=zYg hv
 have e1:=jX8 (x:=y) (y:=s) (M:=16777216) (by omega) (by omega) (by omega) (by omega)
 have e2:y*s≤(h - 1)*s:=Int.mul_le_mul_of_nonneg_right (by omega) (by omega)
 refine ⟨by omega,by omega,by omega,by omega,IntWalk.i64_in _ ⟨by omega,by omega⟩,IntWalk.i64_in _ ⟨by omega,by omega⟩⟩
theorem jZS {w h s:Int} {l:List Int} (hv:zQY w h s l.length=true):∀ y,y < h.toNat→y*s.toNat+w.toNat≤l.length:=by
 intro y hy
 obtain ⟨a,b,c,d,e,f,g,i,j⟩:=zYg hv
 obtain ⟨p1,p2,p3,p4,_⟩:=place (x:=0) (y:=(y:Int)) hv (by omega) (by omega) (by omega) (by omega)
 have e1:((y*s.toNat:Nat):Int)=(y:Int)*s:=by rw [Int.natCast_mul,Int.toNat_of_nonneg (by omega)]
 omega
theorem idx {s:Int} {y x:Nat} (hs:0≤s):((y:Int)*s+(x:Int)).toNat=y*s.toNat+x:=by
 have e1:((y*s.toNat:Nat):Int)=(y:Int)*s:=by rw [Int.natCast_mul,Int.toNat_of_nonneg hs]
 omega
theorem at_in {w h s:Int} {l:List Int} (hv:zQY w h s l.length=true) {x y:Nat} (hx:x < w.toNat) (hy:y < h.toNat):l[y*s.toNat+x]?=some (atP w h s l.length (us l) x y):=by
 have hr:=jZS hv y hy
 obtain ⟨a,b,c,d,e,f,g,i,j⟩:=zYg hv
 have hi:jQY w h s l.length x y=true:=by simp [jQY,hv]; omega
 have hk:y*s.toNat+x < l.length:=by omega
 have hz:((y:Int)*s+(x:Int)).toNat=y*s.toNat+x:=idx (by omega)
 simp only [atP,hi,if_true,hz,jZc hk,List.getElem?_eq_getElem hk]
theorem zXN {k:Nat} (h:k≤9223372036854775806):IntKind.wrap .i64 ((k:Int)+1)=((k+1:Nat):Int):=by rw [IntWalk.i64_in _ ⟨by omega,by omega⟩]; omega
theorem w1_:IntKind.wrap .i64 0=0∧IntKind.wrap .i64 1=1∧IntKind.wrap .i64 2=2∧IntKind.wrap .i64 3=3∧IntKind.wrap .i64 4=4∧IntKind.wrap .i64 5=5∧IntKind.wrap .i64 6=6:=by decide
structure Px where
  a:Int
  b:Int
  c:Int
  al:Int
  f:Int
deriving DecidableEq
def Px.zero:Px:=⟨0,0,0,0,0⟩
def Px.ds (p:Px):List DV:=[.int .u16 p.a,.int .u16 p.b,.int .u16 p.c,.int .u16 p.al,.int .u16 p.f]
def pxs (l:List Px):List DV:=l.flatMap Px.ds
def dI:DV→Int
 | .int _ n=>n
 | _=>0
def zQl:List DV→List Px
 | a::b::c::d::e::r=>⟨dI a,dI b,dI c,dI d,dI e⟩::zQl r
 | _=>[]
theorem zYD:∀ l:List Px,zQl (pxs l)=l
 | []=>rfl
 | p::l=>by
  show zQl (Px.ds p++pxs l)=_
  simp [Px.ds,zQl,dI,zYD l]
theorem zJO (l:List Px):(pxs l).length=l.length*5:=by
 induction l with
 | nil=>rfl
 | cons p l ih=>simp [pxs,Px.ds] at ih ⊢; omega
theorem jZo (p:Px) (l:List Px):pxs (p::l)=Px.ds p++pxs l:=rfl
theorem jXX:∀ {l:List Px} {k:Nat} (h:k < l.length),(pxs l)[k*5]?=some (.int .u16 l[k].a)∧(pxs l)[k*5+1]?=some (.int .u16 l[k].b)∧(pxs l)[k*5+2]?=some (.int .u16 l[k].c)∧(pxs l)[k*5+3]?=some (.int .u16 l[k].al)∧(pxs l)[k*5+4]?=some (.int .u16 l[k].f)
 | p::l,0,_=>by simp [jZo,Px.ds]
 | p::l,k+1,h=>by
  have:=jXX (l:=l) (k:=k) (by simpa using h)
  have e:∀ j,(pxs (p::l))[(k+1)*5+j]?=(pxs l)[k*5+j]?:=fun j=>by
   rw [jZo,List.getElem?_append_right (by simp [Px.ds]; omega)]
   congr 1
   simp [Px.ds]; omega
  have e0:=e 0
  simp only [Nat.add_zero] at e0
  simp only [e,e0,List.getElem_cons_succ]
  exact this
theorem zXz {l:List Px} {k:Nat} (h:k < l.length):nAt (pxs l) (k*5)=l[k].a∧nAt (pxs l) (k*5+1)=l[k].b∧nAt (pxs l) (k*5+2)=l[k].c∧nAt (pxs l) (k*5+3)=l[k].al∧nAt (pxs l) (k*5+4)=l[k].f:=by
 obtain ⟨h1,h2,h3,h4,h5⟩:=jXX h
 simp [nAt,h1,h2,h3,h4,h5]
def jXq (n:Nat) (xs:List DV):Prop:=xs=pxs (zQl xs)∧n=(zQl xs).length
theorem jXq.of {n:Nat} {xs:List DV} (h:jXq n xs):∃ l:List Px,xs=pxs l∧n=l.length:=⟨zQl xs,h.1,h.2⟩
theorem jYd (l:List Px):jXq l.length (pxs l):=⟨by rw [zYD],by rw [zYD]⟩
structure Im where
  w:Int
  h:Int
  so:Bool
  c:Px
  p0:Pl
  p1:Pl
  p2:Pl
  p3:Pl
  p4:Pl
def Im.zero:Im:=⟨0,0,false,.zero,.none,.none,.none,.none,.none⟩
def Pl.isU (p:Pl):Prop:=IsU p.n p.xs
def Im.isU (m:Im):Prop:=m.p0.isU∧m.p1.isU∧m.p2.isU∧m.p3.isU∧m.p4.isU
def jXr (p:Pl):Bool:=decide (p.w=0) && decide (p.h=0) && decide (p.s=0) && decide (p.n=0)
def okPl (so:Bool) (w h:Int) (p:Pl):Bool:=if so then jXr p else zQY p.w p.h p.s p.n && decide (p.w=w) && decide (p.h=h)
def Im.inner (m:Im):Bool:=(m.so || decide (m.c=Px.zero)) && (okPl m.so m.w m.h m.p0 && (okPl m.so m.w m.h m.p1 && (okPl m.so m.w m.h m.p2 && (okPl m.so m.w m.h m.p3 && okPl m.so m.w m.h m.p4))))
def Im.formed (m:Im):Bool:=zZK m.w m.h && m.inner
def Pl.at_ (p:Pl) (x y:Int):Int:=nAt p.xs (y*p.s+x).toNat
def Im.px (m:Im) (x y:Int):Px:=if m.so then m.c else ⟨m.p0.at_ x y,m.p1.at_ x y,m.p2.at_ x y,m.p3.at_ x y,m.p4.at_ x y⟩
def Px.ok (p:Px) (most:Int):Bool:=decide (p.a≤p.al) && (decide (p.b≤p.al) && (decide (p.c≤p.al) && (decide (p.al≤p.f) && decide (p.f≤most))))
def Im.nth (m:Im) (k:Nat):Px:=m.px ((k % m.w.toNat:Nat):Int) ((k / m.w.toNat:Nat):Int)
def Im.count (m:Im):Nat:=m.w.toNat*m.h.toNat
def Im.okTo (m:Im) (most:Int) (k:Nat):Bool:=(List.range k).all fun i=>(m.nth i).ok most
def Im.valid (m:Im) (most:Int):Int:=
 if zZK m.w m.h=false then 6 else if m.inner=false then 7 else if m.so then (if m.c.ok most then 0 else 8) else if m.okTo most m.count then 0 else 8
def Im.shape (m:Im):Int:=if zZK m.w m.h=false then 6 else if m.inner=false then 7 else 0
def Im.list (m:Im) (k:Nat):List Px:=(List.range k).map m.nth
def Im.pixels (m:Im):List Px:=if m.formed then m.list m.count else []
def Im.at_ (m:Im) (x y:Int):Px:=if m.formed && decide (0≤x) && decide (x < m.w) && decide (0≤y) && decide (y < m.h) then m.px x y else .zero
def zQb (w h:Int) (c:Px):Im:=⟨w,h,true,c,.none,.none,.none,.none,.none⟩
def chan (l:List Px) (g:Px→Int):List DV:=us (l.map g)
def ofIm (w h:Int) (l:List Px):Im:=
 let q (g:Px→Int):Pl:=⟨w,h,w,l.length,chan l g⟩
 ⟨w,h,false,.zero,q Px.a,q Px.b,q Px.c,q Px.al,q Px.f⟩
def ofOk (w h:Int) (n:Nat):Bool:=zZK w h && decide ((n:Int)=w*h)
def imOf (w h:Int) (l:List Px):Im:=if ofOk w h l.length then ofIm w h l else .zero
def Im.equal (m n:Im):Bool:=m.formed && n.formed && decide (m.w=n.w) && decide (m.h=n.h) && decide (m.pixels=n.pixels)
theorem zKU {w h s:Int} {n:Nat} {xs:List DV} (hu:IsU n xs) (hv:zQY w h s n=true) {x y:Int} (hx:0≤x∧x < w) (hy:0≤y∧y < h) :
  IntKind.wrap .i64 (IntKind.wrap .i64 (y*s)+x)=y*s+x∧(0≤y*s+x∧y*s+x < n∧(y*s+x).toNat*1 < xs.length)∧xs[(y*s+x).toNat*1]?=some (.int .u16 (nAt xs ((y*s+x).toNat*1))):=by
 obtain ⟨l,rfl,rfl⟩:=hu.of
 have hp:=place hv hx.1 hx.2 hy.1 hy.2
 have hf:=zYg hv
 have h1:0≤y*s:=hp.1
 have h2:y*s+x < l.length:=by exact_mod_cast hp.2.1
 have hy16:y≤16777216:=by omega
 have hs16:s≤16777216:=by omega
 have hb:y*s≤281474976710656:=by
  have:=Int.mul_le_mul hy16 hs16 (by omega) (by omega)
  omega
 have w1:IntKind.wrap .i64 (y*s)=y*s:=IntWalk.i64_in _ ⟨by omega,by omega⟩
 have w2:IntKind.wrap .i64 (y*s+x)=y*s+x:=IntWalk.i64_in _ ⟨by omega,by omega⟩
 rw [w1,w2]
 have hk:(y*s+x).toNat*1 < l.length:=by omega
 refine ⟨rfl,⟨by omega,h2,by rw [zJp]; exact hk⟩,?_⟩
 rw [jKD hk,jZc hk]
theorem Im.inner_planes {m:Im} (h:m.inner=true) (hs:m.so=false):m.c=Px.zero∧(zQY m.p0.w m.p0.h m.p0.s m.p0.n=true∧m.p0.w=m.w∧m.p0.h=m.h)∧(zQY m.p1.w m.p1.h m.p1.s m.p1.n=true∧m.p1.w=m.w∧m.p1.h=m.h) ∧
  (zQY m.p2.w m.p2.h m.p2.s m.p2.n=true∧m.p2.w=m.w∧m.p2.h=m.h)∧(zQY m.p3.w m.p3.h m.p3.s m.p3.n=true∧m.p3.w=m.w∧m.p3.h=m.h)∧(zQY m.p4.w m.p4.h m.p4.s m.p4.n=true∧m.p4.w=m.w∧m.p4.h=m.h):=by
 simp [Im.inner,okPl,hs] at h
 grind
theorem Im.shape_zero {m:Im} (h:m.shape=0):zZK m.w m.h=true∧m.inner=true:=by
 unfold Im.shape at h
 split at h
 ·cases h
 ·split at h
  ·cases h
  ·simp_all
theorem Im.nth_in {m:Im} (hf:zZK m.w m.h=true) {k:Nat} (hk:k < m.w.toNat*m.h.toNat):(0≤(((k % m.w.toNat:Nat)):Int)∧(((k % m.w.toNat:Nat)):Int) < m.w)∧(0≤(((k / m.w.toNat:Nat)):Int)∧(((k / m.w.toNat:Nat)):Int) < m.h):=by
 obtain ⟨a,b,c,d,e⟩:=zXC hf
 have h1:=Nat.mod_lt k (show 0 < m.w.toNat by omega)
 have h2:k / m.w.toNat < m.h.toNat:=Nat.div_lt_of_lt_mul hk
 generalize k % m.w.toNat=q at *
 generalize k / m.w.toNat=r at *
 omega
theorem Im.count_le {m:Im} (hf:zZK m.w m.h=true):m.w.toNat*m.h.toNat≤16777216∧((m.w.toNat*m.h.toNat:Nat):Int)=m.w*m.h:=by
 obtain ⟨a,b,c,d,e⟩:=zXC hf
 have:((m.w.toNat*m.h.toNat:Nat):Int)=m.w*m.h:=by
  rw [Int.natCast_mul,Int.toNat_of_nonneg (by omega),Int.toNat_of_nonneg (by omega)]
 exact ⟨by omega,this⟩
theorem Im.list_len (m:Im) (k:Nat):(m.list k).length=k:=by simp [Im.list]
theorem Im.formed_of {m:Im} (h:m.formed=true):zZK m.w m.h=true∧m.inner=true:=by simpa [Im.formed] using h
theorem Im.pixels_of {m:Im} (h:m.formed=true):m.pixels=m.list (m.w.toNat*m.h.toNat):=by simp [Im.pixels,h,Im.count]
theorem Im.at_in {m:Im} {x y:Int} (h:m.formed=true) (hx:0≤x∧x < m.w) (hy:0≤y∧y < m.h):m.at_ x y=m.px x y:=by
 simp [Im.at_,h,hx,hy]
theorem Im.at_out {m:Im} {x y:Int} (h:m.formed=false∨x < 0∨m.w≤x∨y < 0∨m.h≤y):m.at_ x y=Px.zero:=by
 unfold Im.at_
 rw [if_neg]
 simp
 intro h1 h2 h3 h4
 rcases h with h | h | h | h | h
 ·rw [h] at h1; cases h1
 all_goals omega
def zHr (p q:Pl):Bool:=jVa p.w p.h p.s p.n p.xs q.w q.h q.s q.n q.xs
def Im.same (m n:Im):Bool:=zHr m.p0 n.p0 && (zHr m.p1 n.p1 && (zHr m.p2 n.p2 && (zHr m.p3 n.p3 && (zHr m.p4 n.p4 && (decide (m.w=n.w) && (decide (m.h=n.h) && ((m.so==n.so) && decide (m.c=n.c))))))))
def zQr (l:List Px) (g:Px→Int) (k:Nat):List DV:=us ((l.take k).map g)++List.replicate (l.length - k) (.int .u16 0)
theorem zGa {l:List Px} {g:Px→Int} {k:Nat} (h:k≤l.length):(zQr l g k).length=l.length:=by
 unfold zQr
 rw [List.length_append,zJp,List.length_map,List.length_take,List.length_replicate]; omega
theorem zXD (l:List Px) (g:Px→Int):zQr l g 0=List.replicate l.length (.int .u16 0):=by simp [zQr,us]
theorem zGb (l:List Px) (g:Px→Int):zQr l g l.length=chan l g:=by simp [zQr,chan]
theorem zYf {l:List Px} {g:Px→Int} {k:Nat} (h:k < l.length) {v:Int} (hv:v=g l[k]):(zQr l g k).set k (.int .u16 v)=zQr l g (k+1):=by
 subst hv
 have hl:(us ((l.take k).map g)).length=k:=by rw [zJp,List.length_map,List.length_take]; omega
 unfold zQr
 rw [List.set_append_right _ _ (by omega),hl,Nat.sub_self,show l.length - k=(l.length - (k+1))+1 by omega,List.replicate_succ,List.set_cons_zero,List.take_add_one,List.getElem?_eq_getElem h,Option.toList_some,List.map_append,← jXv]
 simp [us]
theorem zVt {l:List Px} {k j:Nat} (h:k < l.length) (hj:j < 5):(pxs l)[k*5+j]?=some (.int .u16 (nAt (pxs l) (k*5+j))):=by
 obtain ⟨a0,a1,a2,a3,a4⟩:=jXX h
 obtain ⟨b0,b1,b2,b3,b4⟩:=zXz h
 match j,hj with
 | 0,_=>rw [Nat.add_zero,a0,b0]
 | 1,_=>rw [a1,b1]
 | 2,_=>rw [a2,b2]
 | 3,_=>rw [a3,b3]
 | 4,_=>rw [a4,b4]
theorem jY1 {l:List Px} {k:Nat} (h:k < l.length):(pxs l)[k*5]?=some (.int .u16 (nAt (pxs l) (k*5))):=zVt (j:=0) h (by omega)
theorem zHJ {l:List Px} {g:Px→Int} {k:Nat} (hlt:(k:Int) < (l.length:Int)) (hb:l.length≤16777216) {v:Int} (hv:∀ h:k < l.length,v=g l[k]) :
  ∃ k':Nat,k'≤l.length∧l.length - k' < l.length - k∧IntKind.wrap .i64 ((k:Int)+1)=(k':Int)∧(zQr l g k).set (k*1) (.int .u16 v)=zQr l g k':=
 have h:k < l.length:=by omega
 ⟨k+1,by omega,by omega,zXN (by omega),by rw [Nat.mul_one]; exact zYf h (hv h)⟩
theorem jKb {l:List Px} {k:Nat} (hlt:(k:Int) < (l.length:Int)) (hb:l.length≤16777216) {v1 v2 v3 v4 v5:Int} (h1:∀ h:k < l.length,v1=l[k].a) (h2:∀ h:k < l.length,v2=l[k].b) (h3:∀ h:k < l.length,v3=l[k].c) (h4:∀ h:k < l.length,v4=l[k].al) (h5:∀ h:k < l.length,v5=l[k].f) :
  ∃ k':Nat,k'≤l.length∧l.length - k' < l.length - k∧IntKind.wrap .i64 ((k:Int)+1)=(k':Int)∧(zQr l Px.a k).set (k*1) (.int .u16 v1)=zQr l Px.a k'∧(zQr l Px.b k).set (k*1) (.int .u16 v2)=zQr l Px.b k'∧(zQr l Px.c k).set (k*1) (.int .u16 v3)=zQr l Px.c k'∧(zQr l Px.al k).set (k*1) (.int .u16 v4)=zQr l Px.al k'∧(zQr l Px.f k).set (k*1) (.int .u16 v5)=zQr l Px.f k':=
 have h:k < l.length:=by omega
 ⟨k+1,by omega,by omega,zXN (by omega),by rw [Nat.mul_one]; exact zYf h (h1 h),by rw [Nat.mul_one]; exact zYf h (h2 h),by rw [Nat.mul_one]; exact zYf h (h3 h),by rw [Nat.mul_one]; exact zYf h (h4 h),by rw [Nat.mul_one]; exact zYf h (h5 h)⟩
theorem jKO {l:List Px} {g:Px→Int} {k:Nat} (hk:k≤l.length) (hge:¬ (k:Int) < (l.length:Int)):zQr l g k=zQr l g l.length:=by
 rw [show k=l.length by omega]
theorem zWf (l:List Int):∀ d∈us l,d.flat=true:=by
 intro d hd
 simp only [us,List.mem_map] at hd
 obtain ⟨v,_,rfl⟩:=hd
 rfl
theorem zW0 {w h:Int} {l:List Px} (hk:ofOk w h l.length=true):imOf w h l=ofIm w h l:=by simp [imOf,hk]
theorem zGW {w h:Int} {l:List Px} (hk:ofOk w h l.length=false):imOf w h l=Im.zero:=by simp [imOf,hk]
theorem jYg (w h:Int) (l:List Px):(∀ d∈(imOf w h l).p0.xs,d.flat=true)∧(∀ d∈(imOf w h l).p1.xs,d.flat=true)∧(∀ d∈(imOf w h l).p2.xs,d.flat=true)∧(∀ d∈(imOf w h l).p3.xs,d.flat=true)∧(∀ d∈(imOf w h l).p4.xs,d.flat=true):=by
 cases hk:ofOk w h l.length with
 | true=>rw [zW0 hk]; exact ⟨zWf _,zWf _,zWf _,zWf _,zWf _⟩
 | false=>rw [zGW hk]; simp [Im.zero,Pl.none]
theorem jXb (w h:Int) (l:List Px):(∀ d∈(imOf w h l).p0.xs,d.flat=true)=True∧(∀ d∈(imOf w h l).p1.xs,d.flat=true)=True∧(∀ d∈(imOf w h l).p2.xs,d.flat=true)=True∧(∀ d∈(imOf w h l).p3.xs,d.flat=true)=True∧(∀ d∈(imOf w h l).p4.xs,d.flat=true)=True:=by
 obtain ⟨a,b,c,d,e⟩:=jYg w h l
 exact ⟨eq_true a,eq_true b,eq_true c,eq_true d,eq_true e⟩
def gMax (n:Int):Int:=if modS n 3=2 then 65535 else 255
def zQy (n most:Int):Int:=
 if modS n 8=0 then 0
 else if modS n 8=1∨modS n 8=2 then most
 else if modS n 8=3 then IntKind.wrap .u16 (IntKind.wrap .i64 (Int.tdiv (IntKind.wrap .i64 (IntKind.wrap .i64 most+modS (IntKind.wrap .i64 (Int.tdiv n 8)) 2)) 2))
 else if modS n 8=4 then IntKind.wrap .u16 (min (IntKind.wrap .i64 most) (modS (IntKind.wrap .i64 (Int.tdiv n 8)) 4))
 else IntKind.wrap .u16 (modS (IntKind.wrap .i64 (Int.tdiv n 8)) (IntKind.wrap .i64 (IntKind.wrap .i64 most+1)))
def zZg (n0 n1 n2 n3 n4 most:Int):Px:=
 let f:=zQy n4 most
 let a:=if 0 < modS n3 3 then zQy (IntKind.wrap .i64 (Int.tdiv n3 3)) f else f
 ⟨zQy n0 a,zQy n1 a,zQy n2 a,a,f⟩
def gNum (L:Nat) (xs:List DV) (k j:Nat):Int:=if 0 < L then nAt xs (k % L*5+j) else 0
def gPx1 (L:Nat) (xs:List DV) (most:Int) (k:Nat):Px:=zZg (gNum L xs k 0) (gNum L xs k 1) (gNum L xs k 2) (gNum L xs k 3) (gNum L xs k 4) most
def gPx (mood:Int) (L:Nat) (xs:List DV) (most:Int) (k:Nat):Px:=
 if modS mood 6=0 then .zero
 else if modS mood 6=1 then let p:=gPx1 L xs most k; ⟨p.a,p.b,p.c,most,most⟩
 else if modS mood 6=2 then gPx1 L xs most 0
 else gPx1 L xs most k
def zQm (mood:Int) (L:Nat) (xs:List DV) (most:Int) (n:Nat):List Px:=(List.range n).map (gPx mood L xs most)
theorem zZJ (mood:Int) (L:Nat) (xs:List DV) (most:Int) (n:Nat):(zQm mood L xs most n).length=n:=by simp [zQm]
theorem zH3 (mood:Int) (L:Nat) (xs:List DV) (most:Int) (n:Nat):zQm mood L xs most (n+1)=zQm mood L xs most n++[gPx mood L xs most n]:=by simp [zQm,List.range_succ]
theorem jY0 (l:List Px) (p:Px):pxs (l++[p])=pxs l++Px.ds p:=by simp [pxs]
def Is5 (L:Nat) (xs:List DV):Prop:=xs.length=L*5∧∀ i,i < L*5→xs[i]?=some (.int .i64 (nAt xs i))
theorem jKr {mood:Int} {L:Nat} {xs:List DV} {most:Int} {n:Nat} (hn:0 < n) (hm:modS mood 6=2):∃ h:0 < (zQm mood L xs most n).length,(zQm mood L xs most n)[0]=gPx1 L xs most 0:=by
 refine ⟨by rw [zZJ]; exact hn,?_⟩
 simp [zQm,gPx,hm]
theorem zJk {mood:Int} {L:Nat} {xs:List DV} {most:Int} {k:Nat} (hk:0 < k) (j:Nat) (hj:j < 5):(pxs (zQm mood L xs most k))[j]?=some (.int .u16 (nAt (pxs (zQm mood L xs most k)) j)):=by
 have h:=zVt (l:=zQm mood L xs most k) (k:=0) (j:=j) (by rw [zZJ]; exact hk) hj
 rw [Nat.zero_mul,Nat.zero_add] at h
 exact h
theorem zG0 {mood:Int} {L:Nat} {xs:List DV} {most:Int} {k:Nat} (hk:0 < k) (hm:modS mood 6=2):nAt (pxs (zQm mood L xs most k)) 0=(gPx1 L xs most 0).a∧nAt (pxs (zQm mood L xs most k)) 1=(gPx1 L xs most 0).b∧nAt (pxs (zQm mood L xs most k)) 2=(gPx1 L xs most 0).c∧nAt (pxs (zQm mood L xs most k)) 3=(gPx1 L xs most 0).al∧nAt (pxs (zQm mood L xs most k)) 4=(gPx1 L xs most 0).f:=by
 obtain ⟨h,e⟩:=jKr (mood:=mood) (L:=L) (xs:=xs) (most:=most) hk hm
 have:=zXz h
 rw [e] at this
 simpa only [Nat.zero_mul,Nat.zero_add] using this
theorem zH2 {mood:Int} {L:Nat} {xs:List DV} {most:Int} {n k:Nat} (hk:k < n) (hn:n≤16777216) {cs:List DV} (hc:cs=Px.ds (gPx mood L xs most k)) :
  ∃ k':Nat,k'≤n∧n - k' < n - k∧(k+1=k'∧IntKind.wrap .i64 ((k:Int)+1)=(k':Int))∧pxs (zQm mood L xs most k)++cs=pxs (zQm mood L xs most k'):=
 ⟨k+1,by omega,by omega,⟨rfl,zXN (by omega)⟩,by rw [zH3,jY0,hc]⟩
section
open Go.ChangeShapes
open Go.WideShapes
def Rd (P:Program) (w:World):Nat→TypeId→List Value→Prop
 | 0,_,_=>False
 | fuel+1,t,cs=>
  match P.underlying t with
  | some .bool=>∃ b,cs=[.bool b]
  | some (.int k)=>∃ n,cs=[.int k n]∧(Lit.int k n).wf=true
  | some .string=>∃ s,cs=[.string s]∧s.size≤reachBytes
  | some (.slice e)=>cs=[.slice none 0 0]∨∃ a len cap,cs=[.slice (some a) len cap]∧len≤cap∧cap≤maxLen∧cap*P.bytesOf e≤reachBytes ∧
    ∀ i,i < cap→∃ cs',w.cells? 0 (a.add (i*P.cellsOf e)) (P.cellsOf e)=some cs'∧Rd P w fuel e cs'
  | some (.struct fs)=>cs.length=P.cellsOf t∧∀ f∈fs.toList,Rd P w fuel f.type ((cs.drop f.offset).take (P.cellsOf f.type))
  | some (.array n e)=>cs.length=P.cellsOf t∧∀ i,i < n→Rd P w fuel e ((cs.drop (i*P.cellsOf e)).take (P.cellsOf e))
  | _=>True
section
variable {H:Type} {enc:TypeId × Value→H} {P:Program} {w:World}
theorem zX4 {e:TypeId} {n:Nat}:∀ {l:List (DataW H)} {d:DataW H},d∈l→n∈d.weights P e→n∈DataW.weightsAll P e l
 | x::r,d,hd,hn=>by
  simp only [DataW.weightsAll,List.mem_append]
  rcases List.mem_cons.1 hd with rfl | h
  ·exact .inl hn
  ·exact .inr (zX4 h hn)
theorem zJ8 {n:Nat}:∀ {ts:List TypeId} {ds:List (DataW H)} {i:Nat} {t:TypeId} {d:DataW H},ts[i]?=some t→ds[i]?=some d→n∈d.weights P t→n∈DataW.weightsEach P ts ds
 | t::ts,d::ds,0,_,_,ht,hd,hn=>by
  simp at ht hd; subst ht hd
  simp only [DataW.weightsEach,List.mem_append]
  exact .inl hn
 | t::ts,d::ds,i+1,_,_,ht,hd,hn=>by
  simp only [DataW.weightsEach,List.mem_append]
  exact .inr (zJ8 (by simpa using ht) (by simpa using hd) hn)
 | [],_,_,_,_,ht,_,_=>by simp at ht
 | _::_,[],_,_,_,_,hd,_=>by simp at hd
theorem jZ1:∀ (fuel:Nat) (t:TypeId) (cs:List Value) (d:DataW H) (ps:List MemPlace),
  DataW.trod enc P w 0 (fun _=>true) true fuel t cs=some (d,ps)→(∀ n∈d.weights P t,n≤reachBytes)→Rd P w fuel t cs:=by
 intro fuel
 induction fuel with
 | zero=>intro t cs d ps h; simp [DataW.trod] at h
 | succ fuel ih=>
  intro t cs d ps h hw
  unfold DataW.trod at h
  unfold Rd
  split at h
  ·rename_i b hu; simp only [hu]; exact ⟨_,rfl⟩
  ·rename_i k k' n hu
   simp only [hu]
   split at h
   ·rename_i hk; obtain ⟨rfl,hwf⟩:=hk; exact ⟨_,rfl,hwf⟩
   ·cases h
  ·rename_i hu; simp only [hu]
  ·rename_i s hu
   simp only [hu]
   split at h
   ·simp only [Option.some.injEq,Prod.mk.injEq] at h
    obtain ⟨rfl,_⟩:=h
    exact ⟨_,rfl,by have:=hw s.data.toList.length (List.mem_singleton.2 rfl); rw [Array.length_toList] at this; exact this⟩
   ·cases h
  ·rename_i hu; simp only [hu]
  ·rename_i hu; simp only [hu]
  ·rename_i hu; simp only [hu]; exact .inl trivial
  ·rename_i e a len cap hu
   simp only [hu]
   split at h
   ·rename_i hc
    obtain ⟨_,hl,hm⟩:=hc
    simp only [if_true] at h
    obtain ⟨elems,he,h⟩:=Option.bind_eq_some_iff.1 h
    obtain ⟨rest,hr,h⟩:=Option.map_eq_some_iff.1 h
    simp only [Prod.mk.injEq] at h
    obtain ⟨rfl,_⟩:=h
    have le:=mapM_some_length he
    have lr:=mapM_some_length hr
    simp only [List.length_range] at le lr
    have hwt:DataW.weights P t (.slice (elems.map (·.1)) (rest.map (·.1)))=((elems.map (·.1)).length+(rest.map (·.1)).length)*P.bytesOf e::(DataW.weightsAll P e (elems.map (·.1))++DataW.weightsAll P e (rest.map (·.1))):=by
     simp only [DataW.weights,hu]
    rw [hwt] at hw
    refine .inr ⟨a,len,cap,rfl,hl,hm,?_,?_⟩
    ·have:=hw _ (.head _)
     simp only [List.length_map,le,lr] at this
     rwa [show len+(cap - len)=cap from by omega] at this
    ·have key:∀ (i:Nat) (x:DataW H × List MemPlace),((w.cells? 0 (a.add (i*P.cellsOf e)) (P.cellsOf e)).bind (DataW.trod enc P w 0 (fun _=>true) true fuel e))=some x→(∀ n∈x.1.weights P e,n≤reachBytes) →
       ∃ cs',w.cells? 0 (a.add (i*P.cellsOf e)) (P.cellsOf e)=some cs'∧Rd P w fuel e cs':=by
      intro i x hx hxw
      obtain ⟨cs',h1,h2⟩:=Option.bind_eq_some_iff.1 hx
      exact ⟨cs',h1,ih e cs' x.1 x.2 h2 hxw⟩
     intro i hi
     rcases Nat.lt_or_ge i len with hlt | hge
     ·have hx:elems[i]?=some (elems[i]'(by omega)):=List.getElem?_eq_getElem (by omega)
      have h1:=mapM_some_get he i i (by simp [hlt])
      rw [hx] at h1
      refine key i _ h1 fun n hn=>hw n (.tail _ (List.mem_append.2 (.inl (zX4 (List.mem_map.2 ⟨_,List.getElem_mem (by omega),rfl⟩) hn))))
     ·have hx:rest[i - len]?=some (rest[i - len]'(by omega)):=List.getElem?_eq_getElem (by omega)
      have h1:=mapM_some_get hr (i - len) (i - len) (List.getElem?_range (by omega))
      rw [hx,show len+(i - len)=i from by omega] at h1
      refine key i _ h1 fun n hn=>hw n (.tail _ (List.mem_append.2 (.inr (zX4 (List.mem_map.2 ⟨_,List.getElem_mem (by omega),rfl⟩) hn))))
   ·cases h
  ·rename_i fs hu
   simp only [hu]
   split at h
   ·rename_i hlen
    obtain ⟨xs,hxs,h⟩:=Option.map_eq_some_iff.1 h
    simp only [Prod.mk.injEq] at h
    obtain ⟨rfl,_⟩:=h
    refine ⟨hlen,fun f hf=>?_⟩
    obtain ⟨i,hi,rfl⟩:=List.getElem_of_mem hf
    have hl:=mapM_some_length hxs
    have hx:xs[i]?=some (xs[i]'(by omega)):=List.getElem?_eq_getElem (by omega)
    have h1:=mapM_some_get hxs i _ (List.getElem?_eq_getElem hi)
    rw [hx] at h1
    refine ih _ _ _ _ h1 fun n hn=>hw n ?_
    simp only [DataW.weights,hu]
    exact zJ8 (i:=i) (by rw [List.getElem?_map,List.getElem?_eq_getElem hi]; rfl) (by rw [List.getElem?_map,hx]; rfl) hn
   ·cases h
  ·rename_i n e hu
   simp only [hu]
   split at h
   ·rename_i hlen
    obtain ⟨xs,hxs,h⟩:=Option.map_eq_some_iff.1 h
    simp only [Prod.mk.injEq] at h
    obtain ⟨rfl,_⟩:=h
    refine ⟨hlen,fun i hi=>?_⟩
    have hl:=mapM_some_length hxs
    simp only [List.length_range] at hl
    have hx:xs[i]?=some (xs[i]'(by omega)):=List.getElem?_eq_getElem (by omega)
    have h1:=mapM_some_get hxs i i (by simp [hi])
    rw [hx] at h1
    refine ih _ _ _ _ h1 fun n hn=>hw n ?_
    simp only [DataW.weights,hu]
    exact zX4 (List.mem_map.2 ⟨_,List.getElem_mem (by omega),rfl⟩) hn
   ·cases h
  all_goals first | (cases h; done) | (rename_i hu; simp only [hu])
end
def Arg (P:Program) (w:World) (t:TypeId) (v:Value):Prop:=
 (∃ fuel,Rd P w fuel t v.cells.toList) ∧
  match P.underlying t with
  | some (.struct _) | some (.array _ _)=>∃ cs,v=.agg cs
  | _=>v.cells=#[v]
def Args (P:Program) (w:World):List TypeId→List Value→Prop
 | [],[]=>True
 | t::ts,v::vs=>Arg P w t v∧Args P w ts vs
 | _,_=>False
theorem zUf {P:Program} {w:World} {r:Reach} {base:Nat} {t:TypeId} {v:Value} (h:Value.okWide P w r base t v) :
  match P.underlying t with
  | some (.struct _) | some (.array _ _)=>∃ cs,v=.agg cs
  | _=>v.cells=#[v]:=by
 unfold Value.okWide at h
 split
 ·rename_i hu
  simp only [hu] at h
  obtain ⟨cs,rfl,_⟩:=h
  exact ⟨_,rfl⟩
 ·rename_i hu
  simp only [hu] at h
  obtain ⟨cs,rfl,_⟩:=h
  exact ⟨_,rfl⟩
 ·rename_i h1 h2
  have h':Cell.okWide P w r base t v:=by
   split at h
   ·rename_i hu; exact absurd hu (by intro e; exact h1 _ e)
   ·rename_i hu; exact absurd hu (by intro e; exact h2 _ _ e)
   ·exact h
  cases v with
  | agg cs=>
   exfalso
   unfold Cell.okWide at h'
   split at h' <;> first | (rename_i hv; cases hv; done) | skip
   unfold Cell.ok at h'
   split at h' <;> first | (rename_i hv; cases hv; done) | exact h'
  | _=>rfl
section
variable {H:Type} {enc:TypeId × Value→H}
theorem zJF {P:Program} {w:World}:∀ {ts:List TypeId} {vs:List Value} {ds:List (DataW H)} {ps:List MemPlace},DataW.TrodAll enc P w 0 (fun _=>true) true ts vs ds ps →
  (∀ n∈DataW.weightsEach P ts ds,n≤reachBytes) →
  (∀ (j:Nat) t v,ts[j]?=some t→vs[j]?=some v→match P.underlying t with | some (.struct _) | some (.array _ _)=>∃ cs,v=.agg cs | _=>v.cells=#[v])→Args P w ts vs∧ds.length=ts.length
 | [],[],[],_,_,_,_=>⟨trivial,rfl⟩
 | t::ts,v::vs,d::ds,_,h,hw,hv=>by
  obtain ⟨p,q,⟨fuel,hf⟩,hr,_⟩:=h
  have hrest:=zJF hr (fun n hn=>hw n (by simp only [DataW.weightsEach,List.mem_append]; exact .inr hn)) (fun j t v ht hv'=>hv (j+1) t v (by simpa using ht) (by simpa using hv'))
  exact ⟨⟨⟨⟨fuel,jZ1 fuel t _ d p hf (fun n hn=>hw n (by simp only [DataW.weightsEach,List.mem_append]; exact .inl hn))⟩,hv 0 t v rfl rfl⟩,hrest.1⟩,by simp [hrest.2]⟩
 | [],[],_::_,_,h,_,_=>h.elim
 | [],_::_,_,_,h,_,_=>h.elim
 | _::_,[],_,_,h,_,_=>h.elim
 | _::_,_::_,[],_,h,_,_=>h.elim
theorem zKH {P:Program} (laid:laidOutB P=true) {W W':World} (hb:Below W.heap.size W W'):∀ {ts:List TypeId} {vs:List Value} {ds:List (DataW H)} {ps:List MemPlace},
  (∀ t∈ts,P.readableRec t=true∧t < P.types.size)→DataW.TrodAll enc P W 0 (fun _=>true) true ts vs ds ps→DataW.TrodAll enc P W' 0 (fun b=>decide (b < W.heap.size)) true ts vs ds ps
 | [],[],[],_,_,h=>h
 | t::ts,v::vs,d::ds,_,hr,h=>by
  obtain ⟨p,q,hd,hrest,rfl⟩:=h
  have hlt:∀ x∈p,x.block < W.heap.size:=by obtain ⟨m,hm⟩:=hd; exact DataW.trod_lt m _ _ _ hm
  exact ⟨p,q,Below.trod laid (hr t (.head _)).1 (hr t (.head _)).2 hd hb hlt,zKH laid hb (fun t' ht'=>hr t' (.tail _ ht')) hrest,rfl⟩
 | [],[],_::_,_,_,h=>h.elim
 | [],_::_,_,_,_,h=>h.elim
 | _::_,[],_,_,_,h=>h.elim
 | _::_,_::_,[],_,_,h=>h.elim
end
section
variable {P:Program} {w:World} {fuel:Nat} {t:TypeId} {cs:List Value}
theorem Rd.int {k:IntKind} (hu:P.underlying t=some (.int k)) (h:Rd P w fuel t cs):∃ n,cs=[.int k n]∧(Lit.int k n).wf=true:=by
 cases fuel with
 | zero=>exact h.elim
 | succ fuel=>unfold Rd at h; simp only [hu] at h; exact h
theorem Rd.bool (hu:P.underlying t=some .bool) (h:Rd P w fuel t cs):∃ b,cs=[.bool b]:=by
 cases fuel with
 | zero=>exact h.elim
 | succ fuel=>unfold Rd at h; simp only [hu] at h; exact h
theorem Rd.str (hu:P.underlying t=some .string) (h:Rd P w fuel t cs):∃ s,cs=[.string s]∧s.size≤reachBytes:=by
 cases fuel with
 | zero=>exact h.elim
 | succ fuel=>unfold Rd at h; simp only [hu] at h; exact h
theorem Rd.slice {e:TypeId} (hu:P.underlying t=some (.slice e)) (h:Rd P w fuel t cs) :
  cs=[.slice none 0 0]∨∃ a len cap,cs=[.slice (some a) len cap]∧len≤cap∧cap≤maxLen∧cap*P.bytesOf e≤reachBytes ∧
    ∀ i,i < cap→∃ cs',w.cells? 0 (a.add (i*P.cellsOf e)) (P.cellsOf e)=some cs'∧∃ fuel,Rd P w fuel e cs':=by
 cases fuel with
 | zero=>exact h.elim
 | succ fuel=>
  unfold Rd at h; simp only [hu] at h
  rcases h with h | ⟨a,len,cap,h1,h2,h3,h4,h5⟩
  ·exact .inl h
  ·exact .inr ⟨a,len,cap,h1,h2,h3,h4,fun i hi=>let ⟨cs',a1,a2⟩:=h5 i hi; ⟨cs',a1,fuel,a2⟩⟩
theorem Rd.struct {fs:Array Field} (hu:P.underlying t=some (.struct fs)) (h:Rd P w fuel t cs) :
  cs.length=P.cellsOf t∧∀ f∈fs.toList,∃ fuel,Rd P w fuel f.type ((cs.drop f.offset).take (P.cellsOf f.type)):=by
 cases fuel with
 | zero=>exact h.elim
 | succ fuel=>
  unfold Rd at h; simp only [hu] at h
  exact ⟨h.1,fun f hf=>⟨fuel,h.2 f hf⟩⟩
theorem Rd.array {e:TypeId} {n:Nat} (hu:P.underlying t=some (.array n e)) (h:Rd P w fuel t cs) :
  cs.length=P.cellsOf t∧∀ i,i < n→∃ fuel,Rd P w fuel e ((cs.drop (i*P.cellsOf e)).take (P.cellsOf e)):=by
 cases fuel with
 | zero=>exact h.elim
 | succ fuel=>
  unfold Rd at h; simp only [hu] at h
  exact ⟨h.1,fun i hi=>⟨fuel,h.2 i hi⟩⟩
end
def zK2 (P:Program) (f:TypeId→Option (List TypeId)):List Field→Nat→Option (List TypeId)
 | [],_=>some []
 | fd::r,off=>(f fd.type).bind fun l=>if fd.offset=off∧P.cellsOf fd.type=l.length then (zK2 P f r (off+l.length)).map (l++·) else none
def zVK (P:Program):Nat→TypeId→Option (List TypeId)
 | 0,_=>none
 | k+1,t=>
  match P.underlying t with
  | some (.struct fs)=>zK2 P (zVK P k) fs.toList 0
  | some (.array n e)=>(zVK P k e).bind fun l=>if P.cellsOf e=l.length then some (List.replicate n l).flatten else none
  | some .bool | some (.int _) | some .string | some (.slice _)=>some [t]
  | _=>none
section
variable {P:Program} {w:World}
theorem zWV {f:TypeId→Option (List TypeId)} {cs:List Value}
  (hf:∀ (t:TypeId) (ts:List TypeId) (fuel:Nat) (cs:List Value),f t=some ts→Rd P w fuel t cs→∀ (i:Nat) (t':TypeId),ts[i]?=some t'→∃ c g,cs[i]?=some c∧Rd P w g t' [c]) :
  ∀ (fs:List Field) (off:Nat) (ts:List TypeId),zK2 P f fs off=some ts→(∀ fd∈fs,∃ fuel,Rd P w fuel fd.type ((cs.drop fd.offset).take (P.cellsOf fd.type))) →
  ∀ (i:Nat) (t':TypeId),ts[i]?=some t'→∃ c g,cs[off+i]?=some c∧Rd P w g t' [c]
 | [],_,ts,h,_,i,t',hi=>by simp [zK2] at h; subst h; simp at hi
 | fd::r,off,ts,h,hr,i,t',hi=>by
  unfold zK2 at h
  obtain ⟨l,hl,h⟩:=Option.bind_eq_some_iff.1 h
  split at h
  ·rename_i hc
   obtain ⟨ho,hn⟩:=hc
   obtain ⟨ts',hts,h⟩:=Option.map_eq_some_iff.1 h
   subst h
   rcases Nat.lt_or_ge i l.length with hlt | hge
   ·rw [List.getElem?_append_left hlt] at hi
    obtain ⟨fuel,hrd⟩:=hr fd (.head _)
    obtain ⟨c,g,h1,h2⟩:=hf fd.type l fuel _ hl hrd i t' hi
    refine ⟨c,g,?_,h2⟩
    rw [List.getElem?_take,if_pos (by omega),List.getElem?_drop,ho] at h1
    exact h1
   ·rw [List.getElem?_append_right hge] at hi
    obtain ⟨c,g,h1,h2⟩:=zWV hf r (off+l.length) ts' hts (fun fd' h'=>hr fd' (.tail _ h')) (i - l.length) t' hi
    exact ⟨c,g,by rw [← h1]; congr 1; omega,h2⟩
  ·cases h
theorem zU7 {l:List TypeId} (hl:0 < l.length):∀ (n i:Nat) (t:TypeId),(List.replicate n l).flatten[i]?=some t→i / l.length < n∧l[i % l.length]?=some t
 | 0,i,t,h=>by simp at h
 | n+1,i,t,h=>by
  rw [List.replicate_succ,List.flatten_cons] at h
  rcases Nat.lt_or_ge i l.length with hlt | hge
  ·rw [List.getElem?_append_left hlt] at h
   rw [Nat.div_eq_of_lt hlt,Nat.mod_eq_of_lt hlt]
   exact ⟨by omega,h⟩
  ·rw [List.getElem?_append_right hge] at h
   obtain ⟨h1,h2⟩:=zU7 hl n (i - l.length) t h
   have e:i=(i - l.length)+l.length:=by omega
   rw [e,Nat.add_div_right _ hl,Nat.add_mod_right]
   exact ⟨by omega,h2⟩
theorem zJu:∀ (k:Nat) (t:TypeId) (ts:List TypeId) (fuel:Nat) (cs:List Value),zVK P k t=some ts→Rd P w fuel t cs →
  ∀ (i:Nat) (t':TypeId),ts[i]?=some t'→∃ c g,cs[i]?=some c∧Rd P w g t' [c]
 | 0,_,_,_,_,h,_,_,_,_=>by simp [zVK] at h
 | k+1,t,ts,fuel,cs,h,hr,i,t',hi=>by
  unfold zVK at h
  split at h
  ·rename_i fs hu
   obtain ⟨_,hfs⟩:=hr.struct hu
   have:=zWV (fun t ts fuel cs h hr=>zJu k t ts fuel cs h hr) fs.toList 0 ts h hfs i t' hi
   simpa using this
  ·rename_i n e hu
   obtain ⟨l,hl,h⟩:=Option.bind_eq_some_iff.1 h
   split at h
   ·rename_i hc
    simp only [Option.some.injEq] at h
    subst h
    obtain ⟨_,hel⟩:=hr.array hu
    rcases Nat.eq_zero_or_pos l.length with h0 | hpos
    ·have:l=[]:=List.eq_nil_of_length_eq_zero h0
     subst this; simp at hi
    ·obtain ⟨h1,h2⟩:=zU7 hpos n i t' hi
     obtain ⟨fuel',hrd⟩:=hel (i / l.length) h1
     obtain ⟨c,g,h3,h4⟩:=zJu k e l fuel' _ hl hrd (i % l.length) t' h2
     refine ⟨c,g,?_,h4⟩
     rw [List.getElem?_take,if_pos (by rw [hc]; exact Nat.mod_lt _ hpos),List.getElem?_drop,hc,Nat.mul_comm,Nat.div_add_mod] at h3
     exact h3
   ·cases h
  all_goals first | (cases h; done) | skip
  all_goals
   rename_i hu
   simp only [Option.some.injEq] at h
   subst h
   match i,hi with
   | 0,hi=>
    simp only [List.getElem?_cons_zero,Option.some.injEq] at hi
    subst hi
    first
    |(obtain ⟨b,rfl⟩:=hr.bool hu; exact ⟨_,fuel,rfl,hr⟩)
    |(obtain ⟨b,rfl,_⟩:=hr.int hu; exact ⟨_,fuel,rfl,hr⟩)
    |(obtain ⟨b,rfl,_⟩:=hr.str hu; exact ⟨_,fuel,rfl,hr⟩)
    |(rcases hr.slice hu with h | ⟨a,len,cap,h,_⟩
      ·subst h; exact ⟨_,fuel,rfl,hr⟩
      ·subst h; exact ⟨_,fuel,rfl,hr⟩)
   | i+1,hi=>simp at hi
theorem Rd.leaf {k:Nat} {t:TypeId} {ts:List TypeId} {fuel:Nat} {cs:List Value} (h:Rd P w fuel t cs) (hl:zVK P k t=some ts) (i:Nat) {t':TypeId} (ht:ts[i]?=some t') {c:Value} (hc:cs[i]?=some c) :
  ∃ g,Rd P w g t' [c]:=by
 obtain ⟨c',g,h1,h2⟩:=zJu k t ts fuel cs hl h i t' ht
 rw [hc] at h1
 cases h1
 exact ⟨g,h2⟩
theorem Args.cons {t:TypeId} {ts:List TypeId} {vs:List Value} (h:Args P w (t::ts) vs):∃ v vs',vs=v::vs'∧Arg P w t v∧Args P w ts vs':=by
 cases vs with
 | nil=>exact h.elim
 | cons v vs=>exact ⟨v,vs,rfl,h.1,h.2⟩
theorem Args.nil {vs:List Value} (h:Args P w [] vs):vs=[]:=by
 cases vs with
 | nil=>rfl
 | cons v vs=>exact h.elim
theorem Arg.one {t:TypeId} {v:Value} (h:Arg P w t v) (hu:∀ fs,P.underlying t≠some (.struct fs)) (ha:∀ n e,P.underlying t≠some (.array n e)):∃ g,Rd P w g t [v]:=by
 obtain ⟨⟨g,hr⟩,hv⟩:=h
 split at hv
 ·rename_i fs he; exact absurd he (hu fs)
 ·rename_i n e he; exact absurd he (ha n e)
 ·rw [hv] at hr; exact ⟨g,hr⟩
theorem Arg.int {t:TypeId} {v:Value} {k:IntKind} (h:Arg P w t v) (hu:P.underlying t=some (.int k)):∃ n,v=.int k n∧(Lit.int k n).wf=true:=by
 obtain ⟨g,hr⟩:=h.one (by rw [hu]; simp) (by rw [hu]; simp)
 obtain ⟨n,hn,hw⟩:=hr.int hu
 simp only [List.cons.injEq,and_true] at hn
 exact ⟨n,hn,hw⟩
theorem Arg.many {t:TypeId} {v:Value} {n:Nat} (h:Arg P w t v) (hu:(∃ fs,P.underlying t=some (.struct fs))∨∃ n e,P.underlying t=some (.array n e)) (hn:P.cellsOf t=n) :
  ∃ cs:List Value,v=.agg cs.toArray∧cs.length=n∧∃ g,Rd P w g t cs:=by
 obtain ⟨⟨g,hr⟩,hv⟩:=h
 rcases hu with ⟨fs,hu⟩ | ⟨m,e,hu⟩
 ·simp only [hu] at hv
  obtain ⟨⟨l⟩,rfl⟩:=hv
  exact ⟨l,rfl,by rw [← hn]; exact (hr.struct hu).1,g,hr⟩
 ·simp only [hu] at hv
  obtain ⟨⟨l⟩,rfl⟩:=hv
  exact ⟨l,rfl,by rw [← hn]; exact (hr.array hu).1,g,hr⟩
end
def lv (P:Program) (e:TypeId):Option (List TypeId):=
 match zVK P 8 e with
 | some ls=>if ls.length=P.cellsOf e∧0 < ls.length then some ls else none
 | none=>none
def zXe (P:Program):Nat→TypeId→DV→Prop
 | 0,_,_=>False
 | k+1,t,d=>
  match P.underlying t with
  | some .bool=>∃ b,d=.bool b
  | some (.int q)=>∃ n,d=.int q n
  | some .string=>∃ s,d=.str s
  | some (.slice e)=>∃ n xs,d=.sl n xs∧n*P.bytesOf e≤reachBytes∧match lv P e with
   | some ls=>xs.length=n*ls.length∧∀ (j:Nat) d',xs[j]?=some d'→∃ t',ls[j % ls.length]?=some t'∧zXe P k t' d'
   | none=>xs=[]
  | _=>False
def jXm (P:Program):Nat→TypeId→Bool
 | 0,_=>false
 | k+1,t=>
  match P.underlying t with
  | some .bool | some (.int _) | some .string=>true
  | some (.slice e)=>match lv P e with
   | some ls=>ls.all (jXm P k)
   | none=>true
  | _=>false
theorem zWI {α:Type} {Q:Nat→α→Prop}:∀ n:Nat,(∀ j,j < n→∃ d,Q j d)→∃ xs:List α,xs.length=n∧∀ (j:Nat) d,xs[j]?=some d→Q j d
 | 0,_=>⟨[],rfl,fun j d h=>by simp at h⟩
 | n+1,h=>by
  obtain ⟨xs,h1,h2⟩:=zWI n fun j hj=>h j (by omega)
  obtain ⟨d,hd⟩:=h n (by omega)
  refine ⟨xs++[d],by simp [h1],fun j d' hj=>?_⟩
  by_cases hlt:j < n
  ·rw [List.getElem?_append_left (by omega)] at hj; exact h2 j d' hj
  ·rw [List.getElem?_append_right (by omega)] at hj
   have:j - xs.length=0:=by
    have:=(List.getElem?_eq_some_iff.1 hj).1
    simp at this; omega
   rw [this] at hj
   simp at hj
   subst hj
   have:j=n:=by omega
   subst this; exact hd
section
variable {P:Program} {w:World}
theorem zHK {P:Program} {e:TypeId} {ls:List TypeId} (h:lv P e=some ls):zVK P 8 e=some ls∧ls.length=P.cellsOf e∧0 < ls.length:=by
 unfold lv at h
 split at h
 ·rename_i l hl
  split at h
  ·rename_i hc; injection h with h; subst h; exact ⟨hl,hc.1,hc.2⟩
  ·cases h
 ·cases h
theorem addr_add' (a:Addr) (i j:Nat) (h:a.spot=none):(a.add i).add j=⟨a.block,a.off+(i+j),none⟩:=by
 obtain ⟨b,o,sp⟩:=a
 simp only at h
 subst h
 rw [zZq,zZq,Nat.add_assoc]
theorem zGw:∀ (k:Nat) (t:TypeId),jXm P k t=true→∀ (fuel:Nat) (v:Value),Rd P w fuel t [v]→∃ d,RepD w (fun _=>True) d v∧zXe P k t d
 | 0,_,h,_,_,_=>by cases h
 | k+1,t,ho,fuel,v,h=>by
  unfold jXm at ho
  unfold zXe
  split at ho
  ·rename_i hu
   obtain ⟨b,hb⟩:=h.bool hu
   simp only [List.cons.injEq,and_true] at hb
   subst hb
   exact ⟨.bool b,by simp only [RepD],b,rfl⟩
  ·rename_i q hu
   obtain ⟨n,hn,hw⟩:=h.int hu
   simp only [List.cons.injEq,and_true] at hn
   subst hn
   exact ⟨.int q n,by simp only [RepD]; exact ⟨trivial,hw⟩,n,rfl⟩
  ·rename_i hu
   obtain ⟨s,hs,hw⟩:=h.str hu
   simp only [List.cons.injEq,and_true] at hs
   subst hs
   refine ⟨.str s,by simp only [RepD,true_and]; unfold reachBytes at hw; unfold maxLen; omega,s,rfl⟩
  ·rename_i e hu
   rcases h.slice hu with h | ⟨a,len,cap,h1,h2,h3,h4,h5⟩
   ·simp only [List.cons.injEq,and_true] at h
    subst h
    refine ⟨.sl 0 [],by simp only [RepD]; exact ⟨none,0,rfl,Nat.le_refl _,Nat.zero_le _,fun e=>absurd rfl e⟩,0,[],rfl,by simp,?_⟩
    split
    ·exact ⟨by simp,fun j d h=>by simp at h⟩
    ·rfl
   ·simp only [List.cons.injEq,and_true] at h1
    subst h1
    have hby:len*P.bytesOf e≤reachBytes:=Nat.le_trans (Nat.mul_le_mul_right _ h2) h4
    cases hl:lv P e with
    | none=>exact ⟨.sl len [],by simp only [RepD]; exact ⟨some a,cap,rfl,h2,h3,fun e=>absurd rfl e⟩,len,[],rfl,hby,rfl⟩
    | some ls=>
     rw [hl] at ho
     simp only [List.all_eq_true] at ho
     obtain ⟨g1,g2,g3⟩:=zHK hl
     have hcell:∀ j,j < len*ls.length→∃ d,a.spot=none∧(∃ u,w.cell? ⟨a.block,a.off+j,none⟩=some u∧RepD w (fun _=>True) d u)∧∃ t',ls[j % ls.length]?=some t'∧zXe P k t' d:=by
      intro j hj
      have hi:j / ls.length < len:=by rw [Nat.div_lt_iff_lt_mul g3]; exact hj
      obtain ⟨cs',c1,fuel',c2⟩:=h5 (j / ls.length) (by omega)
      have hm:j % ls.length < ls.length:=Nat.mod_lt _ g3
      obtain ⟨c,g,e1,e2⟩:=zJu 8 e ls fuel' cs' g1 c2 (j % ls.length) (ls[j % ls.length]) (by simp [hm])
      obtain ⟨d,f1,f2⟩:=zGw k ls[j % ls.length] (ho _ (List.getElem_mem hm)) g c e2
      obtain ⟨_,c3,c4⟩:=World.cells?_some c1
      have hc:=c4 (j % ls.length) (by omega)
      rw [e1] at hc
      have hpos:0 < cap:=Nat.lt_of_lt_of_le (Nat.lt_of_le_of_lt (Nat.zero_le _) hi) h2
      have hcp:0 < P.cellsOf e:=by omega
      have hs:a.spot=none:=by
       cases hsp:a.spot with
       | none=>rfl
       | some x=>
        exfalso
        obtain ⟨cs0,d0,_⟩:=h5 0 hpos
        obtain ⟨_,hlen,d1⟩:=World.cells?_some d0
        have c0:=d1 0 hcp
        rw [Nat.zero_mul,show a.add 0=a from by simp [Addr.add],show a.add 0=a from by simp [Addr.add]] at c0
        have:w.cell? a=none:=by
         unfold World.cell?
         split
         ·simp [hsp]
         ·rfl
        rw [this] at c0
        have:=List.getElem?_eq_none_iff.1 c0.symm
        omega
      refine ⟨d,hs,⟨c,?_,f1⟩,_,by simp [hm],f2⟩
      rw [addr_add' _ _ _ hs,← g2,Nat.mul_comm,Nat.div_add_mod] at hc
      exact hc
     obtain ⟨xs,x1,x2⟩:=zWI (len*ls.length) hcell
     refine ⟨.sl len xs,?_,len,xs,rfl,hby,x1,fun j d' hj=>(x2 j d' hj).2.2⟩
     simp only [RepD]
     refine ⟨some a,cap,rfl,h2,h3,fun hne=>⟨a.block,a.off,?_,trivial,.of_at fun i d hi=>(x2 i d hi).2.1⟩⟩
     cases xs with
     | nil=>exact absurd rfl hne
     | cons d ds=>
      have hs:=(x2 0 d rfl).1
      obtain ⟨b,o,sp⟩:=a
      simp only at hs
      subst hs
      rfl
  ·cases ho
def zYU (P:Program) (t:TypeId) (r:RV):Prop:=
 match P.underlying t with
 | some (.struct _) | some (.array _ _)=>∃ ds ls,r=.agg ds∧lv P t=some ls∧ds.length=ls.length∧∀ (i:Nat) d,ds[i]?=some d→∃ t',ls[i]?=some t'∧zXe P 6 t' d
 | _=>∃ d,r=.d d∧zXe P 6 t d
def zJJ (P:Program):List TypeId→List RV→Prop
 | [],[]=>True
 | t::ts,r::rs=>zYU P t r∧zJJ P ts rs
 | _,_=>False
def okT (P:Program) (t:TypeId):Bool:=
 match P.underlying t with
 | some (.struct _) | some (.array _ _)=>match lv P t with
  | some ls=>ls.all (jXm P 6)
  | none=>false
 | _=>jXm P 6 t
theorem jX2 {t:TypeId} {v:Value} (ho:okT P t=true) (h:Arg P w t v):∃ r,RepR w (fun _=>True) r v∧zYU P t r:=by
 have many:((∃ fs,P.underlying t=some (.struct fs))∨∃ n e,P.underlying t=some (.array n e))→(match lv P t with | some ls=>ls.all (jXm P 6) | none=>false)=true→∃ ds ls,RepR w (fun _=>True) (.agg ds) v∧lv P t=some ls∧ds.length=ls.length∧∀ (i:Nat) d,ds[i]?=some d→∃ t',ls[i]?=some t'∧zXe P 6 t' d:=by
  intro hu hl
  obtain ⟨cs,rfl,hlen,g,hr⟩:=h.many hu (n:=P.cellsOf t) rfl
  cases hlv:lv P t with
  | none=>rw [hlv] at hl; cases hl
  | some ls=>
   rw [hlv] at hl
   simp only [List.all_eq_true] at hl
   obtain ⟨g1,g2,g3⟩:=zHK hlv
   have hcell:∀ i,i < ls.length→∃ d,(∃ c,cs[i]?=some c∧RepD w (fun _=>True) d c)∧∃ t',ls[i]?=some t'∧zXe P 6 t' d:=by
    intro i hi
    obtain ⟨c,g',e1,e2⟩:=zJu 8 t ls g cs g1 hr i ls[i] (by simp [hi])
    obtain ⟨d,f1,f2⟩:=zGw 6 ls[i] (hl _ (List.getElem_mem hi)) g' c e2
    exact ⟨d,⟨c,e1,f1⟩,_,by simp [hi],f2⟩
   obtain ⟨ds,x1,x2⟩:=zWI ls.length hcell
   refine ⟨ds,ls,?_,rfl,x1,fun i d hi=>(x2 i d hi).2⟩
   simp only [RepR]
   refine ⟨_,rfl,?_⟩
   rw [zUM]
   refine ⟨by simp; omega,fun i d v hd hv=>?_⟩
   obtain ⟨⟨c,e1,e2⟩,_⟩:=x2 i d hd
   have:cs[i]?=some v:=by simpa using hv
   rw [e1] at this
   injection this with this
   subst this
   exact e2
 unfold okT at ho
 unfold zYU
 split at ho
 ·rename_i fs hu
  obtain ⟨ds,ls,h1,h2⟩:=many (.inl ⟨_,hu⟩) ho
  exact ⟨.agg ds,h1,ds,ls,rfl,h2⟩
 ·rename_i n e hu
  obtain ⟨ds,ls,h1,h2⟩:=many (.inr ⟨_,_,hu⟩) ho
  exact ⟨.agg ds,h1,ds,ls,rfl,h2⟩
 ·rename_i h1 h2
  obtain ⟨g,hr⟩:=h.one (fun fs e=>h1 fs e) (fun n e e'=>h2 n e e')
  obtain ⟨d,f1,f2⟩:=zGw 6 t ho g v hr
  exact ⟨.d d,by simp only [RepR]; exact f1,⟨d,rfl,f2⟩⟩
theorem zUW:∀ {ts:List TypeId} {vs:List Value},ts.all (okT P)=true→Args P w ts vs→∃ rs,RepRs w (fun _=>True) rs vs∧zJJ P ts rs
 | [],[],_,_=>⟨[],by simp only [RepRs],trivial⟩
 | t::ts,v::vs,ho,h=>by
  simp only [List.all_cons,Bool.and_eq_true] at ho
  obtain ⟨r,h1,h2⟩:=jX2 ho.1 h.1
  obtain ⟨rs,h3,h4⟩:=zUW ho.2 h.2
  exact ⟨r::rs,by simp only [RepRs]; exact ⟨h1,h3⟩,h2,h4⟩
 | [],_::_,_,h=>h.elim
 | _::_,[],_,h=>h.elim
theorem jJS {f:FuncId} {ts:List TypeId} (hok:ts.all (okT P)=true) (h:∀ rs,zJJ P ts rs→RV.wfs rs→Ans P f rs (.d (.bool true))) (W:World) (args:Array Value) (hg:zYl W fun _=>True) (ha:Args P W ts args.toList) :
  Calls P f args W fun e W'=>e=.returned (.bool true)∧Below W.heap.size W W':=by
 obtain ⟨rs,h1,h2⟩:=zUW hok ha
 refine (h rs h2 (RepRs.wf h1) W _ args hg h1).mono fun e w' ⟨v,he,hv,hb⟩=>?_
 simp only [RepR,RepD] at hv
 subst hv
 exact ⟨he,hb⟩
end
theorem zJJ.cons {P:Program} {t:TypeId} {ts:List TypeId} {rs:List RV} (h:zJJ P (t::ts) rs):∃ r rs',rs=r::rs'∧zYU P t r∧zJJ P ts rs':=by
 cases rs with
 | nil=>exact h.elim
 | cons r rs=>exact ⟨r,rs,rfl,h.1,h.2⟩
theorem zJJ.nil {P:Program} {rs:List RV} (h:zJJ P [] rs):rs=[]:=by
 cases rs with
 | nil=>rfl
 | cons r rs=>exact h.elim
theorem zYU.one {P:Program} {t:TypeId} {r:RV} {k:IntKind} (h:zYU P t r) (hu:P.underlying t=some (.int k)):∃ n,r=.d (.int k n):=by
 unfold zYU at h
 simp only [hu] at h
 obtain ⟨d,rfl,h⟩:=h
 unfold zXe at h
 simp only [hu] at h
 obtain ⟨n,rfl⟩:=h
 exact ⟨n,rfl⟩
theorem zYU.many {P:Program} {t:TypeId} {r:RV} {ls:List TypeId} (h:zYU P t r) (hu:(match P.underlying t with | some (.struct _) | some (.array _ _)=>true | _=>false)=true) (hl:lv P t=some ls) :
  ∃ ds,r=.agg ds∧ds.length=ls.length∧∀ (i:Nat) d,ds[i]?=some d→∃ t',ls[i]?=some t'∧zXe P 6 t' d:=by
 unfold zYU at h
 split at hu
 ·rename_i fs he
  simp only [he] at h
  obtain ⟨ds,ls',h1,h2,h3⟩:=h
  rw [hl] at h2; injection h2 with h2; subst h2
  exact ⟨ds,h1,h3⟩
 ·rename_i n e he
  simp only [he] at h
  obtain ⟨ds,ls',h1,h2,h3⟩:=h
  rw [hl] at h2; injection h2 with h2; subst h2
  exact ⟨ds,h1,h3⟩
 ·cases hu
def zVA (P:Program) (q:Nat) (ls:List TypeId) (ds:List DV):Prop:=ds.length=ls.length∧∀ (i:Nat) d,ds[i]?=some d→∃ t',ls[i]?=some t'∧zXe P q t' d
theorem zVA.cons {P:Program} {q:Nat} {t:TypeId} {ts:List TypeId} {ds:List DV} (h:zVA P q (t::ts) ds):∃ d ds',ds=d::ds'∧zXe P q t d∧zVA P q ts ds':=by
 obtain ⟨h1,h2⟩:=h
 cases ds with
 | nil=>simp at h1
 | cons d ds=>
  refine ⟨d,ds,rfl,?_,by simpa using h1,fun i d' hd=>?_⟩
  ·obtain ⟨t',e,h⟩:=h2 0 d rfl
   simp at e; subst e; exact h
  ·obtain ⟨t',e,h⟩:=h2 (i+1) d' (by simpa using hd)
   exact ⟨t',by simpa using e,h⟩
theorem zVA.nil {P:Program} {q:Nat} {ds:List DV} (h:zVA P q [] ds):ds=[]:=by
 have:=h.1
 simpa using this
theorem zXe.int {P:Program} {q:Nat} {t:TypeId} {d:DV} {k:IntKind} (h:zXe P q t d) (hu:P.underlying t=some (.int k)):∃ n,d=.int k n:=by
 cases q with
 | zero=>exact h.elim
 | succ q=>unfold zXe at h; simp only [hu] at h; exact h
theorem zXe.bool {P:Program} {q:Nat} {t:TypeId} {d:DV} (h:zXe P q t d) (hu:P.underlying t=some .bool):∃ n,d=.bool n:=by
 cases q with
 | zero=>exact h.elim
 | succ q=>unfold zXe at h; simp only [hu] at h; exact h
theorem zXe.slice {P:Program} {q:Nat} {t e:TypeId} {d:DV} {ls:List TypeId} (h:zXe P q t d) (hu:P.underlying t=some (.slice e)) (hl:lv P e=some ls) :
  ∃ n xs,d=.sl n xs∧n*P.bytesOf e≤reachBytes∧xs.length=n*ls.length∧∀ (j:Nat) d',xs[j]?=some d'→∃ t',ls[j % ls.length]?=some t'∧∃ q,zXe P q t' d':=by
 cases q with
 | zero=>exact h.elim
 | succ q=>
  unfold zXe at h; simp only [hu,hl] at h
  obtain ⟨n,xs,h1,h2,h3,h4⟩:=h
  exact ⟨n,xs,h1,h2,h3,fun j d' hj=>let ⟨t',a,b⟩:=h4 j d' hj; ⟨t',a,q,b⟩⟩
theorem zXe.str {P:Program} {q:Nat} {t:TypeId} {d:DV} (h:zXe P q t d) (hu:P.underlying t=some .string):∃ n,d=.str n:=by
 cases q with
 | zero=>exact h.elim
 | succ q=>unfold zXe at h; simp only [hu] at h; exact h
theorem zYU.slice {P:Program} {t e:TypeId} {r:RV} {ls:List TypeId} (h:zYU P t r) (hu:P.underlying t=some (.slice e)) (hl:lv P e=some ls) :
  ∃ n xs,r=.d (.sl n xs)∧n*P.bytesOf e≤reachBytes∧xs.length=n*ls.length∧∀ (j:Nat) d',xs[j]?=some d'→∃ t',ls[j % ls.length]?=some t'∧∃ q,zXe P q t' d':=by
 unfold zYU at h
 simp only [hu] at h
 obtain ⟨d,rfl,h⟩:=h
 obtain ⟨n,xs,rfl,h2⟩:=zXe.slice h hu hl
 exact ⟨n,xs,rfl,h2⟩
theorem jZE {P:Program} {t t':TypeId} {q j:Nat} {d:DV} {k:IntKind} (hu:P.underlying t=some (.int k)) (a:[t][j % [t].length]?=some t') (b:zXe P q t' d):∃ n,d=.int k n:=by
 have:t'=t:=by
  have h:=List.mem_of_getElem? a
  simpa using h
 subst this
 exact b.int hu
end
theorem zWZ (l:List Int) {n:Nat} (h:n=l.length):IsU n (us l):=by
 subst h
 exact jJL (zJp l) fun j d hj=>by
  simp only [us,List.getElem?_map] at hj
  obtain ⟨v,_,rfl⟩:=Option.map_eq_some_iff.1 hj
  exact ⟨v,rfl⟩
theorem zYx:IsU 0 []:=jJL rfl fun j d hj=>by simp at hj
theorem jZR:Im.zero.isU:=⟨zYx,zYx,zYx,zYx,zYx⟩
theorem zWl (w h:Int) (c:Px):(zQb w h c).isU:=⟨zYx,zYx,zYx,zYx,zYx⟩
theorem jJh (w h:Int) (l:List Px):(imOf w h l).isU:=by
 cases hk:ofOk w h l.length with
 | true=>
  rw [zW0 hk]
  refine ⟨zWZ _ ?_,zWZ _ ?_,zWZ _ ?_,zWZ _ ?_,zWZ _ ?_⟩ <;> exact (List.length_map _).symm
 | false=>rw [zGW hk]; exact jZR
theorem jKW {n:Nat} {xs:List DV} (hn:xs.length=n*5) (hx:∀ (j:Nat) d,xs[j]?=some d→∃ v,d=.int .i64 v):Is5 n xs:=
 ⟨hn,fun i hi=>by
  have hl:i < xs.length:=by omega
  obtain ⟨v,e⟩:=hx i _ (List.getElem?_eq_getElem hl)
  rw [List.getElem?_eq_getElem hl,e]
  simp [nAt,List.getElem?_eq_getElem hl,e]⟩
theorem jJf {P:Program} {t t':TypeId} {q j:Nat} {d:DV} {k:IntKind} (hu:P.underlying t=some (.int k)) (a:[t,t,t,t,t][j % [t,t,t,t,t].length]?=some t') (b:zXe P q t' d):∃ n,d=.int k n:=by
 have:t'=t:=by
  have h:=List.mem_of_getElem? a
  simpa using h
 subst this
 exact b.int hu
theorem zU5 (mood:Int) (L:Nat) (xs:List DV) (most:Int) {n k:Nat} (h:k=n):jXq k (pxs (zQm mood L xs most n)):=by
 subst h
 have:=jYd (zQm mood L xs most k)
 rwa [zZJ] at this
theorem zQ4 {n k:Int} (h1:1≤k) (h2:k≤4611686018427387904):0≤modS n k∧modS n k < k:=by
 rw [jX9 h1 h2]
 exact ⟨Int.emod_nonneg _ (by omega),Int.emod_lt_of_pos _ (by omega)⟩
def imR (m:Im):RV:=RV.agg [DV.int .i64 m.w,DV.int .i64 m.h,DV.bool m.so,DV.int .u16 m.c.a,DV.int .u16 m.c.b,DV.int .u16 m.c.c,DV.int .u16 m.c.al,DV.int .u16 m.c.f,DV.int .i64 m.p0.w,DV.int .i64 m.p0.h,DV.int .i64 m.p0.s,DV.sl m.p0.n m.p0.xs,DV.int .i64 m.p1.w,DV.int .i64 m.p1.h,DV.int .i64 m.p1.s,DV.sl m.p1.n m.p1.xs,DV.int .i64 m.p2.w,DV.int .i64 m.p2.h,DV.int .i64 m.p2.s,DV.sl m.p2.n m.p2.xs,DV.int .i64 m.p3.w,DV.int .i64 m.p3.h,DV.int .i64 m.p3.s,DV.sl m.p3.n m.p3.xs,DV.int .i64 m.p4.w,DV.int .i64 m.p4.h,DV.int .i64 m.p4.s,DV.sl m.p4.n m.p4.xs]
def imV (b:Nat) (m:Im):AV:=AV.agg [Cl.d (DV.int .i64 m.w),Cl.d (DV.int .i64 m.h),Cl.d (DV.bool m.so),Cl.d (DV.int .u16 m.c.a),Cl.d (DV.int .u16 m.c.b),Cl.d (DV.int .u16 m.c.c),Cl.d (DV.int .u16 m.c.al),Cl.d (DV.int .u16 m.c.f),Cl.d (DV.int .i64 m.p0.w),Cl.d (DV.int .i64 m.p0.h),Cl.d (DV.int .i64 m.p0.s),Cl.ref (b+0) m.p0.n,Cl.d (DV.int .i64 m.p1.w),Cl.d (DV.int .i64 m.p1.h),Cl.d (DV.int .i64 m.p1.s),Cl.ref (b+1) m.p1.n,Cl.d (DV.int .i64 m.p2.w),Cl.d (DV.int .i64 m.p2.h),Cl.d (DV.int .i64 m.p2.s),Cl.ref (b+2) m.p2.n,Cl.d (DV.int .i64 m.p3.w),Cl.d (DV.int .i64 m.p3.h),Cl.d (DV.int .i64 m.p3.s),Cl.ref (b+3) m.p3.n,Cl.d (DV.int .i64 m.p4.w),Cl.d (DV.int .i64 m.p4.h),Cl.d (DV.int .i64 m.p4.s),Cl.ref (b+4) m.p4.n]
def imB (e:Nat) (m:Im):List Bx:=[Bx.row e 1 m.p0.xs,Bx.row e 1 m.p1.xs,Bx.row e 1 m.p2.xs,Bx.row e 1 m.p3.xs,Bx.row e 1 m.p4.xs]
def zX8 (p k a b often:Int):Int:=if modS (IntKind.wrap .i64 (Int.tdiv often 5)) 3=0 then IntKind.wrap .i64 (b - a) else IntKind.wrap .i64 (1+modS p k)
def zQz (pw ph so mood:Int) (L:Nat) (xs:List DV) (x0 y0 x1 y1 most:Int):Im:=
 let w:=zX8 pw 5 x0 x1 pw
 let h:=zX8 ph 4 y0 y1 pw
 let l:=zQm mood L xs most (IntKind.wrap .i64 (w*h)).toNat
 if modS so 2=0 then zQb w h (gPx mood L xs most 0) else imOf w h l
theorem zVM {mood:Int} {L:Nat} {xs:List DV} {most:Int} {n:Nat} (hn:0 < n):nAt (pxs (zQm mood L xs most n)) 0=(gPx mood L xs most 0).a∧nAt (pxs (zQm mood L xs most n)) 1=(gPx mood L xs most 0).b∧nAt (pxs (zQm mood L xs most n)) 2=(gPx mood L xs most 0).c∧nAt (pxs (zQm mood L xs most n)) 3=(gPx mood L xs most 0).al∧nAt (pxs (zQm mood L xs most n)) 4=(gPx mood L xs most 0).f:=by
 have h:0 < (zQm mood L xs most n).length:=by rw [zZJ]; exact hn
 have e:(zQm mood L xs most n)[0]=gPx mood L xs most 0:=by simp [zQm]
 have:=zXz h
 rw [e] at this
 simpa only [Nat.zero_mul,Nat.zero_add] using this
theorem jXh (pw ph so mood:Int) (L:Nat) (xs:List DV) (x0 y0 x1 y1 most:Int):(zQz pw ph so mood L xs x0 y0 x1 y1 most).isU:=by
 unfold zQz
 simp only
 split
 ·exact zWl _ _ _
 ·exact jJh _ _ _
theorem zK9 (pw ph so mood:Int) (L:Nat) (xs:List DV) (x0 y0 x1 y1 most W H:Int) (hW:zX8 pw 5 x0 x1 pw=W) (hH:zX8 ph 4 y0 y1 pw=H):zQz pw ph so mood L xs x0 y0 x1 y1 most=if modS so 2=0 then zQb W H (gPx mood L xs most 0) else imOf W H (zQm mood L xs most (IntKind.wrap .i64 (W*H)).toNat):=by
 unfold zQz
 simp only [hW,hH]
theorem zHn {W H:Int} (hW:1≤W∧W≤100) (hH:1≤H∧H≤100):1≤IntKind.wrap .i64 (W*H)∧IntKind.wrap .i64 (W*H)≤10000:=by
 have a:=Int.mul_le_mul hW.2 hH.2 (by omega) (by omega)
 have b:=Int.mul_le_mul hW.1 hH.1 (by omega) (by omega)
 rw [IntWalk.i64_in _ ⟨by omega,by omega⟩]
 omega
def strS (p:Pl) (more k:Int):Int:=IntKind.wrap .i64 (p.w+modS (IntKind.wrap .i64 (more+k)) 4)
def strV (p:Pl) (s:Int) (i:Nat):Int:=
 if Int.tmod (i:Int) s < p.w then nAt p.xs (IntKind.wrap .i64 (IntKind.wrap .i64 (IntKind.wrap .i64 (Int.tdiv (i:Int) s)*p.s)+Int.tmod (i:Int) s)).toNat else IntKind.wrap .u16 (IntKind.wrap .i64 (40000+(i:Int)))
def jZd (p:Pl) (s:Int) (n:Nat):List DV:=us ((List.range n).map (strV p s))
def strN (p:Pl) (s:Int):Nat:=(IntKind.wrap .i64 (s*p.h)).toNat
def strP (p:Pl) (more k:Int):Pl:=⟨p.w,p.h,strS p more k,strN p (strS p more k),jZd p (strS p more k) (strN p (strS p more k))⟩
def zZ5 (m:Im) (more:Int):Im:=if m.so then m else ⟨m.w,m.h,m.so,m.c,strP m.p0 more 0,strP m.p1 more 1,strP m.p2 more 2,strP m.p3 more 3,strP m.p4 more 4⟩
theorem jXA {p:Pl} {more k:Int} (hw:1≤p.w∧p.w≤100):p.w≤strS p more k∧strS p more k≤103:=by
 have b:=@zQ4 (IntKind.wrap .i64 (more+k)) 4 (by omega) (by omega)
 unfold strS
 rw [IntWalk.i64_in _ ⟨by omega,by omega⟩]
 omega
theorem jXB {p:Pl} {s:Int} (hs:1≤s∧s≤103) (hh:1≤p.h∧p.h≤100):IntKind.wrap .i64 (s*p.h)=(strN p s:Int)∧strN p s≤10300∧((strN p s:Nat):Int)=s*p.h:=by
 have a:=Int.mul_le_mul hs.2 hh.2 (by omega) (by omega)
 have b:=Int.mul_nonneg (show 0≤s by omega) (show 0≤p.h by omega)
 unfold strN
 rw [IntWalk.i64_in _ ⟨by omega,by omega⟩]
 omega
theorem jZT (p:Pl) (s:Int) {n i:Nat} (h:i < n):nAt (jZd p s n) i=strV p s i:=by
 unfold jZd
 rw [jZc (by simpa using h)]
 simp
theorem zYE {p:Pl} {more k:Int} (hv:zQY p.w p.h p.s p.n=true) (hw:p.w≤100) (hh:p.h≤100):zQY (strP p more k).w (strP p more k).h (strP p more k).s (strP p more k).n=true:=by
 have hf:zZK p.w p.h=true:=by unfold zQY at hv; simp at hv; exact hv.1.1.1
 obtain ⟨f1,f2,f3,f4,f5⟩:=zXC hf
 have S:=@jXA p more k ⟨f1,hw⟩
 have N:=@jXB p (strS p more k) ⟨by omega,by omega⟩ ⟨f2,hh⟩
 have L:=jQT hf S.1 (by omega)
 show zQY p.w p.h (strS p more k) (strN p (strS p more k))=true
 unfold zQY
 have e:(p.h - 1)*strS p more k=strS p more k*p.h - strS p more k:=by rw [Int.sub_mul,Int.mul_comm]; omega
 simp only [hf,Bool.true_and,Bool.and_eq_true,decide_eq_true_eq]
 exact ⟨⟨S.1,by omega⟩,by omega⟩
theorem zWh {p:Pl} {more k:Int} (hv:zQY p.w p.h p.s p.n=true) (hw:p.w≤100) (hh:p.h≤100) {x y:Int} (hx:0≤x∧x < p.w) (hy:0≤y∧y < p.h):(strP p more k).at_ x y=p.at_ x y:=by
 have hf:zZK p.w p.h=true:=by unfold zQY at hv; simp at hv; exact hv.1.1.1
 obtain ⟨f1,f2,f3,f4,f5⟩:=zXC hf
 obtain ⟨q1,q2,q3,q4,q5⟩:=place hv hx.1 hx.2 hy.1 hy.2
 obtain ⟨v1,v2,v3,v4,v5,v6,v7,v8,v9⟩:=zYg hv
 have S:=@jXA p more k ⟨f1,hw⟩
 have N:=@jXB p (strS p more k) ⟨by omega,by omega⟩ ⟨f2,hh⟩
 show nAt (jZd p (strS p more k) (strN p (strS p more k))) (y*strS p more k+x).toNat=nAt p.xs (y*p.s+x).toNat
 generalize strS p more k=s at *
 have a1:0≤y*s:=Int.mul_nonneg hy.1 (by omega)
 have a2:(y+1)*s≤p.h*s:=Int.mul_le_mul_of_nonneg_right (by omega) (by omega)
 have a3:(y+1)*s=y*s+s:=by rw [Int.add_mul,Int.one_mul]
 have a4:p.h*s=s*p.h:=Int.mul_comm _ _
 have hi:(y*s+x).toNat < strN p s:=by omega
 rw [jZT _ _ hi]
 have ei:((y*s+x).toNat:Int)=y*s+x:=by omega
 unfold strV
 rw [ei,Int.tmod_eq_emod_of_nonneg (by omega),Int.tdiv_eq_ediv_of_nonneg (by omega)]
 have m1:(y*s+x) % s=x:=by rw [Int.add_comm,Int.add_mul_emod_self_right]; exact Int.emod_eq_of_lt hx.1 (by omega)
 have m2:(y*s+x) / s=y:=by rw [Int.add_comm,Int.add_mul_ediv_right _ _ (by omega),Int.ediv_eq_zero_of_lt hx.1 (by omega)]; omega
 rw [m1,m2,if_pos hx.2]
 rw [IntWalk.i64_in y ⟨by omega,by omega⟩,q5.1,q5.2]
theorem jQ2 (m:Im) (more:Int):(zZ5 m more).so=m.so∧(zZ5 m more).w=m.w∧(zZ5 m more).h=m.h∧(zZ5 m more).c=m.c:=by
 unfold zZ5
 split <;> simp
theorem zJD {m:Im} (hf:m.formed=true) (hm:m.w≤100∧m.h≤100) (more:Int):(zZ5 m more).formed=true:=by
 unfold zZ5
 split
 ·exact hf
 ·rename_i hs
  have hs:m.so=false:=by simpa using hs
  obtain ⟨qf,qi⟩:=Im.formed_of hf
  obtain ⟨qc,z0,z1,z2,z3,z4⟩:=Im.inner_planes qi hs
  have p0:=zYE (more:=more) (k:=0) z0.1 (by omega) (by omega)
  have p1:=zYE (more:=more) (k:=1) z1.1 (by omega) (by omega)
  have p2:=zYE (more:=more) (k:=2) z2.1 (by omega) (by omega)
  have p3:=zYE (more:=more) (k:=3) z3.1 (by omega) (by omega)
  have p4:=zYE (more:=more) (k:=4) z4.1 (by omega) (by omega)
  have e:∀ (p:Pl) k,(strP p more k).w=p.w∧(strP p more k).h=p.h:=fun p k=>⟨rfl,rfl⟩
  simp only [(e _ _).1,(e _ _).2,z0.2,z1.2,z2.2,z3.2,z4.2] at p0 p1 p2 p3 p4
  simp [Im.formed,Im.inner,okPl,hs,qf,qc,p0,p1,p2,p3,p4,e,z0.2,z1.2,z2.2,z3.2,z4.2]
theorem jQ3 {m:Im} (hf:m.formed=true) (hm:m.w≤100∧m.h≤100) (more:Int) {x y:Int} (hx:0≤x∧x < m.w) (hy:0≤y∧y < m.h):(zZ5 m more).px x y=m.px x y:=by
 unfold zZ5
 split
 ·rfl
 ·rename_i hs
  have hs:m.so=false:=by simpa using hs
  obtain ⟨qf,qi⟩:=Im.formed_of hf
  obtain ⟨qc,z0,z1,z2,z3,z4⟩:=Im.inner_planes qi hs
  unfold Im.px
  simp only [hs]
  rw [zWh z0.1 (by omega) (by omega) (by omega) (by omega),zWh z1.1 (by omega) (by omega) (by omega) (by omega),zWh z2.1 (by omega) (by omega) (by omega) (by omega),zWh z3.1 (by omega) (by omega) (by omega) (by omega),zWh z4.1 (by omega) (by omega) (by omega) (by omega)]
theorem Im.pixels_ext {m r:Im} (hm:m.formed=true) (hr:r.formed=true) (hw:r.w=m.w) (hh:r.h=m.h) (h:∀ x y:Int,(0≤x∧x < m.w)→(0≤y∧y < m.h)→r.px x y=m.px x y):r.pixels=m.pixels:=by
 rw [Im.pixels_of hm,Im.pixels_of hr,hw,hh]
 unfold Im.list
 refine List.map_congr_left fun k hk=>?_
 have hk:=List.mem_range.1 hk
 obtain ⟨a,b⟩:=Im.nth_in (Im.formed_of hm).1 hk
 unfold Im.nth
 rw [hw]
 exact h _ _ a b
theorem zW6 {m:Im} (hf:m.formed=true) (hm:m.w≤100∧m.h≤100) (more:Int):(zZ5 m more).pixels=m.pixels:=
 have g:=jQ2 m more
 Im.pixels_ext hf (zJD hf hm more) g.2.1 g.2.2.1 (fun x y hx hy=>jQ3 hf hm more hx hy)
theorem zXG {w h:Int} (c:Px) (hf:zZK w h=true):(zQb w h c).formed=true:=by
 simp [Im.formed,Im.inner,okPl,zQb,hf,jXr,Pl.none]
theorem zWN {w h:Int} {l:List Px} (hk:ofOk w h l.length=true):(ofIm w h l).formed=true:=by
 unfold ofOk at hk
 simp at hk
 obtain ⟨hf,hl⟩:=hk
 obtain ⟨f1,f2,f3,f4,f5⟩:=zXC hf
 have L:=jQT hf (Int.le_refl w) f3
 have e:(h - 1)*w=w*h - w:=by rw [Int.sub_mul,Int.mul_comm]; omega
 have hv:zQY w h w l.length=true:=by
  unfold zQY
  simp only [hf,Bool.true_and,Bool.and_eq_true,decide_eq_true_eq]
  exact ⟨⟨Int.le_refl _,f3⟩,by omega⟩
 simp [Im.formed,Im.inner,okPl,ofIm,hf,hv]
theorem zVN (pw ph so mood:Int) (L:Nat) (xs:List DV) (x0 y0 x1 y1 most:Int) (hc:1≤x1 - x0∧x1 - x0≤100∧1≤y1 - y0∧y1 - y0≤100) :
  (zQz pw ph so mood L xs x0 y0 x1 y1 most).formed=true∧1≤(zQz pw ph so mood L xs x0 y0 x1 y1 most).w∧(zQz pw ph so mood L xs x0 y0 x1 y1 most).w≤100∧1≤(zQz pw ph so mood L xs x0 y0 x1 y1 most).h∧(zQz pw ph so mood L xs x0 y0 x1 y1 most).h≤100:=by
 have b5:=@zQ4 pw 5 (by omega) (by omega)
 have b4:=@zQ4 ph 4 (by omega) (by omega)
 have hW:1≤zX8 pw 5 x0 x1 pw∧zX8 pw 5 x0 x1 pw≤100:=by
  unfold zX8
  split <;> rw [IntWalk.i64_in _ ⟨by omega,by omega⟩] <;> omega
 have hH:1≤zX8 ph 4 y0 y1 pw∧zX8 ph 4 y0 y1 pw≤100:=by
  unfold zX8
  split <;> rw [IntWalk.i64_in _ ⟨by omega,by omega⟩] <;> omega
 rw [zK9 pw ph so mood L xs x0 y0 x1 y1 most _ _ rfl rfl]
 generalize zX8 pw 5 x0 x1 pw=W at *
 generalize zX8 ph 4 y0 y1 pw=H at *
 have wa:=zHn hW hH
 have hf:zZK W H=true:=by
  have:=Int.mul_le_mul hW.2 hH.2 (by omega) (by omega)
  simp [zZK]; omega
 have hwm:IntKind.wrap .i64 (W*H)=W*H:=IntWalk.i64_in _ (by
  have:=Int.mul_le_mul hW.2 hH.2 (by omega) (by omega)
  have:=Int.mul_nonneg (a:=W) (b:=H) (by omega) (by omega)
  omega)
 split
 ·exact ⟨zXG _ hf,hW.1,hW.2,hH.1,hH.2⟩
 ·have hk:ofOk W H (zQm mood L xs most (IntKind.wrap .i64 (W*H)).toNat).length=true:=by
   simp only [ofOk,hf,Bool.true_and,decide_eq_true_eq,zZJ]
   omega
  rw [zW0 hk]
  exact ⟨zWN hk,hW.1,hW.2,hH.1,hH.2⟩
theorem jKy {l:List Px} {g:Px→Int} {k:Nat} (h:k < l.length):nAt (chan l g) k=g l[k]:=by
 unfold chan
 rw [jZc (by simpa using h)]
 simp
theorem jKc {w h:Int} {l:List Px} {x y:Int} (hk:(y*w+x).toNat < l.length):(ofIm w h l).px x y=l[(y*w+x).toNat]:=by
 simp [Im.px,ofIm,Pl.at_,jKy hk]
theorem Im.list_at {m:Im} {n k:Nat} (h:k < n):(m.list n)[k]'(by rw [Im.list_len]; exact h)=m.nth k:=by simp [Im.list]
theorem jQ0 {w h:Int} {l:List Px} (hk:ofOk w h l.length=true):(imOf w h l).formed=true∧(imOf w h l).pixels=l:=by
 rw [zW0 hk]
 have hf:=zWN hk
 refine ⟨hf,?_⟩
 rw [Im.pixels_of hf]
 obtain ⟨f1,f2,f3,f4,f5⟩:=zXC (Im.formed_of hf).1
 have hl:l.length=w.toNat*h.toNat:=by
  have:=(Im.count_le (Im.formed_of hf).1).2
  simp [ofOk] at hk
  change ((w.toNat*h.toNat:Nat):Int)=w*h at this
  omega
 refine List.ext_getElem (by rw [Im.list_len]; exact hl.symm) fun i h1 h2=>?_
 rw [Im.list_len] at h1
 rw [Im.list_at h1]
 have hw:0 < w.toNat:=by change 1≤w at f1; omega
 have e:i / w.toNat*w.toNat+i % w.toNat=i:=by rw [Nat.mul_comm]; exact Nat.div_add_mod i w.toNat
 have e2:(((i / w.toNat:Nat):Int)*w+((i % w.toNat:Nat):Int)).toNat=i:=by
  rw [idx (by change 1≤w at f1; omega)]; exact e
 show (ofIm w h l).px ((i % w.toNat:Nat):Int) ((i / w.toNat:Nat):Int)=l[i]
 rw [jKc (by rw [e2]; exact h2)]
 simp only [e2]
def zQO (n d:Int):Int:=if d=0 then 0 else n / d+(if d - n % d≤n % d then 1 else 0)
def to16 (v:Int):Int:=if 255 < v then 65535 else 257*v
def to8 (v:Int):Int:=zQO (v*255) 65535
def Px.map (f:Int→Int) (p:Px):Px:=⟨f p.a,f p.b,f p.c,f p.al,f p.f⟩
def jYz (b:Int):Bool:=decide (b=8) || decide (b=16)
def jJs (b:Int):Int:=if b=8 then 255 else if b=16 then 65535 else 0
def Px.conv (a b:Int) (p:Px):Px:=if a < b then p.map to16 else if b < a then p.map to8 else p
def Im.convOk (m:Im) (a b:Int):Bool:=jYz a && jYz b && decide (m.valid (jJs a)=0)
def Im.conv (m:Im) (a b:Int):Im:=if m.convOk a b then (if m.so then zQb m.w m.h (m.c.conv a b) else imOf m.w m.h (m.pixels.map (Px.conv a b))) else .zero
def isq:Nat→Nat
 | 0=>0
 | n+1=>if (isq n+1)*(isq n+1)≤n+1 then isq n+1 else isq n
theorem jZD:∀ n:Nat,isq n*isq n≤n∧n < (isq n+1)*(isq n+1)
 | 0=>by decide
 | n+1=>by
  have ⟨h1,h2⟩:=jZD n
  simp only [isq]
  split
  ·refine ⟨by assumption,?_⟩
   have:(isq n+1+1)*(isq n+1+1)=(isq n+1)*(isq n+1)+2*(isq n)+3:=by grind
   omega
  ·omega
def zYY (n:Int):Int:=isq n.toNat
theorem zJM {n:Int} (h:0≤n):0≤zYY n∧zYY n*zYY n≤n∧n < (zYY n+1)*(zYY n+1):=by
 obtain ⟨m,rfl⟩:=Int.eq_ofNat_of_zero_le h
 have ⟨h1,h2⟩:=jZD m
 simp only [zYY,Int.toNat_natCast]
 refine ⟨by omega,by exact_mod_cast h1,by exact_mod_cast h2⟩
theorem jQU {n k:Int} (h:0≤n) (hk:0≤k):k≤zYY n↔k*k≤n:=by
 obtain ⟨h0,h1,h2⟩:=zJM h
 constructor
 ·intro hl
  exact Int.le_trans (Int.mul_le_mul hl hl hk h0) h1
 ·intro hl
  apply Int.not_lt.1
  intro hlt
  have:(zYY n+1)*(zYY n+1)≤k*k:=Int.mul_le_mul hlt hlt (by omega) hk
  omega
theorem jXP {n k:Int} (h:0≤n) (hk:0≤k):zYY n < k↔n < k*k:=by
 have:=jQU h hk
 omega
structure Ex where
  p:Int
  q:Int
  r:Int
  d:Int
def Ex.up (x:Ex) (t:Int):Int:=t*x.p+zYY ((t*x.q)*(t*x.q)*x.r)
def Ex.floor (x:Ex):Int:=x.up 1 / x.d
def Ex.half (x:Ex):Int:=(x.up 2+x.d) / (2*x.d)
structure Ex.ok (x:Ex):Prop where
  p:0≤x.p
  q:0≤x.q
  r:0≤x.r
  d:0 < x.d
theorem zQ3 (a:Int):0≤a*a:=by
 rcases Int.le_total 0 a with h | h
 ·exact Int.mul_nonneg h h
 ·have:=Int.mul_nonneg (Int.neg_nonneg.2 h) (Int.neg_nonneg.2 h); grind
theorem Ex.up_nonneg {x:Ex} (h:x.ok) {t:Int} (ht:0≤t):0≤x.up t:=by
 have:=(zJM (Int.mul_nonneg (zQ3 (t*x.q)) h.r)).1
 have:=Int.mul_nonneg ht h.p
 unfold Ex.up; omega
theorem Ex.up_two {x:Ex} (h:x.ok):2*x.up 1≤x.up 2∧x.up 2≤2*x.up 1+1:=by
 have hn:0≤x.q*x.q*x.r:=Int.mul_nonneg (zQ3 _) h.r
 have e2:(2*x.q)*(2*x.q)*x.r=4*(x.q*x.q*x.r):=by grind
 unfold Ex.up
 rw [e2,Int.one_mul,Int.one_mul]
 generalize x.q*x.q*x.r=n at *
 obtain ⟨a0,a1,a2⟩:=zJM hn
 have b1:2*zYY n≤zYY (4*n):=(jQU (by omega) (by omega)).2 (by grind)
 have b2:zYY (4*n) < 2*zYY n+2:=(jXP (by omega) (by omega)).2 (by grind)
 omega
theorem Ex.half_floor {x:Ex} (h:x.ok):x.half=if (2*x.floor+1)*x.d≤x.up 2 then x.floor+1 else x.floor:=by
 have ⟨u1,u2⟩:=Ex.up_two h
 have hd:=h.d
 have e1:=Int.emod_add_mul_ediv (x.up 1) x.d
 have e2:=Int.emod_nonneg (x.up 1) (b:=x.d) (by omega)
 have e3:=Int.emod_lt_of_pos (x.up 1) hd
 unfold Ex.half
 change _=if (2*(x.up 1 / x.d)+1)*x.d≤_ then x.up 1 / x.d+1 else x.up 1 / x.d
 generalize x.up 1 / x.d=n at *
 generalize x.up 1 % x.d=m at *
 generalize x.up 1=A at *
 generalize x.up 2=B at *
 generalize x.d=d at *
 split
 ·rename_i hc
  rw [Int.ediv_eq_iff_of_pos (by omega)]
  constructor <;> grind
 ·rename_i hc
  rw [Int.ediv_eq_iff_of_pos (by omega)]
  constructor <;> grind
theorem Ex.half_le {x:Ex} (h:x.ok) {B:Int} (h1:x.p≤B) (h2:x.q*x.q*x.r≤(B - x.p)*(B - x.p)):x.half≤(2*B+x.d) / (2*x.d):=by
 apply Int.ediv_le_ediv (by have:=h.d; omega)
 have hn:0≤x.q*x.q*x.r:=Int.mul_nonneg (zQ3 _) h.r
 have e2:(2*x.q)*(2*x.q)*x.r=4*(x.q*x.q*x.r):=by grind
 have:zYY (4*(x.q*x.q*x.r)) < 2*(B - x.p)+1:=(jXP (by omega) (by omega)).2 (by grind)
 unfold Ex.up
 rw [e2]; omega
theorem Ex.half_nonneg {x:Ex} (h:x.ok):0≤x.half:=by
 have:=Ex.up_nonneg h (t:=2) (by omega)
 have:=h.d
 exact Int.ediv_nonneg (by omega) (by omega)
theorem Ex.half_whole {x:Ex} (hd:0 < x.d) {c:Int} (hq:x.q=0) (hp:x.p=c*x.d):x.half=c:=by
 have:x.up 2=2*(c*x.d):=by
  unfold Ex.up
  rw [hq,hp]
  simp [zYY,isq]
 unfold Ex.half
 rw [this,Int.ediv_eq_iff_of_pos (by omega)]
 constructor <;> grind
def zJB (s a d b:Int):Int:=if 2*s≤a then 2*s*d else a*b - 2*(b - d)*(a - s)
def zYX (s a d b:Int):Ex:=
 if b=0 then ⟨0,0,0,1⟩
 else if 2*s≤a then ⟨d*a*b - (a - 2*s)*d*(b - d),0,0,b⟩
 else if 4*d≤b then ⟨d*a*(b*b)+(2*s - a)*d*(16*d*d+3*b*b - 12*d*b),0,0,b*b⟩
 else ⟨2*d*(a - s),2*s - a,d*b,1⟩
def zZa (p:Int):Ex:=⟨p,0,0,1⟩
def zQp (mode s a d b:Int):Ex:=
 if mode=1 then zZa (s*b)
 else if mode=2 then zZa (s*d)
 else if mode=3 then zZa (s*b+d*a - s*d)
 else if mode=4 then zZa (zJB d b s a)
 else if mode=5 then zZa (min (s*b) (d*a))
 else if mode=6 then zZa (max (s*b) (d*a))
 else if mode=7 then if d=0 then zZa 0 else if d*a≥b*(a - s) then zZa (a*b) else ⟨a*a*d,0,0,a - s⟩
 else if mode=8 then if d=b then zZa (a*b) else if (b - d)*a≥s*b then zZa 0 else ⟨a*b*s - (b - d)*a*a,0,0,s⟩
 else if mode=9 then zZa (zJB s a d b)
 else if mode=10 then zYX s a d b
 else if mode=11 then zZa (max (s*b) (d*a) - min (s*b) (d*a))
 else zZa (s*b+d*a - 2*s*d)
structure Ex.under (x:Ex) (B:Int):Prop where
  ok:x.ok
  p:x.p≤B*x.d
  q:x.q*x.q*x.r≤(B*x.d - x.p)*(B*x.d - x.p)
theorem zQP {n B:Int} (h0:0≤n) (h1:n≤B):(zZa n).under B:=
 ⟨⟨h0,by simp [zZa],by simp [zZa],by simp [zZa]⟩,by simp [zZa,h1],by simp [zZa]; exact zQ3 _⟩
theorem zQj {x y A B:Int} (h0:0≤x) (h1:x≤A) (h2:0≤y) (h3:y≤B):0≤x*y∧x*y≤A*B:=
 ⟨Int.mul_nonneg h0 h2,Int.mul_le_mul h1 h3 h2 (by omega)⟩
theorem zGY {s a d b:Int} (h0:0≤s) (h1:s≤a) (h2:0≤d) (h3:d≤b):0≤zJB s a d b∧zJB s a d b≤a*b:=by
 unfold zJB
 split
 ·rename_i h
  have:=zQj (x:=2*s) (A:=a) (by omega) h h2 h3
  exact this
 ·rename_i h
  have:=zQj (x:=b - d) (y:=2*(a - s)) (A:=b) (B:=a) (by omega) (by omega) (by omega) (by omega)
  have e:2*(b - d)*(a - s)=(b - d)*(2*(a - s)):=by grind
  have e2:a*b=b*a:=Int.mul_comm _ _
  rw [e]; omega
theorem jZg {d b:Int} (h2:0≤d) (h3:4*d≤b):0≤16*d*d+3*b*b - 12*d*b∧d*(b*b)+d*(16*d*d+3*b*b - 12*d*b)≤b*(b*b):=by
 have a1:=zQ3 (8*d - 3*b)
 have a2:=zQ3 b
 refine ⟨by grind,?_⟩
 have c1:0≤d*d*(3*b - 4*d):=Int.mul_nonneg (zQ3 d) (by omega)
 have c2:0≤(b*b)*(b - 4*d):=Int.mul_nonneg (zQ3 b) (by omega)
 grind
theorem zWm {s a d b:Int} (h0:0≤s) (h1:s≤a) (h2:0≤d) (h3:d≤b):(zYX s a d b).under (a*b):=by
 unfold zYX
 split
 ·rename_i h; subst h; exact ⟨⟨by simp,by simp,by simp,by simp⟩,by simp,by simp⟩
 split
 ·rename_i hb h
  have m1:=zQj (x:=a - 2*s) (y:=d*(b - d)) (A:=a) (B:=d*b) (by omega) (by omega) (Int.mul_nonneg h2 (by omega)) (Int.mul_le_mul_of_nonneg_left (by omega) h2)
  have m2:=zQj (x:=d) (y:=a*b) (A:=b) (B:=a*b) h2 h3 (Int.mul_nonneg (by omega) (by omega)) (Int.le_refl _)
  have e1:(a - 2*s)*d*(b - d)=(a - 2*s)*(d*(b - d)):=by grind
  have e2:d*a*b=d*(a*b):=by grind
  have e3:a*b*b=b*(a*b):=by grind
  have e4:a*(d*b)=d*(a*b):=by grind
  exact ⟨⟨by simp only; omega,by simp,by simp,by simp only; omega⟩,by simp only; omega,by simp; exact zQ3 _⟩
 split
 ·rename_i hb hs h
  obtain ⟨k1,k2⟩:=jZg h2 h
  generalize hK:16*d*d+3*b*b - 12*d*b=K at *
  have m1:=zQj (x:=2*s - a) (y:=d*K) (A:=a) (B:=d*K) (by omega) (by omega) (Int.mul_nonneg h2 k1) (Int.le_refl _)
  have m2:a*(d*(b*b)+d*K)≤a*(b*(b*b)):=Int.mul_le_mul_of_nonneg_left k2 (by omega)
  have m3:0≤d*a*(b*b):=Int.mul_nonneg (Int.mul_nonneg h2 (by omega)) (zQ3 b)
  have m4:0 < b*b:=Int.mul_pos (by omega) (by omega)
  have e1:(2*s - a)*d*K=(2*s - a)*(d*K):=by grind
  have e2:d*a*(b*b)+a*(d*K)=a*(d*(b*b)+d*K):=by grind
  have e3:a*b*(b*b)=a*(b*(b*b)):=by grind
  exact ⟨⟨by simp only; omega,by simp,by simp,m4⟩,by simp only; omega,by simp; exact zQ3 _⟩
 ·rename_i hb hs h
  have m1:=zQj (x:=d) (y:=2*(a - s)) (A:=b) (B:=2*(a - s)) h2 h3 (by omega) (Int.le_refl _)
  have e1:2*d*(a - s)=d*(2*(a - s)):=by grind
  have q0:0≤2*s - a:=by omega
  have m2:0≤b*(2*s - a):=Int.mul_nonneg (by omega) q0
  have e2:a*b=b*(2*(a - s))+b*(2*s - a):=by grind
  have m3:b*(2*s - a)≤a*b*1 - 2*d*(a - s):=by omega
  have m4:(b*(2*s - a))*(b*(2*s - a))≤(a*b*1 - 2*d*(a - s))*(a*b*1 - 2*d*(a - s)):=Int.mul_le_mul m3 m3 m2 (by omega)
  have m5:(2*s - a)*(2*s - a)*(d*b)≤(2*s - a)*(2*s - a)*(b*b):=Int.mul_le_mul_of_nonneg_left (Int.mul_le_mul_of_nonneg_right h3 (by omega)) (zQ3 _)
  have e5:(2*s - a)*(2*s - a)*(b*b)=(b*(2*s - a))*(b*(2*s - a)):=by grind
  exact ⟨⟨by simp only; omega,q0,Int.mul_nonneg h2 (by omega),by simp⟩,by simp only; omega,by simp only; omega⟩
theorem zZt {mode s a d b:Int} (h0:0≤s) (h1:s≤a) (h2:0≤d) (h3:d≤b):(zQp mode s a d b).under (a*b):=by
 have m1:=zQj h0 h1 (show 0≤b by omega) (Int.le_refl b)
 have m2:=zQj h2 h3 (show 0≤a by omega) (Int.le_refl a)
 have m3:=zQj h0 h1 h2 h3
 have e:a*b=b*a:=Int.mul_comm _ _
 have x1:s*b+d*a - s*d=s*b+d*(a - s):=by grind
 have m4:=zQj (x:=d) (y:=a - s) (B:=a - s) h2 h3 (by omega) (Int.le_refl _)
 have x2:b*(a - s)=a*b - s*b:=by grind
 have x3:s*b+d*a - 2*s*d=s*(b - d)+d*(a - s):=by grind
 have m5:=zQj (x:=s) (y:=b - d) (B:=b - d) h0 h1 (by omega) (Int.le_refl _)
 have m6:=Int.mul_nonneg h2 (show 0≤a - s by omega)
 have m7:=Int.mul_nonneg h0 (show 0≤b - d by omega)
 have m8:=Int.mul_nonneg (show 0≤a - s by omega) (show 0≤b - d by omega)
 have x4:a*b=s*(b - d)+d*(a - s)+s*d+(a - s)*(b - d):=by grind
 unfold zQp
 by_cases c1:mode=1
 ·rw [if_pos c1]
  exact zQP (by omega) (by omega)
 rw [if_neg c1]
 by_cases c2:mode=2
 ·rw [if_pos c2]
  exact zQP (by omega) (by omega)
 rw [if_neg c2]
 by_cases c3:mode=3
 ·rw [if_pos c3]
  exact zQP (by omega) (by omega)
 rw [if_neg c3]
 by_cases c4:mode=4
 ·rw [if_pos c4]
  have:=zGY h2 h3 h0 h1
  exact zQP (by omega) (by omega)
 rw [if_neg c4]
 by_cases c5:mode=5
 ·rw [if_pos c5]
  exact zQP (by omega) (by omega)
 rw [if_neg c5]
 by_cases c6:mode=6
 ·rw [if_pos c6]
  exact zQP (by omega) (by omega)
 rw [if_neg c6]
 by_cases c7:mode=7
 ·rw [if_pos c7]
  split
  ·exact zQP (by omega) (by omega)
  split
  ·exact zQP (by omega) (by omega)
  ·rename_i hd hlt
   have hp:0 < a - s:=by
    rcases Int.lt_or_le 0 (a - s) with h | h
    ·exact h
    ·have:a - s=0:=by omega
     rw [this] at hlt
     omega
   have n1:a*(d*a)≤a*(b*(a - s)):=Int.mul_le_mul_of_nonneg_left (by omega) (by omega)
   have n2:0≤a*a*d:=Int.mul_nonneg (zQ3 a) h2
   have y1:a*a*d=a*(d*a):=by grind
   have y2:a*b*(a - s)=a*(b*(a - s)):=by grind
   exact ⟨⟨n2,by simp,by simp,hp⟩,by simp only; omega,by simp; exact zQ3 _⟩
 rw [if_neg c7]
 by_cases c8:mode=8
 ·rw [if_pos c8]
  split
  ·exact zQP (by omega) (by omega)
  split
  ·exact zQP (by omega) (by omega)
  ·rename_i hd hlt
   have hp:0 < s:=by
    rcases Int.lt_or_le 0 s with h | h
    ·exact h
    ·have:s=0:=by omega
     rw [this] at hlt
     have:=Int.mul_nonneg (show 0≤b - d by omega) (show 0≤a by omega)
     omega
   have n1:a*((b - d)*a)≤a*(s*b):=Int.mul_le_mul_of_nonneg_left (by omega) (by omega)
   have n2:0≤(b - d)*a*a:=Int.mul_nonneg (Int.mul_nonneg (by omega) (by omega)) (by omega)
   have y1:(b - d)*a*a=a*((b - d)*a):=by grind
   have y2:a*b*s=a*(s*b):=by grind
   exact ⟨⟨by simp only; omega,by simp,by simp,hp⟩,by simp only; omega,by simp; exact zQ3 _⟩
 rw [if_neg c8]
 by_cases c9:mode=9
 ·rw [if_pos c9]
  have:=zGY h0 h1 h2 h3
  exact zQP (by omega) (by omega)
 rw [if_neg c9]
 by_cases c10:mode=10
 ·rw [if_pos c10]
  exact zWm h0 h1 h2 h3
 rw [if_neg c10]
 by_cases c11:mode=11
 ·rw [if_pos c11]
  exact zQP (by omega) (by omega)
 rw [if_neg c11]
 exact zQP (by omega) (by omega)
theorem zJY {n m:Int} (hm:0 < m):zQO n m=(2*n+m) / (2*m):=by
 unfold zQO
 rw [if_neg (by omega)]
 have e1:=Int.emod_add_mul_ediv n m
 have e2:=Int.emod_nonneg n (b:=m) (by omega)
 have e3:=Int.emod_lt_of_pos n hm
 generalize n / m=q at *
 generalize n % m=r at *
 symm
 rw [Int.ediv_eq_iff_of_pos (by omega)]
 split <;> constructor <;> grind
theorem zZz {n k m:Int} (hm:0 < m) (h:n≤k):zQO n m≤zQO k m:=by
 rw [zJY hm,zJY hm]
 exact Int.ediv_le_ediv (by omega) (by omega)
theorem zJC {c m:Int} (hm:0 < m):zQO (m*c) m=c:=by
 rw [zJY hm,Int.ediv_eq_iff_of_pos (by omega)]
 constructor <;> grind
theorem zYs {n m:Int} (hm:0 < m) (h:0≤n):0≤zQO n m:=by
 rw [zJY hm]
 exact Int.ediv_nonneg (by omega) (by omega)
theorem zZR {n m k:Int} (hm:0 < m) (h:n≤m*k):zQO n m≤k:=by
 have:=zZz hm h
 rwa [zJC hm] at this
def facA (op a b m:Int):Int:=
 if op=2 then m else if op=3 then 0 else if op=4 then m else if op=5 then m - b else if op=6 then b else if op=7 then 0
 else if op=8 then m - b else if op=9 then 0 else if op=10 then b else if op=11 then m - b else if op=12 then m - b else 0
def facB (op a b m:Int):Int:=
 if op=2 then 0 else if op=3 then m else if op=4 then m - a else if op=5 then m else if op=6 then 0 else if op=7 then a
 else if op=8 then 0 else if op=9 then m - a else if op=10 then m - a else if op=11 then a else if op=12 then m - a else 0
def zZU (op a b m:Int):Int:=zQO (facA op a b m*a+facB op a b m*b) m
def zXP (op f g m:Int):Int:=
 if op=2∨op=8∨op=11 then f
 else if op=3∨op=9∨op=10 then g
 else if op=4∨op=5∨op=12 then zQO (m*f+(m - f)*g) m
 else if op=6∨op=7 then zQO (f*g) m
 else 0
def valS (op mode m s a d b:Int):Ex:=
 let t:=zQp mode s a d b
 ⟨t.p*facA op a b m+(m - b)*s*facA op a b m*t.d+facB op a b m*d*m*t.d,facA op a b m*t.q,t.r,m*m*t.d⟩
def colS (op mode m s a d b:Int):Int:=(valS op mode m s a d b).half
def knoX (mode m s a f c d b:Int):Ex:=
 let t:=zQp mode s a d b
 ⟨t.p+((m - f)*c+(f - a)*d+(m - b)*s)*t.d,t.q,t.r,m*t.d⟩
def knoC (mode m s a f c d b:Int):Int:=(knoX mode m s a f c d b).half
def knoA (m a f acc b:Int):Int:=zQO ((m - f)*acc+(f - a)*b+m*a) m
theorem jQd {op a b m:Int} (h0:0≤a) (h1:a≤m) (h2:0≤b) (h3:b≤m):(0≤facA op a b m∧facA op a b m≤m)∧0≤facB op a b m∧facB op a b m≤m:=by
 have key:∀ (c:Prop) [Decidable c] (x y:Int),0≤x∧x≤m→0≤y∧y≤m→0≤(if c then x else y)∧(if c then x else y)≤m:=fun c _ x y hx hy=>by split <;> assumption
 unfold facA facB
 constructor <;> (repeat' (first | apply key | omega))
theorem zHo {op mode m s a d b:Int} (hm:0 < m) (h0:0≤s) (h1:s≤a) (h2:a≤m) (h3:0≤d) (h4:d≤b) (h5:b≤m) :
  let x:=valS op mode m s a d b
  let B:=(zQp mode s a d b).d*m*(facA op a b m*a+facB op a b m*b)
  x.ok∧x.p≤B∧x.q*x.q*x.r≤(B - x.p)*(B - x.p):=by
 have hu:=zZt (mode:=mode) h0 h1 h3 h4
 have ⟨⟨a0,a1⟩,b0,b1⟩:=jQd (op:=op) (show 0≤a by omega) h2 (show 0≤b by omega) h5
 simp only [valS]
 generalize facA op a b m=A at *
 generalize facB op a b m=F at *
 generalize zQp mode s a d b=t at *
 obtain ⟨p,q,r,e⟩:=t
 obtain ⟨⟨p0,q0,r0,e0⟩,p1,q1⟩:=hu
 simp only at *
 have n1:0≤p*A:=Int.mul_nonneg p0 a0
 have n2:p*A≤(a*b*e)*A:=Int.mul_le_mul_of_nonneg_right p1 a0
 have w0:0≤A*e:=Int.mul_nonneg a0 (by omega)
 have n3:=zQj (x:=(m - b)*s) (y:=A*e) (A:=(m - b)*a) (B:=A*e) (Int.mul_nonneg (by omega) h0) (Int.mul_le_mul_of_nonneg_left h1 (by omega)) w0 (Int.le_refl _)
 have v0:0≤F*(m*e):=Int.mul_nonneg b0 (Int.mul_nonneg (by omega) (by omega))
 have n4:=zQj (x:=d) (y:=F*(m*e)) (A:=b) (B:=F*(m*e)) h3 h4 v0 (Int.le_refl _)
 have e1:(m - b)*s*A*e=(m - b)*s*(A*e):=by grind
 have e2:F*d*m*e=d*(F*(m*e)):=by grind
 have key:e*m*(A*a+F*b)=(a*b*e)*A+(m - b)*a*(A*e)+b*(F*(m*e)):=by grind
 have low:A*(a*b*e - p)≤e*m*(A*a+F*b) - (p*A+(m - b)*s*A*e+F*d*m*e):=by
  rw [key,e1,e2]
  have:A*(a*b*e - p)=(a*b*e)*A - p*A:=by grind
  omega
 have lp:0≤A*(a*b*e - p):=Int.mul_nonneg a0 (by omega)
 refine ⟨⟨by simp only; omega,Int.mul_nonneg a0 q0,r0,Int.mul_pos (Int.mul_pos hm hm) e0⟩,by omega,?_⟩
 have s1:=Int.mul_le_mul low low lp (by omega)
 have s2:(A*A)*(q*q*r)≤(A*A)*((a*b*e - p)*(a*b*e - p)):=Int.mul_le_mul_of_nonneg_left q1 (zQ3 A)
 have s3:A*q*(A*q)*r=(A*A)*(q*q*r):=by grind
 have s4:A*(a*b*e - p)*(A*(a*b*e - p))=(A*A)*((a*b*e - p)*(a*b*e - p)):=by grind
 rw [s3]
 exact Int.le_trans s2 (by rw [← s4]; exact s1)
theorem zUd {n m k:Int} (hm:0 < m) (hk:0 < k):(2*(k*n)+k*m) / (2*(k*m))=(2*n+m) / (2*m):=by
 have e1:2*(k*n)+k*m=k*(2*n+m):=by grind
 have e2:2*(k*m)=k*(2*m):=by grind
 rw [e1,e2,Int.mul_ediv_mul_of_pos _ _ hk]
theorem zG7 {op mode m s a d b:Int} (hm:0 < m) (h0:0≤s) (h1:s≤a) (h2:a≤m) (h3:0≤d) (h4:d≤b) (h5:b≤m) :
  0≤colS op mode m s a d b∧colS op mode m s a d b≤zZU op a b m:=by
 have ⟨ok,l1,l2⟩:=zHo (op:=op) (mode:=mode) hm h0 h1 h2 h3 h4 h5
 have hd:=(zZt (mode:=mode) h0 h1 h3 h4).ok.d
 refine ⟨Ex.half_nonneg ok,?_⟩
 have:=Ex.half_le ok l1 l2
 unfold colS zZU
 rw [zJY hm]
 refine Int.le_trans this ?_
 have e1:(valS op mode m s a d b).d=(m*(zQp mode s a d b).d)*m:=by simp only [valS]; grind
 rw [e1]
 have e2:(zQp mode s a d b).d*m*(facA op a b m*a+facB op a b m*b)=(m*(zQp mode s a d b).d)*(facA op a b m*a+facB op a b m*b):=by grind
 rw [e2,zUd hm (Int.mul_pos hm hd)]
 exact Int.le_refl _
theorem zHP {mode m s a f c A d b:Int} (hm:0 < m) (h0:0≤s) (h1:s≤a) (h2:a≤f) (h2':f≤m) (h3:0≤d) (h4:d≤b) (h5:b≤m) (h6:0≤c) (h7:c≤A) :
  let x:=knoX mode m s a f c d b
  let B:=(zQp mode s a d b).d*((m - f)*A+(f - a)*b+m*a)
  x.ok∧x.p≤B∧x.q*x.q*x.r≤(B - x.p)*(B - x.p):=by
 have hu:=zZt (mode:=mode) h0 h1 h3 h4
 simp only [knoX]
 generalize zQp mode s a d b=t at *
 obtain ⟨p,q,r,e⟩:=t
 obtain ⟨⟨p0,q0,r0,e0⟩,p1,q1⟩:=hu
 simp only at *
 have n1:=zQj (x:=m - f) (y:=c) (A:=m - f) (B:=A) (by omega) (Int.le_refl _) h6 h7
 have n2:=zQj (x:=f - a) (y:=d) (A:=f - a) (B:=b) (by omega) (Int.le_refl _) h3 h4
 have n3:=zQj (x:=m - b) (y:=s) (A:=m - b) (B:=a) (by omega) (Int.le_refl _) h0 h1
 have n4:=zQj (x:=(m - f)*c+(f - a)*d+(m - b)*s) (y:=e) (A:=(m - f)*A+(f - a)*b+(m - b)*a) (B:=e) (by omega) (by omega) (by omega) (Int.le_refl _)
 have key:e*((m - f)*A+(f - a)*b+m*a)=a*b*e+((m - f)*A+(f - a)*b+(m - b)*a)*e:=by grind
 have low:a*b*e - p≤e*((m - f)*A+(f - a)*b+m*a) - (p+((m - f)*c+(f - a)*d+(m - b)*s)*e):=by omega
 refine ⟨⟨by simp only; omega,q0,r0,Int.mul_pos hm e0⟩,by omega,?_⟩
 exact Int.le_trans q1 (Int.mul_le_mul low low (by omega) (by omega))
theorem zWX {mode m s a f c A d b:Int} (hm:0 < m) (h0:0≤s) (h1:s≤a) (h2:a≤f) (h2':f≤m) (h3:0≤d) (h4:d≤b) (h5:b≤m) (h6:0≤c) (h7:c≤A) :
  0≤knoC mode m s a f c d b∧knoC mode m s a f c d b≤knoA m a f A b:=by
 have ⟨ok,l1,l2⟩:=zHP (mode:=mode) hm h0 h1 h2 h2' h3 h4 h5 h6 h7
 have hd:=(zZt (mode:=mode) h0 h1 h3 h4).ok.d
 refine ⟨Ex.half_nonneg ok,?_⟩
 have:=Ex.half_le ok l1 l2
 unfold knoC knoA
 rw [zJY hm]
 refine Int.le_trans this ?_
 have e1:(knoX mode m s a f c d b).d=(zQp mode s a d b).d*m:=by simp only [knoX]; grind
 rw [e1,zUd hm hd]
 exact Int.le_refl _
theorem zGV {m a f acc b:Int} (hm:0 < m) (h0:0≤a) (h1:a≤f) (h2:f≤m) (h3:0≤acc) (h4:acc≤m) (h5:0≤b) (h6:b≤m):0≤knoA m a f acc b∧knoA m a f acc b≤m:=by
 have n1:=zQj (x:=m - f) (y:=acc) (A:=m - f) (B:=m) (by omega) (Int.le_refl _) h3 h4
 have n2:=zQj (x:=f - a) (y:=b) (A:=f - a) (B:=m) (by omega) (Int.le_refl _) h5 h6
 have n3:=Int.mul_nonneg (show 0≤m by omega) h0
 refine ⟨zYs hm (by omega),zZR hm ?_⟩
 have:m*m=(m - f)*m+(f - a)*m+m*a:=by grind
 omega
theorem zUl {op a b m:Int} (hm:0 < m) (h0:0≤a) (h1:a≤m) (h2:0≤b) (h3:b≤m):0≤zZU op a b m:=by
 have ⟨⟨a0,a1⟩,b0,b1⟩:=jQd (op:=op) h0 h1 h2 h3
 have:=Int.mul_nonneg a0 h0
 have:=Int.mul_nonneg b0 h2
 exact zYs hm (by omega)
theorem zXi {op a f b g m:Int} (hm:0 < m) (h0:0≤a) (h1:a≤f) (h2:f≤m) (h3:0≤b) (h4:b≤g) (h5:g≤m):zZU op a b m≤zXP op f g m∧zXP op f g m≤m:=by
 have n1:=zQj (x:=m - f) (y:=m - g) (A:=m) (B:=m) (by omega) (by omega) (by omega) (by omega)
 have n2:=zQj (x:=m - a) (y:=m - b) (A:=m) (B:=m) (by omega) (by omega) (by omega) (by omega)
 have n3:=zQj h0 h1 h3 h4
 have n4:=Int.mul_nonneg (show 0≤f - a by omega) (show 0≤m - g by omega)
 have n5:=Int.mul_nonneg (show 0≤g - b by omega) (show 0≤m - a by omega)
 have n6:=Int.mul_nonneg h0 h3
 have n7:=zQj (x:=f) (y:=g) (A:=f) (B:=m) (by omega) (Int.le_refl _) (by omega) h5
 have e1:m*f+(m - f)*g=m*m - (m - f)*(m - g):=by grind
 have e2:m*f+(m - f)*g=m*a+(m - a)*b+(f - a)*(m - g)+(g - b)*(m - a):=by grind
 have cz:0≤m:=by omega
 unfold zZU zXP facA facB
 by_cases c1:op=2
 ·subst c1; simp only [if_true,true_or,if_pos]
  exact ⟨zZR hm (by have:=Int.mul_le_mul_of_nonneg_left h1 cz; grind),h2⟩
 by_cases c2:op=3
 ·subst c2; simp
  exact ⟨zZR hm (by have:=Int.mul_le_mul_of_nonneg_left h4 cz; grind),h5⟩
 by_cases c3:op=4
 ·subst c3; simp
  exact ⟨zZz hm (by omega),zZR hm (by omega)⟩
 by_cases c4:op=5
 ·subst c4; simp
  exact ⟨zZz hm (by grind),zZR hm (by omega)⟩
 by_cases c5:op=6
 ·subst c5; simp
  exact ⟨zZz hm (by grind),zZR hm (by have:=Int.mul_le_mul_of_nonneg_right h2 (show 0≤m by omega); omega)⟩
 by_cases c6:op=7
 ·subst c6; simp
  exact ⟨zZz hm (by grind),zZR hm (by have:=Int.mul_le_mul_of_nonneg_right h2 (show 0≤m by omega); omega)⟩
 by_cases c7:op=8
 ·subst c7; simp
  exact ⟨zZR hm (by have:=Int.mul_le_mul_of_nonneg_left h1 cz; grind),h2⟩
 by_cases c8:op=9
 ·subst c8; simp
  exact ⟨zZR hm (by have:=Int.mul_le_mul_of_nonneg_left h4 cz; grind),h5⟩
 by_cases c9:op=10
 ·subst c9; simp
  exact ⟨zZR hm (by have:=Int.mul_le_mul_of_nonneg_left h4 cz; grind),h5⟩
 by_cases c10:op=11
 ·subst c10; simp
  exact ⟨zZR hm (by have:=Int.mul_le_mul_of_nonneg_left h1 cz; grind),h2⟩
 by_cases c11:op=12
 ·subst c11; simp
  exact ⟨zZz hm (by grind),zZR hm (by omega)⟩
 ·simp only [if_neg c1,if_neg c2,if_neg c3,if_neg c4,if_neg c5,if_neg c6,if_neg c7,if_neg c8,if_neg c9,if_neg c10,if_neg c11,c1,c2,c3,c4,c5,c6,c7,c8,c9,c10,c11,or_self]
  simp [zQO]
  omega
def atS (l:List Int) (i:Int):Int:=if i < 0 then 0 else (l[i.toNat]?).getD 0
def upto (n:Nat):List Int:=(List.range n).map Int.ofNat
theorem zKG (n:Nat):(upto n).length=n:=by simp [upto]
theorem jXw (n:Nat):upto (n+1)=upto n++[(n:Int)]:=by simp [upto,List.range_succ]
def stp (l:List Int) (n:Nat):Nat→List Int × List Int
 | 0=>(upto n,[])
 | i+1=>
  let s:=stp l n i
  let k:=(modS (atS l i) s.1.length).toNat
  (s.1.take k++s.1.drop (k+1),s.2++[(s.1[k]?).getD 0])
theorem jKi (l:List Int) (k:Nat):(is l).take k=is (l.take k):=by simp [is,List.map_take]
theorem jKj (l:List Int) (k:Nat):(is l).drop k=is (l.drop k):=by simp [is,List.map_drop]
theorem zJz (l m:List Int):is l++is m=is (l++m):=by simp [is]
theorem jYv {k N:Nat} (h:k < N):(is (upto k)++List.replicate (N - k) (DV.int .i64 0)).set k (.int .i64 k)=is (upto (k+1))++List.replicate (N - (k+1)) (DV.int .i64 0):=by
 have hl:(is (upto k)).length=k:=by rw [zQN,zKG]
 rw [List.set_append_right _ _ (by omega),hl,Nat.sub_self,show N - k=(N - (k+1))+1 by omega,List.replicate_succ,List.set_cons_zero,jXw,← zJz]
 simp [is]
def zYL (l:List Int) (n:Int):List Int:=if l.length=0∨64 < n then [] else (stp l n.toNat n.toNat).2
theorem jQR {v:Int} {m:Nat} (hm:1≤m) (hm':m≤1000000):0≤modS v m∧(modS v m).toNat < m:=by
 rw [jX9 (by omega) (by omega)]
 have:=Int.emod_nonneg v (show (m:Int)≠0 by omega)
 have:=Int.emod_lt_of_pos v (show 0 < (m:Int) by omega)
 omega
theorem zWi (l:List Int) {n:Nat} (hn:n≤64):∀ i,i≤n→(stp l n i).1.length=n - i∧(stp l n i).2.length=i
 | 0,_=>by simp [stp,zKG]
 | i+1,h=>by
  obtain ⟨h1,h2⟩:=zWi l hn i (by omega)
  have hk:=jQR (v:=atS l i) (m:=(stp l n i).1.length) (by omega) (by omega)
  simp only [stp,List.length_append,List.length_take,List.length_drop,List.length_cons,List.length_nil]
  omega
theorem jZe (l:List Int) {n:Nat} (hn:n≤64):∀ i,i≤n→((stp l n i).2++(stp l n i).1).Perm (upto n)
 | 0,_=>by simp [stp]
 | i+1,h=>by
  obtain ⟨h1,h2⟩:=zWi l hn i (by omega)
  have hk:=jQR (v:=atS l i) (m:=(stp l n i).1.length) (by omega) (by omega)
  have ih:=jZe l hn i (by omega)
  simp only [stp]
  generalize (stp l n i).1=r at *
  generalize (stp l n i).2=o at *
  generalize (modS (atS l i) r.length).toNat=k at *
  have e:r=r.take k++r[k]::r.drop (k+1):=by rw [← List.drop_eq_getElem_cons hk.2,List.take_append_drop]
  rw [List.getElem?_eq_getElem hk.2,Option.getD_some,List.append_assoc]
  refine List.Perm.trans ?_ ih
  refine List.Perm.append_left o ?_
  conv=>rhs; rw [e]
  simp only [List.singleton_append]
  exact List.perm_middle.symm
theorem jZ3 {l:List Int} {n:Int} (h:l.length≠0) (hn:n≤64):(zYL l n).Perm (upto n.toNat):=by
 have h1:=jZe l (n:=n.toNat) (by omega) n.toNat (Nat.le_refl _)
 have h2:=zWi l (n:=n.toNat) (by omega) n.toNat (Nat.le_refl _)
 have e:(stp l n.toNat n.toNat).1=[]:=List.eq_nil_of_length_eq_zero (by omega)
 rw [e,List.append_nil] at h1
 unfold zYL
 rw [if_neg (by omega)]
 exact h1
def seqL (l:List Int) (n:Int):List Int:=if l.length=0 then upto n.toNat else l
def zY9 (s:List Int) (n:Int):Prop:=(∀ v∈s,0≤v∧v < n)∧s.Nodup
instance (s:List Int) (n:Int):Decidable (zY9 s n):=by unfold zY9; infer_instance
def zZv (l:List Int) (n:Int):Bool:=decide (0≤n) && decide (n≤16777216) && (decide (l.length=0) || decide ((l.length:Int)=n)) && decide (zY9 (seqL l n) n)
def zX1 (l:List Int) (n:Int):List Int:=if zZv l n then seqL l n else []
def zXw (s:List Int) (N:Nat):List DV:=(List.range N).map fun v=>.bool (s.contains (Int.ofNat v))
theorem zWp (s:List Int) (N:Nat):(zXw s N).length=N:=by simp [zXw]
theorem jZj (s:List Int) {N:Nat} {v:Int} (h0:0≤v) (h1:v < N):(zXw s N)[v.toNat]?=some (.bool (s.contains v)):=by
 have e:Int.ofNat v.toNat=v:=by simp; omega
 simp only [zXw,List.getElem?_map,List.getElem?_range (show v.toNat < N by omega),Option.map_some,e]
theorem jXM (s:List Int) {N:Nat} {v:Int} (h0:0≤v) (h1:v < N):bAt (zXw s N) v.toNat=s.contains v:=by
 simp only [bAt,jZj s h0 h1]
theorem jXL (s:List Int) {N:Nat} {v:Int} (h0:0≤v):(zXw s N).set v.toNat (.bool true)=zXw (s++[v]) N:=by
 apply List.ext_getElem?
 intro i
 rw [List.getElem?_set]
 by_cases hi:i < N
 ·simp only [zXw,List.length_map,List.length_range,List.getElem?_map,List.getElem?_range hi,Option.map_some]
  by_cases e:v.toNat=i
  ·have e2:Int.ofNat i=v:=by simp; omega
   rw [if_pos e,if_pos (by omega),e2]
   simp
  ·have e2:¬ Int.ofNat i=v:=by simp; omega
   rw [if_neg e]
   congr 2
   rw [Bool.eq_iff_iff]
   simp only [List.contains_iff_mem,List.mem_append,List.mem_singleton,e2,or_false]
 ·have n1:∀ t:List Int,(zXw t N)[i]?=none:=fun t=>List.getElem?_eq_none (by rw [zWp]; omega)
  rw [n1,n1]
  split
  ·split
   ·rw [zWp] at *; omega
   ·rfl
  ·rfl
theorem zJr {S:List Int} {k:Nat} (hk:k < S.length):S.take (k+1)=S.take k++[S[k]]:=by
 rw [List.take_add_one,List.getElem?_eq_getElem hk,Option.toList_some]
theorem jYi {S:List Int} {m:Int} {k:Nat} (hk:k < S.length) (hg:zY9 (S.take k) m) (h0:0≤S[k]) (h1:S[k] < m) (hc:(S.take k).contains S[k]=false):zY9 (S.take (k+1)) m:=by
 rw [zJr hk]
 refine ⟨fun v hv=>?_,?_⟩
 ·rcases List.mem_append.1 hv with hv | hv
  ·exact hg.1 v hv
  ·rw [List.mem_singleton.1 hv]; exact ⟨h0,h1⟩
 ·rw [List.nodup_append]
  refine ⟨hg.2,by simp,fun a ha b hb e=>?_⟩
  rw [List.mem_singleton] at hb
  subst hb e
  have:(S.take k).contains S[k]=true:=by simpa using ha
  rw [hc] at this; cases this
theorem jYJ {S:List Int} {m:Int} {k:Nat} (hk:k < S.length) (h:S[k] < 0∨m≤S[k]∨(S.take k).contains S[k]=true):¬ zY9 S m:=by
 rintro ⟨g1,g2⟩
 have:=g1 S[k] (List.getElem_mem hk)
 rcases h with h | h | h
 ·omega
 ·omega
 ·have hm:S[k]∈S.take k:=by simpa using h
  have e:S=S.take (k+1)++S.drop (k+1):=(List.take_append_drop _ _).symm
  rw [e,zJr hk,List.append_assoc,List.nodup_append] at g2
  exact g2.2.2 _ hm _ (List.mem_append_left _ (List.mem_singleton.2 rfl)) rfl
theorem zHG {S:List Int} {m:Int} {k:Nat} (h0:0≤m) (hM:m≤16777216) (hS:S.length=m.toNat) (hk:k < S.length) (hg:zY9 (S.take k) m) {v:Int} (hv:v=S[k]) {Bad:Prop} (hBad:¬ zY9 S m→Bad) :
  (¬ v < 0→(¬ v≥m→(0≤v∧v < (m.toNat:Int))∧(zXw (S.take k) m.toNat)[v.toNat*1]?=some (.bool (bAt (zXw (S.take k) m.toNat) (v.toNat*1))) ∧
   (bAt (zXw (S.take k) m.toNat) (v.toNat*1)=true→Bad) ∧
   (bAt (zXw (S.take k) m.toNat) (v.toNat*1)=false→(0≤v∧v < (m.toNat:Int))∧v.toNat*1+1≤(zXw (S.take k) m.toNat).length∧zZe 1 8 k 1 (is (S.take k)) [.int .i64 v] ∧
    ∃ k':Nat,(k'≤m.toNat∧zY9 (S.take k') m)∧m.toNat - k' < m.toNat - k∧(k+1=k'∧IntKind.wrap .i64 ((k:Int)+1)=(k':Int))∧(zXw (S.take k) m.toNat).set (v.toNat*1) (.bool true)=zXw (S.take k') m.toNat∧is (S.take k)++[.int .i64 v]=is (S.take k'))) ∧
   (v≥m→Bad))∧(v < 0→Bad):=by
 subst hv
 refine ⟨fun a=>⟨fun b=>?_,fun b=>hBad (jYJ hk (.inr (.inl b)))⟩,fun a=>hBad (jYJ hk (.inl a))⟩
 have hlt:S[k] < (m.toNat:Int):=by omega
 simp only [Nat.mul_one,jXM (S.take k) (show 0≤S[k] by omega) hlt,jZj (S.take k) (show 0≤S[k] by omega) hlt,jXL (S.take k) (show 0≤S[k] by omega),zWp]
 refine ⟨⟨by omega,hlt⟩,trivial,fun c=>hBad (jYJ hk (.inr (.inr c))),fun c=>⟨⟨by omega,hlt⟩,by omega,⟨?_,rfl,by unfold maxLen; omega,by omega⟩,k+1,⟨by omega,jYi hk hg (by omega) (by omega) c⟩,by omega,⟨rfl,?_⟩,by rw [zJr hk],by rw [zJr hk,← zJz]; rfl⟩⟩
 ·rw [zQN,List.length_take]; omega
 ·rw [IntWalk.i64_in _ ⟨by omega,by omega⟩]; omega
theorem jZi {l:List Int} {m:Int} (h:l.length=0∨(l.length:Int)=m):(seqL l m).length=m.toNat:=by
 unfold seqL
 split
 ·exact zKG _
 ·rcases h with h | h <;> omega
theorem zGC {l:List Int} {m:Int} (h0:0≤m) (hM:m≤16777216) (h:l.length=0∨(l.length:Int)=m) (hg:zY9 (seqL l m) m):zZv l m=true∧zX1 l m=seqL l m:=by
 have e:zZv l m=true:=by simp [zZv,h0,hM,hg]; rcases h with h | h <;> simp_all
 exact ⟨e,by simp [zX1,e]⟩
theorem zHH {l:List Int} {m:Int} (h:m < 0∨16777216 < m∨(l.length≠0∧(l.length:Int)≠m)∨¬ zY9 (seqL l m) m):zZv l m=false∧zX1 l m=[]:=by
 have e:zZv l m=false:=by
  cases ho:zZv l m with
  | false=>rfl
  | true=>
   simp only [zZv,Bool.and_eq_true,Bool.or_eq_true,decide_eq_true_eq] at ho
   obtain ⟨⟨⟨a,b⟩,c⟩,d⟩:=ho
   rcases h with h | h | h | h
   ·omega
   ·omega
   ·rcases c with c | c
    ·exact absurd c h.1
    ·exact absurd c h.2
   ·exact absurd d h
 exact ⟨e,by simp [zX1,e]⟩
def zXb (S:List Int) (k:Nat):List DV:=is (S.take k)++List.replicate (S.length - k) (DV.int .i64 0)
theorem zVc {S:List Int} {k:Nat} (h:k≤S.length):(zXb S k).length=S.length:=by
 unfold zXb
 rw [List.length_append,zQN,List.length_take,List.length_replicate]; omega
theorem jQa {S:List Int} {k:Nat} (h:k < S.length) {v:Int} (hv:v=S[k]):(zXb S k).set k (.int .i64 v)=zXb S (k+1):=by
 subst hv
 have hl:(is (S.take k)).length=k:=by rw [zQN,List.length_take]; omega
 unfold zXb
 rw [List.set_append_right _ _ (by omega),hl,Nat.sub_self,show S.length - k=(S.length - (k+1))+1 by omega,List.replicate_succ,List.set_cons_zero,zJr h,← zJz]
 simp [is]
theorem zG3 {S:List Int} {k:Nat} (h:k < S.length):(zXb S (k+1))[k]?=some (.int .i64 S[k]):=by
 unfold zXb
 have hl:k < (S.take (k+1)).length:=by rw [List.length_take]; omega
 rw [List.getElem?_append_left (by rw [zQN]; exact hl),jQW hl]
 simp
theorem jQb {S:List Int} {k:Nat} (h:k < S.length):nAt (zXb S (k+1)) k=S[k]:=by simp only [nAt,zG3 h]
theorem jQc (S:List Int):zXb S S.length=is S:=by simp [zXb]
theorem jJM {n:Nat} {xs:List DV} (hn:xs.length=n) (hx:∀ (j:Nat) d,xs[j]?=some d→∃ v,d=.int .i64 v):xs=is (ints xs)∧n=xs.length:=by
 refine ⟨?_,hn.symm⟩
 clear hn
 induction xs with
 | nil=>rfl
 | cons x xs ih=>
  obtain ⟨v,rfl⟩:=hx 0 _ rfl
  have:=ih fun j d hj=>hx (j+1) d hj
  simp only [is,ints,List.map_cons] at this ⊢
  rw [← this]
theorem zW4 {n:Int} (h:0≤n):zY9 (upto n.toNat) n:=by
 refine ⟨fun v hv=>?_,?_⟩
 ·simp only [upto,List.mem_map,List.mem_range] at hv
  obtain ⟨i,hi,rfl⟩:=hv
  simp; omega
 ·exact List.Pairwise.map Int.ofNat (fun a b hab e=>hab (Int.ofNat.inj e)) List.nodup_range
theorem jYj {s t:List Int} {n:Int} (hp:s.Perm t) (h:zY9 t n):zY9 s n:=
 ⟨fun v hv=>h.1 v (hp.mem_iff.1 hv),hp.nodup_iff.2 h.2⟩
theorem jJ8 {l:List Int} {n:Int} (h0:0≤n) (h1:n≤64):zZv (zYL l n) n=true∧zX1 (zYL l n) n=seqL (zYL l n) n:=by
 by_cases hl:l.length=0
 ·have e:zYL l n=[]:=by simp [zYL,hl]
  rw [e]
  exact zGC h0 (by omega) (.inl rfl) (by simpa [seqL] using zW4 h0)
 ·have hp:=jZ3 hl h1
  have hlen:=hp.length_eq
  rw [zKG] at hlen
  refine zGC h0 (by omega) (.inr (by omega)) ?_
  unfold seqL
  split
  ·exact zW4 h0
  ·exact jYj hp (zW4 h0)
structure Oq where
  kind:Int
  image:Int
  x:Int
  y:Int
  mask:Int
  mx:Int
  my:Int
  opac:Int
  oper:Int
  mode:Int
  iso:Bool
  kno:Bool
deriving DecidableEq
def popO:Oq:=⟨3,0,0,0,0,0,0,0,0,0,false,false⟩
def Oq.fields (o:Oq):Bool:=
 if o.kind=3 then decide (o=popO)
 else !(decide (o.kind=1) && (o.iso || o.kno)) && !(decide (o.kind=2) && decide (o.image≠0∨o.x≠0∨o.y≠0)) && decide (o.mask≠0∨o.mx=0∧o.my=0)
def Oq.spare (o:Oq):Bool:=
 if o.kind=3 then !decide (o=popO)
 else if o.kind=1 then o.iso || o.kno || decide (o.mask=0∧(o.mx≠0∨o.my≠0))
 else decide (o.image≠0∨o.x≠0∨o.y≠0) || decide (o.mask=0∧(o.mx≠0∨o.my≠0))
theorem Oq.spare_fields {o:Oq} (h:o.kind=1∨o.kind=2∨o.kind=3):o.spare=!o.fields:=by
 rcases h with h | h | h <;> simp only [Oq.spare,Oq.fields,h] <;> cases o.iso <;> cases o.kno <;> by_cases h1:o.image=0 <;> by_cases h2:o.x=0 <;> by_cases h3:o.y=0 <;> by_cases h4:o.mask=0 <;> by_cases h5:o.mx=0 <;> by_cases h6:o.my=0 <;> simp [h1,h2,h3,h4,h5,h6]
def zZA (v:Int):Bool:=decide (-1048576≤v∧v≤1048576)
def Oq.cells (o:Oq):List DV:=[.int .i64 o.kind,.int .i64 o.image,.int .i64 o.x,.int .i64 o.y,.int .i64 o.mask,.int .i64 o.mx,.int .i64 o.my,.int .u16 o.opac,.int .i64 o.oper,.int .i64 o.mode,.bool o.iso,.bool o.kno]
def oqAt (xs:List DV) (i:Nat):Oq:=⟨nAt xs i,nAt xs (i+1),nAt xs (i+2),nAt xs (i+3),nAt xs (i+4),nAt xs (i+5),nAt xs (i+6),nAt xs (i+7),nAt xs (i+8),nAt xs (i+9),bAt xs (i+10),bAt xs (i+11)⟩
def ops (l:List Oq):List DV:=l.flatMap Oq.cells
theorem zQC (l:List Oq):(ops l).length=l.length*12:=by
 induction l with
 | nil=>rfl
 | cons o l ih=>simp only [ops,List.flatMap_cons,List.length_append,List.length_cons] at ih ⊢; rw [ih]; simp [Oq.cells]; omega
theorem zZP (l m:List Oq):ops (l++m)=ops l++ops m:=by simp [ops]
theorem zGE {l:List Oq} {k:Nat} (h:k < l.length) (j:Nat) (hj:j < 12):(ops l)[k*12+j]?=l[k].cells[j]?:=by
 induction l generalizing k with
 | nil=>simp at h
 | cons o l ih=>
  have e:ops (o::l)=o.cells++ops l:=by simp [ops]
  rw [e]
  cases k with
  | zero=>simp only [List.getElem_cons_zero]; rw [List.getElem?_append_left (by simp [Oq.cells]; omega)]; simp
  | succ k=>
   rw [List.getElem?_append_right (by simp [Oq.cells]; omega)]
   have:=ih (k:=k) (by simpa using h)
   simp only [List.getElem_cons_succ]
   rw [← this]
   congr 1
   simp [Oq.cells]; omega
theorem zVG {l:List Oq} {k:Nat} (h:k < l.length):(ops l)[k*12]?=some (.int .i64 l[k].kind)∧(ops l)[k*12+1]?=some (.int .i64 l[k].image)∧(ops l)[k*12+1+1]?=some (.int .i64 l[k].x)∧(ops l)[k*12+1+1+1]?=some (.int .i64 l[k].y)∧(ops l)[k*12+1+1+1+1]?=some (.int .i64 l[k].mask)∧(ops l)[k*12+1+1+1+1+1]?=some (.int .i64 l[k].mx)∧(ops l)[k*12+1+1+1+1+1+1]?=some (.int .i64 l[k].my)∧(ops l)[k*12+1+1+1+1+1+1+1]?=some (.int .u16 l[k].opac)∧(ops l)[k*12+1+1+1+1+1+1+1+1]?=some (.int .i64 l[k].oper)∧(ops l)[k*12+1+1+1+1+1+1+1+1+1]?=some (.int .i64 l[k].mode)∧(ops l)[k*12+1+1+1+1+1+1+1+1+1+1]?=some (.bool l[k].iso)∧(ops l)[k*12+1+1+1+1+1+1+1+1+1+1+1]?=some (.bool l[k].kno):=by
 have g:=fun j hj=>zGE h j hj
 refine ⟨g 0 (by omega),g 1 (by omega),g 2 (by omega),g 3 (by omega),g 4 (by omega),g 5 (by omega),g 6 (by omega),g 7 (by omega),g 8 (by omega),g 9 (by omega),g 10 (by omega),g 11 (by omega)⟩
theorem zVH {l:List Oq} {k:Nat} (h:k < l.length):nAt (ops l) (k*12)=l[k].kind∧nAt (ops l) (k*12+1)=l[k].image∧nAt (ops l) (k*12+1+1)=l[k].x∧nAt (ops l) (k*12+1+1+1)=l[k].y∧nAt (ops l) (k*12+1+1+1+1)=l[k].mask∧nAt (ops l) (k*12+1+1+1+1+1)=l[k].mx∧nAt (ops l) (k*12+1+1+1+1+1+1)=l[k].my∧nAt (ops l) (k*12+1+1+1+1+1+1+1)=l[k].opac∧nAt (ops l) (k*12+1+1+1+1+1+1+1+1)=l[k].oper∧nAt (ops l) (k*12+1+1+1+1+1+1+1+1+1)=l[k].mode∧bAt (ops l) (k*12+1+1+1+1+1+1+1+1+1+1)=l[k].iso∧bAt (ops l) (k*12+1+1+1+1+1+1+1+1+1+1+1)=l[k].kno:=by
 obtain ⟨e0,e1,e2,e3,e4,e5,e6,e7,e8,e9,e10,e11⟩:=zVG h
 simp only [nAt,bAt,e0,e1,e2,e3,e4,e5,e6,e7,e8,e9,e10,e11,and_self]
theorem jY4 {l:List Oq} {k:Nat} (h:k < l.length):oqAt (ops l) (k*12)=l[k]:=by
 obtain ⟨e0,e1,e2,e3,e4,e5,e6,e7,e8,e9,e10,e11⟩:=zVH h
 simp only [oqAt,show k*12+2=k*12+1+1 from rfl,show k*12+3=k*12+1+1+1 from rfl,show k*12+4=k*12+1+1+1+1 from rfl,show k*12+5=k*12+1+1+1+1+1 from rfl,show k*12+6=k*12+1+1+1+1+1+1 from rfl,show k*12+7=k*12+1+1+1+1+1+1+1 from rfl,show k*12+8=k*12+1+1+1+1+1+1+1+1 from rfl,show k*12+9=k*12+1+1+1+1+1+1+1+1+1 from rfl,show k*12+10=k*12+1+1+1+1+1+1+1+1+1+1 from rfl,show k*12+11=k*12+1+1+1+1+1+1+1+1+1+1+1 from rfl,e0,e1,e2,e3,e4,e5,e6,e7,e8,e9,e10,e11]
def zQd (xs:List DV):List Oq:=(List.range (xs.length / 12)).map fun k=>oqAt xs (k*12)
theorem zQG (l:List Oq):zQd (ops l)=l:=by
 have e:(ops l).length / 12=l.length:=by rw [zQC]; omega
 unfold zQd
 rw [e]
 refine List.ext_getElem (by simp) fun i h1 h2=>?_
 simp only [List.getElem_map,List.getElem_range]
 exact jY4 h2
def ctxB (l:List Oq):Bool:=match l.getLast? with
 | none=>true
 | some o=>o.iso && !o.kno
end Go.Proofs.YthjaljiamllaeaaGreatDoor
