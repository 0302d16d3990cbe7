/-
  Part 5 of what ScriptDecodeNeedsAllBytes rests on.
-/
import Derived.Test.YtlnfgagmiogkgaaScriptDecodeNeedsAllBytesZ4
import Derived.Test.YtlnfgagmiogkgaaScriptDecodeNeedsAllBytesZ2
import Derived.Tactics
import Derived.Tactics2
import Derived.WalkSmall
import Derived.Test.YtlnfgagmiogkgaaScriptDecodeNeedsAllBytesZ3
import Derived.Defers
import Derived.Recover
import Derived.Laws.Pointers
namespace Go.Proofs.Ytlnfgagmiogkgaa
open Go.RowKit
set_option linter.unusedVariables false
set_option linter.unusedSimpArgs false
def aheadOf (ops:Array Oper) (j:Nat):List Nat:=(List.range ops.size).filter fun i=>decide (i≠j) && !isBefore ops j i
def drawOK (ops:Array Oper) (j:Nat) (o:Oper) (τ:Nat→List Nat × List Nat):Bool:=
  o.guard.isNone && decide (j < ops.size) && ((List.range ops.size).all fun i=>(ops[i]?).any fun o=>o.after.all fun e=>!Region.binds .any e || decide (e.on < i)) &&
  (aheadOf ops j).all fun i=>decide ((τ i).2=[]) && (isBefore ops i j || (ops[i]?).all fun oi=>(o.looksAt ops).all fun t=>decide (oi.dst≠some t)) && (aheadOf ops j).all fun k=>decide (i≤k) || isBefore ops k i || indep ops τ k i
section
variable {P:Program} {Γ:Gam} {X:Pan} {n:Dom} {ch:List PanicEntry} {Z:Prop} {ops:Array Oper}
theorem runs_same {τ:Nat→List Nat × List Nat} {T:List Nat}:∀ {R:List Nat} {s s':AS},Runs P Γ n ops τ R s s'→(∀ i∈R,(τ i).2=[]∧∀ o,ops[i]?=some o→∀ t∈T,o.dst≠some t)→(∀ t∈T,s.tm t=s'.tm t)∧s.bx=s'.bx
  | [],s,s',h,_=>by
    have h:s=s':=h
    subst h
    exact ⟨fun _ _=>rfl,rfl⟩
  | i::R,s,s',⟨vc,s1,h1,_,h3,h4⟩,hh=>by
    obtain ⟨o,v,wrs,bs,ho,hw,hs1⟩:=astep_form h1
    obtain ⟨e1,e2⟩:=hh i (by simp)
    rw [h3,e1] at hw
    subst hw
    have hs:s1=s.put o.dst v:=by rw [hs1]; simp [AS.setBs]
    obtain ⟨g1,g2⟩:=runs_same h4 fun k hk=>hh k (by simp [hk])
    refine ⟨fun t ht=>?_,?_⟩
    · rw [← g1 t ht,hs,put_tm _ _ _ _ (e2 o ho t ht)]
    · rw [← g2,hs,put_bx]
theorem draws_bad {F:Fence} {m:Nat} (hF:Wide F) {τ:Nat→List Nat × List Nat} {j:Nat} {oj:Oper} (hoj:ops[j]?=some oj) (hok:drawOK ops j oj τ=true) {s':AS} {f:FuncId} {ys:List AV} {ins:List Bx} (hh:handsOver P Γ oj s'=some (f,ys,ins)) (hp:PanG P ch f ys ins)
    {w0:World} {S:Scope} {Q':Exit→Act→World→Prop} (hZ:∀ s' ι' a' w',RepS w0 S n s' ι' a' w'→Q' (.panic ch) a' w') :
    ∀ (fuel:Nat) (listed:Array Bool) (s:AS) (ι:Names) (a:Act) (w:World),Listed ops listed→listed.size=ops.size→listed.getD j true=false→(∀ i,i < ops.size→listed.getD i true=true→i∈aheadOf ops j)→((aheadOf ops j).filter fun i=>!listed.getD i true).length < fuel →
      Runs P Γ n ops τ ((aheadOf ops j).filter fun i=>!listed.getD i true) s s'→RepS w0 S n s ι a w→wpAnyIn F m P .any ops Q' fuel listed a w:=by
  simp only [drawOK,Bool.and_eq_true,List.all_eq_true,decide_eq_true_eq] at hok
  obtain ⟨⟨⟨hgu,hjlt⟩,hedge⟩,hL⟩:=hok
  have hready:∀ (listed:Array Bool) i,i∈Region.ready .any ops listed↔i < ops.size∧listed.getD i true=false∧((ops[i]?).map (·.after.all fun e=>!Region.binds .any e || listed.getD e.on false)).getD false=true:=by
    intro listed i
    simp [Region.ready,List.mem_filter]
  have hempty:∀ listed:Array Bool,listed.size=ops.size→Region.ready .any ops listed=[]→left ops listed=[]:=by
    intro listed hsz hr
    cases hl:left ops listed with
    | nil=>rfl
    | cons i R=>
      exfalso
      have hi:i∈left ops listed:=by rw [hl]; simp
      simp only [left,List.mem_filter,List.mem_range,Bool.not_eq_true'] at hi
      have hsorted:∀ j,j < i→listed.getD j true=true:=by
        intro j hj
        cases hjv:listed.getD j true with
        | true=>rfl
        | false=>
          exfalso
          have hjm:j∈left ops listed:=by
            simp only [left,List.mem_filter,List.mem_range,Bool.not_eq_true']
            exact ⟨by omega,hjv⟩
          have hp:(left ops listed).Pairwise (· < ·):=List.Pairwise.filter _ List.pairwise_lt_range
          rw [hl] at hjm hp
          rcases List.mem_cons.1 hjm with e | hm
          · omega
          · have:=(List.pairwise_cons.1 hp).1 j hm
            omega
      have:i∈Region.ready .any ops listed:=by
        rw [hready]
        refine ⟨hi.1,hi.2,?_⟩
        have h1:=hedge i (List.mem_range.2 hi.1)
        cases ho:ops[i]? with
        | none=>rw [ho] at h1; simp at h1
        | some o=>
          rw [ho] at h1
          simp only [Option.any_some,Option.map_some,Option.getD_some] at h1 ⊢
          rw [Array.all_eq_true_iff_forall_mem] at h1 ⊢
          intro e he
          have h2:=h1 e he
          simp only [Bool.or_eq_true,Bool.not_eq_true',decide_eq_true_eq] at h2 ⊢
          rcases h2 with h2 | h2
          · exact .inl h2
          · right
            have h3:=hsorted e.on h2
            have hlt:e.on < listed.size:=by omega
            simp [Array.getD,hlt] at h3 ⊢
            exact h3
      rw [hr] at this
      simp at this
  intro fuel
  induction fuel with
  | zero=>intro listed s ι a w _ _ _ _ hl; exact absurd hl (Nat.not_lt_zero _)
  | succ fuel ih=>
    intro listed s ι a w hcl hsz hj hsub hl hruns hr
    refine ⟨fun he=>?_,fun i hi=>?_⟩
    · exfalso
      have h0:=hempty listed hsz he
      have:j∈left ops listed:=by
        simp only [left,List.mem_filter,List.mem_range,Bool.not_eq_true']
        exact ⟨hjlt,hj⟩
      rw [h0] at this
      simp at this
    · rw [hready] at hi
      obtain ⟨hlt,hnl,haft⟩:=hi
      have hbef:∀ k,isBefore ops k i=true→listed.getD k false=true:=fun k hk=>by
        cases ho:ops[i]? with
        | none=>rw [ho] at haft; simp at haft
        | some o=>
          rw [ho] at haft
          simp only [Option.map_some,Option.getD_some] at haft
          exact before_listed ops hcl hsz i k o ho (fun e he hb=>by
            have:=Array.all_eq_true_iff_forall_mem.1 haft e (Array.mem_toList_iff.1 he)
            simpa [hb] using this) hk
      have hnot:∀ k,k < ops.size→listed.getD k true=false→isBefore ops k i=false:=fun k hk hkl=>by
        cases hb:isBefore ops k i with
        | false=>rfl
        | true=>
          exfalso
          have h4:=hbef k hb
          have hlt':k < listed.size:=by omega
          simp [Array.getD,hlt'] at h4 hkl
          rw [hkl] at h4; cases h4
      by_cases hij:i=j
      · subst hij
        have hsm:=runs_same (T:=oj.looksAt ops) hruns fun k hk=>by
          obtain ⟨hk1,hk2⟩:=List.mem_filter.1 hk
          have hkl:listed.getD k true=false:=by simpa using hk2
          obtain ⟨h1,_⟩:=hL k hk1
          have hks:k < ops.size:=by
            have:=(List.mem_filter.1 hk1).1
            exact List.mem_range.1 this
          refine ⟨h1.1,fun o ho t ht=>?_⟩
          have h2:=h1.2
          rw [hnot k hks hkl,ho] at h2
          simp only [Bool.false_or,Option.all_some,List.all_eq_true,decide_eq_true_eq] at h2
          exact h2 t ht
        have hh':handsOver P Γ oj s=some (f,ys,ins):=by
          rw [← hh]
          refine handsOver_congr (fun x hx=>?_) hsm.2
          cases x with
          | tmp t=>exact hsm.1 t (by simp only [Oper.looksAt,List.mem_append,List.mem_filterMap]; exact .inl ⟨_,by simpa using hx,rfl⟩)
          | const v=>rfl
          | global g=>rfl
          | func f=>rfl
        have hgv:gv ops s oj=some true:=by
          unfold gv
          cases hg:oj.guard with
          | none=>rfl
          | some x=>rw [hg] at hgu; cases hgu
        exact pan_wp hF hoj hgv hh' hp hr (fun s' ι' w' hr'=>hZ s' ι' a w' hr') _
      · have hiL:i∈aheadOf ops j:=by
          simp only [aheadOf,List.mem_filter,List.mem_range,Bool.and_eq_true,decide_eq_true_eq,Bool.not_eq_true']
          exact ⟨hlt,hij,hnot j hjlt hj⟩
        have hm:i∈(aheadOf ops j).filter fun i=>!listed.getD i true:=List.mem_filter.2 ⟨hiL,by rw [hnl]; rfl⟩
        obtain ⟨A,B,hAB⟩:=List.append_of_mem hm
        have hpw:((aheadOf ops j).filter fun i=>!listed.getD i true).Pairwise (· < ·):=List.Pairwise.filter _ (List.Pairwise.filter _ List.pairwise_lt_range)
        rw [hAB] at hpw
        have hA:∀ k∈A,k < i∧listed.getD k true=false∧k∈aheadOf ops j:=fun k hk=>by
          have hkm:k∈(aheadOf ops j).filter fun i=>!listed.getD i true:=by rw [hAB]; simp [hk]
          obtain ⟨h1,h2⟩:=List.mem_filter.1 hkm
          exact ⟨(List.pairwise_append.1 hpw).2.2 k hk i (by simp),by simpa using h2,h1⟩
        have hind:∀ k∈A,indep ops τ k i=true:=fun k hk=>by
          obtain ⟨h1,h2,h3⟩:=hA k hk
          have h4:=(hL i hiL).2 k h3
          rw [hnot k (List.mem_range.1 (List.mem_filter.1 h3).1) h2] at h4
          simp only [Bool.or_eq_true,decide_eq_true_eq,Bool.or_false] at h4
          rcases h4 with h4 | h4
          · omega
          · exact h4
        rw [hAB] at hruns
        obtain ⟨vc,s1,g1,g2,_,g4⟩:=front hind hruns
        have hset:∀ k,k≠i→(listed.setIfInBounds i true).getD k true=listed.getD k true:=fun k e=>by
          simp only [Array.getD_eq_getD_getElem?,Array.getElem?_setIfInBounds_ne (Ne.symm e)]
        have hseti:(listed.setIfInBounds i true).getD i true=true:=by simp [Array.getD,hsz,hlt]
        have hleft:((aheadOf ops j).filter fun k=>!(listed.setIfInBounds i true).getD k true)=A++B:=by
          have hnodup:((aheadOf ops j).filter fun i=>!listed.getD i true).Nodup:=((List.nodup_range).filter _).filter _
          have e1:((aheadOf ops j).filter fun k=>!(listed.setIfInBounds i true).getD k true)=((aheadOf ops j).filter fun i=>!listed.getD i true).filter fun k=>decide (k≠i):=by
            rw [List.filter_filter]
            apply List.filter_congr
            intro k hk
            by_cases e:k=i
            · subst e; rw [hseti]; simp
            · rw [hset k e]; simp [e]
          rw [e1,hAB,List.filter_append,List.filter_cons]
          rw [hAB] at hnodup
          have hn:=List.nodup_append.1 hnodup
          have hA':A.filter (fun k=>decide (k≠i))=A:=List.filter_eq_self.2 fun k hk=>by
            have:=(hA k hk).1
            simp; omega
          have hB':B.filter (fun k=>decide (k≠i))=B:=List.filter_eq_self.2 fun k hk=>by
            have:i≠k:=fun e=>by
              have:=(List.nodup_cons.1 hn.2.1).1
              exact this (by rw [e]; exact hk)
            simp; exact Ne.symm this
          rw [hA',hB']
          simp
        refine astep_sound hF g1 hr g2 fun ι' a' w' hr'=>?_
        have hcl2:Listed ops (listed.setIfInBounds i true):=by
          intro k ok hk hkl hks e he hb
          have hmono:∀ q,listed.getD q false=true→(listed.setIfInBounds i true).getD q false=true:=fun q hq=>by
            by_cases e':q=i
            · subst e'
              simp [Array.getD,hsz,hlt]
            · simp only [Array.getD_eq_getD_getElem?,Array.getElem?_setIfInBounds_ne (Ne.symm e')] at hq ⊢
              exact hq
          refine hmono _ ?_
          by_cases e':k=i
          · subst e'
            rw [hk] at haft
            simp only [Option.map_some,Option.getD_some] at haft
            have:=Array.all_eq_true_iff_forall_mem.1 haft e (Array.mem_toList_iff.1 he)
            simpa [hb] using this
          · have hkl':listed.getD k true=true:=by
              rw [hset k e'] at hkl; exact hkl
            exact hcl k ok hk hkl' (by simpa using hks) e he hb
        refine ih _ s1 ι' a' w' hcl2 (by simpa using hsz) (by rw [hset j (Ne.symm hij)]; exact hj) (fun k hk hkl=>?_) ?_ (by rw [hleft]; exact g4) hr'
        · by_cases e:k=i
          · subst e; exact hiL
          · rw [hset k e] at hkl; exact hsub k hk hkl
        · rw [hleft]
          have:((aheadOf ops j).filter fun i=>!listed.getD i true).length=(A++B).length+1:=by rw [hAB]; simp; omega
          omega
end
section
variable (P:Program) (Γ:Gam) (X:Pan) (n:Dom) (ch:List PanicEntry) (Z:Prop)
def mays (ops:Array Oper):List Nat:=(List.range ops.size).filter fun i=>(ops[i]?).any (mayOp X)
def xReg (ops:Array Oper) (draw:Bool) (ann:Ann) (kn:Kn) (s:AS) (Q:AExit→Kn→AS→Prop):Prop:=
  match mays X ops with
  | []=>vcReg P Γ n ops ann kn s fun kn' s' acc=>match draw with
    | true=>regOK ops (fun i=>acc.reverse.getD i ([],[]))=true∧Q .normal kn' s'
    | false=>Q .normal kn' s'
  | js=>match draw with
    | false=>xRun P Γ X n ch Z ops (List.range ops.size) kn s [] fun kn' s' _=>Q .normal kn' s'
    | true=>match js with
      | [j]=>match ops[j]? with
        | some o=>vcRun P Γ n ops (aheadOf ops j) kn s [] fun _ s' acc=>drawOK ops j o (fun i=>acc.reverse.getD (posOf (aheadOf ops j) i) ([],[]))=true ∧
            panC P Γ X ch Z o s' (vcRun P Γ n ops (List.range ops.size) kn s [] fun kn' s' acc=>regOK ops (fun i=>acc.reverse.getD i ([],[]))=true∧Q .normal kn' s')
        | none=>False
      | _=>False
end
section
variable {P:Program} {Γ:Gam} {X:Pan} {n:Dom} {ch:List PanicEntry} {Z:Prop} {ops:Array Oper}
theorem xReg_wp {F:Fence} (hF:Wide F) {m id:Nat} {draw:Bool} {ann:Ann} {kn:Kn} {s:AS} {Q:AExit→Kn→AS→Prop} (hm:P.follows .mixedOrders=true) (h:xReg P Γ X n ch Z ops draw ann kn s Q) (hk:KnOK kn s) {w0:World} {S:Scope} {ι:Names} {a:Act} {w:World}
    (hr:RepS w0 S n s ι a w) {Q':Exit→Act→World→Prop} (hZ:Z→∀ s' ι' a' w',RepS w0 S n s' ι' a' w'→Q' (.panic ch) a' w')
    (hQ:∀ e kn' s' ι' a' w',Q e kn' s'→KnOK kn' s'→RepS w0 S n s' ι' a' w'→Q' e.exit_ a' w'):(Code.region id ops draw).wpIn F m P Q' a w:=by
  unfold xReg at h
  split at h
  · exact vcRun_wp hF hm (vcReg_run h) hk hr hQ
  · split at h
    · exact wpIn_region (xRun_ops hF hZ h hk hr fun kn' s' _ ι' a' w' hq hk' hr'=>hQ .normal kn' s' ι' a' w' hq hk' hr')
    · split at h
      · rename_i _ j _
        split at h
        · rename_i o ho
          obtain ⟨kn',s',ts,h1,h2,h3,h4⟩:=vcRun_runs h hk
          obtain ⟨hok,h1⟩:=h1
          unfold panC at h1
          split at h1
          · rename_i f ys ins hh
            split at h1
            · rename_i c hc
              by_cases hcc:c
              · exact vcRun_wp (draw:=true) hF hm (h1.2 hcc) hk hr hQ
              · have hnd:(aheadOf ops j).Nodup:=(List.nodup_range).filter _
                have hruns:=h4 (fun i=>(ts.reverse++[]).reverse.getD (posOf (aheadOf ops j) i) ([],[])) fun k i hi=>by
                  obtain ⟨hkl,hki⟩:=List.getElem?_eq_some_iff.1 hi
                  have:posOf (aheadOf ops j) i=k:=by
                    rw [← hki,← getD_at _ 0 hkl]
                    exact at_posOf hnd hkl
                  simp [this]
                refine wpIn_region_any hm ?_
                have hr1:RepS w0 S n s ι a { w with drawn:=w.drawn+1 }:=hr.quiet ⟨hr.bel.os,hr.bel.tape,hr.bel.output,hr.bel.size,hr.bel.block⟩ rfl
                have hjs:j < ops.size:=(Array.getElem?_eq_some_iff.1 ho).1
                have hrep:∀ i,i < ops.size→(Array.replicate ops.size false).getD i true=false:=fun i hi=>by simp [Array.getD,hi]
                have hfil:((aheadOf ops j).filter fun i=>!(Array.replicate ops.size false).getD i true)=aheadOf ops j:=by
                  rw [List.filter_eq_self]
                  intro i hi
                  rw [hrep i (List.mem_range.1 (List.mem_filter.1 hi).1)]
                  rfl
                refine draws_bad hF ho hok hh (h1.1 hcc).1 (hZ (h1.1 hcc).2) ops.size _ s ι a _ (fun i o ho hl hs=>?_) (by simp) (hrep j hjs) (fun i hi hl=>?_) ?_ (by rw [hfil]; exact hruns) hr1
                · have:i < ops.size:=by simpa using hs
                  simp [Array.getD,this] at hl
                · rw [hrep i hi] at hl; cases hl
                · rw [hfil]
                  have:(aheadOf ops j).length < (List.range ops.size).length:=List.length_filter_lt_length_iff_exists.2 ⟨j,List.mem_range.2 hjs,by simp⟩
                  simpa using this
            · exact h1.elim
          · exact h1.elim
        · exact h.elim
      · exact h.elim
end
def xcg (P:Program) (Γ:Gam) (X:Pan) (ch:List PanicEntry) (Z:Prop):Dom→Code→Ann→Kn→AS→(AExit→Kn→AS→Prop)→Prop
  | _,.skip,_,kn,s,Q=>Q .normal kn s
  | _,.label _,_,kn,s,Q=>Q .normal kn s
  | _,.exit id,_,kn,s,Q=>Q (.exit id) kn s
  | _,.ret,_,kn,s,Q=>Q .ret kn s
  | n,.region _ ops draw,ann,kn,s,Q=>xReg P Γ X n ch Z ops draw ann kn s Q
  | n,.seq x y,ann,kn,s,Q=>match ann with
    | .cut I a b=>xcg P Γ X ch Z n x a kn s (fun e kn' s'=>match e with
        | .normal=>∃ z,I.ok z∧fits n s' (I.st z)
        | e=>Q e kn' s')∧∀ z,I.ok z→xcg P Γ X ch Z n y (b z) kn0 (I.st z).as Q
    | .ice bs ts a b=>xcg P Γ X ch Z n x a kn s fun e kn' s'=>match e with
        | .normal=>xcg P Γ X ch Z n y b kn' (melts (ices s' bs) ts) Q
        | e=>Q e kn' s'
    | ann=>xcg P Γ X ch Z n x ann.l kn s fun e kn' s'=>match e with
        | .normal=>xcg P Γ X ch Z n y ann.r kn' s' Q
        | e=>Q e kn' s'
  | n,.cond c x y,ann,kn,s,Q=>match ann with
    | .sure b a=>match (s.eval c).bool? with
      | some b'=>b'=b∧match b with
        | true=>xcg P Γ X ch Z n x a kn s Q
        | false=>xcg P Γ X ch Z n y a kn s Q
      | none=>False
    | ann=>match kx kn c with
      | some true=>xcg P Γ X ch Z n x ann.l kn s Q
      | some false=>xcg P Γ X ch Z n y ann.r kn s Q
      | none=>match (s.eval c).bool? with
        | some b=>(b=true→xcg P Γ X ch Z n x ann.l kn s Q)∧(b=false→xcg P Γ X ch Z n y ann.r kn s Q)
        | none=>False
  | n,.block id c,ann,kn,s,Q=>xcg P Γ X ch Z n c ann kn s fun e kn' s'=>match e with
    | .exit id'=>match decide (id'=id) with
      | true=>Q .normal kn' s'
      | false=>Q (.exit id') kn' s'
    | e=>Q e kn' s'
  | n,.loop c,ann,kn,s,Q=>match ann with
    | .loop I a=>(∃ z,I.ok z∧fits n s (I.st z))∧∀ z,I.ok z→xcg P Γ X ch Z n c (a z) kn0 (I.st z).as fun e kn' s'=>match e with
        | .normal=>∃ y,I.ok y∧I.μ y < I.μ z∧fits n s' (I.st y)
        | e=>Q e kn' s'
    | .link I a next=>linkIn n (.link I a next) s∧linkVC n (xcg P Γ X ch Z n c) Q (.link I a next)
    | _=>False
  | _,_,_,_,_,_=>False
section
variable {P:Program} {Γ:Gam} {X:Pan} {ch:List PanicEntry} {Z:Prop}
def SoundX (P:Program) (ch:List PanicEntry) (Z:Prop) (f:VCF) (c:Code):Prop:=
  ∀ (n:Dom) (ann:Ann) (kn:Kn) (s:AS) (Q:AExit→Kn→AS→Prop),f n ann kn s Q→KnOK kn s→∀ (F:Fence),Wide F→(n.round=false→F=Fence.wide) →
    ∀ (w0:World) (S:Scope) (ι:Names) (a:Act) (w:World),RepS w0 S n s ι a w→∀ (m:Nat) (Q':Exit→Act→World→Prop),
    (Z→∀ s' ι' a' w',RepS w0 S n s' ι' a' w'→Q' (.panic ch) a' w') →
    (∀ e kn' s' ι' a' w',Q e kn' s'→KnOK kn' s'→RepS w0 S n s' ι' a' w'→Q' e.exit_ a' w')→c.wpIn F m P Q' a w
theorem link_soundX {f:VCF} {c:Code} (ih:SoundX P ch Z f c) {n:Dom} {ann:Ann} {s:AS} {Q:AExit→Kn→AS→Prop} (h1:linkIn n ann s) (h2:linkVC n (f n) Q ann) {F:Fence} (hF:Wide F) (hR:n.round=false→F=Fence.wide)
    {w0:World} {S:Scope} {ι:Names} {a:Act} {w:World} (hr:RepS w0 S n s ι a w) {m:Nat} {Q':Exit→Act→World→Prop} (hZ:Z→∀ s' ι' a' w',RepS w0 S n s' ι' a' w'→Q' (.panic ch) a' w')
    (hQ:∀ e kn' s' ι' a' w',Q e kn' s'→KnOK kn' s'→RepS w0 S n s' ι' a' w'→Q' e.exit_ a' w'):(Code.loop c).wpIn F m P Q' a w:=by
  refine wpIn_loop_ghost (fun k a w=>∃ ann s ι,linkLen ann=k∧linkIn n ann s∧linkVC n (f n) Q ann∧RepS w0 S n s ι a w) (linkLen ann) ⟨ann,s,ι,rfl,h1,h2,hr⟩ fun k a w hI=>?_
  obtain ⟨ann,s,ι,rfl,h1,h2,hr⟩:=hI
  cases ann <;> first | exact h1.elim | skip
  rename_i I b next
  obtain ⟨z,hz,hf⟩:=h1
  obtain ⟨ι2,hr2⟩:=hr.fit hf
  simp only [linkVC] at h2
  refine ih n (b z) kn0 _ _ (h2.1 z hz) (kn0_ok _) F hF hR w0 S ι2 a w hr2 m _ (fun hz s' ι' a' w' hr'=>hZ hz s' ι' a' w' hr') fun e kn' s' ι' a' w' hq hk' hr'=>?_
  cases e with
  | normal=>exact ⟨linkLen next,by simp [linkLen],next,s',ι',rfl,hq,h2.2,hr'⟩
  | exit id=>exact hQ (.exit id) kn' s' ι' a' w' hq hk' hr'
  | ret=>exact hQ .ret kn' s' ι' a' w' hq hk' hr'
theorem xcg_sound (hm:P.follows .mixedOrders=true):∀ (c:Code),SoundX P ch Z (fun n=>xcg P Γ X ch Z n c) c
  | .skip,n,_,kn,s,Q,h,hk,F,hF,hR,w0,S,ι,a,w,hr,m,Q',hZ,hQ=>wpIn_skip (hQ .normal kn s ι a w h hk hr)
  | .label _,n,_,kn,s,Q,h,hk,F,hF,hR,w0,S,ι,a,w,hr,m,Q',hZ,hQ=>wpIn_label (hQ .normal kn s ι a w h hk hr)
  | .exit id,n,_,kn,s,Q,h,hk,F,hF,hR,w0,S,ι,a,w,hr,m,Q',hZ,hQ=>wpIn_exit (hQ (.exit id) kn s ι a w h hk hr)
  | .ret,n,_,kn,s,Q,h,hk,F,hF,hR,w0,S,ι,a,w,hr,m,Q',hZ,hQ=>wpIn_ret (hQ .ret kn s ι a w h hk hr)
  | .region id ops draw,n,_,kn,s,Q,h,hk,F,hF,hR,w0,S,ι,a,w,hr,m,Q',hZ,hQ=>xReg_wp hF hm h hk hr hZ hQ
  | .seq x y,n,ann,kn,s,Q,h,hk,F,hF,hR,w0,S,ι,a,w,hr,m,Q',hZ,hQ=>by
    simp only [xcg] at h
    refine wpIn_seq ?_
    split at h
    · rename_i I a' b
      obtain ⟨h1,h2⟩:=h
      refine xcg_sound hm x n a' kn s _ h1 hk F hF hR w0 S ι a w hr m _ (fun hz s' ι' a' w' hr'=>hZ hz s' ι' a' w' hr') fun e kn' s' ι' a' w' hq hk' hr'=>?_
      cases e with
      | normal=>
        obtain ⟨z,hz,hf⟩:=hq
        obtain ⟨ι2,hr2⟩:=hr'.fit hf
        exact xcg_sound hm y n (b z) kn0 _ Q (h2 z hz) (kn0_ok _) F hF hR w0 S ι2 a' w' hr2 m Q' hZ hQ
      | exit id=>exact hQ (.exit id) kn' s' ι' a' w' hq hk' hr'
      | ret=>exact hQ .ret kn' s' ι' a' w' hq hk' hr'
    · rename_i bs ts a' b
      refine xcg_sound hm x n a' kn s _ h hk F hF hR w0 S ι a w hr m _ (fun hz s' ι' a' w' hr'=>hZ hz s' ι' a' w' hr') fun e kn' s' ι' a' w' hq hk' hr'=>?_
      cases e with
      | normal=>exact xcg_sound hm y n b kn' (Go.Proofs.Ytlnfgagmiogkgaa.melts (Go.Proofs.Ytlnfgagmiogkgaa.ices s' bs) ts) Q hq (melts_kn ts fun t b hb=>by rw [ices_tm]; exact hk' t b hb) F hF hR w0 S ι' a' w' ((hr'.ices bs).melts ts) m Q' hZ hQ
      | exit id=>exact hQ (.exit id) kn' s' ι' a' w' hq hk' hr'
      | ret=>exact hQ .ret kn' s' ι' a' w' hq hk' hr'
    · refine xcg_sound hm x n ann.l kn s _ h hk F hF hR w0 S ι a w hr m _ (fun hz s' ι' a' w' hr'=>hZ hz s' ι' a' w' hr') fun e kn' s' ι' a' w' hq hk' hr'=>?_
      cases e with
      | normal=>exact xcg_sound hm y n ann.r kn' s' Q hq hk' F hF hR w0 S ι' a' w' hr' m Q' hZ hQ
      | exit id=>exact hQ (.exit id) kn' s' ι' a' w' hq hk' hr'
      | ret=>exact hQ .ret kn' s' ι' a' w' hq hk' hr'
  | .cond c x y,n,ann,kn,s,Q,h,hk,F,hF,hR,w0,S,ι,a,w,hr,m,Q',hZ,hQ=>by
    simp only [xcg] at h
    split at h
    · rename_i b a'
      split at h
      · rename_i b' hc
        obtain ⟨rfl,h⟩:=h
        cases b' with
        | true=>exact wpIn_cond_true (rep_bool (hr.eval c) hc) (xcg_sound hm x n a' kn s Q h hk F hF hR w0 S ι a w hr m Q' hZ hQ)
        | false=>exact wpIn_cond_false (rep_bool (hr.eval c) hc) (xcg_sound hm y n a' kn s Q h hk F hF hR w0 S ι a w hr m Q' hZ hQ)
      · exact h.elim
    split at h
    · rename_i hc
      exact wpIn_cond_true (rep_bool (hr.eval c) (kx_ok hk hc)) (xcg_sound hm x n ann.l kn s Q h hk F hF hR w0 S ι a w hr m Q' hZ hQ)
    · rename_i hc
      exact wpIn_cond_false (rep_bool (hr.eval c) (kx_ok hk hc)) (xcg_sound hm y n ann.r kn s Q h hk F hF hR w0 S ι a w hr m Q' hZ hQ)
    · split at h
      · rename_i b hc
        exact wpIn_cond_split (rep_bool (hr.eval c) hc) (fun hb=>xcg_sound hm x n ann.l kn s Q (h.1 hb) hk F hF hR w0 S ι a w hr m Q' hZ hQ) (fun hb=>xcg_sound hm y n ann.r kn s Q (h.2 hb) hk F hF hR w0 S ι a w hr m Q' hZ hQ)
      · exact h.elim
  | .block id c,n,ann,kn,s,Q,h,hk,F,hF,hR,w0,S,ι,a,w,hr,m,Q',hZ,hQ=>by
    simp only [xcg] at h
    refine wpIn_block (xcg_sound hm c n ann kn s _ h hk F hF hR w0 S ι a w hr m _ (fun hz s' ι' a' w' hr'=>hZ hz s' ι' a' w' hr') fun e kn' s' ι' a' w' hq hk' hr'=>?_)
    cases e with
    | normal=>exact hQ .normal kn' s' ι' a' w' hq hk' hr'
    | exit id'=>
      simp only at hq
      simp only [AExit.exit_,Exit.inBlock]
      by_cases e:id'=id
      · rw [if_pos e]
        simp only [e,decide_true] at hq
        exact hQ .normal kn' s' ι' a' w' hq hk' hr'
      · rw [if_neg e]
        simp only [e,decide_false] at hq
        exact hQ (.exit id') kn' s' ι' a' w' hq hk' hr'
    | ret=>exact hQ .ret kn' s' ι' a' w' hq hk' hr'
  | .loop c,n,ann,kn,s,Q,h,hk,F,hF,hR,w0,S,ι,a,w,hr,m,Q',hZ,hQ=>by
    simp only [xcg] at h
    split at h
    · rename_i I a'
      obtain ⟨⟨z,hz,hf⟩,h2⟩:=h
      obtain ⟨ι2,hr2⟩:=hr.fit hf
      refine wpIn_loop_ghost (fun m a w=>∃ z ι,I.ok z∧I.μ z=m∧RepS w0 S n (I.st z).as ι a w) (I.μ z) ⟨z,ι2,hz,rfl,hr2⟩ fun k a w hI=>?_
      obtain ⟨z,ι,hz,rfl,hr⟩:=hI
      refine xcg_sound hm c n (a' z) kn0 _ _ (h2 z hz) (kn0_ok _) F hF hR w0 S ι a w hr m _ (fun hz s' ι' a' w' hr'=>hZ hz s' ι' a' w' hr') fun e kn' s' ι' a' w' hq hk' hr'=>?_
      cases e with
      | normal=>
        obtain ⟨y,hy,hlt,hf⟩:=hq
        obtain ⟨ι3,hr3⟩:=hr'.fit hf
        exact ⟨I.μ y,hlt,y,ι3,hy,rfl,hr3⟩
      | exit id=>exact hQ (.exit id) kn' s' ι' a' w' hq hk' hr'
      | ret=>exact hQ .ret kn' s' ι' a' w' hq hk' hr'
    · exact link_soundX (f:=fun n=>xcg P Γ X ch Z n c) (xcg_sound hm c) h.1 h.2 hF hR hr hZ hQ
    · exact h.elim
  | .rangeFunc _ _ _ _,_,_,_,_,_,h,_,_,_,_,_,_,_,_,_,_,_,_,_,_=>by simp only [xcg] at h
  | .scope _,_,_,_,_,_,h,_,_,_,_,_,_,_,_,_,_,_,_,_,_=>by simp only [xcg] at h
  | .goto _,_,_,_,_,_,h,_,_,_,_,_,_,_,_,_,_,_,_,_,_=>by simp only [xcg] at h
  | .refuse _,_,_,_,_,_,h,_,_,_,_,_,_,_,_,_,_,_,_,_,_=>by simp only [xcg] at h
end
theorem leaves_pan {F:Fence} {m:Nat} {P:Program} {fn:Func} {R:Ending→World→Prop} {ch:List PanicEntry} {w0:World} {n:Dom} {s:AS} {ι:Names} {tmps:Array Value}:∀ (ds:List Deferred) (S:Scope) (w:World),RepS w0 S n s ι { tmps:=tmps,defers:=ds } w→S.ref.heap.size≤w0.heap.size →
    (∀ w',RepS w0 S n s ι { tmps:=tmps,defers:=[] } w'→R (.panicked ch) w')→LeavesInM F m P fn tmps R ds (.panicking ch) w
  | [],S,w,h,_,hR=>hR w h
  | d::ds,S,w,h,href,hR=>by
    obtain ⟨D,rfl,h1,h2⟩:=h.marks.2 d (by simp)
    have hlt:D < w.heap.size:=(Array.getElem?_eq_some_iff.1 h2).1
    refine ⟨by simp,.inl ⟨D,w.putObj D (.deferred none),rfl,run_takeDeferred h2,leaves_pan ds S _ ?_ href hR⟩⟩
    have hg:=grownBy_putObj' w D (.deferred none)
    refine h.turn hg (fun r e=>by cases e; exact ⟨h1,_,h2,rfl⟩) (ds:=ds) ⟨(List.pairwise_cons.1 h.marks.1).2,fun d' hd'=>?_⟩ (ref:=S.ref) (keeps_turn h.oth hg (fun r e=>by cases e; exact h1) href)
    obtain ⟨D',rfl,q1,q2⟩:=h.marks.2 d' (by simp [hd'])
    have hne:D'≠D:=fun e=>(List.pairwise_cons.1 h.marks.1).1 _ hd' (by rw [e])
    exact ⟨D',rfl,q1,(World.putObj_heap_other hne).trans q2⟩
theorem pans_of_xcg {P:Program} {Γ:Gam} {X:Pan} {ch:List PanicEntry} {f:FuncId} {fn:Func} {pin:Nat} {args:List AV} {ins:List Bx} {r:Ret} {c:Prop} (ann:Ann) (hm:P.follows .mixedOrders=true) (hf:P.funcs[f]?=some fn) (hb:fn.body.isSome=true) (hl:args.length≤fn.ntmps)
    (hp:(List.range pin).all (fun b=>(boxes ins b).known)=true)
    (h:AV.wfL args→Bx.wfL ins→xcg P Γ X ch (¬ c) ⟨fn.ntmps,fun _=>false,List.range pin,false⟩ (bodyOf fn) ann kn0 (startG args ins) fun e kn s=>c∧postG P ⟨fn.ntmps,fun _=>false,List.range pin,false⟩ fn.results.toList r e kn s) :
    (c→AnsG P f pin args ins r)∧(¬ c→PanG P ch f args ins):=by
  have key:∀ (w:World) (S:Nat→Prop) (ι:Names) (vs:Array Value),GlobOK w S→Handed_ w S ι args ins vs.toList →
      Calls P f vs w fun ed w'=>(c∧∃ v ι',ed=.returned v∧After w S ι pin ins r w' ι' v)∨(¬ c∧ed=.panicked ch∧Bel (OwnB (boxes ins) ι) w w'):=by
    intro w S ι vs hgl hh
    have hv:=h hh.args.wf (wfs_at fun b=>(hh.bx b).wf)
    have hr:=start_repG (fn:=fn) hl hp hgl hh
    refine callsIn_wide.1 (callsIn_of_wp_marks (F:=Fence.wide) (n:=1) hf (bodyOf_eq hb) trivial ?_)
    refine xcg_sound hm (bodyOf fn) _ ann kn0 _ _ hv (kn0_ok _) Fence.wide (.inl rfl) (fun _=>rfl) w _ ι _ w hr 1 _ (fun hz s' ι' a' w' hr'=>?_) fun e kn' s' ι' a' w' hq hk' hr'=>?_
    · exact leaves_pan a'.defers _ w' hr' (Nat.le_refl _) fun w'' h''=>.inr ⟨hz,rfl,h''.bel⟩
    · have done:∀ e',postG P ⟨fn.ntmps,fun _=>false,List.range pin,false⟩ fn.results.toList r e' kn' s'→(e'=.normal∨e'=.ret)→LeavesInM Fence.wide 1 P fn a'.tmps (fun ed w'=>(c∧∃ v ι',ed=.returned v∧After w S ι pin ins r w' ι' v)∨(¬ c∧ed=.panicked ch∧Bel (OwnB (boxes ins) ι) w w')) a'.defers .returning w':=fun e' hq' he'=>
        leaves_of a'.defers _ w' hr' (Nat.le_refl _) fun w'' h''=>by
          have hq2:postG P ⟨fn.ntmps,fun _=>false,List.range pin,false⟩ fn.results.toList r .ret kn' s':=by rcases he' with rfl | rfl <;> exact hq'
          obtain ⟨v,h1,v2,ι2,h2,h3⟩:=ret_afterG h'' hq2
          exact ⟨v,h1,.inl ⟨hq.1,v2,ι2,h2,h3⟩⟩
      cases e with
      | normal=>exact done .normal hq.2 (.inl rfl)
      | ret=>exact done .ret hq.2 (.inr rfl)
      | exit id=>exact hq.2.elim
  refine ⟨fun hc w S ι vs hgl hh=>(key w S ι vs hgl hh).mono fun ed w' hq=>?_,fun hc w S ι vs hgl hh=>(key w S ι vs hgl hh).mono fun ed w' hq=>?_⟩
  · rcases hq with ⟨_,h⟩ | ⟨h,_⟩
    · exact h
    · exact absurd hc h
  · rcases hq with ⟨h,_⟩ | ⟨_,h⟩
    · exact absurd h hc
    · exact h
def chM:List PanicEntry:=chainOf (.iface 94 (.agg #[]))
set_option maxRecDepth 100000 in
theorem demand_yes (w:World):Calls Try.prog 45 #[.bool true] w fun e w'=>e=.returned (.tuple #[])∧w'=w:=by
  go_enter Try.func45,Try.ntmps45
  go_wp2
  simp [bodyPost,Leaves,settle,results,Try.results45,go_sem]
set_option maxRecDepth 100000 in
theorem demand_no (w:World):Calls Try.prog 45 #[.bool false] w fun e w'=>e=.panicked chM∧w'=w:=by
  go_enter Try.func45,Try.ntmps45
  go_wp2
  simp [bodyPost,Leaves,chM,chainOf]
theorem script_demand_ans (b:Bool):((b=true)→AnsG Try.prog 45 0 [AV.one (Cl.d (DV.bool b))] [] ⟨AV.tup [],[],false⟩)∧((¬ (b=true))→PanG Try.prog chM 45 [AV.one (Cl.d (DV.bool b))] []):=by
  have hv:∀ {w:World} {S:Nat→Prop} {ι:Names} {vs:Array Value},Handed_ w S ι [AV.one (Cl.d (DV.bool b))] [] vs.toList→vs=#[.bool b]:=fun {w S ι vs} hh=>by
    obtain ⟨l⟩:=vs
    have ha:=hh.args
    match l,ha with
    | [v],ha=>
      simp only [RepAVs,RepAV,RepCl,RepD,and_true] at ha
      rw [ha]
  refine ⟨fun hb w S ι vs _ hh=>?_,fun hb w S ι vs _ hh=>?_⟩
  · rw [hv hh,hb]
    refine (demand_yes w).mono ?_
    rintro e w' ⟨rfl,rfl⟩
    exact ⟨.tuple #[],ι,rfl,by simp only [RepAV]; exact ⟨_,rfl,by simp only [RepAVs]⟩,fun b=>by simp [boxes,RepBx],fun b g c hl=>by simp [boxes,Bx.live] at hl,fun b b' g c c' hl=>by simp [boxes,Bx.live] at hl,fun b hb=>absurd hb (Nat.not_lt_zero b),Bel.refl _ _⟩
  · have hb:b=false:=by simpa using hb
    rw [hv hh,hb]
    refine (demand_no w).mono ?_
    rintro e w' ⟨rfl,rfl⟩
    exact ⟨rfl,Bel.refl _ _⟩
end Go.Proofs.Ytlnfgagmiogkgaa
namespace Go.Proofs.Ytlnfgagmiogkgaa
open Go.RowKit
set_option linter.unusedVariables false
set_option linter.unusedSimpArgs false
attribute [local irreducible] Ans AnsO AnsG AnsN AnsI
set_option maxRecDepth 4000
def tkV (n:Nat) (l:List Int):Int:=(l.take n).foldl (fun v c=>v*256+c) 0
theorem tkV_zero (l:List Int):tkV 0 l=0:=by simp [tkV]
theorem tkV_succ {k:Nat} {l:List Int} (h:k < l.length):tkV (k+1) l=tkV k l*256+l[k]:=by
  unfold tkV
  rw [List.take_succ_eq_append_getElem h,List.foldl_append]
  rfl
def isB (l:List Int):Prop:=∀ v∈l,0≤v∧v≤255
theorem isB_of {l:List Int} (h:DV.wfs (u8s l)):isB l:=fun v hv=>(wfs_iff _).1 h _ (List.mem_map.2 ⟨v,hv,rfl⟩)
theorem isB.drop {l:List Int} (h:isB l) (k:Nat):isB (l.drop k):=fun v hv=>h v (List.mem_of_mem_drop hv)
theorem tkV_in {l:List Int} (h:isB l):∀ k,k≤l.length→0≤tkV k l∧tkV k l < 256 ^ k
  | 0,_=>by rw [tkV_zero]; decide
  | k+1,hk=>by
    have:=tkV_in h k (by omega)
    have h2:=h l[k] (List.getElem_mem (by omega))
    rw [tkV_succ (by omega),Int.pow_succ]
    omega
theorem or8 {x y:Nat} (hx:x < 281474976710656) (hy:y < 256):(BitVec.ofInt 64 ((x:Int)*256) ||| BitVec.ofInt 64 (y:Int)).toNat=x*256+y:=by
  have e1:(BitVec.ofInt 64 ((x:Int)*256)).toNat=x*256:=by rw [BitVec.toNat_ofInt]; omega
  have e2:(BitVec.ofInt 64 (y:Int)).toNat=y:=by rw [BitVec.toNat_ofInt]; omega
  rw [BitVec.toNat_or,e1,e2]
  have:=Nat.shiftLeft_add_eq_or_of_lt (i:=8) hy x
  rw [Nat.shiftLeft_eq] at this
  exact this.symm
theorem or8I {v c:Int} (hv:0≤v∧v < 4294967296) (hc:0≤c∧c≤255):IntKind.wrap .i64 (((BitVec.ofInt 64 (IntKind.wrap .i64 (v*2 ^ min (Int.toNat 8) 64)) ||| BitVec.ofInt 64 (IntKind.wrap .i64 c)).toNat:Nat):Int)=v*256+c:=by
  have e:(2:Int) ^ min (Int.toNat 8) 64=256:=by decide
  obtain ⟨x,rfl⟩:=Int.eq_ofNat_of_zero_le hv.1
  obtain ⟨y,rfl⟩:=Int.eq_ofNat_of_zero_le hc.1
  rw [e,IntWalk.i64_in ((x:Int)*256) ⟨by omega,by omega⟩,IntWalk.i64_in (y:Int) ⟨by omega,by omega⟩,or8 (by omega) (by omega),IntWalk.i64_in _ ⟨by omega,by omega⟩]
  omega
theorem u8s_rd {l:List Int} {k:Nat} (h:k < l.length):(u8s l)[k]?=some (.int .u8 l[k])∧nAt (u8s l) k=l[k]:=by
  have:(u8s l)[k]?=some (.int .u8 l[k]):=by simp [u8s,List.getElem?_eq_getElem h]
  exact ⟨this,by simp [nAt,this]⟩
theorem u8s_take (l:List Int) (k:Nat):(u8s l).take k=u8s (l.take k):=by simp [u8s,List.map_take]
theorem u8s_drop (l:List Int) (k:Nat):(u8s l).drop k=u8s (l.drop k):=by simp [u8s,List.map_drop]
def sgV (l:List Int):Int:=IntKind.wrap .i64 (IntKind.wrap .i32 (tkV 4 l))
def cntOk (n size:Nat) (l:List Int):Prop:=n≤l.length∧tkV n l≤(((l.length - n) / size:Nat):Int)
def rdPx (l:List Int):Px:=⟨tkV 2 (l.drop 0),tkV 2 (l.drop 2),tkV 2 (l.drop 4),tkV 2 (l.drop 6),tkV 2 (l.drop 8)⟩
def rdOp (l:List Int):Oq:=⟨tkV 1 (l.drop 0),tkV 1 (l.drop 1),sgV (l.drop 2),sgV (l.drop 6),tkV 1 (l.drop 10),sgV (l.drop 11),sgV (l.drop 15),tkV 2 (l.drop 19),tkV 1 (l.drop 21),tkV 1 (l.drop 22),decide (tkV 1 (l.drop 23) % 2=1),decide (tkV 1 (l.drop 23) / 2 % 2=1)⟩
def opWhen (l:List Int):Prop:=24≤l.length∧tkV 1 (l.drop 23)≤3
def gamDa:Gam where
 pure:=fun f xs=>
  none
 modes:=fun f=>
  if f=45 then some ([true],0,0) else
  if f=72 then some ([false,true],1,0) else
  if f=73 then some ([false],1,0) else
  if f=74 then some ([false,true,true],1,0) else
  if f=88 then some ([false],1,0) else
  none
 proc:=fun f xs bs=>
  if f=45 then (match xs,bs with | [AV.one (Cl.d (DV.bool b_))],[]=>some ⟨AV.tup [],[],false⟩ | _,_=>none) else
  if f=72 then (match xs,bs with | [AV.one (Cl.ptr 0 0),AV.one (Cl.d (DV.int _ n))],[Bx.cells [Cl.d (DV.sl bn bxs)]]=>some ⟨AV.one (cJ ((tkV n.toNat (ints bxs)))),[Bx.cells [Cl.d (DV.sl (((ints bxs).drop n.toNat).length) (u8s ((ints bxs).drop n.toNat)))]],false⟩ | _,_=>none) else
  if f=73 then (match xs,bs with | [AV.one (Cl.ptr 0 0)],[Bx.cells [Cl.d (DV.sl bn bxs)]]=>some ⟨AV.one (cJ ((sgV (ints bxs)))),[Bx.cells [Cl.d (DV.sl (((ints bxs).drop 4).length) (u8s ((ints bxs).drop 4)))]],false⟩ | _,_=>none) else
  if f=74 then (match xs,bs with | [AV.one (Cl.ptr 0 0),AV.one (Cl.d (DV.int _ n)),AV.one (Cl.d (DV.int _ size))],[Bx.cells [Cl.d (DV.sl bn bxs)]]=>some ⟨AV.one (cJ ((tkV n.toNat (ints bxs)))),[Bx.cells [Cl.d (DV.sl (((ints bxs).drop n.toNat).length) (u8s ((ints bxs).drop n.toNat)))]],false⟩ | _,_=>none) else
  if f=88 then (match xs,bs with | [AV.one (Cl.ptr 0 0)],[Bx.cells [Cl.d (DV.sl bn bxs)]]=>some ⟨AV.agg [cK (((rdPx (ints bxs)).a)),cK (((rdPx (ints bxs)).b)),cK (((rdPx (ints bxs)).c)),cK (((rdPx (ints bxs)).al)),cK (((rdPx (ints bxs)).f))],[Bx.cells [Cl.d (DV.sl (((ints bxs).drop 10).length) (u8s ((ints bxs).drop 10)))]],false⟩ | _,_=>none) else
  none
 iter:=fun f cs=>
  none
def gamDaX:Pan where
 may:=fun f=>f==45 || f==72 || f==73 || f==74 || f==88 || false
 when_:=fun f xs bs=>
  if f=45 then (match xs,bs with | [AV.one (Cl.d (DV.bool b_))],[]=>some (b_=true) | _,_=>none) else
  if f=72 then (match xs,bs with | [AV.one (Cl.ptr 0 0),AV.one (Cl.d (DV.int _ n))],[Bx.cells [Cl.d (DV.sl bn bxs)]]=>some (n.toNat≤(ints bxs).length) | _,_=>none) else
  if f=73 then (match xs,bs with | [AV.one (Cl.ptr 0 0)],[Bx.cells [Cl.d (DV.sl bn bxs)]]=>some (4≤(ints bxs).length) | _,_=>none) else
  if f=74 then (match xs,bs with | [AV.one (Cl.ptr 0 0),AV.one (Cl.d (DV.int _ n)),AV.one (Cl.d (DV.int _ size))],[Bx.cells [Cl.d (DV.sl bn bxs)]]=>some (cntOk n.toNat size.toNat (ints bxs)) | _,_=>none) else
  if f=88 then (match xs,bs with | [AV.one (Cl.ptr 0 0)],[Bx.cells [Cl.d (DV.sl bn bxs)]]=>some (10≤(ints bxs).length) | _,_=>none) else
  none
def script_reader_take_ann (b:List Int) (n:Int):Ann:=(Ann.seq Ann.leaf (Ann.seq Ann.leaf (Ann.seq Ann.leaf (Ann.seq (Ann.seq Ann.leaf (Ann.loop ⟨Nat,fun k=>k≤n.toNat,fun k=>⟨[(0,AV.one (Cl.ptr 0 0)),(1,AV.one (cJ (n))),(5,AV.one (cJ ((tkV k b)))),(21,AV.one (Cl.d (DV.sl ((n - (0:Int)).toNat) (List.take ((n - (0:Int)).toNat*1) (List.drop ((0:Int).toNat*1) (u8s b)))))),(22,AV.one (cJ ((((n - (0:Int)).toNat:Nat):Int)))),(23,AV.one (cJ (((k:Nat):Int))))],[(0,Bx.cells [Cl.d (DV.sl b.length (u8s b))])]⟩,fun k=>n.toNat - k⟩ fun k=>Ann.leaf)) Ann.leaf))))
theorem script_reader_take_vc (b:List Int) (n:Int):xcg Try.prog gamDa gamDaX chM (¬ (n.toNat≤b.length)) ⟨43,fun _=>false,List.range 1,false⟩ (bodyOf Try.f72) (script_reader_take_ann b n) kn0 (startG [AV.one (Cl.ptr 0 0),AV.one (Cl.d (DV.int .i64 n))] [Bx.cells [Cl.d (DV.sl b.length (u8s b))]]) (fun e kn s_=>(n.toNat≤b.length)∧postG Try.prog ⟨43,fun _=>false,List.range 1,false⟩ Try.f72.results.toList ⟨AV.one (Cl.d (DV.int .i64 (tkV n.toNat b))),[Bx.cells [Cl.d (DV.sl ((b.drop n.toNat).length) (u8s (b.drop n.toNat)))]],false⟩ e kn s_) =
  (let zz0:=((decide (((b.length:Nat):Int)≥n))=true); let zz1:=[AV.one (Cl.d (dQ (decide (((b.length:Nat):Int)≥n))))]; let zz2:=(dJ n=dJ n); let zz3:=(List.take ((n - (0:Int)).toNat*1) (List.drop ((0:Int).toNat*1) (u8s b))); let zz4:=(DV.sl ((n - (0:Int)).toNat) zz3=DV.sl ((n - (0:Int)).toNat) zz3); let zz5:=(dJ (((n - (0:Int)).toNat:Nat):Int)=dJ (((n - (0:Int)).toNat:Nat):Int)); let zz6:=(([DV.sl b.length (u8s b)]=[DV.sl b.length (u8s b)])∧True); tU8 ((((¬ zz0)→PanG Try.prog chM 45 zz1 []∧(¬ (n.toNat≤b.length)))∧(zz0→(AnsG Try.prog 45 0 zz1 [] ⟨AV.tup [],[],false⟩)∧tU6 ((0≤(0:Int)∧(0:Int)≤n∧n≤((b.length:Nat):Int))∧tU2 (((∃ k:Nat,(k≤n.toNat)∧(((0=0)∧zz2∧(dJ 0=dJ (tkV k b))∧zz4∧zz5∧(dJ 0=dJ ((k:Nat):Int))∧True)∧zz6))∧∀ k:Nat,(k≤n.toNat)→True∧(((decide (((k:Nat):Int) < (((n - (0:Int)).toNat:Nat):Int)))=true→(0≤((k:Nat):Int)∧((k:Nat):Int) < (((n - (0:Int)).toNat:Nat):Int)∧((k:Nat):Int).toNat*1 < zz3.length)∧((zz3[((k:Nat):Int).toNat*1]?=some (DV.int .u8 (nAt zz3 (((k:Nat):Int).toNat*1))))∧True)∧tU2 ((0≤(8:Int))∧tU6 (∃ k':Nat,(k'≤n.toNat)∧(n.toNat - k' < n.toNat - k)∧(((0=0)∧zz2∧(dJ (wK (BitVec.ofInt 64 (wK ((tkV k b)*2 ^ min (8:Int).toNat 64)) ||| BitVec.ofInt 64 (wK (nAt zz3 (((k:Nat):Int).toNat*1)))).toNat)=dJ (tkV k' b))∧zz4∧zz5∧(dJ (wK (((k:Nat):Int)+(1:Int)))=dJ ((k':Nat):Int))∧True)∧zz6))))∧((decide (((k:Nat):Int) < (((n - (0:Int)).toNat:Nat):Int)))=false→tU6 ((0≤n∧n≤((b.length:Nat):Int)∧((b.length:Nat):Int)≤((b.length:Nat):Int))∧tU5 (((n.toNat≤b.length)∧(((dJ (tkV k b)=dJ (tkV n.toNat b))∧True)∧(([DV.sl ((((b.length:Nat):Int) - n).toNat) (List.take ((((b.length:Nat):Int) - n).toNat*1) (List.drop (n.toNat*1) (u8s b)))]=[DV.sl ((b.drop n.toNat).length) (u8s (b.drop n.toNat))])∧True))∧freshOK ⟨AV.one (cJ ((tkV n.toNat b))),[Bx.cells [Cl.d (DV.sl ((b.drop n.toNat).length) (u8s (b.drop n.toNat)))]],false⟩)))))))))))):=by kernel_rfl
theorem script_reader_take_ans (b:List Int) (n:Int) (hn:1≤n∧n≤4):((n.toNat≤b.length)→AnsG Try.prog 72 1 [AV.one (Cl.ptr 0 0),AV.one (Cl.d (DV.int .i64 n))] [Bx.cells [Cl.d (DV.sl b.length (u8s b))]] ⟨AV.one (Cl.d (DV.int .i64 (tkV n.toNat b))),[Bx.cells [Cl.d (DV.sl ((b.drop n.toNat).length) (u8s (b.drop n.toNat)))]],false⟩)∧((¬ (n.toNat≤b.length))→PanG Try.prog chM 72 [AV.one (Cl.ptr 0 0),AV.one (Cl.d (DV.int .i64 n))] [Bx.cells [Cl.d (DV.sl b.length (u8s b))]]):=
  pans_of_xcg (Γ:=gamDa) (X:=gamDaX) (script_reader_take_ann b n) mixed_ Try.func72 rfl (Nat.le_of_ble_eq_true rfl) rfl fun hwf hbx=>by
    refine Eq.mpr (script_reader_take_vc b n) ?_
    delta tU2 tU5 tU6 tU8 dJ dQ cJ wK
    simp only [true_and,and_true,RV.d.injEq,RV.agg.injEq,RV.tup.injEq,DV.bool.injEq,DV.int.injEq,DV.sl.injEq,List.cons.injEq,forall_const,Bool.not_false,Bool.not_true,Bool.not_eq_true',Bool.not_eq_false',decide_eq_true_eq,decide_eq_false_iff_not,Int.toNat_natCast,imQ,imQr,imC,oqQ,oqQr,oqC,oqD,pxQ,pxQr,pxC,pxD]
    simp only [Bx.wfL,Bx.wf,Cl.wfs,DV.wf,maxLen] at hbx
    have hB:=isB_of hbx.1.1.2
    obtain ⟨hn1,hn4⟩:=hn
    obtain ⟨N,rfl⟩:=Int.eq_ofNat_of_zero_le (by omega:0≤n)
    have hNN:(N:Int).toNat=N:=Int.toNat_natCast N
    have e0:((N:Int) - 0).toNat=N:=by omega
    have eT:List.take (N*1) (List.drop (Int.toNat 0*1) (u8s b))=u8s (b.take N):=by
      rw [Nat.mul_one,← u8s_take]; rfl
    simp only [hNN,e0,eT]
    have dm:=fun p:Bool=>script_demand_ans p
    refine ⟨fun h=>⟨(dm _).2 (by simpa using h),by omega⟩,fun h=>⟨(dm _).1 (by simpa using h),⟨by omega,by omega,by omega⟩,⟨0,Nat.zero_le _,(tkV_zero b).symm,rfl⟩,fun k hk=>⟨fun hlt=>?_,fun hge=>?_⟩⟩⟩
    · have hk':k < (b.take N).length:=by rw [List.length_take]; omega
      have hkb:k < b.length:=by omega
      obtain ⟨q1,q2⟩:=u8s_rd hk'
      have q3:(b.take N)[k]=b[k]:=List.getElem_take
      have hc:=hB b[k] (List.getElem_mem hkb)
      have hv:=tkV_in hB k (by omega)
      have hv2:tkV k b < 4294967296:=by
        refine Int.lt_of_lt_of_le hv.2 ?_
        have hk4:k < 4:=by omega
        match k,hk4 with
        | 0,_ | 1,_ | 2,_ | 3,_=>decide
      have w1:IntKind.wrap .i64 ((k:Int)+1)=((k+1:Nat):Int):=by rw [IntWalk.i64_in _ ⟨by omega,by omega⟩]; omega
      simp only [Nat.mul_one,q2,q3,w1]
      rw [q3] at q1
      refine ⟨⟨by omega,by omega,by rw [u8s_len]; exact hk'⟩,q1,by omega,k+1,by omega,by omega,?_,rfl⟩
      rw [or8I ⟨hv.1,hv2⟩ hc,tkV_succ hkb]
    · have:k=N:=by omega
      subst this
      have e1:((b.length:Int) - (k:Int)).toNat=b.length - k:=by omega
      refine ⟨⟨by omega,by omega,by omega⟩,by omega,⟨rfl,by rw [e1,List.length_drop],?_⟩,trivial⟩
      rw [e1,Nat.mul_one,Nat.mul_one,u8s_drop,u8s_take,List.take_of_length_le (by rw [List.length_drop]; omega)]
def script_reader_signed_ann (b:List Int):Ann:=Ann.leaf
theorem script_reader_signed_vc (b:List Int):xcg Try.prog gamDa gamDaX chM (¬ (4≤b.length)) ⟨7,fun _=>false,List.range 1,false⟩ (bodyOf Try.f73) (script_reader_signed_ann b) kn0 (startG [AV.one (Cl.ptr 0 0)] [Bx.cells [Cl.d (DV.sl b.length (u8s b))]]) (fun e kn s_=>(4≤b.length)∧postG Try.prog ⟨7,fun _=>false,List.range 1,false⟩ Try.f73.results.toList ⟨AV.one (Cl.d (DV.int .i64 (sgV b))),[Bx.cells [Cl.d (DV.sl ((b.drop 4).length) (u8s (b.drop 4)))]],false⟩ e kn s_) =
  (let zz0:=[AV.one (Cl.ptr 0 0),AV.one (cJ (4))]; let zz1:=[Bx.cells [Cl.d (DV.sl b.length (u8s b))]]; tU2 ((((¬ (4≤(ints (u8s b)).length))→PanG Try.prog chM 72 zz0 zz1∧(¬ (4≤b.length)))∧((4≤(ints (u8s b)).length)→(AnsG Try.prog 72 1 zz0 zz1 ⟨AV.one (cJ ((tkV 4 (ints (u8s b))))),[Bx.cells [Cl.d (DV.sl (((ints (u8s b)).drop 4).length) (u8s ((ints (u8s b)).drop 4)))]],false⟩)∧tU3 (((4≤b.length)∧(((dJ (wK (IntKind.wrap .i32 (tkV 4 (ints (u8s b)))))=dJ (sgV b))∧True)∧(([DV.sl (((ints (u8s b)).drop 4).length) (u8s ((ints (u8s b)).drop 4))]=[DV.sl ((b.drop 4).length) (u8s (b.drop 4))])∧True))∧freshOK ⟨AV.one (cJ ((sgV b))),[Bx.cells [Cl.d (DV.sl ((b.drop 4).length) (u8s (b.drop 4)))]],false⟩)))))):=by kernel_rfl
theorem script_reader_signed_ans (b:List Int):((4≤b.length)→AnsG Try.prog 73 1 [AV.one (Cl.ptr 0 0)] [Bx.cells [Cl.d (DV.sl b.length (u8s b))]] ⟨AV.one (Cl.d (DV.int .i64 (sgV b))),[Bx.cells [Cl.d (DV.sl ((b.drop 4).length) (u8s (b.drop 4)))]],false⟩)∧((¬ (4≤b.length))→PanG Try.prog chM 73 [AV.one (Cl.ptr 0 0)] [Bx.cells [Cl.d (DV.sl b.length (u8s b))]]):=
  pans_of_xcg (Γ:=gamDa) (X:=gamDaX) (script_reader_signed_ann b) mixed_ Try.func73 rfl (Nat.le_of_ble_eq_true rfl) rfl fun hwf hbx=>by
    refine Eq.mpr (script_reader_signed_vc b) ?_
    delta tU2 tU3 dJ cJ wK
    simp only [true_and,and_true,RV.d.injEq,RV.agg.injEq,RV.tup.injEq,DV.bool.injEq,DV.int.injEq,DV.sl.injEq,List.cons.injEq,forall_const,Bool.not_false,Bool.not_true,Bool.not_eq_true',Bool.not_eq_false',decide_eq_true_eq,decide_eq_false_iff_not,Int.toNat_natCast,imQ,imQr,imC,oqQ,oqQr,oqC,oqD,pxQ,pxQr,pxC,pxD]
    have t:=script_reader_take_ans b 4 ⟨by omega,by omega⟩
    simp only [ints_u8s]
    exact ⟨fun h=>⟨t.2 h,h⟩,fun h=>⟨t.1 h,h,(by (repeat' apply And.intro) <;> first | rfl | exact trivial)⟩⟩
theorem tk_at (b:List Int) (d n:Nat) (h:1≤n∧n≤4):((n≤(b.drop d).length)→AnsG Try.prog 72 1 [AV.one (Cl.ptr 0 0),AV.one (Cl.d (DV.int .i64 (n:Int)))] [Bx.cells [Cl.d (DV.sl (b.drop d).length (u8s (b.drop d)))]] ⟨AV.one (Cl.d (DV.int .i64 (tkV n (b.drop d)))),[Bx.cells [Cl.d (DV.sl (b.drop (d+n)).length (u8s (b.drop (d+n))))]],false⟩) ∧
    ((¬ (n≤(b.drop d).length))→PanG Try.prog chM 72 [AV.one (Cl.ptr 0 0),AV.one (Cl.d (DV.int .i64 (n:Int)))] [Bx.cells [Cl.d (DV.sl (b.drop d).length (u8s (b.drop d)))]]):=by
  have:=script_reader_take_ans (b.drop d) (n:Int) ⟨by omega,by omega⟩
  simp only [Int.toNat_natCast,List.drop_drop] at this
  exact this
theorem sg_at (b:List Int) (d:Nat):((4≤(b.drop d).length)→AnsG Try.prog 73 1 [AV.one (Cl.ptr 0 0)] [Bx.cells [Cl.d (DV.sl (b.drop d).length (u8s (b.drop d)))]] ⟨AV.one (Cl.d (DV.int .i64 (sgV (b.drop d)))),[Bx.cells [Cl.d (DV.sl (b.drop (d+4)).length (u8s (b.drop (d+4))))]],false⟩) ∧
    ((¬ (4≤(b.drop d).length))→PanG Try.prog chM 73 [AV.one (Cl.ptr 0 0)] [Bx.cells [Cl.d (DV.sl (b.drop d).length (u8s (b.drop d)))]]):=by
  have:=script_reader_signed_ans (b.drop d)
  simp only [List.drop_drop] at this
  exact this
def script_reader_count_ann (b:List Int) (n:Int) (size:Int):Ann:=Ann.leaf
theorem script_reader_count_vc (b:List Int) (n:Int) (size:Int):xcg Try.prog gamDa gamDaX chM (¬ (cntOk n.toNat size.toNat b)) ⟨22,fun _=>false,List.range 1,false⟩ (bodyOf Try.f74) (script_reader_count_ann b n size) kn0 (startG [AV.one (Cl.ptr 0 0),AV.one (Cl.d (DV.int .i64 n)),AV.one (Cl.d (DV.int .i64 size))] [Bx.cells [Cl.d (DV.sl b.length (u8s b))]]) (fun e kn s_=>(cntOk n.toNat size.toNat b)∧postG Try.prog ⟨22,fun _=>false,List.range 1,false⟩ Try.f74.results.toList ⟨AV.one (Cl.d (DV.int .i64 (tkV n.toNat b))),[Bx.cells [Cl.d (DV.sl ((b.drop n.toNat).length) (u8s (b.drop n.toNat)))]],false⟩ e kn s_) =
  (let zz0:=(n.toNat≤(ints (u8s b)).length); let zz1:=[AV.one (Cl.ptr 0 0),AV.one (cJ (n))]; let zz2:=[Bx.cells [Cl.d (DV.sl b.length (u8s b))]]; let zz3:=((decide ((tkV n.toNat (ints (u8s b)))≤(wK (Int.tdiv ((((ints (u8s b)).drop n.toNat).length:Nat):Int) size))))=true); let zz4:=[AV.one (Cl.d (dQ (decide ((tkV n.toNat (ints (u8s b)))≤(wK (Int.tdiv ((((ints (u8s b)).drop n.toNat).length:Nat):Int) size))))))]; tU3 ((((¬ zz0)→PanG Try.prog chM 72 zz1 zz2∧(¬ (cntOk n.toNat size.toNat b)))∧(zz0→(AnsG Try.prog 72 1 zz1 zz2 ⟨AV.one (cJ ((tkV n.toNat (ints (u8s b))))),[Bx.cells [Cl.d (DV.sl (((ints (u8s b)).drop n.toNat).length) (u8s ((ints (u8s b)).drop n.toNat)))]],false⟩)∧tU8 ((size≠0)∧True∧(((¬ zz3)→PanG Try.prog chM 45 zz4 []∧(¬ (cntOk n.toNat size.toNat b)))∧(zz3→(AnsG Try.prog 45 0 zz4 [] ⟨AV.tup [],[],false⟩)∧tU2 (((cntOk n.toNat size.toNat b)∧(((dJ (tkV n.toNat (ints (u8s b)))=dJ (tkV n.toNat b))∧True)∧(([DV.sl (((ints (u8s b)).drop n.toNat).length) (u8s ((ints (u8s b)).drop n.toNat))]=[DV.sl ((b.drop n.toNat).length) (u8s (b.drop n.toNat))])∧True))∧freshOK ⟨AV.one (cJ ((tkV n.toNat b))),[Bx.cells [Cl.d (DV.sl ((b.drop n.toNat).length) (u8s (b.drop n.toNat)))]],false⟩))))))))):=by kernel_rfl
theorem script_reader_count_ans (b:List Int) (n:Int) (size:Int) (hn:1≤n∧n≤4) (hz:1≤size∧size≤100):((cntOk n.toNat size.toNat b)→AnsG Try.prog 74 1 [AV.one (Cl.ptr 0 0),AV.one (Cl.d (DV.int .i64 n)),AV.one (Cl.d (DV.int .i64 size))] [Bx.cells [Cl.d (DV.sl b.length (u8s b))]] ⟨AV.one (Cl.d (DV.int .i64 (tkV n.toNat b))),[Bx.cells [Cl.d (DV.sl ((b.drop n.toNat).length) (u8s (b.drop n.toNat)))]],false⟩)∧((¬ (cntOk n.toNat size.toNat b))→PanG Try.prog chM 74 [AV.one (Cl.ptr 0 0),AV.one (Cl.d (DV.int .i64 n)),AV.one (Cl.d (DV.int .i64 size))] [Bx.cells [Cl.d (DV.sl b.length (u8s b))]]):=
  pans_of_xcg (Γ:=gamDa) (X:=gamDaX) (script_reader_count_ann b n size) mixed_ Try.func74 rfl (Nat.le_of_ble_eq_true rfl) rfl fun hwf hbx=>by
    refine Eq.mpr (script_reader_count_vc b n size) ?_
    delta tU2 tU3 tU8 dJ dQ cJ wK
    simp only [true_and,and_true,RV.d.injEq,RV.agg.injEq,RV.tup.injEq,DV.bool.injEq,DV.int.injEq,DV.sl.injEq,List.cons.injEq,forall_const,Bool.not_false,Bool.not_true,Bool.not_eq_true',Bool.not_eq_false',decide_eq_true_eq,decide_eq_false_iff_not,Int.toNat_natCast,imQ,imQr,imC,oqQ,oqQr,oqC,oqD,pxQ,pxQr,pxC,pxD]
    obtain ⟨hn1,hn4⟩:=hn
    obtain ⟨N,rfl⟩:=Int.eq_ofNat_of_zero_le (by omega:0≤n)
    obtain ⟨Z,rfl⟩:=Int.eq_ofNat_of_zero_le (by omega:0≤size)
    have t:=script_reader_take_ans b N ⟨by omega,by omega⟩
    have dm:=fun p:Bool=>script_demand_ans p
    simp only [Bx.wfL,Bx.wf,Cl.wfs,DV.wf,maxLen] at hbx
    have eq:IntKind.wrap .i64 (Int.tdiv ((b.drop N).length:Int) (Z:Int))=(((b.length - N) / Z:Nat):Int):=by
      have h1:Int.tdiv ((b.drop N).length:Int) (Z:Int)=(((b.length - N) / Z:Nat):Int):=by rw [List.length_drop]; rfl
      have h2:(b.length - N) / Z≤b.length - N:=Nat.div_le_self _ _
      rw [h1]
      generalize (b.length - N) / Z=q at *
      exact IntWalk.i64_in _ ⟨by omega,by omega⟩
    simp only [ints_u8s,Int.toNat_natCast,eq] at t ⊢
    unfold cntOk
    refine ⟨fun h=>⟨t.2 h,fun h'=>h h'.1⟩,fun h=>⟨t.1 h,by omega,fun h2=>⟨(dm _).2 (by simpa using h2),fun h'=>h2 h'.2⟩,fun h2=>⟨(dm _).1 (by simpa using h2),⟨h,h2⟩,(by (repeat' apply And.intro) <;> first | rfl | exact trivial)⟩⟩⟩
def script_reader_pixel_ann (b:List Int):Ann:=let zz0:=[cK (0),cK (0),cK (0),cK (0),cK (0)]; let zz1:=(2,Bx.cells zz0); let zz2:=(dK (IntKind.wrap .u16 (tkV 2 (ints (u8s b))))); let zz3:=(dK (IntKind.wrap .u16 (tkV 2 (ints (u8s ((ints (u8s b)).drop 2)))))); let zz4:=(dK (IntKind.wrap .u16 (tkV 2 (ints (u8s ((ints (u8s ((ints (u8s b)).drop 2))).drop 2)))))); let zz5:=(dK (IntKind.wrap .u16 (tkV 2 (ints (u8s ((ints (u8s ((ints (u8s ((ints (u8s b)).drop 2))).drop 2))).drop 2)))))); (Ann.seq Ann.leaf (Ann.seq Ann.leaf (Ann.seq (Ann.seq Ann.leaf (Ann.link ⟨Unit,fun _u=>0≤b.length,fun _u=>⟨[(0,AV.one (Cl.ptr 0 0)),(2,AV.one (Cl.ptr 2 0)),(3,AV.one (Cl.ptr 3 0)),(5,AV.one (cJ (0)))],[(0,Bx.cells [Cl.d (DV.sl b.length (u8s b))]),zz1,(3,Bx.cells zz0)]⟩,fun _u=>0⟩ (fun _u=>(Ann.seq Ann.leaf (Ann.seq (Ann.sure true Ann.leaf) Ann.leaf))) (Ann.link ⟨Unit,fun _u=>2≤b.length,fun _u=>⟨[(0,AV.one (Cl.ptr 0 0)),(2,AV.one (Cl.ptr 2 0)),(3,AV.one (Cl.ptr 3 0)),(5,AV.one (cJ (1)))],[(0,Bx.cells [Cl.d (DV.sl (((ints (u8s b)).drop 2).length) (u8s ((ints (u8s b)).drop 2)))]),zz1,(3,Bx.cells [Cl.d zz2,cK (0),cK (0),cK (0),cK (0)])]⟩,fun _u=>0⟩ (fun _u=>(Ann.seq Ann.leaf (Ann.seq (Ann.sure true Ann.leaf) Ann.leaf))) (Ann.link ⟨Unit,fun _u=>4≤b.length,fun _u=>⟨[(0,AV.one (Cl.ptr 0 0)),(2,AV.one (Cl.ptr 2 0)),(3,AV.one (Cl.ptr 3 0)),(5,AV.one (cJ (2)))],[(0,Bx.cells [Cl.d (DV.sl (((ints (u8s ((ints (u8s b)).drop 2))).drop 2).length) (u8s ((ints (u8s ((ints (u8s b)).drop 2))).drop 2)))]),zz1,(3,Bx.cells [Cl.d zz2,Cl.d zz3,cK (0),cK (0),cK (0)])]⟩,fun _u=>0⟩ (fun _u=>(Ann.seq Ann.leaf (Ann.seq (Ann.sure true Ann.leaf) Ann.leaf))) (Ann.link ⟨Unit,fun _u=>6≤b.length,fun _u=>⟨[(0,AV.one (Cl.ptr 0 0)),(2,AV.one (Cl.ptr 2 0)),(3,AV.one (Cl.ptr 3 0)),(5,AV.one (cJ (3)))],[(0,Bx.cells [Cl.d (DV.sl (((ints (u8s ((ints (u8s ((ints (u8s b)).drop 2))).drop 2))).drop 2).length) (u8s ((ints (u8s ((ints (u8s ((ints (u8s b)).drop 2))).drop 2))).drop 2)))]),zz1,(3,Bx.cells [Cl.d zz2,Cl.d zz3,Cl.d zz4,cK (0),cK (0)])]⟩,fun _u=>0⟩ (fun _u=>(Ann.seq Ann.leaf (Ann.seq (Ann.sure true Ann.leaf) Ann.leaf))) (Ann.link ⟨Unit,fun _u=>8≤b.length,fun _u=>⟨[(0,AV.one (Cl.ptr 0 0)),(2,AV.one (Cl.ptr 2 0)),(3,AV.one (Cl.ptr 3 0)),(5,AV.one (cJ (4)))],[(0,Bx.cells [Cl.d (DV.sl (((ints (u8s ((ints (u8s ((ints (u8s ((ints (u8s b)).drop 2))).drop 2))).drop 2))).drop 2).length) (u8s ((ints (u8s ((ints (u8s ((ints (u8s ((ints (u8s b)).drop 2))).drop 2))).drop 2))).drop 2)))]),zz1,(3,Bx.cells [Cl.d zz2,Cl.d zz3,Cl.d zz4,Cl.d zz5,cK (0)])]⟩,fun _u=>0⟩ (fun _u=>(Ann.seq Ann.leaf (Ann.seq (Ann.sure true Ann.leaf) Ann.leaf))) (Ann.link ⟨Unit,fun _u=>10≤b.length,fun _u=>⟨[(0,AV.one (Cl.ptr 0 0)),(2,AV.one (Cl.ptr 2 0)),(3,AV.one (Cl.ptr 3 0)),(5,AV.one (cJ (5)))],[(0,Bx.cells [Cl.d (DV.sl (((ints (u8s ((ints (u8s ((ints (u8s ((ints (u8s ((ints (u8s b)).drop 2))).drop 2))).drop 2))).drop 2))).drop 2).length) (u8s ((ints (u8s ((ints (u8s ((ints (u8s ((ints (u8s ((ints (u8s b)).drop 2))).drop 2))).drop 2))).drop 2))).drop 2)))]),zz1,(3,Bx.cells [Cl.d zz2,Cl.d zz3,Cl.d zz4,Cl.d zz5,cK ((IntKind.wrap .u16 (tkV 2 (ints (u8s ((ints (u8s ((ints (u8s ((ints (u8s ((ints (u8s b)).drop 2))).drop 2))).drop 2))).drop 2))))))])]⟩,fun _u=>0⟩ (fun _u=>(Ann.seq Ann.leaf (Ann.seq (Ann.sure false Ann.leaf) Ann.leaf))) Ann.leaf))))))) Ann.leaf)))
theorem script_reader_pixel_vc (b:List Int):xcg Try.prog gamDa gamDaX chM (¬ (10≤b.length)) ⟨26,fun _=>false,List.range 1,false⟩ (bodyOf Try.f88) (script_reader_pixel_ann b) kn0 (startG [AV.one (Cl.ptr 0 0)] [Bx.cells [Cl.d (DV.sl b.length (u8s b))]]) (fun e kn s_=>(10≤b.length)∧postG Try.prog ⟨26,fun _=>false,List.range 1,false⟩ Try.f88.results.toList ⟨AV.agg [Cl.d (DV.int .u16 ((rdPx b).a)),Cl.d (DV.int .u16 ((rdPx b).b)),Cl.d (DV.int .u16 ((rdPx b).c)),Cl.d (DV.int .u16 ((rdPx b).al)),Cl.d (DV.int .u16 ((rdPx b).f))],[Bx.cells [Cl.d (DV.sl ((b.drop 10).length) (u8s (b.drop 10)))]],false⟩ e kn s_) =
  (let zz0:=[dK 0,dK 0,dK 0,dK 0,dK 0]; let zz1:=(zz0=zz0); let zz2:=[AV.one (Cl.ptr 0 0),AV.one (cJ (2))]; let zz3:=[Bx.cells [Cl.d (DV.sl b.length (u8s b))]]; let zz4:=[Bx.cells [Cl.d (DV.sl (((ints (u8s b)).drop 2).length) (u8s ((ints (u8s b)).drop 2)))]]; let zz5:=(0≤(0:Int)∧(0:Int) < ((5:Nat):Int)); let zz6:=[DV.sl (((ints (u8s b)).drop 2).length) (u8s ((ints (u8s b)).drop 2))]; let zz7:=(IntKind.wrap .u16 (tkV 2 (ints (u8s b)))); let zz8:=[dK zz7,dK 0,dK 0,dK 0,dK 0]; let zz9:=(2≤(ints (u8s ((ints (u8s b)).drop 2))).length); let zz10:=[Bx.cells [Cl.d (DV.sl (((ints (u8s ((ints (u8s b)).drop 2))).drop 2).length) (u8s ((ints (u8s ((ints (u8s b)).drop 2))).drop 2)))]]; let zz11:=(0≤(1:Int)∧(1:Int) < ((5:Nat):Int)); let zz12:=[DV.sl (((ints (u8s ((ints (u8s b)).drop 2))).drop 2).length) (u8s ((ints (u8s ((ints (u8s b)).drop 2))).drop 2))]; let zz13:=(IntKind.wrap .u16 (tkV 2 (ints (u8s ((ints (u8s b)).drop 2))))); let zz14:=[dK zz7,dK zz13,dK 0,dK 0,dK 0]; let zz15:=(2≤(ints (u8s ((ints (u8s ((ints (u8s b)).drop 2))).drop 2))).length); let zz16:=[Bx.cells [Cl.d (DV.sl (((ints (u8s ((ints (u8s ((ints (u8s b)).drop 2))).drop 2))).drop 2).length) (u8s ((ints (u8s ((ints (u8s ((ints (u8s b)).drop 2))).drop 2))).drop 2)))]]; let zz17:=(0≤(2:Int)∧(2:Int) < ((5:Nat):Int)); let zz18:=[DV.sl (((ints (u8s ((ints (u8s ((ints (u8s b)).drop 2))).drop 2))).drop 2).length) (u8s ((ints (u8s ((ints (u8s ((ints (u8s b)).drop 2))).drop 2))).drop 2))]; let zz19:=(IntKind.wrap .u16 (tkV 2 (ints (u8s ((ints (u8s ((ints (u8s b)).drop 2))).drop 2))))); let zz20:=[dK zz7,dK zz13,dK zz19,dK 0,dK 0]; let zz21:=(2≤(ints (u8s ((ints (u8s ((ints (u8s ((ints (u8s b)).drop 2))).drop 2))).drop 2))).length); let zz22:=[Bx.cells [Cl.d (DV.sl (((ints (u8s ((ints (u8s ((ints (u8s ((ints (u8s b)).drop 2))).drop 2))).drop 2))).drop 2).length) (u8s ((ints (u8s ((ints (u8s ((ints (u8s ((ints (u8s b)).drop 2))).drop 2))).drop 2))).drop 2)))]]; let zz23:=(0≤(3:Int)∧(3:Int) < ((5:Nat):Int)); let zz24:=[DV.sl (((ints (u8s ((ints (u8s ((ints (u8s ((ints (u8s b)).drop 2))).drop 2))).drop 2))).drop 2).length) (u8s ((ints (u8s ((ints (u8s ((ints (u8s ((ints (u8s b)).drop 2))).drop 2))).drop 2))).drop 2))]; let zz25:=(IntKind.wrap .u16 (tkV 2 (ints (u8s ((ints (u8s ((ints (u8s ((ints (u8s b)).drop 2))).drop 2))).drop 2))))); let zz26:=[dK zz7,dK zz13,dK zz19,dK zz25,dK 0]; let zz27:=(2≤(ints (u8s ((ints (u8s ((ints (u8s ((ints (u8s ((ints (u8s b)).drop 2))).drop 2))).drop 2))).drop 2))).length); let zz28:=(0≤(4:Int)∧(4:Int) < ((5:Nat):Int)); let zz29:=[DV.sl (((ints (u8s ((ints (u8s ((ints (u8s ((ints (u8s ((ints (u8s b)).drop 2))).drop 2))).drop 2))).drop 2))).drop 2).length) (u8s ((ints (u8s ((ints (u8s ((ints (u8s ((ints (u8s ((ints (u8s b)).drop 2))).drop 2))).drop 2))).drop 2))).drop 2))]; let zz30:=[dK zz7,dK zz13,dK zz19,dK zz25,dK (IntKind.wrap .u16 (tkV 2 (ints (u8s ((ints (u8s ((ints (u8s ((ints (u8s ((ints (u8s b)).drop 2))).drop 2))).drop 2))).drop 2)))))]; tU3 ((∃ _u:Unit,(0≤b.length)∧(((0=0)∧(0=0)∧(0=0)∧(dJ 0=dJ 0)∧True)∧(([DV.sl b.length (u8s b)]=[DV.sl b.length (u8s b)])∧zz1∧zz1∧True)))∧((∀ _u:Unit,(0≤b.length)→True∧(decide ((0:Int) < (5:Int))=true∧tU4 ((((¬ (2≤(ints (u8s b)).length))→PanG Try.prog chM 72 zz2 zz3∧(¬ (10≤b.length)))∧((2≤(ints (u8s b)).length)→(AnsG Try.prog 72 1 zz2 zz3 ⟨AV.one (cJ ((tkV 2 (ints (u8s b))))),zz4,false⟩)∧True∧zz5∧tU3 (∃ _u:Unit,(2≤b.length)∧(((0=0)∧(0=0)∧(0=0)∧(dJ (wK ((0:Int)+(1:Int)))=dJ 1)∧True)∧((zz6=zz6)∧zz1∧(zz8=zz8)∧True))))))))∧(∀ _u:Unit,(2≤b.length)→True∧(decide ((1:Int) < (5:Int))=true∧tU4 ((((¬ zz9)→PanG Try.prog chM 72 zz2 zz4∧(¬ (10≤b.length)))∧(zz9→(AnsG Try.prog 72 1 zz2 zz4 ⟨AV.one (cJ ((tkV 2 (ints (u8s ((ints (u8s b)).drop 2)))))),zz10,false⟩)∧True∧zz11∧tU3 (∃ _u:Unit,(4≤b.length)∧(((0=0)∧(0=0)∧(0=0)∧(dJ (wK ((1:Int)+(1:Int)))=dJ 2)∧True)∧((zz12=zz12)∧zz1∧(zz14=zz14)∧True))))))))∧(∀ _u:Unit,(4≤b.length)→True∧(decide ((2:Int) < (5:Int))=true∧tU4 ((((¬ zz15)→PanG Try.prog chM 72 zz2 zz10∧(¬ (10≤b.length)))∧(zz15→(AnsG Try.prog 72 1 zz2 zz10 ⟨AV.one (cJ ((tkV 2 (ints (u8s ((ints (u8s ((ints (u8s b)).drop 2))).drop 2)))))),zz16,false⟩)∧True∧zz17∧tU3 (∃ _u:Unit,(6≤b.length)∧(((0=0)∧(0=0)∧(0=0)∧(dJ (wK ((2:Int)+(1:Int)))=dJ 3)∧True)∧((zz18=zz18)∧zz1∧(zz20=zz20)∧True))))))))∧(∀ _u:Unit,(6≤b.length)→True∧(decide ((3:Int) < (5:Int))=true∧tU4 ((((¬ zz21)→PanG Try.prog chM 72 zz2 zz16∧(¬ (10≤b.length)))∧(zz21→(AnsG Try.prog 72 1 zz2 zz16 ⟨AV.one (cJ ((tkV 2 (ints (u8s ((ints (u8s ((ints (u8s ((ints (u8s b)).drop 2))).drop 2))).drop 2)))))),zz22,false⟩)∧True∧zz23∧tU3 (∃ _u:Unit,(8≤b.length)∧(((0=0)∧(0=0)∧(0=0)∧(dJ (wK ((3:Int)+(1:Int)))=dJ 4)∧True)∧((zz24=zz24)∧zz1∧(zz26=zz26)∧True))))))))∧(∀ _u:Unit,(8≤b.length)→True∧(decide ((4:Int) < (5:Int))=true∧tU4 ((((¬ zz27)→PanG Try.prog chM 72 zz2 zz22∧(¬ (10≤b.length)))∧(zz27→(AnsG Try.prog 72 1 zz2 zz22 ⟨AV.one (cJ ((tkV 2 (ints (u8s ((ints (u8s ((ints (u8s ((ints (u8s ((ints (u8s b)).drop 2))).drop 2))).drop 2))).drop 2)))))),[Bx.cells [Cl.d (DV.sl (((ints (u8s ((ints (u8s ((ints (u8s ((ints (u8s ((ints (u8s b)).drop 2))).drop 2))).drop 2))).drop 2))).drop 2).length) (u8s ((ints (u8s ((ints (u8s ((ints (u8s ((ints (u8s ((ints (u8s b)).drop 2))).drop 2))).drop 2))).drop 2))).drop 2)))]],false⟩)∧True∧zz28∧tU3 (∃ _u:Unit,(10≤b.length)∧(((0=0)∧(0=0)∧(0=0)∧(dJ (wK ((4:Int)+(1:Int)))=dJ 5)∧True)∧((zz29=zz29)∧zz1∧(zz30=zz30)∧True))))))))∧(∀ _u:Unit,(10≤b.length)→True∧(decide ((5:Int) < (5:Int))=false∧zz5∧True∧zz11∧True∧zz17∧tU2 (zz23∧True∧zz28∧tU3 (((10≤b.length)∧(((zz30=[dK ((rdPx b).a),dK ((rdPx b).b),dK ((rdPx b).c),dK ((rdPx b).al),dK ((rdPx b).f)])∧True)∧((zz29=[DV.sl ((b.drop 10).length) (u8s (b.drop 10))])∧True))∧freshOK ⟨AV.agg [cK (((rdPx b).a)),cK (((rdPx b).b)),cK (((rdPx b).c)),cK (((rdPx b).al)),cK (((rdPx b).f))],[Bx.cells [Cl.d (DV.sl ((b.drop 10).length) (u8s (b.drop 10)))]],false⟩)))))∧True))):=by kernel_rfl
theorem script_reader_pixel_ans (b:List Int):((10≤b.length)→AnsG Try.prog 88 1 [AV.one (Cl.ptr 0 0)] [Bx.cells [Cl.d (DV.sl b.length (u8s b))]] ⟨AV.agg [Cl.d (DV.int .u16 ((rdPx b).a)),Cl.d (DV.int .u16 ((rdPx b).b)),Cl.d (DV.int .u16 ((rdPx b).c)),Cl.d (DV.int .u16 ((rdPx b).al)),Cl.d (DV.int .u16 ((rdPx b).f))],[Bx.cells [Cl.d (DV.sl ((b.drop 10).length) (u8s (b.drop 10)))]],false⟩)∧((¬ (10≤b.length))→PanG Try.prog chM 88 [AV.one (Cl.ptr 0 0)] [Bx.cells [Cl.d (DV.sl b.length (u8s b))]]):=
  pans_of_xcg (Γ:=gamDa) (X:=gamDaX) (script_reader_pixel_ann b) mixed_ Try.func88 rfl (Nat.le_of_ble_eq_true rfl) rfl fun hwf hbx=>by
    refine Eq.mpr (script_reader_pixel_vc b) ?_
    delta tU2 tU3 tU4 dJ dK cJ cK wK
    simp only [true_and,and_true,RV.d.injEq,RV.agg.injEq,RV.tup.injEq,DV.bool.injEq,DV.int.injEq,DV.sl.injEq,List.cons.injEq,forall_const,Bool.not_false,Bool.not_true,Bool.not_eq_true',Bool.not_eq_false',decide_eq_true_eq,decide_eq_false_iff_not,Int.toNat_natCast,imQ,imQr,imC,oqQ,oqQr,oqC,oqD,pxQ,pxQr,pxC,pxD]
    simp only [ints_u8s,List.drop_drop,Nat.reduceAdd]
    simp only [Bx.wfL,Bx.wf,Cl.wfs,DV.wf,maxLen] at hbx
    have hB:=isB_of hbx.1.1.2
    have hv:∀ d,d+2≤b.length→IntKind.wrap .u16 (tkV 2 (b.drop d))=tkV 2 (b.drop d):=fun d hd=>by
      have h1:=tkV_in (hB.drop d) 2 (by rw [List.length_drop]; omega)
      have h2:(256:Int) ^ 2=65536:=by decide
      rw [h2] at h1
      have h3:IntKind.wrap .u16 (tkV 2 (b.drop d))=tkV 2 (b.drop d) % 65536:=by simp [IntKind.wrap,IntKind.bits,IntKind.signed]
      rw [h3]
      omega
    refine ⟨⟨(),Nat.zero_le _⟩,fun h=>⟨by omega,fun h'=>⟨(tk_at b 0 2 ⟨by omega,by omega⟩).2 h',(by first | omega | (rw [List.length_drop] at h'; omega))⟩,fun h'=>⟨(tk_at b 0 2 ⟨by omega,by omega⟩).1 h',⟨by omega,by omega⟩,(),(by first | omega | (rw [List.length_drop] at h'; omega)),by decide⟩⟩,fun h=>⟨by omega,fun h'=>⟨(tk_at b 2 2 ⟨by omega,by omega⟩).2 h',(by first | omega | (rw [List.length_drop] at h'; omega))⟩,fun h'=>⟨(tk_at b 2 2 ⟨by omega,by omega⟩).1 h',⟨by omega,by omega⟩,(),(by first | omega | (rw [List.length_drop] at h'; omega)),by decide⟩⟩,fun h=>⟨by omega,fun h'=>⟨(tk_at b 4 2 ⟨by omega,by omega⟩).2 h',(by first | omega | (rw [List.length_drop] at h'; omega))⟩,fun h'=>⟨(tk_at b 4 2 ⟨by omega,by omega⟩).1 h',⟨by omega,by omega⟩,(),(by first | omega | (rw [List.length_drop] at h'; omega)),by decide⟩⟩,fun h=>⟨by omega,fun h'=>⟨(tk_at b 6 2 ⟨by omega,by omega⟩).2 h',(by first | omega | (rw [List.length_drop] at h'; omega))⟩,fun h'=>⟨(tk_at b 6 2 ⟨by omega,by omega⟩).1 h',⟨by omega,by omega⟩,(),(by first | omega | (rw [List.length_drop] at h'; omega)),by decide⟩⟩,fun h=>⟨by omega,fun h'=>⟨(tk_at b 8 2 ⟨by omega,by omega⟩).2 h',(by first | omega | (rw [List.length_drop] at h'; omega))⟩,fun h'=>⟨(tk_at b 8 2 ⟨by omega,by omega⟩).1 h',⟨by omega,by omega⟩,(),(by first | omega | (rw [List.length_drop] at h'; omega)),by decide⟩⟩,fun h=>⟨by omega,⟨by omega,by omega⟩,⟨by omega,by omega⟩,⟨by omega,by omega⟩,⟨by omega,by omega⟩,⟨by omega,by omega⟩,by omega,⟨⟨?_,?_,?_,?_,?_⟩,trivial,trivial⟩,trivial⟩⟩
    · exact hv 0 (by omega)
    · exact hv 2 (by omega)
    · exact hv 4 (by omega)
    · exact hv 6 (by omega)
    · exact hv 8 (by omega)
def script_reader_op_ann (b:List Int):Ann:=Ann.leaf
theorem script_reader_op_vc (b:List Int):xcg Try.prog gamDa gamDaX chM (¬ (opWhen b)) ⟨41,fun _=>false,List.range 1,false⟩ (bodyOf Try.f76) (script_reader_op_ann b) kn0 (startG [AV.one (Cl.ptr 0 0)] [Bx.cells [Cl.d (DV.sl b.length (u8s b))]]) (fun e kn s_=>(opWhen b)∧postG Try.prog ⟨41,fun _=>false,List.range 1,false⟩ Try.f76.results.toList ⟨AV.agg [Cl.d (DV.int .i64 ((rdOp b).kind)),Cl.d (DV.int .i64 ((rdOp b).image)),Cl.d (DV.int .i64 ((rdOp b).x)),Cl.d (DV.int .i64 ((rdOp b).y)),Cl.d (DV.int .i64 ((rdOp b).mask)),Cl.d (DV.int .i64 ((rdOp b).mx)),Cl.d (DV.int .i64 ((rdOp b).my)),Cl.d (DV.int .u16 ((rdOp b).opac)),Cl.d (DV.int .i64 ((rdOp b).oper)),Cl.d (DV.int .i64 ((rdOp b).mode)),Cl.d (DV.bool ((rdOp b).iso)),Cl.d (DV.bool ((rdOp b).kno))],[Bx.cells [Cl.d (DV.sl ((b.drop 24).length) (u8s (b.drop 24)))]],false⟩ e kn s_) =
  (let zz0:=[AV.one (Cl.ptr 0 0),AV.one (cJ (1))]; let zz1:=[Bx.cells [Cl.d (DV.sl b.length (u8s b))]]; let zz2:=[Bx.cells [Cl.d (DV.sl (((ints (u8s b)).drop 1).length) (u8s ((ints (u8s b)).drop 1)))]]; let zz3:=(1≤(ints (u8s ((ints (u8s b)).drop 1))).length); let zz4:=[Bx.cells [Cl.d (DV.sl (((ints (u8s ((ints (u8s b)).drop 1))).drop 1).length) (u8s ((ints (u8s ((ints (u8s b)).drop 1))).drop 1)))]]; let zz5:=(4≤(ints (u8s ((ints (u8s ((ints (u8s b)).drop 1))).drop 1))).length); let zz6:=[Bx.cells [Cl.d (DV.sl (((ints (u8s ((ints (u8s ((ints (u8s b)).drop 1))).drop 1))).drop 4).length) (u8s ((ints (u8s ((ints (u8s ((ints (u8s b)).drop 1))).drop 1))).drop 4)))]]; let zz7:=(4≤(ints (u8s ((ints (u8s ((ints (u8s ((ints (u8s b)).drop 1))).drop 1))).drop 4))).length); let zz8:=[Bx.cells [Cl.d (DV.sl (((ints (u8s ((ints (u8s ((ints (u8s ((ints (u8s b)).drop 1))).drop 1))).drop 4))).drop 4).length) (u8s ((ints (u8s ((ints (u8s ((ints (u8s ((ints (u8s b)).drop 1))).drop 1))).drop 4))).drop 4)))]]; let zz9:=(1≤(ints (u8s ((ints (u8s ((ints (u8s ((ints (u8s ((ints (u8s b)).drop 1))).drop 1))).drop 4))).drop 4))).length); let zz10:=[Bx.cells [Cl.d (DV.sl (((ints (u8s ((ints (u8s ((ints (u8s ((ints (u8s ((ints (u8s b)).drop 1))).drop 1))).drop 4))).drop 4))).drop 1).length) (u8s ((ints (u8s ((ints (u8s ((ints (u8s ((ints (u8s ((ints (u8s b)).drop 1))).drop 1))).drop 4))).drop 4))).drop 1)))]]; let zz11:=(4≤(ints (u8s ((ints (u8s ((ints (u8s ((ints (u8s ((ints (u8s ((ints (u8s b)).drop 1))).drop 1))).drop 4))).drop 4))).drop 1))).length); let zz12:=[Bx.cells [Cl.d (DV.sl (((ints (u8s ((ints (u8s ((ints (u8s ((ints (u8s ((ints (u8s ((ints (u8s b)).drop 1))).drop 1))).drop 4))).drop 4))).drop 1))).drop 4).length) (u8s ((ints (u8s ((ints (u8s ((ints (u8s ((ints (u8s ((ints (u8s ((ints (u8s b)).drop 1))).drop 1))).drop 4))).drop 4))).drop 1))).drop 4)))]]; let zz13:=(4≤(ints (u8s ((ints (u8s ((ints (u8s ((ints (u8s ((ints (u8s ((ints (u8s ((ints (u8s b)).drop 1))).drop 1))).drop 4))).drop 4))).drop 1))).drop 4))).length); let zz14:=[Bx.cells [Cl.d (DV.sl (((ints (u8s ((ints (u8s ((ints (u8s ((ints (u8s ((ints (u8s ((ints (u8s ((ints (u8s b)).drop 1))).drop 1))).drop 4))).drop 4))).drop 1))).drop 4))).drop 4).length) (u8s ((ints (u8s ((ints (u8s ((ints (u8s ((ints (u8s ((ints (u8s ((ints (u8s ((ints (u8s b)).drop 1))).drop 1))).drop 4))).drop 4))).drop 1))).drop 4))).drop 4)))]]; let zz15:=(2≤(ints (u8s ((ints (u8s ((ints (u8s ((ints (u8s ((ints (u8s ((ints (u8s ((ints (u8s ((ints (u8s b)).drop 1))).drop 1))).drop 4))).drop 4))).drop 1))).drop 4))).drop 4))).length); let zz16:=[AV.one (Cl.ptr 0 0),AV.one (cJ (2))]; let zz17:=[Bx.cells [Cl.d (DV.sl (((ints (u8s ((ints (u8s ((ints (u8s ((ints (u8s ((ints (u8s ((ints (u8s ((ints (u8s ((ints (u8s b)).drop 1))).drop 1))).drop 4))).drop 4))).drop 1))).drop 4))).drop 4))).drop 2).length) (u8s ((ints (u8s ((ints (u8s ((ints (u8s ((ints (u8s ((ints (u8s ((ints (u8s ((ints (u8s ((ints (u8s b)).drop 1))).drop 1))).drop 4))).drop 4))).drop 1))).drop 4))).drop 4))).drop 2)))]]; let zz18:=(1≤(ints (u8s ((ints (u8s ((ints (u8s ((ints (u8s ((ints (u8s ((ints (u8s ((ints (u8s ((ints (u8s ((ints (u8s b)).drop 1))).drop 1))).drop 4))).drop 4))).drop 1))).drop 4))).drop 4))).drop 2))).length); let zz19:=[Bx.cells [Cl.d (DV.sl (((ints (u8s ((ints (u8s ((ints (u8s ((ints (u8s ((ints (u8s ((ints (u8s ((ints (u8s ((ints (u8s ((ints (u8s b)).drop 1))).drop 1))).drop 4))).drop 4))).drop 1))).drop 4))).drop 4))).drop 2))).drop 1).length) (u8s ((ints (u8s ((ints (u8s ((ints (u8s ((ints (u8s ((ints (u8s ((ints (u8s ((ints (u8s ((ints (u8s ((ints (u8s b)).drop 1))).drop 1))).drop 4))).drop 4))).drop 1))).drop 4))).drop 4))).drop 2))).drop 1)))]]; let zz20:=(1≤(ints (u8s ((ints (u8s ((ints (u8s ((ints (u8s ((ints (u8s ((ints (u8s ((ints (u8s ((ints (u8s ((ints (u8s ((ints (u8s b)).drop 1))).drop 1))).drop 4))).drop 4))).drop 1))).drop 4))).drop 4))).drop 2))).drop 1))).length); let zz21:=[Bx.cells [Cl.d (DV.sl (((ints (u8s ((ints (u8s ((ints (u8s ((ints (u8s ((ints (u8s ((ints (u8s ((ints (u8s ((ints (u8s ((ints (u8s ((ints (u8s b)).drop 1))).drop 1))).drop 4))).drop 4))).drop 1))).drop 4))).drop 4))).drop 2))).drop 1))).drop 1).length) (u8s ((ints (u8s ((ints (u8s ((ints (u8s ((ints (u8s ((ints (u8s ((ints (u8s ((ints (u8s ((ints (u8s ((ints (u8s ((ints (u8s b)).drop 1))).drop 1))).drop 4))).drop 4))).drop 1))).drop 4))).drop 4))).drop 2))).drop 1))).drop 1)))]]; let zz22:=(1≤(ints (u8s ((ints (u8s ((ints (u8s ((ints (u8s ((ints (u8s ((ints (u8s ((ints (u8s ((ints (u8s ((ints (u8s ((ints (u8s ((ints (u8s b)).drop 1))).drop 1))).drop 4))).drop 4))).drop 1))).drop 4))).drop 4))).drop 2))).drop 1))).drop 1))).length); let zz23:=((decide ((tkV 1 (ints (u8s ((ints (u8s ((ints (u8s ((ints (u8s ((ints (u8s ((ints (u8s ((ints (u8s ((ints (u8s ((ints (u8s ((ints (u8s ((ints (u8s b)).drop 1))).drop 1))).drop 4))).drop 4))).drop 1))).drop 4))).drop 4))).drop 2))).drop 1))).drop 1))))≤(3:Int)))=true); let zz24:=[AV.one (Cl.d (dQ (decide ((tkV 1 (ints (u8s ((ints (u8s ((ints (u8s ((ints (u8s ((ints (u8s ((ints (u8s ((ints (u8s ((ints (u8s ((ints (u8s ((ints (u8s ((ints (u8s b)).drop 1))).drop 1))).drop 4))).drop 4))).drop 1))).drop 4))).drop 4))).drop 2))).drop 1))).drop 1))))≤(3:Int)))))]; tU2 ((((¬ (1≤(ints (u8s b)).length))→PanG Try.prog chM 72 zz0 zz1∧(¬ (opWhen b)))∧((1≤(ints (u8s b)).length)→(AnsG Try.prog 72 1 zz0 zz1 ⟨AV.one (cJ ((tkV 1 (ints (u8s b))))),zz2,false⟩)∧True∧(((¬ zz3)→PanG Try.prog chM 72 zz0 zz2∧(¬ (opWhen b)))∧(zz3→(AnsG Try.prog 72 1 zz0 zz2 ⟨AV.one (cJ ((tkV 1 (ints (u8s ((ints (u8s b)).drop 1)))))),zz4,false⟩)∧True∧(((¬ zz5)→PanG Try.prog chM 73 [AV.one (Cl.ptr 0 0)] zz4∧(¬ (opWhen b)))∧(zz5→(AnsG Try.prog 73 1 [AV.one (Cl.ptr 0 0)] zz4 ⟨AV.one (cJ ((sgV (ints (u8s ((ints (u8s ((ints (u8s b)).drop 1))).drop 1)))))),zz6,false⟩)∧True∧(((¬ zz7)→PanG Try.prog chM 73 [AV.one (Cl.ptr 0 0)] zz6∧(¬ (opWhen b)))∧(zz7→(AnsG Try.prog 73 1 [AV.one (Cl.ptr 0 0)] zz6 ⟨AV.one (cJ ((sgV (ints (u8s ((ints (u8s ((ints (u8s ((ints (u8s b)).drop 1))).drop 1))).drop 4)))))),zz8,false⟩)∧True∧(((¬ zz9)→PanG Try.prog chM 72 zz0 zz8∧(¬ (opWhen b)))∧(zz9→(AnsG Try.prog 72 1 zz0 zz8 ⟨AV.one (cJ ((tkV 1 (ints (u8s ((ints (u8s ((ints (u8s ((ints (u8s ((ints (u8s b)).drop 1))).drop 1))).drop 4))).drop 4)))))),zz10,false⟩)∧True∧(((¬ zz11)→PanG Try.prog chM 73 [AV.one (Cl.ptr 0 0)] zz10∧(¬ (opWhen b)))∧(zz11→(AnsG Try.prog 73 1 [AV.one (Cl.ptr 0 0)] zz10 ⟨AV.one (cJ ((sgV (ints (u8s ((ints (u8s ((ints (u8s ((ints (u8s ((ints (u8s ((ints (u8s b)).drop 1))).drop 1))).drop 4))).drop 4))).drop 1)))))),zz12,false⟩)∧True∧(((¬ zz13)→PanG Try.prog chM 73 [AV.one (Cl.ptr 0 0)] zz12∧(¬ (opWhen b)))∧(zz13→(AnsG Try.prog 73 1 [AV.one (Cl.ptr 0 0)] zz12 ⟨AV.one (cJ ((sgV (ints (u8s ((ints (u8s ((ints (u8s ((ints (u8s ((ints (u8s ((ints (u8s ((ints (u8s b)).drop 1))).drop 1))).drop 4))).drop 4))).drop 1))).drop 4)))))),zz14,false⟩)∧True∧(((¬ zz15)→PanG Try.prog chM 72 zz16 zz14∧(¬ (opWhen b)))∧(zz15→(AnsG Try.prog 72 1 zz16 zz14 ⟨AV.one (cJ ((tkV 2 (ints (u8s ((ints (u8s ((ints (u8s ((ints (u8s ((ints (u8s ((ints (u8s ((ints (u8s ((ints (u8s b)).drop 1))).drop 1))).drop 4))).drop 4))).drop 1))).drop 4))).drop 4)))))),zz17,false⟩)∧tU2 ((((¬ zz18)→PanG Try.prog chM 72 zz0 zz17∧(¬ (opWhen b)))∧(zz18→(AnsG Try.prog 72 1 zz0 zz17 ⟨AV.one (cJ ((tkV 1 (ints (u8s ((ints (u8s ((ints (u8s ((ints (u8s ((ints (u8s ((ints (u8s ((ints (u8s ((ints (u8s ((ints (u8s b)).drop 1))).drop 1))).drop 4))).drop 4))).drop 1))).drop 4))).drop 4))).drop 2)))))),zz19,false⟩)∧True∧(((¬ zz20)→PanG Try.prog chM 72 zz0 zz19∧(¬ (opWhen b)))∧(zz20→(AnsG Try.prog 72 1 zz0 zz19 ⟨AV.one (cJ ((tkV 1 (ints (u8s ((ints (u8s ((ints (u8s ((ints (u8s ((ints (u8s ((ints (u8s ((ints (u8s ((ints (u8s ((ints (u8s ((ints (u8s b)).drop 1))).drop 1))).drop 4))).drop 4))).drop 1))).drop 4))).drop 4))).drop 2))).drop 1)))))),zz21,false⟩)∧tU4 ((((¬ zz22)→PanG Try.prog chM 72 zz0 zz21∧(¬ (opWhen b)))∧(zz22→(AnsG Try.prog 72 1 zz0 zz21 ⟨AV.one (cJ ((tkV 1 (ints (u8s ((ints (u8s ((ints (u8s ((ints (u8s ((ints (u8s ((ints (u8s ((ints (u8s ((ints (u8s ((ints (u8s ((ints (u8s ((ints (u8s b)).drop 1))).drop 1))).drop 4))).drop 4))).drop 1))).drop 4))).drop 4))).drop 2))).drop 1))).drop 1)))))),[Bx.cells [Cl.d (DV.sl (((ints (u8s ((ints (u8s ((ints (u8s ((ints (u8s ((ints (u8s ((ints (u8s ((ints (u8s ((ints (u8s ((ints (u8s ((ints (u8s ((ints (u8s b)).drop 1))).drop 1))).drop 4))).drop 4))).drop 1))).drop 4))).drop 4))).drop 2))).drop 1))).drop 1))).drop 1).length) (u8s ((ints (u8s ((ints (u8s ((ints (u8s ((ints (u8s ((ints (u8s ((ints (u8s ((ints (u8s ((ints (u8s ((ints (u8s ((ints (u8s ((ints (u8s b)).drop 1))).drop 1))).drop 4))).drop 4))).drop 1))).drop 4))).drop 4))).drop 2))).drop 1))).drop 1))).drop 1)))]],false⟩)∧tU3 ((((¬ zz23)→PanG Try.prog chM 45 zz24 []∧(¬ (opWhen b)))∧(zz23→(AnsG Try.prog 45 0 zz24 [] ⟨AV.tup [],[],false⟩)∧tU4 (tU8 (((opWhen b)∧((([dJ (tkV 1 (ints (u8s b))),dJ (tkV 1 (ints (u8s ((ints (u8s b)).drop 1)))),dJ (sgV (ints (u8s ((ints (u8s ((ints (u8s b)).drop 1))).drop 1)))),dJ (sgV (ints (u8s ((ints (u8s ((ints (u8s ((ints (u8s b)).drop 1))).drop 1))).drop 4)))),dJ (tkV 1 (ints (u8s ((ints (u8s ((ints (u8s ((ints (u8s ((ints (u8s b)).drop 1))).drop 1))).drop 4))).drop 4)))),dJ (sgV (ints (u8s ((ints (u8s ((ints (u8s ((ints (u8s ((ints (u8s ((ints (u8s b)).drop 1))).drop 1))).drop 4))).drop 4))).drop 1)))),dJ (sgV (ints (u8s ((ints (u8s ((ints (u8s ((ints (u8s ((ints (u8s ((ints (u8s ((ints (u8s b)).drop 1))).drop 1))).drop 4))).drop 4))).drop 1))).drop 4)))),dK (IntKind.wrap .u16 (tkV 2 (ints (u8s ((ints (u8s ((ints (u8s ((ints (u8s ((ints (u8s ((ints (u8s ((ints (u8s ((ints (u8s b)).drop 1))).drop 1))).drop 4))).drop 4))).drop 1))).drop 4))).drop 4))))),dJ (tkV 1 (ints (u8s ((ints (u8s ((ints (u8s ((ints (u8s ((ints (u8s ((ints (u8s ((ints (u8s ((ints (u8s ((ints (u8s b)).drop 1))).drop 1))).drop 4))).drop 4))).drop 1))).drop 4))).drop 4))).drop 2)))),dJ (tkV 1 (ints (u8s ((ints (u8s ((ints (u8s ((ints (u8s ((ints (u8s ((ints (u8s ((ints (u8s ((ints (u8s ((ints (u8s ((ints (u8s b)).drop 1))).drop 1))).drop 4))).drop 4))).drop 1))).drop 4))).drop 4))).drop 2))).drop 1)))),dQ ((wK (BitVec.ofInt 64 (tkV 1 (ints (u8s ((ints (u8s ((ints (u8s ((ints (u8s ((ints (u8s ((ints (u8s ((ints (u8s ((ints (u8s ((ints (u8s ((ints (u8s ((ints (u8s b)).drop 1))).drop 1))).drop 4))).drop 4))).drop 1))).drop 4))).drop 4))).drop 2))).drop 1))).drop 1)))) &&& BitVec.ofInt 64 (1:Int)).toNat) != (0:Int)),dQ ((wK (BitVec.ofInt 64 (tkV 1 (ints (u8s ((ints (u8s ((ints (u8s ((ints (u8s ((ints (u8s ((ints (u8s ((ints (u8s ((ints (u8s ((ints (u8s ((ints (u8s ((ints (u8s b)).drop 1))).drop 1))).drop 4))).drop 4))).drop 1))).drop 4))).drop 4))).drop 2))).drop 1))).drop 1)))) &&& BitVec.ofInt 64 (2:Int)).toNat) != (0:Int))]=(Oq.cells (rdOp b)))∧True)∧(([DV.sl (((ints (u8s ((ints (u8s ((ints (u8s ((ints (u8s ((ints (u8s ((ints (u8s ((ints (u8s ((ints (u8s ((ints (u8s ((ints (u8s ((ints (u8s b)).drop 1))).drop 1))).drop 4))).drop 4))).drop 1))).drop 4))).drop 4))).drop 2))).drop 1))).drop 1))).drop 1).length) (u8s ((ints (u8s ((ints (u8s ((ints (u8s ((ints (u8s ((ints (u8s ((ints (u8s ((ints (u8s ((ints (u8s ((ints (u8s ((ints (u8s ((ints (u8s b)).drop 1))).drop 1))).drop 4))).drop 4))).drop 1))).drop 4))).drop 4))).drop 2))).drop 1))).drop 1))).drop 1))]=[DV.sl ((b.drop 24).length) (u8s (b.drop 24))])∧True))∧freshOK ⟨AV.agg [cJ (((rdOp b).kind)),cJ (((rdOp b).image)),cJ (((rdOp b).x)),cJ (((rdOp b).y)),cJ (((rdOp b).mask)),cJ (((rdOp b).mx)),cJ (((rdOp b).my)),cK (((rdOp b).opac)),cJ (((rdOp b).oper)),cJ (((rdOp b).mode)),Cl.d (dQ ((rdOp b).iso)),Cl.d (dQ ((rdOp b).kno))],[Bx.cells [Cl.d (DV.sl ((b.drop 24).length) (u8s (b.drop 24)))]],false⟩)))))))))))))))))))))))))))))))):=by kernel_rfl
theorem script_reader_op_ans (b:List Int):((opWhen b)→AnsG Try.prog 76 1 [AV.one (Cl.ptr 0 0)] [Bx.cells [Cl.d (DV.sl b.length (u8s b))]] ⟨AV.agg [Cl.d (DV.int .i64 ((rdOp b).kind)),Cl.d (DV.int .i64 ((rdOp b).image)),Cl.d (DV.int .i64 ((rdOp b).x)),Cl.d (DV.int .i64 ((rdOp b).y)),Cl.d (DV.int .i64 ((rdOp b).mask)),Cl.d (DV.int .i64 ((rdOp b).mx)),Cl.d (DV.int .i64 ((rdOp b).my)),Cl.d (DV.int .u16 ((rdOp b).opac)),Cl.d (DV.int .i64 ((rdOp b).oper)),Cl.d (DV.int .i64 ((rdOp b).mode)),Cl.d (DV.bool ((rdOp b).iso)),Cl.d (DV.bool ((rdOp b).kno))],[Bx.cells [Cl.d (DV.sl ((b.drop 24).length) (u8s (b.drop 24)))]],false⟩)∧((¬ (opWhen b))→PanG Try.prog chM 76 [AV.one (Cl.ptr 0 0)] [Bx.cells [Cl.d (DV.sl b.length (u8s b))]]):=
  pans_of_xcg (Γ:=gamDa) (X:=gamDaX) (script_reader_op_ann b) mixed_ Try.func76 rfl (Nat.le_of_ble_eq_true rfl) rfl fun hwf hbx=>by
    refine Eq.mpr (script_reader_op_vc b) ?_
    delta tU2 tU3 tU4 tU8 dJ dK dQ cJ cK wK
    simp only [true_and,and_true,RV.d.injEq,RV.agg.injEq,RV.tup.injEq,DV.bool.injEq,DV.int.injEq,DV.sl.injEq,List.cons.injEq,forall_const,Bool.not_false,Bool.not_true,Bool.not_eq_true',Bool.not_eq_false',decide_eq_true_eq,decide_eq_false_iff_not,Int.toNat_natCast,imQ,imQr,imC,oqQ,oqQr,oqC,oqD,pxQ,pxQr,pxC,pxD]
    simp only [ints_u8s,List.drop_drop,Nat.reduceAdd]
    simp only [Bx.wfL,Bx.wf,Cl.wfs,DV.wf,maxLen] at hbx
    have hB:=isB_of hbx.1.1.2
    have dm:=fun p:Bool=>script_demand_ans p
    refine ⟨fun h'=>⟨(tk_at b 0 1 ⟨by omega,by omega⟩).2 h',fun hw=>by have:=hw.1; first | omega | (rw [List.length_drop] at h'; omega)⟩,fun h=>⟨(tk_at b 0 1 ⟨by omega,by omega⟩).1 h,⟨fun h'=>⟨(tk_at b 1 1 ⟨by omega,by omega⟩).2 h',fun hw=>by have:=hw.1; first | omega | (rw [List.length_drop] at h'; omega)⟩,fun h=>⟨(tk_at b 1 1 ⟨by omega,by omega⟩).1 h,⟨fun h'=>⟨(sg_at b 2).2 h',fun hw=>by have:=hw.1; first | omega | (rw [List.length_drop] at h'; omega)⟩,fun h=>⟨(sg_at b 2).1 h,⟨fun h'=>⟨(sg_at b 6).2 h',fun hw=>by have:=hw.1; first | omega | (rw [List.length_drop] at h'; omega)⟩,fun h=>⟨(sg_at b 6).1 h,⟨fun h'=>⟨(tk_at b 10 1 ⟨by omega,by omega⟩).2 h',fun hw=>by have:=hw.1; first | omega | (rw [List.length_drop] at h'; omega)⟩,fun h=>⟨(tk_at b 10 1 ⟨by omega,by omega⟩).1 h,⟨fun h'=>⟨(sg_at b 11).2 h',fun hw=>by have:=hw.1; first | omega | (rw [List.length_drop] at h'; omega)⟩,fun h=>⟨(sg_at b 11).1 h,⟨fun h'=>⟨(sg_at b 15).2 h',fun hw=>by have:=hw.1; first | omega | (rw [List.length_drop] at h'; omega)⟩,fun h=>⟨(sg_at b 15).1 h,⟨fun h'=>⟨(tk_at b 19 2 ⟨by omega,by omega⟩).2 h',fun hw=>by have:=hw.1; first | omega | (rw [List.length_drop] at h'; omega)⟩,fun h=>⟨(tk_at b 19 2 ⟨by omega,by omega⟩).1 h,⟨fun h'=>⟨(tk_at b 21 1 ⟨by omega,by omega⟩).2 h',fun hw=>by have:=hw.1; first | omega | (rw [List.length_drop] at h'; omega)⟩,fun h=>⟨(tk_at b 21 1 ⟨by omega,by omega⟩).1 h,⟨fun h'=>⟨(tk_at b 22 1 ⟨by omega,by omega⟩).2 h',fun hw=>by have:=hw.1; first | omega | (rw [List.length_drop] at h'; omega)⟩,fun h=>⟨(tk_at b 22 1 ⟨by omega,by omega⟩).1 h,⟨fun h'=>⟨(tk_at b 23 1 ⟨by omega,by omega⟩).2 h',fun hw=>by have:=hw.1; first | omega | (rw [List.length_drop] at h'; omega)⟩,fun h=>⟨(tk_at b 23 1 ⟨by omega,by omega⟩).1 h,?_⟩⟩⟩⟩⟩⟩⟩⟩⟩⟩⟩⟩⟩⟩⟩⟩⟩⟩⟩⟩⟩⟩
    have h24:24≤b.length:=by rw [List.length_drop] at h; omega
    have hf:=tkV_in (hB.drop 23) 1 (by rw [List.length_drop]; omega)
    have ho:=tkV_in (hB.drop 19) 2 (by rw [List.length_drop]; omega)
    have e1:(256:Int) ^ 1=256:=by decide
    have e2:(256:Int) ^ 2=65536:=by decide
    rw [e1] at hf
    rw [e2] at ho
    have how:IntKind.wrap .u16 (tkV 2 (b.drop 19))=tkV 2 (b.drop 19):=IntWalk.u16_in _ ⟨by omega,by omega⟩
    refine ⟨fun h=>⟨(dm _).2 (by simpa using h),fun hw=>h hw.2⟩,fun h=>⟨(dm _).1 (by simpa using h),⟨h24,h⟩,⟨?_,trivial,trivial⟩,trivial⟩⟩
    rw [how]
    unfold rdOp
    generalize tkV 1 (b.drop 23)=f at *
    have hf4:f=0∨f=1∨f=2∨f=3:=by omega
    have g:((IntKind.wrap .i64 ((BitVec.ofInt 64 f &&& BitVec.ofInt 64 1).toNat:Int)) != 0)=decide (f % 2=1)∧((IntKind.wrap .i64 ((BitVec.ofInt 64 f &&& BitVec.ofInt 64 2).toNat:Int)) != 0)=decide (f / 2 % 2=1):=by
      rcases hf4 with rfl | rfl | rfl | rfl <;> exact ⟨by decide,by decide⟩
    rw [g.1,g.2]
    rfl
end Go.Proofs.Ytlnfgagmiogkgaa
namespace Go.Proofs.Ytlnfgagmiogkgaa
open Go.RowKit
set_option linter.unusedVariables false
set_option linter.unusedSimpArgs false
theorem nearB_iff (v:Int):nearB v=true ↔ -1048576≤v∧v≤1048576:=by simp [nearB]
theorem Im.list_so {m:Im} (hs:m.so=true) (n:Nat):m.list n=List.replicate n m.c:=by
  unfold Im.list
  refine List.ext_getElem (by simp) fun i h1 h2=>?_
  simp [Im.nth,Im.px,hs]
theorem Im.count_pos {m:Im} (hf:m.formed=true):0 < m.w.toNat*m.h.toNat:=by
  obtain ⟨f1,f2,f3,f4,f5⟩:=fits_le (Im.formed_of hf).1
  exact Nat.mul_pos (by omega) (by omega)
theorem Im.pixels_so {m:Im} (hf:m.formed=true) (hs:m.so=true):m.pixels=List.replicate (m.w.toNat*m.h.toNat) m.c:=by
  rw [Im.pixels_of hf,Im.list_so hs]
theorem Im.valid_iff {m:Im} (hf:m.formed=true) (most:Int):m.valid most=0↔∀ p∈m.pixels,p.ok most=true:=by
  obtain ⟨h1,h2⟩:=Im.formed_of hf
  unfold Im.valid
  rw [if_neg (by simp [h1]),if_neg (by simp [h2])]
  cases hs:m.so with
  | true=>
    rw [if_pos rfl,Im.pixels_so hf hs]
    have:=Im.count_pos hf
    constructor
    · intro h p hp
      obtain ⟨_,rfl⟩:=List.mem_replicate.1 hp
      split at h
      · assumption
      · cases h
    · intro h
      rw [if_pos (h m.c (List.mem_replicate.2 ⟨by omega,rfl⟩))]
  | false=>
    rw [if_neg (by simp),Im.pixels_of hf]
    unfold Im.okTo Im.count Im.list
    constructor
    · intro h p hp
      split at h
      · rename_i ha
        obtain ⟨k,hk,rfl⟩:=List.mem_map.1 hp
        exact List.all_eq_true.1 ha k hk
      · cases h
    · intro h
      rw [if_pos (List.all_eq_true.2 fun k hk=>h _ (List.mem_map.2 ⟨k,hk,rfl⟩))]
theorem gSample_in (n:Int) {most:Int} (h0:0≤most) (h1:most≤65535):0≤gSample n most∧gSample n most≤most:=by
  unfold gSample
  rw [IntWalk.i64_in most ⟨by omega,by omega⟩]
  have a2:=@modS_in (IntKind.wrap .i64 (Int.tdiv n 8)) 2 (by omega) (by omega)
  have a4:=@modS_in (IntKind.wrap .i64 (Int.tdiv n 8)) 4 (by omega) (by omega)
  split
  · omega
  · split
    · omega
    · split
      · rw [IntWalk.i64_in (most+_) ⟨by omega,by omega⟩]
        have e:Int.tdiv (most+modS (IntKind.wrap .i64 (Int.tdiv n 8)) 2) 2=(most+modS (IntKind.wrap .i64 (Int.tdiv n 8)) 2) / 2:=Int.tdiv_eq_ediv_of_nonneg (by omega)
        rw [e,IntWalk.i64_in _ ⟨by omega,by omega⟩,IntWalk.u16_in _ ⟨by omega,by omega⟩]
        omega
      · split
        · rw [IntWalk.u16_in _ ⟨by omega,by omega⟩]
          omega
        · rw [IntWalk.i64_in (most+1) ⟨by omega,by omega⟩]
          have a:=@modS_in (IntKind.wrap .i64 (Int.tdiv n 8)) (most+1) (by omega) (by omega)
          rw [IntWalk.u16_in _ ⟨by omega,by omega⟩]
          omega
theorem gPixel_ok (n0 n1 n2 n3 n4:Int) {most:Int} (h0:0≤most) (h1:most≤65535):(gPixel n0 n1 n2 n3 n4 most).ok most=true∧0≤(gPixel n0 n1 n2 n3 n4 most).a∧0≤(gPixel n0 n1 n2 n3 n4 most).b∧0≤(gPixel n0 n1 n2 n3 n4 most).c∧0≤(gPixel n0 n1 n2 n3 n4 most).al:=by
  have hf:=gSample_in n4 h0 h1
  have key:∀ a f:Int,0≤a→a≤f→f≤most→Px.ok ⟨gSample n0 a,gSample n1 a,gSample n2 a,a,f⟩ most=true∧0≤gSample n0 a∧0≤gSample n1 a∧0≤gSample n2 a∧0≤a:=fun a f k0 k1 k2=>by
    have q0:=gSample_in n0 k0 (by omega)
    have q1:=gSample_in n1 k0 (by omega)
    have q2:=gSample_in n2 k0 (by omega)
    simp [Px.ok]
    omega
  unfold gPixel
  simp only
  split
  · have ha:=gSample_in (IntKind.wrap .i64 (Int.tdiv n3 3)) hf.1 (by omega)
    exact key _ _ ha.1 ha.2 hf.2
  · exact key _ _ hf.1 (Int.le_refl _) hf.2
def Px.fine (p:Px) (most:Int):Prop:=p.ok most=true∧0≤p.a∧0≤p.b∧0≤p.c∧0≤p.al
theorem gPx_fine (mood:Int) (L:Nat) (xs:List DV) {most:Int} (h0:0≤most) (h1:most≤65535) (k:Nat):(gPx mood L xs most k).fine most:=by
  have hz:Px.zero.fine most:=⟨by simp [Px.ok,Px.zero,h0],by decide,by decide,by decide,by decide⟩
  have hp:∀ k,(gPx1 L xs most k).fine most:=fun k=>gPixel_ok _ _ _ _ _ h0 h1
  unfold gPx
  split
  · exact hz
  · split
    · obtain ⟨a,b⟩:=hp k
      refine ⟨?_,b.1,b.2.1,b.2.2.1,h0⟩
      simp [Px.ok] at a ⊢
      omega
    · split
      · exact hp 0
      · exact hp k
theorem gImage_fine (pw ph so mood:Int) (L:Nat) (xs:List DV) (x0 y0 x1 y1:Int) {most:Int} (h0:0≤most) (h1:most≤65535) (hc:1≤x1 - x0∧x1 - x0≤100∧1≤y1 - y0∧y1 - y0≤100):∀ p∈(gImage pw ph so mood L xs x0 y0 x1 y1 most).pixels,p.fine most:=by
  have hf:=(gImage_facts pw ph so mood L xs x0 y0 x1 y1 most hc).1
  intro p hp
  rw [gImage_is pw ph so mood L xs x0 y0 x1 y1 most _ _ rfl rfl] at hf hp
  split at hf
  · rename_i hs
    rw [if_pos hs,Im.pixels_so hf rfl] at hp
    obtain ⟨_,rfl⟩:=List.mem_replicate.1 hp
    exact gPx_fine _ _ _ h0 h1 _
  · rename_i hs
    rw [if_neg hs] at hp
    cases hk:ofOk (gSide pw 5 x0 x1 pw) (gSide ph 4 y0 y1 pw) (gPixels mood L xs most (IntKind.wrap .i64 (gSide pw 5 x0 x1 pw*gSide ph 4 y0 y1 pw)).toNat).length with
    | true=>
      rw [(imOf_pixels hk).2] at hp
      unfold gPixels at hp
      obtain ⟨k,_,rfl⟩:=List.mem_map.1 hp
      exact gPx_fine _ _ _ h0 h1 _
    | false=>
      rw [imOf_no hk] at hf
      exact absurd hf (by decide)
def okO (bits:Int) (mn:Nat):List Oq→List Oq→Option (List Oq)
  | [],st=>some st
  | o::r,st=>if errO bits mn o st=0 then okO bits mn r (stepO o st) else none
theorem okO_app {bits:Int} {mn:Nat}:∀ (l m:List Oq) (st:List Oq),okO bits mn (l++m) st=(okO bits mn l st).bind (okO bits mn m)
  | [],m,st=>rfl
  | o::l,m,st=>by
    simp only [List.cons_append,okO]
    split
    · exact okO_app l m _
    · rfl
theorem errO_pop {bits:Int} {mn:Nat} {st:List Oq} (h:st≠[]):errO bits mn popO st=0:=by
  have h1:popO.kind=3:=rfl
  have h2:popO.fields=true:=by decide
  unfold errO
  rw [if_neg (by rw [h1]; simp),if_neg (by rw [h2]; simp),if_pos h1,if_neg h]
theorem okO_pops {bits:Int} {mn:Nat}:∀ (n:Nat) (st:List Oq),n≤st.length→okO bits mn (List.replicate n popO) st=some (st.take (st.length - n))
  | 0,st,_=>by simp [okO]
  | n+1,st,h=>by
    have hne:st≠[]:=by intro e; subst e; simp at h
    have h1:popO.kind=3:=rfl
    rw [List.replicate_succ,okO,if_pos (errO_pop hne)]
    have e:stepO popO st=st.dropLast:=by unfold stepO; rw [if_neg (by rw [h1]; decide),if_pos h1]
    rw [e,okO_pops n _ (by simp; omega),List.dropLast_eq_take,List.take_take]
    congr 2
    simp; omega
theorem okO_one {bits:Int} {mn:Nat} {o:Oq} {st:List Oq} (h:errO bits mn o st=0):okO bits mn [o] st=some (stepO o st):=by
  simp only [okO]; rw [if_pos h]
theorem gOff_near {n c:Int} (h : -100≤c∧c≤100) : -200≤gOff n c∧gOff n c≤200:=by
  have b:=@modS_in (IntKind.wrap .i64 (Int.tdiv n 3)) 9 (by omega) (by omega)
  unfold gOff
  split <;> omega
theorem gOp_ok {bits:Int} {mn:Nat} {r:Rw} {push:Bool} {c:Rc} {most:Int} {st:List Oq} (hm:1≤mn∧mn≤64) (hc:(-100≤c.a∧c.a≤100) ∧ -100≤c.b∧c.b≤100) (hb:mostS bits=most) (h0:0≤most∧most≤65535) (hl:st.length < 64) :
    errO bits mn (gOp r push mn c (ctxB st) most) st=0:=by
  have b1:=@modS_in r.im mn (by omega) (by omega)
  have b2:=@modS_in (IntKind.wrap .i64 (Int.tdiv r.ma 4)) mn (by omega) (by omega)
  have b3:=@modS_in (IntKind.wrap .i64 (Int.tdiv r.ope 2)) 12 (by omega) (by omega)
  have b4:=@modS_in (IntKind.wrap .i64 (Int.tdiv r.mo 2)) 12 (by omega) (by omega)
  have o1:=@gOff_near r.x c.a hc.1
  have o2:=@gOff_near r.y c.b hc.2
  have o3:=@gOff_near r.mx c.a hc.1
  have o4:=@gOff_near r.my c.b hc.2
  have s1:=gSample_in (IntKind.wrap .i64 (Int.tdiv r.op 2)) h0.1 h0.2
  unfold errO
  rw [hb]
  rw [if_neg (by simp [gOp]; cases push <;> simp)]
  rw [if_neg (by
    cases push <;> simp only [gOp,Oq.fields] <;> by_cases q:modS r.ma 4=0 <;> simp [q] <;> omega)]
  rw [if_neg (by cases push <;> simp [gOp])]
  rw [if_neg (by
    cases push <;> simp only [gOp] <;> by_cases q:modS r.ma 4=0 <;> simp [q] <;> omega)]
  rw [if_neg (by
    simp only [Decidable.not_not,nearB_iff,gOp]
    refine ⟨?_,?_,?_,?_⟩ <;> split <;> omega)]
  rw [if_neg (by simp only [gOp]; split <;> omega)]
  rw [if_neg (by simp only [gOp]; split <;> omega)]
  rw [if_neg (by simp only [gOp]; split <;> omega)]
  rw [if_neg (by
    simp only [gOp]
    intro ⟨h1,h2⟩
    rw [h2] at h1
    simp at h1)]
  rw [if_neg (by omega)]
theorem Scn.bits_max (s:Scn):mostS s.bits=s.most∧bitsOk s.bits=true:=by
  have:=s.most_in
  unfold Scn.bits
  rcases this with h | h <;> rw [h] <;> decide
theorem Scn.run_okO (s:Scn) (k:Nat) (hk:k≤9):okO s.bits s.ims.length (s.run k).1 []=some (s.run k).2:=by
  induction k with
  | zero=>rfl
  | succ k ih=>
    have ih:=ih (by omega)
    have hl:=s.run_len k
    have F:=s.c_facts
    have li:=s.ims_len
    have hm:0≤s.most∧s.most≤65535:=by rcases s.most_in with h | h <;> rw [h] <;> omega
    by_cases h:modS (rwAt s.rxs (k*11)).k 8=0∧0 < (s.run k).2.length
    · rw [Scn.run_pop h,okO_app,ih]
      have hne:(s.run k).2≠[]:=by intro e; rw [e] at h; simp at h
      show okO _ _ [popO] _=_
      rw [okO_one (errO_pop hne)]
      rfl
    · obtain ⟨r1,r2⟩:=Scn.run_op h rfl
      have he:=@gOp_ok s.bits s.ims.length (rwAt s.rxs (k*11)) (decide (modS (rwAt s.rxs (k*11)).k 8 < 3)) s.c s.most (s.run k).2 (by omega) (by omega) s.bits_max.1 hm (by omega)
      have hkd:(gOp (rwAt s.rxs (k*11)) (decide (modS (rwAt s.rxs (k*11)).k 8 < 3)) s.ims.length s.c (ctxB (s.run k).2) s.most).kind=if modS (rwAt s.rxs (k*11)).k 8 < 3 then 2 else 1:=by simp [gOp]
      generalize gOp (rwAt s.rxs (k*11)) (decide (modS (rwAt s.rxs (k*11)).k 8 < 3)) s.ims.length s.c (ctxB (s.run k).2) s.most=o at *
      by_cases h2:o.kind=2
      · rw [r1 h2,okO_app,ih]
        show okO _ _ [o] _=_
        rw [okO_one he]
        unfold stepO
        rw [if_pos h2]
      · have h3:o.kind≠3:=by rw [hkd]; split <;> decide
        rw [r2 h2,okO_app,ih]
        show okO _ _ [o] _=_
        rw [okO_one he]
        unfold stepO
        rw [if_neg h2,if_neg h3]
theorem Scn.ops_ok (s:Scn):okO s.bits s.ims.length s.ops []=some []:=by
  unfold Scn.ops
  rw [okO_app,s.run_okO _ (by omega)]
  show okO _ _ _ _=_
  rw [okO_pops _ _ (Nat.le_refl _),Nat.sub_self]
  rfl
theorem Scn.ops_len (s:Scn):s.ops.length≤18:=by
  have:=s.run_len (min s.rn 9)
  unfold Scn.ops
  simp; omega
theorem Scn.ord_len (s:Scn):s.ord.length≤64:=by
  have ht:=s.tiles_in
  unfold Scn.ord permL
  split
  · simp
  · have:=(stp_len (ints s.oxs) (n:=s.tiles.toNat) (by omega) s.tiles.toNat (Nat.le_refl _)).2
    omega
theorem Scn.fine (s:Scn):∀ m∈s.ims,m.formed=true∧(m.w≤100∧m.h≤100)∧m.valid s.most=0∧∀ more,(gStrided m more).valid s.most=0:=by
  have CF:=s.c_facts
  have hq:1≤s.c.c - s.c.a∧s.c.c - s.c.a≤100∧1≤s.c.d - s.c.b∧s.c.d - s.c.b≤100:=by have:=s.facts; omega
  have hm:0≤s.most∧s.most≤65535:=by rcases s.most_in with h | h <;> rw [h] <;> omega
  have key:∀ m:Im,m.formed=true→m.w≤100∧m.h≤100→(∀ p∈m.pixels,p.fine s.most)→m.formed=true∧(m.w≤100∧m.h≤100)∧m.valid s.most=0∧∀ more,(gStrided m more).valid s.most=0:=fun m h1 h2 h3=>by
    refine ⟨h1,h2,(Im.valid_iff h1 _).2 fun p hp=>(h3 p hp).1,fun more=>(Im.valid_iff (gStrided_formed h1 h2 more) _).2 fun p hp=>?_⟩
    rw [gStrided_pixels h1 h2 more] at hp
    exact (h3 p hp).1
  intro m hmem
  unfold Scn.ims at hmem
  split at hmem
  · rw [List.mem_singleton] at hmem
    subst hmem
    have F:=s.facts
    have hf:fitsP s.gw s.gh=true:=by
      have:=Int.mul_le_mul F.2.2.1.2 F.2.2.2.1.2 (by omega) (by omega)
      simp [fitsP]; omega
    refine key _ (solidIm_formed _ hf) ⟨by show s.gw≤100; omega,by show s.gh≤100; omega⟩ fun p hp=>?_
    change p∈(solidIm s.gw s.gh ⟨s.most,0,0,s.most,s.most⟩).pixels at hp
    rw [Im.pixels_of (solidIm_formed _ hf),Im.list,List.mem_map] at hp
    obtain ⟨k,_,rfl⟩:=hp
    have e:(solidIm s.gw s.gh ⟨s.most,0,0,s.most,s.most⟩).nth k=⟨s.most,0,0,s.most,s.most⟩:=by simp [Im.nth,Im.px,solidIm]
    change ((solidIm s.gw s.gh ⟨s.most,0,0,s.most,s.most⟩).nth k).fine s.most
    rw [e]
    exact ⟨by simp [Px.ok]; omega,by simp only; omega,by simp only; omega,by simp only; omega,by simp only; omega⟩
  · simp only [Scn.pics,List.mem_map] at hmem
    obtain ⟨k,_,rfl⟩:=hmem
    obtain ⟨gf,g1,g2,g3,g4⟩:=gImage_facts (nAt s.pxs (k*5)) (nAt s.pxs (k*5+1)) (nAt s.pxs (k*5+2)) (nAt s.pxs (k*5+3)) (lAt s.pxs (k*5+4)) (cAt s.pxs (k*5+4)) s.c.a s.c.b s.c.c s.c.d s.most hq
    exact key _ gf ⟨g2,g4⟩ fun p hp=>gImage_fine _ _ _ _ _ _ _ _ _ _ hm.1 hm.2 hq p hp
section
variable {α:Type} {f:α→List DV} {m:Nat}
theorem flat_len (hf:∀ a,(f a).length=m) (l:List α):(l.flatMap f).length=l.length*m:=by
  induction l with
  | nil=>simp
  | cons a l ih=>rw [List.flatMap_cons,List.length_append,hf,ih,List.length_cons,Nat.add_mul]; omega
theorem flat_take (hf:∀ a,(f a).length=m):∀ (l:List α) (k:Nat),(l.flatMap f).take (k*m)=(l.take k).flatMap f
  | [],k=>by simp
  | a::l,0=>by simp
  | a::l,k+1=>by
    rw [List.flatMap_cons,List.take_succ_cons,List.flatMap_cons,List.take_append,hf,List.take_of_length_le (by rw [hf,Nat.add_mul]; omega),show (k+1)*m - m=k*m by rw [Nat.add_mul]; omega,flat_take hf l k]
theorem flat_drop (hf:∀ a,(f a).length=m):∀ (l:List α) (k:Nat),(l.flatMap f).drop (k*m)=(l.drop k).flatMap f
  | [],k=>by simp
  | a::l,0=>by simp
  | a::l,k+1=>by
    rw [List.flatMap_cons,List.drop_succ_cons,List.drop_append,hf,List.drop_of_length_le (by rw [hf,Nat.add_mul]; omega),show (k+1)*m - m=k*m by rw [Nat.add_mul]; omega,flat_drop hf l k,List.nil_append]
theorem flat_sets (hf:∀ a,(f a).length=m) {l:List α} {k:Nat} (h:k < l.length) (a:α):sets (l.flatMap f) (k*m) (f a)=(l.set k a).flatMap f:=by
  have hle:(k+1)*m≤l.length*m:=Nat.mul_le_mul_right _ (by omega)
  rw [sets_eq _ _ _ (by rw [flat_len hf,hf]; rw [Nat.add_mul] at hle; omega),hf,flat_take hf,show k*m+m=(k+1)*m by rw [Nat.add_mul]; omega,flat_drop hf,List.set_eq_take_append_cons_drop,if_pos h]
  simp
end
end Go.Proofs.Ytlnfgagmiogkgaa
namespace Go.Proofs.Ytlnfgagmiogkgaa
open Go.RowKit
set_option linter.unusedVariables false
set_option linter.unusedSimpArgs false
attribute [local irreducible] Ans AnsO AnsG AnsN AnsI
set_option maxRecDepth 4000
end Go.Proofs.Ytlnfgagmiogkgaa
namespace Go.Proofs.Ytlnfgagmiogkgaa
open Go.RowKit
set_option linter.unusedVariables false
set_option linter.unusedSimpArgs false
def Cl.thaw (bx:Nat→Bx):Cl→Option DV
  | .d v=>some v
  | .nil=>some (.sl 0 [])
  | .ref b n=>match inside (bx b) with
    | some xs=>some (.sl n xs)
    | none=>none
  | _=>none
def thaws (bx:Nat→Bx):List Cl→Option (List DV)
  | []=>some []
  | c::cs=>match c.thaw bx,thaws bx cs with
    | some d,some ds=>some (d::ds)
    | _,_=>none
mutual
def AV.thaw (bx:Nat→Bx):AV→Option RV
  | .one c=>match c.thaw bx with
    | some d=>some (.d d)
    | none=>none
  | .agg cs=>match thaws bx cs with
    | some ds=>some (.agg ds)
    | none=>none
  | .tup vs=>match AV.thawL bx vs with
    | some rs=>some (.tup rs)
    | none=>none
def AV.thawL (bx:Nat→Bx):List AV→Option (List RV)
  | []=>some []
  | x::xs=>match x.thaw bx,AV.thawL bx xs with
    | some r,some rs=>some (r::rs)
    | _,_=>none
end
section
variable {w:World} {V V':Nat→Prop} {ι:Names} {bx:Nat→Bx}
theorem thaw_cl (hk:∀ g,V g→V' g) (hb:∀ b,RepBx w V ι bx b (bx b)) (ho:∀ b g c,(bx b).live=true→ι b=some (g,c)→V' g) {c:Cl} {d:DV} {v:Value} (h:c.thaw bx=some d) (hr:RepCl w V ι bx c v):RepD w V' d v:=by
  have hkk:Keeps w V w V':=fun g off u hV hu=>⟨hk g hV,hu⟩
  cases c with
  | d x=>
    simp only [Cl.thaw,Option.some.injEq] at h
    subst h
    exact RepD.keep hkk hr
  | nil=>
    simp only [Cl.thaw,Option.some.injEq] at h
    subst h
    simp only [RepCl] at hr
    simp only [RepD]
    exact ⟨none,0,hr,Nat.le_refl _,Nat.zero_le _,fun hne=>absurd rfl hne⟩
  | ref b n=>
    simp only [Cl.thaw] at h
    split at h
    · rename_i xs hin
      simp only [Option.some.injEq] at h
      subst h
      simp only [RepCl] at hr
      have hbb:=hb b
      cases hB:bx b with
      | row e size ys=>
        rw [hB] at hin hbb
        simp only [inside,Option.some.injEq] at hin
        subst hin
        obtain ⟨_,⟨h1,h2,h3⟩ | ⟨g,cap,h1,h2,h3⟩⟩:=hr
        · rcases hbb with ⟨h4,h5⟩ | ⟨g,cap,cur,h4,_⟩
          · subst h5 h2
            simp only [RepD]
            exact ⟨none,0,h3,Nat.le_refl _,Nat.zero_le _,fun hne=>absurd rfl hne⟩
          · rw [h1] at h4; cases h4
        · rcases hbb with ⟨h4,h5⟩ | ⟨g',cap',cur,h4,h5,h6,h7,h8⟩
          · rw [h1] at h4; cases h4
          · rw [h1] at h4
            injection h4 with h4
            injection h4 with h4 h4'
            subst h4 h4'
            simp only [RepD]
            exact ⟨_,cap,h2,h3,h6,fun hne=>⟨g,0,rfl,ho b g cap (by rw [hB]; rfl) h1,RepCells.of_row h5 (h8.keep hkk)⟩⟩
      | ice ys=>
        rw [hB] at hin hbb
        simp only [inside,Option.some.injEq] at hin
        subst hin
        obtain ⟨_,⟨h1,h2,h3⟩ | ⟨g,cap,h1,h2,h3⟩⟩:=hr
        · rcases hbb with ⟨h4,h5⟩ | ⟨g,cap,h4,_⟩
          · subst h5 h2
            simp only [RepD]
            exact ⟨none,0,h3,Nat.le_refl _,Nat.zero_le _,fun hne=>absurd rfl hne⟩
          · rw [h1] at h4; cases h4
        · rcases hbb with ⟨h4,h5⟩ | ⟨g',cap',h4,h5,h6⟩
          · rw [h1] at h4; cases h4
          · rw [h1] at h4
            injection h4 with h4
            injection h4 with h4 h4'
            subst h4 h4'
            simp only [RepD]
            refine ⟨_,cap,h2,h3,h6,fun hne=>⟨g,0,rfl,?_⟩⟩
            have h9:=Lies.keep hkk h5
            exact h9 hne
      | fresh=>rw [hB] at hin; cases hin
      | gone=>rw [hB] at hin; cases hin
      | cells cs=>rw [hB] at hin; cases hin
    · cases h
  | lit u=>cases h
  | ptr b off=>cases h
  | vp cs off=>cases h
  | clo f cs=>cases h
  | dead=>cases h
theorem thaw_cls (hk:∀ g,V g→V' g) (hb:∀ b,RepBx w V ι bx b (bx b)) (ho:∀ b g c,(bx b).live=true→ι b=some (g,c)→V' g):∀ {cs:List Cl} {ds:List DV} {vs:List Value},thaws bx cs=some ds→RepCls w V ι bx cs vs→RepDs w V' ds vs
  | [],ds,vs,h,hr=>by
    simp only [thaws,Option.some.injEq] at h
    subst h
    cases vs with
    | nil=>trivial
    | cons _ _=>exact hr.elim
  | c::cs,ds,vs,h,hr=>by
    simp only [thaws] at h
    split at h
    · rename_i d ds' h1 h2
      simp only [Option.some.injEq] at h
      subst h
      cases vs with
      | nil=>exact hr.elim
      | cons v vs=>exact ⟨thaw_cl hk hb ho h1 hr.1,thaw_cls hk hb ho h2 hr.2⟩
    · cases h
mutual
theorem thaw_av (hk:∀ g,V g→V' g) (hb:∀ b,RepBx w V ι bx b (bx b)) (ho:∀ b g c,(bx b).live=true→ι b=some (g,c)→V' g):∀ {x:AV} {r:RV} {v:Value},x.thaw bx=some r→RepAV w V ι bx x v→RepR w V' r v
  | .one c,r,v,h,hr=>by
    simp only [AV.thaw] at h
    split at h
    · rename_i d h1
      simp only [Option.some.injEq] at h
      subst h
      simp only [RepAV] at hr
      simp only [RepR]
      exact thaw_cl hk hb ho h1 hr
    · cases h
  | .agg cs,r,v,h,hr=>by
    simp only [AV.thaw] at h
    split at h
    · rename_i d h1
      simp only [Option.some.injEq] at h
      subst h
      simp only [RepAV] at hr
      obtain ⟨cur,e,hr⟩:=hr
      simp only [RepR]
      exact ⟨cur,e,thaw_cls hk hb ho h1 hr⟩
    · cases h
  | .tup vs,r,v,h,hr=>by
    simp only [AV.thaw] at h
    split at h
    · rename_i d h1
      simp only [Option.some.injEq] at h
      subst h
      simp only [RepAV] at hr
      obtain ⟨cur,e,hr⟩:=hr
      simp only [RepR]
      exact ⟨cur,e,thaw_avs hk hb ho h1 hr⟩
    · cases h
theorem thaw_avs (hk:∀ g,V g→V' g) (hb:∀ b,RepBx w V ι bx b (bx b)) (ho:∀ b g c,(bx b).live=true→ι b=some (g,c)→V' g):∀ {xs:List AV} {rs:List RV} {vs:List Value},AV.thawL bx xs=some rs→RepAVs w V ι bx xs vs→RepRs w V' rs vs
  | [],rs,vs,h,hr=>by
    simp only [AV.thawL,Option.some.injEq] at h
    subst h
    cases vs with
    | nil=>simp only [RepRs]
    | cons _ _=>simp only [RepAVs] at hr
  | x::xs,rs,vs,h,hr=>by
    simp only [AV.thawL] at h
    split at h
    · rename_i d ds' h1 h2
      simp only [Option.some.injEq] at h
      subst h
      cases vs with
      | nil=>simp only [RepAVs] at hr
      | cons v vs=>
        simp only [RepAVs] at hr
        simp only [RepRs]
        exact ⟨thaw_av hk hb ho h1 hr.1,thaw_avs hk hb ho h2 hr.2⟩
    · cases h
end
end
theorem AnsG.ans {P:Program} {f:FuncId} {args:List AV} {rs:List RV} {r:Ret} {res:RV} (h:AnsG P f 0 args [] r) (ha:args=RV.avs rs) (hr:r.res.thaw (boxes r.outs)=some res):Ans P f rs res:=by
  subst ha
  intro w S vs hg hrep
  have hno:∀ b,(boxes ([]:List Bx) b)=.fresh:=fun b=>by simp [boxes]
  have hnone:∀ g,¬ OwnB (boxes ([]:List Bx)) (fun _=>none) g:=fun g ⟨b,c,hl,e⟩=>by rw [hno] at hl; cases hl
  have hh:Handed_ w S (fun _=>none) (RV.avs rs) [] vs.toList:=by
    refine ⟨fun b g c hl e=>?_,fun b b' g c c' hl hl' hne e=>?_,fun b=>?_,rep_avs hrep⟩
    · rw [hno] at hl; cases hl
    · rw [hno] at hl; cases hl
    · rw [hno]; trivial
  refine (h w S _ vs hg hh).mono fun ed w' hp=>?_
  obtain ⟨v,ι',rfl,ha⟩:=hp
  refine ⟨v,rfl,thaw_av (fun g hV=>?_) ha.bx (fun b g c hl e=>?_) hr ha.rep,ha.bel.below hnone⟩
  · rcases hV.1 with ⟨_,h⟩ | h | h
    · exact .inl h
    · exact .inr h
    · exact absurd h (hnone g)
  · rcases (ha.own b g c hl e).1 with h | h
    · exact .inr h
    · exact absurd h (hnone g)
end Go.Proofs.Ytlnfgagmiogkgaa
namespace Go.Proofs.Ytlnfgagmiogkgaa
open Go.RowKit
set_option linter.unusedVariables false
set_option linter.unusedSimpArgs false
attribute [local irreducible] Ans AnsO AnsG AnsN AnsI
set_option maxRecDepth 4000
def rdPxs (n:Nat) (l:List Int):List Px:=(List.range n).map fun i=>rdPx (l.drop (10*i))
def rdW (l:List Int):Int:=tkV 4 (l.drop 1)
def rdH (l:List Int):Int:=tkV 4 (l.drop 5)
def rdN (l:List Int):Nat:=(rdW l*rdH l).toNat
def rdIm (l:List Int):Im:=if tkV 1 l=1 then solidIm (rdW l) (rdH l) (rdPx (l.drop 9)) else imOf (rdW l) (rdH l) (rdPxs (rdN l) (l.drop 9))
def imRest (l:List Int):List Int:=if tkV 1 l=1 then l.drop 19 else l.drop (9+10*rdN l)
def imHead (l:List Int):Prop:=9≤l.length∧tkV 1 l≤1∧1≤rdW l∧1≤rdH l∧rdW l*rdH l≤16777216
def imWhen (l:List Int):Prop:=imHead l∧(if tkV 1 l=1 then 19≤l.length else 9+10*rdN l≤l.length)
def preP (l:List Int) (k:Nat):List Px:=rdPxs k (l.drop 9)++List.replicate (rdN l - k) Px.zero
theorem image_Of_dat (w h:Int) (l:List Px):Ans Try.prog 89 [RV.d (DV.int .i64 w),RV.d (DV.int .i64 h),RV.d (DV.sl l.length (pxs l))] (RV.tup [imR (imOf w h l),RV.d (DV.bool (ofOk w h l.length))]):=by
  have:=image_Of_im w h l.length (pxs l) (isPxs_pxs l)
  rw [toPxs_pxs] at this
  exact this.ans rfl rfl
theorem preP_len {l:List Int} {k:Nat} (h:k≤rdN l):(preP l k).length=rdN l:=by
  unfold preP rdPxs
  simp
  omega
theorem preP_set {l:List Int} {k:Nat} (h:k < rdN l):(preP l k).set k (rdPx (l.drop (9+10*k)))=preP l (k+1):=by
  unfold preP
  have h1:(rdPxs k (l.drop 9)).length=k:=by simp [rdPxs]
  have h2:rdN l - k=(rdN l - (k+1))+1:=by omega
  rw [List.set_append_right _ _ (by omega),h1,Nat.sub_self,h2,List.replicate_succ,List.set_cons_zero]
  have h3:rdPxs (k+1) (l.drop 9)=rdPxs k (l.drop 9)++[rdPx (l.drop (9+10*k))]:=by
    unfold rdPxs
    rw [List.range_succ,List.map_append]
    simp [List.drop_drop]
  rw [h3,List.append_assoc]
  rfl
theorem preP_all (l:List Int):preP l (rdN l)=rdPxs (rdN l) (l.drop 9):=by
  unfold preP
  simp
theorem flatten_repl (n:Nat):pxs (List.replicate n Px.zero)=repl n [DV.int .u16 0,DV.int .u16 0,DV.int .u16 0,DV.int .u16 0,DV.int .u16 0]:=by
  induction n with
  | zero=>rfl
  | succ n ih=>
    rw [List.replicate_succ]
    show Px.zero.ds++pxs (List.replicate n Px.zero)=_
    rw [ih]
    simp [repl,List.replicate_succ]
    rfl
theorem preP_zero (l:List Int):preP l 0=List.replicate (rdN l) Px.zero:=by
  unfold preP rdPxs
  simp
def gamDb:Gam where
 pure:=fun f xs=>
  if f=87 then (match xs with | [.d (.int _ w),.d (.int _ h),.agg [.int _ c0,.int _ c1,.int _ c2,.int _ ca,.int _ cf]]=>some (RV.agg [dJ ((solidIm w h ⟨c0,c1,c2,ca,cf⟩).w),dJ ((solidIm w h ⟨c0,c1,c2,ca,cf⟩).h),dQ ((solidIm w h ⟨c0,c1,c2,ca,cf⟩).so),dK (((solidIm w h ⟨c0,c1,c2,ca,cf⟩).c).a),dK (((solidIm w h ⟨c0,c1,c2,ca,cf⟩).c).b),dK (((solidIm w h ⟨c0,c1,c2,ca,cf⟩).c).c),dK (((solidIm w h ⟨c0,c1,c2,ca,cf⟩).c).al),dK (((solidIm w h ⟨c0,c1,c2,ca,cf⟩).c).f),dJ (((solidIm w h ⟨c0,c1,c2,ca,cf⟩).p0).w),dJ (((solidIm w h ⟨c0,c1,c2,ca,cf⟩).p0).h),dJ (((solidIm w h ⟨c0,c1,c2,ca,cf⟩).p0).s),DV.sl (((solidIm w h ⟨c0,c1,c2,ca,cf⟩).p0).n) (((solidIm w h ⟨c0,c1,c2,ca,cf⟩).p0).xs),dJ (((solidIm w h ⟨c0,c1,c2,ca,cf⟩).p1).w),dJ (((solidIm w h ⟨c0,c1,c2,ca,cf⟩).p1).h),dJ (((solidIm w h ⟨c0,c1,c2,ca,cf⟩).p1).s),DV.sl (((solidIm w h ⟨c0,c1,c2,ca,cf⟩).p1).n) (((solidIm w h ⟨c0,c1,c2,ca,cf⟩).p1).xs),dJ (((solidIm w h ⟨c0,c1,c2,ca,cf⟩).p2).w),dJ (((solidIm w h ⟨c0,c1,c2,ca,cf⟩).p2).h),dJ (((solidIm w h ⟨c0,c1,c2,ca,cf⟩).p2).s),DV.sl (((solidIm w h ⟨c0,c1,c2,ca,cf⟩).p2).n) (((solidIm w h ⟨c0,c1,c2,ca,cf⟩).p2).xs),dJ (((solidIm w h ⟨c0,c1,c2,ca,cf⟩).p3).w),dJ (((solidIm w h ⟨c0,c1,c2,ca,cf⟩).p3).h),dJ (((solidIm w h ⟨c0,c1,c2,ca,cf⟩).p3).s),DV.sl (((solidIm w h ⟨c0,c1,c2,ca,cf⟩).p3).n) (((solidIm w h ⟨c0,c1,c2,ca,cf⟩).p3).xs),dJ (((solidIm w h ⟨c0,c1,c2,ca,cf⟩).p4).w),dJ (((solidIm w h ⟨c0,c1,c2,ca,cf⟩).p4).h),dJ (((solidIm w h ⟨c0,c1,c2,ca,cf⟩).p4).s),DV.sl (((solidIm w h ⟨c0,c1,c2,ca,cf⟩).p4).n) (((solidIm w h ⟨c0,c1,c2,ca,cf⟩).p4).xs)]) | _=>none) else
  if f=89 then (match xs with | [.d (.int _ w),.d (.int _ h),.d (.sl n xs)]=>some (RV.tup [RV.agg [dJ ((imOf w h (toPxs xs)).w),dJ ((imOf w h (toPxs xs)).h),dQ ((imOf w h (toPxs xs)).so),dK (((imOf w h (toPxs xs)).c).a),dK (((imOf w h (toPxs xs)).c).b),dK (((imOf w h (toPxs xs)).c).c),dK (((imOf w h (toPxs xs)).c).al),dK (((imOf w h (toPxs xs)).c).f),dJ (((imOf w h (toPxs xs)).p0).w),dJ (((imOf w h (toPxs xs)).p0).h),dJ (((imOf w h (toPxs xs)).p0).s),DV.sl (((imOf w h (toPxs xs)).p0).n) (((imOf w h (toPxs xs)).p0).xs),dJ (((imOf w h (toPxs xs)).p1).w),dJ (((imOf w h (toPxs xs)).p1).h),dJ (((imOf w h (toPxs xs)).p1).s),DV.sl (((imOf w h (toPxs xs)).p1).n) (((imOf w h (toPxs xs)).p1).xs),dJ (((imOf w h (toPxs xs)).p2).w),dJ (((imOf w h (toPxs xs)).p2).h),dJ (((imOf w h (toPxs xs)).p2).s),DV.sl (((imOf w h (toPxs xs)).p2).n) (((imOf w h (toPxs xs)).p2).xs),dJ (((imOf w h (toPxs xs)).p3).w),dJ (((imOf w h (toPxs xs)).p3).h),dJ (((imOf w h (toPxs xs)).p3).s),DV.sl (((imOf w h (toPxs xs)).p3).n) (((imOf w h (toPxs xs)).p3).xs),dJ (((imOf w h (toPxs xs)).p4).w),dJ (((imOf w h (toPxs xs)).p4).h),dJ (((imOf w h (toPxs xs)).p4).s),DV.sl (((imOf w h (toPxs xs)).p4).n) (((imOf w h (toPxs xs)).p4).xs)],RV.d (dQ (ofOk w h n))]) | _=>none) else
  none
 modes:=fun f=>
  if f=45 then some ([true],0,0) else
  if f=72 then some ([false,true],1,0) else
  if f=88 then some ([false],1,0) else
  none
 proc:=fun f xs bs=>
  if f=45 then (match xs,bs with | [AV.one (Cl.d (DV.bool b_))],[]=>some ⟨AV.tup [],[],false⟩ | _,_=>none) else
  if f=72 then (match xs,bs with | [AV.one (Cl.ptr 0 0),AV.one (Cl.d (DV.int _ n))],[Bx.cells [Cl.d (DV.sl bn bxs)]]=>some ⟨AV.one (cJ ((tkV n.toNat (ints bxs)))),[Bx.cells [Cl.d (DV.sl (((ints bxs).drop n.toNat).length) (u8s ((ints bxs).drop n.toNat)))]],false⟩ | _,_=>none) else
  if f=88 then (match xs,bs with | [AV.one (Cl.ptr 0 0)],[Bx.cells [Cl.d (DV.sl bn bxs)]]=>some ⟨AV.agg [cK (((rdPx (ints bxs)).a)),cK (((rdPx (ints bxs)).b)),cK (((rdPx (ints bxs)).c)),cK (((rdPx (ints bxs)).al)),cK (((rdPx (ints bxs)).f))],[Bx.cells [Cl.d (DV.sl (((ints bxs).drop 10).length) (u8s ((ints bxs).drop 10)))]],false⟩ | _,_=>none) else
  none
 iter:=fun f cs=>
  none
def gamDbX:Pan where
 may:=fun f=>f==45 || f==72 || f==88 || false
 when_:=fun f xs bs=>
  if f=45 then (match xs,bs with | [AV.one (Cl.d (DV.bool b_))],[]=>some (b_=true) | _,_=>none) else
  if f=72 then (match xs,bs with | [AV.one (Cl.ptr 0 0),AV.one (Cl.d (DV.int _ n))],[Bx.cells [Cl.d (DV.sl bn bxs)]]=>some (n.toNat≤(ints bxs).length) | _,_=>none) else
  if f=88 then (match xs,bs with | [AV.one (Cl.ptr 0 0)],[Bx.cells [Cl.d (DV.sl bn bxs)]]=>some (10≤(ints bxs).length) | _,_=>none) else
  none
def script_reader_image_ann (b:List Int):Ann:=let zz0:=(4,AV.one (cJ ((rdW b)))); let zz1:=(5,AV.one (cJ ((rdH b)))); let zz2:=(2,Bx.cells [cJ (0),cJ (0),Cl.d (dQ false),cK (0),cK (0),cK (0),cK (0),cK (0),cJ (0),cJ (0),cJ (0),Cl.nil,cJ (0),cJ (0),cJ (0),Cl.nil,cJ (0),cJ (0),cJ (0),Cl.nil,cJ (0),cJ (0),cJ (0),Cl.nil,cJ (0),cJ (0),cJ (0),Cl.nil]); (Ann.seq Ann.leaf (Ann.seq Ann.leaf (Ann.cut ⟨Unit,fun u:Unit=>imHead b,fun u:Unit=>⟨[(0,AV.one (Cl.ptr 0 0)),(2,AV.one (Cl.ptr 2 0)),(3,AV.one (cJ ((tkV 1 b)))),zz0,zz1],[(0,Bx.cells [Cl.d (DV.sl ((b.drop 9).length) (u8s (b.drop 9)))]),zz2]⟩,fun u:Unit=>0⟩ Ann.leaf fun u=>(Ann.seq Ann.leaf (Ann.seq Ann.leaf (Ann.seq Ann.leaf (Ann.seq (Ann.seq Ann.leaf (Ann.loop ⟨Nat,fun k=>k≤rdN b,fun k=>⟨[(0,AV.one (Cl.ptr 0 0)),(2,AV.one (Cl.ptr 2 0)),zz0,zz1,(6,AV.one (Cl.ref 9001 (rdN b))),(56,AV.one (cJ ((((wK ((rdW b)*(rdH b))).toNat:Nat):Int)))),(57,AV.one (cJ (((k:Nat):Int))))],[(0,Bx.cells [Cl.d (DV.sl ((b.drop (9+10*k)).length) (u8s (b.drop (9+10*k))))]),zz2,(9001,Bx.row 37 5 (pxs (preP b k)))]⟩,fun k=>rdN b - k⟩ fun k=>Ann.leaf)) Ann.leaf)))))))
theorem script_reader_image_vc (b:List Int):xcg Try.prog gamDb gamDbX chM (¬ (imWhen b)) ⟨74,fun _=>false,List.range 1,false⟩ (bodyOf Try.f75) (script_reader_image_ann b) kn0 (startG [AV.one (Cl.ptr 0 0)] [Bx.cells [Cl.d (DV.sl b.length (u8s b))]]) (fun e kn s_=>(imWhen b)∧postG Try.prog ⟨74,fun _=>false,List.range 1,false⟩ Try.f75.results.toList ⟨(imD (rdIm b)),[Bx.cells [Cl.d (DV.sl ((imRest b).length) (u8s (imRest b)))]],false⟩ e kn s_) =
  (let zz0:=[AV.one (Cl.ptr 0 0),AV.one (cJ (1))]; let zz1:=[Bx.cells [Cl.d (DV.sl b.length (u8s b))]]; let zz2:=[Bx.cells [Cl.d (DV.sl (((ints (u8s b)).drop 1).length) (u8s ((ints (u8s b)).drop 1)))]]; let zz3:=(4≤(ints (u8s ((ints (u8s b)).drop 1))).length); let zz4:=[AV.one (Cl.ptr 0 0),AV.one (cJ (4))]; let zz5:=[Bx.cells [Cl.d (DV.sl (((ints (u8s ((ints (u8s b)).drop 1))).drop 4).length) (u8s ((ints (u8s ((ints (u8s b)).drop 1))).drop 4)))]]; let zz6:=(4≤(ints (u8s ((ints (u8s ((ints (u8s b)).drop 1))).drop 4))).length); let zz7:=((decide ((tkV 4 (ints (u8s ((ints (u8s b)).drop 1))))≤(wK (Int.tdiv (16777216:Int) (tkV 4 (ints (u8s ((ints (u8s ((ints (u8s b)).drop 1))).drop 4))))))))=true); let zz8:=[AV.one (Cl.d (dQ (decide ((tkV 4 (ints (u8s ((ints (u8s b)).drop 1))))≤(wK (Int.tdiv (16777216:Int) (tkV 4 (ints (u8s ((ints (u8s ((ints (u8s b)).drop 1))).drop 4))))))))))]; let zz9:=[DV.sl ((b.drop 9).length) (u8s (b.drop 9))]; let zz10:=(dJ 0=dJ 0); let zz11:=(dK 0=dK 0); let zz12:=(zz10∧zz10∧(dQ false=dQ false)∧zz11∧zz11∧zz11∧zz11∧zz11∧zz10∧zz10∧zz10∧True∧zz10∧zz10∧zz10∧True∧zz10∧zz10∧zz10∧True∧zz10∧zz10∧zz10∧True∧zz10∧zz10∧zz10∧True∧True); let zz13:=(((0=0)∧(0=0)∧(dJ (tkV 1 (ints (u8s b)))=dJ (tkV 1 b))∧(dJ (tkV 4 (ints (u8s ((ints (u8s b)).drop 1))))=dJ (rdW b))∧(dJ (tkV 4 (ints (u8s ((ints (u8s ((ints (u8s b)).drop 1))).drop 4))))=dJ (rdH b))∧True)∧(([DV.sl (((ints (u8s ((ints (u8s ((ints (u8s b)).drop 1))).drop 4))).drop 4).length) (u8s ((ints (u8s ((ints (u8s ((ints (u8s b)).drop 1))).drop 4))).drop 4))]=zz9)∧zz12∧True)); let zz14:=[AV.one (Cl.d (dQ false))]; let zz15:=(10≤(ints (u8s (b.drop 9))).length); let zz16:=[Bx.cells [Cl.d (DV.sl ((b.drop 9).length) (u8s (b.drop 9)))]]; let zz17:=[DV.sl ((imRest b).length) (u8s (imRest b))]; let zz18:=(wK ((rdW b)*(rdH b))); let zz19:=((decide (zz18≤(wK (Int.tdiv (((b.drop 9).length:Nat):Int) (10:Int)))))=true); let zz20:=[AV.one (Cl.d (dQ (decide (zz18≤(wK (Int.tdiv (((b.drop 9).length:Nat):Int) (10:Int)))))))]; let zz21:=(dJ (rdW b)=dJ (rdW b)); let zz22:=(dJ (rdH b)=dJ (rdH b)); let zz23:=(dJ ((zz18.toNat:Nat):Int)=dJ ((zz18.toNat:Nat):Int)); let zz24:=fun (k:Nat)=>[DV.sl ((b.drop (9+10*k)).length) (u8s (b.drop (9+10*k)))]; let zz25:=fun (k:Nat)=>(10≤(ints (u8s (b.drop (9+10*k)))).length); let zz26:=fun (k:Nat)=>[Bx.cells [Cl.d (DV.sl ((b.drop (9+10*k)).length) (u8s (b.drop (9+10*k))))]]; tU2 ((((¬ (1≤(ints (u8s b)).length))→PanG Try.prog chM 72 zz0 zz1∧(¬ (imWhen b)))∧((1≤(ints (u8s b)).length)→(AnsG Try.prog 72 1 zz0 zz1 ⟨AV.one (cJ ((tkV 1 (ints (u8s b))))),zz2,false⟩)∧True∧(((¬ zz3)→PanG Try.prog chM 72 zz4 zz2∧(¬ (imWhen b)))∧(zz3→(AnsG Try.prog 72 1 zz4 zz2 ⟨AV.one (cJ ((tkV 4 (ints (u8s ((ints (u8s b)).drop 1)))))),zz5,false⟩)∧True∧(((¬ zz6)→PanG Try.prog chM 72 zz4 zz5∧(¬ (imWhen b)))∧(zz6→(AnsG Try.prog 72 1 zz4 zz5 ⟨AV.one (cJ ((tkV 4 (ints (u8s ((ints (u8s ((ints (u8s b)).drop 1))).drop 4)))))),[Bx.cells [Cl.d (DV.sl (((ints (u8s ((ints (u8s ((ints (u8s b)).drop 1))).drop 4))).drop 4).length) (u8s ((ints (u8s ((ints (u8s ((ints (u8s b)).drop 1))).drop 4))).drop 4)))]],false⟩)∧tU3 ((tU3 ((((decide ((tkV 1 (ints (u8s b)))≤(1:Int)))=true→tU4 ((((decide ((tkV 4 (ints (u8s ((ints (u8s b)).drop 1))))≥(1:Int)))=true→tU4 ((((decide ((tkV 4 (ints (u8s ((ints (u8s ((ints (u8s b)).drop 1))).drop 4))))≥(1:Int)))=true→tU2 (((tkV 4 (ints (u8s ((ints (u8s ((ints (u8s b)).drop 1))).drop 4))))≠0)∧tU2 ((((¬ zz7)→PanG Try.prog chM 45 zz8 []∧(¬ (imWhen b)))∧(zz7→(AnsG Try.prog 45 0 zz8 [] ⟨AV.tup [],[],false⟩)∧∃ u:Unit,(imHead b)∧zz13)))))∧((decide ((tkV 4 (ints (u8s ((ints (u8s ((ints (u8s b)).drop 1))).drop 4))))≥(1:Int)))=(!true)→True∧(((¬ (false=true))→PanG Try.prog chM 45 zz14 []∧(¬ (imWhen b)))∧((false=true)→(AnsG Try.prog 45 0 zz14 [] ⟨AV.tup [],[],false⟩)∧∃ u:Unit,(imHead b)∧zz13))))))∧((decide ((tkV 4 (ints (u8s ((ints (u8s b)).drop 1))))≥(1:Int)))=(!true)→tU3 ((((¬ (false=true))→PanG Try.prog chM 45 zz14 []∧(¬ (imWhen b)))∧((false=true)→(AnsG Try.prog 45 0 zz14 [] ⟨AV.tup [],[],false⟩)∧∃ u:Unit,(imHead b)∧zz13)))))))∧((decide ((tkV 1 (ints (u8s b)))≤(1:Int)))=(!true)→tU5 ((((¬ (false=true))→PanG Try.prog chM 45 zz14 []∧(¬ (imWhen b)))∧((false=true)→(AnsG Try.prog 45 0 zz14 [] ⟨AV.tup [],[],false⟩)∧∃ u:Unit,(imHead b)∧zz13)))))))∧∀ u:Unit,(imHead b)→tU2 (((((tkV 1 b)==(1:Int))=true→tU3 ((((¬ zz15)→PanG Try.prog chM 88 [AV.one (Cl.ptr 0 0)] zz16∧(¬ (imWhen b)))∧(zz15→(AnsG Try.prog 88 1 [AV.one (Cl.ptr 0 0)] zz16 ⟨AV.agg [cK (((rdPx (ints (u8s (b.drop 9)))).a)),cK (((rdPx (ints (u8s (b.drop 9)))).b)),cK (((rdPx (ints (u8s (b.drop 9)))).c)),cK (((rdPx (ints (u8s (b.drop 9)))).al)),cK (((rdPx (ints (u8s (b.drop 9)))).f))],[Bx.cells [Cl.d (DV.sl (((ints (u8s (b.drop 9))).drop 10).length) (u8s ((ints (u8s (b.drop 9))).drop 10)))]],false⟩)∧(Ans Try.prog 87 [RV.d (dJ (rdW b)),RV.d (dJ (rdH b)),RV.agg [dK ((rdPx (ints (u8s (b.drop 9)))).a),dK ((rdPx (ints (u8s (b.drop 9)))).b),dK ((rdPx (ints (u8s (b.drop 9)))).c),dK ((rdPx (ints (u8s (b.drop 9)))).al),dK ((rdPx (ints (u8s (b.drop 9)))).f)]] ((imR (solidIm (rdW b) (rdH b) (rdPx (ints (u8s (b.drop 9))))))))∧True∧((imWhen b)∧((((Im.ds (solidIm (rdW b) (rdH b) (rdPx (ints (u8s (b.drop 9))))))=(Im.ds (rdIm b)))∧True)∧(([DV.sl (((ints (u8s (b.drop 9))).drop 10).length) (u8s ((ints (u8s (b.drop 9))).drop 10))]=zz17)∧True))∧freshOK ⟨(imD (rdIm b)),[Bx.cells [Cl.d (DV.sl ((imRest b).length) (u8s (imRest b)))]],false⟩)))))∧(((tkV 1 b)==(1:Int))=false→tU8 (((10:Int)≠0)∧True∧(((¬ zz19)→PanG Try.prog chM 45 zz20 []∧(¬ (imWhen b)))∧(zz19→(AnsG Try.prog 45 0 zz20 [] ⟨AV.tup [],[],false⟩)∧tU3 ((0≤wK ((rdW b)*(rdH b))∧wK ((rdW b)*(rdH b))≤wK ((rdW b)*(rdH b))∧wK ((rdW b)*(rdH b))≤((maxLen:Nat):Int)∧((10:Nat):Int)*zz18≤281474976710656)∧tU2 ((zz18.toNat≤maxLen)∧True∧((∃ k:Nat,(k≤rdN b)∧(((0=0)∧(0=0)∧zz21∧zz22∧(zz18.toNat=rdN b)∧zz23∧(dJ 0=dJ ((k:Nat):Int))∧True)∧((zz9=(zz24 k))∧zz12∧(repl zz18.toNat [dK 0,dK 0,dK 0,dK 0,dK 0]=pxs (preP b k))∧True)))∧∀ k:Nat,(k≤rdN b)→True∧(((decide (((k:Nat):Int) < ((zz18.toNat:Nat):Int)))=true→tU5 ((((¬ (zz25 k))→PanG Try.prog chM 88 [AV.one (Cl.ptr 0 0)] (zz26 k)∧(¬ (imWhen b)))∧((zz25 k)→(AnsG Try.prog 88 1 [AV.one (Cl.ptr 0 0)] (zz26 k) ⟨AV.agg [cK (((rdPx (ints (u8s (b.drop (9+10*k))))).a)),cK (((rdPx (ints (u8s (b.drop (9+10*k))))).b)),cK (((rdPx (ints (u8s (b.drop (9+10*k))))).c)),cK (((rdPx (ints (u8s (b.drop (9+10*k))))).al)),cK (((rdPx (ints (u8s (b.drop (9+10*k))))).f))],[Bx.cells [Cl.d (DV.sl (((ints (u8s (b.drop (9+10*k)))).drop 10).length) (u8s ((ints (u8s (b.drop (9+10*k)))).drop 10)))]],false⟩)∧(0≤((k:Nat):Int)∧((k:Nat):Int) < ((rdN b:Nat):Int))∧(((k:Nat):Int).toNat*5+5≤(pxs (preP b k)).length)∧tU2 (∃ k':Nat,(k'≤rdN b)∧(rdN b - k' < rdN b - k)∧(((0=0)∧(0=0)∧zz21∧zz22∧(rdN b=rdN b)∧zz23∧(dJ (wK (((k:Nat):Int)+(1:Int)))=dJ ((k':Nat):Int))∧True)∧(([DV.sl (((ints (u8s (b.drop (9+10*k)))).drop 10).length) (u8s ((ints (u8s (b.drop (9+10*k)))).drop 10))]=[DV.sl ((b.drop (9+10*k')).length) (u8s (b.drop (9+10*k')))])∧zz12∧(sets (pxs (preP b k)) (((k:Nat):Int).toNat*5) ([dK ((rdPx (ints (u8s (b.drop (9+10*k))))).a),dK ((rdPx (ints (u8s (b.drop (9+10*k))))).b),dK ((rdPx (ints (u8s (b.drop (9+10*k))))).c),dK ((rdPx (ints (u8s (b.drop (9+10*k))))).al),dK ((rdPx (ints (u8s (b.drop (9+10*k))))).f)])=pxs (preP b k'))∧True)))))))∧((decide (((k:Nat):Int) < ((zz18.toNat:Nat):Int)))=false→tU3 ((Ans Try.prog 89 [RV.d (dJ (rdW b)),RV.d (dJ (rdH b)),RV.d (DV.sl (rdN b) (pxs (preP b k)))] (RV.tup [(imR (imOf (rdW b) (rdH b) (toPxs (pxs (preP b k))))),RV.d (dQ (ofOk (rdW b) (rdH b) (rdN b)))]))∧tU8 (((imWhen b)∧((((Im.ds (imOf (rdW b) (rdH b) (toPxs (pxs (preP b k)))))=(Im.ds (rdIm b)))∧True)∧(((zz24 k)=zz17)∧True))∧freshOK ⟨(imD (rdIm b)),[Bx.cells [Cl.d (DV.sl ((imRest b).length) (u8s (imRest b)))]],false⟩))))))))))))))))))))))):=by kernel_rfl
theorem script_reader_image_ans (b:List Int):((imWhen b)→AnsG Try.prog 75 1 [AV.one (Cl.ptr 0 0)] [Bx.cells [Cl.d (DV.sl b.length (u8s b))]] ⟨(imD (rdIm b)),[Bx.cells [Cl.d (DV.sl ((imRest b).length) (u8s (imRest b)))]],false⟩)∧((¬ (imWhen b))→PanG Try.prog chM 75 [AV.one (Cl.ptr 0 0)] [Bx.cells [Cl.d (DV.sl b.length (u8s b))]]):=
  pans_of_xcg (Γ:=gamDb) (X:=gamDbX) (script_reader_image_ann b) mixed_ Try.func75 rfl (Nat.le_of_ble_eq_true rfl) rfl fun hwf hbx=>by
    refine Eq.mpr (script_reader_image_vc b) ?_
    delta tU2 tU3 tU4 tU5 tU8 dJ dK dQ cJ cK wK
    simp only [true_and,and_true,RV.d.injEq,RV.agg.injEq,RV.tup.injEq,DV.bool.injEq,DV.int.injEq,DV.sl.injEq,List.cons.injEq,forall_const,Bool.not_false,Bool.not_true,Bool.not_eq_true',Bool.not_eq_false',decide_eq_true_eq,decide_eq_false_iff_not,Int.toNat_natCast,imQ,imQr,imC,oqQ,oqQr,oqC,oqD,pxQ,pxQr,pxC,pxD]
    simp only [ints_u8s,List.drop_drop,Nat.reduceAdd]
    simp only [Bx.wfL,Bx.wf,Cl.wfs,DV.wf,maxLen] at hbx
    have hlen:=hbx.1.1.1
    have dm:=fun p:Bool=>script_demand_ans p
    have px:=fun d:Nat=>script_reader_pixel_ans (b.drop d)
    simp only [List.drop_drop] at px
    have hfit:1≤rdW b→1≤rdH b→(rdW b≤IntKind.wrap .i64 (Int.tdiv 16777216 (rdH b))↔rdW b*rdH b≤16777216):=fun hw hh=>size_fits hw hh
    have nh1:(9≤b.length→False)→¬ imWhen b:=fun h hw=>h hw.1.1
    refine ⟨fun h'=>⟨(tk_at b 0 1 ⟨by omega,by omega⟩).2 h',nh1 fun _=>by omega⟩,fun h1=>⟨(tk_at b 0 1 ⟨by omega,by omega⟩).1 h1,
      fun h'=>⟨(tk_at b 1 4 ⟨by omega,by omega⟩).2 h',nh1 fun _=>by rw [List.length_drop] at h'; omega⟩,fun h2=>⟨(tk_at b 1 4 ⟨by omega,by omega⟩).1 h2,
      fun h'=>⟨(tk_at b 5 4 ⟨by omega,by omega⟩).2 h',nh1 fun _=>by rw [List.length_drop] at h'; omega⟩,fun h3=>⟨(tk_at b 5 4 ⟨by omega,by omega⟩).1 h3,?_⟩⟩⟩⟩
    have nh2:∀ {p:Prop},(imHead b→False)→p→(p∧¬ imWhen b):=fun h hp=>⟨hp,fun hw=>h hw.1⟩
    refine ⟨⟨fun k1=>⟨fun k2=>⟨fun k3=>⟨by omega,fun k4=>?_,fun k4=>⟨(dm _).1 (by simpa using k4),(),?_,⟨trivial,rfl,rfl⟩,trivial,trivial⟩⟩,fun k3=>?_⟩,fun k2=>?_⟩,fun k1=>?_⟩,fun hd=>?_⟩
    · exact nh2 (fun hh=>k4 ((hfit k2 k3).2 hh.2.2.2.2)) ((dm _).2 (by simpa using k4))
    · exact ⟨by rw [List.length_drop] at h3; omega,k1,k2,k3,(hfit k2 k3).1 k4⟩
    · exact ⟨fun h=>nh2 (fun hh=>k3 hh.2.2.2.1) ((dm false).2 h),fun h=>by cases h⟩
    · exact ⟨fun h=>nh2 (fun hh=>k2 hh.2.2.1) ((dm false).2 h),fun h=>by cases h⟩
    · exact ⟨fun h=>nh2 (fun hh=>k1 hh.2.1) ((dm false).2 h),fun h=>by cases h⟩
    · obtain ⟨d1,d2,d3,d4,d5⟩:=hd
      have hpos:0 < rdW b*rdH b:=Int.mul_pos (by omega) (by omega)
      have hN:rdW b*rdH b=(rdN b:Int):=by unfold rdN; omega
      have wN:IntKind.wrap .i64 (rdW b*rdH b)=(rdN b:Int):=by rw [IntWalk.i64_in _ ⟨by omega,by omega⟩,hN]
      have wL:IntKind.wrap .i64 (Int.tdiv ((b.drop 9).length:Int) 10)=(((b.length - 9) / 10:Nat):Int):=by
        have h1:Int.tdiv ((b.drop 9).length:Int) 10=(((b.length - 9) / 10:Nat):Int):=by rw [List.length_drop]; rfl
        rw [h1,IntWalk.i64_in _ ⟨by omega,by omega⟩]
      refine ⟨fun h=>?_,fun h=>?_⟩
      · have hk:tkV 1 b=1:=by simpa using h
        refine ⟨fun h'=>⟨(px 9).2 h',fun hw=>?_⟩,fun h'=>⟨(px 9).1 h',image_Solid_im _ _ _,⟨⟨d1,d2,d3,d4,d5⟩,?_⟩,⟨?_,?_⟩⟩⟩
        · have:=hw.2
          rw [if_pos hk] at this
          rw [List.length_drop] at h'
          omega
        · rw [if_pos hk]
          rw [List.length_drop] at h'
          omega
        · have e1:rdIm b=solidIm (rdW b) (rdH b) (rdPx (b.drop 9)):=by unfold rdIm; rw [if_pos hk]
          have e2:imRest b=b.drop 19:=by unfold imRest; rw [if_pos hk]
          rw [e1,e2]
          exact ⟨rfl,rfl,rfl⟩
        · exact trivial
      · have hk:¬ tkV 1 b=1:=by simpa using h
        have nw:¬ (9+10*rdN b≤b.length)→¬ imWhen b:=fun hn hw=>hn (by have:=hw.2; rw [if_neg hk] at this; exact this)
        have e1:rdIm b=imOf (rdW b) (rdH b) (rdPxs (rdN b) (b.drop 9)):=by unfold rdIm; rw [if_neg hk]
        have e2:imRest b=b.drop (9+10*rdN b):=by unfold imRest; rw [if_neg hk]
        simp only [wN,wL,Int.toNat_natCast,toPxs_pxs]
        refine ⟨by omega,fun h'=>⟨(dm _).2 (by simpa using h'),nw (by omega)⟩,fun h'=>⟨(dm _).1 (by simpa using h'),⟨by omega,by omega,by unfold maxLen; omega,by omega⟩,by unfold maxLen; omega,⟨0,Nat.zero_le _,⟨trivial,rfl⟩,⟨rfl,rfl⟩,?_⟩,fun k hk'=>⟨fun hlt=>?_,fun hge=>?_⟩⟩⟩
        · rw [preP_zero]
          exact (flatten_repl (rdN b)).symm
        · have hkN:k < rdN b:=by omega
          have hlk:=preP_len (Nat.le_of_lt hkN)
          have w1:IntKind.wrap .i64 ((k:Int)+1)=((k+1:Nat):Int):=by rw [IntWalk.i64_in _ ⟨by omega,by omega⟩]; omega
          refine ⟨fun h2=>⟨(px (9+10*k)).2 h2,nw (by rw [List.length_drop] at h2; omega)⟩,fun h2=>⟨(px (9+10*k)).1 h2,⟨by omega,by omega⟩,by rw [pxs_length,hlk]; omega,k+1,by omega,by omega,w1,⟨rfl,rfl⟩,?_⟩⟩
          have:=flat_sets (f:=Px.ds) (m:=5) (fun _=>rfl) (l:=preP b k) (k:=k) (by omega) (rdPx (b.drop (9+10*k)))
          rw [preP_set hkN] at this
          exact this
        · have:k=rdN b:=by omega
          subst this
          have o:=image_Of_dat (rdW b) (rdH b) (rdPxs (rdN b) (b.drop 9))
          have hpl:(rdPxs (rdN b) (b.drop 9)).length=rdN b:=by simp [rdPxs]
          rw [hpl] at o
          rw [preP_all,e1,e2]
          exact ⟨o,⟨⟨d1,d2,d3,d4,d5⟩,by rw [if_neg hk]; omega⟩,⟨rfl,rfl,rfl⟩,trivial⟩
end Go.Proofs.Ytlnfgagmiogkgaa
namespace Go.Proofs.Ytlnfgagmiogkgaa
open Go.RowKit
set_option linter.unusedVariables false
set_option linter.unusedSimpArgs false
attribute [local irreducible] Ans AnsO AnsG AnsN AnsI
set_option maxRecDepth 4000
def imsT (l:List Int):Nat→List Im × List Int
  | 0=>([],l)
  | k+1=>((imsT l k).1++[rdIm (imsT l k).2],imRest (imsT l k).2)
def ordL (b:List Int) (k:Nat):List Int:=(List.range k).map fun i=>tkV 4 (b.drop (31+4*i))
def opsL (l:List Int) (k:Nat):List Oq:=(List.range k).map fun i=>rdOp (l.drop (24*i))
def n1P (b:List Int):Nat:=(tkV 4 (b.drop 27)).toNat
def bAP (b:List Int):List Int:=b.drop (31+4*n1P b)
def n2P (b:List Int):Nat:=(tkV 1 (bAP b)).toNat
def bBP (b:List Int):List Int:=(bAP b).drop 1
def bCP (b:List Int):List Int:=(imsT (bBP b) (n2P b)).2
def n3P (b:List Int):Nat:=(tkV 2 (bCP b)).toNat
def bDP (b:List Int):List Int:=(bCP b).drop 2
def hd1P (b:List Int):Prop:=2≤b.length∧tkV 1 b=76∧tkV 1 (b.drop 1)=67
def hd2P (b:List Int):Prop:=hd1P b∧31≤b.length∧cntOk 4 4 (b.drop 27)
def hd3P (b:List Int) (k:Nat):Prop:=hd2P b∧cntOk 1 9 (bAP b)∧∀ i,i < k→imWhen (imsT (bBP b) i).2
def hd4P (b:List Int) (k:Nat):Prop:=hd3P b (n2P b)∧cntOk 2 24 (bCP b)∧∀ i,i < k→opWhen ((bDP b).drop (24*i))
def parseOk (b:List Int):Prop:=hd4P b (n3P b)∧((bDP b).drop (24*n3P b)).length=0
def parseS (b:List Int):Scr:=⟨tkV 1 (b.drop 2),⟨sgV (b.drop 3),sgV (b.drop 7),sgV (b.drop 11),sgV (b.drop 15)⟩,tkV 4 (b.drop 19),tkV 4 (b.drop 23),ordL b (n1P b),(imsT (bBP b) (n2P b)).1,opsL (bDP b) (n3P b)⟩
theorem tkV_all {l:List Int} (h:isB l):∀ k,0≤tkV k l∧tkV k l < 256 ^ k
  | 0=>by rw [tkV_zero]; decide
  | k+1=>by
    have ih:=tkV_all h k
    by_cases hk:k < l.length
    · have h2:=h l[k] (List.getElem_mem hk)
      rw [tkV_succ hk,Int.pow_succ]
      omega
    · have e:tkV (k+1) l=tkV k l:=by unfold tkV; rw [List.take_of_length_le (by omega),List.take_of_length_le (by omega)]
      rw [e,Int.pow_succ]
      omega
theorem imRest_drop (l:List Int):∃ d,imRest l=l.drop d:=by
  unfold imRest
  split
  · exact ⟨_,rfl⟩
  · exact ⟨_,rfl⟩
theorem imsT_drop (l:List Int):∀ k,∃ d,(imsT l k).2=l.drop d
  | 0=>⟨0,rfl⟩
  | k+1=>by
    obtain ⟨d,hd⟩:=imsT_drop l k
    obtain ⟨e,he⟩:=imRest_drop (imsT l k).2
    exact ⟨d+e,by show imRest (imsT l k).2=_; rw [he,hd,List.drop_drop]⟩
theorem imsT_isB {l:List Int} (h:isB l) (k:Nat):isB (imsT l k).2:=by
  obtain ⟨d,hd⟩:=imsT_drop l k
  rw [hd]
  exact h.drop d
theorem imsT_len (l:List Int):∀ k,(imsT l k).1.length=k
  | 0=>rfl
  | k+1=>by simp [imsT,imsT_len l k]
theorem ims_snoc (l:List Im) (m:Im):ims l++m.ds=ims (l++[m]):=by simp [ims]
theorem ops_snoc (l:List Oq) (o:Oq):ops l++o.cells=ops (l++[o]):=by simp [ops]
theorem is_snoc (l:List Int) (v:Int):is l++[DV.int .i64 v]=is (l++[v]):=by simp [is]
theorem ordL_succ (b:List Int) (k:Nat):ordL b (k+1)=ordL b k++[tkV 4 (b.drop (31+4*k))]:=by unfold ordL; rw [List.range_succ,List.map_append]; rfl
theorem opsL_succ (l:List Int) (k:Nat):opsL l (k+1)=opsL l k++[rdOp (l.drop (24*k))]:=by unfold opsL; rw [List.range_succ,List.map_append]; rfl
theorem ordL_len (b:List Int) (k:Nat):(ordL b k).length=k:=by simp [ordL]
theorem opsL_len (b:List Int) (k:Nat):(opsL b k).length=k:=by simp [opsL]
def gamDc:Gam where
 pure:=fun f xs=>
  none
 modes:=fun f=>
  if f=45 then some ([true],0,0) else
  if f=72 then some ([false,true],1,0) else
  if f=73 then some ([false],1,0) else
  if f=74 then some ([false,true,true],1,0) else
  if f=75 then some ([false],1,0) else
  if f=76 then some ([false],1,0) else
  none
 proc:=fun f xs bs=>
  if f=45 then (match xs,bs with | [AV.one (Cl.d (DV.bool b_))],[]=>some ⟨AV.tup [],[],false⟩ | _,_=>none) else
  if f=72 then (match xs,bs with | [AV.one (Cl.ptr 0 0),AV.one (Cl.d (DV.int _ n))],[Bx.cells [Cl.d (DV.sl bn bxs)]]=>some ⟨AV.one (cJ ((tkV n.toNat (ints bxs)))),[Bx.cells [Cl.d (DV.sl (((ints bxs).drop n.toNat).length) (u8s ((ints bxs).drop n.toNat)))]],false⟩ | _,_=>none) else
  if f=73 then (match xs,bs with | [AV.one (Cl.ptr 0 0)],[Bx.cells [Cl.d (DV.sl bn bxs)]]=>some ⟨AV.one (cJ ((sgV (ints bxs)))),[Bx.cells [Cl.d (DV.sl (((ints bxs).drop 4).length) (u8s ((ints bxs).drop 4)))]],false⟩ | _,_=>none) else
  if f=74 then (match xs,bs with | [AV.one (Cl.ptr 0 0),AV.one (Cl.d (DV.int _ n)),AV.one (Cl.d (DV.int _ size))],[Bx.cells [Cl.d (DV.sl bn bxs)]]=>some ⟨AV.one (cJ ((tkV n.toNat (ints bxs)))),[Bx.cells [Cl.d (DV.sl (((ints bxs).drop n.toNat).length) (u8s ((ints bxs).drop n.toNat)))]],false⟩ | _,_=>none) else
  if f=75 then (match xs,bs with | [AV.one (Cl.ptr 0 0)],[Bx.cells [Cl.d (DV.sl bn bxs)]]=>some ⟨AV.agg [cJ (((rdIm (ints bxs)).w)),cJ (((rdIm (ints bxs)).h)),Cl.d (dQ ((rdIm (ints bxs)).so)),cK (((rdIm (ints bxs)).c.a)),cK (((rdIm (ints bxs)).c.b)),cK (((rdIm (ints bxs)).c.c)),cK (((rdIm (ints bxs)).c.al)),cK (((rdIm (ints bxs)).c.f)),cJ (((rdIm (ints bxs)).p0.w)),cJ (((rdIm (ints bxs)).p0.h)),cJ (((rdIm (ints bxs)).p0.s)),Cl.d (DV.sl ((rdIm (ints bxs)).p0.n) ((rdIm (ints bxs)).p0.xs)),cJ (((rdIm (ints bxs)).p1.w)),cJ (((rdIm (ints bxs)).p1.h)),cJ (((rdIm (ints bxs)).p1.s)),Cl.d (DV.sl ((rdIm (ints bxs)).p1.n) ((rdIm (ints bxs)).p1.xs)),cJ (((rdIm (ints bxs)).p2.w)),cJ (((rdIm (ints bxs)).p2.h)),cJ (((rdIm (ints bxs)).p2.s)),Cl.d (DV.sl ((rdIm (ints bxs)).p2.n) ((rdIm (ints bxs)).p2.xs)),cJ (((rdIm (ints bxs)).p3.w)),cJ (((rdIm (ints bxs)).p3.h)),cJ (((rdIm (ints bxs)).p3.s)),Cl.d (DV.sl ((rdIm (ints bxs)).p3.n) ((rdIm (ints bxs)).p3.xs)),cJ (((rdIm (ints bxs)).p4.w)),cJ (((rdIm (ints bxs)).p4.h)),cJ (((rdIm (ints bxs)).p4.s)),Cl.d (DV.sl ((rdIm (ints bxs)).p4.n) ((rdIm (ints bxs)).p4.xs))],[Bx.cells [Cl.d (DV.sl ((imRest (ints bxs)).length) (u8s (imRest (ints bxs))))]],false⟩ | _,_=>none) else
  if f=76 then (match xs,bs with | [AV.one (Cl.ptr 0 0)],[Bx.cells [Cl.d (DV.sl bn bxs)]]=>some ⟨AV.agg [cJ (((rdOp (ints bxs)).kind)),cJ (((rdOp (ints bxs)).image)),cJ (((rdOp (ints bxs)).x)),cJ (((rdOp (ints bxs)).y)),cJ (((rdOp (ints bxs)).mask)),cJ (((rdOp (ints bxs)).mx)),cJ (((rdOp (ints bxs)).my)),cK (((rdOp (ints bxs)).opac)),cJ (((rdOp (ints bxs)).oper)),cJ (((rdOp (ints bxs)).mode)),Cl.d (dQ ((rdOp (ints bxs)).iso)),Cl.d (dQ ((rdOp (ints bxs)).kno))],[Bx.cells [Cl.d (DV.sl (((ints bxs).drop 24).length) (u8s ((ints bxs).drop 24)))]],false⟩ | _,_=>none) else
  none
 iter:=fun f cs=>
  none
def gamDcX:Pan where
 may:=fun f=>f==45 || f==72 || f==73 || f==74 || f==75 || f==76 || false
 when_:=fun f xs bs=>
  if f=45 then (match xs,bs with | [AV.one (Cl.d (DV.bool b_))],[]=>some (b_=true) | _,_=>none) else
  if f=72 then (match xs,bs with | [AV.one (Cl.ptr 0 0),AV.one (Cl.d (DV.int _ n))],[Bx.cells [Cl.d (DV.sl bn bxs)]]=>some (n.toNat≤(ints bxs).length) | _,_=>none) else
  if f=73 then (match xs,bs with | [AV.one (Cl.ptr 0 0)],[Bx.cells [Cl.d (DV.sl bn bxs)]]=>some (4≤(ints bxs).length) | _,_=>none) else
  if f=74 then (match xs,bs with | [AV.one (Cl.ptr 0 0),AV.one (Cl.d (DV.int _ n)),AV.one (Cl.d (DV.int _ size))],[Bx.cells [Cl.d (DV.sl bn bxs)]]=>some (cntOk n.toNat size.toNat (ints bxs)) | _,_=>none) else
  if f=75 then (match xs,bs with | [AV.one (Cl.ptr 0 0)],[Bx.cells [Cl.d (DV.sl bn bxs)]]=>some (imWhen (ints bxs)) | _,_=>none) else
  if f=76 then (match xs,bs with | [AV.one (Cl.ptr 0 0)],[Bx.cells [Cl.d (DV.sl bn bxs)]]=>some (opWhen (ints bxs)) | _,_=>none) else
  none
def script_reader_script_ann (b:List Int):Ann:=let zz0:=(2,Bx.cells [cJ (0),cJ (0),cJ (0),cJ (0),cJ (0),cJ (0),cJ (0),Cl.nil,Cl.nil,Cl.nil]); let zz1:=(dJ (tkV 1 (b.drop 2))); let zz2:=(dJ (sgV (b.drop 3))); let zz3:=(dJ (sgV (b.drop 7))); let zz4:=(dJ (sgV (b.drop 11))); let zz5:=(dJ (sgV (b.drop 15))); let zz6:=(dJ (tkV 4 (b.drop 19))); let zz7:=(dJ (tkV 4 (b.drop 23))); let zz8:=(9001,Bx.row 3 1 (is (ordL b (n1P b)))); (Ann.seq Ann.leaf (Ann.cut ⟨Unit,fun u:Unit=>hd1P b,fun u:Unit=>⟨[(0,AV.one (Cl.ptr 0 0)),(2,AV.one (Cl.ptr 2 0))],[(0,Bx.cells [Cl.d (DV.sl ((b.drop 2).length) (u8s (b.drop 2)))]),zz0]⟩,fun u:Unit=>0⟩ Ann.leaf fun u=>(Ann.seq Ann.leaf (Ann.seq Ann.leaf (Ann.cut ⟨Unit,fun u2:Unit=>hd1P b∧27≤b.length,fun u2:Unit=>⟨[(0,AV.one (Cl.ptr 0 0)),(2,AV.one (Cl.ptr 2 0)),(3,AV.one (Cl.ptr 3 0))],[(0,Bx.cells [Cl.d (DV.sl ((b.drop 27).length) (u8s (b.drop 27)))]),zz0,(3,Bx.cells [Cl.d zz1,Cl.d zz2,Cl.d zz3,Cl.d zz4,Cl.d zz5,Cl.d zz6,Cl.d zz7,Cl.nil,Cl.nil,Cl.nil])]⟩,fun u2:Unit=>0⟩ Ann.leaf fun u2=>(Ann.seq (Ann.seq Ann.leaf (Ann.loop ⟨Nat,fun k=>hd2P b∧k≤n1P b,fun k=>⟨[(0,AV.one (Cl.ptr 0 0)),(2,AV.one (Cl.ptr 2 0)),(3,AV.one (Cl.ptr 3 0)),(33,AV.one (cJ ((n1P b:Int)))),(34,AV.one (cJ (((k:Nat):Int))))],[(0,Bx.cells [Cl.d (DV.sl ((b.drop (31+4*k)).length) (u8s (b.drop (31+4*k))))]),zz0,(3,Bx.cells [Cl.d zz1,Cl.d zz2,Cl.d zz3,Cl.d zz4,Cl.d zz5,Cl.d zz6,Cl.d zz7,Cl.ref 9001 k,Cl.nil,Cl.nil]),(9001,Bx.row 3 1 (is (ordL b k)))]⟩,fun k=>n1P b - k⟩ fun k=>Ann.leaf)) (Ann.seq (Ann.seq Ann.leaf (Ann.loop ⟨Nat,fun i=>hd3P b i∧i≤n2P b,fun i=>⟨[(0,AV.one (Cl.ptr 0 0)),(2,AV.one (Cl.ptr 2 0)),(3,AV.one (Cl.ptr 3 0)),(45,AV.one (cJ ((n2P b:Int)))),(46,AV.one (cJ (((i:Nat):Int))))],[(0,Bx.cells [Cl.d (DV.sl (((imsT (bBP b) i).2).length) (u8s ((imsT (bBP b) i).2)))]),zz0,(3,Bx.cells [Cl.d zz1,Cl.d zz2,Cl.d zz3,Cl.d zz4,Cl.d zz5,Cl.d zz6,Cl.d zz7,Cl.ref 9001 (n1P b),Cl.ref 9002 i,Cl.nil]),zz8,(9002,Bx.row 43 28 (ims (imsT (bBP b) i).1))]⟩,fun i=>n2P b - i⟩ fun i=>Ann.leaf)) (Ann.seq (Ann.seq Ann.leaf (Ann.loop ⟨Nat,fun j=>hd4P b j∧j≤n3P b,fun j=>⟨[(0,AV.one (Cl.ptr 0 0)),(2,AV.one (Cl.ptr 2 0)),(3,AV.one (Cl.ptr 3 0)),(57,AV.one (cJ ((n3P b:Int)))),(58,AV.one (cJ (((j:Nat):Int))))],[(0,Bx.cells [Cl.d (DV.sl (((bDP b).drop (24*j)).length) (u8s ((bDP b).drop (24*j))))]),zz0,(3,Bx.cells [Cl.d zz1,Cl.d zz2,Cl.d zz3,Cl.d zz4,Cl.d zz5,Cl.d zz6,Cl.d zz7,Cl.ref 9001 (n1P b),Cl.ref 9002 (n2P b),Cl.ref 9003 j]),zz8,(9002,Bx.row 43 28 (ims (imsT (bBP b) (n2P b)).1)),(9003,Bx.row 55 12 (ops (opsL (bDP b) j)))]⟩,fun j=>n3P b - j⟩ fun j=>Ann.leaf)) Ann.leaf))))))))
theorem script_reader_script_vc (b:List Int):xcg Try.prog gamDc gamDcX chM (¬ (parseOk b)) ⟨76,fun _=>false,List.range 1,false⟩ (bodyOf Try.f46) (script_reader_script_ann b) kn0 (startG [AV.one (Cl.ptr 0 0)] [Bx.cells [Cl.d (DV.sl b.length (u8s b))]]) (fun e kn s_=>(parseOk b)∧postG Try.prog ⟨76,fun _=>false,List.range 1,false⟩ Try.f46.results.toList ⟨AV.agg [Cl.d (DV.int .i64 ((parseS b).bits)),Cl.d (DV.int .i64 ((parseS b).c.a)),Cl.d (DV.int .i64 ((parseS b).c.b)),Cl.d (DV.int .i64 ((parseS b).c.c)),Cl.d (DV.int .i64 ((parseS b).c.d)),Cl.d (DV.int .i64 ((parseS b).tw)),Cl.d (DV.int .i64 ((parseS b).th)),Cl.ref 1 ((parseS b).ord.length),Cl.ref 2 ((parseS b).ims.length),Cl.ref 3 ((parseS b).ops.length)],[Bx.cells [Cl.d (DV.sl 0 ([]))],Bx.row 3 1 (is (parseS b).ord),Bx.row 43 28 (ims (parseS b).ims),Bx.row 55 12 (ops (parseS b).ops)],false⟩ e kn s_) =
  (let zz0:=(cJ (1)); let zz1:=[AV.one (Cl.ptr 0 0),AV.one zz0]; let zz2:=[Bx.cells [Cl.d (DV.sl b.length (u8s b))]]; let zz3:=[Bx.cells [Cl.d (DV.sl (((ints (u8s b)).drop 1).length) (u8s ((ints (u8s b)).drop 1)))]]; let zz4:=(1≤(ints (u8s ((ints (u8s b)).drop 1))).length); let zz5:=(((tkV 1 (ints (u8s ((ints (u8s b)).drop 1))))==(67:Int))=true); let zz6:=[AV.one (Cl.d (dQ ((tkV 1 (ints (u8s ((ints (u8s b)).drop 1))))==(67:Int))))]; let zz7:=[DV.sl ((b.drop 2).length) (u8s (b.drop 2))]; let zz8:=(dJ 0=dJ 0); let zz9:=(zz8∧zz8∧zz8∧zz8∧zz8∧zz8∧zz8∧tU3 (True)); let zz10:=[AV.one (Cl.d (dQ false))]; let zz11:=(1≤(ints (u8s (b.drop 2))).length); let zz12:=[Bx.cells [Cl.d (DV.sl ((b.drop 2).length) (u8s (b.drop 2)))]]; let zz13:=[Bx.cells [Cl.d (DV.sl (((ints (u8s (b.drop 2))).drop 1).length) (u8s ((ints (u8s (b.drop 2))).drop 1)))]]; let zz14:=(4≤(ints (u8s ((ints (u8s (b.drop 2))).drop 1))).length); let zz15:=[Bx.cells [Cl.d (DV.sl (((ints (u8s ((ints (u8s (b.drop 2))).drop 1))).drop 4).length) (u8s ((ints (u8s ((ints (u8s (b.drop 2))).drop 1))).drop 4)))]]; let zz16:=(4≤(ints (u8s ((ints (u8s ((ints (u8s (b.drop 2))).drop 1))).drop 4))).length); let zz17:=[Bx.cells [Cl.d (DV.sl (((ints (u8s ((ints (u8s ((ints (u8s (b.drop 2))).drop 1))).drop 4))).drop 4).length) (u8s ((ints (u8s ((ints (u8s ((ints (u8s (b.drop 2))).drop 1))).drop 4))).drop 4)))]]; let zz18:=(4≤(ints (u8s ((ints (u8s ((ints (u8s ((ints (u8s (b.drop 2))).drop 1))).drop 4))).drop 4))).length); let zz19:=[Bx.cells [Cl.d (DV.sl (((ints (u8s ((ints (u8s ((ints (u8s ((ints (u8s (b.drop 2))).drop 1))).drop 4))).drop 4))).drop 4).length) (u8s ((ints (u8s ((ints (u8s ((ints (u8s ((ints (u8s (b.drop 2))).drop 1))).drop 4))).drop 4))).drop 4)))]]; let zz20:=(4≤(ints (u8s ((ints (u8s ((ints (u8s ((ints (u8s ((ints (u8s (b.drop 2))).drop 1))).drop 4))).drop 4))).drop 4))).length); let zz21:=[Bx.cells [Cl.d (DV.sl (((ints (u8s ((ints (u8s ((ints (u8s ((ints (u8s ((ints (u8s (b.drop 2))).drop 1))).drop 4))).drop 4))).drop 4))).drop 4).length) (u8s ((ints (u8s ((ints (u8s ((ints (u8s ((ints (u8s ((ints (u8s (b.drop 2))).drop 1))).drop 4))).drop 4))).drop 4))).drop 4)))]]; let zz22:=(4≤(ints (u8s ((ints (u8s ((ints (u8s ((ints (u8s ((ints (u8s ((ints (u8s (b.drop 2))).drop 1))).drop 4))).drop 4))).drop 4))).drop 4))).length); let zz23:=(cJ (4)); let zz24:=[AV.one (Cl.ptr 0 0),AV.one zz23]; let zz25:=[Bx.cells [Cl.d (DV.sl (((ints (u8s ((ints (u8s ((ints (u8s ((ints (u8s ((ints (u8s ((ints (u8s (b.drop 2))).drop 1))).drop 4))).drop 4))).drop 4))).drop 4))).drop 4).length) (u8s ((ints (u8s ((ints (u8s ((ints (u8s ((ints (u8s ((ints (u8s ((ints (u8s (b.drop 2))).drop 1))).drop 4))).drop 4))).drop 4))).drop 4))).drop 4)))]]; let zz26:=(4≤(ints (u8s ((ints (u8s ((ints (u8s ((ints (u8s ((ints (u8s ((ints (u8s ((ints (u8s (b.drop 2))).drop 1))).drop 4))).drop 4))).drop 4))).drop 4))).drop 4))).length); let zz27:=[AV.one (Cl.ptr 0 0),AV.one zz23,AV.one zz23]; let zz28:=[Bx.cells [Cl.d (DV.sl ((b.drop 27).length) (u8s (b.drop 27)))]]; let zz29:=(dJ (tkV 1 (b.drop 2))=dJ (tkV 1 (b.drop 2))); let zz30:=(dJ (sgV (b.drop 3))=dJ (sgV (b.drop 3))); let zz31:=(dJ (sgV (b.drop 7))=dJ (sgV (b.drop 7))); let zz32:=(dJ (sgV (b.drop 11))=dJ (sgV (b.drop 11))); let zz33:=(dJ (sgV (b.drop 15))=dJ (sgV (b.drop 15))); let zz34:=(dJ (tkV 4 (b.drop 19))=dJ (tkV 4 (b.drop 19))); let zz35:=(dJ (tkV 4 (b.drop 23))=dJ (tkV 4 (b.drop 23))); let zz36:=fun (k:Nat)=>(4≤(ints (u8s (b.drop (31+4*k)))).length); let zz37:=fun (k:Nat)=>[Bx.cells [Cl.d (DV.sl ((b.drop (31+4*k)).length) (u8s (b.drop (31+4*k))))]]; let zz38:=[AV.one (Cl.ptr 0 0),AV.one zz0,AV.one (cJ (9))]; let zz39:=fun (i:Nat)=>[Bx.cells [Cl.d (DV.sl (((imsT (bBP b) i).2).length) (u8s ((imsT (bBP b) i).2)))]]; let zz40:=fun (i:Nat)=>(imRest (ints (u8s ((imsT (bBP b) i).2)))); let zz41:=fun (i:Nat)=>((zz40 i).length); let zz42:=fun (i:Nat)=>((Im.ds (rdIm (ints (u8s ((imsT (bBP b) i).2)))))); let zz43:=(is (ordL b (n1P b))=is (ordL b (n1P b))); let zz44:=[AV.one (Cl.ptr 0 0),AV.one (cJ (2)),AV.one (cJ (24))]; let zz45:=fun (j:Nat)=>[DV.sl (((bDP b).drop (24*j)).length) (u8s ((bDP b).drop (24*j)))]; let zz46:=fun (j:Nat)=>[Bx.cells [Cl.d (DV.sl (((bDP b).drop (24*j)).length) (u8s ((bDP b).drop (24*j))))]]; let zz47:=fun (j:Nat)=>((((((bDP b).drop (24*j)).length:Nat):Int)==(0:Int))=true); let zz48:=fun (j:Nat)=>[AV.one (Cl.d (dQ (((((bDP b).drop (24*j)).length:Nat):Int)==(0:Int))))]; True∧(True∧(((¬ (1≤(ints (u8s b)).length))→PanG Try.prog chM 72 zz1 zz2∧(¬ (parseOk b)))∧((1≤(ints (u8s b)).length)→(AnsG Try.prog 72 1 zz1 zz2 ⟨AV.one (cJ ((tkV 1 (ints (u8s b))))),zz3,false⟩)∧tU2 (((((tkV 1 (ints (u8s b)))==(76:Int))=true→True∧(((¬ zz4)→PanG Try.prog chM 72 zz1 zz3∧(¬ (parseOk b)))∧(zz4→(AnsG Try.prog 72 1 zz1 zz3 ⟨AV.one (cJ ((tkV 1 (ints (u8s ((ints (u8s b)).drop 1)))))),[Bx.cells [Cl.d (DV.sl (((ints (u8s ((ints (u8s b)).drop 1))).drop 1).length) (u8s ((ints (u8s ((ints (u8s b)).drop 1))).drop 1)))]],false⟩)∧tU2 ((((¬ zz5)→PanG Try.prog chM 45 zz6 []∧(¬ (parseOk b)))∧(zz5→(AnsG Try.prog 45 0 zz6 [] ⟨AV.tup [],[],false⟩)∧∃ u:Unit,(hd1P b)∧(((0=0)∧(0=0)∧True)∧(([DV.sl (((ints (u8s ((ints (u8s b)).drop 1))).drop 1).length) (u8s ((ints (u8s ((ints (u8s b)).drop 1))).drop 1))]=zz7)∧zz9∧True))))))))∧(((tkV 1 (ints (u8s b)))==(76:Int))=(!true)→True∧(((¬ (false=true))→PanG Try.prog chM 45 zz10 []∧(¬ (parseOk b)))∧((false=true)→(AnsG Try.prog 45 0 zz10 [] ⟨AV.tup [],[],false⟩)∧∃ u:Unit,(hd1P b)∧(((0=0)∧(0=0)∧True)∧(([DV.sl (((ints (u8s b)).drop 1).length) (u8s ((ints (u8s b)).drop 1))]=zz7)∧zz9∧True))))))))))∧∀ u:Unit,(hd1P b)→True∧(((¬ zz11)→PanG Try.prog chM 72 zz1 zz12∧(¬ (parseOk b)))∧(zz11→(AnsG Try.prog 72 1 zz1 zz12 ⟨AV.one (cJ ((tkV 1 (ints (u8s (b.drop 2)))))),zz13,false⟩)∧tU4 ((((¬ zz14)→PanG Try.prog chM 73 [AV.one (Cl.ptr 0 0)] zz13∧(¬ (parseOk b)))∧(zz14→(AnsG Try.prog 73 1 [AV.one (Cl.ptr 0 0)] zz13 ⟨AV.one (cJ ((sgV (ints (u8s ((ints (u8s (b.drop 2))).drop 1)))))),zz15,false⟩)∧True∧(((¬ zz16)→PanG Try.prog chM 73 [AV.one (Cl.ptr 0 0)] zz15∧(¬ (parseOk b)))∧(zz16→(AnsG Try.prog 73 1 [AV.one (Cl.ptr 0 0)] zz15 ⟨AV.one (cJ ((sgV (ints (u8s ((ints (u8s ((ints (u8s (b.drop 2))).drop 1))).drop 4)))))),zz17,false⟩)∧True∧(((¬ zz18)→PanG Try.prog chM 73 [AV.one (Cl.ptr 0 0)] zz17∧(¬ (parseOk b)))∧(zz18→(AnsG Try.prog 73 1 [AV.one (Cl.ptr 0 0)] zz17 ⟨AV.one (cJ ((sgV (ints (u8s ((ints (u8s ((ints (u8s ((ints (u8s (b.drop 2))).drop 1))).drop 4))).drop 4)))))),zz19,false⟩)∧True∧(((¬ zz20)→PanG Try.prog chM 73 [AV.one (Cl.ptr 0 0)] zz19∧(¬ (parseOk b)))∧(zz20→(AnsG Try.prog 73 1 [AV.one (Cl.ptr 0 0)] zz19 ⟨AV.one (cJ ((sgV (ints (u8s ((ints (u8s ((ints (u8s ((ints (u8s ((ints (u8s (b.drop 2))).drop 1))).drop 4))).drop 4))).drop 4)))))),zz21,false⟩)∧tU3 ((True∧(((¬ zz22)→PanG Try.prog chM 72 zz24 zz21∧(¬ (parseOk b)))∧(zz22→(AnsG Try.prog 72 1 zz24 zz21 ⟨AV.one (cJ ((tkV 4 (ints (u8s ((ints (u8s ((ints (u8s ((ints (u8s ((ints (u8s ((ints (u8s (b.drop 2))).drop 1))).drop 4))).drop 4))).drop 4))).drop 4)))))),zz25,false⟩)∧True∧(((¬ zz26)→PanG Try.prog chM 72 zz24 zz25∧(¬ (parseOk b)))∧(zz26→(AnsG Try.prog 72 1 zz24 zz25 ⟨AV.one (cJ ((tkV 4 (ints (u8s ((ints (u8s ((ints (u8s ((ints (u8s ((ints (u8s ((ints (u8s ((ints (u8s (b.drop 2))).drop 1))).drop 4))).drop 4))).drop 4))).drop 4))).drop 4)))))),[Bx.cells [Cl.d (DV.sl (((ints (u8s ((ints (u8s ((ints (u8s ((ints (u8s ((ints (u8s ((ints (u8s ((ints (u8s (b.drop 2))).drop 1))).drop 4))).drop 4))).drop 4))).drop 4))).drop 4))).drop 4).length) (u8s ((ints (u8s ((ints (u8s ((ints (u8s ((ints (u8s ((ints (u8s ((ints (u8s ((ints (u8s (b.drop 2))).drop 1))).drop 4))).drop 4))).drop 4))).drop 4))).drop 4))).drop 4)))]],false⟩)∧tU4 (∃ u2:Unit,(hd1P b∧27≤b.length)∧(((0=0)∧(0=0)∧(0=0)∧True)∧(([DV.sl (((ints (u8s ((ints (u8s ((ints (u8s ((ints (u8s ((ints (u8s ((ints (u8s ((ints (u8s (b.drop 2))).drop 1))).drop 4))).drop 4))).drop 4))).drop 4))).drop 4))).drop 4).length) (u8s ((ints (u8s ((ints (u8s ((ints (u8s ((ints (u8s ((ints (u8s ((ints (u8s ((ints (u8s (b.drop 2))).drop 1))).drop 4))).drop 4))).drop 4))).drop 4))).drop 4))).drop 4))]=[DV.sl ((b.drop 27).length) (u8s (b.drop 27))])∧zz9∧((dJ (tkV 1 (ints (u8s (b.drop 2))))=dJ (tkV 1 (b.drop 2)))∧(dJ (sgV (ints (u8s ((ints (u8s (b.drop 2))).drop 1))))=dJ (sgV (b.drop 3)))∧(dJ (sgV (ints (u8s ((ints (u8s ((ints (u8s (b.drop 2))).drop 1))).drop 4))))=dJ (sgV (b.drop 7)))∧(dJ (sgV (ints (u8s ((ints (u8s ((ints (u8s ((ints (u8s (b.drop 2))).drop 1))).drop 4))).drop 4))))=dJ (sgV (b.drop 11)))∧(dJ (sgV (ints (u8s ((ints (u8s ((ints (u8s ((ints (u8s ((ints (u8s (b.drop 2))).drop 1))).drop 4))).drop 4))).drop 4))))=dJ (sgV (b.drop 15)))∧(dJ (tkV 4 (ints (u8s ((ints (u8s ((ints (u8s ((ints (u8s ((ints (u8s ((ints (u8s (b.drop 2))).drop 1))).drop 4))).drop 4))).drop 4))).drop 4))))=dJ (tkV 4 (b.drop 19)))∧(dJ (tkV 4 (ints (u8s ((ints (u8s ((ints (u8s ((ints (u8s ((ints (u8s ((ints (u8s ((ints (u8s (b.drop 2))).drop 1))).drop 4))).drop 4))).drop 4))).drop 4))).drop 4))))=dJ (tkV 4 (b.drop 23)))∧tU3 (True))∧True))))))))∧∀ u2:Unit,(hd1P b∧27≤b.length)→True∧(((¬ (cntOk 4 4 (ints (u8s (b.drop 27)))))→PanG Try.prog chM 74 zz27 zz28∧(¬ (parseOk b)))∧((cntOk 4 4 (ints (u8s (b.drop 27))))→(AnsG Try.prog 74 1 zz27 zz28 ⟨AV.one (cJ ((tkV 4 (ints (u8s (b.drop 27)))))),[Bx.cells [Cl.d (DV.sl (((ints (u8s (b.drop 27))).drop 4).length) (u8s ((ints (u8s (b.drop 27))).drop 4)))]],false⟩)∧True∧((∃ k:Nat,(hd2P b∧k≤n1P b)∧(((0=0)∧(0=0)∧(0=0)∧(dJ (tkV 4 (ints (u8s (b.drop 27))))=dJ (n1P b:Int))∧(dJ 0=dJ ((k:Nat):Int))∧True)∧(([DV.sl (((ints (u8s (b.drop 27))).drop 4).length) (u8s ((ints (u8s (b.drop 27))).drop 4))]=[DV.sl ((b.drop (31+4*k)).length) (u8s (b.drop (31+4*k)))])∧zz9∧(zz29∧zz30∧zz31∧zz32∧zz33∧zz34∧zz35∧(0=k)∧tU2 (True))∧([]=is (ordL b k))∧True)))∧∀ k:Nat,(hd2P b∧k≤n1P b)→True∧(((decide (((k:Nat):Int) < (n1P b:Int)))=true→tU3 ((true=true)∧(((¬ (zz36 k))→PanG Try.prog chM 72 zz24 (zz37 k)∧(¬ (parseOk b)))∧((zz36 k)→tU3 ((AnsG Try.prog 72 1 zz24 (zz37 k) ⟨AV.one (cJ ((tkV 4 (ints (u8s (b.drop (31+4*k))))))),[Bx.cells [Cl.d (DV.sl (((ints (u8s (b.drop (31+4*k)))).drop 4).length) (u8s ((ints (u8s (b.drop (31+4*k)))).drop 4)))]],false⟩)∧True∧(appVc 1 8 k 1 (is (ordL b k)) ([dJ (tkV 4 (ints (u8s (b.drop (31+4*k)))))]))∧tU2 ((true=true)∧tU2 (∃ k':Nat,(hd2P b∧k'≤n1P b)∧(n1P b - k' < n1P b - k)∧(((0=0)∧(0=0)∧(0=0)∧(dJ (n1P b:Int)=dJ (n1P b:Int))∧(dJ (wK (((k:Nat):Int)+(1:Int)))=dJ ((k':Nat):Int))∧True)∧(([DV.sl (((ints (u8s (b.drop (31+4*k)))).drop 4).length) (u8s ((ints (u8s (b.drop (31+4*k)))).drop 4))]=[DV.sl ((b.drop (31+4*k')).length) (u8s (b.drop (31+4*k')))])∧zz9∧(zz29∧zz30∧zz31∧zz32∧zz33∧zz34∧zz35∧(k+1=k')∧tU2 (True))∧((is (ordL b k))++([dJ (tkV 4 (ints (u8s (b.drop (31+4*k)))))])=is (ordL b k'))∧True)))))))))∧((decide (((k:Nat):Int) < (n1P b:Int)))=false→True∧(((¬ (cntOk 1 9 (ints (u8s (b.drop (31+4*k))))))→PanG Try.prog chM 74 zz38 (zz37 k)∧(¬ (parseOk b)))∧((cntOk 1 9 (ints (u8s (b.drop (31+4*k)))))→(AnsG Try.prog 74 1 zz38 (zz37 k) ⟨AV.one (cJ ((tkV 1 (ints (u8s (b.drop (31+4*k))))))),[Bx.cells [Cl.d (DV.sl (((ints (u8s (b.drop (31+4*k)))).drop 1).length) (u8s ((ints (u8s (b.drop (31+4*k)))).drop 1)))]],false⟩)∧True∧((∃ i:Nat,(hd3P b i∧i≤n2P b)∧(((0=0)∧(0=0)∧(0=0)∧(dJ (tkV 1 (ints (u8s (b.drop (31+4*k)))))=dJ (n2P b:Int))∧(dJ 0=dJ ((i:Nat):Int))∧True)∧(([DV.sl (((ints (u8s (b.drop (31+4*k)))).drop 1).length) (u8s ((ints (u8s (b.drop (31+4*k)))).drop 1))]=[DV.sl (((imsT (bBP b) i).2).length) (u8s ((imsT (bBP b) i).2))])∧zz9∧(zz29∧zz30∧zz31∧zz32∧zz33∧zz34∧zz35∧(k=n1P b)∧(0=i)∧True∧True)∧(is (ordL b k)=is (ordL b (n1P b)))∧([]=ims (imsT (bBP b) i).1)∧True)))∧∀ i:Nat,(hd3P b i∧i≤n2P b)→True∧(((decide (((i:Nat):Int) < (n2P b:Int)))=true→tU3 ((true=true)∧(((¬ (imWhen (ints (u8s ((imsT (bBP b) i).2)))))→PanG Try.prog chM 75 [AV.one (Cl.ptr 0 0)] (zz39 i)∧(¬ (parseOk b)))∧((imWhen (ints (u8s ((imsT (bBP b) i).2))))→tU3 ((AnsG Try.prog 75 1 [AV.one (Cl.ptr 0 0)] (zz39 i) ⟨(imD (rdIm (ints (u8s ((imsT (bBP b) i).2))))),[Bx.cells [Cl.d (DV.sl (zz41 i) (u8s (zz40 i)))]],false⟩)∧True∧(appVc 28 272 i 1 (ims (imsT (bBP b) i).1) (zz42 i))∧tU2 ((true=true)∧tU2 (∃ i':Nat,(hd3P b i'∧i'≤n2P b)∧(n2P b - i' < n2P b - i)∧(((0=0)∧(0=0)∧(0=0)∧(dJ (n2P b:Int)=dJ (n2P b:Int))∧(dJ (wK (((i:Nat):Int)+(1:Int)))=dJ ((i':Nat):Int))∧True)∧(([DV.sl (zz41 i) (u8s (zz40 i))]=[DV.sl (((imsT (bBP b) i').2).length) (u8s ((imsT (bBP b) i').2))])∧zz9∧(zz29∧zz30∧zz31∧zz32∧zz33∧zz34∧zz35∧(n1P b=n1P b)∧(i+1=i')∧True∧True)∧zz43∧((ims (imsT (bBP b) i).1)++(zz42 i)=ims (imsT (bBP b) i').1)∧True)))))))))∧((decide (((i:Nat):Int) < (n2P b:Int)))=false→True∧(((¬ (cntOk 2 24 (ints (u8s ((imsT (bBP b) i).2)))))→PanG Try.prog chM 74 zz44 (zz39 i)∧(¬ (parseOk b)))∧((cntOk 2 24 (ints (u8s ((imsT (bBP b) i).2))))→(AnsG Try.prog 74 1 zz44 (zz39 i) ⟨AV.one (cJ ((tkV 2 (ints (u8s ((imsT (bBP b) i).2)))))),[Bx.cells [Cl.d (DV.sl (((ints (u8s ((imsT (bBP b) i).2))).drop 2).length) (u8s ((ints (u8s ((imsT (bBP b) i).2))).drop 2)))]],false⟩)∧True∧((∃ j:Nat,(hd4P b j∧j≤n3P b)∧(((0=0)∧(0=0)∧(0=0)∧(dJ (tkV 2 (ints (u8s ((imsT (bBP b) i).2))))=dJ (n3P b:Int))∧(dJ 0=dJ ((j:Nat):Int))∧True)∧(([DV.sl (((ints (u8s ((imsT (bBP b) i).2))).drop 2).length) (u8s ((ints (u8s ((imsT (bBP b) i).2))).drop 2))]=(zz45 j))∧zz9∧(zz29∧zz30∧zz31∧zz32∧zz33∧zz34∧zz35∧(n1P b=n1P b)∧(i=n2P b)∧(0=j)∧True)∧zz43∧(ims (imsT (bBP b) i).1=ims (imsT (bBP b) (n2P b)).1)∧([]=ops (opsL (bDP b) j))∧True)))∧∀ j:Nat,(hd4P b j∧j≤n3P b)→True∧(((decide (((j:Nat):Int) < (n3P b:Int)))=true→tU3 ((true=true)∧(((¬ (opWhen (ints (u8s ((bDP b).drop (24*j))))))→PanG Try.prog chM 76 [AV.one (Cl.ptr 0 0)] (zz46 j)∧(¬ (parseOk b)))∧((opWhen (ints (u8s ((bDP b).drop (24*j)))))→tU3 ((AnsG Try.prog 76 1 [AV.one (Cl.ptr 0 0)] (zz46 j) ⟨AV.agg [cJ (((rdOp (ints (u8s ((bDP b).drop (24*j))))).kind)),cJ (((rdOp (ints (u8s ((bDP b).drop (24*j))))).image)),cJ (((rdOp (ints (u8s ((bDP b).drop (24*j))))).x)),cJ (((rdOp (ints (u8s ((bDP b).drop (24*j))))).y)),cJ (((rdOp (ints (u8s ((bDP b).drop (24*j))))).mask)),cJ (((rdOp (ints (u8s ((bDP b).drop (24*j))))).mx)),cJ (((rdOp (ints (u8s ((bDP b).drop (24*j))))).my)),cK (((rdOp (ints (u8s ((bDP b).drop (24*j))))).opac)),cJ (((rdOp (ints (u8s ((bDP b).drop (24*j))))).oper)),cJ (((rdOp (ints (u8s ((bDP b).drop (24*j))))).mode)),Cl.d (dQ ((rdOp (ints (u8s ((bDP b).drop (24*j))))).iso)),Cl.d (dQ ((rdOp (ints (u8s ((bDP b).drop (24*j))))).kno))],[Bx.cells [Cl.d (DV.sl (((ints (u8s ((bDP b).drop (24*j)))).drop 24).length) (u8s ((ints (u8s ((bDP b).drop (24*j)))).drop 24)))]],false⟩)∧True∧(appVc 12 88 j 1 (ops (opsL (bDP b) j)) ((Oq.cells (rdOp (ints (u8s ((bDP b).drop (24*j))))))))∧tU2 ((true=true)∧tU2 (∃ j':Nat,(hd4P b j'∧j'≤n3P b)∧(n3P b - j' < n3P b - j)∧(((0=0)∧(0=0)∧(0=0)∧(dJ (n3P b:Int)=dJ (n3P b:Int))∧(dJ (wK (((j:Nat):Int)+(1:Int)))=dJ ((j':Nat):Int))∧True)∧(([DV.sl (((ints (u8s ((bDP b).drop (24*j)))).drop 24).length) (u8s ((ints (u8s ((bDP b).drop (24*j)))).drop 24))]=[DV.sl (((bDP b).drop (24*j')).length) (u8s ((bDP b).drop (24*j')))])∧zz9∧(zz29∧zz30∧zz31∧zz32∧zz33∧zz34∧zz35∧(n1P b=n1P b)∧(n2P b=n2P b)∧(j+1=j')∧True)∧zz43∧(ims (imsT (bBP b) (n2P b)).1=ims (imsT (bBP b) (n2P b)).1)∧((ops (opsL (bDP b) j))++((Oq.cells (rdOp (ints (u8s ((bDP b).drop (24*j)))))))=ops (opsL (bDP b) j'))∧True)))))))))∧((decide (((j:Nat):Int) < (n3P b:Int)))=false→tU6 ((((¬ (zz47 j))→PanG Try.prog chM 45 (zz48 j) []∧(¬ (parseOk b)))∧((zz47 j)→(AnsG Try.prog 45 0 (zz48 j) [] ⟨AV.tup [],[],false⟩)∧tU2 (((parseOk b)∧((((dJ (tkV 1 (b.drop 2))=dJ ((parseS b).bits))∧(dJ (sgV (b.drop 3))=dJ ((parseS b).c.a))∧(dJ (sgV (b.drop 7))=dJ ((parseS b).c.b))∧(dJ (sgV (b.drop 11))=dJ ((parseS b).c.c))∧(dJ (sgV (b.drop 15))=dJ ((parseS b).c.d))∧(dJ (tkV 4 (b.drop 19))=dJ ((parseS b).tw))∧(dJ (tkV 4 (b.drop 23))=dJ ((parseS b).th))∧(n1P b=(parseS b).ord.length)∧(n2P b=(parseS b).ims.length)∧(j=(parseS b).ops.length)∧True)∧True)∧(((zz45 j)=[DV.sl 0 ([])])∧(is (ordL b (n1P b))=is (parseS b).ord)∧(ims (imsT (bBP b) (n2P b)).1=ims (parseS b).ims)∧(ops (opsL (bDP b) j)=ops (parseS b).ops)∧True))∧freshOK ⟨AV.agg [cJ (((parseS b).bits)),cJ (((parseS b).c.a)),cJ (((parseS b).c.b)),cJ (((parseS b).c.c)),cJ (((parseS b).c.d)),cJ (((parseS b).tw)),cJ (((parseS b).th)),Cl.ref 1 ((parseS b).ord.length),Cl.ref 2 ((parseS b).ims.length),Cl.ref 3 ((parseS b).ops.length)],[Bx.cells [Cl.d (DV.sl 0 ([]))],Bx.row 3 1 (is (parseS b).ord),Bx.row 43 28 (ims (parseS b).ims),Bx.row 55 12 (ops (parseS b).ops)],false⟩))))))))))))))))))))))))))))))))):=by kernel_rfl
theorem script_reader_script_ans (b:List Int):((parseOk b)→AnsG Try.prog 46 1 [AV.one (Cl.ptr 0 0)] [Bx.cells [Cl.d (DV.sl b.length (u8s b))]] ⟨AV.agg [Cl.d (DV.int .i64 ((parseS b).bits)),Cl.d (DV.int .i64 ((parseS b).c.a)),Cl.d (DV.int .i64 ((parseS b).c.b)),Cl.d (DV.int .i64 ((parseS b).c.c)),Cl.d (DV.int .i64 ((parseS b).c.d)),Cl.d (DV.int .i64 ((parseS b).tw)),Cl.d (DV.int .i64 ((parseS b).th)),Cl.ref 1 ((parseS b).ord.length),Cl.ref 2 ((parseS b).ims.length),Cl.ref 3 ((parseS b).ops.length)],[Bx.cells [Cl.d (DV.sl 0 ([]))],Bx.row 3 1 (is (parseS b).ord),Bx.row 43 28 (ims (parseS b).ims),Bx.row 55 12 (ops (parseS b).ops)],false⟩)∧((¬ (parseOk b))→PanG Try.prog chM 46 [AV.one (Cl.ptr 0 0)] [Bx.cells [Cl.d (DV.sl b.length (u8s b))]]):=
  pans_of_xcg (Γ:=gamDc) (X:=gamDcX) (script_reader_script_ann b) mixed_ Try.func46 rfl (Nat.le_of_ble_eq_true rfl) rfl fun hwf hbx=>by
    refine Eq.mpr (script_reader_script_vc b) ?_
    delta tU2 tU3 tU4 tU6 dJ dQ cJ cK wK
    simp only [true_and,and_true,RV.d.injEq,RV.agg.injEq,RV.tup.injEq,DV.bool.injEq,DV.int.injEq,DV.sl.injEq,List.cons.injEq,forall_const,Bool.not_false,Bool.not_true,Bool.not_eq_true',Bool.not_eq_false',decide_eq_true_eq,decide_eq_false_iff_not,Int.toNat_natCast,imQ,imQr,imC,oqQ,oqQr,oqC,oqD,pxQ,pxQr,pxC,pxD]
    simp only [ints_u8s,List.drop_drop,Nat.reduceAdd]
    simp only [Bx.wfL,Bx.wf,Cl.wfs,DV.wf,maxLen] at hbx
    have hB:=isB_of hbx.1.1.2
    have hlen:=hbx.1.1.1
    have dm:=fun p:Bool=>script_demand_ans p
    have no1:¬ hd1P b→¬ parseOk b:=fun h hp=>h hp.1.1.1.1
    have no31:¬ 31≤b.length→¬ parseOk b:=fun h hp=>h hp.1.1.1.2.1
    have p1:(256:Int) ^ 1=256:=by decide
    have p2:(256:Int) ^ 2=65536:=by decide
    have p4:(256:Int) ^ 4=4294967296:=by decide
    have c1:tkV 4 (b.drop 27)=(n1P b:Int)∧n1P b≤4294967296:=by
      have:=tkV_all (hB.drop 27) 4
      unfold n1P; omega
    have hBA:isB (bAP b):=hB.drop _
    have hBB:isB (bBP b):=hBA.drop _
    have c2:tkV 1 (bAP b)=(n2P b:Int)∧n2P b≤256:=by
      have:=tkV_all hBA 1
      unfold n2P; omega
    have hBC:isB (bCP b):=imsT_isB hBB _
    have c3:tkV 2 (bCP b)=(n3P b:Int)∧n3P b≤65536:=by
      have:=tkV_all hBC 2
      unfold n3P; omega
    have wS:∀ k:Nat,k≤4294967296→IntKind.wrap .i64 ((k:Int)+1)=((k+1:Nat):Int):=fun k hk=>by rw [IntWalk.i64_in _ ⟨by omega,by omega⟩]; omega
    refine ⟨⟨fun h'=>⟨(tk_at b 0 1 ⟨by omega,by omega⟩).2 h',no31 (by omega)⟩,fun h1=>⟨(tk_at b 0 1 ⟨by omega,by omega⟩).1 h1,fun hL=>⟨fun h'=>⟨(tk_at b 1 1 ⟨by omega,by omega⟩).2 h',no31 (by rw [List.length_drop] at h'; omega)⟩,fun h2=>⟨(tk_at b 1 1 ⟨by omega,by omega⟩).1 h2,fun h'=>⟨(dm _).2 h',no1 fun hd=>h' (by simpa using hd.2.2)⟩,fun hC=>⟨(dm _).1 hC,(),⟨by rw [List.length_drop] at h2; omega,by simpa using hL,by simpa using hC⟩,trivial,trivial⟩⟩⟩,
      fun hL=>⟨fun h'=>⟨(dm false).2 h',no1 fun hd=>by rw [hd.2.1] at hL; simp at hL⟩,fun h=>by cases h⟩⟩⟩,fun hd=>⟨fun h'=>⟨(tk_at b 2 1 ⟨by omega,by omega⟩).2 h',no31 (by first | omega | (rw [List.length_drop] at h'; omega))⟩,fun h=>⟨(tk_at b 2 1 ⟨by omega,by omega⟩).1 h,⟨fun h'=>⟨(sg_at b 3).2 h',no31 (by first | omega | (rw [List.length_drop] at h'; omega))⟩,fun h=>⟨(sg_at b 3).1 h,⟨fun h'=>⟨(sg_at b 7).2 h',no31 (by first | omega | (rw [List.length_drop] at h'; omega))⟩,fun h=>⟨(sg_at b 7).1 h,⟨fun h'=>⟨(sg_at b 11).2 h',no31 (by first | omega | (rw [List.length_drop] at h'; omega))⟩,fun h=>⟨(sg_at b 11).1 h,⟨fun h'=>⟨(sg_at b 15).2 h',no31 (by first | omega | (rw [List.length_drop] at h'; omega))⟩,fun h=>⟨(sg_at b 15).1 h,?_⟩⟩⟩⟩⟩⟩⟩⟩⟩⟩⟩
    refine ⟨⟨fun h'=>⟨(tk_at b 19 4 ⟨by omega,by omega⟩).2 h',no31 (by first | omega | (rw [List.length_drop] at h'; omega))⟩,fun h=>⟨(tk_at b 19 4 ⟨by omega,by omega⟩).1 h,⟨fun h'=>⟨(tk_at b 23 4 ⟨by omega,by omega⟩).2 h',no31 (by first | omega | (rw [List.length_drop] at h'; omega))⟩,fun h=>⟨(tk_at b 23 4 ⟨by omega,by omega⟩).1 h,(),⟨hd,by rw [List.length_drop] at h; omega⟩,⟨trivial,trivial⟩,trivial,trivial,trivial,trivial,trivial,trivial,trivial⟩⟩⟩⟩,fun hd2=>?_⟩
    have ct:=fun (l:List Int) (n z:Nat) (hn:1≤n∧n≤4) (hz:1≤z∧z≤100)=>script_reader_count_ans l (n:Int) (z:Int) ⟨by omega,by omega⟩ ⟨by omega,by omega⟩
    simp only [Int.toNat_natCast] at ct
    have t27:=ct (b.drop 27) 4 4 ⟨by omega,by omega⟩ ⟨by omega,by omega⟩
    rw [List.drop_drop] at t27
    refine ⟨fun h'=>⟨t27.2 h',fun hp=>h' hp.1.1.1.2.2⟩,fun h27=>⟨t27.1 h27,⟨0,⟨⟨hd,?_,h27⟩,Nat.zero_le _⟩,⟨c1.1,rfl⟩,⟨rfl,rfl⟩,rfl,rfl⟩,fun k hk=>⟨fun hlt=>?_,fun hge=>?_⟩⟩⟩
    · have:=h27.1
      rw [List.length_drop] at this
      omega
    · obtain ⟨k1,k2⟩:=hk
      have hn:31+4*n1P b≤b.length:=by
        have h1:=k1.2.2.2
        rw [c1.1,List.length_drop] at h1
        have h2:=k1.2.1
        omega
      have t:=tk_at b (31+4*k) 4 ⟨by omega,by omega⟩
      refine ⟨fun h'=>⟨t.2 h',fun hp=>h' (by rw [List.length_drop]; omega)⟩,fun h'=>⟨t.1 h',⟨by rw [is_length,ordL_len,Nat.mul_one],rfl,by unfold maxLen; omega,by omega⟩,k+1,⟨k1,by omega⟩,by omega,wS k (by omega),⟨rfl,rfl⟩,rfl,?_⟩⟩
      rw [is_snoc,ordL_succ]
    · obtain ⟨k1,k2⟩:=hk
      have:k=n1P b:=by omega
      subst this
      have tA:=ct (b.drop (31+4*n1P b)) 1 9 ⟨by omega,by omega⟩ ⟨by omega,by omega⟩
      rw [List.drop_drop] at tA
      have eBB:bBP b=b.drop (31+4*n1P b+1):=by unfold bBP bAP; rw [List.drop_drop]
      refine ⟨fun h'=>⟨tA.2 h',fun hp=>h' hp.1.1.2.1⟩,fun hA=>⟨tA.1 hA,⟨0,⟨⟨k1,hA,fun i hi=>absurd hi (Nat.not_lt_zero i)⟩,Nat.zero_le _⟩,⟨c2.1,rfl⟩,⟨by rw [← eBB]; rfl,by rw [← eBB]; rfl⟩,⟨rfl,rfl⟩,rfl,rfl⟩,fun i hi=>⟨fun hlt=>?_,fun hge=>?_⟩⟩⟩
      · obtain ⟨i1,i2⟩:=hi
        have hi:i < n2P b:=by omega
        have t:=script_reader_image_ans (imsT (bBP b) i).2
        refine ⟨fun h'=>⟨t.2 h',fun hp=>h' (hp.1.1.2.2 i hi)⟩,fun h'=>⟨t.1 h',⟨by rw [ims_length,imsT_len],rfl,by unfold maxLen; omega,by omega⟩,i+1,⟨⟨i1.1,i1.2.1,fun q hq=>?_⟩,by omega⟩,by omega,wS i (by omega),⟨rfl,rfl⟩,rfl,ims_snoc _ _⟩⟩
        by_cases e:q=i
        · subst e; exact h'
        · exact i1.2.2 q (by omega)
      · obtain ⟨i1,i2⟩:=hi
        have:i=n2P b:=by omega
        subst this
        have tC:=ct (bCP b) 2 24 ⟨by omega,by omega⟩ ⟨by omega,by omega⟩
        refine ⟨fun h'=>⟨tC.2 h',fun hp=>h' hp.1.2.1⟩,fun hC=>⟨tC.1 hC,⟨0,⟨⟨i1,hC,fun i hi=>absurd hi (Nat.not_lt_zero i)⟩,Nat.zero_le _⟩,⟨c3.1,rfl⟩,⟨rfl,rfl⟩,⟨rfl,rfl⟩,rfl,rfl⟩,fun j hj=>⟨fun hlt=>?_,fun hge=>?_⟩⟩⟩
        · obtain ⟨j1,j2⟩:=hj
          have hj:j < n3P b:=by omega
          have t:=script_reader_op_ans ((bDP b).drop (24*j))
          simp only [List.drop_drop] at t
          refine ⟨fun h'=>⟨t.2 h',fun hp=>h' (hp.1.2.2 j hj)⟩,fun h'=>⟨t.1 h',⟨by rw [ops_length,opsL_len],rfl,by unfold maxLen; omega,by omega⟩,j+1,⟨⟨j1.1,j1.2.1,fun q hq=>?_⟩,by omega⟩,by omega,wS j (by omega),⟨rfl,rfl⟩,rfl,?_⟩⟩
          · by_cases e:q=j
            · subst e; exact h'
            · exact j1.2.2 q (by omega)
          · rw [ops_snoc,opsL_succ]
        · obtain ⟨j1,j2⟩:=hj
          have:j=n3P b:=by omega
          subst this
          refine ⟨fun h'=>⟨(dm _).2 h',fun hp=>h' (by rw [hp.2]; rfl)⟩,fun h'=>⟨(dm _).1 h',⟨j1,by simpa using h'⟩,?_⟩⟩
          have hz:((bDP b).drop (24*n3P b)).length=0:=by
            have:=of_decide_eq_true h'
            omega
          have hz2:(bDP b).drop (24*n3P b)=[]:=List.length_eq_zero_iff.1 hz
          exact ⟨⟨⟨rfl,rfl,rfl,rfl,rfl,rfl,rfl,(ordL_len _ _).symm,(imsT_len _ _).symm,(opsL_len _ _).symm⟩,⟨hz,by rw [hz2]; rfl⟩,rfl,rfl,rfl⟩,trivial⟩
end Go.Proofs.Ytlnfgagmiogkgaa
namespace Go.Proofs.Ytlnfgagmiogkgaa
open Go.RowKit
set_option linter.unusedVariables false
set_option linter.unusedSimpArgs false
theorem store_one (w:World) (g k:Nat) (xs:Array Value) (y:Value) (hp:w.heap[g]?=some (.cells xs 32 (0,0))) (hk:k < xs.size):∃ v:World,w.setCell ⟨g,k,none⟩ y=v∧w.cell? ⟨g,k,none⟩=some xs[k]∧w.frozen? ⟨g,k,none⟩=false∧v=w.setRow g (xs.setIfInBounds k y)∧v.heap[g]?=some (.cells (xs.setIfInBounds k y) 32 (0,0)):=by
  have e:=setCell_eq_setRow w g k _ _ _ y hp
  exact ⟨_,rfl,by simp [World.cell?,hp,hk],by simp [World.frozen?,hp],e,by rw [e]; exact setRow_heap w g _ _ _ _ hp⟩
theorem store_ten (w:World) (g:Nat) (x0 x1 x2 x3 x4 x5 x6 x7 x8 x9 y0 y1 y2 y3 y4 y5 y6 y7 y8 y9:Value) (hp:w.heap[g]?=some (.cells #[x0,x1,x2,x3,x4,x5,x6,x7,x8,x9] 32 (0,0))):∃ v1 v2 v3 v4 v5 v6 v7 v8 v9 v10:World,(w.cell? ⟨g,0,none⟩=some x0∧w.frozen? ⟨g,0,none⟩=false∧w.setCell ⟨g,0,none⟩ y0=v1)∧(v1.cell? ⟨g,1,none⟩=some x1∧v1.frozen? ⟨g,1,none⟩=false∧v1.setCell ⟨g,1,none⟩ y1=v2)∧(v2.cell? ⟨g,2,none⟩=some x2∧v2.frozen? ⟨g,2,none⟩=false∧v2.setCell ⟨g,2,none⟩ y2=v3)∧(v3.cell? ⟨g,3,none⟩=some x3∧v3.frozen? ⟨g,3,none⟩=false∧v3.setCell ⟨g,3,none⟩ y3=v4)∧(v4.cell? ⟨g,4,none⟩=some x4∧v4.frozen? ⟨g,4,none⟩=false∧v4.setCell ⟨g,4,none⟩ y4=v5)∧(v5.cell? ⟨g,5,none⟩=some x5∧v5.frozen? ⟨g,5,none⟩=false∧v5.setCell ⟨g,5,none⟩ y5=v6)∧(v6.cell? ⟨g,6,none⟩=some x6∧v6.frozen? ⟨g,6,none⟩=false∧v6.setCell ⟨g,6,none⟩ y6=v7)∧(v7.cell? ⟨g,7,none⟩=some x7∧v7.frozen? ⟨g,7,none⟩=false∧v7.setCell ⟨g,7,none⟩ y7=v8)∧(v8.cell? ⟨g,8,none⟩=some x8∧v8.frozen? ⟨g,8,none⟩=false∧v8.setCell ⟨g,8,none⟩ y8=v9)∧(v9.cell? ⟨g,9,none⟩=some x9∧v9.frozen? ⟨g,9,none⟩=false∧v9.setCell ⟨g,9,none⟩ y9=v10)∧v10=w.setRow g #[y0,y1,y2,y3,y4,y5,y6,y7,y8,y9]∧v10.heap[g]?=some (.cells #[y0,y1,y2,y3,y4,y5,y6,y7,y8,y9] 32 (0,0)):=by
  obtain ⟨v1,s1,a0,b0,e1,h1⟩:=store_one w g 0 #[x0,x1,x2,x3,x4,x5,x6,x7,x8,x9] y0 hp (by simp)
  obtain ⟨v2,s2,a1,b1,e2,h2⟩:=store_one v1 g 1 #[y0,x1,x2,x3,x4,x5,x6,x7,x8,x9] y1 h1 (by simp)
  obtain ⟨v3,s3,a2,b2,e3,h3⟩:=store_one v2 g 2 #[y0,y1,x2,x3,x4,x5,x6,x7,x8,x9] y2 h2 (by simp)
  obtain ⟨v4,s4,a3,b3,e4,h4⟩:=store_one v3 g 3 #[y0,y1,y2,x3,x4,x5,x6,x7,x8,x9] y3 h3 (by simp)
  obtain ⟨v5,s5,a4,b4,e5,h5⟩:=store_one v4 g 4 #[y0,y1,y2,y3,x4,x5,x6,x7,x8,x9] y4 h4 (by simp)
  obtain ⟨v6,s6,a5,b5,e6,h6⟩:=store_one v5 g 5 #[y0,y1,y2,y3,y4,x5,x6,x7,x8,x9] y5 h5 (by simp)
  obtain ⟨v7,s7,a6,b6,e7,h7⟩:=store_one v6 g 6 #[y0,y1,y2,y3,y4,y5,x6,x7,x8,x9] y6 h6 (by simp)
  obtain ⟨v8,s8,a7,b7,e8,h8⟩:=store_one v7 g 7 #[y0,y1,y2,y3,y4,y5,y6,x7,x8,x9] y7 h7 (by simp)
  obtain ⟨v9,s9,a8,b8,e9,h9⟩:=store_one v8 g 8 #[y0,y1,y2,y3,y4,y5,y6,y7,x8,x9] y8 h8 (by simp)
  obtain ⟨v10,s10,a9,b9,e10,h10⟩:=store_one v9 g 9 #[y0,y1,y2,y3,y4,y5,y6,y7,y8,x9] y9 h9 (by simp)
  refine ⟨v1,v2,v3,v4,v5,v6,v7,v8,v9,v10,⟨a0,b0,s1⟩,⟨a1,b1,s2⟩,⟨a2,b2,s3⟩,⟨a3,b3,s4⟩,⟨a4,b4,s5⟩,⟨a5,b5,s6⟩,⟨a6,b6,s7⟩,⟨a7,b7,s8⟩,⟨a8,b8,s9⟩,⟨a9,b9,s10⟩,?_,h10⟩
  rw [e10,e9,e8,e7,e6,e5,e4,e3,e2,e1]
  simp only [setRow_setRow]
  rfl
theorem ten_facts (w:World) (g:Nat) (x0 x1 x2 x3 x4 x5 x6 x7 x8 x9:Value) (hp:w.heap[g]?=some (.cells #[x0,x1,x2,x3,x4,x5,x6,x7,x8,x9] 32 (0,0))):(w.cell? ⟨g,0,none⟩=some x0∧w.frozen? ⟨g,0,none⟩=false∧w.setCell ⟨g,0,none⟩ x0=w)∧(w.cell? ⟨g,1,none⟩=some x1∧w.frozen? ⟨g,1,none⟩=false∧w.setCell ⟨g,1,none⟩ x1=w)∧(w.cell? ⟨g,2,none⟩=some x2∧w.frozen? ⟨g,2,none⟩=false∧w.setCell ⟨g,2,none⟩ x2=w)∧(w.cell? ⟨g,3,none⟩=some x3∧w.frozen? ⟨g,3,none⟩=false∧w.setCell ⟨g,3,none⟩ x3=w)∧(w.cell? ⟨g,4,none⟩=some x4∧w.frozen? ⟨g,4,none⟩=false∧w.setCell ⟨g,4,none⟩ x4=w)∧(w.cell? ⟨g,5,none⟩=some x5∧w.frozen? ⟨g,5,none⟩=false∧w.setCell ⟨g,5,none⟩ x5=w)∧(w.cell? ⟨g,6,none⟩=some x6∧w.frozen? ⟨g,6,none⟩=false∧w.setCell ⟨g,6,none⟩ x6=w)∧(w.cell? ⟨g,7,none⟩=some x7∧w.frozen? ⟨g,7,none⟩=false∧w.setCell ⟨g,7,none⟩ x7=w)∧(w.cell? ⟨g,8,none⟩=some x8∧w.frozen? ⟨g,8,none⟩=false∧w.setCell ⟨g,8,none⟩ x8=w)∧(w.cell? ⟨g,9,none⟩=some x9∧w.frozen? ⟨g,9,none⟩=false∧w.setCell ⟨g,9,none⟩ x9=w):=by
  have h:∀ k (hk:k < 10),w.cell? ⟨g,k,none⟩=some (#[x0,x1,x2,x3,x4,x5,x6,x7,x8,x9][k])∧w.frozen? ⟨g,k,none⟩=false∧w.setCell ⟨g,k,none⟩ (#[x0,x1,x2,x3,x4,x5,x6,x7,x8,x9][k])=w:=fun k hk=>by
    obtain ⟨v,s,a,b,e,_⟩:=store_one w g k #[x0,x1,x2,x3,x4,x5,x6,x7,x8,x9] (#[x0,x1,x2,x3,x4,x5,x6,x7,x8,x9][k]) hp hk
    refine ⟨a,b,?_⟩
    rw [s,e]
    exact (congrArg (w.setRow g) (by simp)).trans (setRow_self w g _ _ _ hp)
  exact ⟨h 0 (by decide),h 1 (by decide),h 2 (by decide),h 3 (by decide),h 4 (by decide),h 5 (by decide),h 6 (by decide),h 7 (by decide),h 8 (by decide),h 9 (by decide)⟩
set_option maxRecDepth 100000 in
theorem catch_any (g g2:Nat) (w:World) (x0 x1 x2 x3 x4 x5 x6 x7 x8 x9 y:Value) (hne:g≠g2) (hp:w.heap[g]?=some (.cells #[x0,x1,x2,x3,x4,x5,x6,x7,x8,x9] 32 (0,0))) (hq:w.heap[g2]?=some (.cells #[y] 46 (0,0))) :
    CallsD Try.prog 44 #[.pointer (some ⟨g,0,none⟩),.pointer (some ⟨g2,0,none⟩)] (.panicking ({ v:=.iface 94 (.agg #[]),recovered:=false }::[])) w fun e u' w'=>
      e=.returned (.tuple #[])∧u'=.panicking ({ v:=.iface 94 (.agg #[]),recovered:=true }::[])∧w'=(w.setRow g #[Value.int .i64 0,Value.int .i64 0,Value.int .i64 0,Value.int .i64 0,Value.int .i64 0,Value.int .i64 0,Value.int .i64 0,Value.slice none 0 0,Value.slice none 0 0,Value.slice none 0 0]).setRow g2 #[.int .i64 19]:=by
  have hta:∀ w:World,(Instr.typeAssert (.iface 94 (.agg #[])) 20 94 true).run Try.prog w=.ok (.tuple #[.agg #[],.bool true]) w:=fun _=>by kernel_rfl
  obtain ⟨v1,v2,v3,v4,v5,v6,v7,v8,v9,v10,⟨cv0,fv0,sv1⟩,⟨cv1,fv1,sv2⟩,⟨cv2,fv2,sv3⟩,⟨cv3,fv3,sv4⟩,⟨cv4,fv4,sv5⟩,⟨cv5,fv5,sv6⟩,⟨cv6,fv6,sv7⟩,⟨cv7,fv7,sv8⟩,⟨cv8,fv8,sv9⟩,⟨cv9,fv9,sv10⟩,ev,hv10⟩:=store_ten w g _ _ _ _ _ _ _ _ _ _ (Value.int .i64 0) (Value.int .i64 0) (Value.int .i64 0) (Value.int .i64 0) (Value.int .i64 0) (Value.int .i64 0) (Value.int .i64 0) (Value.slice none 0 0) (Value.slice none 0 0) (Value.slice none 0 0) hp
  have hq2:v10.heap[g2]?=some (.cells #[y] 46 (0,0)):=by rw [ev,setRow_other _ _ _ _ (Ne.symm hne)]; exact hq
  have cu0:v10.cell? ⟨g2,0,none⟩=some y:=by simp [World.cell?,hq2]
  have fu0:v10.frozen? ⟨g2,0,none⟩=false:=by simp [World.frozen?,hq2]
  obtain ⟨u1,su1⟩:∃ X,v10.setCell ⟨g2,0,none⟩ (.int .i64 19)=X:=⟨_,rfl⟩
  have eu:u1=v10.setRow g2 #[.int .i64 19]:=by rw [← su1]; exact setCell_eq_setRow v10 g2 0 _ _ _ _ hq2
  have EV:PLift (u1=(w.setRow g #[Value.int .i64 0,Value.int .i64 0,Value.int .i64 0,Value.int .i64 0,Value.int .i64 0,Value.int .i64 0,Value.int .i64 0,Value.slice none 0 0,Value.slice none 0 0,Value.slice none 0 0]).setRow g2 #[.int .i64 19]):=⟨by rw [eu,ev]⟩
  clear eu ev hq2 hv10 hp hq
  refine callsD_of_wpS Try.func44 rfl fun c₀ cs hu=>?_
  apply wpS_seq
  apply wpS_region
  simp [wpOpsS,go_sem,recoverD,hu,Try.ntmps44,Exit.thenS]
  refine wpS_of_wp ?_
  go_wp2
  simp [bodyPostS,results,Try.results44]
  exact EV.down
set_option maxRecDepth 100000 in
theorem catch_none (g g2:Nat) (w:World) :
    CallsD Try.prog 44 #[.pointer (some ⟨g,0,none⟩),.pointer (some ⟨g2,0,none⟩)] .returning w fun e u' w'=>e=.returned (.tuple #[])∧u'=.returning∧w'=w:=by
  refine callsD_of_wpS Try.func44 rfl fun c₀ cs hu=>?_
  apply wpS_seq
  apply wpS_region
  simp [wpOpsS,go_sem,recoverD,hu,Try.ntmps44,Exit.thenS]
  refine wpS_of_wp ?_
  go_wp2
  simp [bodyPostS,results,Try.results44]
  cases c₀
  simp only at hu
  subst hu
  rfl
def scrD (s:Scr):List DV:=[.int .i64 s.bits,.int .i64 s.c.a,.int .i64 s.c.b,.int .i64 s.c.c,.int .i64 s.c.d,.int .i64 s.tw,.int .i64 s.th,.sl s.ord.length (is s.ord),.sl s.ims.length (ims s.ims),.sl s.ops.length (ops s.ops)]
theorem hand_reader {w:World} {V:Nat→Prop} {g:Nat} {v:Value} {b:List Int} (hp:w.heap[g]?=some (.cells #[v] 97 (0,0))) (hv:RepD w V (.sl b.length (u8s b)) v) (hn:¬ V g) :
    Handed_ w V (fun x=>if x=0 then some (g,0) else none) [AV.one (Cl.ptr 0 0)] [Bx.cells [Cl.d (DV.sl b.length (u8s b))]] [.pointer (some ⟨g,0,none⟩)]:=by
  refine ⟨fun x g' c hl e=>?_,fun x x' g1 c c' hl hl' hne e=>?_,fun x=>?_,?_⟩
  · by_cases hx:x=0
    · subst hx
      simp at e
      obtain ⟨rfl,rfl⟩:=e
      exact ⟨hn,(Array.getElem?_eq_some_iff.1 hp).1⟩
    · simp [hx] at e
  · by_cases hx:x=0
    · by_cases hx':x'=0
      · omega
      · simp [hx']
    · simp [hx] at e
  · match x with
    | 0=>exact ⟨g,0,#[v],97,rfl,hp,⟨hv,trivial⟩⟩
    | x+1=>exact trivial
  · simp only [RepAVs,RepAV,RepCl]
    exact ⟨⟨rfl,g,0,rfl,rfl⟩,trivial⟩
theorem ownB_reader {g k:Nat} {b:List Int} (h:OwnB (boxes [Bx.cells [Cl.d (DV.sl b.length (u8s b))]]) (fun x=>if x=0 then some (g,0) else none) k):k=g:=by
  obtain ⟨x,c,_,e⟩:=h
  by_cases hx:x=0
  · simp [hx] at e
    exact e.1.symm
  · simp [hx] at e
theorem bel_reader {g:Nat} {b:List Int} {w w':World} (h:Bel (OwnB (boxes [Bx.cells [Cl.d (DV.sl b.length (u8s b))]]) (fun x=>if x=0 then some (g,0) else none)) w w'):Bel (·=g) w w':=
  ⟨h.os,h.tape,h.output,h.size,fun k hk hn=>h.block k hk fun ho=>hn (ownB_reader ho)⟩
theorem script_yes {b:List Int} (hb:parseOk b) {w:World} {V:Nat→Prop} {g:Nat} {v:Value} (hg:GlobOK w V) (hp:w.heap[g]?=some (.cells #[v] 97 (0,0))) (hv:RepD w V (.sl b.length (u8s b)) v) (hn:¬ V g) :
    Calls Try.prog 46 #[.pointer (some ⟨g,0,none⟩)] w fun e w'=>∃ v',e=.returned v'∧RepR w' (fun x=>(V x∨w.heap.size≤x)∨x=g) (.agg (scrD (parseS b))) v'∧Bel (·=g) w w':=by
  refine ((script_reader_script_ans b).1 hb w V _ _ hg (hand_reader hp hv hn)).mono fun ed w' h=>?_
  obtain ⟨v',ι',rfl,ha⟩:=h
  refine ⟨v',rfl,thaw_av (fun x hV=>?_) ha.bx (fun x g' c hl e=>?_) rfl ha.rep,bel_reader ha.bel⟩
  · rcases hV.1 with ⟨_,h⟩ | h | h
    · exact .inl (.inl h)
    · exact .inl (.inr h)
    · exact .inr (ownB_reader h)
  · rcases (ha.own x g' c hl e).1 with h | h
    · exact .inl (.inr h)
    · exact .inr (ownB_reader h)
theorem script_no {b:List Int} (hb:¬ parseOk b) {w:World} {V:Nat→Prop} {g:Nat} {v:Value} (hg:GlobOK w V) (hp:w.heap[g]?=some (.cells #[v] 97 (0,0))) (hv:RepD w V (.sl b.length (u8s b)) v) (hn:¬ V g) :
    Calls Try.prog 46 #[.pointer (some ⟨g,0,none⟩)] w fun e w'=>e=.panicked chM∧Bel (·=g) w w':=by
  refine ((script_reader_script_ans b).2 hb w V _ _ hg (hand_reader hp hv hn)).mono fun ed w' h=>?_
  exact ⟨h.1,bel_reader h.2⟩
theorem panic_below {w W:World} {xs ys:Array Value} (hb:Below w.heap.size w W) (h1:W.heap[w.heap.size]?=some (.cells xs 32 (0,0))) (h2:W.heap[w.heap.size+1]?=some (.cells ys 46 (0,0))) {ps qs:Array Value} :
    Below w.heap.size w ((W.setRow w.heap.size ps).setRow (w.heap.size+1) qs):=by
  obtain ⟨b1,b2,b3,b4,b5⟩:=hb
  refine ⟨b1,b2,b3,by simp [World.setRow]; exact b4,fun k hk=>?_⟩
  rw [setRow_other _ _ _ _ (by omega),setRow_other _ _ _ _ (by omega)]
  exact b5 k hk
theorem panic_rows {w W:World} {xs ys:Array Value} (h1:W.heap[w.heap.size]?=some (.cells xs 32 (0,0))) (h2:W.heap[w.heap.size+1]?=some (.cells ys 46 (0,0))) {ps qs:Array Value} :
    ((W.setRow w.heap.size ps).setRow (w.heap.size+1) qs).heap[w.heap.size]?=some (.cells ps 32 (0,0))∧((W.setRow w.heap.size ps).setRow (w.heap.size+1) qs).heap[w.heap.size+1]?=some (.cells qs 46 (0,0)):=by
  refine ⟨?_,?_⟩
  · rw [setRow_other _ _ _ _ (by omega)]
    exact setRow_heap W _ _ _ _ _ h1
  · exact setRow_heap _ _ _ _ _ _ (by rw [setRow_other _ _ _ _ (by omega)]; exact h2)
set_option maxRecDepth 100000 in
theorem decode_long (A:Option Addr) (len cap:Nat) (w:World) (hL:¬ len≤67108864) :
    Calls Try.prog 19 #[.slice A len cap] w fun e w'=>e=.returned (.tuple #[.agg #[Value.int .i64 0,Value.int .i64 0,Value.int .i64 0,Value.int .i64 0,Value.int .i64 0,Value.int .i64 0,Value.int .i64 0,Value.slice none 0 0,Value.slice none 0 0,Value.slice none 0 0],.int .i64 19])∧Below w.heap.size w w':=by
  have hd:decide ((len:Int)≤67108864)=false:=decide_eq_false (by omega)
  have hmf:∀ (fn:Fn) (first cap:Array Value) (w:World),(Instr.makeFunc fn first cap).run Try.prog w=.ok (.func fn first cap) w:=fun _ _ _ _=>rfl
  have sz:∀ (u:World) (o:Obj),(u.alloc o).heap.size=u.heap.size+1:=fun u o=>by simp
  have old:∀ (u:World) (o:Obj) (k:Nat),k < u.heap.size→(u.alloc o).heap[k]?=u.heap[k]?:=fun u o k hk=>heap_alloc_old u o hk
  have new:∀ (u:World) (o:Obj),(u.alloc o).heap[u.heap.size]?=some o:=fun u o=>heap_alloc_new u o
  go_enter_defers Try.func19,Try.ntmps19
  go_wp2_with fail
  obtain ⟨W,hW⟩:∃ W,W=((w.alloc (.cells #[Value.int .i64 0,Value.int .i64 0,Value.int .i64 0,Value.int .i64 0,Value.int .i64 0,Value.int .i64 0,Value.int .i64 0,Value.slice none 0 0,Value.slice none 0 0,Value.slice none 0 0] 32)).alloc (.cells #[.int .i64 0] 46)):=⟨_,rfl⟩
  have h1:W.heap[w.heap.size]?=some (.cells #[Value.int .i64 0,Value.int .i64 0,Value.int .i64 0,Value.int .i64 0,Value.int .i64 0,Value.int .i64 0,Value.int .i64 0,Value.slice none 0 0,Value.slice none 0 0,Value.slice none 0 0] 32):=by
    rw [hW,old _ _ _ (by simp only [sz]; omega),new]
  have h2:W.heap[w.heap.size+1]?=some (.cells #[.int .i64 0] 46):=by
    rw [hW,← sz w (.cells #[Value.int .i64 0,Value.int .i64 0,Value.int .i64 0,Value.int .i64 0,Value.int .i64 0,Value.int .i64 0,Value.int .i64 0,Value.slice none 0 0,Value.slice none 0 0,Value.slice none 0 0] 32),new]
  have hs:W.heap.size=w.heap.size+2:=by rw [hW]; simp only [sz]
  have hbw:Below w.heap.size w W:=by
    refine ⟨by rw [hW]; rfl,by rw [hW]; rfl,by rw [hW]; rfl,by omega,fun k hk=>?_⟩
    rw [hW,old _ _ _ (by simp only [sz]; omega),old _ _ _ hk]
  rw [← hW]
  clear hW
  refine (demand_no _).mono ?_
  rintro e w' ⟨rfl,hw⟩
  rw [hw]
  clear hw w'
  simp only [bodyPost]
  refine ⟨by simp,?_⟩
  go_wp2
  refine ⟨_,_,⟨rfl,rfl⟩,?_⟩
  refine (catch_any w.heap.size (w.heap.size+1) W _ _ _ _ _ _ _ _ _ _ _ (by omega) h1 h2).mono ?_
  rintro e u' w'' ⟨rfl,rfl,rfl⟩
  have k3:=panic_below hbw h1 h2 (ps:=#[Value.int .i64 0,Value.int .i64 0,Value.int .i64 0,Value.int .i64 0,Value.int .i64 0,Value.int .i64 0,Value.int .i64 0,Value.slice none 0 0,Value.slice none 0 0,Value.slice none 0 0]) (qs:=#[.int .i64 19])
  obtain ⟨k1,k2⟩:=panic_rows h1 h2 (ps:=#[Value.int .i64 0,Value.int .i64 0,Value.int .i64 0,Value.int .i64 0,Value.int .i64 0,Value.int .i64 0,Value.int .i64 0,Value.slice none 0 0,Value.slice none 0 0,Value.slice none 0 0]) (qs:=#[.int .i64 19])
  obtain ⟨W',hW'⟩:∃ W',W'=(W.setRow w.heap.size #[Value.int .i64 0,Value.int .i64 0,Value.int .i64 0,Value.int .i64 0,Value.int .i64 0,Value.int .i64 0,Value.int .i64 0,Value.slice none 0 0,Value.slice none 0 0,Value.slice none 0 0]).setRow (w.heap.size+1) #[.int .i64 19]:=⟨_,rfl⟩
  rw [← hW'] at k1 k2 k3 ⊢
  obtain ⟨⟨c0,_,_⟩,⟨c1,_,_⟩,⟨c2,_,_⟩,⟨c3,_,_⟩,⟨c4,_,_⟩,⟨c5,_,_⟩,⟨c6,_,_⟩,⟨c7,_,_⟩,⟨c8,_,_⟩,⟨c9,_,_⟩⟩:=ten_facts W' w.heap.size _ _ _ _ _ _ _ _ _ _ k1
  have c10:W'.cell? ⟨w.heap.size+1,0,none⟩=some (.int .i64 19):=by simp [World.cell?,k2]
  clear hW' k1 k2
  simp [Leaves,settle,results,Try.results19,go_sem,c0,c1,c2,c3,c4,c5,c6,c7,c8,c9,c10]
  exact k3
theorem cell_same {w w':World} {g:Nat} (h:w'.heap[g]?=w.heap[g]?) (off:Nat):w'.cell? ⟨g,off,none⟩=w.cell? ⟨g,off,none⟩:=by simp only [World.cell?,h]
theorem keep_in {w R:World} {S:Nat→Prop} (hb:Below w.heap.size w R):Keeps w S R (fun x=>S x∧x < w.heap.size):=fun g off u hV hu=>by
  have hl:g < w.heap.size:=block_lt_of_cell hu
  exact ⟨⟨hV,hl⟩,by rw [cell_same (hb.block g hl)]; exact hu⟩
set_option maxRecDepth 100000 in
theorem decode_bad (b:List Int) (A:Option Addr) (cap:Nat) (w:World) (S:Nat→Prop) (hg:GlobOK w S) (hr:RepD w S (.sl b.length (u8s b)) (.slice A b.length cap)) (hL:b.length≤67108864) (hp:¬ parseOk b) :
    Calls Try.prog 19 #[.slice A b.length cap] w fun e w'=>e=.returned (.tuple #[.agg #[Value.int .i64 0,Value.int .i64 0,Value.int .i64 0,Value.int .i64 0,Value.int .i64 0,Value.int .i64 0,Value.int .i64 0,Value.slice none 0 0,Value.slice none 0 0,Value.slice none 0 0],.int .i64 19])∧Below w.heap.size w w':=by
  have hd:decide ((b.length:Int)≤67108864)=true:=decide_eq_true (by omega)
  have hmf:∀ (fn:Fn) (first cap:Array Value) (w:World),(Instr.makeFunc fn first cap).run Try.prog w=.ok (.func fn first cap) w:=fun _ _ _ _=>rfl
  have sz:∀ (u:World) (o:Obj),(u.alloc o).heap.size=u.heap.size+1:=fun u o=>by simp
  have old:∀ (u:World) (o:Obj) (k:Nat),k < u.heap.size→(u.alloc o).heap[k]?=u.heap[k]?:=fun u o k hk=>heap_alloc_old u o hk
  have new:∀ (u:World) (o:Obj),(u.alloc o).heap[u.heap.size]?=some o:=fun u o=>heap_alloc_new u o
  go_enter_defers Try.func19,Try.ntmps19
  go_wp2_with fail
  obtain ⟨W,hW⟩:∃ W,W=((w.alloc (.cells #[Value.int .i64 0,Value.int .i64 0,Value.int .i64 0,Value.int .i64 0,Value.int .i64 0,Value.int .i64 0,Value.int .i64 0,Value.slice none 0 0,Value.slice none 0 0,Value.slice none 0 0] 32)).alloc (.cells #[.int .i64 0] 46)):=⟨_,rfl⟩
  have h1:W.heap[w.heap.size]?=some (.cells #[Value.int .i64 0,Value.int .i64 0,Value.int .i64 0,Value.int .i64 0,Value.int .i64 0,Value.int .i64 0,Value.int .i64 0,Value.slice none 0 0,Value.slice none 0 0,Value.slice none 0 0] 32):=by
    rw [hW,old _ _ _ (by simp only [sz]; omega),new]
  have h2:W.heap[w.heap.size+1]?=some (.cells #[.int .i64 0] 46):=by
    rw [hW,← sz w (.cells #[Value.int .i64 0,Value.int .i64 0,Value.int .i64 0,Value.int .i64 0,Value.int .i64 0,Value.int .i64 0,Value.int .i64 0,Value.slice none 0 0,Value.slice none 0 0,Value.slice none 0 0] 32),new]
  have hs:W.heap.size=w.heap.size+2:=by rw [hW]; simp only [sz]
  have hbw:Below w.heap.size w W:=by
    refine ⟨by rw [hW]; rfl,by rw [hW]; rfl,by rw [hW]; rfl,by omega,fun k hk=>?_⟩
    rw [hW,old _ _ _ (by simp only [sz]; omega),old _ _ _ hk]
  rw [← hW]
  clear hW
  refine (demand_yes _).mono ?_
  rintro e w' ⟨rfl,hw⟩
  rw [hw]
  clear hw w'
  go_wp2_with fail
  obtain ⟨R,hR⟩:∃ R,R=W.alloc (.cells #[.slice A b.length cap] 97):=⟨_,rfl⟩
  have r1:R.heap[w.heap.size]?=some (.cells #[Value.int .i64 0,Value.int .i64 0,Value.int .i64 0,Value.int .i64 0,Value.int .i64 0,Value.int .i64 0,Value.int .i64 0,Value.slice none 0 0,Value.slice none 0 0,Value.slice none 0 0] 32):=by
    rw [hR,old _ _ _ (by omega)]; exact h1
  have r2:R.heap[w.heap.size+1]?=some (.cells #[.int .i64 0] 46):=by
    rw [hR,old _ _ _ (by omega)]; exact h2
  have r3:R.heap[w.heap.size+2]?=some (.cells #[.slice A b.length cap] 97):=by
    rw [hR,← hs,new]
  have rs:R.heap.size=w.heap.size+3:=by rw [hR,sz]; omega
  have rb:Below w.heap.size w R:=by
    obtain ⟨b1,b2,b3,b4,b5⟩:=hbw
    refine ⟨by rw [hR]; exact b1,by rw [hR]; exact b2,by rw [hR]; exact b3,by omega,fun k hk=>?_⟩
    rw [hR,old _ _ _ (by omega)]
    exact b5 k hk
  try simp only [hs]
  rw [← hR]
  clear hR h1 h2 hbw
  have gR:GlobOK R (fun x=>S x∧x < w.heap.size):=hg.keep (keep_in rb)
  have vR:=RepD.keep (keep_in rb) hr
  refine (script_no hp gR r3 vR (by omega)).mono ?_
  rintro e w' ⟨rfl,hB⟩
  have h1:w'.heap[w.heap.size]?=some (.cells #[Value.int .i64 0,Value.int .i64 0,Value.int .i64 0,Value.int .i64 0,Value.int .i64 0,Value.int .i64 0,Value.int .i64 0,Value.slice none 0 0,Value.slice none 0 0,Value.slice none 0 0] 32):=(hB.block _ (by omega) (by omega)).trans r1
  have h2:w'.heap[w.heap.size+1]?=some (.cells #[.int .i64 0] 46):=(hB.block _ (by omega) (by omega)).trans r2
  have hbw:Below w.heap.size w w':=by
    obtain ⟨b1,b2,b3,b4,b5⟩:=rb
    exact ⟨hB.os.trans b1,hB.tape.trans b2,hB.output.trans b3,Nat.le_trans b4 hB.size,fun k hk=>(hB.block k (by omega) (by omega)).trans (b5 k hk)⟩
  clear hB r1 r2 r3 rb gR vR
  simp only [bodyPost]
  refine ⟨by simp,?_⟩
  go_wp2
  refine ⟨_,_,⟨rfl,rfl⟩,?_⟩
  refine (catch_any w.heap.size (w.heap.size+1) w' _ _ _ _ _ _ _ _ _ _ _ (by omega) h1 h2).mono ?_
  rintro e u' w'' ⟨rfl,rfl,rfl⟩
  have k3:=panic_below hbw h1 h2 (ps:=#[Value.int .i64 0,Value.int .i64 0,Value.int .i64 0,Value.int .i64 0,Value.int .i64 0,Value.int .i64 0,Value.int .i64 0,Value.slice none 0 0,Value.slice none 0 0,Value.slice none 0 0]) (qs:=#[.int .i64 19])
  obtain ⟨k1,k2⟩:=panic_rows h1 h2 (ps:=#[Value.int .i64 0,Value.int .i64 0,Value.int .i64 0,Value.int .i64 0,Value.int .i64 0,Value.int .i64 0,Value.int .i64 0,Value.slice none 0 0,Value.slice none 0 0,Value.slice none 0 0]) (qs:=#[.int .i64 19])
  obtain ⟨W',hW'⟩:∃ W',W'=(w'.setRow w.heap.size #[Value.int .i64 0,Value.int .i64 0,Value.int .i64 0,Value.int .i64 0,Value.int .i64 0,Value.int .i64 0,Value.int .i64 0,Value.slice none 0 0,Value.slice none 0 0,Value.slice none 0 0]).setRow (w.heap.size+1) #[.int .i64 19]:=⟨_,rfl⟩
  rw [← hW'] at k1 k2 k3 ⊢
  obtain ⟨⟨c0,_,_⟩,⟨c1,_,_⟩,⟨c2,_,_⟩,⟨c3,_,_⟩,⟨c4,_,_⟩,⟨c5,_,_⟩,⟨c6,_,_⟩,⟨c7,_,_⟩,⟨c8,_,_⟩,⟨c9,_,_⟩⟩:=ten_facts W' w.heap.size _ _ _ _ _ _ _ _ _ _ k1
  have c10:W'.cell? ⟨w.heap.size+1,0,none⟩=some (.int .i64 19):=by simp [World.cell?,k2]
  clear hW' k1 k2
  simp [Leaves,settle,results,Try.results19,go_sem,c0,c1,c2,c3,c4,c5,c6,c7,c8,c9,c10]
  exact k3
theorem scrD_vals {w:World} {V:Nat→Prop} {s:Scr} {cl:List Value} (h:RepDs w V (scrD s) cl):∃ (A1 A2 A3:Option Addr) (n1 n2 n3:Nat),cl=[.int .i64 s.bits,.int .i64 s.c.a,.int .i64 s.c.b,.int .i64 s.c.c,.int .i64 s.c.d,.int .i64 s.tw,.int .i64 s.th,.slice A1 s.ord.length n1,.slice A2 s.ims.length n2,.slice A3 s.ops.length n3]:=by
  unfold scrD at h
  match cl,h with
  | [v0,v1,v2,v3,v4,v5,v6,v7,v8,v9],h=>
    simp only [RepDs,RepD] at h
    obtain ⟨⟨rfl,_⟩,⟨rfl,_⟩,⟨rfl,_⟩,⟨rfl,_⟩,⟨rfl,_⟩,⟨rfl,_⟩,⟨rfl,_⟩,⟨A1,n1,rfl,_⟩,⟨A2,n2,rfl,_⟩,⟨A3,n3,rfl,_⟩,_⟩:=h
    exact ⟨A1,A2,A3,n1,n2,n3,rfl⟩
set_option maxRecDepth 100000 in
theorem decode_many (b:List Int) (A:Option Addr) (cap:Nat) (w:World) (S:Nat→Prop) (hg:GlobOK w S) (hr:RepD w S (.sl b.length (u8s b)) (.slice A b.length cap)) (hL:b.length≤67108864) (s:Scr) (hps:PLift (parseS b=s)) (hp:parseOk b) (hI:¬ s.ims.length≤64) :
    Calls Try.prog 19 #[.slice A b.length cap] w fun e w'=>e=.returned (.tuple #[.agg #[Value.int .i64 0,Value.int .i64 0,Value.int .i64 0,Value.int .i64 0,Value.int .i64 0,Value.int .i64 0,Value.int .i64 0,Value.slice none 0 0,Value.slice none 0 0,Value.slice none 0 0],.int .i64 19])∧Below w.heap.size w w':=by
  have hi:decide ((s.ims.length:Int)≤64)=false:=decide_eq_false (by omega)
  have hd:decide ((b.length:Int)≤67108864)=true:=decide_eq_true (by omega)
  have hmf:∀ (fn:Fn) (first cap:Array Value) (w:World),(Instr.makeFunc fn first cap).run Try.prog w=.ok (.func fn first cap) w:=fun _ _ _ _=>rfl
  have sz:∀ (u:World) (o:Obj),(u.alloc o).heap.size=u.heap.size+1:=fun u o=>by simp
  have old:∀ (u:World) (o:Obj) (k:Nat),k < u.heap.size→(u.alloc o).heap[k]?=u.heap[k]?:=fun u o k hk=>heap_alloc_old u o hk
  have new:∀ (u:World) (o:Obj),(u.alloc o).heap[u.heap.size]?=some o:=fun u o=>heap_alloc_new u o
  go_enter_defers Try.func19,Try.ntmps19
  go_wp2_with fail
  obtain ⟨W,hW⟩:∃ W,W=((w.alloc (.cells #[Value.int .i64 0,Value.int .i64 0,Value.int .i64 0,Value.int .i64 0,Value.int .i64 0,Value.int .i64 0,Value.int .i64 0,Value.slice none 0 0,Value.slice none 0 0,Value.slice none 0 0] 32)).alloc (.cells #[.int .i64 0] 46)):=⟨_,rfl⟩
  have h1:W.heap[w.heap.size]?=some (.cells #[Value.int .i64 0,Value.int .i64 0,Value.int .i64 0,Value.int .i64 0,Value.int .i64 0,Value.int .i64 0,Value.int .i64 0,Value.slice none 0 0,Value.slice none 0 0,Value.slice none 0 0] 32):=by
    rw [hW,old _ _ _ (by simp only [sz]; omega),new]
  have h2:W.heap[w.heap.size+1]?=some (.cells #[.int .i64 0] 46):=by
    rw [hW,← sz w (.cells #[Value.int .i64 0,Value.int .i64 0,Value.int .i64 0,Value.int .i64 0,Value.int .i64 0,Value.int .i64 0,Value.int .i64 0,Value.slice none 0 0,Value.slice none 0 0,Value.slice none 0 0] 32),new]
  have hs:W.heap.size=w.heap.size+2:=by rw [hW]; simp only [sz]
  have hbw:Below w.heap.size w W:=by
    refine ⟨by rw [hW]; rfl,by rw [hW]; rfl,by rw [hW]; rfl,by omega,fun k hk=>?_⟩
    rw [hW,old _ _ _ (by simp only [sz]; omega),old _ _ _ hk]
  rw [← hW]
  clear hW
  refine (demand_yes _).mono ?_
  rintro e w' ⟨rfl,hw⟩
  rw [hw]
  clear hw w'
  go_wp2_with fail
  obtain ⟨R,hR⟩:∃ R,R=W.alloc (.cells #[.slice A b.length cap] 97):=⟨_,rfl⟩
  have r1:R.heap[w.heap.size]?=some (.cells #[Value.int .i64 0,Value.int .i64 0,Value.int .i64 0,Value.int .i64 0,Value.int .i64 0,Value.int .i64 0,Value.int .i64 0,Value.slice none 0 0,Value.slice none 0 0,Value.slice none 0 0] 32):=by
    rw [hR,old _ _ _ (by omega)]; exact h1
  have r2:R.heap[w.heap.size+1]?=some (.cells #[.int .i64 0] 46):=by
    rw [hR,old _ _ _ (by omega)]; exact h2
  have r3:R.heap[w.heap.size+2]?=some (.cells #[.slice A b.length cap] 97):=by
    rw [hR,← hs,new]
  have rs:R.heap.size=w.heap.size+3:=by rw [hR,sz]; omega
  have rb:Below w.heap.size w R:=by
    obtain ⟨b1,b2,b3,b4,b5⟩:=hbw
    refine ⟨by rw [hR]; exact b1,by rw [hR]; exact b2,by rw [hR]; exact b3,by omega,fun k hk=>?_⟩
    rw [hR,old _ _ _ (by omega)]
    exact b5 k hk
  try simp only [hs]
  rw [← hR]
  clear hR h1 h2 hbw
  have gR:GlobOK R (fun x=>S x∧x < w.heap.size):=hg.keep (keep_in rb)
  have vR:=RepD.keep (keep_in rb) hr
  refine (script_yes hp gR r3 vR (by omega)).mono ?_
  rintro e w' ⟨v',rfl,hv,hB⟩
  have h1:w'.heap[w.heap.size]?=some (.cells #[Value.int .i64 0,Value.int .i64 0,Value.int .i64 0,Value.int .i64 0,Value.int .i64 0,Value.int .i64 0,Value.int .i64 0,Value.slice none 0 0,Value.slice none 0 0,Value.slice none 0 0] 32):=(hB.block _ (by omega) (by omega)).trans r1
  have h2:w'.heap[w.heap.size+1]?=some (.cells #[.int .i64 0] 46):=(hB.block _ (by omega) (by omega)).trans r2
  have hbw:Below w.heap.size w w':=by
    obtain ⟨b1,b2,b3,b4,b5⟩:=rb
    exact ⟨hB.os.trans b1,hB.tape.trans b2,hB.output.trans b3,Nat.le_trans b4 hB.size,fun k hk=>(hB.block k (by omega) (by omega)).trans (b5 k hk)⟩
  clear hB r1 r2 r3 rb gR vR hp
  simp only [RepR] at hv
  obtain ⟨⟨cl⟩,rfl,hv⟩:=hv
  have hv:RepDs w' _ (scrD (parseS b)) cl:=hv
  rw [hps.down] at hv
  obtain ⟨A1,A2,A3,n1,n2,n3,rfl⟩:=scrD_vals hv
  obtain ⟨v1,v2,v3,v4,v5,v6,v7,v8,v9,v10,⟨cv0,fv0,sv1⟩,⟨cv1,fv1,sv2⟩,⟨cv2,fv2,sv3⟩,⟨cv3,fv3,sv4⟩,⟨cv4,fv4,sv5⟩,⟨cv5,fv5,sv6⟩,⟨cv6,fv6,sv7⟩,⟨cv7,fv7,sv8⟩,⟨cv8,fv8,sv9⟩,⟨cv9,fv9,sv10⟩,ev,hv10⟩:=store_ten w' w.heap.size _ _ _ _ _ _ _ _ _ _ (.int .i64 s.bits) (.int .i64 s.c.a) (.int .i64 s.c.b) (.int .i64 s.c.c) (.int .i64 s.c.d) (.int .i64 s.tw) (.int .i64 s.th) (.slice A1 s.ord.length n1) (.slice A2 s.ims.length n2) (.slice A3 s.ops.length n3) h1
  have hq2:v10.heap[w.heap.size+1]?=some (.cells #[.int .i64 0] 46 (0,0)):=by rw [ev,setRow_other _ _ _ _ (by omega)]; exact h2
  have hbv:Below w.heap.size w v10:=by
    rw [ev]
    obtain ⟨b1,b2,b3,b4,b5⟩:=hbw
    exact ⟨b1,b2,b3,by simp [World.setRow]; exact b4,fun k hk=>by rw [setRow_other _ _ _ _ (by omega)]; exact b5 k hk⟩
  have hk10:Keeps w' (fun x=>((S x∧x < w.heap.size)∨R.heap.size≤x)∨x=w.heap.size+2) v10 (fun x=>S x∨w.heap.size≤x):=fun g off u hV hu=>by
    refine ⟨?_,?_⟩
    · rcases hV with (hV | hV) | hV
      · exact .inl hV.1
      · exact .inr (by omega)
      · exact .inr (by omega)
    · rw [ev,cell_same (setRow_other _ _ _ _ ?_)]
      · exact hu
      · rcases hV with (hV | hV) | hV <;> omega
  have HV:=RepDs.keep hk10 hv
  have HP:PLift (v10.heap[w.heap.size]?=some (.cells #[.int .i64 s.bits,.int .i64 s.c.a,.int .i64 s.c.b,.int .i64 s.c.c,.int .i64 s.c.d,.int .i64 s.tw,.int .i64 s.th,.slice A1 s.ord.length n1,.slice A2 s.ims.length n2,.slice A3 s.ops.length n3] 32 (0,0))):=⟨hv10⟩
  have HQ:PLift (v10.heap[w.heap.size+1]?=some (.cells #[.int .i64 0] 46 (0,0))):=⟨hq2⟩
  have HK:PLift (Below w.heap.size w v10):=⟨hbv⟩
  have HW:PLift (RepDs v10 (fun x=>S x∨w.heap.size≤x) (scrD s) [.int .i64 s.bits,.int .i64 s.c.a,.int .i64 s.c.b,.int .i64 s.c.c,.int .i64 s.c.d,.int .i64 s.tw,.int .i64 s.th,.slice A1 s.ord.length n1,.slice A2 s.ims.length n2,.slice A3 s.ops.length n3]):=⟨HV⟩
  obtain ⟨⟨d0,g0,t0⟩,⟨d1,g1,t1⟩,⟨d2,g2,t2⟩,⟨d3,g3,t3⟩,⟨d4,g4,t4⟩,⟨d5,g5,t5⟩,⟨d6,g6,t6⟩,⟨d7,g7,t7⟩,⟨d8,g8,t8⟩,⟨d9,g9,t9⟩⟩:=ten_facts v10 w.heap.size _ _ _ _ _ _ _ _ _ _ hv10
  have d10:v10.cell? ⟨w.heap.size+1,0,none⟩=some (.int .i64 0):=by simp [World.cell?,hq2]
  have g10:v10.frozen? ⟨w.heap.size+1,0,none⟩=false:=by simp [World.frozen?,hq2]
  have t10:v10.setCell ⟨w.heap.size+1,0,none⟩ (.int .i64 0)=v10:=(setCell_eq_setRow v10 (w.heap.size+1) 0 _ _ _ _ hq2).trans (setRow_self v10 (w.heap.size+1) _ _ _ hq2)
  clear hv10 ev hq2 hbv hk10 HV hv h1 h2 hbw hg hr
  go_wp2_with fail
  refine (demand_no _).mono ?_
  rintro e w' ⟨rfl,hw⟩
  rw [hw]
  clear hw w'
  obtain ⟨h1⟩:=HP
  obtain ⟨h2⟩:=HQ
  obtain ⟨hbw⟩:=HK
  simp only [bodyPost]
  refine ⟨by simp,?_⟩
  go_wp2
  refine ⟨_,_,⟨rfl,rfl⟩,?_⟩
  refine (catch_any w.heap.size (w.heap.size+1) v10 _ _ _ _ _ _ _ _ _ _ _ (by omega) h1 h2).mono ?_
  rintro e u' w'' ⟨rfl,rfl,rfl⟩
  have k3:=panic_below hbw h1 h2 (ps:=#[Value.int .i64 0,Value.int .i64 0,Value.int .i64 0,Value.int .i64 0,Value.int .i64 0,Value.int .i64 0,Value.int .i64 0,Value.slice none 0 0,Value.slice none 0 0,Value.slice none 0 0]) (qs:=#[.int .i64 19])
  obtain ⟨k1,k2⟩:=panic_rows h1 h2 (ps:=#[Value.int .i64 0,Value.int .i64 0,Value.int .i64 0,Value.int .i64 0,Value.int .i64 0,Value.int .i64 0,Value.int .i64 0,Value.slice none 0 0,Value.slice none 0 0,Value.slice none 0 0]) (qs:=#[.int .i64 19])
  obtain ⟨W',hW'⟩:∃ W',W'=(v10.setRow w.heap.size #[Value.int .i64 0,Value.int .i64 0,Value.int .i64 0,Value.int .i64 0,Value.int .i64 0,Value.int .i64 0,Value.int .i64 0,Value.slice none 0 0,Value.slice none 0 0,Value.slice none 0 0]).setRow (w.heap.size+1) #[.int .i64 19]:=⟨_,rfl⟩
  rw [← hW'] at k1 k2 k3 ⊢
  obtain ⟨⟨c0,_,_⟩,⟨c1,_,_⟩,⟨c2,_,_⟩,⟨c3,_,_⟩,⟨c4,_,_⟩,⟨c5,_,_⟩,⟨c6,_,_⟩,⟨c7,_,_⟩,⟨c8,_,_⟩,⟨c9,_,_⟩⟩:=ten_facts W' w.heap.size _ _ _ _ _ _ _ _ _ _ k1
  have c10:W'.cell? ⟨w.heap.size+1,0,none⟩=some (.int .i64 19):=by simp [World.cell?,k2]
  clear hW' k1 k2
  simp [Leaves,settle,results,Try.results19,go_sem,c0,c1,c2,c3,c4,c5,c6,c7,c8,c9,c10]
  exact k3
set_option maxRecDepth 100000 in
theorem decode_more (b:List Int) (A:Option Addr) (cap:Nat) (w:World) (S:Nat→Prop) (hg:GlobOK w S) (hr:RepD w S (.sl b.length (u8s b)) (.slice A b.length cap)) (hL:b.length≤67108864) (s:Scr) (hps:PLift (parseS b=s)) (hp:parseOk b) (hI:s.ims.length≤64) (hO:¬ s.ops.length≤4096) :
    Calls Try.prog 19 #[.slice A b.length cap] w fun e w'=>e=.returned (.tuple #[.agg #[Value.int .i64 0,Value.int .i64 0,Value.int .i64 0,Value.int .i64 0,Value.int .i64 0,Value.int .i64 0,Value.int .i64 0,Value.slice none 0 0,Value.slice none 0 0,Value.slice none 0 0],.int .i64 19])∧Below w.heap.size w w':=by
  have hi:decide ((s.ims.length:Int)≤64)=true:=decide_eq_true (by omega)
  have ho:decide ((s.ops.length:Int)≤4096)=false:=decide_eq_false (by omega)
  have hd:decide ((b.length:Int)≤67108864)=true:=decide_eq_true (by omega)
  have hmf:∀ (fn:Fn) (first cap:Array Value) (w:World),(Instr.makeFunc fn first cap).run Try.prog w=.ok (.func fn first cap) w:=fun _ _ _ _=>rfl
  have sz:∀ (u:World) (o:Obj),(u.alloc o).heap.size=u.heap.size+1:=fun u o=>by simp
  have old:∀ (u:World) (o:Obj) (k:Nat),k < u.heap.size→(u.alloc o).heap[k]?=u.heap[k]?:=fun u o k hk=>heap_alloc_old u o hk
  have new:∀ (u:World) (o:Obj),(u.alloc o).heap[u.heap.size]?=some o:=fun u o=>heap_alloc_new u o
  go_enter_defers Try.func19,Try.ntmps19
  go_wp2_with fail
  obtain ⟨W,hW⟩:∃ W,W=((w.alloc (.cells #[Value.int .i64 0,Value.int .i64 0,Value.int .i64 0,Value.int .i64 0,Value.int .i64 0,Value.int .i64 0,Value.int .i64 0,Value.slice none 0 0,Value.slice none 0 0,Value.slice none 0 0] 32)).alloc (.cells #[.int .i64 0] 46)):=⟨_,rfl⟩
  have h1:W.heap[w.heap.size]?=some (.cells #[Value.int .i64 0,Value.int .i64 0,Value.int .i64 0,Value.int .i64 0,Value.int .i64 0,Value.int .i64 0,Value.int .i64 0,Value.slice none 0 0,Value.slice none 0 0,Value.slice none 0 0] 32):=by
    rw [hW,old _ _ _ (by simp only [sz]; omega),new]
  have h2:W.heap[w.heap.size+1]?=some (.cells #[.int .i64 0] 46):=by
    rw [hW,← sz w (.cells #[Value.int .i64 0,Value.int .i64 0,Value.int .i64 0,Value.int .i64 0,Value.int .i64 0,Value.int .i64 0,Value.int .i64 0,Value.slice none 0 0,Value.slice none 0 0,Value.slice none 0 0] 32),new]
  have hs:W.heap.size=w.heap.size+2:=by rw [hW]; simp only [sz]
  have hbw:Below w.heap.size w W:=by
    refine ⟨by rw [hW]; rfl,by rw [hW]; rfl,by rw [hW]; rfl,by omega,fun k hk=>?_⟩
    rw [hW,old _ _ _ (by simp only [sz]; omega),old _ _ _ hk]
  rw [← hW]
  clear hW
  refine (demand_yes _).mono ?_
  rintro e w' ⟨rfl,hw⟩
  rw [hw]
  clear hw w'
  go_wp2_with fail
  obtain ⟨R,hR⟩:∃ R,R=W.alloc (.cells #[.slice A b.length cap] 97):=⟨_,rfl⟩
  have r1:R.heap[w.heap.size]?=some (.cells #[Value.int .i64 0,Value.int .i64 0,Value.int .i64 0,Value.int .i64 0,Value.int .i64 0,Value.int .i64 0,Value.int .i64 0,Value.slice none 0 0,Value.slice none 0 0,Value.slice none 0 0] 32):=by
    rw [hR,old _ _ _ (by omega)]; exact h1
  have r2:R.heap[w.heap.size+1]?=some (.cells #[.int .i64 0] 46):=by
    rw [hR,old _ _ _ (by omega)]; exact h2
  have r3:R.heap[w.heap.size+2]?=some (.cells #[.slice A b.length cap] 97):=by
    rw [hR,← hs,new]
  have rs:R.heap.size=w.heap.size+3:=by rw [hR,sz]; omega
  have rb:Below w.heap.size w R:=by
    obtain ⟨b1,b2,b3,b4,b5⟩:=hbw
    refine ⟨by rw [hR]; exact b1,by rw [hR]; exact b2,by rw [hR]; exact b3,by omega,fun k hk=>?_⟩
    rw [hR,old _ _ _ (by omega)]
    exact b5 k hk
  try simp only [hs]
  rw [← hR]
  clear hR h1 h2 hbw
  have gR:GlobOK R (fun x=>S x∧x < w.heap.size):=hg.keep (keep_in rb)
  have vR:=RepD.keep (keep_in rb) hr
  refine (script_yes hp gR r3 vR (by omega)).mono ?_
  rintro e w' ⟨v',rfl,hv,hB⟩
  have h1:w'.heap[w.heap.size]?=some (.cells #[Value.int .i64 0,Value.int .i64 0,Value.int .i64 0,Value.int .i64 0,Value.int .i64 0,Value.int .i64 0,Value.int .i64 0,Value.slice none 0 0,Value.slice none 0 0,Value.slice none 0 0] 32):=(hB.block _ (by omega) (by omega)).trans r1
  have h2:w'.heap[w.heap.size+1]?=some (.cells #[.int .i64 0] 46):=(hB.block _ (by omega) (by omega)).trans r2
  have hbw:Below w.heap.size w w':=by
    obtain ⟨b1,b2,b3,b4,b5⟩:=rb
    exact ⟨hB.os.trans b1,hB.tape.trans b2,hB.output.trans b3,Nat.le_trans b4 hB.size,fun k hk=>(hB.block k (by omega) (by omega)).trans (b5 k hk)⟩
  clear hB r1 r2 r3 rb gR vR hp
  simp only [RepR] at hv
  obtain ⟨⟨cl⟩,rfl,hv⟩:=hv
  have hv:RepDs w' _ (scrD (parseS b)) cl:=hv
  rw [hps.down] at hv
  obtain ⟨A1,A2,A3,n1,n2,n3,rfl⟩:=scrD_vals hv
  obtain ⟨v1,v2,v3,v4,v5,v6,v7,v8,v9,v10,⟨cv0,fv0,sv1⟩,⟨cv1,fv1,sv2⟩,⟨cv2,fv2,sv3⟩,⟨cv3,fv3,sv4⟩,⟨cv4,fv4,sv5⟩,⟨cv5,fv5,sv6⟩,⟨cv6,fv6,sv7⟩,⟨cv7,fv7,sv8⟩,⟨cv8,fv8,sv9⟩,⟨cv9,fv9,sv10⟩,ev,hv10⟩:=store_ten w' w.heap.size _ _ _ _ _ _ _ _ _ _ (.int .i64 s.bits) (.int .i64 s.c.a) (.int .i64 s.c.b) (.int .i64 s.c.c) (.int .i64 s.c.d) (.int .i64 s.tw) (.int .i64 s.th) (.slice A1 s.ord.length n1) (.slice A2 s.ims.length n2) (.slice A3 s.ops.length n3) h1
  have hq2:v10.heap[w.heap.size+1]?=some (.cells #[.int .i64 0] 46 (0,0)):=by rw [ev,setRow_other _ _ _ _ (by omega)]; exact h2
  have hbv:Below w.heap.size w v10:=by
    rw [ev]
    obtain ⟨b1,b2,b3,b4,b5⟩:=hbw
    exact ⟨b1,b2,b3,by simp [World.setRow]; exact b4,fun k hk=>by rw [setRow_other _ _ _ _ (by omega)]; exact b5 k hk⟩
  have hk10:Keeps w' (fun x=>((S x∧x < w.heap.size)∨R.heap.size≤x)∨x=w.heap.size+2) v10 (fun x=>S x∨w.heap.size≤x):=fun g off u hV hu=>by
    refine ⟨?_,?_⟩
    · rcases hV with (hV | hV) | hV
      · exact .inl hV.1
      · exact .inr (by omega)
      · exact .inr (by omega)
    · rw [ev,cell_same (setRow_other _ _ _ _ ?_)]
      · exact hu
      · rcases hV with (hV | hV) | hV <;> omega
  have HV:=RepDs.keep hk10 hv
  have HP:PLift (v10.heap[w.heap.size]?=some (.cells #[.int .i64 s.bits,.int .i64 s.c.a,.int .i64 s.c.b,.int .i64 s.c.c,.int .i64 s.c.d,.int .i64 s.tw,.int .i64 s.th,.slice A1 s.ord.length n1,.slice A2 s.ims.length n2,.slice A3 s.ops.length n3] 32 (0,0))):=⟨hv10⟩
  have HQ:PLift (v10.heap[w.heap.size+1]?=some (.cells #[.int .i64 0] 46 (0,0))):=⟨hq2⟩
  have HK:PLift (Below w.heap.size w v10):=⟨hbv⟩
  have HW:PLift (RepDs v10 (fun x=>S x∨w.heap.size≤x) (scrD s) [.int .i64 s.bits,.int .i64 s.c.a,.int .i64 s.c.b,.int .i64 s.c.c,.int .i64 s.c.d,.int .i64 s.tw,.int .i64 s.th,.slice A1 s.ord.length n1,.slice A2 s.ims.length n2,.slice A3 s.ops.length n3]):=⟨HV⟩
  obtain ⟨⟨d0,g0,t0⟩,⟨d1,g1,t1⟩,⟨d2,g2,t2⟩,⟨d3,g3,t3⟩,⟨d4,g4,t4⟩,⟨d5,g5,t5⟩,⟨d6,g6,t6⟩,⟨d7,g7,t7⟩,⟨d8,g8,t8⟩,⟨d9,g9,t9⟩⟩:=ten_facts v10 w.heap.size _ _ _ _ _ _ _ _ _ _ hv10
  have d10:v10.cell? ⟨w.heap.size+1,0,none⟩=some (.int .i64 0):=by simp [World.cell?,hq2]
  have g10:v10.frozen? ⟨w.heap.size+1,0,none⟩=false:=by simp [World.frozen?,hq2]
  have t10:v10.setCell ⟨w.heap.size+1,0,none⟩ (.int .i64 0)=v10:=(setCell_eq_setRow v10 (w.heap.size+1) 0 _ _ _ _ hq2).trans (setRow_self v10 (w.heap.size+1) _ _ _ hq2)
  clear hv10 ev hq2 hbv hk10 HV hv h1 h2 hbw hg hr
  go_wp2_with fail
  refine (demand_no _).mono ?_
  rintro e w' ⟨rfl,hw⟩
  rw [hw]
  clear hw w'
  obtain ⟨h1⟩:=HP
  obtain ⟨h2⟩:=HQ
  obtain ⟨hbw⟩:=HK
  simp only [bodyPost]
  refine ⟨by simp,?_⟩
  go_wp2
  refine ⟨_,_,⟨rfl,rfl⟩,?_⟩
  refine (catch_any w.heap.size (w.heap.size+1) v10 _ _ _ _ _ _ _ _ _ _ _ (by omega) h1 h2).mono ?_
  rintro e u' w'' ⟨rfl,rfl,rfl⟩
  have k3:=panic_below hbw h1 h2 (ps:=#[Value.int .i64 0,Value.int .i64 0,Value.int .i64 0,Value.int .i64 0,Value.int .i64 0,Value.int .i64 0,Value.int .i64 0,Value.slice none 0 0,Value.slice none 0 0,Value.slice none 0 0]) (qs:=#[.int .i64 19])
  obtain ⟨k1,k2⟩:=panic_rows h1 h2 (ps:=#[Value.int .i64 0,Value.int .i64 0,Value.int .i64 0,Value.int .i64 0,Value.int .i64 0,Value.int .i64 0,Value.int .i64 0,Value.slice none 0 0,Value.slice none 0 0,Value.slice none 0 0]) (qs:=#[.int .i64 19])
  obtain ⟨W',hW'⟩:∃ W',W'=(v10.setRow w.heap.size #[Value.int .i64 0,Value.int .i64 0,Value.int .i64 0,Value.int .i64 0,Value.int .i64 0,Value.int .i64 0,Value.int .i64 0,Value.slice none 0 0,Value.slice none 0 0,Value.slice none 0 0]).setRow (w.heap.size+1) #[.int .i64 19]:=⟨_,rfl⟩
  rw [← hW'] at k1 k2 k3 ⊢
  obtain ⟨⟨c0,_,_⟩,⟨c1,_,_⟩,⟨c2,_,_⟩,⟨c3,_,_⟩,⟨c4,_,_⟩,⟨c5,_,_⟩,⟨c6,_,_⟩,⟨c7,_,_⟩,⟨c8,_,_⟩,⟨c9,_,_⟩⟩:=ten_facts W' w.heap.size _ _ _ _ _ _ _ _ _ _ k1
  have c10:W'.cell? ⟨w.heap.size+1,0,none⟩=some (.int .i64 19):=by simp [World.cell?,k2]
  clear hW' k1 k2
  simp [Leaves,settle,results,Try.results19,go_sem,c0,c1,c2,c3,c4,c5,c6,c7,c8,c9,c10]
  exact k3
set_option maxRecDepth 100000 in
theorem decode_good (b:List Int) (A:Option Addr) (cap:Nat) (w:World) (S:Nat→Prop) (hg:GlobOK w S) (hr:RepD w S (.sl b.length (u8s b)) (.slice A b.length cap)) (hL:b.length≤67108864) (s:Scr) (hps:PLift (parseS b=s)) (hp:parseOk b) (hI:s.ims.length≤64) (hO:s.ops.length≤4096) :
    Calls Try.prog 19 #[.slice A b.length cap] w fun e w'=>∃ cl:List Value,e=.returned (.tuple #[.agg ⟨cl⟩,.int .i64 0])∧RepDs w' (fun x=>S x∨w.heap.size≤x) (scrD s) cl∧Below w.heap.size w w':=by
  have hi:decide ((s.ims.length:Int)≤64)=true:=decide_eq_true (by omega)
  have ho:decide ((s.ops.length:Int)≤4096)=true:=decide_eq_true (by omega)
  have hd:decide ((b.length:Int)≤67108864)=true:=decide_eq_true (by omega)
  have hmf:∀ (fn:Fn) (first cap:Array Value) (w:World),(Instr.makeFunc fn first cap).run Try.prog w=.ok (.func fn first cap) w:=fun _ _ _ _=>rfl
  have sz:∀ (u:World) (o:Obj),(u.alloc o).heap.size=u.heap.size+1:=fun u o=>by simp
  have old:∀ (u:World) (o:Obj) (k:Nat),k < u.heap.size→(u.alloc o).heap[k]?=u.heap[k]?:=fun u o k hk=>heap_alloc_old u o hk
  have new:∀ (u:World) (o:Obj),(u.alloc o).heap[u.heap.size]?=some o:=fun u o=>heap_alloc_new u o
  go_enter_defers Try.func19,Try.ntmps19
  go_wp2_with fail
  obtain ⟨W,hW⟩:∃ W,W=((w.alloc (.cells #[Value.int .i64 0,Value.int .i64 0,Value.int .i64 0,Value.int .i64 0,Value.int .i64 0,Value.int .i64 0,Value.int .i64 0,Value.slice none 0 0,Value.slice none 0 0,Value.slice none 0 0] 32)).alloc (.cells #[.int .i64 0] 46)):=⟨_,rfl⟩
  have h1:W.heap[w.heap.size]?=some (.cells #[Value.int .i64 0,Value.int .i64 0,Value.int .i64 0,Value.int .i64 0,Value.int .i64 0,Value.int .i64 0,Value.int .i64 0,Value.slice none 0 0,Value.slice none 0 0,Value.slice none 0 0] 32):=by
    rw [hW,old _ _ _ (by simp only [sz]; omega),new]
  have h2:W.heap[w.heap.size+1]?=some (.cells #[.int .i64 0] 46):=by
    rw [hW,← sz w (.cells #[Value.int .i64 0,Value.int .i64 0,Value.int .i64 0,Value.int .i64 0,Value.int .i64 0,Value.int .i64 0,Value.int .i64 0,Value.slice none 0 0,Value.slice none 0 0,Value.slice none 0 0] 32),new]
  have hs:W.heap.size=w.heap.size+2:=by rw [hW]; simp only [sz]
  have hbw:Below w.heap.size w W:=by
    refine ⟨by rw [hW]; rfl,by rw [hW]; rfl,by rw [hW]; rfl,by omega,fun k hk=>?_⟩
    rw [hW,old _ _ _ (by simp only [sz]; omega),old _ _ _ hk]
  rw [← hW]
  clear hW
  refine (demand_yes _).mono ?_
  rintro e w' ⟨rfl,hw⟩
  rw [hw]
  clear hw w'
  go_wp2_with fail
  obtain ⟨R,hR⟩:∃ R,R=W.alloc (.cells #[.slice A b.length cap] 97):=⟨_,rfl⟩
  have r1:R.heap[w.heap.size]?=some (.cells #[Value.int .i64 0,Value.int .i64 0,Value.int .i64 0,Value.int .i64 0,Value.int .i64 0,Value.int .i64 0,Value.int .i64 0,Value.slice none 0 0,Value.slice none 0 0,Value.slice none 0 0] 32):=by
    rw [hR,old _ _ _ (by omega)]; exact h1
  have r2:R.heap[w.heap.size+1]?=some (.cells #[.int .i64 0] 46):=by
    rw [hR,old _ _ _ (by omega)]; exact h2
  have r3:R.heap[w.heap.size+2]?=some (.cells #[.slice A b.length cap] 97):=by
    rw [hR,← hs,new]
  have rs:R.heap.size=w.heap.size+3:=by rw [hR,sz]; omega
  have rb:Below w.heap.size w R:=by
    obtain ⟨b1,b2,b3,b4,b5⟩:=hbw
    refine ⟨by rw [hR]; exact b1,by rw [hR]; exact b2,by rw [hR]; exact b3,by omega,fun k hk=>?_⟩
    rw [hR,old _ _ _ (by omega)]
    exact b5 k hk
  try simp only [hs]
  rw [← hR]
  clear hR h1 h2 hbw
  have gR:GlobOK R (fun x=>S x∧x < w.heap.size):=hg.keep (keep_in rb)
  have vR:=RepD.keep (keep_in rb) hr
  refine (script_yes hp gR r3 vR (by omega)).mono ?_
  rintro e w' ⟨v',rfl,hv,hB⟩
  have h1:w'.heap[w.heap.size]?=some (.cells #[Value.int .i64 0,Value.int .i64 0,Value.int .i64 0,Value.int .i64 0,Value.int .i64 0,Value.int .i64 0,Value.int .i64 0,Value.slice none 0 0,Value.slice none 0 0,Value.slice none 0 0] 32):=(hB.block _ (by omega) (by omega)).trans r1
  have h2:w'.heap[w.heap.size+1]?=some (.cells #[.int .i64 0] 46):=(hB.block _ (by omega) (by omega)).trans r2
  have hbw:Below w.heap.size w w':=by
    obtain ⟨b1,b2,b3,b4,b5⟩:=rb
    exact ⟨hB.os.trans b1,hB.tape.trans b2,hB.output.trans b3,Nat.le_trans b4 hB.size,fun k hk=>(hB.block k (by omega) (by omega)).trans (b5 k hk)⟩
  clear hB r1 r2 r3 rb gR vR hp
  simp only [RepR] at hv
  obtain ⟨⟨cl⟩,rfl,hv⟩:=hv
  have hv:RepDs w' _ (scrD (parseS b)) cl:=hv
  rw [hps.down] at hv
  obtain ⟨A1,A2,A3,n1,n2,n3,rfl⟩:=scrD_vals hv
  obtain ⟨v1,v2,v3,v4,v5,v6,v7,v8,v9,v10,⟨cv0,fv0,sv1⟩,⟨cv1,fv1,sv2⟩,⟨cv2,fv2,sv3⟩,⟨cv3,fv3,sv4⟩,⟨cv4,fv4,sv5⟩,⟨cv5,fv5,sv6⟩,⟨cv6,fv6,sv7⟩,⟨cv7,fv7,sv8⟩,⟨cv8,fv8,sv9⟩,⟨cv9,fv9,sv10⟩,ev,hv10⟩:=store_ten w' w.heap.size _ _ _ _ _ _ _ _ _ _ (.int .i64 s.bits) (.int .i64 s.c.a) (.int .i64 s.c.b) (.int .i64 s.c.c) (.int .i64 s.c.d) (.int .i64 s.tw) (.int .i64 s.th) (.slice A1 s.ord.length n1) (.slice A2 s.ims.length n2) (.slice A3 s.ops.length n3) h1
  have hq2:v10.heap[w.heap.size+1]?=some (.cells #[.int .i64 0] 46 (0,0)):=by rw [ev,setRow_other _ _ _ _ (by omega)]; exact h2
  have hbv:Below w.heap.size w v10:=by
    rw [ev]
    obtain ⟨b1,b2,b3,b4,b5⟩:=hbw
    exact ⟨b1,b2,b3,by simp [World.setRow]; exact b4,fun k hk=>by rw [setRow_other _ _ _ _ (by omega)]; exact b5 k hk⟩
  have hk10:Keeps w' (fun x=>((S x∧x < w.heap.size)∨R.heap.size≤x)∨x=w.heap.size+2) v10 (fun x=>S x∨w.heap.size≤x):=fun g off u hV hu=>by
    refine ⟨?_,?_⟩
    · rcases hV with (hV | hV) | hV
      · exact .inl hV.1
      · exact .inr (by omega)
      · exact .inr (by omega)
    · rw [ev,cell_same (setRow_other _ _ _ _ ?_)]
      · exact hu
      · rcases hV with (hV | hV) | hV <;> omega
  have HV:=RepDs.keep hk10 hv
  have HP:PLift (v10.heap[w.heap.size]?=some (.cells #[.int .i64 s.bits,.int .i64 s.c.a,.int .i64 s.c.b,.int .i64 s.c.c,.int .i64 s.c.d,.int .i64 s.tw,.int .i64 s.th,.slice A1 s.ord.length n1,.slice A2 s.ims.length n2,.slice A3 s.ops.length n3] 32 (0,0))):=⟨hv10⟩
  have HQ:PLift (v10.heap[w.heap.size+1]?=some (.cells #[.int .i64 0] 46 (0,0))):=⟨hq2⟩
  have HK:PLift (Below w.heap.size w v10):=⟨hbv⟩
  have HW:PLift (RepDs v10 (fun x=>S x∨w.heap.size≤x) (scrD s) [.int .i64 s.bits,.int .i64 s.c.a,.int .i64 s.c.b,.int .i64 s.c.c,.int .i64 s.c.d,.int .i64 s.tw,.int .i64 s.th,.slice A1 s.ord.length n1,.slice A2 s.ims.length n2,.slice A3 s.ops.length n3]):=⟨HV⟩
  obtain ⟨⟨d0,g0,t0⟩,⟨d1,g1,t1⟩,⟨d2,g2,t2⟩,⟨d3,g3,t3⟩,⟨d4,g4,t4⟩,⟨d5,g5,t5⟩,⟨d6,g6,t6⟩,⟨d7,g7,t7⟩,⟨d8,g8,t8⟩,⟨d9,g9,t9⟩⟩:=ten_facts v10 w.heap.size _ _ _ _ _ _ _ _ _ _ hv10
  have d10:v10.cell? ⟨w.heap.size+1,0,none⟩=some (.int .i64 0):=by simp [World.cell?,hq2]
  have g10:v10.frozen? ⟨w.heap.size+1,0,none⟩=false:=by simp [World.frozen?,hq2]
  have t10:v10.setCell ⟨w.heap.size+1,0,none⟩ (.int .i64 0)=v10:=(setCell_eq_setRow v10 (w.heap.size+1) 0 _ _ _ _ hq2).trans (setRow_self v10 (w.heap.size+1) _ _ _ hq2)
  clear hv10 ev hq2 hbv hk10 HV hv h1 h2 hbw hg hr
  go_wp2_with fail
  refine (demand_yes _).mono ?_
  rintro e w' ⟨rfl,hw⟩
  rw [hw]
  clear hw w'
  go_wp2_with fail
  simp only [bodyPostD]
  obtain ⟨hbw⟩:=HK
  obtain ⟨hv⟩:=HW
  refine leaves_cons (f:=44) (args:=#[.pointer (some ⟨w.heap.size,0,none⟩),.pointer (some ⟨w.heap.size+1,0,none⟩)]) (by simp) (by simp [go_sem]) ?_
  refine (catch_none w.heap.size (w.heap.size+1) v10).mono ?_
  rintro e u' w'' ⟨rfl,rfl,hw⟩
  rw [hw]
  clear hw w''
  simp [Leaves,settle,results,Try.results19,go_sem,d0,d1,d2,d3,d4,d5,d6,d7,d8,d9,d10]
  exact ⟨hv,hbw⟩
theorem byI_val (v:Int):byI v 0=v % 256∧byI v 1=v / 256 % 256∧byI v 2=v / 65536 % 256∧byI v 3=v / 16777216 % 256:=by
  have w:∀ x:Int,IntKind.wrap .u8 x=x % 256:=fun x=>by simp [IntKind.wrap,IntKind.bits,IntKind.signed]
  have f:∀ d:Int,0≤d→Int.fdiv v d=v / d:=fun d h=>Int.fdiv_eq_ediv_of_nonneg v h
  have e0:(2:Int) ^ (8*0)=1:=by decide
  have e1:(2:Int) ^ (8*1)=256:=by decide
  have e2:(2:Int) ^ (8*2)=65536:=by decide
  have e3:(2:Int) ^ (8*3)=16777216:=by decide
  unfold byI
  rw [w,w,w,w,e0,e1,e2,e3,f _ (by decide),f _ (by decide),f _ (by decide),f _ (by decide),Int.ediv_one]
  exact ⟨rfl,rfl,rfl,rfl⟩
theorem be1 (v:Int):beI 1 v=[v % 256]:=by simp [beI,byI_val v]
theorem be2 (v:Int):beI 2 v=[v / 256 % 256,v % 256]:=by simp [beI,byI_val v]
theorem be4 (v:Int):beI 4 v=[v / 16777216 % 256,v / 65536 % 256,v / 256 % 256,v % 256]:=by simp [beI,byI_val v]
theorem tk1 (a:Int) (x:List Int):tkV 1 (a::x)=a:=by simp [tkV]
theorem tk2 (a b:Int) (x:List Int):tkV 2 (a::b::x)=a*256+b:=by simp [tkV]
theorem tk4 (a b c d:Int) (x:List Int):tkV 4 (a::b::c::d::x)=((a*256+b)*256+c)*256+d:=by simp [tkV]
theorem tk1_be {v:Int} (x:List Int) (h:0≤v∧v≤255):tkV 1 (beI 1 v++x)=v:=by
  rw [be1]; simp only [List.cons_append,List.nil_append,tk1]; omega
theorem tk2_be {v:Int} (x:List Int) (h:0≤v∧v≤65535):tkV 2 (beI 2 v++x)=v:=by
  rw [be2]; simp only [List.cons_append,List.nil_append,tk2]; omega
theorem tk4_mod (v:Int) (x:List Int):tkV 4 (beI 4 v++x)=v % 4294967296:=by
  rw [be4]; simp only [List.cons_append,List.nil_append,tk4]; omega
theorem tk4_be {v:Int} (x:List Int) (h:0≤v∧v≤4294967295):tkV 4 (beI 4 v++x)=v:=by
  rw [tk4_mod]; omega
theorem sg_val {u:Int} (h:0≤u∧u < 4294967296):IntKind.wrap .i64 (IntKind.wrap .i32 u)=if u < 2147483648 then u else u - 4294967296:=by
  have e:IntKind.wrap .i32 u=if u < 2147483648 then u else u - 4294967296:=by
    simp [IntKind.wrap,IntKind.bits,IntKind.signed]
    split <;> split <;> omega
  rw [e]
  split <;> exact IntWalk.i64_in _ ⟨by omega,by omega⟩
theorem sg4_be {v:Int} (x:List Int) (h : -2147483648≤v∧v≤2147483647):sgV (beI 4 v++x)=v:=by
  unfold sgV
  rw [tk4_mod,sg_val (by omega)]
  split <;> omega
theorem split1 {l:List Int} (h:isB l) (n:1≤l.length):l=beI 1 (tkV 1 l)++l.drop 1:=by
  match l,n with
  | a::x,_=>
    have ha:=h a (by simp)
    have e:a % 256=a:=by omega
    simp only [tk1,be1,e,List.drop_succ_cons,List.drop_zero,List.cons_append,List.nil_append]
theorem split2 {l:List Int} (h:isB l) (n:2≤l.length):l=beI 2 (tkV 2 l)++l.drop 2:=by
  match l,n with
  | a::b::x,_=>
    have ha:=h a (by simp)
    have hb:=h b (by simp)
    have e1:(a*256+b) / 256 % 256=a:=by omega
    have e2:(a*256+b) % 256=b:=by omega
    simp only [tk2,be2,e1,e2,List.drop_succ_cons,List.drop_zero,List.cons_append,List.nil_append]
theorem be4_mod {u v:Int} (h:u % 4294967296=v % 4294967296):beI 4 u=beI 4 v:=by
  rw [be4,be4]
  have e0:u % 256=v % 256:=by omega
  have e1:u / 256 % 256=v / 256 % 256:=by omega
  have e2:u / 65536 % 256=v / 65536 % 256:=by omega
  have e3:u / 16777216 % 256=v / 16777216 % 256:=by omega
  rw [e0,e1,e2,e3]
theorem split4 {l:List Int} (h:isB l) (n:4≤l.length):l=beI 4 (tkV 4 l)++l.drop 4:=by
  match l,n with
  | a::b::c::d::x,_=>
    have ha:=h a (by simp)
    have hb:=h b (by simp)
    have hc:=h c (by simp)
    have hd:=h d (by simp)
    have e1:(((a*256+b)*256+c)*256+d) / 16777216 % 256=a:=by omega
    have e2:(((a*256+b)*256+c)*256+d) / 65536 % 256=b:=by omega
    have e3:(((a*256+b)*256+c)*256+d) / 256 % 256=c:=by omega
    have e4:(((a*256+b)*256+c)*256+d) % 256=d:=by omega
    simp only [tk4,be4,e1,e2,e3,e4,List.drop_succ_cons,List.drop_zero,List.cons_append,List.nil_append]
theorem sgV_val {l:List Int} (h:isB l):sgV l=if tkV 4 l < 2147483648 then tkV 4 l else tkV 4 l - 4294967296:=by
  have:=tkV_all h 4
  have p4:(256:Int) ^ 4=4294967296:=by decide
  rw [p4] at this
  exact sg_val this
theorem sgV_in {l:List Int} (h:isB l) : -2147483648≤sgV l∧sgV l≤2147483647:=by
  have:=tkV_all h 4
  have p4:(256:Int) ^ 4=4294967296:=by decide
  rw [p4] at this
  rw [sgV_val h]
  split <;> omega
theorem splitS {l:List Int} (h:isB l) (n:4≤l.length):l=beI 4 (sgV l)++l.drop 4:=by
  have e:beI 4 (sgV l)=beI 4 (tkV 4 l):=be4_mod (by rw [sgV_val h]; split <;> omega)
  rw [e]
  exact split4 h n
theorem tk1_in {l:List Int} (h:isB l):0≤tkV 1 l∧tkV 1 l≤255:=by
  have:=tkV_all h 1
  have p:(256:Int) ^ 1=256:=by decide
  omega
theorem tk2_in {l:List Int} (h:isB l):0≤tkV 2 l∧tkV 2 l≤65535:=by
  have:=tkV_all h 2
  have p:(256:Int) ^ 2=65536:=by decide
  omega
theorem tk4_in {l:List Int} (h:isB l):0≤tkV 4 l∧tkV 4 l≤4294967295:=by
  have:=tkV_all h 4
  have p:(256:Int) ^ 4=4294967296:=by decide
  omega
theorem at1 {b:List Int} (hB:isB b) (d:Nat) (h:d+1≤b.length):b.drop d=beI 1 (tkV 1 (b.drop d))++b.drop (d+1):=by
  have:=split1 (hB.drop d) (by rw [List.length_drop]; omega)
  rwa [List.drop_drop] at this
theorem at2 {b:List Int} (hB:isB b) (d:Nat) (h:d+2≤b.length):b.drop d=beI 2 (tkV 2 (b.drop d))++b.drop (d+2):=by
  have:=split2 (hB.drop d) (by rw [List.length_drop]; omega)
  rwa [List.drop_drop] at this
theorem at4 {b:List Int} (hB:isB b) (d:Nat) (h:d+4≤b.length):b.drop d=beI 4 (tkV 4 (b.drop d))++b.drop (d+4):=by
  have:=split4 (hB.drop d) (by rw [List.length_drop]; omega)
  rwa [List.drop_drop] at this
theorem atG {b:List Int} (hB:isB b) (d:Nat) (h:d+4≤b.length):b.drop d=beI 4 (sgV (b.drop d))++b.drop (d+4):=by
  have:=splitS (hB.drop d) (by rw [List.length_drop]; omega)
  rwa [List.drop_drop] at this
theorem cong_app {a x y:List Int} (h:x=y):a++x=a++y:=by rw [h]
theorem px_written {l:List Int} (hB:isB l) (h:10≤l.length):l=pxB (rdPx l)++l.drop 10:=by
  simp only [pxB,putL,List.flatMap_cons,List.flatMap_nil,List.append_assoc,List.nil_append,rdPx]
  exact (at2 hB 0 (by omega)).trans (cong_app ((at2 hB 2 (by omega)).trans (cong_app ((at2 hB 4 (by omega)).trans (cong_app ((at2 hB 6 (by omega)).trans (cong_app (at2 hB 8 (by omega)))))))))
theorem flag_rd {l:List Int} (hB:isB l) (h:tkV 1 (l.drop 23)≤3):flagO (rdOp l)=tkV 1 (l.drop 23):=by
  have:=(tk1_in (hB.drop 23)).1
  unfold flagO rdOp
  simp only [decide_eq_true_eq]
  split <;> split <;> omega
theorem op_written {l:List Int} (hB:isB l) (h:opWhen l):l=opB (rdOp l)++l.drop 24:=by
  obtain ⟨h,hf⟩:=h
  have e:=flag_rd hB hf
  simp only [opB,putL,List.flatMap_cons,List.flatMap_nil,List.append_assoc,List.nil_append,e]
  simp only [rdOp]
  exact (at1 hB 0 (by omega)).trans (cong_app ((at1 hB 1 (by omega)).trans (cong_app ((atG hB 2 (by omega)).trans (cong_app ((atG hB 6 (by omega)).trans (cong_app ((at1 hB 10 (by omega)).trans (cong_app ((atG hB 11 (by omega)).trans (cong_app ((atG hB 15 (by omega)).trans (cong_app ((at2 hB 19 (by omega)).trans (cong_app ((at1 hB 21 (by omega)).trans (cong_app ((at1 hB 22 (by omega)).trans (cong_app (at1 hB 23 (by omega)))))))))))))))))))))
theorem rdPxs_succ (n:Nat) (l:List Int):rdPxs (n+1) l=rdPxs n l++[rdPx (l.drop (10*n))]:=by
  unfold rdPxs
  rw [List.range_succ,List.map_append]; rfl
theorem rdPxs_len (n:Nat) (l:List Int):(rdPxs n l).length=n:=by simp [rdPxs]
theorem pxs_written {l:List Int} (hB:isB l):∀ n,10*n≤l.length→l=(rdPxs n l).flatMap pxB++l.drop (10*n)
  | 0,_=>by simp [rdPxs]
  | n+1,h=>by
    have ih:=pxs_written hB n (by omega)
    have hp:=px_written (hB.drop (10*n)) (by rw [List.length_drop]; omega)
    rw [List.drop_drop] at hp
    rw [rdPxs_succ,List.flatMap_append,List.append_assoc]
    refine ih.trans (cong_app ?_)
    simp only [List.flatMap_cons,List.flatMap_nil,List.append_nil]
    exact hp
theorem rdIm_ok {l:List Int} (h:imWhen l):(rdIm l).formed=true∧(rdIm l).w=rdW l∧(rdIm l).h=rdH l∧(rdIm l).so=decide (tkV 1 l=1)∧(tkV 1 l=1→(rdIm l).c=rdPx (l.drop 9))∧(tkV 1 l≠1→(rdIm l).pixels=rdPxs (rdN l) (l.drop 9)):=by
  obtain ⟨⟨h1,h2,h3,h4,h5⟩,h6⟩:=h
  have hf:fitsP (rdW l) (rdH l)=true:=by simp only [fitsP,decide_eq_true h3,decide_eq_true h4,decide_eq_true h5]; rfl
  unfold rdIm
  split
  · rename_i hk
    exact ⟨solidIm_formed _ hf,rfl,rfl,(decide_eq_true hk).symm,fun _=>rfl,fun hn=>absurd hk hn⟩
  · rename_i hk
    have hpos:0 < rdW l*rdH l:=Int.mul_pos (by omega) (by omega)
    have hok:ofOk (rdW l) (rdH l) (rdPxs (rdN l) (l.drop 9)).length=true:=by
      unfold ofOk
      rw [hf,rdPxs_len,Bool.true_and,decide_eq_true_eq]
      unfold rdN
      omega
    have e:=imOf_ok hok
    obtain ⟨f1,f2⟩:=imOf_pixels hok
    refine ⟨f1,?_,?_,?_,fun hn=>absurd hn hk,fun _=>f2⟩
    · rw [e]; rfl
    · rw [e]; rfl
    · rw [e,decide_eq_false hk]; rfl
theorem im_written {l:List Int} (hB:isB l) (h:imWhen l):l=imB_ (rdIm l)++imRest l:=by
  obtain ⟨r1,r2,r3,r4,r5,r6⟩:=rdIm_ok h
  obtain ⟨⟨h1,h2,h3,h4,h5⟩,h6⟩:=h
  have t:=(tk1_in hB)
  unfold imB_ imRest
  rw [r2,r3,r4]
  by_cases hk:tkV 1 l=1
  · rw [if_pos hk] at h6 ⊢
    rw [if_pos (decide_eq_true hk),r5 hk]
    have hp:=px_written (hB.drop 9) (by rw [List.length_drop]; omega)
    rw [List.drop_drop] at hp
    have e0:=at1 hB 0 (by omega)
    rw [List.drop_zero,hk] at e0
    simp only [putL,List.flatMap_cons,List.flatMap_nil,List.append_assoc,List.nil_append,rdW,rdH]
    exact e0.trans (cong_app ((at4 hB 1 (by omega)).trans (cong_app ((at4 hB 5 (by omega)).trans (cong_app hp)))))
  · rw [if_neg hk] at h6 ⊢
    rw [if_neg (by simpa using hk),r6 hk]
    have hp:=pxs_written (hB.drop 9) (rdN l) (by rw [List.length_drop]; omega)
    rw [List.drop_drop] at hp
    have e0:=at1 hB 0 (by omega)
    rw [List.drop_zero,show tkV 1 l=0 by omega] at e0
    simp only [putL,List.flatMap_cons,List.flatMap_nil,List.append_assoc,List.nil_append]
    exact e0.trans (cong_app ((at4 hB 1 (by omega)).trans (cong_app ((at4 hB 5 (by omega)).trans (cong_app hp)))))
theorem ims_written {l:List Int} (hB:isB l):∀ n,(∀ i,i < n→imWhen (imsT l i).2)→l=(imsT l n).1.flatMap imB_++(imsT l n).2
  | 0,_=>rfl
  | n+1,h=>by
    have ih:=ims_written hB n fun i hi=>h i (by omega)
    have hp:=im_written (imsT_isB hB n) (h n (by omega))
    refine ih.trans ?_
    show _=((imsT l n).1++[rdIm (imsT l n).2]).flatMap imB_++imRest (imsT l n).2
    rw [List.flatMap_append,List.append_assoc]
    refine cong_app ?_
    simp only [List.flatMap_cons,List.flatMap_nil,List.append_nil]
    exact hp
theorem ops_written {l:List Int} (hB:isB l):∀ n,(∀ i,i < n→opWhen (l.drop (24*i)))→l=(opsL l n).flatMap opB++l.drop (24*n)
  | 0,_=>by simp [opsL]
  | n+1,h=>by
    have ih:=ops_written hB n fun i hi=>h i (by omega)
    have hp:=op_written (hB.drop (24*n)) (h n (by omega))
    rw [List.drop_drop] at hp
    rw [opsL_succ,List.flatMap_append,List.append_assoc]
    refine ih.trans (cong_app ?_)
    simp only [List.flatMap_cons,List.flatMap_nil,List.append_nil]
    exact hp
theorem ord_written {b:List Int} (hB:isB b):∀ n,31+4*n≤b.length→b.drop 31=putL 4 (ordL b n)++b.drop (31+4*n)
  | 0,_=>by simp [ordL,putL]
  | n+1,h=>by
    have ih:=ord_written hB n (by omega)
    have hp:=at4 hB (31+4*n) (by omega)
    rw [ordL_succ]
    unfold putL at ih ⊢
    rw [List.flatMap_append,List.append_assoc]
    refine ih.trans (cong_app ?_)
    simp only [List.flatMap_cons,List.flatMap_nil,List.append_nil]
    exact hp
theorem enc_parse {b:List Int} (hB:isB b) (h:parseOk b):encB (parseS b)=b:=by
  obtain ⟨⟨⟨⟨⟨h1,h2,h3⟩,h4,h5⟩,h6,h7⟩,h8,h9⟩,h10⟩:=h
  have c1:tkV 4 (b.drop 27)=(n1P b:Int):=by
    have:=tk4_in (hB.drop 27)
    unfold n1P; omega
  have hBA:isB (bAP b):=hB.drop _
  have hBB:isB (bBP b):=hBA.drop _
  have c2:tkV 1 (bAP b)=(n2P b:Int):=by
    have:=tk1_in hBA
    unfold n2P; omega
  have hBC:isB (bCP b):=imsT_isB hBB _
  have hBD:isB (bDP b):=hBC.drop _
  have c3:tkV 2 (bCP b)=(n3P b:Int):=by
    have:=tk2_in hBC
    unfold n3P; omega
  have hn:31+4*n1P b≤b.length:=by
    have h1:=h5.2
    rw [c1,List.length_drop] at h1
    omega
  have w7:=at4 hB 27 (by omega)
  rw [c1] at w7
  have wo:=ord_written hB (n1P b) hn
  have wA:=split1 hBA h6.1
  rw [c2] at wA
  have wB:=ims_written hBB (n2P b) h7
  have wC:=split2 hBC h8.1
  rw [c3] at wC
  have wD:=ops_written hBD (n3P b) h9
  rw [List.length_eq_zero_iff.1 h10,List.append_nil] at wD
  have e0:=at1 hB 0 (by omega)
  have e1:=at1 hB 1 (by omega)
  rw [List.drop_zero,h2] at e0
  rw [h3] at e1
  have b76:beI 1 76=[76]:=by decide
  have b67:beI 1 67=[67]:=by decide
  rw [b76] at e0
  rw [b67] at e1
  refine Eq.symm ?_
  unfold encB parseS
  simp only [putL,List.flatMap_cons,List.flatMap_nil,List.append_assoc,List.nil_append,ordL_len,imsT_len,opsL_len,List.cons_append]
  unfold putL at wo
  refine e0.trans (congrArg (76::·) (e1.trans (congrArg (67::·) ((at1 hB 2 (by omega)).trans (cong_app ((atG hB 3 (by omega)).trans (cong_app ((atG hB 7 (by omega)).trans (cong_app ((atG hB 11 (by omega)).trans (cong_app ((atG hB 15 (by omega)).trans (cong_app ((at4 hB 19 (by omega)).trans (cong_app ((at4 hB 23 (by omega)).trans (cong_app (w7.trans (cong_app (wo.trans (cong_app ?_)))))))))))))))))))))
  show bAP b=_
  refine wA.trans (cong_app ?_)
  show bBP b=_
  refine wB.trans (cong_app ?_)
  show bCP b=_
  exact wC.trans (cong_app wD)
theorem fitL_iff {lo hi:Int} {l:List Int}:fitL lo hi l=true↔∀ v∈l,lo≤v∧v≤hi:=by
  unfold fitL
  rw [List.all_eq_true]
  simp
theorem opOk_of {o:Oq} (h1:0≤o.kind∧o.kind≤255) (h2:0≤o.image∧o.image≤255) (h3:0≤o.mask∧o.mask≤255) (h4:0≤o.oper∧o.oper≤255) (h5:0≤o.mode∧o.mode≤255)
    (h6 : -2147483648≤o.x∧o.x≤2147483647) (h7 : -2147483648≤o.y∧o.y≤2147483647) (h8 : -2147483648≤o.mx∧o.mx≤2147483647) (h9 : -2147483648≤o.my∧o.my≤2147483647):opOk o=true:=by
  unfold opOk
  rw [Bool.and_eq_true,fitL_iff,fitL_iff]
  refine ⟨fun v hv=>?_,fun v hv=>?_⟩ <;> simp only [List.mem_cons,List.not_mem_nil,or_false] at hv
  · rcases hv with rfl | rfl | rfl | rfl | rfl <;> assumption
  · rcases hv with rfl | rfl | rfl | rfl <;> assumption
theorem near_of {v:Int} (h:nearB v=true) : -2147483648≤v∧v≤2147483647:=by
  unfold nearB at h
  have:=of_decide_eq_true h
  omega
theorem errO_opOk {bits:Int} {mn:Nat} {o:Oq} {st:List Oq} (h:errO bits mn o st=0) (hm:mn≤64):opOk o=true:=by
  unfold errO at h
  split at h
  · cases h
  rename_i k1
  split at h
  · cases h
  rename_i k2
  split at h
  · rename_i k3
    have:o=popO:=by
      unfold Oq.fields at k2
      rw [if_pos k3] at k2
      simpa using k2
    subst this
    decide
  rename_i k3
  split at h
  · cases h
  rename_i k4
  split at h
  · cases h
  rename_i k5
  split at h
  · cases h
  split at h
  · cases h
  rename_i k7
  split at h
  · cases h
  rename_i k8
  have k5:=Classical.not_not.1 k5
  have k7:=Classical.not_not.1 k7
  have k8:=Classical.not_not.1 k8
  have k1:=Classical.not_not.1 k1
  have hi:0≤o.image∧o.image≤255:=by
    rcases k1 with k1 | k1 | k1
    · omega
    · unfold Oq.fields at k2
      rw [if_neg k3] at k2
      have:o.image=0:=by
        by_cases hz:o.image=0
        · exact hz
        · exact absurd (by simp [k1,hz]) k2
      omega
    · exact absurd k1 k3
  exact opOk_of (by omega) hi (by omega) (by omega) (by omega) (near_of k5.1) (near_of k5.2.1) (near_of k5.2.2.1) (near_of k5.2.2.2)
theorem okO_all {bits:Int} {mn:Nat}:∀ {l st st':List Oq},okO bits mn l st=some st'→∀ o∈l,∃ s',errO bits mn o s'=0
  | a::l,st,st',h,o,ho=>by
    simp only [okO] at h
    split at h
    · rcases List.mem_cons.1 ho with rfl | ho
      · exact ⟨st,by assumption⟩
      · exact okO_all h o ho
    · cases h
theorem Scn.ops_fit (s:Scn):s.ops.all opOk=true:=by
  rw [List.all_eq_true]
  intro o ho
  obtain ⟨st,h⟩:=okO_all s.ops_ok o ho
  exact errO_opOk h (by have:=s.ims_len; omega)
theorem Scn.ord_fit (s:Scn):∀ v∈s.ord,0≤v∧v≤4294967295:=by
  intro v hv
  have ht:=s.tiles_in
  by_cases hl:(ints s.oxs).length=0
  · have:s.ord=[]:=by unfold Scn.ord permL; rw [if_pos (.inl hl)]
    rw [this] at hv; cases hv
  · have:=((permL_perm hl (by omega:s.tiles≤64)).mem_iff).1 hv
    simp only [upto,List.mem_map,List.mem_range] at this
    obtain ⟨i,hi,rfl⟩:=this
    show 0≤(i:Int)∧(i:Int)≤4294967295
    omega
theorem Scn.bits_fit (s:Scn):s.bits=8∨s.bits=16:=by
  have:=s.bits_of
  by_cases h:gMax s.b > 255
  · exact .inr (this.1 h).symm
  · exact .inl (this.2 h).symm
theorem sizeIms_small:∀ {l:List Im},(∀ m∈l,m.formed=true∧m.w≤100∧m.h≤100)→sizeIms l≤100009*(l.length:Int)
  | [],_=>by simp [sizeIms]
  | m::l,h=>by
    have h1:=h m (by simp)
    have h2:=sizeIms_small (l:=l) fun m hm=>h m (by simp [hm])
    have h3:=formed_w h1.1
    have h4:m.w*m.h≤10000:=by
      have:=Int.mul_le_mul_of_nonneg_left h1.2.2 (by omega:0≤m.w)
      omega
    have h5:sizeIm m≤100009:=by unfold sizeIm; split <;> omega
    simp only [sizeIms,List.length_cons]
    omega
theorem Scn.enc (s:Scn) {ms:List Im} {os:List Oq} (h1:ms.length≤64) (h2:∀ m∈ms,m.formed=true∧m.w≤100∧m.h≤100) (h3:os.length≤100) (h4:os.all opOk=true):encOk ⟨s.bits,s.c,s.gtw,s.gth,s.ord,ms,os⟩=true:=by
  obtain ⟨f1,f2,f3,f4,f5,f6⟩:=s.facts
  have CF:=s.c_facts
  have hb:=s.bits_fit
  have ho:=s.ord_len
  have hz:=sizeIms_small h2
  have g1:fitL 0 255 [s.bits]=true:=fitL_iff.2 fun v hv=>by
    simp only [List.mem_cons,List.not_mem_nil,or_false] at hv
    subst hv
    omega
  have g2:fitL (-2147483648) 2147483647 [s.c.a,s.c.b,s.c.c,s.c.d]=true:=fitL_iff.2 fun v hv=>by
    simp only [List.mem_cons,List.not_mem_nil,or_false] at hv
    rcases hv with rfl | rfl | rfl | rfl <;> omega
  have g3:fitL 0 4294967295 [s.gtw,s.gth]=true:=fitL_iff.2 fun v hv=>by
    simp only [List.mem_cons,List.not_mem_nil,or_false] at hv
    rcases hv with rfl | rfl <;> omega
  have g4:fitL 0 4294967295 s.ord=true:=fitL_iff.2 s.ord_fit
  have g5:ms.all Im.formed=true:=List.all_eq_true.2 fun m hm=>(h2 m hm).1
  simp only [encOk,encHd,g1,g2,g3,g4,g5,h4,sizeS,Bool.and_true,Bool.true_and,Bool.and_eq_true,decide_eq_true_eq]
  exact ⟨⟨h1,by omega⟩,decide_eq_true (by omega)⟩
theorem formed_of {m:Im} {most:Int} (h:m.valid most=0):m.formed=true:=by
  unfold Im.valid at h
  split at h
  · cases h
  split at h
  · cases h
  rename_i a b
  unfold Im.formed
  simp only [Bool.not_eq_false] at a b
  rw [a,b]; rfl
end Go.Proofs.Ytlnfgagmiogkgaa
namespace Go.Proofs.Ytlnfgagmiogkgaa
open Go.RowKit
set_option linter.unusedVariables false
set_option linter.unusedSimpArgs false
attribute [local irreducible] Ans AnsO AnsG AnsN AnsI
set_option maxRecDepth 4000
end Go.Proofs.Ytlnfgagmiogkgaa
namespace Go.Proofs.Ytlnfgagmiogkgaa
open Go.RowKit
set_option linter.unusedVariables false
set_option linter.unusedSimpArgs false
theorem cong_cons {α:Type} {a b:α} {x y:List α} (h:a=b) (h2:x=y):a::x=b::y:=by rw [h,h2]
theorem step_be {L rest:List Int} {d n:Nat} {v:Int} (h:L.drop d=beI n v++rest):L.drop (d+n)=rest:=by
  rw [← List.drop_drop,h,List.drop_left' (beI_len v n)]
def pxIn (p:Px):Prop:=(0≤p.a∧p.a≤65535)∧(0≤p.b∧p.b≤65535)∧(0≤p.c∧p.c≤65535)∧(0≤p.al∧p.al≤65535)∧(0≤p.f∧p.f≤65535)
theorem px_read {p:Px} (x:List Int) (h:pxIn p):rdPx (pxB p++x)=p∧(pxB p++x).drop 10=x:=by
  obtain ⟨a,b,c,al,f⟩:=p
  obtain ⟨h1,h2,h3,h4,h5⟩:=h
  have s0:(pxB ⟨a,b,c,al,f⟩++x).drop 0=beI 2 a++(beI 2 b++(beI 2 c++(beI 2 al++(beI 2 f++x)))):=by
    simp only [pxB,putL,List.flatMap_cons,List.flatMap_nil,List.append_assoc,List.nil_append,List.drop_zero]
  generalize pxB ⟨a,b,c,al,f⟩++x=L at *
  have s2:L.drop 2=_:=step_be s0
  have s4:L.drop 4=_:=step_be s2
  have s6:L.drop 6=_:=step_be s4
  have s8:L.drop 8=_:=step_be s6
  have s10:L.drop 10=_:=step_be s8
  refine ⟨?_,s10⟩
  rw [List.drop_zero] at s0
  unfold rdPx
  rw [List.drop_zero,s2,s4,s6,s8,s0,tk2_be _ h1,tk2_be _ h2,tk2_be _ h3,tk2_be _ h4,tk2_be _ h5]
theorem rdPxs_cons (n:Nat) (l:List Int):rdPxs (n+1) l=rdPx l::rdPxs n (l.drop 10):=by
  unfold rdPxs
  rw [List.range_succ_eq_map,List.map_cons,List.map_map]
  refine cong_cons (by rw [Nat.mul_zero,List.drop_zero]) (List.map_congr_left fun i _=>?_)
  simp only [Function.comp_def,List.drop_drop]
  exact congrArg rdPx (congrArg (fun k=>l.drop k) (by omega))
theorem pxs_read:∀ (l:List Px) (x:List Int),(∀ p∈l,pxIn p)→rdPxs l.length (l.flatMap pxB++x)=l∧(l.flatMap pxB++x).drop (10*l.length)=x
  | [],x,_=>⟨rfl,rfl⟩
  | p::l,x,h=>by
    have h1:=px_read (l.flatMap pxB++x) (h p (by simp))
    have ih:=pxs_read l x fun q hq=>h q (by simp [hq])
    rw [List.flatMap_cons,List.append_assoc,List.length_cons,rdPxs_cons,h1.1,h1.2,ih.1]
    refine ⟨rfl,?_⟩
    rw [show 10*(l.length+1)=10+10*l.length by omega,← List.drop_drop,h1.2,ih.2]
def opIn (o:Oq):Prop:=opOk o=true∧0≤o.opac∧o.opac≤65535
theorem fitL_mem {lo hi:Int} {l:List Int} (h:fitL lo hi l=true):∀ v∈l,lo≤v∧v≤hi:=fun v hv=>by
  unfold fitL at h
  rw [List.all_eq_true] at h
  exact of_decide_eq_true (h v hv)
theorem op_read {o:Oq} (x:List Int) (h:opIn o):rdOp (opB o++x)=o∧(opB o++x).drop 24=x∧opWhen (opB o++x):=by
  obtain ⟨h,hp⟩:=h
  have hl:24≤(opB o++x).length:=by rw [List.length_append,opB_len]; omega
  simp only [opOk,Bool.and_eq_true] at h
  have h1:=fitL_mem h.1
  have h2:=fitL_mem h.2
  have hk:=h1 o.kind (by simp)
  have hi:=h1 o.image (by simp)
  have hm:=h1 o.mask (by simp)
  have ho:=h1 o.oper (by simp)
  have hd:=h1 o.mode (by simp)
  have hx:=h2 o.x (by simp)
  have hy:=h2 o.y (by simp)
  have hmx:=h2 o.mx (by simp)
  have hmy:=h2 o.my (by simp)
  clear h h1 h2
  have hf:0≤flagO o∧flagO o≤3:=by unfold flagO; split <;> split <;> omega
  have hf1:decide (flagO o % 2=1)=o.iso:=by
    unfold flagO; cases o.iso <;> cases o.kno <;> decide
  have hf2:decide (flagO o / 2 % 2=1)=o.kno:=by
    unfold flagO; cases o.iso <;> cases o.kno <;> decide
  have s0:(opB o++x).drop 0=beI 1 o.kind++(beI 1 o.image++(beI 4 o.x++(beI 4 o.y++(beI 1 o.mask++(beI 4 o.mx++(beI 4 o.my++(beI 2 o.opac++(beI 1 o.oper++(beI 1 o.mode++(beI 1 (flagO o)++x)))))))))):=by
    simp only [opB,putL,List.flatMap_cons,List.flatMap_nil,List.append_assoc,List.nil_append,List.drop_zero]
  generalize opB o++x=L at *
  have s1:L.drop 1=_:=step_be s0
  have s2:L.drop 2=_:=step_be s1
  have s6:L.drop 6=_:=step_be s2
  have s10:L.drop 10=_:=step_be s6
  have s11:L.drop 11=_:=step_be s10
  have s15:L.drop 15=_:=step_be s11
  have s19:L.drop 19=_:=step_be s15
  have s21:L.drop 21=_:=step_be s19
  have s22:L.drop 22=_:=step_be s21
  have s23:L.drop 23=_:=step_be s22
  have s24:L.drop 24=_:=step_be s23
  have t23:tkV 1 (L.drop 23)=flagO o:=by rw [s23]; exact tk1_be _ ⟨by omega,by omega⟩
  refine ⟨?_,s24,hl,by rw [t23]; exact hf.2⟩
  rw [List.drop_zero] at s0
  unfold rdOp
  rw [t23,hf1,hf2,List.drop_zero,s1,s2,s6,s10,s11,s15,s19,s21,s22,s0,tk1_be _ hk,tk1_be _ hi,sg4_be _ hx,sg4_be _ hy,tk1_be _ hm,sg4_be _ hmx,sg4_be _ hmy,tk2_be _ hp,tk1_be _ ho,tk1_be _ hd]
theorem opsL_cons (n:Nat) (l:List Int):opsL l (n+1)=rdOp l::opsL (l.drop 24) n:=by
  unfold opsL
  rw [List.range_succ_eq_map,List.map_cons,List.map_map]
  refine cong_cons (by rw [Nat.mul_zero,List.drop_zero]) (List.map_congr_left fun i _=>?_)
  simp only [Function.comp_def,List.drop_drop]
  exact congrArg rdOp (congrArg (fun k=>l.drop k) (by omega))
theorem ops_read:∀ (l:List Oq) (x:List Int),(∀ o∈l,opIn o)→opsL (l.flatMap opB++x) l.length=l∧(l.flatMap opB++x).drop (24*l.length)=x∧∀ i,i < l.length→opWhen ((l.flatMap opB++x).drop (24*i))
  | [],x,_=>⟨rfl,rfl,fun i hi=>absurd hi (Nat.not_lt_zero i)⟩
  | p::l,x,h=>by
    have h1:=op_read (l.flatMap opB++x) (h p (by simp))
    have ih:=ops_read l x fun q hq=>h q (by simp [hq])
    rw [List.flatMap_cons,List.append_assoc,List.length_cons,opsL_cons,h1.1,h1.2.1,ih.1]
    refine ⟨rfl,?_,fun i hi=>?_⟩
    · rw [show 24*(l.length+1)=24+24*l.length by omega,← List.drop_drop,h1.2.1,ih.2.1]
    · match i with
      | 0=>exact h1.2.2
      | i+1=>
        rw [show 24*(i+1)=24+24*i by omega,← List.drop_drop,h1.2.1]
        exact ih.2.2 i (by omega)
def imIn (m:Im):Prop:=m.formed=true∧pxIn m.c∧∀ p∈m.pixels,pxIn p
def Im.nrm (m:Im):Im:=if m.so then solidIm m.w m.h m.c else imOf m.w m.h m.pixels
theorem im_read {m:Im} (x:List Int) (h:imIn m):rdIm (imB_ m++x)=m.nrm∧imRest (imB_ m++x)=x∧imWhen (imB_ m++x):=by
  obtain ⟨hf,hc,hp⟩:=h
  have hfit:=(Im.formed_of hf).1
  have hfl:=fits_le hfit
  have hlen:=Im.pixels_len hf
  have hli:=imB_len hf
  have hL:((imB_ m++x).length:Int)=sizeIm m+x.length:=by rw [List.length_append]; omega
  unfold imB_ at hL ⊢
  unfold sizeIm at hL
  by_cases hs:m.so=true
  · rw [if_pos hs] at hL ⊢
    rw [if_pos hs] at hL
    have s0:(putL 1 [1]++putL 4 [m.w,m.h]++pxB m.c++x).drop 0=beI 1 1++(beI 4 m.w++(beI 4 m.h++(pxB m.c++x))):=by
      simp only [putL,List.flatMap_cons,List.flatMap_nil,List.append_assoc,List.nil_append,List.drop_zero]
    generalize putL 1 [1]++putL 4 [m.w,m.h]++pxB m.c++x=L at *
    have s1:L.drop 1=_:=step_be s0
    have s5:L.drop 5=_:=step_be s1
    have s9:L.drop 9=_:=step_be s5
    have s19:L.drop 19=x:=by rw [show 19=9+10 from rfl,← List.drop_drop,s9]; exact (px_read x hc).2
    rw [List.drop_zero] at s0
    have k1:tkV 1 L=1:=by rw [s0]; exact tk1_be _ ⟨by decide,by decide⟩
    have k2:rdW L=m.w:=by unfold rdW; rw [s1]; exact tk4_be _ ⟨by omega,by omega⟩
    have k3:rdH L=m.h:=by unfold rdH; rw [s5]; exact tk4_be _ ⟨by omega,by omega⟩
    refine ⟨?_,?_,⟨by omega,by omega,by omega,by omega,by rw [k2,k3]; omega⟩,?_⟩
    · unfold rdIm Im.nrm
      rw [if_pos k1,if_pos hs,k2,k3,s9,(px_read x hc).1]
    · unfold imRest
      rw [if_pos k1,s19]
    · rw [if_pos k1]; omega
  · rw [if_neg hs] at hL ⊢
    rw [if_neg hs] at hL
    have s0:(putL 1 [0]++putL 4 [m.w,m.h]++m.pixels.flatMap pxB++x).drop 0=beI 1 0++(beI 4 m.w++(beI 4 m.h++(m.pixels.flatMap pxB++x))):=by
      simp only [putL,List.flatMap_cons,List.flatMap_nil,List.append_assoc,List.nil_append,List.drop_zero]
    generalize putL 1 [0]++putL 4 [m.w,m.h]++m.pixels.flatMap pxB++x=L at *
    have s1:L.drop 1=_:=step_be s0
    have s5:L.drop 5=_:=step_be s1
    have s9:L.drop 9=_:=step_be s5
    have hpx:=pxs_read m.pixels x hp
    rw [List.drop_zero] at s0
    have k1:tkV 1 L=0:=by rw [s0]; exact tk1_be _ ⟨by decide,by decide⟩
    have k1':¬ tkV 1 L=1:=by omega
    have k2:rdW L=m.w:=by unfold rdW; rw [s1]; exact tk4_be _ ⟨by omega,by omega⟩
    have k3:rdH L=m.h:=by unfold rdH; rw [s5]; exact tk4_be _ ⟨by omega,by omega⟩
    have k4:rdN L=m.pixels.length:=by unfold rdN; rw [k2,k3]; omega
    refine ⟨?_,?_,⟨by omega,by omega,by omega,by omega,by rw [k2,k3]; omega⟩,?_⟩
    · unfold rdIm Im.nrm
      rw [if_neg k1',if_neg hs,k2,k3,k4,s9,hpx.1]
    · unfold imRest
      rw [if_neg k1',k4,← List.drop_drop,s9,hpx.2]
    · rw [if_neg k1',k4]; omega
theorem imsT_front (l:List Int):∀ k,imsT l (k+1)=(rdIm l::(imsT (imRest l) k).1,(imsT (imRest l) k).2)
  | 0=>rfl
  | k+1=>by
    have ih:=imsT_front l k
    rw [imsT,ih]
    rfl
theorem ims_read:∀ (l:List Im) (x:List Int),(∀ m∈l,imIn m)→imsT (l.flatMap imB_++x) l.length=(l.map Im.nrm,x)∧∀ i,i < l.length→imWhen (imsT (l.flatMap imB_++x) i).2
  | [],x,_=>⟨rfl,fun i hi=>absurd hi (Nat.not_lt_zero i)⟩
  | m::l,x,h=>by
    have h1:=im_read (l.flatMap imB_++x) (h m (by simp))
    have ih:=ims_read l x fun q hq=>h q (by simp [hq])
    rw [List.flatMap_cons,List.append_assoc,List.length_cons,imsT_front,h1.1,h1.2.1,ih.1]
    refine ⟨rfl,fun i hi=>?_⟩
    match i with
    | 0=>exact h1.2.2
    | i+1=>
      rw [imsT_front,h1.2.1]
      exact ih.2 i (by omega)
theorem ord_read (L:List Int):∀ (o:List Int) (d:Nat) (y:List Int),L.drop d=putL 4 o++y→(∀ v∈o,0≤v∧v≤4294967295)→(List.range o.length).map (fun i=>tkV 4 (L.drop (d+4*i)))=o∧L.drop (d+4*o.length)=y
  | [],d,y,h,_=>⟨rfl,h⟩
  | v::o,d,y,h,hv=>by
    have h0:L.drop d=beI 4 v++(putL 4 o++y):=by
      rw [h]
      simp only [putL,List.flatMap_cons,List.append_assoc]
    have ih:=ord_read L o (d+4) y (step_be h0) fun u hu=>hv u (by simp [hu])
    rw [List.length_cons]
    refine ⟨?_,by rw [show d+4*(o.length+1)=d+4+4*o.length by omega]; exact ih.2⟩
    rw [List.range_succ_eq_map,List.map_cons,List.map_map]
    refine cong_cons (by rw [Nat.mul_zero,Nat.add_zero,h0]; exact tk4_be _ (hv v (by simp))) (Eq.trans (List.map_congr_left fun i _=>?_) ih.1)
    simp only [Function.comp_def]
    exact congrArg (fun k=>tkV 4 (L.drop k)) (by omega)
structure Scr.inR (s:Scr):Prop where
  ok:encOk s=true
  im:∀ m∈s.ims,imIn m
  op:∀ o∈s.ops,0≤o.opac∧o.opac≤65535
def Scr.norm (s:Scr):Scr:=⟨s.bits,s.c,s.tw,s.th,s.ord,s.ims.map Im.nrm,s.ops⟩
theorem imBs_ge:∀ l:List Im,9*l.length≤(l.flatMap imB_).length
  | []=>by simp
  | m::l=>by
    have h1:=imBs_ge l
    have h2:9≤(imB_ m).length:=by
      unfold imB_
      split <;> simp only [List.length_append,putL_len,List.length_cons,List.length_nil] <;> omega
    rw [List.flatMap_cons,List.length_append,List.length_cons]
    omega
theorem encB_len {s:Scr} (h:s.ims.all Im.formed=true):((encB s).length:Int)=sizeS s s.ims:=by
  have h1:=imBs_len h
  have h2:=opBs_len s.ops
  unfold encB sizeS
  simp only [List.length_append,putL_len,List.length_cons,List.length_nil]
  omega
theorem parse_enc {s:Scr} (h:s.inR) (x:List Int):hd4P (encB s++x) (n3P (encB s++x))∧(bDP (encB s++x)).drop (24*n3P (encB s++x))=x∧parseS (encB s++x)=s.norm∧n2P (encB s++x)=s.ims.length∧n3P (encB s++x)=s.ops.length:=by
  obtain ⟨ok,him,hop⟩:=h
  have ok0:=ok
  simp only [encOk,encHd,Bool.and_eq_true,decide_eq_true_eq] at ok
  obtain ⟨⟨⟨⟨⟨⟨⟨⟨o1,o2⟩,o3⟩,o4⟩,o5⟩,o6⟩,o7⟩,o8⟩,o9⟩:=ok
  have f1:=fitL_mem o1 s.bits (by simp)
  have f2:=fitL_mem o2
  have f3:=fitL_mem o3
  have f4:=fitL_mem o4
  have ca:=f2 s.c.a (by simp)
  have cb:=f2 s.c.b (by simp)
  have cc:=f2 s.c.c (by simp)
  have cd:=f2 s.c.d (by simp)
  have ctw:=f3 s.tw (by simp)
  have cth:=f3 s.th (by simp)
  have hel:=encB_len o7
  have hol:s.ord.length≤16777216:=by
    have:=imBs_len o7
    unfold sizeS at o9
    omega
  have hops:∀ o∈s.ops,opIn o:=fun o ho=>⟨List.all_eq_true.1 o8 o ho,hop o ho⟩
  have R3:=ops_read s.ops x hops
  have l3:=opBs_len s.ops
  have l2:=imBs_ge s.ims
  have R2:=ims_read s.ims (beI 2 (s.ops.length:Int)++(s.ops.flatMap opB++x)) him
  have s0:(encB s++x)=[76,67]++(beI 1 s.bits++(beI 4 s.c.a++(beI 4 s.c.b++(beI 4 s.c.c++(beI 4 s.c.d++(beI 4 s.tw++(beI 4 s.th++(beI 4 (s.ord.length:Int)++(putL 4 s.ord++(beI 1 (s.ims.length:Int)++(s.ims.flatMap imB_++(beI 2 (s.ops.length:Int)++(s.ops.flatMap opB++x))))))))))))):=by
    simp only [encB,putL,List.flatMap_cons,List.flatMap_nil,List.append_assoc,List.nil_append,List.cons_append]
  have hLL:31≤(encB s++x).length:=by
    have:=imBs_len o7
    unfold sizeS at hel
    rw [List.length_append]
    omega
  generalize encB s++x=L at *
  have k0:tkV 1 L=76:=by rw [s0]; exact tk1 _ _
  have k1:tkV 1 (L.drop 1)=67:=by rw [s0]; exact tk1 _ _
  have s2:L.drop 2=beI 1 s.bits++(beI 4 s.c.a++(beI 4 s.c.b++(beI 4 s.c.c++(beI 4 s.c.d++(beI 4 s.tw++(beI 4 s.th++(beI 4 (s.ord.length:Int)++(putL 4 s.ord++(beI 1 (s.ims.length:Int)++(s.ims.flatMap imB_++(beI 2 (s.ops.length:Int)++(s.ops.flatMap opB++x)))))))))))):=by rw [s0]; rfl
  clear s0
  have s3:L.drop 3=_:=step_be s2
  have s7:L.drop 7=_:=step_be s3
  have s11:L.drop 11=_:=step_be s7
  have s15:L.drop 15=_:=step_be s11
  have s19:L.drop 19=_:=step_be s15
  have s23:L.drop 23=_:=step_be s19
  have s27:L.drop 27=_:=step_be s23
  have s31:L.drop 31=_:=step_be s27
  have R1:=ord_read L s.ord 31 _ s31 f4
  have t27:tkV 4 (L.drop 27)=(s.ord.length:Int):=by rw [s27]; exact tk4_be _ ⟨by omega,by omega⟩
  have e1:n1P L=s.ord.length:=by unfold n1P; rw [t27]; exact Int.toNat_natCast _
  have eA:bAP L=beI 1 (s.ims.length:Int)++(s.ims.flatMap imB_++(beI 2 (s.ops.length:Int)++(s.ops.flatMap opB++x))):=by unfold bAP; rw [e1]; exact R1.2
  have tA:tkV 1 (bAP L)=(s.ims.length:Int):=by rw [eA]; exact tk1_be _ ⟨by omega,by omega⟩
  have e2:n2P L=s.ims.length:=by unfold n2P; rw [tA]; exact Int.toNat_natCast _
  have eB:bBP L=s.ims.flatMap imB_++(beI 2 (s.ops.length:Int)++(s.ops.flatMap opB++x)):=by
    unfold bBP; rw [eA]; exact List.drop_left' (beI_len _ _)
  have eC:bCP L=beI 2 (s.ops.length:Int)++(s.ops.flatMap opB++x):=by unfold bCP; rw [e2,eB,R2.1]
  have tC:tkV 2 (bCP L)=(s.ops.length:Int):=by rw [eC]; exact tk2_be _ ⟨by omega,by omega⟩
  have e3:n3P L=s.ops.length:=by unfold n3P; rw [tC]; exact Int.toNat_natCast _
  have eD:bDP L=s.ops.flatMap opB++x:=by
    unfold bDP; rw [eC]; exact List.drop_left' (beI_len _ _)
  have ln27:(L.drop 27).length=4+(s.ord.length*4+(bAP L).length):=by
    rw [s27,List.length_append,beI_len,List.length_append,putL_len,eA]
  have lnA:(bAP L).length=1+((s.ims.flatMap imB_).length+(bCP L).length):=by
    rw [eA,List.length_append,beI_len,List.length_append,eC]
  have lnC:(bCP L).length=2+(s.ops.length*24+x.length):=by
    rw [eC,List.length_append,beI_len,List.length_append,l3]
  refine ⟨⟨⟨⟨⟨by omega,k0,k1⟩,hLL,?_⟩,?_,?_⟩,?_,?_⟩,?_,?_,e2,e3⟩
  · refine ⟨by omega,?_⟩
    rw [t27]
    have:s.ord.length≤((L.drop 27).length - 4) / 4:=(Nat.le_div_iff_mul_le (by omega)).2 (by omega)
    exact_mod_cast this
  · refine ⟨by omega,?_⟩
    rw [tA]
    have:s.ims.length≤((bAP L).length - 1) / 9:=(Nat.le_div_iff_mul_le (by omega)).2 (by omega)
    exact_mod_cast this
  · rw [e2,eB]; exact R2.2
  · refine ⟨by omega,?_⟩
    rw [tC]
    have:s.ops.length≤((bCP L).length - 2) / 24:=(Nat.le_div_iff_mul_le (by omega)).2 (by omega)
    exact_mod_cast this
  · rw [e3,eD]; exact R3.2.2
  · rw [e3,eD]; exact R3.2.1
  · unfold parseS Scr.norm
    have q1:tkV 1 (L.drop 2)=s.bits:=by rw [s2]; exact tk1_be _ f1
    have q2:sgV (L.drop 3)=s.c.a:=by rw [s3]; exact sg4_be _ ca
    have q3:sgV (L.drop 7)=s.c.b:=by rw [s7]; exact sg4_be _ cb
    have q4:sgV (L.drop 11)=s.c.c:=by rw [s11]; exact sg4_be _ cc
    have q5:sgV (L.drop 15)=s.c.d:=by rw [s15]; exact sg4_be _ cd
    have q6:tkV 4 (L.drop 19)=s.tw:=by rw [s19]; exact tk4_be _ ctw
    have q7:tkV 4 (L.drop 23)=s.th:=by rw [s23]; exact tk4_be _ cth
    have q8:ordL L (n1P L)=s.ord:=by rw [e1]; exact R1.1
    have q9:(imsT (bBP L) (n2P L)).1=s.ims.map Im.nrm:=by rw [e2,eB,R2.1]
    have q10:opsL (bDP L) (n3P L)=s.ops:=by rw [e3,eD]; exact R3.1
    rw [q1,q2,q3,q4,q5,q6,q7,q8,q9,q10]
theorem rdPx_in {l:List Int} (hB:isB l):pxIn (rdPx l):=⟨tk2_in (hB.drop 0),tk2_in (hB.drop 2),tk2_in (hB.drop 4),tk2_in (hB.drop 6),tk2_in (hB.drop 8)⟩
theorem rdIm_in {l:List Int} (hB:isB l) (h:imWhen l):imIn (rdIm l):=by
  obtain ⟨r1,r2,r3,r4,r5,r6⟩:=rdIm_ok h
  by_cases hk:tkV 1 l=1
  · have hso:(rdIm l).so=true:=by rw [r4]; exact decide_eq_true hk
    have hc:pxIn (rdIm l).c:=by rw [r5 hk]; exact rdPx_in (hB.drop 9)
    refine ⟨r1,hc,fun p hp=>?_⟩
    rw [Im.pixels_so r1 hso] at hp
    rw [List.eq_of_mem_replicate hp]
    exact hc
  · refine ⟨r1,?_,fun p hp=>?_⟩
    · have hso:(rdIm l).so=false:=by rw [r4]; exact decide_eq_false hk
      have:=(Im.inner_planes (Im.formed_of r1).2 hso).1
      rw [this]
      exact ⟨⟨by decide,by decide⟩,⟨by decide,by decide⟩,⟨by decide,by decide⟩,⟨by decide,by decide⟩,⟨by decide,by decide⟩⟩
    · rw [r6 hk] at hp
      unfold rdPxs at hp
      obtain ⟨i,_,rfl⟩:=List.mem_map.1 hp
      exact rdPx_in ((hB.drop 9).drop _)
theorem imsT_mem (l:List Int):∀ k,∀ m∈(imsT l k).1,∃ i,i < k∧m=rdIm (imsT l i).2
  | 0,m,hm=>by cases hm
  | k+1,m,hm=>by
    have hm:m∈(imsT l k).1++[rdIm (imsT l k).2]:=hm
    rcases List.mem_append.1 hm with hm | hm
    · obtain ⟨i,hi,e⟩:=imsT_mem l k m hm
      exact ⟨i,by omega,e⟩
    · rw [List.mem_singleton] at hm
      exact ⟨k,by omega,hm⟩
structure readOk (b:List Int):Prop where
  im:∀ i,i < n2P b→imWhen (imsT (bBP b) i).2
  len:31+4*n1P b≤b.length
theorem parse_im {b:List Int} (hB:isB b) (h:∀ i,i < n2P b→imWhen (imsT (bBP b) i).2):∀ m∈(parseS b).ims,imIn m:=fun m hm=>by
  obtain ⟨i,hi,rfl⟩:=imsT_mem _ _ m hm
  exact rdIm_in (imsT_isB ((hB.drop _).drop _) i) (h i hi)
theorem rdOp_in {l:List Int} (hB:isB l):opIn (rdOp l):=by
  have a:=tk1_in (hB.drop 0)
  have b:=tk1_in (hB.drop 1)
  have c:=tk1_in (hB.drop 10)
  have d:=tk1_in (hB.drop 21)
  have e:=tk1_in (hB.drop 22)
  have f:=sgV_in (hB.drop 2)
  have g:=sgV_in (hB.drop 6)
  have i:=sgV_in (hB.drop 11)
  have j:=sgV_in (hB.drop 15)
  refine ⟨?_,tk2_in (hB.drop 19)⟩
  simp only [opOk,rdOp,fitL,List.all_cons,List.all_nil,Bool.and_true,Bool.and_eq_true,decide_eq_true_eq]
  exact ⟨⟨a,b,c,d,e⟩,f,g,i,j⟩
theorem parse_op {b:List Int} (hB:isB b):∀ o∈(parseS b).ops,opIn o:=fun o ho=>by
  have ho:o∈opsL (bDP b) (n3P b):=ho
  unfold opsL at ho
  obtain ⟨i,_,rfl⟩:=List.mem_map.1 ho
  have hBC:isB (bCP b):=imsT_isB ((hB.drop _).drop _) _
  exact rdOp_in ((hBC.drop _).drop _)
theorem parse_hd {b:List Int} (hB:isB b) (h1:(parseS b).ims.length≤64) (h2:(parseS b).ops.length≤4096):encHd (parseS b)=true:=by
  have a:=tk1_in (hB.drop 2)
  have f:=sgV_in (hB.drop 3)
  have g:=sgV_in (hB.drop 7)
  have i:=sgV_in (hB.drop 11)
  have j:=sgV_in (hB.drop 15)
  have k:=tk4_in (hB.drop 19)
  have l:=tk4_in (hB.drop 23)
  simp only [encHd,fitL,List.all_cons,List.all_nil,Bool.and_true,Bool.and_eq_true,decide_eq_true_eq]
  refine ⟨⟨⟨⟨⟨a,f,g,i,j⟩,k,l⟩,?_⟩,h1⟩,h2⟩
  rw [List.all_eq_true]
  intro v hv
  have hv:v∈ordL b (n1P b):=hv
  unfold ordL at hv
  obtain ⟨i,_,rfl⟩:=List.mem_map.1 hv
  exact decide_eq_true (tk4_in (hB.drop _))
def decOk (b:List Int):Prop:=b.length≤67108864∧parseOk b∧(parseS b).ims.length≤64∧(parseS b).ops.length≤4096
theorem dec_in {b:List Int} (hB:isB b) (h:decOk b):(parseS b).inR∧encB (parseS b)=b:=by
  obtain ⟨h1,h2,h3,h4⟩:=h
  have e:=enc_parse hB h2
  have him:=parse_im hB h2.1.1.2.2
  have hop:=parse_op hB
  have hf:(parseS b).ims.all Im.formed=true:=List.all_eq_true.2 fun m hm=>(him m hm).1
  refine ⟨⟨?_,him,fun o ho=>(hop o ho).2⟩,e⟩
  have hl:=encB_len hf
  rw [e] at hl
  have ho:(parseS b).ops.all opOk=true:=List.all_eq_true.2 fun o ho=>(hop o ho).1
  unfold encOk
  rw [parse_hd hB h3 h4,hf,ho,decide_eq_true (by omega)]
  rfl
theorem dec_enc {s:Scr} (h:s.inR):decOk (encB s)∧parseS (encB s)=s.norm:=by
  have hp:=parse_enc h []
  rw [List.append_nil] at hp
  have hE:=enc_of h.ok
  have hl:=encB_len hE.fm
  have:=hE.sz
  refine ⟨⟨by omega,⟨hp.1,by rw [hp.2.1]; rfl⟩,?_,?_⟩,hp.2.2.1⟩
  · rw [hp.2.2.1]
    unfold Scr.norm
    simp only [List.length_map]
    exact hE.il
  · rw [hp.2.2.1]
    exact hE.ol
theorem dec_more {s:Scr} (h:s.inR) (x:List Int):decOk (encB s++x)↔x=[]:=by
  refine ⟨fun ⟨_,hp,_,_⟩=>?_,fun e=>by rw [e,List.append_nil]; exact (dec_enc h).1⟩
  have:=(parse_enc h x).2.1
  have h2:=hp.2
  rw [this] at h2
  exact List.length_eq_zero_iff.1 h2
theorem dec_less {s:Scr} (h:s.inR) (hB:isB (encB s)) {k:Nat} (hk:k < (encB s).length):¬ decOk ((encB s).take k):=fun hd=>by
  have hB2:isB ((encB s).take k):=fun v hv=>hB v (List.mem_of_mem_take hv)
  obtain ⟨hin,e⟩:=dec_in hB2 hd
  have h1:decOk (encB s):=(dec_enc h).1
  rw [← List.take_append_drop k (encB s),← e] at h1
  have h2:=(dec_more hin _).1 h1
  have:=congrArg List.length h2
  rw [List.length_drop,List.length_nil] at this
  omega
instance (l:List Int):Decidable (imWhen l):=by unfold imWhen imHead; infer_instance
instance (l:List Int):Decidable (opWhen l):=by unfold opWhen; infer_instance
instance (b:List Int):Decidable (parseOk b):=by unfold parseOk hd4P hd3P hd2P hd1P cntOk; infer_instance
instance (b:List Int):Decidable (decOk b):=by unfold decOk; infer_instance
def zeroS:Scr:=⟨0,⟨0,0,0,0⟩,0,0,[],[],[]⟩
def decR (b:List Int):Scr:=if decOk b then parseS b else zeroS
def decE (b:List Int):Int:=if decOk b then 0 else 19
theorem dec_yes {b:List Int} (h:decOk b):decR b=parseS b∧decE b=0:=by unfold decR decE; rw [if_pos h,if_pos h]; exact ⟨rfl,rfl⟩
theorem dec_no {b:List Int} (h:¬ decOk b):decR b=zeroS∧decE b=19:=by unfold decR decE; rw [if_neg h,if_neg h]; exact ⟨rfl,rfl⟩
theorem dec_back {b:List Int} (h:¬ decOk b) {w:World} {S:Nat→Prop} {f:FuncId} {zs:Array Value}
    (hc:Calls Try.prog f zs w fun e w'=>e=.returned (.tuple #[.agg #[.int .i64 0,.int .i64 0,.int .i64 0,.int .i64 0,.int .i64 0,.int .i64 0,.int .i64 0,.slice none 0 0,.slice none 0 0,.slice none 0 0],.int .i64 19])∧Below w.heap.size w w') :
    Calls Try.prog f zs w fun e w'=>∃ v,e=.returned v∧RepR w' (fun g=>S g∨w.heap.size≤g) (RV.tup [RV.agg (scrD (decR b)),RV.d (.int .i64 (decE b))]) v∧Below w.heap.size w w':=by
  rw [(dec_no h).1,(dec_no h).2]
  refine hc.mono ?_
  rintro e w' ⟨rfl,hb⟩
  refine ⟨_,rfl,?_,hb⟩
  simp only [RepR,RepRs]
  have hi:∀ n:Int,n=0∨n=19→RepD w' (fun g=>S g∨w.heap.size≤g) (.int .i64 n) (.int .i64 n):=fun n hn=>by
    simp only [RepD,true_and]
    rw [inK_iff]
    show (-9223372036854775808:Int)≤n∧n≤9223372036854775807
    omega
  have hz:=hi 0 (.inl rfl)
  have hs:RepD w' (fun g=>S g∨w.heap.size≤g) (.sl 0 []) (.slice none 0 0):=by
    simp only [RepD]
    exact ⟨none,0,rfl,Nat.le_refl _,Nat.zero_le _,fun h=>absurd rfl h⟩
  exact ⟨_,rfl,⟨_,rfl,hz,hz,hz,hz,hz,hz,hz,hs,hs,hs,trivial⟩,hi 19 (.inr rfl),trivial⟩
theorem script_Decode_ans (b:List Int):Ans Try.prog 19 [RV.d (.sl b.length (u8s b))] (RV.tup [RV.agg (scrD (decR b)),RV.d (.int .i64 (decE b))]):=by
  intro w S vs hg hr
  obtain ⟨l⟩:=vs
  match l,hr with
  | [v],hr=>
    simp only [RepRs,RepR,and_true] at hr
    have hr0:=hr
    simp only [RepD] at hr
    obtain ⟨A,cap,rfl,_⟩:=hr
    by_cases hL:b.length≤67108864
    · by_cases hp:parseOk b
      · by_cases hI:(parseS b).ims.length≤64
        · by_cases hO:(parseS b).ops.length≤4096
          · have hd:decOk b:=⟨hL,hp,hI,hO⟩
            rw [(dec_yes hd).1,(dec_yes hd).2]
            refine (decode_good b A cap w S hg hr0 hL (parseS b) ⟨rfl⟩ hp hI hO).mono ?_
            rintro e e' ⟨cl,rfl,hv,hb⟩
            refine ⟨_,rfl,?_,hb⟩
            simp only [RepR,RepRs]
            refine ⟨_,rfl,⟨_,rfl,hv⟩,?_,trivial⟩
            have hi:RepD e' (fun g=>S g∨w.heap.size≤g) (.int .i64 0) (.int .i64 0):=by
              simp only [RepD,true_and]
              rw [inK_iff]
              exact ⟨by decide,by decide⟩
            exact hi
          · exact dec_back (fun h=>hO h.2.2.2) (decode_more b A cap w S hg hr0 hL (parseS b) ⟨rfl⟩ hp hI hO)
        · exact dec_back (fun h=>hI h.2.2.1) (decode_many b A cap w S hg hr0 hL (parseS b) ⟨rfl⟩ hp hI)
      · exact dec_back (fun h=>hp h.2.1) (decode_bad b A cap w S hg hr0 hL hp)
    · exact dec_back (fun h=>hL h.1) (decode_long A b.length cap w hL)
end Go.Proofs.Ytlnfgagmiogkgaa
namespace Go.Proofs.Ytlnfgagmiogkgaa
open Go.RowKit
set_option linter.unusedVariables false
set_option linter.unusedSimpArgs false
attribute [local irreducible] Ans AnsO AnsG AnsN AnsI
set_option maxRecDepth 4000
def gamEj:Gam where
 pure:=fun f xs=>
  if f=11 then (match xs with | [.agg [.int _ bits,.int _ cx0,.int _ cy0,.int _ cx1,.int _ cy1,.int _ tw,.int _ th,.sl on oxs,.sl mn mxs,.sl pn pxs]]=>some (RV.tup [RV.d (DV.sl ((encS (⟨bits,⟨cx0,cy0,cx1,cy1⟩,tw,th,ints oxs,toIms mxs,toOps pxs⟩:Scr)).1.length) (u8s (encS (⟨bits,⟨cx0,cy0,cx1,cy1⟩,tw,th,ints oxs,toIms mxs,toOps pxs⟩:Scr)).1)),RV.d (dJ ((encS (⟨bits,⟨cx0,cy0,cx1,cy1⟩,tw,th,ints oxs,toIms mxs,toOps pxs⟩:Scr)).2))]) | _=>none) else
  if f=19 then (match xs with | [.d (.sl n xs)]=>some (RV.tup [RV.agg [dJ ((decR (ints (xs))).bits),dJ ((decR (ints (xs))).c.a),dJ ((decR (ints (xs))).c.b),dJ ((decR (ints (xs))).c.c),dJ ((decR (ints (xs))).c.d),dJ ((decR (ints (xs))).tw),dJ ((decR (ints (xs))).th),DV.sl ((decR (ints (xs))).ord.length) (is (decR (ints (xs))).ord),DV.sl ((decR (ints (xs))).ims.length) (ims (decR (ints (xs))).ims),DV.sl ((decR (ints (xs))).ops.length) (ops (decR (ints (xs))).ops)],RV.d (dJ (decE (ints (xs))))]) | _=>none) else
  none
 modes:=fun f=>
  none
 proc:=fun f xs bs=>
  none
 iter:=fun f cs=>
  none
def L18_awakeD_ann:Ann:=Ann.leaf
theorem L18_awakeD_vc:vcg Try.prog gamEj 32 (bodyOf Try.f13) (L18_awakeD_ann ) kn0 (start []) (post Try.prog Try.f13.results.toList (·=RV.d (DV.bool true))) =
  (tU3 ((Ans Try.prog 11 [RV.agg [dJ 8,dJ 0,dJ 0,dJ 1,dJ 1,dJ 1,dJ 1,DV.sl 0 ([]),DV.sl 0 ([]),DV.sl 0 ([])]] (RV.tup [RV.d (DV.sl ((encS (⟨(8:Int),⟨(0:Int),(0:Int),(1:Int),(1:Int)⟩,(1:Int),(1:Int),ints ([]),toIms ([]),toOps ([])⟩:Scr)).1.length) (u8s (encS (⟨(8:Int),⟨(0:Int),(0:Int),(1:Int),(1:Int)⟩,(1:Int),(1:Int),ints ([]),toIms ([]),toOps ([])⟩:Scr)).1)),RV.d (dJ ((encS (⟨(8:Int),⟨(0:Int),(0:Int),(1:Int),(1:Int)⟩,(1:Int),(1:Int),ints ([]),toIms ([]),toOps ([])⟩:Scr)).2))]))∧tU5 ((Ans Try.prog 19 [RV.d (DV.sl 0 ([]))] (RV.tup [RV.agg [dJ ((decR (ints (([])))).bits),dJ ((decR (ints (([])))).c.a),dJ ((decR (ints (([])))).c.b),dJ ((decR (ints (([])))).c.c),dJ ((decR (ints (([])))).c.d),dJ ((decR (ints (([])))).tw),dJ ((decR (ints (([])))).th),DV.sl ((decR (ints (([])))).ord.length) (is (decR (ints (([])))).ord),DV.sl ((decR (ints (([])))).ims.length) (ims (decR (ints (([])))).ims),DV.sl ((decR (ints (([])))).ops.length) (ops (decR (ints (([])))).ops)],RV.d (dJ (decE (ints (([])))))]))∧True∧tU8 ((((((encS (⟨(8:Int),⟨(0:Int),(0:Int),(1:Int),(1:Int)⟩,(1:Int),(1:Int),ints ([]),toIms ([]),toOps ([])⟩:Scr)).2)==(0:Int))=true→tU5 (((((((encS (⟨(8:Int),⟨(0:Int),(0:Int),(1:Int),(1:Int)⟩,(1:Int),(1:Int),ints ([]),toIms ([]),toOps ([])⟩:Scr)).1.length:Nat):Int)==(34:Int))=true→True∧(0≤(0:Int)∧(0:Int)≤(2:Int)∧(2:Int)≤(((encS (⟨(8:Int),⟨(0:Int),(0:Int),(1:Int),(1:Int)⟩,(1:Int),(1:Int),ints ([]),toIms ([]),toOps ([])⟩:Scr)).1.length:Nat):Int))∧(((2:Int) - (0:Int)).toNat=(List.take (((2:Int) - (0:Int)).toNat*1) (List.drop ((0:Int).toNat*1) (u8s (encS (⟨(8:Int),⟨(0:Int),(0:Int),(1:Int),(1:Int)⟩,(1:Int),(1:Int),ints ([]),toIms ([]),toOps ([])⟩:Scr)).1))).length∧allBytes (List.take (((2:Int) - (0:Int)).toNat*1) (List.drop ((0:Int).toNat*1) (u8s (encS (⟨(8:Int),⟨(0:Int),(0:Int),(1:Int),(1:Int)⟩,(1:Int),(1:Int),ints ([]),toIms ([]),toOps ([])⟩:Scr)).1))))∧tU3 (((((strD (List.take (((2:Int) - (0:Int)).toNat*1) (List.drop ((0:Int).toNat*1) (u8s (encS (⟨(8:Int),⟨(0:Int),(0:Int),(1:Int),(1:Int)⟩,(1:Int),(1:Int),ints ([]),toIms ([]),toOps ([])⟩:Scr)).1)))).toList==(⟨#[76,67]⟩:ByteArray).toList)=true→tU4 (RV.d (dQ ((decE (ints (([]))))==(19:Int)))=RV.d (dQ true)))∧(((strD (List.take (((2:Int) - (0:Int)).toNat*1) (List.drop ((0:Int).toNat*1) (u8s (encS (⟨(8:Int),⟨(0:Int),(0:Int),(1:Int),(1:Int)⟩,(1:Int),(1:Int),ints ([]),toIms ([]),toOps ([])⟩:Scr)).1)))).toList==(⟨#[76,67]⟩:ByteArray).toList)=(!true)→tU2 (RV.d (dQ false)=RV.d (dQ true))))))∧(((((encS (⟨(8:Int),⟨(0:Int),(0:Int),(1:Int),(1:Int)⟩,(1:Int),(1:Int),ints ([]),toIms ([]),toOps ([])⟩:Scr)).1.length:Nat):Int)==(34:Int))=(!true)→tU4 (RV.d (dQ false)=RV.d (dQ true))))))∧((((encS (⟨(8:Int),⟨(0:Int),(0:Int),(1:Int),(1:Int)⟩,(1:Int),(1:Int),ints ([]),toIms ([]),toOps ([])⟩:Scr)).2)==(0:Int))=(!true)→tU6 (RV.d (dQ false)=RV.d (dQ true)))))))):=by kernel_rfl
theorem L18_awakeD_ans:Ans Try.prog 13 [] (RV.d (DV.bool true)):=
  ans_of_vcg (Γ:=gamEj) (L18_awakeD_ann ) mixed_ Try.func13 rfl (Nat.le_of_ble_eq_true rfl) fun hwf=>by
    refine Eq.mpr (L18_awakeD_vc ) ?_
    delta tU2 tU3 tU4 tU5 tU6 tU8 dJ dQ
    simp only [true_and,and_true,RV.d.injEq,RV.agg.injEq,RV.tup.injEq,DV.bool.injEq,DV.int.injEq,DV.sl.injEq,List.cons.injEq,forall_const,Bool.not_false,Bool.not_true,Bool.not_eq_true',Bool.not_eq_false',decide_eq_true_eq,decide_eq_false_iff_not,Int.toNat_natCast,imQ,imQr,imC,oqQ,oqQr,oqC,oqD,pxQ,pxQr,pxC,pxD]
    have e:=script_Encode_ans tinyS (fun m hm=>by cases hm) (Nat.zero_le _)
    have d:=script_Decode_ans []
    have hn:¬ decOk []:=fun h=>by
      have:=h.2.1.1.1.1.1.1
      simp at this
    unfold scrD at d
    rw [(dec_no hn).1,(dec_no hn).2] at d
    have hS:(⟨8,⟨0,0,1,1⟩,1,1,ints [],toIms [],toOps []⟩:Scr)=tinyS:=rfl
    have hn0:ints ([]:List DV)=[]:=rfl
    simp only [hS]
    simp only [hn0,(dec_no hn).1,(dec_no hn).2]
    refine ⟨e,d,?_⟩
    simp only [tiny_enc]
    have t2:List.take ((2 - 0:Int).toNat*1) (List.drop (Int.toNat 0*1) (u8s [76,67,8,0,0,0,0,0,0,0,0,0,0,0,1,0,0,0,1,0,0,0,1,0,0,0,1,0,0,0,0,0,0,0]))=[DV.int .u8 76,DV.int .u8 67]:=rfl
    have sD:strD [DV.int .u8 76,DV.int .u8 67]=⟨#[76,67]⟩:=rfl
    simp only [t2,sD]
    exact ⟨fun _=>⟨fun _=>⟨⟨by decide,by decide,by decide⟩,⟨rfl,⟨_,rfl⟩,⟨_,rfl⟩,trivial⟩,fun _=>rfl,fun h=>absurd h (by rw [beq_self_eq_true]; decide)⟩,fun h=>absurd h (by decide)⟩,fun h=>absurd h (by decide)⟩
end Go.Proofs.Ytlnfgagmiogkgaa
namespace Go.Proofs.Ytlnfgagmiogkgaa
open Go.RowKit
set_option linter.unusedVariables false
set_option linter.unusedSimpArgs false
theorem pxIn_of {p:Px} {most:Int} (h:p.fine most) (hm:most≤65535):pxIn p:=by
  obtain ⟨h1,h2,h3,h4,h5⟩:=h
  simp [Px.ok] at h1
  exact ⟨by omega,by omega,by omega,by omega,by omega⟩
theorem imIn_of {m:Im} (hf:m.formed=true) (hp:∀ p∈m.pixels,pxIn p):imIn m:=by
  refine ⟨hf,?_,hp⟩
  by_cases hs:m.so=true
  · have:=Im.count_pos hf
    refine hp _ ?_
    rw [Im.pixels_so hf hs]
    exact List.mem_replicate.2 ⟨by omega,rfl⟩
  · rw [(Im.inner_planes (Im.formed_of hf).2 (by simpa using hs)).1]
    exact ⟨⟨by decide,by decide⟩,⟨by decide,by decide⟩,⟨by decide,by decide⟩,⟨by decide,by decide⟩,⟨by decide,by decide⟩⟩
theorem Scn.ims_in (s:Scn):∀ m∈s.ims,imIn m:=by
  have hq:1≤s.c.c - s.c.a∧s.c.c - s.c.a≤100∧1≤s.c.d - s.c.b∧s.c.d - s.c.b≤100:=by have:=s.facts; have CF:=s.c_facts; omega
  have hm:0≤s.most∧s.most≤65535:=by rcases s.most_in with h | h <;> rw [h] <;> omega
  intro m hmem
  refine imIn_of (s.fine m hmem).1 fun p hp=>pxIn_of (most:=s.most) ?_ hm.2
  unfold Scn.ims at hmem
  split at hmem
  · rw [List.mem_singleton] at hmem
    subst hmem
    have F:=s.facts
    have hf:fitsP s.gw s.gh=true:=by
      have:=Int.mul_le_mul F.2.2.1.2 F.2.2.2.1.2 (by omega) (by omega)
      simp [fitsP]; omega
    change p∈(solidIm s.gw s.gh ⟨s.most,0,0,s.most,s.most⟩).pixels at hp
    rw [Im.pixels_of (solidIm_formed _ hf),Im.list,List.mem_map] at hp
    obtain ⟨k,_,rfl⟩:=hp
    have e:(solidIm s.gw s.gh ⟨s.most,0,0,s.most,s.most⟩).nth k=⟨s.most,0,0,s.most,s.most⟩:=by simp [Im.nth,Im.px,solidIm]
    change ((solidIm s.gw s.gh ⟨s.most,0,0,s.most,s.most⟩).nth k).fine s.most
    rw [e]
    exact ⟨by simp [Px.ok]; omega,by simp only; omega,by simp only; omega,by simp only; omega,by simp only; omega⟩
  · simp only [Scn.pics,List.mem_map] at hmem
    obtain ⟨k,_,rfl⟩:=hmem
    exact gImage_fine _ _ _ _ _ _ _ _ _ _ hm.1 hm.2 hq p hp
theorem gOp_opac (r:Rw) (push:Bool) (n:Int) (c:Rc) (free:Bool) {most:Int} (h0:0≤most) (h1:most≤65535):0≤(gOp r push n c free most).opac∧(gOp r push n c free most).opac≤65535:=by
  unfold gOp
  simp only
  split
  · have:=gSample_in (IntKind.wrap .i64 (Int.tdiv r.op 2)) h0 h1
    omega
  · omega
theorem Scn.run_opac (s:Scn):∀ k,∀ o∈(s.run k).1,0≤o.opac∧o.opac≤65535
  | 0,o,ho=>by cases ho
  | k+1,o,ho=>by
    have hm:0≤s.most∧s.most≤65535:=by rcases s.most_in with h | h <;> rw [h] <;> omega
    have ih:=s.run_opac k
    have ho:o∈(s.step (rwAt s.rxs (k*11)) (s.run k)).1:=ho
    unfold Scn.step at ho
    split at ho
    · rcases List.mem_append.1 ho with h | h
      · exact ih o h
      · rw [List.mem_singleton] at h
        subst h
        exact ⟨by decide,by decide⟩
    · rcases List.mem_append.1 ho with h | h
      · exact ih o h
      · rw [List.mem_singleton] at h
        subst h
        exact gOp_opac _ _ _ _ _ hm.1 hm.2
theorem Scn.ops_opac (s:Scn):∀ o∈s.ops,0≤o.opac∧o.opac≤65535:=fun o ho=>by
  rcases List.mem_append.1 (show o∈(s.run (min s.rn 9)).1++List.replicate (s.run (min s.rn 9)).2.length popO from ho) with h | h
  · exact s.run_opac _ o h
  · rw [List.eq_of_mem_replicate h]
    exact ⟨by decide,by decide⟩
def Scn.scr (s:Scn):Scr:=⟨s.bits,s.c,s.gtw,s.gth,s.ord,s.ims,s.ops⟩
theorem Scn.inR (s:Scn):s.scr.inR:=by
  have li:=s.ims_len
  have hol:=s.ops_len
  exact ⟨s.enc (ms:=s.ims) (os:=s.ops) (by omega) (fun m hm=>⟨(s.fine m hm).1,(s.fine m hm).2.1⟩) (by omega) s.ops_fit,s.ims_in,s.ops_opac⟩
theorem isB_app {l m:List Int} (h:isB l) (h2:isB m):isB (l++m):=fun v hv=>(List.mem_append.1 hv).elim (h v) (h2 v)
theorem byI_in (v:Int) (i:Nat):0≤byI v i∧byI v i≤255:=by
  have w:∀ x:Int,IntKind.wrap .u8 x=x % 256:=fun x=>by simp [IntKind.wrap,IntKind.bits,IntKind.signed]
  unfold byI
  rw [w]
  omega
theorem isB_beI (v:Int):∀ n,isB (beI n v)
  | 0=>fun _ h=>by cases h
  | n+1=>fun u hu=>by
    rcases List.mem_cons.1 (show u∈byI v n::beI n v from hu) with rfl | hu
    · exact byI_in v n
    · exact isB_beI v n u hu
theorem isB_flat {α:Type} {f:α→List Int} (h:∀ a,isB (f a)) (l:List α):isB (l.flatMap f):=fun v hv=>by
  obtain ⟨a,_,h2⟩:=List.mem_flatMap.1 hv
  exact h a v h2
theorem isB_putL (n:Nat) (l:List Int):isB (putL n l):=isB_flat (fun v=>isB_beI v n) l
theorem isB_pxB (p:Px):isB (pxB p):=isB_putL _ _
theorem isB_imB (m:Im):isB (imB_ m):=by
  unfold imB_
  split
  · exact isB_app (isB_app (isB_putL _ _) (isB_putL _ _)) (isB_pxB _)
  · exact isB_app (isB_app (isB_putL _ _) (isB_putL _ _)) (isB_flat isB_pxB _)
theorem isB_opB (o:Oq):isB (opB o):=by
  unfold opB
  exact isB_app (isB_app (isB_app (isB_app (isB_app (isB_putL _ _) (isB_putL _ _)) (isB_putL _ _)) (isB_putL _ _)) (isB_putL _ _)) (isB_putL _ _)
theorem isB_encB (s:Scr):isB (encB s):=by
  unfold encB
  refine isB_app (isB_app (isB_app (isB_app (isB_app (isB_app (isB_app ?_ (isB_putL _ _)) (isB_putL _ _)) (isB_putL _ _)) (isB_putL _ _)) (isB_flat isB_imB _)) (isB_putL _ _)) (isB_flat isB_opB _)
  intro v hv
  simp only [List.mem_cons,List.not_mem_nil,or_false] at hv
  omega
def IsB8 (n:Nat) (xs:List DV):Prop:=xs=u8s (ints xs)∧n=xs.length
theorem isB8_of {n:Nat} {xs:List DV} (hn:xs.length=n) (hx:∀ (j:Nat) d,xs[j]?=some d→∃ v,d=.int .u8 v):IsB8 n xs:=by
  refine ⟨?_,hn.symm⟩
  clear hn
  induction xs with
  | nil=>rfl
  | cons x xs ih=>
    obtain ⟨v,rfl⟩:=hx 0 _ rfl
    have:=ih fun j d hj=>hx (j+1) d hj
    simp only [u8s,ints,List.map_cons] at this ⊢
    rw [← this]
end Go.Proofs.Ytlnfgagmiogkgaa
