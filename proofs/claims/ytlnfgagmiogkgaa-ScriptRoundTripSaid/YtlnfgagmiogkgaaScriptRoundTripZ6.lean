/-
  Part 6 of what ScriptRoundTrip rests on.
-/
import Derived.Test.YtlnfgagmiogkgaaScriptRoundTripZ5
import Derived.Test.YtlnfgagmiogkgaaScriptRoundTripZ4
import Derived.Test.YtlnfgagmiogkgaaScriptRoundTripZ2
import Derived.Test.YtlnfgagmiogkgaaScriptRoundTripZ3
import Derived.Test.YtlnfgagmiogkgaaRows
import Derived.JoinedOf
import Derived.KernelRfl
namespace Go.Proofs.Ytlnfgagmiogkgaa
open Go.RowKit
set_option linter.unusedVariables false
set_option linter.unusedSimpArgs false
theorem byI_val (v:Int):byI v 0=v % 256∧byI v 1=v / 256 % 256∧byI v 2=v / 65536 % 256∧byI v 3=v / 16777216 % 256:=by
  have w:∀ x:Int,IntKind.wrap .u8 x=x % 256:=fun x=>by simp [IntKind.wrap,IntKind.bits,IntKind.signed]
  have f:∀ d:Int,0≤d→Int.fdiv v d=v / d:=fun d h=>Int.fdiv_eq_ediv_of_nonneg v h
  have e0:(2:Int) ^ (8*0)=1:=by decide
  have e1:(2:Int) ^ (8*1)=256:=by decide
  have e2:(2:Int) ^ (8*2)=65536:=by decide
  have e3:(2:Int) ^ (8*3)=16777216:=by decide
  unfold byI
  rw [w,w,w,w,e0,e1,e2,e3,f _ (by decide),f _ (by decide),f _ (by decide),f _ (by decide),Int.ediv_one]
  exact ⟨rfl,rfl,rfl,rfl⟩
theorem be1 (v:Int):beI 1 v=[v % 256]:=by simp [beI,byI_val v]
theorem be2 (v:Int):beI 2 v=[v / 256 % 256,v % 256]:=by simp [beI,byI_val v]
theorem be4 (v:Int):beI 4 v=[v / 16777216 % 256,v / 65536 % 256,v / 256 % 256,v % 256]:=by simp [beI,byI_val v]
theorem tk1 (a:Int) (x:List Int):tkV 1 (a::x)=a:=by simp [tkV]
theorem tk2 (a b:Int) (x:List Int):tkV 2 (a::b::x)=a*256+b:=by simp [tkV]
theorem tk4 (a b c d:Int) (x:List Int):tkV 4 (a::b::c::d::x)=((a*256+b)*256+c)*256+d:=by simp [tkV]
theorem tk1_be {v:Int} (x:List Int) (h:0≤v∧v≤255):tkV 1 (beI 1 v++x)=v:=by
  rw [be1]; simp only [List.cons_append,List.nil_append,tk1]; omega
theorem tk2_be {v:Int} (x:List Int) (h:0≤v∧v≤65535):tkV 2 (beI 2 v++x)=v:=by
  rw [be2]; simp only [List.cons_append,List.nil_append,tk2]; omega
theorem tk4_mod (v:Int) (x:List Int):tkV 4 (beI 4 v++x)=v % 4294967296:=by
  rw [be4]; simp only [List.cons_append,List.nil_append,tk4]; omega
theorem tk4_be {v:Int} (x:List Int) (h:0≤v∧v≤4294967295):tkV 4 (beI 4 v++x)=v:=by
  rw [tk4_mod]; omega
theorem sg_val {u:Int} (h:0≤u∧u < 4294967296):IntKind.wrap .i64 (IntKind.wrap .i32 u)=if u < 2147483648 then u else u - 4294967296:=by
  have e:IntKind.wrap .i32 u=if u < 2147483648 then u else u - 4294967296:=by
    simp [IntKind.wrap,IntKind.bits,IntKind.signed]
    split <;> split <;> omega
  rw [e]
  split <;> exact IntWalk.i64_in _ ⟨by omega,by omega⟩
theorem sg4_be {v:Int} (x:List Int) (h : -2147483648≤v∧v≤2147483647):sgV (beI 4 v++x)=v:=by
  unfold sgV
  rw [tk4_mod,sg_val (by omega)]
  split <;> omega
theorem split1 {l:List Int} (h:isB l) (n:1≤l.length):l=beI 1 (tkV 1 l)++l.drop 1:=by
  match l,n with
  | a::x,_=>
    have ha:=h a (by simp)
    have e:a % 256=a:=by omega
    simp only [tk1,be1,e,List.drop_succ_cons,List.drop_zero,List.cons_append,List.nil_append]
theorem split2 {l:List Int} (h:isB l) (n:2≤l.length):l=beI 2 (tkV 2 l)++l.drop 2:=by
  match l,n with
  | a::b::x,_=>
    have ha:=h a (by simp)
    have hb:=h b (by simp)
    have e1:(a*256+b) / 256 % 256=a:=by omega
    have e2:(a*256+b) % 256=b:=by omega
    simp only [tk2,be2,e1,e2,List.drop_succ_cons,List.drop_zero,List.cons_append,List.nil_append]
theorem be4_mod {u v:Int} (h:u % 4294967296=v % 4294967296):beI 4 u=beI 4 v:=by
  rw [be4,be4]
  have e0:u % 256=v % 256:=by omega
  have e1:u / 256 % 256=v / 256 % 256:=by omega
  have e2:u / 65536 % 256=v / 65536 % 256:=by omega
  have e3:u / 16777216 % 256=v / 16777216 % 256:=by omega
  rw [e0,e1,e2,e3]
theorem split4 {l:List Int} (h:isB l) (n:4≤l.length):l=beI 4 (tkV 4 l)++l.drop 4:=by
  match l,n with
  | a::b::c::d::x,_=>
    have ha:=h a (by simp)
    have hb:=h b (by simp)
    have hc:=h c (by simp)
    have hd:=h d (by simp)
    have e1:(((a*256+b)*256+c)*256+d) / 16777216 % 256=a:=by omega
    have e2:(((a*256+b)*256+c)*256+d) / 65536 % 256=b:=by omega
    have e3:(((a*256+b)*256+c)*256+d) / 256 % 256=c:=by omega
    have e4:(((a*256+b)*256+c)*256+d) % 256=d:=by omega
    simp only [tk4,be4,e1,e2,e3,e4,List.drop_succ_cons,List.drop_zero,List.cons_append,List.nil_append]
theorem sgV_val {l:List Int} (h:isB l):sgV l=if tkV 4 l < 2147483648 then tkV 4 l else tkV 4 l - 4294967296:=by
  have:=tkV_all h 4
  have p4:(256:Int) ^ 4=4294967296:=by decide
  rw [p4] at this
  exact sg_val this
theorem sgV_in {l:List Int} (h:isB l) : -2147483648≤sgV l∧sgV l≤2147483647:=by
  have:=tkV_all h 4
  have p4:(256:Int) ^ 4=4294967296:=by decide
  rw [p4] at this
  rw [sgV_val h]
  split <;> omega
theorem splitS {l:List Int} (h:isB l) (n:4≤l.length):l=beI 4 (sgV l)++l.drop 4:=by
  have e:beI 4 (sgV l)=beI 4 (tkV 4 l):=be4_mod (by rw [sgV_val h]; split <;> omega)
  rw [e]
  exact split4 h n
theorem tk1_in {l:List Int} (h:isB l):0≤tkV 1 l∧tkV 1 l≤255:=by
  have:=tkV_all h 1
  have p:(256:Int) ^ 1=256:=by decide
  omega
theorem tk2_in {l:List Int} (h:isB l):0≤tkV 2 l∧tkV 2 l≤65535:=by
  have:=tkV_all h 2
  have p:(256:Int) ^ 2=65536:=by decide
  omega
theorem tk4_in {l:List Int} (h:isB l):0≤tkV 4 l∧tkV 4 l≤4294967295:=by
  have:=tkV_all h 4
  have p:(256:Int) ^ 4=4294967296:=by decide
  omega
theorem at1 {b:List Int} (hB:isB b) (d:Nat) (h:d+1≤b.length):b.drop d=beI 1 (tkV 1 (b.drop d))++b.drop (d+1):=by
  have:=split1 (hB.drop d) (by rw [List.length_drop]; omega)
  rwa [List.drop_drop] at this
theorem at2 {b:List Int} (hB:isB b) (d:Nat) (h:d+2≤b.length):b.drop d=beI 2 (tkV 2 (b.drop d))++b.drop (d+2):=by
  have:=split2 (hB.drop d) (by rw [List.length_drop]; omega)
  rwa [List.drop_drop] at this
theorem at4 {b:List Int} (hB:isB b) (d:Nat) (h:d+4≤b.length):b.drop d=beI 4 (tkV 4 (b.drop d))++b.drop (d+4):=by
  have:=split4 (hB.drop d) (by rw [List.length_drop]; omega)
  rwa [List.drop_drop] at this
theorem atG {b:List Int} (hB:isB b) (d:Nat) (h:d+4≤b.length):b.drop d=beI 4 (sgV (b.drop d))++b.drop (d+4):=by
  have:=splitS (hB.drop d) (by rw [List.length_drop]; omega)
  rwa [List.drop_drop] at this
theorem cong_app {a x y:List Int} (h:x=y):a++x=a++y:=by rw [h]
theorem px_written {l:List Int} (hB:isB l) (h:10≤l.length):l=pxB (rdPx l)++l.drop 10:=by
  simp only [pxB,putL,List.flatMap_cons,List.flatMap_nil,List.append_assoc,List.nil_append,rdPx]
  exact (at2 hB 0 (by omega)).trans (cong_app ((at2 hB 2 (by omega)).trans (cong_app ((at2 hB 4 (by omega)).trans (cong_app ((at2 hB 6 (by omega)).trans (cong_app (at2 hB 8 (by omega)))))))))
theorem flag_rd {l:List Int} (hB:isB l) (h:tkV 1 (l.drop 23)≤3):flagO (rdOp l)=tkV 1 (l.drop 23):=by
  have:=(tk1_in (hB.drop 23)).1
  unfold flagO rdOp
  simp only [decide_eq_true_eq]
  split <;> split <;> omega
theorem op_written {l:List Int} (hB:isB l) (h:opWhen l):l=opB (rdOp l)++l.drop 24:=by
  obtain ⟨h,hf⟩:=h
  have e:=flag_rd hB hf
  simp only [opB,putL,List.flatMap_cons,List.flatMap_nil,List.append_assoc,List.nil_append,e]
  simp only [rdOp]
  exact (at1 hB 0 (by omega)).trans (cong_app ((at1 hB 1 (by omega)).trans (cong_app ((atG hB 2 (by omega)).trans (cong_app ((atG hB 6 (by omega)).trans (cong_app ((at1 hB 10 (by omega)).trans (cong_app ((atG hB 11 (by omega)).trans (cong_app ((atG hB 15 (by omega)).trans (cong_app ((at2 hB 19 (by omega)).trans (cong_app ((at1 hB 21 (by omega)).trans (cong_app ((at1 hB 22 (by omega)).trans (cong_app (at1 hB 23 (by omega)))))))))))))))))))))
theorem rdPxs_succ (n:Nat) (l:List Int):rdPxs (n+1) l=rdPxs n l++[rdPx (l.drop (10*n))]:=by
  unfold rdPxs
  rw [List.range_succ,List.map_append]; rfl
theorem rdPxs_len (n:Nat) (l:List Int):(rdPxs n l).length=n:=by simp [rdPxs]
theorem pxs_written {l:List Int} (hB:isB l):∀ n,10*n≤l.length→l=(rdPxs n l).flatMap pxB++l.drop (10*n)
  | 0,_=>by simp [rdPxs]
  | n+1,h=>by
    have ih:=pxs_written hB n (by omega)
    have hp:=px_written (hB.drop (10*n)) (by rw [List.length_drop]; omega)
    rw [List.drop_drop] at hp
    rw [rdPxs_succ,List.flatMap_append,List.append_assoc]
    refine ih.trans (cong_app ?_)
    simp only [List.flatMap_cons,List.flatMap_nil,List.append_nil]
    exact hp
theorem rdIm_ok {l:List Int} (h:imWhen l):(rdIm l).formed=true∧(rdIm l).w=rdW l∧(rdIm l).h=rdH l∧(rdIm l).so=decide (tkV 1 l=1)∧(tkV 1 l=1→(rdIm l).c=rdPx (l.drop 9))∧(tkV 1 l≠1→(rdIm l).pixels=rdPxs (rdN l) (l.drop 9)):=by
  obtain ⟨⟨h1,h2,h3,h4,h5⟩,h6⟩:=h
  have hf:fitsP (rdW l) (rdH l)=true:=by simp only [fitsP,decide_eq_true h3,decide_eq_true h4,decide_eq_true h5]; rfl
  unfold rdIm
  split
  · rename_i hk
    exact ⟨solidIm_formed _ hf,rfl,rfl,(decide_eq_true hk).symm,fun _=>rfl,fun hn=>absurd hk hn⟩
  · rename_i hk
    have hpos:0 < rdW l*rdH l:=Int.mul_pos (by omega) (by omega)
    have hok:ofOk (rdW l) (rdH l) (rdPxs (rdN l) (l.drop 9)).length=true:=by
      unfold ofOk
      rw [hf,rdPxs_len,Bool.true_and,decide_eq_true_eq]
      unfold rdN
      omega
    have e:=imOf_ok hok
    obtain ⟨f1,f2⟩:=imOf_pixels hok
    refine ⟨f1,?_,?_,?_,fun hn=>absurd hn hk,fun _=>f2⟩
    · rw [e]; rfl
    · rw [e]; rfl
    · rw [e,decide_eq_false hk]; rfl
theorem im_written {l:List Int} (hB:isB l) (h:imWhen l):l=imB_ (rdIm l)++imRest l:=by
  obtain ⟨r1,r2,r3,r4,r5,r6⟩:=rdIm_ok h
  obtain ⟨⟨h1,h2,h3,h4,h5⟩,h6⟩:=h
  have t:=(tk1_in hB)
  unfold imB_ imRest
  rw [r2,r3,r4]
  by_cases hk:tkV 1 l=1
  · rw [if_pos hk] at h6 ⊢
    rw [if_pos (decide_eq_true hk),r5 hk]
    have hp:=px_written (hB.drop 9) (by rw [List.length_drop]; omega)
    rw [List.drop_drop] at hp
    have e0:=at1 hB 0 (by omega)
    rw [List.drop_zero,hk] at e0
    simp only [putL,List.flatMap_cons,List.flatMap_nil,List.append_assoc,List.nil_append,rdW,rdH]
    exact e0.trans (cong_app ((at4 hB 1 (by omega)).trans (cong_app ((at4 hB 5 (by omega)).trans (cong_app hp)))))
  · rw [if_neg hk] at h6 ⊢
    rw [if_neg (by simpa using hk),r6 hk]
    have hp:=pxs_written (hB.drop 9) (rdN l) (by rw [List.length_drop]; omega)
    rw [List.drop_drop] at hp
    have e0:=at1 hB 0 (by omega)
    rw [List.drop_zero,show tkV 1 l=0 by omega] at e0
    simp only [putL,List.flatMap_cons,List.flatMap_nil,List.append_assoc,List.nil_append]
    exact e0.trans (cong_app ((at4 hB 1 (by omega)).trans (cong_app ((at4 hB 5 (by omega)).trans (cong_app hp)))))
theorem ims_written {l:List Int} (hB:isB l):∀ n,(∀ i,i < n→imWhen (imsT l i).2)→l=(imsT l n).1.flatMap imB_++(imsT l n).2
  | 0,_=>rfl
  | n+1,h=>by
    have ih:=ims_written hB n fun i hi=>h i (by omega)
    have hp:=im_written (imsT_isB hB n) (h n (by omega))
    refine ih.trans ?_
    show _=((imsT l n).1++[rdIm (imsT l n).2]).flatMap imB_++imRest (imsT l n).2
    rw [List.flatMap_append,List.append_assoc]
    refine cong_app ?_
    simp only [List.flatMap_cons,List.flatMap_nil,List.append_nil]
    exact hp
theorem ops_written {l:List Int} (hB:isB l):∀ n,(∀ i,i < n→opWhen (l.drop (24*i)))→l=(opsL l n).flatMap opB++l.drop (24*n)
  | 0,_=>by simp [opsL]
  | n+1,h=>by
    have ih:=ops_written hB n fun i hi=>h i (by omega)
    have hp:=op_written (hB.drop (24*n)) (h n (by omega))
    rw [List.drop_drop] at hp
    rw [opsL_succ,List.flatMap_append,List.append_assoc]
    refine ih.trans (cong_app ?_)
    simp only [List.flatMap_cons,List.flatMap_nil,List.append_nil]
    exact hp
theorem ord_written {b:List Int} (hB:isB b):∀ n,31+4*n≤b.length→b.drop 31=putL 4 (ordL b n)++b.drop (31+4*n)
  | 0,_=>by simp [ordL,putL]
  | n+1,h=>by
    have ih:=ord_written hB n (by omega)
    have hp:=at4 hB (31+4*n) (by omega)
    rw [ordL_succ]
    unfold putL at ih ⊢
    rw [List.flatMap_append,List.append_assoc]
    refine ih.trans (cong_app ?_)
    simp only [List.flatMap_cons,List.flatMap_nil,List.append_nil]
    exact hp
theorem enc_parse {b:List Int} (hB:isB b) (h:parseOk b):encB (parseS b)=b:=by
  obtain ⟨⟨⟨⟨⟨h1,h2,h3⟩,h4,h5⟩,h6,h7⟩,h8,h9⟩,h10⟩:=h
  have c1:tkV 4 (b.drop 27)=(n1P b:Int):=by
    have:=tk4_in (hB.drop 27)
    unfold n1P; omega
  have hBA:isB (bAP b):=hB.drop _
  have hBB:isB (bBP b):=hBA.drop _
  have c2:tkV 1 (bAP b)=(n2P b:Int):=by
    have:=tk1_in hBA
    unfold n2P; omega
  have hBC:isB (bCP b):=imsT_isB hBB _
  have hBD:isB (bDP b):=hBC.drop _
  have c3:tkV 2 (bCP b)=(n3P b:Int):=by
    have:=tk2_in hBC
    unfold n3P; omega
  have hn:31+4*n1P b≤b.length:=by
    have h1:=h5.2
    rw [c1,List.length_drop] at h1
    omega
  have w7:=at4 hB 27 (by omega)
  rw [c1] at w7
  have wo:=ord_written hB (n1P b) hn
  have wA:=split1 hBA h6.1
  rw [c2] at wA
  have wB:=ims_written hBB (n2P b) h7
  have wC:=split2 hBC h8.1
  rw [c3] at wC
  have wD:=ops_written hBD (n3P b) h9
  rw [List.length_eq_zero_iff.1 h10,List.append_nil] at wD
  have e0:=at1 hB 0 (by omega)
  have e1:=at1 hB 1 (by omega)
  rw [List.drop_zero,h2] at e0
  rw [h3] at e1
  have b76:beI 1 76=[76]:=by decide
  have b67:beI 1 67=[67]:=by decide
  rw [b76] at e0
  rw [b67] at e1
  refine Eq.symm ?_
  unfold encB parseS
  simp only [putL,List.flatMap_cons,List.flatMap_nil,List.append_assoc,List.nil_append,ordL_len,imsT_len,opsL_len,List.cons_append]
  unfold putL at wo
  refine e0.trans (congrArg (76::·) (e1.trans (congrArg (67::·) ((at1 hB 2 (by omega)).trans (cong_app ((atG hB 3 (by omega)).trans (cong_app ((atG hB 7 (by omega)).trans (cong_app ((atG hB 11 (by omega)).trans (cong_app ((atG hB 15 (by omega)).trans (cong_app ((at4 hB 19 (by omega)).trans (cong_app ((at4 hB 23 (by omega)).trans (cong_app (w7.trans (cong_app (wo.trans (cong_app ?_)))))))))))))))))))))
  show bAP b=_
  refine wA.trans (cong_app ?_)
  show bBP b=_
  refine wB.trans (cong_app ?_)
  show bCP b=_
  exact wC.trans (cong_app wD)
theorem fitL_iff {lo hi:Int} {l:List Int}:fitL lo hi l=true↔∀ v∈l,lo≤v∧v≤hi:=by
  unfold fitL
  rw [List.all_eq_true]
  simp
theorem opOk_of {o:Oq} (h1:0≤o.kind∧o.kind≤255) (h2:0≤o.image∧o.image≤255) (h3:0≤o.mask∧o.mask≤255) (h4:0≤o.oper∧o.oper≤255) (h5:0≤o.mode∧o.mode≤255)
    (h6 : -2147483648≤o.x∧o.x≤2147483647) (h7 : -2147483648≤o.y∧o.y≤2147483647) (h8 : -2147483648≤o.mx∧o.mx≤2147483647) (h9 : -2147483648≤o.my∧o.my≤2147483647):opOk o=true:=by
  unfold opOk
  rw [Bool.and_eq_true,fitL_iff,fitL_iff]
  refine ⟨fun v hv=>?_,fun v hv=>?_⟩ <;> simp only [List.mem_cons,List.not_mem_nil,or_false] at hv
  · rcases hv with rfl | rfl | rfl | rfl | rfl <;> assumption
  · rcases hv with rfl | rfl | rfl | rfl <;> assumption
theorem near_of {v:Int} (h:nearB v=true) : -2147483648≤v∧v≤2147483647:=by
  unfold nearB at h
  have:=of_decide_eq_true h
  omega
theorem errO_opOk {bits:Int} {mn:Nat} {o:Oq} {st:List Oq} (h:errO bits mn o st=0) (hm:mn≤64):opOk o=true:=by
  unfold errO at h
  split at h
  · cases h
  rename_i k1
  split at h
  · cases h
  rename_i k2
  split at h
  · rename_i k3
    have:o=popO:=by
      unfold Oq.fields at k2
      rw [if_pos k3] at k2
      simpa using k2
    subst this
    decide
  rename_i k3
  split at h
  · cases h
  rename_i k4
  split at h
  · cases h
  rename_i k5
  split at h
  · cases h
  split at h
  · cases h
  rename_i k7
  split at h
  · cases h
  rename_i k8
  have k5:=Classical.not_not.1 k5
  have k7:=Classical.not_not.1 k7
  have k8:=Classical.not_not.1 k8
  have k1:=Classical.not_not.1 k1
  have hi:0≤o.image∧o.image≤255:=by
    rcases k1 with k1 | k1 | k1
    · omega
    · unfold Oq.fields at k2
      rw [if_neg k3] at k2
      have:o.image=0:=by
        by_cases hz:o.image=0
        · exact hz
        · exact absurd (by simp [k1,hz]) k2
      omega
    · exact absurd k1 k3
  exact opOk_of (by omega) hi (by omega) (by omega) (by omega) (near_of k5.1) (near_of k5.2.1) (near_of k5.2.2.1) (near_of k5.2.2.2)
theorem okO_all {bits:Int} {mn:Nat}:∀ {l st st':List Oq},okO bits mn l st=some st'→∀ o∈l,∃ s',errO bits mn o s'=0
  | a::l,st,st',h,o,ho=>by
    simp only [okO] at h
    split at h
    · rcases List.mem_cons.1 ho with rfl | ho
      · exact ⟨st,by assumption⟩
      · exact okO_all h o ho
    · cases h
theorem Scn.ops_fit (s:Scn):s.ops.all opOk=true:=by
  rw [List.all_eq_true]
  intro o ho
  obtain ⟨st,h⟩:=okO_all s.ops_ok o ho
  exact errO_opOk h (by have:=s.ims_len; omega)
theorem Scn.ord_fit (s:Scn):∀ v∈s.ord,0≤v∧v≤4294967295:=by
  intro v hv
  have ht:=s.tiles_in
  by_cases hl:(ints s.oxs).length=0
  · have:s.ord=[]:=by unfold Scn.ord permL; rw [if_pos (.inl hl)]
    rw [this] at hv; cases hv
  · have:=((permL_perm hl (by omega:s.tiles≤64)).mem_iff).1 hv
    simp only [upto,List.mem_map,List.mem_range] at this
    obtain ⟨i,hi,rfl⟩:=this
    show 0≤(i:Int)∧(i:Int)≤4294967295
    omega
theorem Scn.bits_fit (s:Scn):s.bits=8∨s.bits=16:=by
  have:=s.bits_of
  by_cases h:gMax s.b > 255
  · exact .inr (this.1 h).symm
  · exact .inl (this.2 h).symm
theorem sizeIms_small:∀ {l:List Im},(∀ m∈l,m.formed=true∧m.w≤100∧m.h≤100)→sizeIms l≤100009*(l.length:Int)
  | [],_=>by simp [sizeIms]
  | m::l,h=>by
    have h1:=h m (by simp)
    have h2:=sizeIms_small (l:=l) fun m hm=>h m (by simp [hm])
    have h3:=formed_w h1.1
    have h4:m.w*m.h≤10000:=by
      have:=Int.mul_le_mul_of_nonneg_left h1.2.2 (by omega:0≤m.w)
      omega
    have h5:sizeIm m≤100009:=by unfold sizeIm; split <;> omega
    simp only [sizeIms,List.length_cons]
    omega
theorem Scn.enc (s:Scn) {ms:List Im} {os:List Oq} (h1:ms.length≤64) (h2:∀ m∈ms,m.formed=true∧m.w≤100∧m.h≤100) (h3:os.length≤100) (h4:os.all opOk=true):encOk ⟨s.bits,s.c,s.gtw,s.gth,s.ord,ms,os⟩=true:=by
  obtain ⟨f1,f2,f3,f4,f5,f6⟩:=s.facts
  have CF:=s.c_facts
  have hb:=s.bits_fit
  have ho:=s.ord_len
  have hz:=sizeIms_small h2
  have g1:fitL 0 255 [s.bits]=true:=fitL_iff.2 fun v hv=>by
    simp only [List.mem_cons,List.not_mem_nil,or_false] at hv
    subst hv
    omega
  have g2:fitL (-2147483648) 2147483647 [s.c.a,s.c.b,s.c.c,s.c.d]=true:=fitL_iff.2 fun v hv=>by
    simp only [List.mem_cons,List.not_mem_nil,or_false] at hv
    rcases hv with rfl | rfl | rfl | rfl <;> omega
  have g3:fitL 0 4294967295 [s.gtw,s.gth]=true:=fitL_iff.2 fun v hv=>by
    simp only [List.mem_cons,List.not_mem_nil,or_false] at hv
    rcases hv with rfl | rfl <;> omega
  have g4:fitL 0 4294967295 s.ord=true:=fitL_iff.2 s.ord_fit
  have g5:ms.all Im.formed=true:=List.all_eq_true.2 fun m hm=>(h2 m hm).1
  simp only [encOk,encHd,g1,g2,g3,g4,g5,h4,sizeS,Bool.and_true,Bool.true_and,Bool.and_eq_true,decide_eq_true_eq]
  exact ⟨⟨h1,by omega⟩,decide_eq_true (by omega)⟩
theorem formed_of {m:Im} {most:Int} (h:m.valid most=0):m.formed=true:=by
  unfold Im.valid at h
  split at h
  · cases h
  split at h
  · cases h
  rename_i a b
  unfold Im.formed
  simp only [Bool.not_eq_false] at a b
  rw [a,b]; rfl
end Go.Proofs.Ytlnfgagmiogkgaa
namespace Go.Proofs.Ytlnfgagmiogkgaa
open Go.RowKit
set_option linter.unusedVariables false
set_option linter.unusedSimpArgs false
attribute [local irreducible] Ans AnsO AnsG AnsN AnsI
set_option maxRecDepth 4000
theorem oq_beq (o p:Oq):(o.kind==p.kind && (o.image==p.image && (o.x==p.x && (o.y==p.y && (o.mask==p.mask && (o.mx==p.mx && (o.my==p.my && (o.opac==p.opac && (o.oper==p.oper && (o.mode==p.mode && (o.iso==p.iso && (o.kno==p.kno && true))))))))))))=decide (o=p):=by
  obtain ⟨_,_,_,_,_,_,_,_,_,_,_,_⟩:=o
  obtain ⟨_,_,_,_,_,_,_,_,_,_,_,_⟩:=p
  rw [Bool.eq_iff_iff]
  simp only [Oq.mk.injEq,Bool.and_eq_true,beq_iff_eq,decide_eq_true_eq,and_true]
def eqI (m r:Im):Bool:=(m.so==r.so) && m.equal r
def imN (l:List Im) (i:Nat):Im:=l[i]?.getD (solidIm 0 0 .zero)
theorem imN_of {l:List Im} {i:Nat} (h:i < l.length):imN l i=l[i]:=by simp [imN,List.getElem?_eq_getElem h]
def eqTo (a b:List Im) (k:Nat):Bool:=(List.range k).all fun i=>eqI (imN a i) (imN b i)
def eqIms (a b:List Im):Bool:=decide (a.length=b.length) && eqTo a b a.length
def eqS (s t:Scr):Bool:=decide (s.bits=t.bits) && decide (s.c=t.c) && decide (s.tw=t.tw) && decide (s.th=t.th) && decide (s.ord=t.ord) && eqIms s.ims t.ims && decide (s.ops=t.ops)
theorem eqS_beq (s t:Scr):eqS s t=((s.bits==t.bits) && (s.c.a==t.c.a && (s.c.b==t.c.b && (s.c.c==t.c.c && (s.c.d==t.c.d && true)))) && (s.tw==t.tw) && (s.th==t.th) && decide (s.ord=t.ord) && eqIms s.ims t.ims && decide (s.ops=t.ops)):=by
  have h:decide (s.c=t.c)=(s.c.a==t.c.a && (s.c.b==t.c.b && (s.c.c==t.c.c && (s.c.d==t.c.d && true)))):=by
    obtain ⟨_,⟨_,_,_,_⟩,_,_,_,_,_⟩:=s
    obtain ⟨_,⟨_,_,_,_⟩,_,_,_,_,_⟩:=t
    rw [Bool.eq_iff_iff]
    simp only [Rc.mk.injEq,Bool.and_eq_true,beq_iff_eq,decide_eq_true_eq,and_true]
  unfold eqS
  rw [h]
  rfl
theorem tk_succ {α:Type} {a b:List α} {k:Nat} (h:k < a.length) (h2:k < b.length) (e:a.take k=b.take k) (ek:a[k]=b[k]):a.take (k+1)=b.take (k+1):=by
  rw [List.take_succ_eq_append_getElem h,List.take_succ_eq_append_getElem h2,e,ek]
theorem tk_ne {α:Type} {a b:List α} {k:Nat} (h:k < a.length) (h2:k < b.length) (hn:a[k]≠b[k]):a≠b:=by
  intro e; subst e; exact hn rfl
theorem tk_all {α:Type} {a b:List α} (he:a.length=b.length) (e:a.take a.length=b.take a.length):a=b:=by
  rw [List.take_length,he,List.take_length] at e
  exact e
theorem eqTo_succ {a b:List Im} {k:Nat} (h:k < a.length) (h2:k < b.length) (e:eqTo a b k=true) (ek:eqI a[k] b[k]=true):eqTo a b (k+1)=true:=by
  unfold eqTo at e ⊢
  rw [List.range_succ,List.all_append,e]
  simp [imN_of h,imN_of h2,ek]
theorem eqTo_bad {a b:List Im} {k:Nat} (h:k < a.length) (h2:k < b.length) (ek:eqI a[k] b[k]=false):eqTo a b a.length=false:=by
  unfold eqTo
  rw [List.all_eq_false]
  exact ⟨k,List.mem_range.2 h,by rw [imN_of h,imN_of h2,ek]; simp⟩
def gamEq:Gam where
 pure:=fun f xs=>
  if f=55 then (match xs with | [.d (.sl n xs),.d (.sl m ys)]=>some (RV.d (dQ (decide (ints (xs)=ints (ys))))) | _=>none) else
  if f=57 then (match xs with | [.d (.sl n xs),.d (.sl m ys)]=>some (RV.d (dQ (decide (toOps (xs)=toOps (ys))))) | _=>none) else
  if f=56 then (match xs with | [.d (.sl n xs),.d (.sl m ys),.d (.fn 53)]=>some (RV.d (dQ (eqIms (toIms (xs)) (toIms (ys))))) | _=>none) else
  if f=53 then (match xs with | [.agg [.int _ w,.int _ h,.bool so,.int _ c0,.int _ c1,.int _ c2,.int _ ca,.int _ cf,.int _ w0,.int _ h0,.int _ s0,.sl n0 xs0,.int _ w1,.int _ h1,.int _ s1,.sl n1 xs1,.int _ w2,.int _ h2,.int _ s2,.sl n2 xs2,.int _ w3,.int _ h3,.int _ s3,.sl n3 xs3,.int _ w4,.int _ h4,.int _ s4,.sl n4 xs4],.agg [.int _ wq,.int _ hq,.bool soq,.int _ c0q,.int _ c1q,.int _ c2q,.int _ caq,.int _ cfq,.int _ w0q,.int _ h0q,.int _ s0q,.sl n0q xs0q,.int _ w1q,.int _ h1q,.int _ s1q,.sl n1q xs1q,.int _ w2q,.int _ h2q,.int _ s2q,.sl n2q xs2q,.int _ w3q,.int _ h3q,.int _ s3q,.sl n3q xs3q,.int _ w4q,.int _ h4q,.int _ s4q,.sl n4q xs4q]]=>some (RV.d (dQ (eqI ⟨w,h,so,⟨c0,c1,c2,ca,cf⟩,⟨w0,h0,s0,n0,xs0⟩,⟨w1,h1,s1,n1,xs1⟩,⟨w2,h2,s2,n2,xs2⟩,⟨w3,h3,s3,n3,xs3⟩,⟨w4,h4,s4,n4,xs4⟩⟩ ⟨wq,hq,soq,⟨c0q,c1q,c2q,caq,cfq⟩,⟨w0q,h0q,s0q,n0q,xs0q⟩,⟨w1q,h1q,s1q,n1q,xs1q⟩,⟨w2q,h2q,s2q,n2q,xs2q⟩,⟨w3q,h3q,s3q,n3q,xs3q⟩,⟨w4q,h4q,s4q,n4q,xs4q⟩⟩))) | _=>none) else
  if f=50 then (match xs with | [.d (.sl n xs),.d (.sl m ys)]=>some (RV.d (dQ (decide (ints (xs)=ints (ys))))) | _=>none) else
  if f=51 then (match xs with | [.d (.sl n xs),.d (.sl m ys)]=>some (RV.d (dQ (decide (toOps (xs)=toOps (ys))))) | _=>none) else
  if f=54 then (match xs with | [.agg [.int _ w,.int _ h,.bool so,.int _ c0,.int _ c1,.int _ c2,.int _ ca,.int _ cf,.int _ w0,.int _ h0,.int _ s0,.sl n0 xs0,.int _ w1,.int _ h1,.int _ s1,.sl n1 xs1,.int _ w2,.int _ h2,.int _ s2,.sl n2 xs2,.int _ w3,.int _ h3,.int _ s3,.sl n3 xs3,.int _ w4,.int _ h4,.int _ s4,.sl n4 xs4],.agg [.int _ w',.int _ h',.bool so',.int _ c0',.int _ c1',.int _ c2',.int _ ca',.int _ cf',.int _ w0',.int _ h0',.int _ s0',.sl n0' xs0',.int _ w1',.int _ h1',.int _ s1',.sl n1' xs1',.int _ w2',.int _ h2',.int _ s2',.sl n2' xs2',.int _ w3',.int _ h3',.int _ s3',.sl n3' xs3',.int _ w4',.int _ h4',.int _ s4',.sl n4' xs4']]=>some (RV.d (dQ (Im.equal ⟨w,h,so,⟨c0,c1,c2,ca,cf⟩,⟨w0,h0,s0,n0,xs0⟩,⟨w1,h1,s1,n1,xs1⟩,⟨w2,h2,s2,n2,xs2⟩,⟨w3,h3,s3,n3,xs3⟩,⟨w4,h4,s4,n4,xs4⟩⟩ ⟨w',h',so',⟨c0',c1',c2',ca',cf'⟩,⟨w0',h0',s0',n0',xs0'⟩,⟨w1',h1',s1',n1',xs1'⟩,⟨w2',h2',s2',n2',xs2'⟩,⟨w3',h3',s3',n3',xs3'⟩,⟨w4',h4',s4',n4',xs4'⟩⟩))) | _=>none) else
  if f=52 then (match xs with | [.agg [.int _ w,.int _ h,.bool so,.int _ c0,.int _ c1,.int _ c2,.int _ ca,.int _ cf,.int _ w0,.int _ h0,.int _ s0,.sl n0 xs0,.int _ w1,.int _ h1,.int _ s1,.sl n1 xs1,.int _ w2,.int _ h2,.int _ s2,.sl n2 xs2,.int _ w3,.int _ h3,.int _ s3,.sl n3 xs3,.int _ w4,.int _ h4,.int _ s4,.sl n4 xs4],.agg [.int _ w',.int _ h',.bool so',.int _ c0',.int _ c1',.int _ c2',.int _ ca',.int _ cf',.int _ w0',.int _ h0',.int _ s0',.sl n0' xs0',.int _ w1',.int _ h1',.int _ s1',.sl n1' xs1',.int _ w2',.int _ h2',.int _ s2',.sl n2' xs2',.int _ w3',.int _ h3',.int _ s3',.sl n3' xs3',.int _ w4',.int _ h4',.int _ s4',.sl n4' xs4']]=>some (RV.d (dQ (Im.equal ⟨w,h,so,⟨c0,c1,c2,ca,cf⟩,⟨w0,h0,s0,n0,xs0⟩,⟨w1,h1,s1,n1,xs1⟩,⟨w2,h2,s2,n2,xs2⟩,⟨w3,h3,s3,n3,xs3⟩,⟨w4,h4,s4,n4,xs4⟩⟩ ⟨w',h',so',⟨c0',c1',c2',ca',cf'⟩,⟨w0',h0',s0',n0',xs0'⟩,⟨w1',h1',s1',n1',xs1'⟩,⟨w2',h2',s2',n2',xs2'⟩,⟨w3',h3',s3',n3',xs3'⟩,⟨w4',h4',s4',n4',xs4'⟩⟩))) | _=>none) else
  none
 modes:=fun f=>
  none
 proc:=fun f xs bs=>
  none
 iter:=fun f cs=>
  none
def slices_Equal_int_int_ann (a:List Int) (b:List Int):Ann:=(Ann.seq Ann.leaf (Ann.seq Ann.leaf (Ann.seq (Ann.seq Ann.leaf (Ann.loop ⟨Nat,fun k=>k≤a.length∧a.take k=b.take k,fun k=>⟨[(0,AV.one (Cl.d (DV.sl a.length (is a)))),(1,AV.one (Cl.d (DV.sl b.length (is b)))),(12,AV.one (cJ (((a.length:Nat):Int)))),(13,AV.one (cJ (((k:Nat):Int))))],[]⟩,fun k=>a.length - k⟩ fun k=>Ann.leaf)) Ann.leaf)))
theorem slices_Equal_int_int_vc (a:List Int) (b:List Int):vcg Try.prog gamEq 26 (bodyOf Try.f55) (slices_Equal_int_int_ann a b) kn0 (start [RV.d (DV.sl a.length (is a)),RV.d (DV.sl b.length (is b))]) (post Try.prog Try.f55.results.toList (·=RV.d (DV.bool (decide (ints (is a)=ints (is b)))))) =
  (let zz0:=(dQ (decide (ints (is a)=ints (is b)))); let zz1:=fun (k:Nat)=>(k≤a.length∧a.take k=b.take k); let zz2:=(DV.sl a.length (is a)=DV.sl a.length (is a)); let zz3:=(DV.sl b.length (is b)=DV.sl b.length (is b)); let zz4:=(dJ ((a.length:Nat):Int)=dJ ((a.length:Nat):Int)); tU6 ((((((a.length:Nat):Int) != ((b.length:Nat):Int))=true→True∧RV.d (dQ false)=RV.d zz0)∧((((a.length:Nat):Int) != ((b.length:Nat):Int))=false→tU3 (((∃ k:Nat,(zz1 k)∧((zz2∧zz3∧zz4∧(dJ 0=dJ ((k:Nat):Int))∧True)∧(True)))∧∀ k:Nat,(zz1 k)→True∧(((decide (((k:Nat):Int) < ((a.length:Nat):Int)))=true→tU4 ((0≤((k:Nat):Int)∧((k:Nat):Int) < ((a.length:Nat):Int)∧((k:Nat):Int).toNat*1 < (is a).length)∧(((is a)[((k:Nat):Int).toNat*1]?=some (dJ (nAt (is a) (((k:Nat):Int).toNat*1))))∧True)∧tU2 ((0≤((k:Nat):Int)∧((k:Nat):Int) < ((b.length:Nat):Int)∧((k:Nat):Int).toNat*1 < (is b).length)∧(((is b)[((k:Nat):Int).toNat*1]?=some (dJ (nAt (is b) (((k:Nat):Int).toNat*1))))∧True)∧True∧(true=true)∧((((nAt (is a) (((k:Nat):Int).toNat*1)) != (nAt (is b) (((k:Nat):Int).toNat*1)))=true→True∧RV.d (dQ false)=RV.d zz0)∧(((nAt (is a) (((k:Nat):Int).toNat*1)) != (nAt (is b) (((k:Nat):Int).toNat*1)))=false→tU2 (∃ k':Nat,(k'≤a.length∧a.take k'=b.take k')∧(a.length - k' < a.length - k)∧((zz2∧zz3∧zz4∧(dJ (wK (((k:Nat):Int)+(1:Int)))=dJ ((k':Nat):Int))∧True)∧(True))))))))∧((decide (((k:Nat):Int) < ((a.length:Nat):Int)))=false→True∧RV.d (dQ true)=RV.d zz0)))))))):=by kernel_rfl
theorem slices_Equal_int_int_ans (a:List Int) (b:List Int):Ans Try.prog 55 [RV.d (DV.sl a.length (is a)),RV.d (DV.sl b.length (is b))] (RV.d (DV.bool (decide (ints (is a)=ints (is b))))):=
  ans_of_vcg (Γ:=gamEq) (slices_Equal_int_int_ann a b) mixed_ Try.func55 rfl (Nat.le_of_ble_eq_true rfl) fun hwf=>by
    refine Eq.mpr (slices_Equal_int_int_vc a b) ?_
    delta tU2 tU3 tU4 tU6 dJ dQ wK
    simp only [true_and,and_true,RV.d.injEq,RV.agg.injEq,RV.tup.injEq,DV.bool.injEq,DV.int.injEq,DV.sl.injEq,List.cons.injEq,forall_const,Bool.not_false,Bool.not_true,Bool.not_eq_true',Bool.not_eq_false',decide_eq_true_eq,decide_eq_false_iff_not,Int.toNat_natCast,imQ,imQr,imC,oqQ,oqQr,oqC,oqD,pxQ,pxQr,pxC,pxD]
    have hil:a.length≤9223372036854775807∧b.length≤9223372036854775807:=by
      simp only [RV.wfs,RV.wf,DV.wf,maxLen] at hwf
      omega
    clear hwf
    simp only [ints_is]
    refine ⟨fun h=>?_,fun h=>⟨⟨0,⟨Nat.zero_le _,by simp⟩,rfl⟩,fun k hk=>⟨fun hlt=>?_,fun hge=>?_⟩⟩⟩
    · have h:a.length≠b.length:=by simp at h; omega
      exact (decide_eq_false (fun e=>h (congrArg List.length e))).symm
    · obtain ⟨k1,k2⟩:=hk
      have hl:a.length=b.length:=by simp at h; omega
      have ha:k < a.length:=by omega
      have hb:k < b.length:=by omega
      obtain ⟨q1,q2⟩:=is_rd ha
      obtain ⟨r1,r2⟩:=is_rd hb
      have w1:IntKind.wrap .i64 ((k:Int)+1)=((k+1:Nat):Int):=by rw [IntWalk.i64_in _ ⟨by omega,by omega⟩]; omega
      simp only [Nat.mul_one,q2,r2,w1]
      refine ⟨⟨by omega,by omega,by rw [is_length]; omega⟩,q1,⟨by omega,by omega,by rw [is_length]; omega⟩,r1,fun e=>?_,fun e=>⟨k+1,⟨by omega,tk_succ ha hb k2 (by simpa using e)⟩,by omega,rfl⟩⟩
      exact (decide_eq_false (tk_ne ha hb (by simpa using e))).symm
    · obtain ⟨k1,k2⟩:=hk
      have hl:a.length=b.length:=by simp at h; omega
      have:k=a.length:=by omega
      subst this
      exact (decide_eq_true (tk_all hl k2)).symm
def sl_EqualOps_ann (a:List Oq) (b:List Oq):Ann:=(Ann.seq Ann.leaf (Ann.seq Ann.leaf (Ann.seq (Ann.seq Ann.leaf (Ann.loop ⟨Nat,fun k=>k≤a.length∧a.take k=b.take k,fun k=>⟨[(0,AV.one (Cl.d (DV.sl a.length (ops a)))),(1,AV.one (Cl.d (DV.sl b.length (ops b)))),(12,AV.one (cJ (((a.length:Nat):Int)))),(13,AV.one (cJ (((k:Nat):Int))))],[]⟩,fun k=>a.length - k⟩ fun k=>Ann.leaf)) Ann.leaf)))
theorem sl_EqualOps_vc (a:List Oq) (b:List Oq):vcg Try.prog gamEq 26 (bodyOf Try.f57) (sl_EqualOps_ann a b) kn0 (start [RV.d (DV.sl a.length (ops a)),RV.d (DV.sl b.length (ops b))]) (post Try.prog Try.f57.results.toList (·=RV.d (DV.bool (decide (toOps (ops a)=toOps (ops b)))))) =
  (let zz0:=(dQ (decide (toOps (ops a)=toOps (ops b)))); let zz1:=fun (k:Nat)=>(k≤a.length∧a.take k=b.take k); let zz2:=(DV.sl a.length (ops a)=DV.sl a.length (ops a)); let zz3:=(DV.sl b.length (ops b)=DV.sl b.length (ops b)); let zz4:=(dJ ((a.length:Nat):Int)=dJ ((a.length:Nat):Int)); tU6 ((((((a.length:Nat):Int) != ((b.length:Nat):Int))=true→True∧RV.d (dQ false)=RV.d zz0)∧((((a.length:Nat):Int) != ((b.length:Nat):Int))=false→tU3 (((∃ k:Nat,(zz1 k)∧((zz2∧zz3∧zz4∧(dJ 0=dJ ((k:Nat):Int))∧True)∧(True)))∧∀ k:Nat,(zz1 k)→True∧(((decide (((k:Nat):Int) < ((a.length:Nat):Int)))=true→tU4 ((0≤((k:Nat):Int)∧((k:Nat):Int) < ((a.length:Nat):Int)∧((k:Nat):Int).toNat*12 < (ops a).length)∧((oqQr (ops a) (((k:Nat):Int).toNat*12)))∧tU2 ((0≤((k:Nat):Int)∧((k:Nat):Int) < ((b.length:Nat):Int)∧((k:Nat):Int).toNat*12 < (ops b).length)∧((oqQr (ops b) (((k:Nat):Int).toNat*12)))∧True∧(true=true)∧(((!(((nAt (ops a) (((k:Nat):Int).toNat*12))==(nAt (ops b) (((k:Nat):Int).toNat*12))) && (((nAt (ops a) (((k:Nat):Int).toNat*12+1))==(nAt (ops b) (((k:Nat):Int).toNat*12+1))) && (((nAt (ops a) (((k:Nat):Int).toNat*12+1+1))==(nAt (ops b) (((k:Nat):Int).toNat*12+1+1))) && (((nAt (ops a) (((k:Nat):Int).toNat*12+1+1+1))==(nAt (ops b) (((k:Nat):Int).toNat*12+1+1+1))) && (((nAt (ops a) (((k:Nat):Int).toNat*12+1+1+1+1))==(nAt (ops b) (((k:Nat):Int).toNat*12+1+1+1+1))) && (((nAt (ops a) (((k:Nat):Int).toNat*12+1+1+1+1+1))==(nAt (ops b) (((k:Nat):Int).toNat*12+1+1+1+1+1))) && (((nAt (ops a) (((k:Nat):Int).toNat*12+1+1+1+1+1+1))==(nAt (ops b) (((k:Nat):Int).toNat*12+1+1+1+1+1+1))) && (((nAt (ops a) (((k:Nat):Int).toNat*12+1+1+1+1+1+1+1))==(nAt (ops b) (((k:Nat):Int).toNat*12+1+1+1+1+1+1+1))) && (((nAt (ops a) (((k:Nat):Int).toNat*12+1+1+1+1+1+1+1+1))==(nAt (ops b) (((k:Nat):Int).toNat*12+1+1+1+1+1+1+1+1))) && (((nAt (ops a) (((k:Nat):Int).toNat*12+1+1+1+1+1+1+1+1+1))==(nAt (ops b) (((k:Nat):Int).toNat*12+1+1+1+1+1+1+1+1+1))) && (((bAt (ops a) (((k:Nat):Int).toNat*12+1+1+1+1+1+1+1+1+1+1))==(bAt (ops b) (((k:Nat):Int).toNat*12+1+1+1+1+1+1+1+1+1+1))) && (((bAt (ops a) (((k:Nat):Int).toNat*12+1+1+1+1+1+1+1+1+1+1+1))==(bAt (ops b) (((k:Nat):Int).toNat*12+1+1+1+1+1+1+1+1+1+1+1))) && true)))))))))))))=true→True∧RV.d (dQ false)=RV.d zz0)∧((!(((nAt (ops a) (((k:Nat):Int).toNat*12))==(nAt (ops b) (((k:Nat):Int).toNat*12))) && (((nAt (ops a) (((k:Nat):Int).toNat*12+1))==(nAt (ops b) (((k:Nat):Int).toNat*12+1))) && (((nAt (ops a) (((k:Nat):Int).toNat*12+1+1))==(nAt (ops b) (((k:Nat):Int).toNat*12+1+1))) && (((nAt (ops a) (((k:Nat):Int).toNat*12+1+1+1))==(nAt (ops b) (((k:Nat):Int).toNat*12+1+1+1))) && (((nAt (ops a) (((k:Nat):Int).toNat*12+1+1+1+1))==(nAt (ops b) (((k:Nat):Int).toNat*12+1+1+1+1))) && (((nAt (ops a) (((k:Nat):Int).toNat*12+1+1+1+1+1))==(nAt (ops b) (((k:Nat):Int).toNat*12+1+1+1+1+1))) && (((nAt (ops a) (((k:Nat):Int).toNat*12+1+1+1+1+1+1))==(nAt (ops b) (((k:Nat):Int).toNat*12+1+1+1+1+1+1))) && (((nAt (ops a) (((k:Nat):Int).toNat*12+1+1+1+1+1+1+1))==(nAt (ops b) (((k:Nat):Int).toNat*12+1+1+1+1+1+1+1))) && (((nAt (ops a) (((k:Nat):Int).toNat*12+1+1+1+1+1+1+1+1))==(nAt (ops b) (((k:Nat):Int).toNat*12+1+1+1+1+1+1+1+1))) && (((nAt (ops a) (((k:Nat):Int).toNat*12+1+1+1+1+1+1+1+1+1))==(nAt (ops b) (((k:Nat):Int).toNat*12+1+1+1+1+1+1+1+1+1))) && (((bAt (ops a) (((k:Nat):Int).toNat*12+1+1+1+1+1+1+1+1+1+1))==(bAt (ops b) (((k:Nat):Int).toNat*12+1+1+1+1+1+1+1+1+1+1))) && (((bAt (ops a) (((k:Nat):Int).toNat*12+1+1+1+1+1+1+1+1+1+1+1))==(bAt (ops b) (((k:Nat):Int).toNat*12+1+1+1+1+1+1+1+1+1+1+1))) && true)))))))))))))=false→tU2 (∃ k':Nat,(k'≤a.length∧a.take k'=b.take k')∧(a.length - k' < a.length - k)∧((zz2∧zz3∧zz4∧(dJ (wK (((k:Nat):Int)+(1:Int)))=dJ ((k':Nat):Int))∧True)∧(True))))))))∧((decide (((k:Nat):Int) < ((a.length:Nat):Int)))=false→True∧RV.d (dQ true)=RV.d zz0)))))))):=by kernel_rfl
theorem sl_EqualOps_ans (a:List Oq) (b:List Oq):Ans Try.prog 57 [RV.d (DV.sl a.length (ops a)),RV.d (DV.sl b.length (ops b))] (RV.d (DV.bool (decide (toOps (ops a)=toOps (ops b))))):=
  ans_of_vcg (Γ:=gamEq) (sl_EqualOps_ann a b) mixed_ Try.func57 rfl (Nat.le_of_ble_eq_true rfl) fun hwf=>by
    refine Eq.mpr (sl_EqualOps_vc a b) ?_
    delta tU2 tU3 tU4 tU6 dJ dQ wK
    simp only [true_and,and_true,RV.d.injEq,RV.agg.injEq,RV.tup.injEq,DV.bool.injEq,DV.int.injEq,DV.sl.injEq,List.cons.injEq,forall_const,Bool.not_false,Bool.not_true,Bool.not_eq_true',Bool.not_eq_false',decide_eq_true_eq,decide_eq_false_iff_not,Int.toNat_natCast,imQ,imQr,imC,oqQ,oqQr,oqC,oqD,pxQ,pxQr,pxC,pxD]
    have hil:a.length≤9223372036854775807∧b.length≤9223372036854775807:=by
      simp only [RV.wfs,RV.wf,DV.wf,maxLen] at hwf
      omega
    clear hwf
    simp only [toOps_ops]
    refine ⟨fun h=>?_,fun h=>⟨⟨0,⟨Nat.zero_le _,by simp⟩,rfl⟩,fun k hk=>⟨fun hlt=>?_,fun hge=>?_⟩⟩⟩
    · have h:a.length≠b.length:=by simp at h; omega
      exact (decide_eq_false (fun e=>h (congrArg List.length e))).symm
    · obtain ⟨k1,k2⟩:=hk
      have hl:a.length=b.length:=by simp at h; omega
      have ha:k < a.length:=by omega
      have hb:k < b.length:=by omega
      have q1:=ops_rd ha
      have q2:=ops_at ha
      have r1:=ops_rd hb
      have r2:=ops_at hb
      have w1:IntKind.wrap .i64 ((k:Int)+1)=((k+1:Nat):Int):=by rw [IntWalk.i64_in _ ⟨by omega,by omega⟩]; omega
      simp only [q2,r2,w1]
      simp only [oq_beq]
      refine ⟨⟨by omega,by omega,by rw [ops_length]; omega⟩,q1,⟨by omega,by omega,by rw [ops_length]; omega⟩,r1,fun e=>?_,fun e=>⟨k+1,⟨by omega,tk_succ ha hb k2 (by simpa using e)⟩,by omega,rfl⟩⟩
      exact (decide_eq_false (tk_ne ha hb (by simpa using e))).symm
    · obtain ⟨k1,k2⟩:=hk
      have hl:a.length=b.length:=by simp at h; omega
      have:k=a.length:=by omega
      subst this
      exact (decide_eq_true (tk_all hl k2)).symm
def R18_SameOps_ann (a:List Oq) (b:List Oq):Ann:=(Ann.seq Ann.leaf (Ann.seq Ann.leaf (Ann.seq (Ann.seq Ann.leaf (Ann.loop ⟨Nat,fun k=>k≤a.length∧a.take k=b.take k,fun k=>⟨[(0,AV.one (Cl.d (DV.sl a.length (ops a)))),(1,AV.one (Cl.d (DV.sl b.length (ops b)))),(5,AV.one (cJ (((k:Nat):Int))))],[]⟩,fun k=>a.length - k⟩ fun k=>Ann.leaf)) Ann.leaf)))
theorem R18_SameOps_vc (a:List Oq) (b:List Oq):vcg Try.prog gamEq 26 (bodyOf Try.f51) (R18_SameOps_ann a b) kn0 (start [RV.d (DV.sl a.length (ops a)),RV.d (DV.sl b.length (ops b))]) (post Try.prog Try.f51.results.toList (·=RV.d (DV.bool (decide (toOps (ops a)=toOps (ops b)))))) =
  (let zz0:=(dQ (decide (toOps (ops a)=toOps (ops b)))); let zz1:=fun (k:Nat)=>(k≤a.length∧a.take k=b.take k); let zz2:=(DV.sl a.length (ops a)=DV.sl a.length (ops a)); let zz3:=(DV.sl b.length (ops b)=DV.sl b.length (ops b)); tU6 ((((((a.length:Nat):Int) != ((b.length:Nat):Int))=true→True∧RV.d (dQ false)=RV.d zz0)∧((((a.length:Nat):Int) != ((b.length:Nat):Int))=false→True∧((∃ k:Nat,(zz1 k)∧((zz2∧zz3∧(dJ 0=dJ ((k:Nat):Int))∧True)∧(True)))∧∀ k:Nat,(zz1 k)→tU4 ((((decide (((k:Nat):Int) < ((a.length:Nat):Int)))=true→tU2 ((0≤((k:Nat):Int)∧((k:Nat):Int) < ((a.length:Nat):Int)∧((k:Nat):Int).toNat*12 < (ops a).length)∧((oqQr (ops a) (((k:Nat):Int).toNat*12)))∧tU2 ((0≤((k:Nat):Int)∧((k:Nat):Int) < ((b.length:Nat):Int)∧((k:Nat):Int).toNat*12 < (ops b).length)∧((oqQr (ops b) (((k:Nat):Int).toNat*12)))∧True∧(true=true)∧(((!(((nAt (ops a) (((k:Nat):Int).toNat*12))==(nAt (ops b) (((k:Nat):Int).toNat*12))) && (((nAt (ops a) (((k:Nat):Int).toNat*12+1))==(nAt (ops b) (((k:Nat):Int).toNat*12+1))) && (((nAt (ops a) (((k:Nat):Int).toNat*12+1+1))==(nAt (ops b) (((k:Nat):Int).toNat*12+1+1))) && (((nAt (ops a) (((k:Nat):Int).toNat*12+1+1+1))==(nAt (ops b) (((k:Nat):Int).toNat*12+1+1+1))) && (((nAt (ops a) (((k:Nat):Int).toNat*12+1+1+1+1))==(nAt (ops b) (((k:Nat):Int).toNat*12+1+1+1+1))) && (((nAt (ops a) (((k:Nat):Int).toNat*12+1+1+1+1+1))==(nAt (ops b) (((k:Nat):Int).toNat*12+1+1+1+1+1))) && (((nAt (ops a) (((k:Nat):Int).toNat*12+1+1+1+1+1+1))==(nAt (ops b) (((k:Nat):Int).toNat*12+1+1+1+1+1+1))) && (((nAt (ops a) (((k:Nat):Int).toNat*12+1+1+1+1+1+1+1))==(nAt (ops b) (((k:Nat):Int).toNat*12+1+1+1+1+1+1+1))) && (((nAt (ops a) (((k:Nat):Int).toNat*12+1+1+1+1+1+1+1+1))==(nAt (ops b) (((k:Nat):Int).toNat*12+1+1+1+1+1+1+1+1))) && (((nAt (ops a) (((k:Nat):Int).toNat*12+1+1+1+1+1+1+1+1+1))==(nAt (ops b) (((k:Nat):Int).toNat*12+1+1+1+1+1+1+1+1+1))) && (((bAt (ops a) (((k:Nat):Int).toNat*12+1+1+1+1+1+1+1+1+1+1))==(bAt (ops b) (((k:Nat):Int).toNat*12+1+1+1+1+1+1+1+1+1+1))) && (((bAt (ops a) (((k:Nat):Int).toNat*12+1+1+1+1+1+1+1+1+1+1+1))==(bAt (ops b) (((k:Nat):Int).toNat*12+1+1+1+1+1+1+1+1+1+1+1))) && true)))))))))))))=true→True∧RV.d (dQ false)=RV.d zz0)∧((!(((nAt (ops a) (((k:Nat):Int).toNat*12))==(nAt (ops b) (((k:Nat):Int).toNat*12))) && (((nAt (ops a) (((k:Nat):Int).toNat*12+1))==(nAt (ops b) (((k:Nat):Int).toNat*12+1))) && (((nAt (ops a) (((k:Nat):Int).toNat*12+1+1))==(nAt (ops b) (((k:Nat):Int).toNat*12+1+1))) && (((nAt (ops a) (((k:Nat):Int).toNat*12+1+1+1))==(nAt (ops b) (((k:Nat):Int).toNat*12+1+1+1))) && (((nAt (ops a) (((k:Nat):Int).toNat*12+1+1+1+1))==(nAt (ops b) (((k:Nat):Int).toNat*12+1+1+1+1))) && (((nAt (ops a) (((k:Nat):Int).toNat*12+1+1+1+1+1))==(nAt (ops b) (((k:Nat):Int).toNat*12+1+1+1+1+1))) && (((nAt (ops a) (((k:Nat):Int).toNat*12+1+1+1+1+1+1))==(nAt (ops b) (((k:Nat):Int).toNat*12+1+1+1+1+1+1))) && (((nAt (ops a) (((k:Nat):Int).toNat*12+1+1+1+1+1+1+1))==(nAt (ops b) (((k:Nat):Int).toNat*12+1+1+1+1+1+1+1))) && (((nAt (ops a) (((k:Nat):Int).toNat*12+1+1+1+1+1+1+1+1))==(nAt (ops b) (((k:Nat):Int).toNat*12+1+1+1+1+1+1+1+1))) && (((nAt (ops a) (((k:Nat):Int).toNat*12+1+1+1+1+1+1+1+1+1))==(nAt (ops b) (((k:Nat):Int).toNat*12+1+1+1+1+1+1+1+1+1))) && (((bAt (ops a) (((k:Nat):Int).toNat*12+1+1+1+1+1+1+1+1+1+1))==(bAt (ops b) (((k:Nat):Int).toNat*12+1+1+1+1+1+1+1+1+1+1))) && (((bAt (ops a) (((k:Nat):Int).toNat*12+1+1+1+1+1+1+1+1+1+1+1))==(bAt (ops b) (((k:Nat):Int).toNat*12+1+1+1+1+1+1+1+1+1+1+1))) && true)))))))))))))=false→tU3 (∃ k':Nat,(k'≤a.length∧a.take k'=b.take k')∧(a.length - k' < a.length - k)∧((zz2∧zz3∧(dJ (wK (((k:Nat):Int)+(1:Int)))=dJ ((k':Nat):Int))∧True)∧(True))))))))∧((decide (((k:Nat):Int) < ((a.length:Nat):Int)))=false→True∧RV.d (dQ true)=RV.d zz0)))))))):=by kernel_rfl
theorem R18_SameOps_ans (a:List Oq) (b:List Oq):Ans Try.prog 51 [RV.d (DV.sl a.length (ops a)),RV.d (DV.sl b.length (ops b))] (RV.d (DV.bool (decide (toOps (ops a)=toOps (ops b))))):=
  ans_of_vcg (Γ:=gamEq) (R18_SameOps_ann a b) mixed_ Try.func51 rfl (Nat.le_of_ble_eq_true rfl) fun hwf=>by
    refine Eq.mpr (R18_SameOps_vc a b) ?_
    delta tU2 tU3 tU4 tU6 dJ dQ wK
    simp only [true_and,and_true,RV.d.injEq,RV.agg.injEq,RV.tup.injEq,DV.bool.injEq,DV.int.injEq,DV.sl.injEq,List.cons.injEq,forall_const,Bool.not_false,Bool.not_true,Bool.not_eq_true',Bool.not_eq_false',decide_eq_true_eq,decide_eq_false_iff_not,Int.toNat_natCast,imQ,imQr,imC,oqQ,oqQr,oqC,oqD,pxQ,pxQr,pxC,pxD]
    have hil:a.length≤9223372036854775807∧b.length≤9223372036854775807:=by
      simp only [RV.wfs,RV.wf,DV.wf,maxLen] at hwf
      omega
    clear hwf
    simp only [toOps_ops]
    refine ⟨fun h=>?_,fun h=>⟨⟨0,⟨Nat.zero_le _,by simp⟩,rfl⟩,fun k hk=>⟨fun hlt=>?_,fun hge=>?_⟩⟩⟩
    · have h:a.length≠b.length:=by simp at h; omega
      exact (decide_eq_false (fun e=>h (congrArg List.length e))).symm
    · obtain ⟨k1,k2⟩:=hk
      have hl:a.length=b.length:=by simp at h; omega
      have ha:k < a.length:=by omega
      have hb:k < b.length:=by omega
      have q1:=ops_rd ha
      have q2:=ops_at ha
      have r1:=ops_rd hb
      have r2:=ops_at hb
      have w1:IntKind.wrap .i64 ((k:Int)+1)=((k+1:Nat):Int):=by rw [IntWalk.i64_in _ ⟨by omega,by omega⟩]; omega
      simp only [q2,r2,w1]
      simp only [oq_beq]
      refine ⟨⟨by omega,by omega,by rw [ops_length]; omega⟩,q1,⟨by omega,by omega,by rw [ops_length]; omega⟩,r1,fun e=>?_,fun e=>⟨k+1,⟨by omega,tk_succ ha hb k2 (by simpa using e)⟩,by omega,rfl⟩⟩
      exact (decide_eq_false (tk_ne ha hb (by simpa using e))).symm
    · obtain ⟨k1,k2⟩:=hk
      have hl:a.length=b.length:=by simp at h; omega
      have:k=a.length:=by omega
      subst this
      exact (decide_eq_true (tk_all hl k2)).symm
def script_Equal_1_ann (m:Im) (r:Im):Ann:=Ann.leaf
theorem script_Equal_1_vc (m:Im) (r:Im):vcg Try.prog gamEq 15 (bodyOf Try.f53) (script_Equal_1_ann m r) kn0 (start [RV.agg [DV.int .i64 m.w,DV.int .i64 m.h,DV.bool m.so,DV.int .u16 m.c.a,DV.int .u16 m.c.b,DV.int .u16 m.c.c,DV.int .u16 m.c.al,DV.int .u16 m.c.f,DV.int .i64 m.p0.w,DV.int .i64 m.p0.h,DV.int .i64 m.p0.s,DV.sl m.p0.n m.p0.xs,DV.int .i64 m.p1.w,DV.int .i64 m.p1.h,DV.int .i64 m.p1.s,DV.sl m.p1.n m.p1.xs,DV.int .i64 m.p2.w,DV.int .i64 m.p2.h,DV.int .i64 m.p2.s,DV.sl m.p2.n m.p2.xs,DV.int .i64 m.p3.w,DV.int .i64 m.p3.h,DV.int .i64 m.p3.s,DV.sl m.p3.n m.p3.xs,DV.int .i64 m.p4.w,DV.int .i64 m.p4.h,DV.int .i64 m.p4.s,DV.sl m.p4.n m.p4.xs],RV.agg [DV.int .i64 r.w,DV.int .i64 r.h,DV.bool r.so,DV.int .u16 r.c.a,DV.int .u16 r.c.b,DV.int .u16 r.c.c,DV.int .u16 r.c.al,DV.int .u16 r.c.f,DV.int .i64 r.p0.w,DV.int .i64 r.p0.h,DV.int .i64 r.p0.s,DV.sl r.p0.n r.p0.xs,DV.int .i64 r.p1.w,DV.int .i64 r.p1.h,DV.int .i64 r.p1.s,DV.sl r.p1.n r.p1.xs,DV.int .i64 r.p2.w,DV.int .i64 r.p2.h,DV.int .i64 r.p2.s,DV.sl r.p2.n r.p2.xs,DV.int .i64 r.p3.w,DV.int .i64 r.p3.h,DV.int .i64 r.p3.s,DV.sl r.p3.n r.p3.xs,DV.int .i64 r.p4.w,DV.int .i64 r.p4.h,DV.int .i64 r.p4.s,DV.sl r.p4.n r.p4.xs]]) (post Try.prog Try.f53.results.toList (·=RV.d (DV.bool (eqI m r)))) =
  (True∧tU8 ((((m.so==r.so)=true→tU2 ((Ans Try.prog 54 [(imR (m)),(imR (r))] (RV.d (dQ (Im.equal m r))))∧tU2 (RV.d (dQ (Im.equal m r))=RV.d (dQ (eqI m r)))))∧((m.so==r.so)=(!true)→tU2 (RV.d (dQ false)=RV.d (dQ (eqI m r))))))):=by kernel_rfl
theorem script_Equal_1_ans (m:Im) (r:Im) (hu:m.isU) (hv:r.isU):Ans Try.prog 53 [RV.agg [DV.int .i64 m.w,DV.int .i64 m.h,DV.bool m.so,DV.int .u16 m.c.a,DV.int .u16 m.c.b,DV.int .u16 m.c.c,DV.int .u16 m.c.al,DV.int .u16 m.c.f,DV.int .i64 m.p0.w,DV.int .i64 m.p0.h,DV.int .i64 m.p0.s,DV.sl m.p0.n m.p0.xs,DV.int .i64 m.p1.w,DV.int .i64 m.p1.h,DV.int .i64 m.p1.s,DV.sl m.p1.n m.p1.xs,DV.int .i64 m.p2.w,DV.int .i64 m.p2.h,DV.int .i64 m.p2.s,DV.sl m.p2.n m.p2.xs,DV.int .i64 m.p3.w,DV.int .i64 m.p3.h,DV.int .i64 m.p3.s,DV.sl m.p3.n m.p3.xs,DV.int .i64 m.p4.w,DV.int .i64 m.p4.h,DV.int .i64 m.p4.s,DV.sl m.p4.n m.p4.xs],RV.agg [DV.int .i64 r.w,DV.int .i64 r.h,DV.bool r.so,DV.int .u16 r.c.a,DV.int .u16 r.c.b,DV.int .u16 r.c.c,DV.int .u16 r.c.al,DV.int .u16 r.c.f,DV.int .i64 r.p0.w,DV.int .i64 r.p0.h,DV.int .i64 r.p0.s,DV.sl r.p0.n r.p0.xs,DV.int .i64 r.p1.w,DV.int .i64 r.p1.h,DV.int .i64 r.p1.s,DV.sl r.p1.n r.p1.xs,DV.int .i64 r.p2.w,DV.int .i64 r.p2.h,DV.int .i64 r.p2.s,DV.sl r.p2.n r.p2.xs,DV.int .i64 r.p3.w,DV.int .i64 r.p3.h,DV.int .i64 r.p3.s,DV.sl r.p3.n r.p3.xs,DV.int .i64 r.p4.w,DV.int .i64 r.p4.h,DV.int .i64 r.p4.s,DV.sl r.p4.n r.p4.xs]] (RV.d (DV.bool (eqI m r))):=
  ans_of_vcg (Γ:=gamEq) (script_Equal_1_ann m r) mixed_ Try.func53 rfl (Nat.le_of_ble_eq_true rfl) fun hwf=>by
    refine Eq.mpr (script_Equal_1_vc m r) ?_
    delta tU2 tU8 dQ
    simp only [true_and,and_true,RV.d.injEq,RV.agg.injEq,RV.tup.injEq,DV.bool.injEq,DV.int.injEq,DV.sl.injEq,List.cons.injEq,forall_const,Bool.not_false,Bool.not_true,Bool.not_eq_true',Bool.not_eq_false',decide_eq_true_eq,decide_eq_false_iff_not,Int.toNat_natCast,imQ,imQr,imC,oqQ,oqQr,oqC,oqD,pxQ,pxQr,pxC,pxD]
    have:=image_Equal_im m r hu hv
    refine ⟨fun h=>⟨this,?_⟩,fun h=>?_⟩
    · unfold eqI; rw [h]; rfl
    · unfold eqI; rw [h]; rfl
def sl_EqualFuncIms_ann (a:List Im) (b:List Im):Ann:=(Ann.seq Ann.leaf (Ann.seq Ann.leaf (Ann.seq (Ann.seq Ann.leaf (Ann.loop ⟨Nat,fun k=>k≤a.length∧eqTo a b k=true,fun k=>⟨[(1,AV.one (Cl.d (DV.sl b.length (ims b)))),(2,AV.one (Cl.d (DV.fn 53))),(15,AV.one (Cl.d (DV.sl a.length (ims a)))),(16,AV.one (cJ (((a.length:Nat):Int)))),(17,AV.one (cJ (((k:Nat):Int))))],[]⟩,fun k=>a.length - k⟩ fun k=>Ann.leaf)) Ann.leaf)))
theorem sl_EqualFuncIms_vc (a:List Im) (b:List Im):vcg Try.prog gamEq 32 (bodyOf Try.f56) (sl_EqualFuncIms_ann a b) kn0 (start [RV.d (DV.sl a.length (ims a)),RV.d (DV.sl b.length (ims b)),RV.d (DV.fn 53)]) (post Try.prog Try.f56.results.toList (·=RV.d (DV.bool (eqIms (toIms (ims a)) (toIms (ims b)))))) =
  (let zz0:=(dQ (eqIms (toIms (ims a)) (toIms (ims b)))); let zz1:=fun (k:Nat)=>(k≤a.length∧eqTo a b k=true); let zz2:=(DV.sl b.length (ims b)=DV.sl b.length (ims b)); let zz3:=(DV.fn 53=DV.fn 53); let zz4:=(DV.sl a.length (ims a)=DV.sl a.length (ims a)); let zz5:=(dJ ((a.length:Nat):Int)=dJ ((a.length:Nat):Int)); tU6 ((((((a.length:Nat):Int) != ((b.length:Nat):Int))=true→True∧RV.d (dQ false)=RV.d zz0)∧((((a.length:Nat):Int) != ((b.length:Nat):Int))=false→tU3 (((∃ k:Nat,(zz1 k)∧((zz2∧zz3∧zz4∧zz5∧(dJ 0=dJ ((k:Nat):Int))∧True)∧(True)))∧∀ k:Nat,(zz1 k)→True∧(((decide (((k:Nat):Int) < ((a.length:Nat):Int)))=true→True∧(0≤((k:Nat):Int)∧((k:Nat):Int) < ((a.length:Nat):Int)∧((k:Nat):Int).toNat*28 < (ims a).length)∧((imQr (ims a) (((k:Nat):Int).toNat*28)))∧tU5 ((0≤((k:Nat):Int)∧((k:Nat):Int) < ((b.length:Nat):Int)∧((k:Nat):Int).toNat*28 < (ims b).length)∧((imQr (ims b) (((k:Nat):Int).toNat*28)))∧tU5 ((Ans Try.prog 53 [imR (imQ (ims a) (((k:Nat):Int).toNat*28)),imR (imQ (ims b) (((k:Nat):Int).toNat*28))] (RV.d (dQ (eqI (imQ (ims a) (((k:Nat):Int).toNat*28)) (imQ (ims b) (((k:Nat):Int).toNat*28))))))∧True∧(((!(eqI (imQ (ims a) (((k:Nat):Int).toNat*28)) (imQ (ims b) (((k:Nat):Int).toNat*28))))=true→True∧RV.d (dQ false)=RV.d zz0)∧((!(eqI (imQ (ims a) (((k:Nat):Int).toNat*28)) (imQ (ims b) (((k:Nat):Int).toNat*28))))=false→tU2 (∃ k':Nat,(k'≤a.length∧eqTo a b k'=true)∧(a.length - k' < a.length - k)∧((zz2∧zz3∧zz4∧zz5∧(dJ (wK (((k:Nat):Int)+(1:Int)))=dJ ((k':Nat):Int))∧True)∧(True))))))))∧((decide (((k:Nat):Int) < ((a.length:Nat):Int)))=false→True∧RV.d (dQ true)=RV.d zz0)))))))):=by kernel_rfl
theorem sl_EqualFuncIms_ans (a:List Im) (b:List Im) (hA:∀ m∈a,m.isU) (hB:∀ m∈b,m.isU):Ans Try.prog 56 [RV.d (DV.sl a.length (ims a)),RV.d (DV.sl b.length (ims b)),RV.d (DV.fn 53)] (RV.d (DV.bool (eqIms (toIms (ims a)) (toIms (ims b))))):=
  ans_of_vcg (Γ:=gamEq) (sl_EqualFuncIms_ann a b) mixed_ Try.func56 rfl (Nat.le_of_ble_eq_true rfl) fun hwf=>by
    refine Eq.mpr (sl_EqualFuncIms_vc a b) ?_
    delta tU2 tU3 tU5 tU6 dJ dQ wK
    simp only [true_and,and_true,RV.d.injEq,RV.agg.injEq,RV.tup.injEq,DV.bool.injEq,DV.int.injEq,DV.sl.injEq,List.cons.injEq,forall_const,Bool.not_false,Bool.not_true,Bool.not_eq_true',Bool.not_eq_false',decide_eq_true_eq,decide_eq_false_iff_not,Int.toNat_natCast,imQ,imQr,imC,oqQ,oqQr,oqC,oqD,pxQ,pxQr,pxC,pxD]
    have hil:a.length≤9223372036854775807∧b.length≤9223372036854775807:=by
      simp only [RV.wfs,RV.wf,DV.wf,maxLen] at hwf
      omega
    clear hwf
    simp only [toIms_ims]
    refine ⟨fun h=>?_,fun h=>⟨⟨0,⟨Nat.zero_le _,by simp [eqTo]⟩,rfl⟩,fun k hk=>⟨fun hlt=>?_,fun hge=>?_⟩⟩⟩
    · have h:a.length≠b.length:=by simp at h; omega
      unfold eqIms
      rw [decide_eq_false h]; rfl
    · obtain ⟨k1,k2⟩:=hk
      have hl:a.length=b.length:=by simp at h; omega
      have ha:k < a.length:=by omega
      have hb:k < b.length:=by omega
      have q1:=ims_rd ha
      have q2:=ims_at ha
      have r1:=ims_rd hb
      have r2:=ims_at hb
      have w1:IntKind.wrap .i64 ((k:Int)+1)=((k+1:Nat):Int):=by rw [IntWalk.i64_in _ ⟨by omega,by omega⟩]; omega
      have e1:=script_Equal_1_ans a[k] b[k] (hA _ (List.getElem_mem ha)) (hB _ (List.getElem_mem hb))
      simp only [q2,r2,w1]
      refine ⟨⟨by omega,by omega,by rw [ims_length]; omega⟩,q1,⟨by omega,by omega,by rw [ims_length]; omega⟩,r1,e1,fun e=>?_,fun e=>⟨k+1,⟨by omega,eqTo_succ ha hb k2 e⟩,by omega,rfl⟩⟩
      unfold eqIms
      rw [eqTo_bad ha hb e,Bool.and_false]
    · obtain ⟨k1,k2⟩:=hk
      have hl:a.length=b.length:=by simp at h; omega
      have:k=a.length:=by omega
      subst this
      unfold eqIms
      rw [k2,decide_eq_true hl]; rfl
def script_Equal_ann (s:Scr) (t:Scr):Ann:=Ann.leaf
theorem script_Equal_vc (s:Scr) (t:Scr):vcg Try.prog gamEq 54 (bodyOf Try.f22) (script_Equal_ann s t) kn0 (start [RV.agg [DV.int .i64 s.bits,DV.int .i64 s.c.a,DV.int .i64 s.c.b,DV.int .i64 s.c.c,DV.int .i64 s.c.d,DV.int .i64 s.tw,DV.int .i64 s.th,DV.sl s.ord.length (is s.ord),DV.sl s.ims.length (ims s.ims),DV.sl s.ops.length (ops s.ops)],RV.agg [DV.int .i64 t.bits,DV.int .i64 t.c.a,DV.int .i64 t.c.b,DV.int .i64 t.c.c,DV.int .i64 t.c.d,DV.int .i64 t.tw,DV.int .i64 t.th,DV.sl t.ord.length (is t.ord),DV.sl t.ims.length (ims t.ims),DV.sl t.ops.length (ops t.ops)]]) (post Try.prog Try.f22.results.toList (·=RV.d (DV.bool (eqS s (⟨t.bits,⟨t.c.a,t.c.b,t.c.c,t.c.d⟩,t.tw,t.th,ints (is t.ord),toIms (ims t.ims),toOps (ops t.ops)⟩:Scr))))) =
  (let zz0:=(dQ (decide (toOps ((ops s.ops))=toOps ((ops t.ops))))); tU2 (tU8 ((((s.bits==t.bits)=true→tU7 (((((s.c.a==t.c.a) && ((s.c.b==t.c.b) && ((s.c.c==t.c.c) && ((s.c.d==t.c.d) && true))))=true→tU7 ((((s.tw==t.tw)=true→tU7 ((((s.th==t.th)=true→tU4 ((Ans Try.prog 55 [RV.d (DV.sl s.ord.length (is s.ord)),RV.d (DV.sl t.ord.length (is t.ord))] (RV.d (dQ (decide (ints ((is s.ord))=ints ((is t.ord)))))))∧tU2 ((((decide (ints ((is s.ord))=ints ((is t.ord))))=true→tU5 ((Ans Try.prog 56 [RV.d (DV.sl s.ims.length (ims s.ims)),RV.d (DV.sl t.ims.length (ims t.ims)),RV.d (DV.fn 53)] (RV.d (dQ (eqIms (toIms ((ims s.ims))) (toIms ((ims t.ims)))))))∧tU2 ((((eqIms (toIms ((ims s.ims))) (toIms ((ims t.ims))))=true→tU4 ((Ans Try.prog 57 [RV.d (DV.sl s.ops.length (ops s.ops)),RV.d (DV.sl t.ops.length (ops t.ops))] (RV.d zz0))∧tU2 (RV.d zz0=RV.d (dQ (eqS s (⟨t.bits,t.c,t.tw,t.th,ints (is t.ord),toIms (ims t.ims),toOps (ops t.ops)⟩:Scr))))))∧((eqIms (toIms ((ims s.ims))) (toIms ((ims t.ims))))=(!true)→tU2 (RV.d (dQ false)=RV.d (dQ (eqS s (⟨t.bits,t.c,t.tw,t.th,ints (is t.ord),toIms (ims t.ims),toOps (ops t.ops)⟩:Scr)))))))))∧((decide (ints ((is s.ord))=ints ((is t.ord))))=(!true)→tU4 (RV.d (dQ false)=RV.d (dQ (eqS s (⟨t.bits,t.c,t.tw,t.th,ints (is t.ord),toIms (ims t.ims),toOps (ops t.ops)⟩:Scr)))))))))∧((s.th==t.th)=(!true)→tU6 (RV.d (dQ false)=RV.d (dQ (eqS s (⟨t.bits,t.c,t.tw,t.th,ints (is t.ord),toIms (ims t.ims),toOps (ops t.ops)⟩:Scr))))))))∧((s.tw==t.tw)=(!true)→tU8 (RV.d (dQ false)=RV.d (dQ (eqS s (⟨t.bits,t.c,t.tw,t.th,ints (is t.ord),toIms (ims t.ims),toOps (ops t.ops)⟩:Scr))))))))∧(((s.c.a==t.c.a) && ((s.c.b==t.c.b) && ((s.c.c==t.c.c) && ((s.c.d==t.c.d) && true))))=(!true)→tU2 (tU8 (RV.d (dQ false)=RV.d (dQ (eqS s (⟨t.bits,t.c,t.tw,t.th,ints (is t.ord),toIms (ims t.ims),toOps (ops t.ops)⟩:Scr)))))))))∧((s.bits==t.bits)=(!true)→tU4 (tU8 (RV.d (dQ false)=RV.d (dQ (eqS s (⟨t.bits,t.c,t.tw,t.th,ints (is t.ord),toIms (ims t.ims),toOps (ops t.ops)⟩:Scr)))))))))):=by kernel_rfl
theorem script_Equal_ans (s:Scr) (t:Scr) (hM:∀ m∈s.ims,m.isU) (hN:∀ m∈t.ims,m.isU):Ans Try.prog 22 [RV.agg [DV.int .i64 s.bits,DV.int .i64 s.c.a,DV.int .i64 s.c.b,DV.int .i64 s.c.c,DV.int .i64 s.c.d,DV.int .i64 s.tw,DV.int .i64 s.th,DV.sl s.ord.length (is s.ord),DV.sl s.ims.length (ims s.ims),DV.sl s.ops.length (ops s.ops)],RV.agg [DV.int .i64 t.bits,DV.int .i64 t.c.a,DV.int .i64 t.c.b,DV.int .i64 t.c.c,DV.int .i64 t.c.d,DV.int .i64 t.tw,DV.int .i64 t.th,DV.sl t.ord.length (is t.ord),DV.sl t.ims.length (ims t.ims),DV.sl t.ops.length (ops t.ops)]] (RV.d (DV.bool (eqS s (⟨t.bits,⟨t.c.a,t.c.b,t.c.c,t.c.d⟩,t.tw,t.th,ints (is t.ord),toIms (ims t.ims),toOps (ops t.ops)⟩:Scr)))):=
  ans_of_vcg (Γ:=gamEq) (script_Equal_ann s t) mixed_ Try.func22 rfl (Nat.le_of_ble_eq_true rfl) fun hwf=>by
    refine Eq.mpr (script_Equal_vc s t) ?_
    delta tU2 tU4 tU5 tU6 tU7 tU8 dQ
    simp only [true_and,and_true,RV.d.injEq,RV.agg.injEq,RV.tup.injEq,DV.bool.injEq,DV.int.injEq,DV.sl.injEq,List.cons.injEq,forall_const,Bool.not_false,Bool.not_true,Bool.not_eq_true',Bool.not_eq_false',decide_eq_true_eq,decide_eq_false_iff_not,Int.toNat_natCast,imQ,imQr,imC,oqQ,oqQr,oqC,oqD,pxQ,pxQr,pxC,pxD]
    have a1:=slices_Equal_int_int_ans s.ord t.ord
    have a2:=sl_EqualFuncIms_ans s.ims t.ims hM hN
    have a3:=sl_EqualOps_ans s.ops t.ops
    have eS:(⟨t.bits,t.c,t.tw,t.th,t.ord,t.ims,t.ops⟩:Scr)=t:=rfl
    clear hwf
    simp only [ints_is,toIms_ims,toOps_ops,eS] at a1 a2 a3 ⊢
    have E:=eqS_beq s t
    refine ⟨fun h1=>⟨fun h2=>⟨fun h3=>⟨fun h4=>⟨a1,fun h5=>⟨a2,fun h6=>⟨a3,?_⟩,fun h6=>?_⟩,fun h5=>?_⟩,fun h4=>?_⟩,fun h3=>?_⟩,fun h2=>?_⟩,fun h1=>?_⟩
    · rw [E,h1,h2,h3,h4,h6,decide_eq_true h5]; rfl
    · rw [E,h6]; simp
    · rw [E,decide_eq_false h5]; simp
    · rw [E,h4]; simp
    · rw [E,h3]; simp
    · rw [E,h2]; simp
    · rw [E,h1]; simp
def R18_Equal_ann (s:Scr) (t:Scr):Ann:=(Ann.seq Ann.leaf (Ann.seq Ann.leaf (Ann.seq (Ann.seq Ann.leaf (Ann.loop ⟨Nat,fun k=>k≤s.ims.length∧eqTo s.ims t.ims k=true,fun k=>⟨[(2,AV.one (Cl.ptr 2 0)),(3,AV.one (Cl.ptr 3 0)),(5,AV.one (cJ (((k:Nat):Int))))],[(2,Bx.cells [cJ (s.bits),cJ (s.c.a),cJ (s.c.b),cJ (s.c.c),cJ (s.c.d),cJ (s.tw),cJ (s.th),Cl.d (DV.sl s.ord.length (is s.ord)),Cl.d (DV.sl s.ims.length (ims s.ims)),Cl.d (DV.sl s.ops.length (ops s.ops))]),(3,Bx.cells [cJ (t.bits),cJ (t.c.a),cJ (t.c.b),cJ (t.c.c),cJ (t.c.d),cJ (t.tw),cJ (t.th),Cl.d (DV.sl t.ord.length (is t.ord)),Cl.d (DV.sl t.ims.length (ims t.ims)),Cl.d (DV.sl t.ops.length (ops t.ops))])]⟩,fun k=>s.ims.length - k⟩ fun k=>Ann.leaf)) Ann.leaf)))
theorem R18_Equal_vc (s:Scr) (t:Scr):vcg Try.prog gamEq 91 (bodyOf Try.f21) (R18_Equal_ann s t) kn0 (start [RV.agg [DV.int .i64 s.bits,DV.int .i64 s.c.a,DV.int .i64 s.c.b,DV.int .i64 s.c.c,DV.int .i64 s.c.d,DV.int .i64 s.tw,DV.int .i64 s.th,DV.sl s.ord.length (is s.ord),DV.sl s.ims.length (ims s.ims),DV.sl s.ops.length (ops s.ops)],RV.agg [DV.int .i64 t.bits,DV.int .i64 t.c.a,DV.int .i64 t.c.b,DV.int .i64 t.c.c,DV.int .i64 t.c.d,DV.int .i64 t.tw,DV.int .i64 t.th,DV.sl t.ord.length (is t.ord),DV.sl t.ims.length (ims t.ims),DV.sl t.ops.length (ops t.ops)]]) (post Try.prog Try.f21.results.toList (·=RV.d (DV.bool (eqS s (⟨t.bits,⟨t.c.a,t.c.b,t.c.c,t.c.d⟩,t.tw,t.th,ints (is t.ord),toIms (ims t.ims),toOps (ops t.ops)⟩:Scr))))) =
  (let zz0:=fun (k:Nat)=>(k≤s.ims.length∧eqTo s.ims t.ims k=true); let zz1:=[dJ s.bits,dJ s.c.a,dJ s.c.b,dJ s.c.c,dJ s.c.d,dJ s.tw,dJ s.th,DV.sl s.ord.length (is s.ord),DV.sl s.ims.length (ims s.ims),DV.sl s.ops.length (ops s.ops)]; let zz2:=[dJ t.bits,dJ t.c.a,dJ t.c.b,dJ t.c.c,dJ t.c.d,dJ t.tw,dJ t.th,DV.sl t.ord.length (is t.ord),DV.sl t.ims.length (ims t.ims),DV.sl t.ops.length (ops t.ops)]; let zz3:=((zz1=zz1)∧(zz2=zz2)∧True); let zz4:=fun (k:Nat)=>(0≤((k:Nat):Int)∧((k:Nat):Int) < ((s.ims.length:Nat):Int)∧((k:Nat):Int).toNat*28 < (ims s.ims).length); let zz5:=fun (k:Nat)=>(0≤((k:Nat):Int)∧((k:Nat):Int) < ((t.ims.length:Nat):Int)∧((k:Nat):Int).toNat*28 < (ims t.ims).length); True∧tU8 ((((s.bits != t.bits)=false→tU7 ((((!((s.c.a==t.c.a) && ((s.c.b==t.c.b) && ((s.c.c==t.c.c) && ((s.c.d==t.c.d) && true)))))=false→tU7 ((((s.tw != t.tw)=false→tU7 ((((s.th != t.th)=false→tU4 ((Ans Try.prog 50 [RV.d (DV.sl s.ord.length (is s.ord)),RV.d (DV.sl t.ord.length (is t.ord))] (RV.d (dQ (decide (ints ((is s.ord))=ints ((is t.ord)))))))∧tU3 ((((!(decide (ints ((is s.ord))=ints ((is t.ord)))))=false→True∧tU8 ((((((s.ims.length:Nat):Int) != ((t.ims.length:Nat):Int))=false→tU4 ((Ans Try.prog 51 [RV.d (DV.sl s.ops.length (ops s.ops)),RV.d (DV.sl t.ops.length (ops t.ops))] (RV.d (dQ (decide (toOps ((ops s.ops))=toOps ((ops t.ops)))))))∧tU2 ((((!(decide (toOps ((ops s.ops))=toOps ((ops t.ops)))))=true→True∧RV.d (dQ false)=RV.d (dQ (eqS s (⟨t.bits,t.c,t.tw,t.th,ints (is t.ord),toIms (ims t.ims),toOps (ops t.ops)⟩:Scr))))∧((!(decide (toOps ((ops s.ops))=toOps ((ops t.ops)))))=false→True∧((∃ k:Nat,(zz0 k)∧(((0=0)∧(0=0)∧(dJ 0=dJ ((k:Nat):Int))∧True)∧zz3))∧∀ k:Nat,(zz0 k)→tU5 ((((decide (((k:Nat):Int) < ((s.ims.length:Nat):Int)))=true→tU3 ((zz4 k)∧True∧(((ims s.ims)[((k:Nat):Int).toNat*28+2]?=some (dQ (bAt (ims s.ims) (((k:Nat):Int).toNat*28+2))))∧True)∧tU3 ((zz5 k)∧True∧(((ims t.ims)[((k:Nat):Int).toNat*28+2]?=some (dQ (bAt (ims t.ims) (((k:Nat):Int).toNat*28+2))))∧True)∧tU2 ((((!((bAt (ims s.ims) (((k:Nat):Int).toNat*28+2))==(bAt (ims t.ims) (((k:Nat):Int).toNat*28+2))))=false→tU3 ((zz4 k)∧((imQr (ims s.ims) (((k:Nat):Int).toNat*28)))∧tU3 ((zz5 k)∧((imQr (ims t.ims) (((k:Nat):Int).toNat*28)))∧(Ans Try.prog 52 [imR (imQ (ims s.ims) (((k:Nat):Int).toNat*28)),imR (imQ (ims t.ims) (((k:Nat):Int).toNat*28))] (RV.d (dQ (Im.equal (imQ (ims s.ims) (((k:Nat):Int).toNat*28)) (imQ (ims t.ims) (((k:Nat):Int).toNat*28))))))∧tU2 ((true=true)∧(((!(Im.equal (imQ (ims s.ims) (((k:Nat):Int).toNat*28)) (imQ (ims t.ims) (((k:Nat):Int).toNat*28))))=true→True∧RV.d (dQ false)=RV.d (dQ (eqS s (⟨t.bits,t.c,t.tw,t.th,ints (is t.ord),toIms (ims t.ims),toOps (ops t.ops)⟩:Scr))))∧((!(Im.equal (imQ (ims s.ims) (((k:Nat):Int).toNat*28)) (imQ (ims t.ims) (((k:Nat):Int).toNat*28))))=false→tU3 (∃ k':Nat,(k'≤s.ims.length∧eqTo s.ims t.ims k'=true)∧(s.ims.length - k' < s.ims.length - k)∧(((0=0)∧(0=0)∧(dJ (wK (((k:Nat):Int)+(1:Int)))=dJ ((k':Nat):Int))∧True)∧zz3))))))))∧((!((bAt (ims s.ims) (((k:Nat):Int).toNat*28+2))==(bAt (ims t.ims) (((k:Nat):Int).toNat*28+2))))=(!false)→True∧(true=true)∧True∧RV.d (dQ false)=RV.d (dQ (eqS s (⟨t.bits,t.c,t.tw,t.th,ints (is t.ord),toIms (ims t.ims),toOps (ops t.ops)⟩:Scr)))))))))∧((decide (((k:Nat):Int) < ((s.ims.length:Nat):Int)))=false→True∧RV.d (dQ true)=RV.d (dQ (eqS s (⟨t.bits,t.c,t.tw,t.th,ints (is t.ord),toIms (ims t.ims),toOps (ops t.ops)⟩:Scr))))))))))))∧((((s.ims.length:Nat):Int) != ((t.ims.length:Nat):Int))=(!false)→tU2 (RV.d (dQ false)=RV.d (dQ (eqS s (⟨t.bits,t.c,t.tw,t.th,ints (is t.ord),toIms (ims t.ims),toOps (ops t.ops)⟩:Scr))))))))∧((!(decide (ints ((is s.ord))=ints ((is t.ord)))))=(!false)→tU4 (RV.d (dQ false)=RV.d (dQ (eqS s (⟨t.bits,t.c,t.tw,t.th,ints (is t.ord),toIms (ims t.ims),toOps (ops t.ops)⟩:Scr)))))))))∧((s.th != t.th)=(!false)→tU6 (RV.d (dQ false)=RV.d (dQ (eqS s (⟨t.bits,t.c,t.tw,t.th,ints (is t.ord),toIms (ims t.ims),toOps (ops t.ops)⟩:Scr))))))))∧((s.tw != t.tw)=(!false)→tU8 (RV.d (dQ false)=RV.d (dQ (eqS s (⟨t.bits,t.c,t.tw,t.th,ints (is t.ord),toIms (ims t.ims),toOps (ops t.ops)⟩:Scr))))))))∧((!((s.c.a==t.c.a) && ((s.c.b==t.c.b) && ((s.c.c==t.c.c) && ((s.c.d==t.c.d) && true)))))=(!false)→tU2 (tU8 (RV.d (dQ false)=RV.d (dQ (eqS s (⟨t.bits,t.c,t.tw,t.th,ints (is t.ord),toIms (ims t.ims),toOps (ops t.ops)⟩:Scr)))))))))∧((s.bits != t.bits)=(!false)→tU4 (tU8 (RV.d (dQ false)=RV.d (dQ (eqS s (⟨t.bits,t.c,t.tw,t.th,ints (is t.ord),toIms (ims t.ims),toOps (ops t.ops)⟩:Scr))))))))):=by kernel_rfl
theorem R18_Equal_ans (s:Scr) (t:Scr) (hM:∀ m∈s.ims,m.isU) (hN:∀ m∈t.ims,m.isU):Ans Try.prog 21 [RV.agg [DV.int .i64 s.bits,DV.int .i64 s.c.a,DV.int .i64 s.c.b,DV.int .i64 s.c.c,DV.int .i64 s.c.d,DV.int .i64 s.tw,DV.int .i64 s.th,DV.sl s.ord.length (is s.ord),DV.sl s.ims.length (ims s.ims),DV.sl s.ops.length (ops s.ops)],RV.agg [DV.int .i64 t.bits,DV.int .i64 t.c.a,DV.int .i64 t.c.b,DV.int .i64 t.c.c,DV.int .i64 t.c.d,DV.int .i64 t.tw,DV.int .i64 t.th,DV.sl t.ord.length (is t.ord),DV.sl t.ims.length (ims t.ims),DV.sl t.ops.length (ops t.ops)]] (RV.d (DV.bool (eqS s (⟨t.bits,⟨t.c.a,t.c.b,t.c.c,t.c.d⟩,t.tw,t.th,ints (is t.ord),toIms (ims t.ims),toOps (ops t.ops)⟩:Scr)))):=
  ans_of_vcg (Γ:=gamEq) (R18_Equal_ann s t) mixed_ Try.func21 rfl (Nat.le_of_ble_eq_true rfl) fun hwf=>by
    refine Eq.mpr (R18_Equal_vc s t) ?_
    delta tU2 tU3 tU4 tU5 tU6 tU7 tU8 dJ dQ wK
    simp only [true_and,and_true,RV.d.injEq,RV.agg.injEq,RV.tup.injEq,DV.bool.injEq,DV.int.injEq,DV.sl.injEq,List.cons.injEq,forall_const,Bool.not_false,Bool.not_true,Bool.not_eq_true',Bool.not_eq_false',decide_eq_true_eq,decide_eq_false_iff_not,Int.toNat_natCast,imQ,imQr,imC,oqQ,oqQr,oqC,oqD,pxQ,pxQr,pxC,pxD]
    have a1:=R18_SameInts_ans s.ord.length (is s.ord) t.ord.length (is t.ord) (isI_is rfl) (isI_is rfl)
    have a3:=R18_SameOps_ans s.ops t.ops
    have hil:s.ims.length≤9223372036854775807:=by
      simp only [RV.wfs,RV.wf,DV.wf,DV.wfs,maxLen] at hwf
      omega
    have eS:(⟨t.bits,t.c,t.tw,t.th,t.ord,t.ims,t.ops⟩:Scr)=t:=rfl
    clear hwf
    simp only [ints_is,toIms_ims,toOps_ops,eS] at a1 a3 ⊢
    have E:=eqS_beq s t
    refine ⟨fun h1=>⟨fun h2=>⟨fun h3=>⟨fun h4=>⟨a1,fun h5=>⟨fun h6=>⟨a3,fun h7=>?_,fun h7=>⟨⟨0,⟨Nat.zero_le _,by simp [eqTo]⟩,rfl⟩,fun k hk=>⟨fun hlt=>?_,fun hge=>?_⟩⟩⟩,fun h6=>?_⟩,fun h5=>?_⟩,fun h4=>?_⟩,fun h3=>?_⟩,fun h2=>?_⟩,fun h1=>?_⟩
    · rw [E,decide_eq_false h7]; simp
    · obtain ⟨k1,k2⟩:=hk
      have hl:s.ims.length=t.ims.length:=by simp at h6; omega
      have ha:k < s.ims.length:=by omega
      have hb:k < t.ims.length:=by omega
      have q1:=ims_rd ha
      have q2:=ims_at ha
      have r1:=ims_rd hb
      have r2:=ims_at hb
      have q3:bAt (ims s.ims) (k*28+2)=s.ims[k].so:=q2.2.2.1
      have r3:bAt (ims t.ims) (k*28+2)=t.ims[k].so:=r2.2.2.1
      have q4:(ims s.ims)[k*28+2]?=some (DV.bool s.ims[k].so):=q1.2.2.1
      have r4:(ims t.ims)[k*28+2]?=some (DV.bool t.ims[k].so):=r1.2.2.1
      have w1:IntKind.wrap .i64 ((k:Int)+1)=((k+1:Nat):Int):=by rw [IntWalk.i64_in _ ⟨by omega,by omega⟩]; omega
      have e1:=R13_EqualImages_im s.ims[k] t.ims[k] (hM _ (List.getElem_mem ha)) (hN _ (List.getElem_mem hb))
      have bad:eqI s.ims[k] t.ims[k]=false→false=eqS s t:=fun h=>by
        have:eqIms s.ims t.ims=false:=by unfold eqIms; rw [eqTo_bad ha hb h,Bool.and_false]
        rw [E,this]; simp
      simp only [q2,r2,q3,r3,w1]
      have B1:(0:Int)≤(k:Int)∧(k:Int) < (s.ims.length:Int)∧k*28 < (ims s.ims).length:=⟨by omega,by omega,by rw [ims_length]; omega⟩
      have B2:(0:Int)≤(k:Int)∧(k:Int) < (t.ims.length:Int)∧k*28 < (ims t.ims).length:=⟨by omega,by omega,by rw [ims_length]; omega⟩
      refine ⟨B1,q4,B2,r4,fun h8=>⟨B1,q1,B2,r1,e1,fun h9=>bad ?_,fun h9=>⟨k+1,⟨by omega,eqTo_succ ha hb k2 ?_⟩,by omega,rfl⟩⟩,fun h8=>bad ?_⟩
      · have h9:s.ims[k].equal t.ims[k]=false:=h9
        unfold eqI; rw [h9,Bool.and_false]
      · have h9:s.ims[k].equal t.ims[k]=true:=h9
        unfold eqI; rw [h9,h8]; rfl
      · unfold eqI; rw [h8,Bool.false_and]
    · obtain ⟨k1,k2⟩:=hk
      have hl:s.ims.length=t.ims.length:=by simp at h6; omega
      have:k=s.ims.length:=by omega
      subst this
      have h8:eqIms s.ims t.ims=true:=by unfold eqIms; rw [k2,decide_eq_true hl]; rfl
      have h1:(s.bits==t.bits)=true:=by simpa using h1
      have h3:(s.tw==t.tw)=true:=by simpa using h3
      have h4:(s.th==t.th)=true:=by simpa using h4
      rw [E,h1,h2,h3,h4,h8,decide_eq_true h5,decide_eq_true h7]; rfl
    · have hl:s.ims.length≠t.ims.length:=by simp at h6; omega
      have:eqIms s.ims t.ims=false:=by unfold eqIms; rw [decide_eq_false hl]; rfl
      rw [E,this]; simp
    · rw [E,decide_eq_false h5]; simp
    · have h4:(s.th==t.th)=false:=by simpa using h4
      rw [E,h4]; simp
    · have h3:(s.tw==t.tw)=false:=by simpa using h3
      rw [E,h3]; simp
    · rw [E,h2]; simp
    · have h1:(s.bits==t.bits)=false:=by simpa using h1
      rw [E,h1]; simp
end Go.Proofs.Ytlnfgagmiogkgaa
namespace Go.Proofs.Ytlnfgagmiogkgaa
open Go.RowKit
set_option linter.unusedVariables false
set_option linter.unusedSimpArgs false
theorem cong_cons {α:Type} {a b:α} {x y:List α} (h:a=b) (h2:x=y):a::x=b::y:=by rw [h,h2]
theorem step_be {L rest:List Int} {d n:Nat} {v:Int} (h:L.drop d=beI n v++rest):L.drop (d+n)=rest:=by
  rw [← List.drop_drop,h,List.drop_left' (beI_len v n)]
def pxIn (p:Px):Prop:=(0≤p.a∧p.a≤65535)∧(0≤p.b∧p.b≤65535)∧(0≤p.c∧p.c≤65535)∧(0≤p.al∧p.al≤65535)∧(0≤p.f∧p.f≤65535)
theorem px_read {p:Px} (x:List Int) (h:pxIn p):rdPx (pxB p++x)=p∧(pxB p++x).drop 10=x:=by
  obtain ⟨a,b,c,al,f⟩:=p
  obtain ⟨h1,h2,h3,h4,h5⟩:=h
  have s0:(pxB ⟨a,b,c,al,f⟩++x).drop 0=beI 2 a++(beI 2 b++(beI 2 c++(beI 2 al++(beI 2 f++x)))):=by
    simp only [pxB,putL,List.flatMap_cons,List.flatMap_nil,List.append_assoc,List.nil_append,List.drop_zero]
  generalize pxB ⟨a,b,c,al,f⟩++x=L at *
  have s2:L.drop 2=_:=step_be s0
  have s4:L.drop 4=_:=step_be s2
  have s6:L.drop 6=_:=step_be s4
  have s8:L.drop 8=_:=step_be s6
  have s10:L.drop 10=_:=step_be s8
  refine ⟨?_,s10⟩
  rw [List.drop_zero] at s0
  unfold rdPx
  rw [List.drop_zero,s2,s4,s6,s8,s0,tk2_be _ h1,tk2_be _ h2,tk2_be _ h3,tk2_be _ h4,tk2_be _ h5]
theorem rdPxs_cons (n:Nat) (l:List Int):rdPxs (n+1) l=rdPx l::rdPxs n (l.drop 10):=by
  unfold rdPxs
  rw [List.range_succ_eq_map,List.map_cons,List.map_map]
  refine cong_cons (by rw [Nat.mul_zero,List.drop_zero]) (List.map_congr_left fun i _=>?_)
  simp only [Function.comp_def,List.drop_drop]
  exact congrArg rdPx (congrArg (fun k=>l.drop k) (by omega))
theorem pxs_read:∀ (l:List Px) (x:List Int),(∀ p∈l,pxIn p)→rdPxs l.length (l.flatMap pxB++x)=l∧(l.flatMap pxB++x).drop (10*l.length)=x
  | [],x,_=>⟨rfl,rfl⟩
  | p::l,x,h=>by
    have h1:=px_read (l.flatMap pxB++x) (h p (by simp))
    have ih:=pxs_read l x fun q hq=>h q (by simp [hq])
    rw [List.flatMap_cons,List.append_assoc,List.length_cons,rdPxs_cons,h1.1,h1.2,ih.1]
    refine ⟨rfl,?_⟩
    rw [show 10*(l.length+1)=10+10*l.length by omega,← List.drop_drop,h1.2,ih.2]
def opIn (o:Oq):Prop:=opOk o=true∧0≤o.opac∧o.opac≤65535
theorem fitL_mem {lo hi:Int} {l:List Int} (h:fitL lo hi l=true):∀ v∈l,lo≤v∧v≤hi:=fun v hv=>by
  unfold fitL at h
  rw [List.all_eq_true] at h
  exact of_decide_eq_true (h v hv)
theorem op_read {o:Oq} (x:List Int) (h:opIn o):rdOp (opB o++x)=o∧(opB o++x).drop 24=x∧opWhen (opB o++x):=by
  obtain ⟨h,hp⟩:=h
  have hl:24≤(opB o++x).length:=by rw [List.length_append,opB_len]; omega
  simp only [opOk,Bool.and_eq_true] at h
  have h1:=fitL_mem h.1
  have h2:=fitL_mem h.2
  have hk:=h1 o.kind (by simp)
  have hi:=h1 o.image (by simp)
  have hm:=h1 o.mask (by simp)
  have ho:=h1 o.oper (by simp)
  have hd:=h1 o.mode (by simp)
  have hx:=h2 o.x (by simp)
  have hy:=h2 o.y (by simp)
  have hmx:=h2 o.mx (by simp)
  have hmy:=h2 o.my (by simp)
  clear h h1 h2
  have hf:0≤flagO o∧flagO o≤3:=by unfold flagO; split <;> split <;> omega
  have hf1:decide (flagO o % 2=1)=o.iso:=by
    unfold flagO; cases o.iso <;> cases o.kno <;> decide
  have hf2:decide (flagO o / 2 % 2=1)=o.kno:=by
    unfold flagO; cases o.iso <;> cases o.kno <;> decide
  have s0:(opB o++x).drop 0=beI 1 o.kind++(beI 1 o.image++(beI 4 o.x++(beI 4 o.y++(beI 1 o.mask++(beI 4 o.mx++(beI 4 o.my++(beI 2 o.opac++(beI 1 o.oper++(beI 1 o.mode++(beI 1 (flagO o)++x)))))))))):=by
    simp only [opB,putL,List.flatMap_cons,List.flatMap_nil,List.append_assoc,List.nil_append,List.drop_zero]
  generalize opB o++x=L at *
  have s1:L.drop 1=_:=step_be s0
  have s2:L.drop 2=_:=step_be s1
  have s6:L.drop 6=_:=step_be s2
  have s10:L.drop 10=_:=step_be s6
  have s11:L.drop 11=_:=step_be s10
  have s15:L.drop 15=_:=step_be s11
  have s19:L.drop 19=_:=step_be s15
  have s21:L.drop 21=_:=step_be s19
  have s22:L.drop 22=_:=step_be s21
  have s23:L.drop 23=_:=step_be s22
  have s24:L.drop 24=_:=step_be s23
  have t23:tkV 1 (L.drop 23)=flagO o:=by rw [s23]; exact tk1_be _ ⟨by omega,by omega⟩
  refine ⟨?_,s24,hl,by rw [t23]; exact hf.2⟩
  rw [List.drop_zero] at s0
  unfold rdOp
  rw [t23,hf1,hf2,List.drop_zero,s1,s2,s6,s10,s11,s15,s19,s21,s22,s0,tk1_be _ hk,tk1_be _ hi,sg4_be _ hx,sg4_be _ hy,tk1_be _ hm,sg4_be _ hmx,sg4_be _ hmy,tk2_be _ hp,tk1_be _ ho,tk1_be _ hd]
theorem opsL_cons (n:Nat) (l:List Int):opsL l (n+1)=rdOp l::opsL (l.drop 24) n:=by
  unfold opsL
  rw [List.range_succ_eq_map,List.map_cons,List.map_map]
  refine cong_cons (by rw [Nat.mul_zero,List.drop_zero]) (List.map_congr_left fun i _=>?_)
  simp only [Function.comp_def,List.drop_drop]
  exact congrArg rdOp (congrArg (fun k=>l.drop k) (by omega))
theorem ops_read:∀ (l:List Oq) (x:List Int),(∀ o∈l,opIn o)→opsL (l.flatMap opB++x) l.length=l∧(l.flatMap opB++x).drop (24*l.length)=x∧∀ i,i < l.length→opWhen ((l.flatMap opB++x).drop (24*i))
  | [],x,_=>⟨rfl,rfl,fun i hi=>absurd hi (Nat.not_lt_zero i)⟩
  | p::l,x,h=>by
    have h1:=op_read (l.flatMap opB++x) (h p (by simp))
    have ih:=ops_read l x fun q hq=>h q (by simp [hq])
    rw [List.flatMap_cons,List.append_assoc,List.length_cons,opsL_cons,h1.1,h1.2.1,ih.1]
    refine ⟨rfl,?_,fun i hi=>?_⟩
    · rw [show 24*(l.length+1)=24+24*l.length by omega,← List.drop_drop,h1.2.1,ih.2.1]
    · match i with
      | 0=>exact h1.2.2
      | i+1=>
        rw [show 24*(i+1)=24+24*i by omega,← List.drop_drop,h1.2.1]
        exact ih.2.2 i (by omega)
def imIn (m:Im):Prop:=m.formed=true∧pxIn m.c∧∀ p∈m.pixels,pxIn p
def Im.nrm (m:Im):Im:=if m.so then solidIm m.w m.h m.c else imOf m.w m.h m.pixels
theorem nrm_eqI {m:Im} (hf:m.formed=true):eqI m m.nrm=true:=by
  unfold eqI Im.nrm
  by_cases hs:m.so=true
  · rw [if_pos hs]
    have hfit:=(Im.formed_of hf).1
    have:m.equal (solidIm m.w m.h m.c)=true:=by
      refine Im.equal_px hf (solidIm_formed _ hfit) rfl rfl fun x y _ _=>?_
      simp [Im.px,solidIm,hs]
    rw [this,hs]
    rfl
  · have hs:m.so=false:=by simpa using hs
    have e:=imOf_ok (Im.pixels_ok hf)
    rw [hs]
    simp only [Bool.false_eq_true,if_false]
    rw [again_equal hf,e]
    rfl
theorem im_read {m:Im} (x:List Int) (h:imIn m):rdIm (imB_ m++x)=m.nrm∧imRest (imB_ m++x)=x∧imWhen (imB_ m++x):=by
  obtain ⟨hf,hc,hp⟩:=h
  have hfit:=(Im.formed_of hf).1
  have hfl:=fits_le hfit
  have hlen:=Im.pixels_len hf
  have hli:=imB_len hf
  have hL:((imB_ m++x).length:Int)=sizeIm m+x.length:=by rw [List.length_append]; omega
  unfold imB_ at hL ⊢
  unfold sizeIm at hL
  by_cases hs:m.so=true
  · rw [if_pos hs] at hL ⊢
    rw [if_pos hs] at hL
    have s0:(putL 1 [1]++putL 4 [m.w,m.h]++pxB m.c++x).drop 0=beI 1 1++(beI 4 m.w++(beI 4 m.h++(pxB m.c++x))):=by
      simp only [putL,List.flatMap_cons,List.flatMap_nil,List.append_assoc,List.nil_append,List.drop_zero]
    generalize putL 1 [1]++putL 4 [m.w,m.h]++pxB m.c++x=L at *
    have s1:L.drop 1=_:=step_be s0
    have s5:L.drop 5=_:=step_be s1
    have s9:L.drop 9=_:=step_be s5
    have s19:L.drop 19=x:=by rw [show 19=9+10 from rfl,← List.drop_drop,s9]; exact (px_read x hc).2
    rw [List.drop_zero] at s0
    have k1:tkV 1 L=1:=by rw [s0]; exact tk1_be _ ⟨by decide,by decide⟩
    have k2:rdW L=m.w:=by unfold rdW; rw [s1]; exact tk4_be _ ⟨by omega,by omega⟩
    have k3:rdH L=m.h:=by unfold rdH; rw [s5]; exact tk4_be _ ⟨by omega,by omega⟩
    refine ⟨?_,?_,⟨by omega,by omega,by omega,by omega,by rw [k2,k3]; omega⟩,?_⟩
    · unfold rdIm Im.nrm
      rw [if_pos k1,if_pos hs,k2,k3,s9,(px_read x hc).1]
    · unfold imRest
      rw [if_pos k1,s19]
    · rw [if_pos k1]; omega
  · rw [if_neg hs] at hL ⊢
    rw [if_neg hs] at hL
    have s0:(putL 1 [0]++putL 4 [m.w,m.h]++m.pixels.flatMap pxB++x).drop 0=beI 1 0++(beI 4 m.w++(beI 4 m.h++(m.pixels.flatMap pxB++x))):=by
      simp only [putL,List.flatMap_cons,List.flatMap_nil,List.append_assoc,List.nil_append,List.drop_zero]
    generalize putL 1 [0]++putL 4 [m.w,m.h]++m.pixels.flatMap pxB++x=L at *
    have s1:L.drop 1=_:=step_be s0
    have s5:L.drop 5=_:=step_be s1
    have s9:L.drop 9=_:=step_be s5
    have hpx:=pxs_read m.pixels x hp
    rw [List.drop_zero] at s0
    have k1:tkV 1 L=0:=by rw [s0]; exact tk1_be _ ⟨by decide,by decide⟩
    have k1':¬ tkV 1 L=1:=by omega
    have k2:rdW L=m.w:=by unfold rdW; rw [s1]; exact tk4_be _ ⟨by omega,by omega⟩
    have k3:rdH L=m.h:=by unfold rdH; rw [s5]; exact tk4_be _ ⟨by omega,by omega⟩
    have k4:rdN L=m.pixels.length:=by unfold rdN; rw [k2,k3]; omega
    refine ⟨?_,?_,⟨by omega,by omega,by omega,by omega,by rw [k2,k3]; omega⟩,?_⟩
    · unfold rdIm Im.nrm
      rw [if_neg k1',if_neg hs,k2,k3,k4,s9,hpx.1]
    · unfold imRest
      rw [if_neg k1',k4,← List.drop_drop,s9,hpx.2]
    · rw [if_neg k1',k4]; omega
theorem imsT_front (l:List Int):∀ k,imsT l (k+1)=(rdIm l::(imsT (imRest l) k).1,(imsT (imRest l) k).2)
  | 0=>rfl
  | k+1=>by
    have ih:=imsT_front l k
    rw [imsT,ih]
    rfl
theorem ims_read:∀ (l:List Im) (x:List Int),(∀ m∈l,imIn m)→imsT (l.flatMap imB_++x) l.length=(l.map Im.nrm,x)∧∀ i,i < l.length→imWhen (imsT (l.flatMap imB_++x) i).2
  | [],x,_=>⟨rfl,fun i hi=>absurd hi (Nat.not_lt_zero i)⟩
  | m::l,x,h=>by
    have h1:=im_read (l.flatMap imB_++x) (h m (by simp))
    have ih:=ims_read l x fun q hq=>h q (by simp [hq])
    rw [List.flatMap_cons,List.append_assoc,List.length_cons,imsT_front,h1.1,h1.2.1,ih.1]
    refine ⟨rfl,fun i hi=>?_⟩
    match i with
    | 0=>exact h1.2.2
    | i+1=>
      rw [imsT_front,h1.2.1]
      exact ih.2 i (by omega)
theorem ord_read (L:List Int):∀ (o:List Int) (d:Nat) (y:List Int),L.drop d=putL 4 o++y→(∀ v∈o,0≤v∧v≤4294967295)→(List.range o.length).map (fun i=>tkV 4 (L.drop (d+4*i)))=o∧L.drop (d+4*o.length)=y
  | [],d,y,h,_=>⟨rfl,h⟩
  | v::o,d,y,h,hv=>by
    have h0:L.drop d=beI 4 v++(putL 4 o++y):=by
      rw [h]
      simp only [putL,List.flatMap_cons,List.append_assoc]
    have ih:=ord_read L o (d+4) y (step_be h0) fun u hu=>hv u (by simp [hu])
    rw [List.length_cons]
    refine ⟨?_,by rw [show d+4*(o.length+1)=d+4+4*o.length by omega]; exact ih.2⟩
    rw [List.range_succ_eq_map,List.map_cons,List.map_map]
    refine cong_cons (by rw [Nat.mul_zero,Nat.add_zero,h0]; exact tk4_be _ (hv v (by simp))) (Eq.trans (List.map_congr_left fun i _=>?_) ih.1)
    simp only [Function.comp_def]
    exact congrArg (fun k=>tkV 4 (L.drop k)) (by omega)
structure Scr.inR (s:Scr):Prop where
  ok:encOk s=true
  im:∀ m∈s.ims,imIn m
  op:∀ o∈s.ops,0≤o.opac∧o.opac≤65535
def Scr.norm (s:Scr):Scr:=⟨s.bits,s.c,s.tw,s.th,s.ord,s.ims.map Im.nrm,s.ops⟩
theorem imBs_ge:∀ l:List Im,9*l.length≤(l.flatMap imB_).length
  | []=>by simp
  | m::l=>by
    have h1:=imBs_ge l
    have h2:9≤(imB_ m).length:=by
      unfold imB_
      split <;> simp only [List.length_append,putL_len,List.length_cons,List.length_nil] <;> omega
    rw [List.flatMap_cons,List.length_append,List.length_cons]
    omega
theorem encB_len {s:Scr} (h:s.ims.all Im.formed=true):((encB s).length:Int)=sizeS s s.ims:=by
  have h1:=imBs_len h
  have h2:=opBs_len s.ops
  unfold encB sizeS
  simp only [List.length_append,putL_len,List.length_cons,List.length_nil]
  omega
theorem parse_enc {s:Scr} (h:s.inR) (x:List Int):hd4P (encB s++x) (n3P (encB s++x))∧(bDP (encB s++x)).drop (24*n3P (encB s++x))=x∧parseS (encB s++x)=s.norm∧n2P (encB s++x)=s.ims.length∧n3P (encB s++x)=s.ops.length:=by
  obtain ⟨ok,him,hop⟩:=h
  have ok0:=ok
  simp only [encOk,encHd,Bool.and_eq_true,decide_eq_true_eq] at ok
  obtain ⟨⟨⟨⟨⟨⟨⟨⟨o1,o2⟩,o3⟩,o4⟩,o5⟩,o6⟩,o7⟩,o8⟩,o9⟩:=ok
  have f1:=fitL_mem o1 s.bits (by simp)
  have f2:=fitL_mem o2
  have f3:=fitL_mem o3
  have f4:=fitL_mem o4
  have ca:=f2 s.c.a (by simp)
  have cb:=f2 s.c.b (by simp)
  have cc:=f2 s.c.c (by simp)
  have cd:=f2 s.c.d (by simp)
  have ctw:=f3 s.tw (by simp)
  have cth:=f3 s.th (by simp)
  have hel:=encB_len o7
  have hol:s.ord.length≤16777216:=by
    have:=imBs_len o7
    unfold sizeS at o9
    omega
  have hops:∀ o∈s.ops,opIn o:=fun o ho=>⟨List.all_eq_true.1 o8 o ho,hop o ho⟩
  have R3:=ops_read s.ops x hops
  have l3:=opBs_len s.ops
  have l2:=imBs_ge s.ims
  have R2:=ims_read s.ims (beI 2 (s.ops.length:Int)++(s.ops.flatMap opB++x)) him
  have s0:(encB s++x)=[76,67]++(beI 1 s.bits++(beI 4 s.c.a++(beI 4 s.c.b++(beI 4 s.c.c++(beI 4 s.c.d++(beI 4 s.tw++(beI 4 s.th++(beI 4 (s.ord.length:Int)++(putL 4 s.ord++(beI 1 (s.ims.length:Int)++(s.ims.flatMap imB_++(beI 2 (s.ops.length:Int)++(s.ops.flatMap opB++x))))))))))))):=by
    simp only [encB,putL,List.flatMap_cons,List.flatMap_nil,List.append_assoc,List.nil_append,List.cons_append]
  have hLL:31≤(encB s++x).length:=by
    have:=imBs_len o7
    unfold sizeS at hel
    rw [List.length_append]
    omega
  generalize encB s++x=L at *
  have k0:tkV 1 L=76:=by rw [s0]; exact tk1 _ _
  have k1:tkV 1 (L.drop 1)=67:=by rw [s0]; exact tk1 _ _
  have s2:L.drop 2=beI 1 s.bits++(beI 4 s.c.a++(beI 4 s.c.b++(beI 4 s.c.c++(beI 4 s.c.d++(beI 4 s.tw++(beI 4 s.th++(beI 4 (s.ord.length:Int)++(putL 4 s.ord++(beI 1 (s.ims.length:Int)++(s.ims.flatMap imB_++(beI 2 (s.ops.length:Int)++(s.ops.flatMap opB++x)))))))))))):=by rw [s0]; rfl
  clear s0
  have s3:L.drop 3=_:=step_be s2
  have s7:L.drop 7=_:=step_be s3
  have s11:L.drop 11=_:=step_be s7
  have s15:L.drop 15=_:=step_be s11
  have s19:L.drop 19=_:=step_be s15
  have s23:L.drop 23=_:=step_be s19
  have s27:L.drop 27=_:=step_be s23
  have s31:L.drop 31=_:=step_be s27
  have R1:=ord_read L s.ord 31 _ s31 f4
  have t27:tkV 4 (L.drop 27)=(s.ord.length:Int):=by rw [s27]; exact tk4_be _ ⟨by omega,by omega⟩
  have e1:n1P L=s.ord.length:=by unfold n1P; rw [t27]; exact Int.toNat_natCast _
  have eA:bAP L=beI 1 (s.ims.length:Int)++(s.ims.flatMap imB_++(beI 2 (s.ops.length:Int)++(s.ops.flatMap opB++x))):=by unfold bAP; rw [e1]; exact R1.2
  have tA:tkV 1 (bAP L)=(s.ims.length:Int):=by rw [eA]; exact tk1_be _ ⟨by omega,by omega⟩
  have e2:n2P L=s.ims.length:=by unfold n2P; rw [tA]; exact Int.toNat_natCast _
  have eB:bBP L=s.ims.flatMap imB_++(beI 2 (s.ops.length:Int)++(s.ops.flatMap opB++x)):=by
    unfold bBP; rw [eA]; exact List.drop_left' (beI_len _ _)
  have eC:bCP L=beI 2 (s.ops.length:Int)++(s.ops.flatMap opB++x):=by unfold bCP; rw [e2,eB,R2.1]
  have tC:tkV 2 (bCP L)=(s.ops.length:Int):=by rw [eC]; exact tk2_be _ ⟨by omega,by omega⟩
  have e3:n3P L=s.ops.length:=by unfold n3P; rw [tC]; exact Int.toNat_natCast _
  have eD:bDP L=s.ops.flatMap opB++x:=by
    unfold bDP; rw [eC]; exact List.drop_left' (beI_len _ _)
  have ln27:(L.drop 27).length=4+(s.ord.length*4+(bAP L).length):=by
    rw [s27,List.length_append,beI_len,List.length_append,putL_len,eA]
  have lnA:(bAP L).length=1+((s.ims.flatMap imB_).length+(bCP L).length):=by
    rw [eA,List.length_append,beI_len,List.length_append,eC]
  have lnC:(bCP L).length=2+(s.ops.length*24+x.length):=by
    rw [eC,List.length_append,beI_len,List.length_append,l3]
  refine ⟨⟨⟨⟨⟨by omega,k0,k1⟩,hLL,?_⟩,?_,?_⟩,?_,?_⟩,?_,?_,e2,e3⟩
  · refine ⟨by omega,?_⟩
    rw [t27]
    have:s.ord.length≤((L.drop 27).length - 4) / 4:=(Nat.le_div_iff_mul_le (by omega)).2 (by omega)
    exact_mod_cast this
  · refine ⟨by omega,?_⟩
    rw [tA]
    have:s.ims.length≤((bAP L).length - 1) / 9:=(Nat.le_div_iff_mul_le (by omega)).2 (by omega)
    exact_mod_cast this
  · rw [e2,eB]; exact R2.2
  · refine ⟨by omega,?_⟩
    rw [tC]
    have:s.ops.length≤((bCP L).length - 2) / 24:=(Nat.le_div_iff_mul_le (by omega)).2 (by omega)
    exact_mod_cast this
  · rw [e3,eD]; exact R3.2.2
  · rw [e3,eD]; exact R3.2.1
  · unfold parseS Scr.norm
    have q1:tkV 1 (L.drop 2)=s.bits:=by rw [s2]; exact tk1_be _ f1
    have q2:sgV (L.drop 3)=s.c.a:=by rw [s3]; exact sg4_be _ ca
    have q3:sgV (L.drop 7)=s.c.b:=by rw [s7]; exact sg4_be _ cb
    have q4:sgV (L.drop 11)=s.c.c:=by rw [s11]; exact sg4_be _ cc
    have q5:sgV (L.drop 15)=s.c.d:=by rw [s15]; exact sg4_be _ cd
    have q6:tkV 4 (L.drop 19)=s.tw:=by rw [s19]; exact tk4_be _ ctw
    have q7:tkV 4 (L.drop 23)=s.th:=by rw [s23]; exact tk4_be _ cth
    have q8:ordL L (n1P L)=s.ord:=by rw [e1]; exact R1.1
    have q9:(imsT (bBP L) (n2P L)).1=s.ims.map Im.nrm:=by rw [e2,eB,R2.1]
    have q10:opsL (bDP L) (n3P L)=s.ops:=by rw [e3,eD]; exact R3.1
    rw [q1,q2,q3,q4,q5,q6,q7,q8,q9,q10]
theorem rdPx_in {l:List Int} (hB:isB l):pxIn (rdPx l):=⟨tk2_in (hB.drop 0),tk2_in (hB.drop 2),tk2_in (hB.drop 4),tk2_in (hB.drop 6),tk2_in (hB.drop 8)⟩
theorem rdIm_in {l:List Int} (hB:isB l) (h:imWhen l):imIn (rdIm l):=by
  obtain ⟨r1,r2,r3,r4,r5,r6⟩:=rdIm_ok h
  by_cases hk:tkV 1 l=1
  · have hso:(rdIm l).so=true:=by rw [r4]; exact decide_eq_true hk
    have hc:pxIn (rdIm l).c:=by rw [r5 hk]; exact rdPx_in (hB.drop 9)
    refine ⟨r1,hc,fun p hp=>?_⟩
    rw [Im.pixels_so r1 hso] at hp
    rw [List.eq_of_mem_replicate hp]
    exact hc
  · refine ⟨r1,?_,fun p hp=>?_⟩
    · have hso:(rdIm l).so=false:=by rw [r4]; exact decide_eq_false hk
      have:=(Im.inner_planes (Im.formed_of r1).2 hso).1
      rw [this]
      exact ⟨⟨by decide,by decide⟩,⟨by decide,by decide⟩,⟨by decide,by decide⟩,⟨by decide,by decide⟩,⟨by decide,by decide⟩⟩
    · rw [r6 hk] at hp
      unfold rdPxs at hp
      obtain ⟨i,_,rfl⟩:=List.mem_map.1 hp
      exact rdPx_in ((hB.drop 9).drop _)
theorem imsT_mem (l:List Int):∀ k,∀ m∈(imsT l k).1,∃ i,i < k∧m=rdIm (imsT l i).2
  | 0,m,hm=>by cases hm
  | k+1,m,hm=>by
    have hm:m∈(imsT l k).1++[rdIm (imsT l k).2]:=hm
    rcases List.mem_append.1 hm with hm | hm
    · obtain ⟨i,hi,e⟩:=imsT_mem l k m hm
      exact ⟨i,by omega,e⟩
    · rw [List.mem_singleton] at hm
      exact ⟨k,by omega,hm⟩
structure readOk (b:List Int):Prop where
  im:∀ i,i < n2P b→imWhen (imsT (bBP b) i).2
  len:31+4*n1P b≤b.length
theorem parse_im {b:List Int} (hB:isB b) (h:∀ i,i < n2P b→imWhen (imsT (bBP b) i).2):∀ m∈(parseS b).ims,imIn m:=fun m hm=>by
  obtain ⟨i,hi,rfl⟩:=imsT_mem _ _ m hm
  exact rdIm_in (imsT_isB ((hB.drop _).drop _) i) (h i hi)
theorem rdOp_in {l:List Int} (hB:isB l):opIn (rdOp l):=by
  have a:=tk1_in (hB.drop 0)
  have b:=tk1_in (hB.drop 1)
  have c:=tk1_in (hB.drop 10)
  have d:=tk1_in (hB.drop 21)
  have e:=tk1_in (hB.drop 22)
  have f:=sgV_in (hB.drop 2)
  have g:=sgV_in (hB.drop 6)
  have i:=sgV_in (hB.drop 11)
  have j:=sgV_in (hB.drop 15)
  refine ⟨?_,tk2_in (hB.drop 19)⟩
  simp only [opOk,rdOp,fitL,List.all_cons,List.all_nil,Bool.and_true,Bool.and_eq_true,decide_eq_true_eq]
  exact ⟨⟨a,b,c,d,e⟩,f,g,i,j⟩
theorem parse_op {b:List Int} (hB:isB b):∀ o∈(parseS b).ops,opIn o:=fun o ho=>by
  have ho:o∈opsL (bDP b) (n3P b):=ho
  unfold opsL at ho
  obtain ⟨i,_,rfl⟩:=List.mem_map.1 ho
  have hBC:isB (bCP b):=imsT_isB ((hB.drop _).drop _) _
  exact rdOp_in ((hBC.drop _).drop _)
theorem parse_hd {b:List Int} (hB:isB b) (h1:(parseS b).ims.length≤64) (h2:(parseS b).ops.length≤4096):encHd (parseS b)=true:=by
  have a:=tk1_in (hB.drop 2)
  have f:=sgV_in (hB.drop 3)
  have g:=sgV_in (hB.drop 7)
  have i:=sgV_in (hB.drop 11)
  have j:=sgV_in (hB.drop 15)
  have k:=tk4_in (hB.drop 19)
  have l:=tk4_in (hB.drop 23)
  simp only [encHd,fitL,List.all_cons,List.all_nil,Bool.and_true,Bool.and_eq_true,decide_eq_true_eq]
  refine ⟨⟨⟨⟨⟨a,f,g,i,j⟩,k,l⟩,?_⟩,h1⟩,h2⟩
  rw [List.all_eq_true]
  intro v hv
  have hv:v∈ordL b (n1P b):=hv
  unfold ordL at hv
  obtain ⟨i,_,rfl⟩:=List.mem_map.1 hv
  exact decide_eq_true (tk4_in (hB.drop _))
def decOk (b:List Int):Prop:=b.length≤67108864∧parseOk b∧(parseS b).ims.length≤64∧(parseS b).ops.length≤4096
theorem dec_in {b:List Int} (hB:isB b) (h:decOk b):(parseS b).inR∧encB (parseS b)=b:=by
  obtain ⟨h1,h2,h3,h4⟩:=h
  have e:=enc_parse hB h2
  have him:=parse_im hB h2.1.1.2.2
  have hop:=parse_op hB
  have hf:(parseS b).ims.all Im.formed=true:=List.all_eq_true.2 fun m hm=>(him m hm).1
  refine ⟨⟨?_,him,fun o ho=>(hop o ho).2⟩,e⟩
  have hl:=encB_len hf
  rw [e] at hl
  have ho:(parseS b).ops.all opOk=true:=List.all_eq_true.2 fun o ho=>(hop o ho).1
  unfold encOk
  rw [parse_hd hB h3 h4,hf,ho,decide_eq_true (by omega)]
  rfl
theorem dec_enc {s:Scr} (h:s.inR):decOk (encB s)∧parseS (encB s)=s.norm:=by
  have hp:=parse_enc h []
  rw [List.append_nil] at hp
  have hE:=enc_of h.ok
  have hl:=encB_len hE.fm
  have:=hE.sz
  refine ⟨⟨by omega,⟨hp.1,by rw [hp.2.1]; rfl⟩,?_,?_⟩,hp.2.2.1⟩
  · rw [hp.2.2.1]
    unfold Scr.norm
    simp only [List.length_map]
    exact hE.il
  · rw [hp.2.2.1]
    exact hE.ol
instance (l:List Int):Decidable (imWhen l):=by unfold imWhen imHead; infer_instance
instance (l:List Int):Decidable (opWhen l):=by unfold opWhen; infer_instance
instance (b:List Int):Decidable (parseOk b):=by unfold parseOk hd4P hd3P hd2P hd1P cntOk; infer_instance
instance (b:List Int):Decidable (decOk b):=by unfold decOk; infer_instance
def zeroS:Scr:=⟨0,⟨0,0,0,0⟩,0,0,[],[],[]⟩
def decR (b:List Int):Scr:=if decOk b then parseS b else zeroS
def decE (b:List Int):Int:=if decOk b then 0 else 19
theorem dec_yes {b:List Int} (h:decOk b):decR b=parseS b∧decE b=0:=by unfold decR decE; rw [if_pos h,if_pos h]; exact ⟨rfl,rfl⟩
theorem dec_no {b:List Int} (h:¬ decOk b):decR b=zeroS∧decE b=19:=by unfold decR decE; rw [if_neg h,if_neg h]; exact ⟨rfl,rfl⟩
theorem dec_back {b:List Int} (h:¬ decOk b) {w:World} {S:Nat→Prop} {f:FuncId} {zs:Array Value}
    (hc:Calls Try.prog f zs w fun e w'=>e=.returned (.tuple #[.agg #[.int .i64 0,.int .i64 0,.int .i64 0,.int .i64 0,.int .i64 0,.int .i64 0,.int .i64 0,.slice none 0 0,.slice none 0 0,.slice none 0 0],.int .i64 19])∧Below w.heap.size w w') :
    Calls Try.prog f zs w fun e w'=>∃ v,e=.returned v∧RepR w' (fun g=>S g∨w.heap.size≤g) (RV.tup [RV.agg (scrD (decR b)),RV.d (.int .i64 (decE b))]) v∧Below w.heap.size w w':=by
  rw [(dec_no h).1,(dec_no h).2]
  refine hc.mono ?_
  rintro e w' ⟨rfl,hb⟩
  refine ⟨_,rfl,?_,hb⟩
  simp only [RepR,RepRs]
  have hi:∀ n:Int,n=0∨n=19→RepD w' (fun g=>S g∨w.heap.size≤g) (.int .i64 n) (.int .i64 n):=fun n hn=>by
    simp only [RepD,true_and]
    rw [inK_iff]
    show (-9223372036854775808:Int)≤n∧n≤9223372036854775807
    omega
  have hz:=hi 0 (.inl rfl)
  have hs:RepD w' (fun g=>S g∨w.heap.size≤g) (.sl 0 []) (.slice none 0 0):=by
    simp only [RepD]
    exact ⟨none,0,rfl,Nat.le_refl _,Nat.zero_le _,fun h=>absurd rfl h⟩
  exact ⟨_,rfl,⟨_,rfl,hz,hz,hz,hz,hz,hz,hz,hs,hs,hs,trivial⟩,hi 19 (.inr rfl),trivial⟩
theorem script_Decode_ans (b:List Int):Ans Try.prog 19 [RV.d (.sl b.length (u8s b))] (RV.tup [RV.agg (scrD (decR b)),RV.d (.int .i64 (decE b))]):=by
  intro w S vs hg hr
  obtain ⟨l⟩:=vs
  match l,hr with
  | [v],hr=>
    simp only [RepRs,RepR,and_true] at hr
    have hr0:=hr
    simp only [RepD] at hr
    obtain ⟨A,cap,rfl,_⟩:=hr
    by_cases hL:b.length≤67108864
    · by_cases hp:parseOk b
      · by_cases hI:(parseS b).ims.length≤64
        · by_cases hO:(parseS b).ops.length≤4096
          · have hd:decOk b:=⟨hL,hp,hI,hO⟩
            rw [(dec_yes hd).1,(dec_yes hd).2]
            refine (decode_good b A cap w S hg hr0 hL (parseS b) ⟨rfl⟩ hp hI hO).mono ?_
            rintro e e' ⟨cl,rfl,hv,hb⟩
            refine ⟨_,rfl,?_,hb⟩
            simp only [RepR,RepRs]
            refine ⟨_,rfl,⟨_,rfl,hv⟩,?_,trivial⟩
            have hi:RepD e' (fun g=>S g∨w.heap.size≤g) (.int .i64 0) (.int .i64 0):=by
              simp only [RepD,true_and]
              rw [inK_iff]
              exact ⟨by decide,by decide⟩
            exact hi
          · exact dec_back (fun h=>hO h.2.2.2) (decode_more b A cap w S hg hr0 hL (parseS b) ⟨rfl⟩ hp hI hO)
        · exact dec_back (fun h=>hI h.2.2.1) (decode_many b A cap w S hg hr0 hL (parseS b) ⟨rfl⟩ hp hI)
      · exact dec_back (fun h=>hp h.2.1) (decode_bad b A cap w S hg hr0 hL hp)
    · exact dec_back (fun h=>hL h.1) (decode_long A b.length cap w hL)
end Go.Proofs.Ytlnfgagmiogkgaa
namespace Go.Proofs.Ytlnfgagmiogkgaa
open Go.RowKit
set_option linter.unusedVariables false
set_option linter.unusedSimpArgs false
attribute [local irreducible] Ans AnsO AnsG AnsN AnsI
set_option maxRecDepth 4000
def gamEj:Gam where
 pure:=fun f xs=>
  if f=11 then (match xs with | [.agg [.int _ bits,.int _ cx0,.int _ cy0,.int _ cx1,.int _ cy1,.int _ tw,.int _ th,.sl on oxs,.sl mn mxs,.sl pn pxs]]=>some (RV.tup [RV.d (DV.sl ((encS (⟨bits,⟨cx0,cy0,cx1,cy1⟩,tw,th,ints oxs,toIms mxs,toOps pxs⟩:Scr)).1.length) (u8s (encS (⟨bits,⟨cx0,cy0,cx1,cy1⟩,tw,th,ints oxs,toIms mxs,toOps pxs⟩:Scr)).1)),RV.d (dJ ((encS (⟨bits,⟨cx0,cy0,cx1,cy1⟩,tw,th,ints oxs,toIms mxs,toOps pxs⟩:Scr)).2))]) | _=>none) else
  if f=19 then (match xs with | [.d (.sl n xs)]=>some (RV.tup [RV.agg [dJ ((decR (ints (xs))).bits),dJ ((decR (ints (xs))).c.a),dJ ((decR (ints (xs))).c.b),dJ ((decR (ints (xs))).c.c),dJ ((decR (ints (xs))).c.d),dJ ((decR (ints (xs))).tw),dJ ((decR (ints (xs))).th),DV.sl ((decR (ints (xs))).ord.length) (is (decR (ints (xs))).ord),DV.sl ((decR (ints (xs))).ims.length) (ims (decR (ints (xs))).ims),DV.sl ((decR (ints (xs))).ops.length) (ops (decR (ints (xs))).ops)],RV.d (dJ (decE (ints (xs))))]) | _=>none) else
  none
 modes:=fun f=>
  none
 proc:=fun f xs bs=>
  none
 iter:=fun f cs=>
  none
def L18_awakeD_ann:Ann:=Ann.leaf
theorem L18_awakeD_vc:vcg Try.prog gamEj 32 (bodyOf Try.f13) (L18_awakeD_ann ) kn0 (start []) (post Try.prog Try.f13.results.toList (·=RV.d (DV.bool true))) =
  (tU3 ((Ans Try.prog 11 [RV.agg [dJ 8,dJ 0,dJ 0,dJ 1,dJ 1,dJ 1,dJ 1,DV.sl 0 ([]),DV.sl 0 ([]),DV.sl 0 ([])]] (RV.tup [RV.d (DV.sl ((encS (⟨(8:Int),⟨(0:Int),(0:Int),(1:Int),(1:Int)⟩,(1:Int),(1:Int),ints ([]),toIms ([]),toOps ([])⟩:Scr)).1.length) (u8s (encS (⟨(8:Int),⟨(0:Int),(0:Int),(1:Int),(1:Int)⟩,(1:Int),(1:Int),ints ([]),toIms ([]),toOps ([])⟩:Scr)).1)),RV.d (dJ ((encS (⟨(8:Int),⟨(0:Int),(0:Int),(1:Int),(1:Int)⟩,(1:Int),(1:Int),ints ([]),toIms ([]),toOps ([])⟩:Scr)).2))]))∧tU5 ((Ans Try.prog 19 [RV.d (DV.sl 0 ([]))] (RV.tup [RV.agg [dJ ((decR (ints (([])))).bits),dJ ((decR (ints (([])))).c.a),dJ ((decR (ints (([])))).c.b),dJ ((decR (ints (([])))).c.c),dJ ((decR (ints (([])))).c.d),dJ ((decR (ints (([])))).tw),dJ ((decR (ints (([])))).th),DV.sl ((decR (ints (([])))).ord.length) (is (decR (ints (([])))).ord),DV.sl ((decR (ints (([])))).ims.length) (ims (decR (ints (([])))).ims),DV.sl ((decR (ints (([])))).ops.length) (ops (decR (ints (([])))).ops)],RV.d (dJ (decE (ints (([])))))]))∧True∧tU8 ((((((encS (⟨(8:Int),⟨(0:Int),(0:Int),(1:Int),(1:Int)⟩,(1:Int),(1:Int),ints ([]),toIms ([]),toOps ([])⟩:Scr)).2)==(0:Int))=true→tU5 (((((((encS (⟨(8:Int),⟨(0:Int),(0:Int),(1:Int),(1:Int)⟩,(1:Int),(1:Int),ints ([]),toIms ([]),toOps ([])⟩:Scr)).1.length:Nat):Int)==(34:Int))=true→True∧(0≤(0:Int)∧(0:Int)≤(2:Int)∧(2:Int)≤(((encS (⟨(8:Int),⟨(0:Int),(0:Int),(1:Int),(1:Int)⟩,(1:Int),(1:Int),ints ([]),toIms ([]),toOps ([])⟩:Scr)).1.length:Nat):Int))∧(((2:Int) - (0:Int)).toNat=(List.take (((2:Int) - (0:Int)).toNat*1) (List.drop ((0:Int).toNat*1) (u8s (encS (⟨(8:Int),⟨(0:Int),(0:Int),(1:Int),(1:Int)⟩,(1:Int),(1:Int),ints ([]),toIms ([]),toOps ([])⟩:Scr)).1))).length∧allBytes (List.take (((2:Int) - (0:Int)).toNat*1) (List.drop ((0:Int).toNat*1) (u8s (encS (⟨(8:Int),⟨(0:Int),(0:Int),(1:Int),(1:Int)⟩,(1:Int),(1:Int),ints ([]),toIms ([]),toOps ([])⟩:Scr)).1))))∧tU3 (((((strD (List.take (((2:Int) - (0:Int)).toNat*1) (List.drop ((0:Int).toNat*1) (u8s (encS (⟨(8:Int),⟨(0:Int),(0:Int),(1:Int),(1:Int)⟩,(1:Int),(1:Int),ints ([]),toIms ([]),toOps ([])⟩:Scr)).1)))).toList==(⟨#[76,67]⟩:ByteArray).toList)=true→tU4 (RV.d (dQ ((decE (ints (([]))))==(19:Int)))=RV.d (dQ true)))∧(((strD (List.take (((2:Int) - (0:Int)).toNat*1) (List.drop ((0:Int).toNat*1) (u8s (encS (⟨(8:Int),⟨(0:Int),(0:Int),(1:Int),(1:Int)⟩,(1:Int),(1:Int),ints ([]),toIms ([]),toOps ([])⟩:Scr)).1)))).toList==(⟨#[76,67]⟩:ByteArray).toList)=(!true)→tU2 (RV.d (dQ false)=RV.d (dQ true))))))∧(((((encS (⟨(8:Int),⟨(0:Int),(0:Int),(1:Int),(1:Int)⟩,(1:Int),(1:Int),ints ([]),toIms ([]),toOps ([])⟩:Scr)).1.length:Nat):Int)==(34:Int))=(!true)→tU4 (RV.d (dQ false)=RV.d (dQ true))))))∧((((encS (⟨(8:Int),⟨(0:Int),(0:Int),(1:Int),(1:Int)⟩,(1:Int),(1:Int),ints ([]),toIms ([]),toOps ([])⟩:Scr)).2)==(0:Int))=(!true)→tU6 (RV.d (dQ false)=RV.d (dQ true)))))))):=by kernel_rfl
theorem L18_awakeD_ans:Ans Try.prog 13 [] (RV.d (DV.bool true)):=
  ans_of_vcg (Γ:=gamEj) (L18_awakeD_ann ) mixed_ Try.func13 rfl (Nat.le_of_ble_eq_true rfl) fun hwf=>by
    refine Eq.mpr (L18_awakeD_vc ) ?_
    delta tU2 tU3 tU4 tU5 tU6 tU8 dJ dQ
    simp only [true_and,and_true,RV.d.injEq,RV.agg.injEq,RV.tup.injEq,DV.bool.injEq,DV.int.injEq,DV.sl.injEq,List.cons.injEq,forall_const,Bool.not_false,Bool.not_true,Bool.not_eq_true',Bool.not_eq_false',decide_eq_true_eq,decide_eq_false_iff_not,Int.toNat_natCast,imQ,imQr,imC,oqQ,oqQr,oqC,oqD,pxQ,pxQr,pxC,pxD]
    have e:=script_Encode_ans tinyS (fun m hm=>by cases hm) (Nat.zero_le _)
    have d:=script_Decode_ans []
    have hn:¬ decOk []:=fun h=>by
      have:=h.2.1.1.1.1.1.1
      simp at this
    unfold scrD at d
    rw [(dec_no hn).1,(dec_no hn).2] at d
    have hS:(⟨8,⟨0,0,1,1⟩,1,1,ints [],toIms [],toOps []⟩:Scr)=tinyS:=rfl
    have hn0:ints ([]:List DV)=[]:=rfl
    simp only [hS]
    simp only [hn0,(dec_no hn).1,(dec_no hn).2]
    refine ⟨e,d,?_⟩
    simp only [tiny_enc]
    have t2:List.take ((2 - 0:Int).toNat*1) (List.drop (Int.toNat 0*1) (u8s [76,67,8,0,0,0,0,0,0,0,0,0,0,0,1,0,0,0,1,0,0,0,1,0,0,0,1,0,0,0,0,0,0,0]))=[DV.int .u8 76,DV.int .u8 67]:=rfl
    have sD:strD [DV.int .u8 76,DV.int .u8 67]=⟨#[76,67]⟩:=rfl
    simp only [t2,sD]
    exact ⟨fun _=>⟨fun _=>⟨⟨by decide,by decide,by decide⟩,⟨rfl,⟨_,rfl⟩,⟨_,rfl⟩,trivial⟩,fun _=>rfl,fun h=>absurd h (by rw [beq_self_eq_true]; decide)⟩,fun h=>absurd h (by decide)⟩,fun h=>absurd h (by decide)⟩
end Go.Proofs.Ytlnfgagmiogkgaa
namespace Go.Proofs.Ytlnfgagmiogkgaa
open Go.RowKit
set_option linter.unusedVariables false
set_option linter.unusedSimpArgs false
attribute [local irreducible] Ans AnsO AnsG AnsN AnsI
set_option maxRecDepth 4000
end Go.Proofs.Ytlnfgagmiogkgaa
namespace Go.Proofs.Ytlnfgagmiogkgaa
open Go.RowKit
set_option linter.unusedVariables false
set_option linter.unusedSimpArgs false
theorem pxIn_of {p:Px} {most:Int} (h:p.fine most) (hm:most≤65535):pxIn p:=by
  obtain ⟨h1,h2,h3,h4,h5⟩:=h
  simp [Px.ok] at h1
  exact ⟨by omega,by omega,by omega,by omega,by omega⟩
theorem imIn_of {m:Im} (hf:m.formed=true) (hp:∀ p∈m.pixels,pxIn p):imIn m:=by
  refine ⟨hf,?_,hp⟩
  by_cases hs:m.so=true
  · have:=Im.count_pos hf
    refine hp _ ?_
    rw [Im.pixels_so hf hs]
    exact List.mem_replicate.2 ⟨by omega,rfl⟩
  · rw [(Im.inner_planes (Im.formed_of hf).2 (by simpa using hs)).1]
    exact ⟨⟨by decide,by decide⟩,⟨by decide,by decide⟩,⟨by decide,by decide⟩,⟨by decide,by decide⟩,⟨by decide,by decide⟩⟩
theorem Scn.ims_in (s:Scn):∀ m∈s.ims,imIn m:=by
  have hq:1≤s.c.c - s.c.a∧s.c.c - s.c.a≤100∧1≤s.c.d - s.c.b∧s.c.d - s.c.b≤100:=by have:=s.facts; have CF:=s.c_facts; omega
  have hm:0≤s.most∧s.most≤65535:=by rcases s.most_in with h | h <;> rw [h] <;> omega
  intro m hmem
  refine imIn_of (s.fine m hmem).1 fun p hp=>pxIn_of (most:=s.most) ?_ hm.2
  unfold Scn.ims at hmem
  split at hmem
  · rw [List.mem_singleton] at hmem
    subst hmem
    have F:=s.facts
    have hf:fitsP s.gw s.gh=true:=by
      have:=Int.mul_le_mul F.2.2.1.2 F.2.2.2.1.2 (by omega) (by omega)
      simp [fitsP]; omega
    change p∈(solidIm s.gw s.gh ⟨s.most,0,0,s.most,s.most⟩).pixels at hp
    rw [Im.pixels_of (solidIm_formed _ hf),Im.list,List.mem_map] at hp
    obtain ⟨k,_,rfl⟩:=hp
    have e:(solidIm s.gw s.gh ⟨s.most,0,0,s.most,s.most⟩).nth k=⟨s.most,0,0,s.most,s.most⟩:=by simp [Im.nth,Im.px,solidIm]
    change ((solidIm s.gw s.gh ⟨s.most,0,0,s.most,s.most⟩).nth k).fine s.most
    rw [e]
    exact ⟨by simp [Px.ok]; omega,by simp only; omega,by simp only; omega,by simp only; omega,by simp only; omega⟩
  · simp only [Scn.pics,List.mem_map] at hmem
    obtain ⟨k,_,rfl⟩:=hmem
    exact gImage_fine _ _ _ _ _ _ _ _ _ _ hm.1 hm.2 hq p hp
theorem gOp_opac (r:Rw) (push:Bool) (n:Int) (c:Rc) (free:Bool) {most:Int} (h0:0≤most) (h1:most≤65535):0≤(gOp r push n c free most).opac∧(gOp r push n c free most).opac≤65535:=by
  unfold gOp
  simp only
  split
  · have:=gSample_in (IntKind.wrap .i64 (Int.tdiv r.op 2)) h0 h1
    omega
  · omega
theorem Scn.run_opac (s:Scn):∀ k,∀ o∈(s.run k).1,0≤o.opac∧o.opac≤65535
  | 0,o,ho=>by cases ho
  | k+1,o,ho=>by
    have hm:0≤s.most∧s.most≤65535:=by rcases s.most_in with h | h <;> rw [h] <;> omega
    have ih:=s.run_opac k
    have ho:o∈(s.step (rwAt s.rxs (k*11)) (s.run k)).1:=ho
    unfold Scn.step at ho
    split at ho
    · rcases List.mem_append.1 ho with h | h
      · exact ih o h
      · rw [List.mem_singleton] at h
        subst h
        exact ⟨by decide,by decide⟩
    · rcases List.mem_append.1 ho with h | h
      · exact ih o h
      · rw [List.mem_singleton] at h
        subst h
        exact gOp_opac _ _ _ _ _ hm.1 hm.2
theorem Scn.ops_opac (s:Scn):∀ o∈s.ops,0≤o.opac∧o.opac≤65535:=fun o ho=>by
  rcases List.mem_append.1 (show o∈(s.run (min s.rn 9)).1++List.replicate (s.run (min s.rn 9)).2.length popO from ho) with h | h
  · exact s.run_opac _ o h
  · rw [List.eq_of_mem_replicate h]
    exact ⟨by decide,by decide⟩
def Scn.scr (s:Scn):Scr:=⟨s.bits,s.c,s.gtw,s.gth,s.ord,s.ims,s.ops⟩
theorem Scn.inR (s:Scn):s.scr.inR:=by
  have li:=s.ims_len
  have hol:=s.ops_len
  exact ⟨s.enc (ms:=s.ims) (os:=s.ops) (by omega) (fun m hm=>⟨(s.fine m hm).1,(s.fine m hm).2.1⟩) (by omega) s.ops_fit,s.ims_in,s.ops_opac⟩
theorem isB_app {l m:List Int} (h:isB l) (h2:isB m):isB (l++m):=fun v hv=>(List.mem_append.1 hv).elim (h v) (h2 v)
theorem byI_in (v:Int) (i:Nat):0≤byI v i∧byI v i≤255:=by
  have w:∀ x:Int,IntKind.wrap .u8 x=x % 256:=fun x=>by simp [IntKind.wrap,IntKind.bits,IntKind.signed]
  unfold byI
  rw [w]
  omega
theorem isB_beI (v:Int):∀ n,isB (beI n v)
  | 0=>fun _ h=>by cases h
  | n+1=>fun u hu=>by
    rcases List.mem_cons.1 (show u∈byI v n::beI n v from hu) with rfl | hu
    · exact byI_in v n
    · exact isB_beI v n u hu
theorem isB_flat {α:Type} {f:α→List Int} (h:∀ a,isB (f a)) (l:List α):isB (l.flatMap f):=fun v hv=>by
  obtain ⟨a,_,h2⟩:=List.mem_flatMap.1 hv
  exact h a v h2
theorem isB_putL (n:Nat) (l:List Int):isB (putL n l):=isB_flat (fun v=>isB_beI v n) l
theorem isB_pxB (p:Px):isB (pxB p):=isB_putL _ _
theorem isB_imB (m:Im):isB (imB_ m):=by
  unfold imB_
  split
  · exact isB_app (isB_app (isB_putL _ _) (isB_putL _ _)) (isB_pxB _)
  · exact isB_app (isB_app (isB_putL _ _) (isB_putL _ _)) (isB_flat isB_pxB _)
theorem isB_opB (o:Oq):isB (opB o):=by
  unfold opB
  exact isB_app (isB_app (isB_app (isB_app (isB_app (isB_putL _ _) (isB_putL _ _)) (isB_putL _ _)) (isB_putL _ _)) (isB_putL _ _)) (isB_putL _ _)
theorem isB_encB (s:Scr):isB (encB s):=by
  unfold encB
  refine isB_app (isB_app (isB_app (isB_app (isB_app (isB_app (isB_app ?_ (isB_putL _ _)) (isB_putL _ _)) (isB_putL _ _)) (isB_putL _ _)) (isB_flat isB_imB _)) (isB_putL _ _)) (isB_flat isB_opB _)
  intro v hv
  simp only [List.mem_cons,List.not_mem_nil,or_false] at hv
  omega
theorem norm_isU {s:Scr}:∀ m∈s.norm.ims,m.isU:=fun m hm=>by
  obtain ⟨m',_,rfl⟩:=List.mem_map.1 (show m∈s.ims.map Im.nrm from hm)
  unfold Im.nrm
  split
  · exact solidIm_isU _ _ _
  · exact imOf_isU _ _ _
theorem norm_enc {s:Scr} (h:s.inR):encS s.norm=(encB s,0):=by
  obtain ⟨h1,h2⟩:=dec_enc h
  have h3:=dec_in (isB_encB s) h1
  rw [h2] at h3
  unfold encS
  rw [if_pos h3.1.ok,h3.2]
theorem eqIms_map {α:Type} {f g:α→Im} {l:List α} (h:∀ a∈l,eqI (f a) (g a)=true):eqIms (l.map f) (l.map g)=true:=by
  unfold eqIms eqTo
  rw [decide_eq_true (by simp),Bool.true_and,List.all_eq_true]
  intro i hi
  have hi:i < (l.map f).length:=List.mem_range.1 hi
  have hl:i < l.length:=by simpa using hi
  rw [imN_of hi,imN_of (by simpa using hl),List.getElem_map,List.getElem_map]
  exact h _ (List.getElem_mem hl)
theorem str_eqI {m:Im} (hf:m.formed=true) (hm:m.w≤100∧m.h≤100) (more:Int):eqI (gStrided m more) m.nrm=true:=by
  have h:=nrm_eqI hf
  unfold eqI Im.equal at h ⊢
  rw [gStrided_formed hf hm more,gStrided_pixels hf hm more,(gStrided_so m more).1,(gStrided_so m more).2.1,(gStrided_so m more).2.2.1]
  rw [hf] at h
  exact h
theorem Scn.str_eq (s:Scn) (more:Int):eqS ⟨s.bits,s.c,s.gtw,s.gth,s.ord,s.ims.map (gStrided · more),s.ops⟩ s.scr.norm=true:=by
  have h1:eqIms (s.ims.map (gStrided · more)) (s.ims.map Im.nrm)=true:=eqIms_map fun m hm=>str_eqI (s.fine m hm).1 (s.fine m hm).2.1 more
  unfold eqS Scr.norm Scn.scr
  rw [h1]
  simp
def Leaves (P:Program) (ls:List TypeId) (n:Nat) (xs:List DV):Prop:=
  xs.length=n*ls.length∧∀ (j:Nat) d,xs[j]?=some d→∃ t',ls[j % ls.length]?=some t'∧∃ q,LeafD P q t' d
theorem Leaves.at_ {P:Program} {ls:List TypeId} {n:Nat} {xs:List DV} (h:Leaves P ls n xs) {k r:Nat} {t:TypeId} (hk:k < n) (hr:ls[r]?=some t):∃ d q,xs[k*ls.length+r]?=some d∧LeafD P q t d:=by
  obtain ⟨hn,hx⟩:=h
  have hr':r < ls.length:=(List.getElem?_eq_some_iff.1 hr).1
  have hle:(k+1)*ls.length≤n*ls.length:=Nat.mul_le_mul_right _ (by omega)
  rw [Nat.add_mul] at hle
  have hj:k*ls.length+r < xs.length:=by omega
  obtain ⟨t',a,q,b⟩:=hx _ _ (List.getElem?_eq_getElem hj)
  rw [Nat.mul_comm k,Nat.mul_add_mod,Nat.mod_eq_of_lt hr',hr] at a
  injection a with a
  subst a
  exact ⟨_,q,List.getElem?_eq_getElem hj,b⟩
theorem Leaves.int {P:Program} {ls:List TypeId} {n:Nat} {xs:List DV} (h:Leaves P ls n xs) {k r:Nat} {t:TypeId} {kk:IntKind} (hk:k < n) (hr:ls[r]?=some t) (hu:P.underlying t=some (.int kk)):xs[k*ls.length+r]?=some (.int kk (nAt xs (k*ls.length+r))):=by
  obtain ⟨d,q,e,b⟩:=h.at_ hk hr
  obtain ⟨v,rfl⟩:=b.int hu
  simp only [nAt,e]
theorem Leaves.bool {P:Program} {ls:List TypeId} {n:Nat} {xs:List DV} (h:Leaves P ls n xs) {k r:Nat} {t:TypeId} (hk:k < n) (hr:ls[r]?=some t) (hu:P.underlying t=some .bool):xs[k*ls.length+r]?=some (.bool (bAt xs (k*ls.length+r))):=by
  obtain ⟨d,q,e,b⟩:=h.at_ hk hr
  obtain ⟨v,rfl⟩:=b.bool hu
  simp only [bAt,e]
theorem Leaves.sl {P:Program} {ls:List TypeId} {n:Nat} {xs:List DV} (h:Leaves P ls n xs) {k r:Nat} {t e:TypeId} {ms:List TypeId} (hk:k < n) (hr:ls[r]?=some t) (hu:P.underlying t=some (.slice e)) (hl:lv P e=some ms) :
    xs[k*ls.length+r]?=some (.sl (lAt xs (k*ls.length+r)) (cAt xs (k*ls.length+r)))∧Leaves P ms (lAt xs (k*ls.length+r)) (cAt xs (k*ls.length+r)):=by
  obtain ⟨d,q,e1,b⟩:=h.at_ hk hr
  obtain ⟨m,ys,rfl,_,h1,h2⟩:=b.slice hu hl
  simp only [lAt,cAt,e1]
  exact ⟨trivial,h1,h2⟩
theorem Leaves.ints {P:Program} {t:TypeId} {n:Nat} {xs:List DV} (h:Leaves P [t] n xs) (hu:P.underlying t=some (.int .i64)):xs=is (ints xs)∧n=xs.length:=
  isI_of (by have:=h.1; simpa using this) fun j d hj=>by obtain ⟨t',a,q,b⟩:=h.2 j d hj; exact intLeaf1 hu a b
theorem Leaves.five {P:Program} {t:TypeId} {n:Nat} {xs:List DV} (h:Leaves P [t,t,t,t,t] n xs) (hu:P.underlying t=some (.int .i64)):Is5 n xs:=
  is5_of h.1 fun j d hj=>by obtain ⟨t',a,q,b⟩:=h.2 j d hj; exact intLeaf5 hu a b
theorem Leaves.pics {P:Program} {t ts e:TypeId} {n:Nat} {xs:List DV} (h:Leaves P [t,t,t,t,ts] n xs) (hu:P.underlying t=some (.int .i64)) (hs:P.underlying ts=some (.slice e)) (hl:lv P e=some [t,t,t,t,t]):IsPics n xs:=
  ⟨h.1,fun k hk=>⟨h.int (r:=0) hk rfl hu,h.int (r:=1) hk rfl hu,h.int (r:=2) hk rfl hu,h.int (r:=3) hk rfl hu,(h.sl (r:=4) hk rfl hs hl).1,(h.sl (r:=4) hk rfl hs hl).2.five hu⟩⟩
theorem Leaves.raws {P:Program} {t:TypeId} {n:Nat} {xs:List DV} (h:Leaves P [t,t,t,t,t,t,t,t,t,t,t] n xs) (hu:P.underlying t=some (.int .i64)):IsRws n xs:=by
  refine ⟨h.1,fun i hi=>?_⟩
  have hr:[t,t,t,t,t,t,t,t,t,t,t][i % 11]?=some t:=by
    have h2:i % 11 < 11:=Nat.mod_lt _ (by omega)
    generalize i % 11=r at *
    match r,h2 with
    | 0,_ | 1,_ | 2,_ | 3,_ | 4,_ | 5,_ | 6,_ | 7,_ | 8,_ | 9,_ | 10,_=>rfl
  have:=h.int (k:=i / 11) (r:=i % 11) (by omega) hr hu
  have e:i / 11*[t,t,t,t,t,t,t,t,t,t,t].length+i % 11=i:=by show i / 11*11+i % 11=i; omega
  rw [e] at this
  exact this
theorem blocks_eq {xs ys:List DV} {n m:Nat} (hx:xs.length=n*m) (hy:ys.length=n*m) (h:∀ k,k < n→∀ j,j < m→xs[k*m+j]?=ys[k*m+j]?):xs=ys:=by
  refine List.ext_getElem? fun i=>?_
  by_cases hi:i < n*m
  · have hm:0 < m:=by
      rcases Nat.eq_zero_or_pos m with h0 | h0
      · subst h0; simp at hi
      · exact h0
    have:=h (i / m) (Nat.div_lt_of_lt_mul (by rw [Nat.mul_comm]; exact hi)) (i % m) (Nat.mod_lt _ hm)
    have e:i / m*m+i % m=i:=by rw [Nat.mul_comm]; exact Nat.div_add_mod i m
    rw [e] at this
    exact this
  · rw [List.getElem?_eq_none (by omega),List.getElem?_eq_none (by omega)]
theorem Leaves.ops {P:Program} {t u b:TypeId} {n:Nat} {xs:List DV} (h:Leaves P [t,t,t,t,t,t,t,u,t,t,b,b] n xs) (ht:P.underlying t=some (.int .i64)) (hu:P.underlying u=some (.int .u16)) (hb:P.underlying b=some .bool):IsOps n xs:=by
  have hl:xs.length=n*12:=h.1
  have hn:(toOps xs).length=n:=by unfold toOps; rw [List.length_map,List.length_range,hl]; omega
  refine ⟨blocks_eq hl (by rw [ops_length,hn]) fun k hk j hj=>?_,hn.symm⟩
  have e:(toOps xs)[k]'(by omega)=oqAt xs (k*12):=by simp [toOps]
  rw [ops_get (by omega) j hj,e]
  have key:=fun r (hr:r < 12)=>h.at_ (k:=k) (r:=r) (t:=[t,t,t,t,t,t,t,u,t,t,b,b][r]) hk (List.getElem?_eq_getElem hr)
  match j,hj with
  | 0,_=>exact h.int (r:=0) hk rfl ht
  | 1,_=>exact h.int (r:=1) hk rfl ht
  | 2,_=>exact h.int (r:=2) hk rfl ht
  | 3,_=>exact h.int (r:=3) hk rfl ht
  | 4,_=>exact h.int (r:=4) hk rfl ht
  | 5,_=>exact h.int (r:=5) hk rfl ht
  | 6,_=>exact h.int (r:=6) hk rfl ht
  | 7,_=>exact h.int (r:=7) hk rfl hu
  | 8,_=>exact h.int (r:=8) hk rfl ht
  | 9,_=>exact h.int (r:=9) hk rfl ht
  | 10,_=>exact h.bool (r:=10) hk rfl hb
  | 11,_=>exact h.bool (r:=11) hk rfl hb
def IsBs (n:Nat) (xs:List DV):Prop:=xs.length=n∧∀ i,i < n→xs[i]?=some (.bool (bAt xs i))
theorem Leaves.bools {P:Program} {b:TypeId} {n:Nat} {xs:List DV} (h:Leaves P [b] n xs) (hb:P.underlying b=some .bool):IsBs n xs:=
  ⟨by have:=h.1; simpa using this,fun i hi=>by
    have:=h.bool (k:=i) (r:=0) hi rfl hb
    simpa using this⟩
end Go.Proofs.Ytlnfgagmiogkgaa
namespace Go.Proofs.Ytlnfgagmiogkgaa
open Go.RowKit
set_option linter.unusedVariables false
set_option linter.unusedSimpArgs false
attribute [local irreducible] Ans AnsO AnsG AnsN AnsI
set_option maxRecDepth 4000
def gamScriptRoundTrip:Gam where
 pure:=fun f xs=>
  if f=19 then (match xs with | [.d (.sl n xs)]=>some (RV.tup [RV.agg [dJ ((decR (ints (xs))).bits),dJ ((decR (ints (xs))).c.a),dJ ((decR (ints (xs))).c.b),dJ ((decR (ints (xs))).c.c),dJ ((decR (ints (xs))).c.d),dJ ((decR (ints (xs))).tw),dJ ((decR (ints (xs))).th),DV.sl ((decR (ints (xs))).ord.length) (is (decR (ints (xs))).ord),DV.sl ((decR (ints (xs))).ims.length) (ims (decR (ints (xs))).ims),DV.sl ((decR (ints (xs))).ops.length) (ops (decR (ints (xs))).ops)],RV.d (dJ (decE (ints (xs))))]) | _=>none) else
  if f=10 then (match xs with | [.agg [.int _ w,.int _ h,.bool so,.int _ c0,.int _ c1,.int _ c2,.int _ ca,.int _ cf,.int _ w0,.int _ h0,.int _ s0,.sl n0 xs0,.int _ w1,.int _ h1,.int _ s1,.sl n1 xs1,.int _ w2,.int _ h2,.int _ s2,.sl n2 xs2,.int _ w3,.int _ h3,.int _ s3,.sl n3 xs3,.int _ w4,.int _ h4,.int _ s4,.sl n4 xs4],.d (.int _ more)]=>some (RV.agg [dJ ((gStrided ⟨w,h,so,⟨c0,c1,c2,ca,cf⟩,⟨w0,h0,s0,n0,xs0⟩,⟨w1,h1,s1,n1,xs1⟩,⟨w2,h2,s2,n2,xs2⟩,⟨w3,h3,s3,n3,xs3⟩,⟨w4,h4,s4,n4,xs4⟩⟩ more).w),dJ ((gStrided ⟨w,h,so,⟨c0,c1,c2,ca,cf⟩,⟨w0,h0,s0,n0,xs0⟩,⟨w1,h1,s1,n1,xs1⟩,⟨w2,h2,s2,n2,xs2⟩,⟨w3,h3,s3,n3,xs3⟩,⟨w4,h4,s4,n4,xs4⟩⟩ more).h),dQ ((gStrided ⟨w,h,so,⟨c0,c1,c2,ca,cf⟩,⟨w0,h0,s0,n0,xs0⟩,⟨w1,h1,s1,n1,xs1⟩,⟨w2,h2,s2,n2,xs2⟩,⟨w3,h3,s3,n3,xs3⟩,⟨w4,h4,s4,n4,xs4⟩⟩ more).so),dK (((gStrided ⟨w,h,so,⟨c0,c1,c2,ca,cf⟩,⟨w0,h0,s0,n0,xs0⟩,⟨w1,h1,s1,n1,xs1⟩,⟨w2,h2,s2,n2,xs2⟩,⟨w3,h3,s3,n3,xs3⟩,⟨w4,h4,s4,n4,xs4⟩⟩ more).c).a),dK (((gStrided ⟨w,h,so,⟨c0,c1,c2,ca,cf⟩,⟨w0,h0,s0,n0,xs0⟩,⟨w1,h1,s1,n1,xs1⟩,⟨w2,h2,s2,n2,xs2⟩,⟨w3,h3,s3,n3,xs3⟩,⟨w4,h4,s4,n4,xs4⟩⟩ more).c).b),dK (((gStrided ⟨w,h,so,⟨c0,c1,c2,ca,cf⟩,⟨w0,h0,s0,n0,xs0⟩,⟨w1,h1,s1,n1,xs1⟩,⟨w2,h2,s2,n2,xs2⟩,⟨w3,h3,s3,n3,xs3⟩,⟨w4,h4,s4,n4,xs4⟩⟩ more).c).c),dK (((gStrided ⟨w,h,so,⟨c0,c1,c2,ca,cf⟩,⟨w0,h0,s0,n0,xs0⟩,⟨w1,h1,s1,n1,xs1⟩,⟨w2,h2,s2,n2,xs2⟩,⟨w3,h3,s3,n3,xs3⟩,⟨w4,h4,s4,n4,xs4⟩⟩ more).c).al),dK (((gStrided ⟨w,h,so,⟨c0,c1,c2,ca,cf⟩,⟨w0,h0,s0,n0,xs0⟩,⟨w1,h1,s1,n1,xs1⟩,⟨w2,h2,s2,n2,xs2⟩,⟨w3,h3,s3,n3,xs3⟩,⟨w4,h4,s4,n4,xs4⟩⟩ more).c).f),dJ (((gStrided ⟨w,h,so,⟨c0,c1,c2,ca,cf⟩,⟨w0,h0,s0,n0,xs0⟩,⟨w1,h1,s1,n1,xs1⟩,⟨w2,h2,s2,n2,xs2⟩,⟨w3,h3,s3,n3,xs3⟩,⟨w4,h4,s4,n4,xs4⟩⟩ more).p0).w),dJ (((gStrided ⟨w,h,so,⟨c0,c1,c2,ca,cf⟩,⟨w0,h0,s0,n0,xs0⟩,⟨w1,h1,s1,n1,xs1⟩,⟨w2,h2,s2,n2,xs2⟩,⟨w3,h3,s3,n3,xs3⟩,⟨w4,h4,s4,n4,xs4⟩⟩ more).p0).h),dJ (((gStrided ⟨w,h,so,⟨c0,c1,c2,ca,cf⟩,⟨w0,h0,s0,n0,xs0⟩,⟨w1,h1,s1,n1,xs1⟩,⟨w2,h2,s2,n2,xs2⟩,⟨w3,h3,s3,n3,xs3⟩,⟨w4,h4,s4,n4,xs4⟩⟩ more).p0).s),DV.sl (((gStrided ⟨w,h,so,⟨c0,c1,c2,ca,cf⟩,⟨w0,h0,s0,n0,xs0⟩,⟨w1,h1,s1,n1,xs1⟩,⟨w2,h2,s2,n2,xs2⟩,⟨w3,h3,s3,n3,xs3⟩,⟨w4,h4,s4,n4,xs4⟩⟩ more).p0).n) (((gStrided ⟨w,h,so,⟨c0,c1,c2,ca,cf⟩,⟨w0,h0,s0,n0,xs0⟩,⟨w1,h1,s1,n1,xs1⟩,⟨w2,h2,s2,n2,xs2⟩,⟨w3,h3,s3,n3,xs3⟩,⟨w4,h4,s4,n4,xs4⟩⟩ more).p0).xs),dJ (((gStrided ⟨w,h,so,⟨c0,c1,c2,ca,cf⟩,⟨w0,h0,s0,n0,xs0⟩,⟨w1,h1,s1,n1,xs1⟩,⟨w2,h2,s2,n2,xs2⟩,⟨w3,h3,s3,n3,xs3⟩,⟨w4,h4,s4,n4,xs4⟩⟩ more).p1).w),dJ (((gStrided ⟨w,h,so,⟨c0,c1,c2,ca,cf⟩,⟨w0,h0,s0,n0,xs0⟩,⟨w1,h1,s1,n1,xs1⟩,⟨w2,h2,s2,n2,xs2⟩,⟨w3,h3,s3,n3,xs3⟩,⟨w4,h4,s4,n4,xs4⟩⟩ more).p1).h),dJ (((gStrided ⟨w,h,so,⟨c0,c1,c2,ca,cf⟩,⟨w0,h0,s0,n0,xs0⟩,⟨w1,h1,s1,n1,xs1⟩,⟨w2,h2,s2,n2,xs2⟩,⟨w3,h3,s3,n3,xs3⟩,⟨w4,h4,s4,n4,xs4⟩⟩ more).p1).s),DV.sl (((gStrided ⟨w,h,so,⟨c0,c1,c2,ca,cf⟩,⟨w0,h0,s0,n0,xs0⟩,⟨w1,h1,s1,n1,xs1⟩,⟨w2,h2,s2,n2,xs2⟩,⟨w3,h3,s3,n3,xs3⟩,⟨w4,h4,s4,n4,xs4⟩⟩ more).p1).n) (((gStrided ⟨w,h,so,⟨c0,c1,c2,ca,cf⟩,⟨w0,h0,s0,n0,xs0⟩,⟨w1,h1,s1,n1,xs1⟩,⟨w2,h2,s2,n2,xs2⟩,⟨w3,h3,s3,n3,xs3⟩,⟨w4,h4,s4,n4,xs4⟩⟩ more).p1).xs),dJ (((gStrided ⟨w,h,so,⟨c0,c1,c2,ca,cf⟩,⟨w0,h0,s0,n0,xs0⟩,⟨w1,h1,s1,n1,xs1⟩,⟨w2,h2,s2,n2,xs2⟩,⟨w3,h3,s3,n3,xs3⟩,⟨w4,h4,s4,n4,xs4⟩⟩ more).p2).w),dJ (((gStrided ⟨w,h,so,⟨c0,c1,c2,ca,cf⟩,⟨w0,h0,s0,n0,xs0⟩,⟨w1,h1,s1,n1,xs1⟩,⟨w2,h2,s2,n2,xs2⟩,⟨w3,h3,s3,n3,xs3⟩,⟨w4,h4,s4,n4,xs4⟩⟩ more).p2).h),dJ (((gStrided ⟨w,h,so,⟨c0,c1,c2,ca,cf⟩,⟨w0,h0,s0,n0,xs0⟩,⟨w1,h1,s1,n1,xs1⟩,⟨w2,h2,s2,n2,xs2⟩,⟨w3,h3,s3,n3,xs3⟩,⟨w4,h4,s4,n4,xs4⟩⟩ more).p2).s),DV.sl (((gStrided ⟨w,h,so,⟨c0,c1,c2,ca,cf⟩,⟨w0,h0,s0,n0,xs0⟩,⟨w1,h1,s1,n1,xs1⟩,⟨w2,h2,s2,n2,xs2⟩,⟨w3,h3,s3,n3,xs3⟩,⟨w4,h4,s4,n4,xs4⟩⟩ more).p2).n) (((gStrided ⟨w,h,so,⟨c0,c1,c2,ca,cf⟩,⟨w0,h0,s0,n0,xs0⟩,⟨w1,h1,s1,n1,xs1⟩,⟨w2,h2,s2,n2,xs2⟩,⟨w3,h3,s3,n3,xs3⟩,⟨w4,h4,s4,n4,xs4⟩⟩ more).p2).xs),dJ (((gStrided ⟨w,h,so,⟨c0,c1,c2,ca,cf⟩,⟨w0,h0,s0,n0,xs0⟩,⟨w1,h1,s1,n1,xs1⟩,⟨w2,h2,s2,n2,xs2⟩,⟨w3,h3,s3,n3,xs3⟩,⟨w4,h4,s4,n4,xs4⟩⟩ more).p3).w),dJ (((gStrided ⟨w,h,so,⟨c0,c1,c2,ca,cf⟩,⟨w0,h0,s0,n0,xs0⟩,⟨w1,h1,s1,n1,xs1⟩,⟨w2,h2,s2,n2,xs2⟩,⟨w3,h3,s3,n3,xs3⟩,⟨w4,h4,s4,n4,xs4⟩⟩ more).p3).h),dJ (((gStrided ⟨w,h,so,⟨c0,c1,c2,ca,cf⟩,⟨w0,h0,s0,n0,xs0⟩,⟨w1,h1,s1,n1,xs1⟩,⟨w2,h2,s2,n2,xs2⟩,⟨w3,h3,s3,n3,xs3⟩,⟨w4,h4,s4,n4,xs4⟩⟩ more).p3).s),DV.sl (((gStrided ⟨w,h,so,⟨c0,c1,c2,ca,cf⟩,⟨w0,h0,s0,n0,xs0⟩,⟨w1,h1,s1,n1,xs1⟩,⟨w2,h2,s2,n2,xs2⟩,⟨w3,h3,s3,n3,xs3⟩,⟨w4,h4,s4,n4,xs4⟩⟩ more).p3).n) (((gStrided ⟨w,h,so,⟨c0,c1,c2,ca,cf⟩,⟨w0,h0,s0,n0,xs0⟩,⟨w1,h1,s1,n1,xs1⟩,⟨w2,h2,s2,n2,xs2⟩,⟨w3,h3,s3,n3,xs3⟩,⟨w4,h4,s4,n4,xs4⟩⟩ more).p3).xs),dJ (((gStrided ⟨w,h,so,⟨c0,c1,c2,ca,cf⟩,⟨w0,h0,s0,n0,xs0⟩,⟨w1,h1,s1,n1,xs1⟩,⟨w2,h2,s2,n2,xs2⟩,⟨w3,h3,s3,n3,xs3⟩,⟨w4,h4,s4,n4,xs4⟩⟩ more).p4).w),dJ (((gStrided ⟨w,h,so,⟨c0,c1,c2,ca,cf⟩,⟨w0,h0,s0,n0,xs0⟩,⟨w1,h1,s1,n1,xs1⟩,⟨w2,h2,s2,n2,xs2⟩,⟨w3,h3,s3,n3,xs3⟩,⟨w4,h4,s4,n4,xs4⟩⟩ more).p4).h),dJ (((gStrided ⟨w,h,so,⟨c0,c1,c2,ca,cf⟩,⟨w0,h0,s0,n0,xs0⟩,⟨w1,h1,s1,n1,xs1⟩,⟨w2,h2,s2,n2,xs2⟩,⟨w3,h3,s3,n3,xs3⟩,⟨w4,h4,s4,n4,xs4⟩⟩ more).p4).s),DV.sl (((gStrided ⟨w,h,so,⟨c0,c1,c2,ca,cf⟩,⟨w0,h0,s0,n0,xs0⟩,⟨w1,h1,s1,n1,xs1⟩,⟨w2,h2,s2,n2,xs2⟩,⟨w3,h3,s3,n3,xs3⟩,⟨w4,h4,s4,n4,xs4⟩⟩ more).p4).n) (((gStrided ⟨w,h,so,⟨c0,c1,c2,ca,cf⟩,⟨w0,h0,s0,n0,xs0⟩,⟨w1,h1,s1,n1,xs1⟩,⟨w2,h2,s2,n2,xs2⟩,⟨w3,h3,s3,n3,xs3⟩,⟨w4,h4,s4,n4,xs4⟩⟩ more).p4).xs)]) | _=>none) else
  if f=13 then (match xs with | []=>some (RV.d (dQ true)) | _=>none) else
  if f=15 then (match xs with | [.d (.sl n xs),.d (.sl m ys)]=>some (RV.d (dQ ((strD (xs)).toList==(strD (ys)).toList))) | _=>none) else
  if f=22 then (match xs with | [.agg [.int _ bits,.int _ cx0,.int _ cy0,.int _ cx1,.int _ cy1,.int _ tw,.int _ th,.sl on oxs,.sl mn mxs,.sl pn pxs],.agg [.int _ bitsq,.int _ cx0q,.int _ cy0q,.int _ cx1q,.int _ cy1q,.int _ twq,.int _ thq,.sl onq oxsq,.sl mnq mxsq,.sl pnq pxsq]]=>some (RV.d (dQ (eqS (⟨bits,⟨cx0,cy0,cx1,cy1⟩,tw,th,ints oxs,toIms mxs,toOps pxs⟩:Scr) (⟨bitsq,⟨cx0q,cy0q,cx1q,cy1q⟩,twq,thq,ints oxsq,toIms mxsq,toOps pxsq⟩:Scr)))) | _=>none) else
  if f=21 then (match xs with | [.agg [.int _ bits,.int _ cx0,.int _ cy0,.int _ cx1,.int _ cy1,.int _ tw,.int _ th,.sl on oxs,.sl mn mxs,.sl pn pxs],.agg [.int _ bitsq,.int _ cx0q,.int _ cy0q,.int _ cx1q,.int _ cy1q,.int _ twq,.int _ thq,.sl onq oxsq,.sl mnq mxsq,.sl pnq pxsq]]=>some (RV.d (dQ (eqS (⟨bits,⟨cx0,cy0,cx1,cy1⟩,tw,th,ints oxs,toIms mxs,toOps pxs⟩:Scr) (⟨bitsq,⟨cx0q,cy0q,cx1q,cy1q⟩,twq,thq,ints oxsq,toIms mxsq,toOps pxsq⟩:Scr)))) | _=>none) else
  none
 modes:=fun f=>
  if f=9 then some ([true],0,3) else
  if f=11 then some ([true],0,1) else
  if f=11 then some ([true],0,1) else
  none
 proc:=fun f xs bs=>
  if f=9 then (match xs,bs with | [AV.agg [Cl.d (DV.int _ sb),Cl.d (DV.int _ sx),Cl.d (DV.int _ sy),Cl.d (DV.int _ sw),Cl.d (DV.int _ sh),Cl.d (DV.int _ stw),Cl.d (DV.int _ sth),Cl.d (DV.sl son soxs),Cl.d (DV.sl spn spxs),Cl.d (DV.sl srn srxs)]],[]=>some ⟨AV.agg [cJ ((((⟨sb,sx,sy,sw,sh,stw,sth,son,soxs,spn,spxs,srn,srxs⟩:Scn)).bits)),cJ ((((⟨sb,sx,sy,sw,sh,stw,sth,son,soxs,spn,spxs,srn,srxs⟩:Scn)).c.a)),cJ ((((⟨sb,sx,sy,sw,sh,stw,sth,son,soxs,spn,spxs,srn,srxs⟩:Scn)).c.b)),cJ ((((⟨sb,sx,sy,sw,sh,stw,sth,son,soxs,spn,spxs,srn,srxs⟩:Scn)).c.c)),cJ ((((⟨sb,sx,sy,sw,sh,stw,sth,son,soxs,spn,spxs,srn,srxs⟩:Scn)).c.d)),cJ ((((⟨sb,sx,sy,sw,sh,stw,sth,son,soxs,spn,spxs,srn,srxs⟩:Scn)).gtw)),cJ ((((⟨sb,sx,sy,sw,sh,stw,sth,son,soxs,spn,spxs,srn,srxs⟩:Scn)).gth)),Cl.ref 0 (((⟨sb,sx,sy,sw,sh,stw,sth,son,soxs,spn,spxs,srn,srxs⟩:Scn)).ord.length),Cl.ref 1 (((⟨sb,sx,sy,sw,sh,stw,sth,son,soxs,spn,spxs,srn,srxs⟩:Scn)).ims.length),Cl.ref 2 (((⟨sb,sx,sy,sw,sh,stw,sth,son,soxs,spn,spxs,srn,srxs⟩:Scn)).ops.length)],[Bx.row 3 1 (is ((⟨sb,sx,sy,sw,sh,stw,sth,son,soxs,spn,spxs,srn,srxs⟩:Scn)).ord),Bx.row 43 28 (ims ((⟨sb,sx,sy,sw,sh,stw,sth,son,soxs,spn,spxs,srn,srxs⟩:Scn)).ims),Bx.row 55 12 (ops ((⟨sb,sx,sy,sw,sh,stw,sth,son,soxs,spn,spxs,srn,srxs⟩:Scn)).ops)],false⟩ | _,_=>none) else
  if f=11 then (match xs,bs with | [AV.agg [Cl.d (DV.int _ bits),Cl.d (DV.int _ cx0),Cl.d (DV.int _ cy0),Cl.d (DV.int _ cx1),Cl.d (DV.int _ cy1),Cl.d (DV.int _ tw),Cl.d (DV.int _ th),Cl.d (DV.sl on oxs),Cl.d (DV.sl mn mxs),Cl.d (DV.sl pn pxs)]],[]=>some ⟨AV.tup [AV.one (Cl.ref 0 ((encS (⟨bits,⟨cx0,cy0,cx1,cy1⟩,tw,th,ints oxs,toIms mxs,toOps pxs⟩:Scr)).1.length)),AV.one (cJ (((encS (⟨bits,⟨cx0,cy0,cx1,cy1⟩,tw,th,ints oxs,toIms mxs,toOps pxs⟩:Scr)).2)))],[Bx.row 5 1 (u8s (encS (⟨bits,⟨cx0,cy0,cx1,cy1⟩,tw,th,ints oxs,toIms mxs,toOps pxs⟩:Scr)).1)],true⟩ | _,_=>none) else
  if f=11 then (match xs,bs with | [AV.agg [Cl.d (DV.int _ bits),Cl.d (DV.int _ cx0),Cl.d (DV.int _ cy0),Cl.d (DV.int _ cx1),Cl.d (DV.int _ cy1),Cl.d (DV.int _ tw),Cl.d (DV.int _ th),Cl.d (DV.sl on oxs),Cl.d (DV.sl mn mxs),Cl.d (DV.sl pn pxs)]],[]=>some ⟨AV.tup [AV.one (Cl.ref 0 ((encS (⟨bits,⟨cx0,cy0,cx1,cy1⟩,tw,th,ints oxs,toIms mxs,toOps pxs⟩:Scr)).1.length)),AV.one (cJ (((encS (⟨bits,⟨cx0,cy0,cx1,cy1⟩,tw,th,ints oxs,toIms mxs,toOps pxs⟩:Scr)).2)))],[Bx.row 5 1 (u8s (encS (⟨bits,⟨cx0,cy0,cx1,cy1⟩,tw,th,ints oxs,toIms mxs,toOps pxs⟩:Scr)).1)],true⟩ | _,_=>none) else
  none
 iter:=fun f cs=>
  none
def L18_ScriptRoundTrip_ann (s:Scn) (more:Int):Ann:=(Ann.seq Ann.leaf (Ann.seq Ann.leaf (Ann.seq Ann.leaf (Ann.seq Ann.leaf (Ann.seq Ann.leaf (Ann.seq (Ann.seq Ann.leaf (Ann.loop ⟨Nat,fun k=>k≤s.ims.length,fun k=>⟨[(1,AV.one (cJ (more))),(5,AV.one (Cl.ptr 5 0)),(6,AV.one (Cl.ref 1017 ((encS (⟨((s).bits),⟨((s).c.a),((s).c.b),((s).c.c),((s).c.d)⟩,((s).gtw),((s).gth),ints (is (s).ord),toIms (ims (s).ims),toOps (ops (s).ops)⟩:Scr)).1.length))),(7,AV.one (cJ (((encS (⟨((s).bits),⟨((s).c.a),((s).c.b),((s).c.c),((s).c.d)⟩,((s).gtw),((s).gth),ints (is (s).ord),toIms (ims (s).ims),toOps (ops (s).ops)⟩:Scr)).2)))),(8,AV.one (Cl.ptr 8 0)),(9,AV.one (cJ ((decE (ints ((u8s (encS (⟨((s).bits),⟨((s).c.a),((s).c.b),((s).c.c),((s).c.d)⟩,((s).gtw),((s).gth),ints (is (s).ord),toIms (ims (s).ims),toOps (ops (s).ops)⟩:Scr)).1))))))),(10,AV.one (Cl.ref 1027 ((encS (⟨((decR (ints ((u8s (encS (⟨((s).bits),⟨((s).c.a),((s).c.b),((s).c.c),((s).c.d)⟩,((s).gtw),((s).gth),ints (is (s).ord),toIms (ims (s).ims),toOps (ops (s).ops)⟩:Scr)).1)))).bits),⟨((decR (ints ((u8s (encS (⟨((s).bits),⟨((s).c.a),((s).c.b),((s).c.c),((s).c.d)⟩,((s).gtw),((s).gth),ints (is (s).ord),toIms (ims (s).ims),toOps (ops (s).ops)⟩:Scr)).1)))).c.a),((decR (ints ((u8s (encS (⟨((s).bits),⟨((s).c.a),((s).c.b),((s).c.c),((s).c.d)⟩,((s).gtw),((s).gth),ints (is (s).ord),toIms (ims (s).ims),toOps (ops (s).ops)⟩:Scr)).1)))).c.b),((decR (ints ((u8s (encS (⟨((s).bits),⟨((s).c.a),((s).c.b),((s).c.c),((s).c.d)⟩,((s).gtw),((s).gth),ints (is (s).ord),toIms (ims (s).ims),toOps (ops (s).ops)⟩:Scr)).1)))).c.c),((decR (ints ((u8s (encS (⟨((s).bits),⟨((s).c.a),((s).c.b),((s).c.c),((s).c.d)⟩,((s).gtw),((s).gth),ints (is (s).ord),toIms (ims (s).ims),toOps (ops (s).ops)⟩:Scr)).1)))).c.d)⟩,((decR (ints ((u8s (encS (⟨((s).bits),⟨((s).c.a),((s).c.b),((s).c.c),((s).c.d)⟩,((s).gtw),((s).gth),ints (is (s).ord),toIms (ims (s).ims),toOps (ops (s).ops)⟩:Scr)).1)))).tw),((decR (ints ((u8s (encS (⟨((s).bits),⟨((s).c.a),((s).c.b),((s).c.c),((s).c.d)⟩,((s).gtw),((s).gth),ints (is (s).ord),toIms (ims (s).ims),toOps (ops (s).ops)⟩:Scr)).1)))).th),ints (is (decR (ints ((u8s (encS (⟨((s).bits),⟨((s).c.a),((s).c.b),((s).c.c),((s).c.d)⟩,((s).gtw),((s).gth),ints (is (s).ord),toIms (ims (s).ims),toOps (ops (s).ops)⟩:Scr)).1)))).ord),toIms (ims (decR (ints ((u8s (encS (⟨((s).bits),⟨((s).c.a),((s).c.b),((s).c.c),((s).c.d)⟩,((s).gtw),((s).gth),ints (is (s).ord),toIms (ims (s).ims),toOps (ops (s).ops)⟩:Scr)).1)))).ims),toOps (ops (decR (ints ((u8s (encS (⟨((s).bits),⟨((s).c.a),((s).c.b),((s).c.c),((s).c.d)⟩,((s).gtw),((s).gth),ints (is (s).ord),toIms (ims (s).ims),toOps (ops (s).ops)⟩:Scr)).1)))).ops)⟩:Scr)).1.length))),(11,AV.one (cJ (((encS (⟨((decR (ints ((u8s (encS (⟨((s).bits),⟨((s).c.a),((s).c.b),((s).c.c),((s).c.d)⟩,((s).gtw),((s).gth),ints (is (s).ord),toIms (ims (s).ims),toOps (ops (s).ops)⟩:Scr)).1)))).bits),⟨((decR (ints ((u8s (encS (⟨((s).bits),⟨((s).c.a),((s).c.b),((s).c.c),((s).c.d)⟩,((s).gtw),((s).gth),ints (is (s).ord),toIms (ims (s).ims),toOps (ops (s).ops)⟩:Scr)).1)))).c.a),((decR (ints ((u8s (encS (⟨((s).bits),⟨((s).c.a),((s).c.b),((s).c.c),((s).c.d)⟩,((s).gtw),((s).gth),ints (is (s).ord),toIms (ims (s).ims),toOps (ops (s).ops)⟩:Scr)).1)))).c.b),((decR (ints ((u8s (encS (⟨((s).bits),⟨((s).c.a),((s).c.b),((s).c.c),((s).c.d)⟩,((s).gtw),((s).gth),ints (is (s).ord),toIms (ims (s).ims),toOps (ops (s).ops)⟩:Scr)).1)))).c.c),((decR (ints ((u8s (encS (⟨((s).bits),⟨((s).c.a),((s).c.b),((s).c.c),((s).c.d)⟩,((s).gtw),((s).gth),ints (is (s).ord),toIms (ims (s).ims),toOps (ops (s).ops)⟩:Scr)).1)))).c.d)⟩,((decR (ints ((u8s (encS (⟨((s).bits),⟨((s).c.a),((s).c.b),((s).c.c),((s).c.d)⟩,((s).gtw),((s).gth),ints (is (s).ord),toIms (ims (s).ims),toOps (ops (s).ops)⟩:Scr)).1)))).tw),((decR (ints ((u8s (encS (⟨((s).bits),⟨((s).c.a),((s).c.b),((s).c.c),((s).c.d)⟩,((s).gtw),((s).gth),ints (is (s).ord),toIms (ims (s).ims),toOps (ops (s).ops)⟩:Scr)).1)))).th),ints (is (decR (ints ((u8s (encS (⟨((s).bits),⟨((s).c.a),((s).c.b),((s).c.c),((s).c.d)⟩,((s).gtw),((s).gth),ints (is (s).ord),toIms (ims (s).ims),toOps (ops (s).ops)⟩:Scr)).1)))).ord),toIms (ims (decR (ints ((u8s (encS (⟨((s).bits),⟨((s).c.a),((s).c.b),((s).c.c),((s).c.d)⟩,((s).gtw),((s).gth),ints (is (s).ord),toIms (ims (s).ims),toOps (ops (s).ops)⟩:Scr)).1)))).ims),toOps (ops (decR (ints ((u8s (encS (⟨((s).bits),⟨((s).c.a),((s).c.b),((s).c.c),((s).c.d)⟩,((s).gtw),((s).gth),ints (is (s).ord),toIms (ims (s).ims),toOps (ops (s).ops)⟩:Scr)).1)))).ops)⟩:Scr)).2)))),(12,AV.one (cJ (((k:Nat):Int))))],[(5,Bx.cells [cJ (((s).bits)),cJ (((s).c.a)),cJ (((s).c.b)),cJ (((s).c.c)),cJ (((s).c.d)),cJ (((s).gtw)),cJ (((s).gth)),Cl.ref 9000 ((s).ord.length),Cl.ref 9001 s.ims.length,Cl.ref 9002 ((s).ops.length)]),(1017,Bx.ice (u8s (encS (⟨((s).bits),⟨((s).c.a),((s).c.b),((s).c.c),((s).c.d)⟩,((s).gtw),((s).gth),ints (is (s).ord),toIms (ims (s).ims),toOps (ops (s).ops)⟩:Scr)).1)),(8,Bx.cells [cJ (((decR (ints ((u8s (encS (⟨((s).bits),⟨((s).c.a),((s).c.b),((s).c.c),((s).c.d)⟩,((s).gtw),((s).gth),ints (is (s).ord),toIms (ims (s).ims),toOps (ops (s).ops)⟩:Scr)).1)))).bits)),cJ (((decR (ints ((u8s (encS (⟨((s).bits),⟨((s).c.a),((s).c.b),((s).c.c),((s).c.d)⟩,((s).gtw),((s).gth),ints (is (s).ord),toIms (ims (s).ims),toOps (ops (s).ops)⟩:Scr)).1)))).c.a)),cJ (((decR (ints ((u8s (encS (⟨((s).bits),⟨((s).c.a),((s).c.b),((s).c.c),((s).c.d)⟩,((s).gtw),((s).gth),ints (is (s).ord),toIms (ims (s).ims),toOps (ops (s).ops)⟩:Scr)).1)))).c.b)),cJ (((decR (ints ((u8s (encS (⟨((s).bits),⟨((s).c.a),((s).c.b),((s).c.c),((s).c.d)⟩,((s).gtw),((s).gth),ints (is (s).ord),toIms (ims (s).ims),toOps (ops (s).ops)⟩:Scr)).1)))).c.c)),cJ (((decR (ints ((u8s (encS (⟨((s).bits),⟨((s).c.a),((s).c.b),((s).c.c),((s).c.d)⟩,((s).gtw),((s).gth),ints (is (s).ord),toIms (ims (s).ims),toOps (ops (s).ops)⟩:Scr)).1)))).c.d)),cJ (((decR (ints ((u8s (encS (⟨((s).bits),⟨((s).c.a),((s).c.b),((s).c.c),((s).c.d)⟩,((s).gtw),((s).gth),ints (is (s).ord),toIms (ims (s).ims),toOps (ops (s).ops)⟩:Scr)).1)))).tw)),cJ (((decR (ints ((u8s (encS (⟨((s).bits),⟨((s).c.a),((s).c.b),((s).c.c),((s).c.d)⟩,((s).gtw),((s).gth),ints (is (s).ord),toIms (ims (s).ims),toOps (ops (s).ops)⟩:Scr)).1)))).th)),Cl.d (DV.sl ((decR (ints ((u8s (encS (⟨((s).bits),⟨((s).c.a),((s).c.b),((s).c.c),((s).c.d)⟩,((s).gtw),((s).gth),ints (is (s).ord),toIms (ims (s).ims),toOps (ops (s).ops)⟩:Scr)).1)))).ord.length) (is (decR (ints ((u8s (encS (⟨((s).bits),⟨((s).c.a),((s).c.b),((s).c.c),((s).c.d)⟩,((s).gtw),((s).gth),ints (is (s).ord),toIms (ims (s).ims),toOps (ops (s).ops)⟩:Scr)).1)))).ord)),Cl.d (DV.sl ((decR (ints ((u8s (encS (⟨((s).bits),⟨((s).c.a),((s).c.b),((s).c.c),((s).c.d)⟩,((s).gtw),((s).gth),ints (is (s).ord),toIms (ims (s).ims),toOps (ops (s).ops)⟩:Scr)).1)))).ims.length) (ims (decR (ints ((u8s (encS (⟨((s).bits),⟨((s).c.a),((s).c.b),((s).c.c),((s).c.d)⟩,((s).gtw),((s).gth),ints (is (s).ord),toIms (ims (s).ims),toOps (ops (s).ops)⟩:Scr)).1)))).ims)),Cl.d (DV.sl ((decR (ints ((u8s (encS (⟨((s).bits),⟨((s).c.a),((s).c.b),((s).c.c),((s).c.d)⟩,((s).gtw),((s).gth),ints (is (s).ord),toIms (ims (s).ims),toOps (ops (s).ops)⟩:Scr)).1)))).ops.length) (ops (decR (ints ((u8s (encS (⟨((s).bits),⟨((s).c.a),((s).c.b),((s).c.c),((s).c.d)⟩,((s).gtw),((s).gth),ints (is (s).ord),toIms (ims (s).ims),toOps (ops (s).ops)⟩:Scr)).1)))).ops))]),(1027,Bx.row 5 1 (u8s (encS (⟨((decR (ints ((u8s (encS (⟨((s).bits),⟨((s).c.a),((s).c.b),((s).c.c),((s).c.d)⟩,((s).gtw),((s).gth),ints (is (s).ord),toIms (ims (s).ims),toOps (ops (s).ops)⟩:Scr)).1)))).bits),⟨((decR (ints ((u8s (encS (⟨((s).bits),⟨((s).c.a),((s).c.b),((s).c.c),((s).c.d)⟩,((s).gtw),((s).gth),ints (is (s).ord),toIms (ims (s).ims),toOps (ops (s).ops)⟩:Scr)).1)))).c.a),((decR (ints ((u8s (encS (⟨((s).bits),⟨((s).c.a),((s).c.b),((s).c.c),((s).c.d)⟩,((s).gtw),((s).gth),ints (is (s).ord),toIms (ims (s).ims),toOps (ops (s).ops)⟩:Scr)).1)))).c.b),((decR (ints ((u8s (encS (⟨((s).bits),⟨((s).c.a),((s).c.b),((s).c.c),((s).c.d)⟩,((s).gtw),((s).gth),ints (is (s).ord),toIms (ims (s).ims),toOps (ops (s).ops)⟩:Scr)).1)))).c.c),((decR (ints ((u8s (encS (⟨((s).bits),⟨((s).c.a),((s).c.b),((s).c.c),((s).c.d)⟩,((s).gtw),((s).gth),ints (is (s).ord),toIms (ims (s).ims),toOps (ops (s).ops)⟩:Scr)).1)))).c.d)⟩,((decR (ints ((u8s (encS (⟨((s).bits),⟨((s).c.a),((s).c.b),((s).c.c),((s).c.d)⟩,((s).gtw),((s).gth),ints (is (s).ord),toIms (ims (s).ims),toOps (ops (s).ops)⟩:Scr)).1)))).tw),((decR (ints ((u8s (encS (⟨((s).bits),⟨((s).c.a),((s).c.b),((s).c.c),((s).c.d)⟩,((s).gtw),((s).gth),ints (is (s).ord),toIms (ims (s).ims),toOps (ops (s).ops)⟩:Scr)).1)))).th),ints (is (decR (ints ((u8s (encS (⟨((s).bits),⟨((s).c.a),((s).c.b),((s).c.c),((s).c.d)⟩,((s).gtw),((s).gth),ints (is (s).ord),toIms (ims (s).ims),toOps (ops (s).ops)⟩:Scr)).1)))).ord),toIms (ims (decR (ints ((u8s (encS (⟨((s).bits),⟨((s).c.a),((s).c.b),((s).c.c),((s).c.d)⟩,((s).gtw),((s).gth),ints (is (s).ord),toIms (ims (s).ims),toOps (ops (s).ops)⟩:Scr)).1)))).ims),toOps (ops (decR (ints ((u8s (encS (⟨((s).bits),⟨((s).c.a),((s).c.b),((s).c.c),((s).c.d)⟩,((s).gtw),((s).gth),ints (is (s).ord),toIms (ims (s).ims),toOps (ops (s).ops)⟩:Scr)).1)))).ops)⟩:Scr)).1)),(9000,Bx.row 3 1 (is (s).ord)),(9001,Bx.row 43 28 (ims (strTo s.ims more k))),(9002,Bx.row 55 12 (ops (s).ops))]⟩,fun k=>s.ims.length - k⟩ fun k=>Ann.leaf)) Ann.leaf))))))
theorem L18_ScriptRoundTrip_vc (s:Scn) (more:Int):vcg Try.prog gamScriptRoundTrip 76 (bodyOf Try.f7) (L18_ScriptRoundTrip_ann s more) kn0 (start [RV.agg [DV.int .i64 s.b,DV.int .i64 s.x,DV.int .i64 s.y,DV.int .i64 s.w,DV.int .i64 s.h,DV.int .i64 s.tw,DV.int .i64 s.th,DV.sl s.on s.oxs,DV.sl s.pn s.pxs,DV.sl s.rn s.rxs],RV.d (DV.int .i64 more)]) (post Try.prog Try.f7.results.toList (·=RV.d (DV.bool true))) =
  (let zz0:=[dJ ((decR (ints ((u8s (encS (⟨((s).bits),((s).c),((s).gtw),((s).gth),ints (is (s).ord),toIms (ims (s).ims),toOps (ops (s).ops)⟩:Scr)).1)))).bits),dJ ((decR (ints ((u8s (encS (⟨((s).bits),((s).c),((s).gtw),((s).gth),ints (is (s).ord),toIms (ims (s).ims),toOps (ops (s).ops)⟩:Scr)).1)))).c.a),dJ ((decR (ints ((u8s (encS (⟨((s).bits),((s).c),((s).gtw),((s).gth),ints (is (s).ord),toIms (ims (s).ims),toOps (ops (s).ops)⟩:Scr)).1)))).c.b),dJ ((decR (ints ((u8s (encS (⟨((s).bits),((s).c),((s).gtw),((s).gth),ints (is (s).ord),toIms (ims (s).ims),toOps (ops (s).ops)⟩:Scr)).1)))).c.c),dJ ((decR (ints ((u8s (encS (⟨((s).bits),((s).c),((s).gtw),((s).gth),ints (is (s).ord),toIms (ims (s).ims),toOps (ops (s).ops)⟩:Scr)).1)))).c.d),dJ ((decR (ints ((u8s (encS (⟨((s).bits),((s).c),((s).gtw),((s).gth),ints (is (s).ord),toIms (ims (s).ims),toOps (ops (s).ops)⟩:Scr)).1)))).tw),dJ ((decR (ints ((u8s (encS (⟨((s).bits),((s).c),((s).gtw),((s).gth),ints (is (s).ord),toIms (ims (s).ims),toOps (ops (s).ops)⟩:Scr)).1)))).th),DV.sl ((decR (ints ((u8s (encS (⟨((s).bits),((s).c),((s).gtw),((s).gth),ints (is (s).ord),toIms (ims (s).ims),toOps (ops (s).ops)⟩:Scr)).1)))).ord.length) (is (decR (ints ((u8s (encS (⟨((s).bits),((s).c),((s).gtw),((s).gth),ints (is (s).ord),toIms (ims (s).ims),toOps (ops (s).ops)⟩:Scr)).1)))).ord),DV.sl ((decR (ints ((u8s (encS (⟨((s).bits),((s).c),((s).gtw),((s).gth),ints (is (s).ord),toIms (ims (s).ims),toOps (ops (s).ops)⟩:Scr)).1)))).ims.length) (ims (decR (ints ((u8s (encS (⟨((s).bits),((s).c),((s).gtw),((s).gth),ints (is (s).ord),toIms (ims (s).ims),toOps (ops (s).ops)⟩:Scr)).1)))).ims),DV.sl ((decR (ints ((u8s (encS (⟨((s).bits),((s).c),((s).gtw),((s).gth),ints (is (s).ord),toIms (ims (s).ims),toOps (ops (s).ops)⟩:Scr)).1)))).ops.length) (ops (decR (ints ((u8s (encS (⟨((s).bits),((s).c),((s).gtw),((s).gth),ints (is (s).ord),toIms (ims (s).ims),toOps (ops (s).ops)⟩:Scr)).1)))).ops)]; let zz1:=(dJ more=dJ more); let zz2:=((encS (⟨((s).bits),((s).c),((s).gtw),((s).gth),ints (is (s).ord),toIms (ims (s).ims),toOps (ops (s).ops)⟩:Scr)).1.length=(encS (⟨((s).bits),((s).c),((s).gtw),((s).gth),ints (is (s).ord),toIms (ims (s).ims),toOps (ops (s).ops)⟩:Scr)).1.length); let zz3:=(dJ ((encS (⟨((s).bits),((s).c),((s).gtw),((s).gth),ints (is (s).ord),toIms (ims (s).ims),toOps (ops (s).ops)⟩:Scr)).2)=dJ ((encS (⟨((s).bits),((s).c),((s).gtw),((s).gth),ints (is (s).ord),toIms (ims (s).ims),toOps (ops (s).ops)⟩:Scr)).2)); let zz4:=(dJ (decE (ints ((u8s (encS (⟨((s).bits),((s).c),((s).gtw),((s).gth),ints (is (s).ord),toIms (ims (s).ims),toOps (ops (s).ops)⟩:Scr)).1))))=dJ (decE (ints ((u8s (encS (⟨((s).bits),((s).c),((s).gtw),((s).gth),ints (is (s).ord),toIms (ims (s).ims),toOps (ops (s).ops)⟩:Scr)).1))))); let zz5:=((encS (⟨((decR (ints ((u8s (encS (⟨((s).bits),((s).c),((s).gtw),((s).gth),ints (is (s).ord),toIms (ims (s).ims),toOps (ops (s).ops)⟩:Scr)).1)))).bits),((decR (ints ((u8s (encS (⟨((s).bits),((s).c),((s).gtw),((s).gth),ints (is (s).ord),toIms (ims (s).ims),toOps (ops (s).ops)⟩:Scr)).1)))).c),((decR (ints ((u8s (encS (⟨((s).bits),((s).c),((s).gtw),((s).gth),ints (is (s).ord),toIms (ims (s).ims),toOps (ops (s).ops)⟩:Scr)).1)))).tw),((decR (ints ((u8s (encS (⟨((s).bits),((s).c),((s).gtw),((s).gth),ints (is (s).ord),toIms (ims (s).ims),toOps (ops (s).ops)⟩:Scr)).1)))).th),ints (is (decR (ints ((u8s (encS (⟨((s).bits),((s).c),((s).gtw),((s).gth),ints (is (s).ord),toIms (ims (s).ims),toOps (ops (s).ops)⟩:Scr)).1)))).ord),toIms (ims (decR (ints ((u8s (encS (⟨((s).bits),((s).c),((s).gtw),((s).gth),ints (is (s).ord),toIms (ims (s).ims),toOps (ops (s).ops)⟩:Scr)).1)))).ims),toOps (ops (decR (ints ((u8s (encS (⟨((s).bits),((s).c),((s).gtw),((s).gth),ints (is (s).ord),toIms (ims (s).ims),toOps (ops (s).ops)⟩:Scr)).1)))).ops)⟩:Scr)).1.length=(encS (⟨((decR (ints ((u8s (encS (⟨((s).bits),((s).c),((s).gtw),((s).gth),ints (is (s).ord),toIms (ims (s).ims),toOps (ops (s).ops)⟩:Scr)).1)))).bits),((decR (ints ((u8s (encS (⟨((s).bits),((s).c),((s).gtw),((s).gth),ints (is (s).ord),toIms (ims (s).ims),toOps (ops (s).ops)⟩:Scr)).1)))).c),((decR (ints ((u8s (encS (⟨((s).bits),((s).c),((s).gtw),((s).gth),ints (is (s).ord),toIms (ims (s).ims),toOps (ops (s).ops)⟩:Scr)).1)))).tw),((decR (ints ((u8s (encS (⟨((s).bits),((s).c),((s).gtw),((s).gth),ints (is (s).ord),toIms (ims (s).ims),toOps (ops (s).ops)⟩:Scr)).1)))).th),ints (is (decR (ints ((u8s (encS (⟨((s).bits),((s).c),((s).gtw),((s).gth),ints (is (s).ord),toIms (ims (s).ims),toOps (ops (s).ops)⟩:Scr)).1)))).ord),toIms (ims (decR (ints ((u8s (encS (⟨((s).bits),((s).c),((s).gtw),((s).gth),ints (is (s).ord),toIms (ims (s).ims),toOps (ops (s).ops)⟩:Scr)).1)))).ims),toOps (ops (decR (ints ((u8s (encS (⟨((s).bits),((s).c),((s).gtw),((s).gth),ints (is (s).ord),toIms (ims (s).ims),toOps (ops (s).ops)⟩:Scr)).1)))).ops)⟩:Scr)).1.length); let zz6:=(dJ ((encS (⟨((decR (ints ((u8s (encS (⟨((s).bits),((s).c),((s).gtw),((s).gth),ints (is (s).ord),toIms (ims (s).ims),toOps (ops (s).ops)⟩:Scr)).1)))).bits),((decR (ints ((u8s (encS (⟨((s).bits),((s).c),((s).gtw),((s).gth),ints (is (s).ord),toIms (ims (s).ims),toOps (ops (s).ops)⟩:Scr)).1)))).c),((decR (ints ((u8s (encS (⟨((s).bits),((s).c),((s).gtw),((s).gth),ints (is (s).ord),toIms (ims (s).ims),toOps (ops (s).ops)⟩:Scr)).1)))).tw),((decR (ints ((u8s (encS (⟨((s).bits),((s).c),((s).gtw),((s).gth),ints (is (s).ord),toIms (ims (s).ims),toOps (ops (s).ops)⟩:Scr)).1)))).th),ints (is (decR (ints ((u8s (encS (⟨((s).bits),((s).c),((s).gtw),((s).gth),ints (is (s).ord),toIms (ims (s).ims),toOps (ops (s).ops)⟩:Scr)).1)))).ord),toIms (ims (decR (ints ((u8s (encS (⟨((s).bits),((s).c),((s).gtw),((s).gth),ints (is (s).ord),toIms (ims (s).ims),toOps (ops (s).ops)⟩:Scr)).1)))).ims),toOps (ops (decR (ints ((u8s (encS (⟨((s).bits),((s).c),((s).gtw),((s).gth),ints (is (s).ord),toIms (ims (s).ims),toOps (ops (s).ops)⟩:Scr)).1)))).ops)⟩:Scr)).2)=dJ ((encS (⟨((decR (ints ((u8s (encS (⟨((s).bits),((s).c),((s).gtw),((s).gth),ints (is (s).ord),toIms (ims (s).ims),toOps (ops (s).ops)⟩:Scr)).1)))).bits),((decR (ints ((u8s (encS (⟨((s).bits),((s).c),((s).gtw),((s).gth),ints (is (s).ord),toIms (ims (s).ims),toOps (ops (s).ops)⟩:Scr)).1)))).c),((decR (ints ((u8s (encS (⟨((s).bits),((s).c),((s).gtw),((s).gth),ints (is (s).ord),toIms (ims (s).ims),toOps (ops (s).ops)⟩:Scr)).1)))).tw),((decR (ints ((u8s (encS (⟨((s).bits),((s).c),((s).gtw),((s).gth),ints (is (s).ord),toIms (ims (s).ims),toOps (ops (s).ops)⟩:Scr)).1)))).th),ints (is (decR (ints ((u8s (encS (⟨((s).bits),((s).c),((s).gtw),((s).gth),ints (is (s).ord),toIms (ims (s).ims),toOps (ops (s).ops)⟩:Scr)).1)))).ord),toIms (ims (decR (ints ((u8s (encS (⟨((s).bits),((s).c),((s).gtw),((s).gth),ints (is (s).ord),toIms (ims (s).ims),toOps (ops (s).ops)⟩:Scr)).1)))).ims),toOps (ops (decR (ints ((u8s (encS (⟨((s).bits),((s).c),((s).gtw),((s).gth),ints (is (s).ord),toIms (ims (s).ims),toOps (ops (s).ops)⟩:Scr)).1)))).ops)⟩:Scr)).2)); let zz7:=(dJ ((s).bits)=dJ ((s).bits)); let zz8:=(dJ ((s).c.a)=dJ ((s).c.a)); let zz9:=(dJ ((s).c.b)=dJ ((s).c.b)); let zz10:=(dJ ((s).c.c)=dJ ((s).c.c)); let zz11:=(dJ ((s).c.d)=dJ ((s).c.d)); let zz12:=(dJ ((s).gtw)=dJ ((s).gtw)); let zz13:=(dJ ((s).gth)=dJ ((s).gth)); let zz14:=((s).ord.length=(s).ord.length); let zz15:=((s).ops.length=(s).ops.length); let zz16:=(u8s (encS (⟨((s).bits),((s).c),((s).gtw),((s).gth),ints (is (s).ord),toIms (ims (s).ims),toOps (ops (s).ops)⟩:Scr)).1=u8s (encS (⟨((s).bits),((s).c),((s).gtw),((s).gth),ints (is (s).ord),toIms (ims (s).ims),toOps (ops (s).ops)⟩:Scr)).1); let zz17:=(zz0=zz0); let zz18:=(u8s (encS (⟨((decR (ints ((u8s (encS (⟨((s).bits),((s).c),((s).gtw),((s).gth),ints (is (s).ord),toIms (ims (s).ims),toOps (ops (s).ops)⟩:Scr)).1)))).bits),((decR (ints ((u8s (encS (⟨((s).bits),((s).c),((s).gtw),((s).gth),ints (is (s).ord),toIms (ims (s).ims),toOps (ops (s).ops)⟩:Scr)).1)))).c),((decR (ints ((u8s (encS (⟨((s).bits),((s).c),((s).gtw),((s).gth),ints (is (s).ord),toIms (ims (s).ims),toOps (ops (s).ops)⟩:Scr)).1)))).tw),((decR (ints ((u8s (encS (⟨((s).bits),((s).c),((s).gtw),((s).gth),ints (is (s).ord),toIms (ims (s).ims),toOps (ops (s).ops)⟩:Scr)).1)))).th),ints (is (decR (ints ((u8s (encS (⟨((s).bits),((s).c),((s).gtw),((s).gth),ints (is (s).ord),toIms (ims (s).ims),toOps (ops (s).ops)⟩:Scr)).1)))).ord),toIms (ims (decR (ints ((u8s (encS (⟨((s).bits),((s).c),((s).gtw),((s).gth),ints (is (s).ord),toIms (ims (s).ims),toOps (ops (s).ops)⟩:Scr)).1)))).ims),toOps (ops (decR (ints ((u8s (encS (⟨((s).bits),((s).c),((s).gtw),((s).gth),ints (is (s).ord),toIms (ims (s).ims),toOps (ops (s).ops)⟩:Scr)).1)))).ops)⟩:Scr)).1=u8s (encS (⟨((decR (ints ((u8s (encS (⟨((s).bits),((s).c),((s).gtw),((s).gth),ints (is (s).ord),toIms (ims (s).ims),toOps (ops (s).ops)⟩:Scr)).1)))).bits),((decR (ints ((u8s (encS (⟨((s).bits),((s).c),((s).gtw),((s).gth),ints (is (s).ord),toIms (ims (s).ims),toOps (ops (s).ops)⟩:Scr)).1)))).c),((decR (ints ((u8s (encS (⟨((s).bits),((s).c),((s).gtw),((s).gth),ints (is (s).ord),toIms (ims (s).ims),toOps (ops (s).ops)⟩:Scr)).1)))).tw),((decR (ints ((u8s (encS (⟨((s).bits),((s).c),((s).gtw),((s).gth),ints (is (s).ord),toIms (ims (s).ims),toOps (ops (s).ops)⟩:Scr)).1)))).th),ints (is (decR (ints ((u8s (encS (⟨((s).bits),((s).c),((s).gtw),((s).gth),ints (is (s).ord),toIms (ims (s).ims),toOps (ops (s).ops)⟩:Scr)).1)))).ord),toIms (ims (decR (ints ((u8s (encS (⟨((s).bits),((s).c),((s).gtw),((s).gth),ints (is (s).ord),toIms (ims (s).ims),toOps (ops (s).ops)⟩:Scr)).1)))).ims),toOps (ops (decR (ints ((u8s (encS (⟨((s).bits),((s).c),((s).gtw),((s).gth),ints (is (s).ord),toIms (ims (s).ims),toOps (ops (s).ops)⟩:Scr)).1)))).ops)⟩:Scr)).1); let zz19:=fun (k:Nat)=>(0≤((k:Nat):Int)∧((k:Nat):Int) < ((s.ims.length:Nat):Int)); let zz20:=fun (k:Nat)=>[RV.agg [dJ ((s).bits),dJ ((s).c.a),dJ ((s).c.b),dJ ((s).c.c),dJ ((s).c.d),dJ ((s).gtw),dJ ((s).gth),DV.sl ((s).ord.length) (is (s).ord),DV.sl s.ims.length (ims (strTo s.ims more k)),DV.sl ((s).ops.length) (ops (s).ops)],RV.agg zz0]; tU3 ((AnsG Try.prog 9 0 [AV.agg [cJ (s.b),cJ (s.x),cJ (s.y),cJ (s.w),cJ (s.h),cJ (s.tw),cJ (s.th),Cl.d (DV.sl s.on s.oxs),Cl.d (DV.sl s.pn s.pxs),Cl.d (DV.sl s.rn s.rxs)]] [] ⟨AV.agg [cJ (((s).bits)),cJ (((s).c.a)),cJ (((s).c.b)),cJ (((s).c.c)),cJ (((s).c.d)),cJ (((s).gtw)),cJ (((s).gth)),Cl.ref 0 ((s).ord.length),Cl.ref 1 ((s).ims.length),Cl.ref 2 ((s).ops.length)],[Bx.row 3 1 (is (s).ord),Bx.row 43 28 (ims (s).ims),Bx.row 55 12 (ops (s).ops)],false⟩)∧tU3 ((AnsG Try.prog 11 0 [AV.agg [cJ (((s).bits)),cJ (((s).c.a)),cJ (((s).c.b)),cJ (((s).c.c)),cJ (((s).c.d)),cJ (((s).gtw)),cJ (((s).gth)),Cl.d (DV.sl ((s).ord.length) (is (s).ord)),Cl.d (DV.sl ((s).ims.length) (ims (s).ims)),Cl.d (DV.sl ((s).ops.length) (ops (s).ops))]] [] ⟨AV.tup [AV.one (Cl.ref 0 ((encS (⟨((s).bits),((s).c),((s).gtw),((s).gth),ints (is (s).ord),toIms (ims (s).ims),toOps (ops (s).ops)⟩:Scr)).1.length)),AV.one (cJ (((encS (⟨((s).bits),((s).c),((s).gtw),((s).gth),ints (is (s).ord),toIms (ims (s).ims),toOps (ops (s).ops)⟩:Scr)).2)))],[Bx.row 5 1 (u8s (encS (⟨((s).bits),((s).c),((s).gtw),((s).gth),ints (is (s).ord),toIms (ims (s).ims),toOps (ops (s).ops)⟩:Scr)).1)],true⟩)∧tU6 ((Ans Try.prog 19 [RV.d (DV.sl ((encS (⟨((s).bits),((s).c),((s).gtw),((s).gth),ints (is (s).ord),toIms (ims (s).ims),toOps (ops (s).ops)⟩:Scr)).1.length) (u8s (encS (⟨((s).bits),((s).c),((s).gtw),((s).gth),ints (is (s).ord),toIms (ims (s).ims),toOps (ops (s).ops)⟩:Scr)).1))] (RV.tup [RV.agg zz0,RV.d (dJ (decE (ints ((u8s (encS (⟨((s).bits),((s).c),((s).gtw),((s).gth),ints (is (s).ord),toIms (ims (s).ims),toOps (ops (s).ops)⟩:Scr)).1)))))]))∧tU7 ((AnsG Try.prog 11 0 [AV.agg [cJ (((decR (ints ((u8s (encS (⟨((s).bits),((s).c),((s).gtw),((s).gth),ints (is (s).ord),toIms (ims (s).ims),toOps (ops (s).ops)⟩:Scr)).1)))).bits)),cJ (((decR (ints ((u8s (encS (⟨((s).bits),((s).c),((s).gtw),((s).gth),ints (is (s).ord),toIms (ims (s).ims),toOps (ops (s).ops)⟩:Scr)).1)))).c.a)),cJ (((decR (ints ((u8s (encS (⟨((s).bits),((s).c),((s).gtw),((s).gth),ints (is (s).ord),toIms (ims (s).ims),toOps (ops (s).ops)⟩:Scr)).1)))).c.b)),cJ (((decR (ints ((u8s (encS (⟨((s).bits),((s).c),((s).gtw),((s).gth),ints (is (s).ord),toIms (ims (s).ims),toOps (ops (s).ops)⟩:Scr)).1)))).c.c)),cJ (((decR (ints ((u8s (encS (⟨((s).bits),((s).c),((s).gtw),((s).gth),ints (is (s).ord),toIms (ims (s).ims),toOps (ops (s).ops)⟩:Scr)).1)))).c.d)),cJ (((decR (ints ((u8s (encS (⟨((s).bits),((s).c),((s).gtw),((s).gth),ints (is (s).ord),toIms (ims (s).ims),toOps (ops (s).ops)⟩:Scr)).1)))).tw)),cJ (((decR (ints ((u8s (encS (⟨((s).bits),((s).c),((s).gtw),((s).gth),ints (is (s).ord),toIms (ims (s).ims),toOps (ops (s).ops)⟩:Scr)).1)))).th)),Cl.d (DV.sl ((decR (ints ((u8s (encS (⟨((s).bits),((s).c),((s).gtw),((s).gth),ints (is (s).ord),toIms (ims (s).ims),toOps (ops (s).ops)⟩:Scr)).1)))).ord.length) (is (decR (ints ((u8s (encS (⟨((s).bits),((s).c),((s).gtw),((s).gth),ints (is (s).ord),toIms (ims (s).ims),toOps (ops (s).ops)⟩:Scr)).1)))).ord)),Cl.d (DV.sl ((decR (ints ((u8s (encS (⟨((s).bits),((s).c),((s).gtw),((s).gth),ints (is (s).ord),toIms (ims (s).ims),toOps (ops (s).ops)⟩:Scr)).1)))).ims.length) (ims (decR (ints ((u8s (encS (⟨((s).bits),((s).c),((s).gtw),((s).gth),ints (is (s).ord),toIms (ims (s).ims),toOps (ops (s).ops)⟩:Scr)).1)))).ims)),Cl.d (DV.sl ((decR (ints ((u8s (encS (⟨((s).bits),((s).c),((s).gtw),((s).gth),ints (is (s).ord),toIms (ims (s).ims),toOps (ops (s).ops)⟩:Scr)).1)))).ops.length) (ops (decR (ints ((u8s (encS (⟨((s).bits),((s).c),((s).gtw),((s).gth),ints (is (s).ord),toIms (ims (s).ims),toOps (ops (s).ops)⟩:Scr)).1)))).ops))]] [] ⟨AV.tup [AV.one (Cl.ref 0 ((encS (⟨((decR (ints ((u8s (encS (⟨((s).bits),((s).c),((s).gtw),((s).gth),ints (is (s).ord),toIms (ims (s).ims),toOps (ops (s).ops)⟩:Scr)).1)))).bits),((decR (ints ((u8s (encS (⟨((s).bits),((s).c),((s).gtw),((s).gth),ints (is (s).ord),toIms (ims (s).ims),toOps (ops (s).ops)⟩:Scr)).1)))).c),((decR (ints ((u8s (encS (⟨((s).bits),((s).c),((s).gtw),((s).gth),ints (is (s).ord),toIms (ims (s).ims),toOps (ops (s).ops)⟩:Scr)).1)))).tw),((decR (ints ((u8s (encS (⟨((s).bits),((s).c),((s).gtw),((s).gth),ints (is (s).ord),toIms (ims (s).ims),toOps (ops (s).ops)⟩:Scr)).1)))).th),ints (is (decR (ints ((u8s (encS (⟨((s).bits),((s).c),((s).gtw),((s).gth),ints (is (s).ord),toIms (ims (s).ims),toOps (ops (s).ops)⟩:Scr)).1)))).ord),toIms (ims (decR (ints ((u8s (encS (⟨((s).bits),((s).c),((s).gtw),((s).gth),ints (is (s).ord),toIms (ims (s).ims),toOps (ops (s).ops)⟩:Scr)).1)))).ims),toOps (ops (decR (ints ((u8s (encS (⟨((s).bits),((s).c),((s).gtw),((s).gth),ints (is (s).ord),toIms (ims (s).ims),toOps (ops (s).ops)⟩:Scr)).1)))).ops)⟩:Scr)).1.length)),AV.one (cJ (((encS (⟨((decR (ints ((u8s (encS (⟨((s).bits),((s).c),((s).gtw),((s).gth),ints (is (s).ord),toIms (ims (s).ims),toOps (ops (s).ops)⟩:Scr)).1)))).bits),((decR (ints ((u8s (encS (⟨((s).bits),((s).c),((s).gtw),((s).gth),ints (is (s).ord),toIms (ims (s).ims),toOps (ops (s).ops)⟩:Scr)).1)))).c),((decR (ints ((u8s (encS (⟨((s).bits),((s).c),((s).gtw),((s).gth),ints (is (s).ord),toIms (ims (s).ims),toOps (ops (s).ops)⟩:Scr)).1)))).tw),((decR (ints ((u8s (encS (⟨((s).bits),((s).c),((s).gtw),((s).gth),ints (is (s).ord),toIms (ims (s).ims),toOps (ops (s).ops)⟩:Scr)).1)))).th),ints (is (decR (ints ((u8s (encS (⟨((s).bits),((s).c),((s).gtw),((s).gth),ints (is (s).ord),toIms (ims (s).ims),toOps (ops (s).ops)⟩:Scr)).1)))).ord),toIms (ims (decR (ints ((u8s (encS (⟨((s).bits),((s).c),((s).gtw),((s).gth),ints (is (s).ord),toIms (ims (s).ims),toOps (ops (s).ops)⟩:Scr)).1)))).ims),toOps (ops (decR (ints ((u8s (encS (⟨((s).bits),((s).c),((s).gtw),((s).gth),ints (is (s).ord),toIms (ims (s).ims),toOps (ops (s).ops)⟩:Scr)).1)))).ops)⟩:Scr)).2)))],[Bx.row 5 1 (u8s (encS (⟨((decR (ints ((u8s (encS (⟨((s).bits),((s).c),((s).gtw),((s).gth),ints (is (s).ord),toIms (ims (s).ims),toOps (ops (s).ops)⟩:Scr)).1)))).bits),((decR (ints ((u8s (encS (⟨((s).bits),((s).c),((s).gtw),((s).gth),ints (is (s).ord),toIms (ims (s).ims),toOps (ops (s).ops)⟩:Scr)).1)))).c),((decR (ints ((u8s (encS (⟨((s).bits),((s).c),((s).gtw),((s).gth),ints (is (s).ord),toIms (ims (s).ims),toOps (ops (s).ops)⟩:Scr)).1)))).tw),((decR (ints ((u8s (encS (⟨((s).bits),((s).c),((s).gtw),((s).gth),ints (is (s).ord),toIms (ims (s).ims),toOps (ops (s).ops)⟩:Scr)).1)))).th),ints (is (decR (ints ((u8s (encS (⟨((s).bits),((s).c),((s).gtw),((s).gth),ints (is (s).ord),toIms (ims (s).ims),toOps (ops (s).ops)⟩:Scr)).1)))).ord),toIms (ims (decR (ints ((u8s (encS (⟨((s).bits),((s).c),((s).gtw),((s).gth),ints (is (s).ord),toIms (ims (s).ims),toOps (ops (s).ops)⟩:Scr)).1)))).ims),toOps (ops (decR (ints ((u8s (encS (⟨((s).bits),((s).c),((s).gtw),((s).gth),ints (is (s).ord),toIms (ims (s).ims),toOps (ops (s).ops)⟩:Scr)).1)))).ops)⟩:Scr)).1)],true⟩)∧tU6 (((∃ k:Nat,(k≤s.ims.length)∧((zz1∧(0=0)∧zz2∧zz3∧(0=0)∧zz4∧zz5∧zz6∧(dJ 0=dJ ((k:Nat):Int))∧True)∧((zz7∧zz8∧zz9∧zz10∧zz11∧zz12∧zz13∧zz14∧((s).ims.length=s.ims.length)∧zz15∧True)∧zz16∧zz17∧zz18∧(is (s).ord=is (s).ord)∧(ims (s).ims=ims (strTo s.ims more k))∧(ops (s).ops=ops (s).ops)∧True)))∧∀ k:Nat,(k≤s.ims.length)→tU3 ((s.ims.length≤maxLen)∧True∧(((decide (((k:Nat):Int) < ((s.ims.length:Nat):Int)))=true→tU6 ((zz19 k)∧((imQr (ims (strTo s.ims more k)) (((k:Nat):Int).toNat*28)))∧True∧(Ans Try.prog 10 [imR (imQ (ims (strTo s.ims more k)) (((k:Nat):Int).toNat*28)),RV.d (dJ more)] ((imR (gStrided (imQ (ims (strTo s.ims more k)) (((k:Nat):Int).toNat*28)) more))))∧(zz19 k)∧(((k:Nat):Int).toNat*28+28≤(ims (strTo s.ims more k)).length)∧(true=true)∧tU3 (∃ k':Nat,(k'≤s.ims.length)∧(s.ims.length - k' < s.ims.length - k)∧((zz1∧(0=0)∧zz2∧zz3∧(0=0)∧zz4∧zz5∧zz6∧(dJ (wK (((k:Nat):Int)+(1:Int)))=dJ ((k':Nat):Int))∧True)∧((zz7∧zz8∧zz9∧zz10∧zz11∧zz12∧zz13∧zz14∧(s.ims.length=s.ims.length)∧zz15∧True)∧zz16∧zz17∧zz18∧(is (s).ord=is (s).ord)∧(sets (ims (strTo s.ims more k)) (((k:Nat):Int).toNat*28) ((Im.ds (gStrided (imQ (ims (strTo s.ims more k)) (((k:Nat):Int).toNat*28)) more)))=ims (strTo s.ims more k'))∧(ops (s).ops=ops (s).ops)∧True)))))∧((decide (((k:Nat):Int) < ((s.ims.length:Nat):Int)))=false→(Ans Try.prog 13 [] (RV.d (dQ true)))∧True∧((true=true→tU4 ((((((encS (⟨((s).bits),((s).c),((s).gtw),((s).gth),ints (is (s).ord),toIms (ims (s).ims),toOps (ops (s).ops)⟩:Scr)).2)==(0:Int))=true→tU4 (((((decE (ints ((u8s (encS (⟨((s).bits),((s).c),((s).gtw),((s).gth),ints (is (s).ord),toIms (ims (s).ims),toOps (ops (s).ops)⟩:Scr)).1))))==(0:Int))=true→tU4 ((((((encS (⟨((decR (ints ((u8s (encS (⟨((s).bits),((s).c),((s).gtw),((s).gth),ints (is (s).ord),toIms (ims (s).ims),toOps (ops (s).ops)⟩:Scr)).1)))).bits),((decR (ints ((u8s (encS (⟨((s).bits),((s).c),((s).gtw),((s).gth),ints (is (s).ord),toIms (ims (s).ims),toOps (ops (s).ops)⟩:Scr)).1)))).c),((decR (ints ((u8s (encS (⟨((s).bits),((s).c),((s).gtw),((s).gth),ints (is (s).ord),toIms (ims (s).ims),toOps (ops (s).ops)⟩:Scr)).1)))).tw),((decR (ints ((u8s (encS (⟨((s).bits),((s).c),((s).gtw),((s).gth),ints (is (s).ord),toIms (ims (s).ims),toOps (ops (s).ops)⟩:Scr)).1)))).th),ints (is (decR (ints ((u8s (encS (⟨((s).bits),((s).c),((s).gtw),((s).gth),ints (is (s).ord),toIms (ims (s).ims),toOps (ops (s).ops)⟩:Scr)).1)))).ord),toIms (ims (decR (ints ((u8s (encS (⟨((s).bits),((s).c),((s).gtw),((s).gth),ints (is (s).ord),toIms (ims (s).ims),toOps (ops (s).ops)⟩:Scr)).1)))).ims),toOps (ops (decR (ints ((u8s (encS (⟨((s).bits),((s).c),((s).gtw),((s).gth),ints (is (s).ord),toIms (ims (s).ims),toOps (ops (s).ops)⟩:Scr)).1)))).ops)⟩:Scr)).2)==(0:Int))=true→tU2 ((Ans Try.prog 15 [RV.d (DV.sl ((encS (⟨((s).bits),((s).c),((s).gtw),((s).gth),ints (is (s).ord),toIms (ims (s).ims),toOps (ops (s).ops)⟩:Scr)).1.length) (u8s (encS (⟨((s).bits),((s).c),((s).gtw),((s).gth),ints (is (s).ord),toIms (ims (s).ims),toOps (ops (s).ops)⟩:Scr)).1)),RV.d (DV.sl ((encS (⟨((decR (ints ((u8s (encS (⟨((s).bits),((s).c),((s).gtw),((s).gth),ints (is (s).ord),toIms (ims (s).ims),toOps (ops (s).ops)⟩:Scr)).1)))).bits),((decR (ints ((u8s (encS (⟨((s).bits),((s).c),((s).gtw),((s).gth),ints (is (s).ord),toIms (ims (s).ims),toOps (ops (s).ops)⟩:Scr)).1)))).c),((decR (ints ((u8s (encS (⟨((s).bits),((s).c),((s).gtw),((s).gth),ints (is (s).ord),toIms (ims (s).ims),toOps (ops (s).ops)⟩:Scr)).1)))).tw),((decR (ints ((u8s (encS (⟨((s).bits),((s).c),((s).gtw),((s).gth),ints (is (s).ord),toIms (ims (s).ims),toOps (ops (s).ops)⟩:Scr)).1)))).th),ints (is (decR (ints ((u8s (encS (⟨((s).bits),((s).c),((s).gtw),((s).gth),ints (is (s).ord),toIms (ims (s).ims),toOps (ops (s).ops)⟩:Scr)).1)))).ord),toIms (ims (decR (ints ((u8s (encS (⟨((s).bits),((s).c),((s).gtw),((s).gth),ints (is (s).ord),toIms (ims (s).ims),toOps (ops (s).ops)⟩:Scr)).1)))).ims),toOps (ops (decR (ints ((u8s (encS (⟨((s).bits),((s).c),((s).gtw),((s).gth),ints (is (s).ord),toIms (ims (s).ims),toOps (ops (s).ops)⟩:Scr)).1)))).ops)⟩:Scr)).1.length) (u8s (encS (⟨((decR (ints ((u8s (encS (⟨((s).bits),((s).c),((s).gtw),((s).gth),ints (is (s).ord),toIms (ims (s).ims),toOps (ops (s).ops)⟩:Scr)).1)))).bits),((decR (ints ((u8s (encS (⟨((s).bits),((s).c),((s).gtw),((s).gth),ints (is (s).ord),toIms (ims (s).ims),toOps (ops (s).ops)⟩:Scr)).1)))).c),((decR (ints ((u8s (encS (⟨((s).bits),((s).c),((s).gtw),((s).gth),ints (is (s).ord),toIms (ims (s).ims),toOps (ops (s).ops)⟩:Scr)).1)))).tw),((decR (ints ((u8s (encS (⟨((s).bits),((s).c),((s).gtw),((s).gth),ints (is (s).ord),toIms (ims (s).ims),toOps (ops (s).ops)⟩:Scr)).1)))).th),ints (is (decR (ints ((u8s (encS (⟨((s).bits),((s).c),((s).gtw),((s).gth),ints (is (s).ord),toIms (ims (s).ims),toOps (ops (s).ops)⟩:Scr)).1)))).ord),toIms (ims (decR (ints ((u8s (encS (⟨((s).bits),((s).c),((s).gtw),((s).gth),ints (is (s).ord),toIms (ims (s).ims),toOps (ops (s).ops)⟩:Scr)).1)))).ims),toOps (ops (decR (ints ((u8s (encS (⟨((s).bits),((s).c),((s).gtw),((s).gth),ints (is (s).ord),toIms (ims (s).ims),toOps (ops (s).ops)⟩:Scr)).1)))).ops)⟩:Scr)).1))] (RV.d (dQ ((strD ((u8s (encS (⟨((s).bits),((s).c),((s).gtw),((s).gth),ints (is (s).ord),toIms (ims (s).ims),toOps (ops (s).ops)⟩:Scr)).1))).toList==(strD ((u8s (encS (⟨((decR (ints ((u8s (encS (⟨((s).bits),((s).c),((s).gtw),((s).gth),ints (is (s).ord),toIms (ims (s).ims),toOps (ops (s).ops)⟩:Scr)).1)))).bits),((decR (ints ((u8s (encS (⟨((s).bits),((s).c),((s).gtw),((s).gth),ints (is (s).ord),toIms (ims (s).ims),toOps (ops (s).ops)⟩:Scr)).1)))).c),((decR (ints ((u8s (encS (⟨((s).bits),((s).c),((s).gtw),((s).gth),ints (is (s).ord),toIms (ims (s).ims),toOps (ops (s).ops)⟩:Scr)).1)))).tw),((decR (ints ((u8s (encS (⟨((s).bits),((s).c),((s).gtw),((s).gth),ints (is (s).ord),toIms (ims (s).ims),toOps (ops (s).ops)⟩:Scr)).1)))).th),ints (is (decR (ints ((u8s (encS (⟨((s).bits),((s).c),((s).gtw),((s).gth),ints (is (s).ord),toIms (ims (s).ims),toOps (ops (s).ops)⟩:Scr)).1)))).ord),toIms (ims (decR (ints ((u8s (encS (⟨((s).bits),((s).c),((s).gtw),((s).gth),ints (is (s).ord),toIms (ims (s).ims),toOps (ops (s).ops)⟩:Scr)).1)))).ims),toOps (ops (decR (ints ((u8s (encS (⟨((s).bits),((s).c),((s).gtw),((s).gth),ints (is (s).ord),toIms (ims (s).ims),toOps (ops (s).ops)⟩:Scr)).1)))).ops)⟩:Scr)).1))).toList))))∧tU2 (((((strD ((u8s (encS (⟨((s).bits),((s).c),((s).gtw),((s).gth),ints (is (s).ord),toIms (ims (s).ims),toOps (ops (s).ops)⟩:Scr)).1))).toList==(strD ((u8s (encS (⟨((decR (ints ((u8s (encS (⟨((s).bits),((s).c),((s).gtw),((s).gth),ints (is (s).ord),toIms (ims (s).ims),toOps (ops (s).ops)⟩:Scr)).1)))).bits),((decR (ints ((u8s (encS (⟨((s).bits),((s).c),((s).gtw),((s).gth),ints (is (s).ord),toIms (ims (s).ims),toOps (ops (s).ops)⟩:Scr)).1)))).c),((decR (ints ((u8s (encS (⟨((s).bits),((s).c),((s).gtw),((s).gth),ints (is (s).ord),toIms (ims (s).ims),toOps (ops (s).ops)⟩:Scr)).1)))).tw),((decR (ints ((u8s (encS (⟨((s).bits),((s).c),((s).gtw),((s).gth),ints (is (s).ord),toIms (ims (s).ims),toOps (ops (s).ops)⟩:Scr)).1)))).th),ints (is (decR (ints ((u8s (encS (⟨((s).bits),((s).c),((s).gtw),((s).gth),ints (is (s).ord),toIms (ims (s).ims),toOps (ops (s).ops)⟩:Scr)).1)))).ord),toIms (ims (decR (ints ((u8s (encS (⟨((s).bits),((s).c),((s).gtw),((s).gth),ints (is (s).ord),toIms (ims (s).ims),toOps (ops (s).ops)⟩:Scr)).1)))).ims),toOps (ops (decR (ints ((u8s (encS (⟨((s).bits),((s).c),((s).gtw),((s).gth),ints (is (s).ord),toIms (ims (s).ims),toOps (ops (s).ops)⟩:Scr)).1)))).ops)⟩:Scr)).1))).toList)=true→tU2 ((Ans Try.prog 22 (zz20 k) (RV.d (dQ (eqS (⟨((s).bits),((s).c),((s).gtw),((s).gth),ints (is (s).ord),toIms (ims (strTo s.ims more k)),toOps (ops (s).ops)⟩:Scr) (⟨((decR (ints ((u8s (encS (⟨((s).bits),((s).c),((s).gtw),((s).gth),ints (is (s).ord),toIms (ims (s).ims),toOps (ops (s).ops)⟩:Scr)).1)))).bits),((decR (ints ((u8s (encS (⟨((s).bits),((s).c),((s).gtw),((s).gth),ints (is (s).ord),toIms (ims (s).ims),toOps (ops (s).ops)⟩:Scr)).1)))).c),((decR (ints ((u8s (encS (⟨((s).bits),((s).c),((s).gtw),((s).gth),ints (is (s).ord),toIms (ims (s).ims),toOps (ops (s).ops)⟩:Scr)).1)))).tw),((decR (ints ((u8s (encS (⟨((s).bits),((s).c),((s).gtw),((s).gth),ints (is (s).ord),toIms (ims (s).ims),toOps (ops (s).ops)⟩:Scr)).1)))).th),ints (is (decR (ints ((u8s (encS (⟨((s).bits),((s).c),((s).gtw),((s).gth),ints (is (s).ord),toIms (ims (s).ims),toOps (ops (s).ops)⟩:Scr)).1)))).ord),toIms (ims (decR (ints ((u8s (encS (⟨((s).bits),((s).c),((s).gtw),((s).gth),ints (is (s).ord),toIms (ims (s).ims),toOps (ops (s).ops)⟩:Scr)).1)))).ims),toOps (ops (decR (ints ((u8s (encS (⟨((s).bits),((s).c),((s).gtw),((s).gth),ints (is (s).ord),toIms (ims (s).ims),toOps (ops (s).ops)⟩:Scr)).1)))).ops)⟩:Scr)))))∧tU2 ((((eqS (⟨((s).bits),((s).c),((s).gtw),((s).gth),ints (is (s).ord),toIms (ims (strTo s.ims more k)),toOps (ops (s).ops)⟩:Scr) (⟨((decR (ints ((u8s (encS (⟨((s).bits),((s).c),((s).gtw),((s).gth),ints (is (s).ord),toIms (ims (s).ims),toOps (ops (s).ops)⟩:Scr)).1)))).bits),((decR (ints ((u8s (encS (⟨((s).bits),((s).c),((s).gtw),((s).gth),ints (is (s).ord),toIms (ims (s).ims),toOps (ops (s).ops)⟩:Scr)).1)))).c),((decR (ints ((u8s (encS (⟨((s).bits),((s).c),((s).gtw),((s).gth),ints (is (s).ord),toIms (ims (s).ims),toOps (ops (s).ops)⟩:Scr)).1)))).tw),((decR (ints ((u8s (encS (⟨((s).bits),((s).c),((s).gtw),((s).gth),ints (is (s).ord),toIms (ims (s).ims),toOps (ops (s).ops)⟩:Scr)).1)))).th),ints (is (decR (ints ((u8s (encS (⟨((s).bits),((s).c),((s).gtw),((s).gth),ints (is (s).ord),toIms (ims (s).ims),toOps (ops (s).ops)⟩:Scr)).1)))).ord),toIms (ims (decR (ints ((u8s (encS (⟨((s).bits),((s).c),((s).gtw),((s).gth),ints (is (s).ord),toIms (ims (s).ims),toOps (ops (s).ops)⟩:Scr)).1)))).ims),toOps (ops (decR (ints ((u8s (encS (⟨((s).bits),((s).c),((s).gtw),((s).gth),ints (is (s).ord),toIms (ims (s).ims),toOps (ops (s).ops)⟩:Scr)).1)))).ops)⟩:Scr))=true→tU2 ((Ans Try.prog 21 (zz20 k) (RV.d (dQ (eqS (⟨((s).bits),((s).c),((s).gtw),((s).gth),ints (is (s).ord),toIms (ims (strTo s.ims more k)),toOps (ops (s).ops)⟩:Scr) (⟨((decR (ints ((u8s (encS (⟨((s).bits),((s).c),((s).gtw),((s).gth),ints (is (s).ord),toIms (ims (s).ims),toOps (ops (s).ops)⟩:Scr)).1)))).bits),((decR (ints ((u8s (encS (⟨((s).bits),((s).c),((s).gtw),((s).gth),ints (is (s).ord),toIms (ims (s).ims),toOps (ops (s).ops)⟩:Scr)).1)))).c),((decR (ints ((u8s (encS (⟨((s).bits),((s).c),((s).gtw),((s).gth),ints (is (s).ord),toIms (ims (s).ims),toOps (ops (s).ops)⟩:Scr)).1)))).tw),((decR (ints ((u8s (encS (⟨((s).bits),((s).c),((s).gtw),((s).gth),ints (is (s).ord),toIms (ims (s).ims),toOps (ops (s).ops)⟩:Scr)).1)))).th),ints (is (decR (ints ((u8s (encS (⟨((s).bits),((s).c),((s).gtw),((s).gth),ints (is (s).ord),toIms (ims (s).ims),toOps (ops (s).ops)⟩:Scr)).1)))).ord),toIms (ims (decR (ints ((u8s (encS (⟨((s).bits),((s).c),((s).gtw),((s).gth),ints (is (s).ord),toIms (ims (s).ims),toOps (ops (s).ops)⟩:Scr)).1)))).ims),toOps (ops (decR (ints ((u8s (encS (⟨((s).bits),((s).c),((s).gtw),((s).gth),ints (is (s).ord),toIms (ims (s).ims),toOps (ops (s).ops)⟩:Scr)).1)))).ops)⟩:Scr)))))∧tU2 (RV.d (dQ (eqS (⟨((s).bits),((s).c),((s).gtw),((s).gth),ints (is (s).ord),toIms (ims (strTo s.ims more k)),toOps (ops (s).ops)⟩:Scr) (⟨((decR (ints ((u8s (encS (⟨((s).bits),((s).c),((s).gtw),((s).gth),ints (is (s).ord),toIms (ims (s).ims),toOps (ops (s).ops)⟩:Scr)).1)))).bits),((decR (ints ((u8s (encS (⟨((s).bits),((s).c),((s).gtw),((s).gth),ints (is (s).ord),toIms (ims (s).ims),toOps (ops (s).ops)⟩:Scr)).1)))).c),((decR (ints ((u8s (encS (⟨((s).bits),((s).c),((s).gtw),((s).gth),ints (is (s).ord),toIms (ims (s).ims),toOps (ops (s).ops)⟩:Scr)).1)))).tw),((decR (ints ((u8s (encS (⟨((s).bits),((s).c),((s).gtw),((s).gth),ints (is (s).ord),toIms (ims (s).ims),toOps (ops (s).ops)⟩:Scr)).1)))).th),ints (is (decR (ints ((u8s (encS (⟨((s).bits),((s).c),((s).gtw),((s).gth),ints (is (s).ord),toIms (ims (s).ims),toOps (ops (s).ops)⟩:Scr)).1)))).ord),toIms (ims (decR (ints ((u8s (encS (⟨((s).bits),((s).c),((s).gtw),((s).gth),ints (is (s).ord),toIms (ims (s).ims),toOps (ops (s).ops)⟩:Scr)).1)))).ims),toOps (ops (decR (ints ((u8s (encS (⟨((s).bits),((s).c),((s).gtw),((s).gth),ints (is (s).ord),toIms (ims (s).ims),toOps (ops (s).ops)⟩:Scr)).1)))).ops)⟩:Scr)))=RV.d (dQ true))))∧((eqS (⟨((s).bits),((s).c),((s).gtw),((s).gth),ints (is (s).ord),toIms (ims (strTo s.ims more k)),toOps (ops (s).ops)⟩:Scr) (⟨((decR (ints ((u8s (encS (⟨((s).bits),((s).c),((s).gtw),((s).gth),ints (is (s).ord),toIms (ims (s).ims),toOps (ops (s).ops)⟩:Scr)).1)))).bits),((decR (ints ((u8s (encS (⟨((s).bits),((s).c),((s).gtw),((s).gth),ints (is (s).ord),toIms (ims (s).ims),toOps (ops (s).ops)⟩:Scr)).1)))).c),((decR (ints ((u8s (encS (⟨((s).bits),((s).c),((s).gtw),((s).gth),ints (is (s).ord),toIms (ims (s).ims),toOps (ops (s).ops)⟩:Scr)).1)))).tw),((decR (ints ((u8s (encS (⟨((s).bits),((s).c),((s).gtw),((s).gth),ints (is (s).ord),toIms (ims (s).ims),toOps (ops (s).ops)⟩:Scr)).1)))).th),ints (is (decR (ints ((u8s (encS (⟨((s).bits),((s).c),((s).gtw),((s).gth),ints (is (s).ord),toIms (ims (s).ims),toOps (ops (s).ops)⟩:Scr)).1)))).ord),toIms (ims (decR (ints ((u8s (encS (⟨((s).bits),((s).c),((s).gtw),((s).gth),ints (is (s).ord),toIms (ims (s).ims),toOps (ops (s).ops)⟩:Scr)).1)))).ims),toOps (ops (decR (ints ((u8s (encS (⟨((s).bits),((s).c),((s).gtw),((s).gth),ints (is (s).ord),toIms (ims (s).ims),toOps (ops (s).ops)⟩:Scr)).1)))).ops)⟩:Scr))=(!true)→tU2 (RV.d (dQ false)=RV.d (dQ true)))))))∧(((strD ((u8s (encS (⟨((s).bits),((s).c),((s).gtw),((s).gth),ints (is (s).ord),toIms (ims (s).ims),toOps (ops (s).ops)⟩:Scr)).1))).toList==(strD ((u8s (encS (⟨((decR (ints ((u8s (encS (⟨((s).bits),((s).c),((s).gtw),((s).gth),ints (is (s).ord),toIms (ims (s).ims),toOps (ops (s).ops)⟩:Scr)).1)))).bits),((decR (ints ((u8s (encS (⟨((s).bits),((s).c),((s).gtw),((s).gth),ints (is (s).ord),toIms (ims (s).ims),toOps (ops (s).ops)⟩:Scr)).1)))).c),((decR (ints ((u8s (encS (⟨((s).bits),((s).c),((s).gtw),((s).gth),ints (is (s).ord),toIms (ims (s).ims),toOps (ops (s).ops)⟩:Scr)).1)))).tw),((decR (ints ((u8s (encS (⟨((s).bits),((s).c),((s).gtw),((s).gth),ints (is (s).ord),toIms (ims (s).ims),toOps (ops (s).ops)⟩:Scr)).1)))).th),ints (is (decR (ints ((u8s (encS (⟨((s).bits),((s).c),((s).gtw),((s).gth),ints (is (s).ord),toIms (ims (s).ims),toOps (ops (s).ops)⟩:Scr)).1)))).ord),toIms (ims (decR (ints ((u8s (encS (⟨((s).bits),((s).c),((s).gtw),((s).gth),ints (is (s).ord),toIms (ims (s).ims),toOps (ops (s).ops)⟩:Scr)).1)))).ims),toOps (ops (decR (ints ((u8s (encS (⟨((s).bits),((s).c),((s).gtw),((s).gth),ints (is (s).ord),toIms (ims (s).ims),toOps (ops (s).ops)⟩:Scr)).1)))).ops)⟩:Scr)).1))).toList)=(!true)→tU4 (RV.d (dQ false)=RV.d (dQ true)))))))∧((((encS (⟨((decR (ints ((u8s (encS (⟨((s).bits),((s).c),((s).gtw),((s).gth),ints (is (s).ord),toIms (ims (s).ims),toOps (ops (s).ops)⟩:Scr)).1)))).bits),((decR (ints ((u8s (encS (⟨((s).bits),((s).c),((s).gtw),((s).gth),ints (is (s).ord),toIms (ims (s).ims),toOps (ops (s).ops)⟩:Scr)).1)))).c),((decR (ints ((u8s (encS (⟨((s).bits),((s).c),((s).gtw),((s).gth),ints (is (s).ord),toIms (ims (s).ims),toOps (ops (s).ops)⟩:Scr)).1)))).tw),((decR (ints ((u8s (encS (⟨((s).bits),((s).c),((s).gtw),((s).gth),ints (is (s).ord),toIms (ims (s).ims),toOps (ops (s).ops)⟩:Scr)).1)))).th),ints (is (decR (ints ((u8s (encS (⟨((s).bits),((s).c),((s).gtw),((s).gth),ints (is (s).ord),toIms (ims (s).ims),toOps (ops (s).ops)⟩:Scr)).1)))).ord),toIms (ims (decR (ints ((u8s (encS (⟨((s).bits),((s).c),((s).gtw),((s).gth),ints (is (s).ord),toIms (ims (s).ims),toOps (ops (s).ops)⟩:Scr)).1)))).ims),toOps (ops (decR (ints ((u8s (encS (⟨((s).bits),((s).c),((s).gtw),((s).gth),ints (is (s).ord),toIms (ims (s).ims),toOps (ops (s).ops)⟩:Scr)).1)))).ops)⟩:Scr)).2)==(0:Int))=(!true)→tU6 (RV.d (dQ false)=RV.d (dQ true))))))∧(((decE (ints ((u8s (encS (⟨((s).bits),((s).c),((s).gtw),((s).gth),ints (is (s).ord),toIms (ims (s).ims),toOps (ops (s).ops)⟩:Scr)).1))))==(0:Int))=(!true)→tU8 (RV.d (dQ false)=RV.d (dQ true))))))∧((((encS (⟨((s).bits),((s).c),((s).gtw),((s).gth),ints (is (s).ord),toIms (ims (s).ims),toOps (ops (s).ops)⟩:Scr)).2)==(0:Int))=(!true)→tU2 (tU8 (RV.d (dQ false)=RV.d (dQ true)))))))∧(true=(!true)→tU4 (tU8 (RV.d (dQ false)=RV.d (dQ true))))))))))))))):=by kernel_rfl
theorem L18_ScriptRoundTrip_ans (s:Scn) (more:Int) (hs:s.ok):Ans Try.prog 7 [RV.agg [DV.int .i64 s.b,DV.int .i64 s.x,DV.int .i64 s.y,DV.int .i64 s.w,DV.int .i64 s.h,DV.int .i64 s.tw,DV.int .i64 s.th,DV.sl s.on s.oxs,DV.sl s.pn s.pxs,DV.sl s.rn s.rxs],RV.d (DV.int .i64 more)] (RV.d (DV.bool true)):=
  ans_of_vcg (Γ:=gamScriptRoundTrip) (L18_ScriptRoundTrip_ann s more) mixed_ Try.func7 rfl (Nat.le_of_ble_eq_true rfl) fun hwf=>by
    refine Eq.mpr (L18_ScriptRoundTrip_vc s more) ?_
    delta tU2 tU3 tU4 tU6 tU7 tU8 dJ dQ cJ wK
    simp only [true_and,and_true,RV.d.injEq,RV.agg.injEq,RV.tup.injEq,DV.bool.injEq,DV.int.injEq,DV.sl.injEq,List.cons.injEq,forall_const,Bool.not_false,Bool.not_true,Bool.not_eq_true',Bool.not_eq_false',decide_eq_true_eq,decide_eq_false_iff_not,Int.toNat_natCast,imQ,imQr,imC,oqQ,oqQr,oqC,oqD,pxQ,pxQr,pxC,pxD,G_Mod_ans]
    have li:=s.ims_len
    have hol:=s.ops_len
    have hod:=s.ord_len
    have hIU:=s.ims_isU
    have hNU:=norm_isU (s:=s.scr)
    have hM:∀ n:Nat,n≤100→n≤maxLen:=fun n h=>by unfold maxLen; omega
    have hin:=s.inR
    have eS:encS ⟨s.bits,s.c,s.gtw,s.gth,s.ord,s.ims,s.ops⟩=(encB s.scr,0):=by
      have hok:encOk ⟨s.bits,s.c,s.gtw,s.gth,s.ord,s.ims,s.ops⟩=true:=hin.ok
      unfold encS; rw [if_pos hok]; rfl
    have eN:encS ⟨s.scr.norm.bits,s.scr.norm.c,s.scr.norm.tw,s.scr.norm.th,s.scr.norm.ord,s.scr.norm.ims,s.scr.norm.ops⟩=(encB s.scr,0):=norm_enc hin
    obtain ⟨hd,hp⟩:=dec_enc hin
    have dR:=(dec_yes hd).1
    have dE:=(dec_yes hd).2
    rw [hp] at dR
    have a1:=script_EncodeG_ans ⟨s.bits,s.c,s.gtw,s.gth,s.ord,s.ims,s.ops⟩ hIU (by show s.ord.length≤_; omega)
    have a2:=script_Decode_ans (encB s.scr)
    have a3:=script_EncodeG_ans ⟨s.scr.norm.bits,s.scr.norm.c,s.scr.norm.tw,s.scr.norm.th,s.scr.norm.ord,s.scr.norm.ims,s.scr.norm.ops⟩ hNU (by show s.ord.length≤_; omega)
    have gs:=G_Script_ans s hs
    unfold scrD at a2
    simp only [ints_is,toIms_ims,toOps_ops,ints_u8s,eS,eN,dR,dE] at a1 a2 a3 gs ⊢
    refine ⟨gs,a1,a2,a3,⟨0,Nat.zero_le _,rfl,by rw [strTo_zero]⟩,fun k hk=>⟨hM _ (by omega),fun h1=>?_,fun h1=>?_⟩⟩
    · have hk1:k < s.ims.length:=by omega
      have hl:(strTo s.ims more k).length=s.ims.length:=strTo_len _ _ _
      have q1:=ims_rd (l:=strTo s.ims more k) (k:=k) (by omega)
      have q2:=ims_at (l:=strTo s.ims more k) (k:=k) (by omega)
      rw [strTo_at hk1] at q1 q2
      simp only [q2]
      obtain ⟨f1,f2,f3,f4⟩:=s.fine _ (List.getElem_mem hk1)
      have st:=G_Strided_ans s.ims[k] more (s.ims_isU _ (List.getElem_mem hk1)) f1 f2
      refine ⟨⟨by omega,by omega⟩,q1,st,⟨by omega,by omega⟩,?_⟩
      refine ⟨by rw [ims_length]; omega,k+1,by omega,by omega,wrap_succ (by omega),?_⟩
      exact (ims_sets (by omega) (gStrided s.ims[k] more)).trans (congrArg ims (strTo_succ hk1))
    · have:k=s.ims.length:=by omega
      subst this
      have hU:∀ m∈s.ims.map (gStrided · more),m.isU:=fun m hm=>by
        obtain ⟨m',h',rfl⟩:=List.mem_map.1 hm
        exact gStrided_isU (s.ims_isU _ h') more
      have hl:(s.ims.map (gStrided · more)).length=s.ims.length:=by simp
      have a4:=L18_bytes_ans (encB s.scr) (encB s.scr)
      have a5:=script_Equal_ans ⟨s.bits,s.c,s.gtw,s.gth,s.ord,s.ims.map (gStrided · more),s.ops⟩ s.scr.norm hU hNU
      have a6:=R18_Equal_ans ⟨s.bits,s.c,s.gtw,s.gth,s.ord,s.ims.map (gStrided · more),s.ops⟩ s.scr.norm hU hNU
      have eq:=s.str_eq more
      have e5:eqS ⟨s.bits,s.c,s.gtw,s.gth,s.ord,s.ims.map (gStrided · more),s.ops⟩ ⟨s.scr.norm.bits,s.scr.norm.c,s.scr.norm.tw,s.scr.norm.th,s.scr.norm.ord,s.scr.norm.ims,s.scr.norm.ops⟩=true:=eq
      have eR:(⟨s.scr.norm.c.a,s.scr.norm.c.b,s.scr.norm.c.c,s.scr.norm.c.d⟩:Rc)=s.scr.norm.c:=rfl
      simp only [ints_is,toIms_ims,toOps_ops,strTo_all,hl,eR,eq,e5] at a4 a5 a6 ⊢
      generalize encB s.scr=B at *
      have nf:∀ {p:Prop},(true=false)→p:=fun h=>by cases h
      (repeat' (first | apply And.intro | intro _)) <;> first | exact L18_awakeD_ans | exact a4 | exact a5 | exact a6 | exact beq_self_eq_true _ | (rename_i h; first | exact nf h | (rw [beq_self_eq_true] at h; exact nf h) | exact absurd h (by decide))
end Go.Proofs.Ytlnfgagmiogkgaa
namespace Go.Proofs.Ytlnfgagmiogkgaa.closed
open Go
set_option linter.unusedVariables false
set_option linter.unusedSimpArgs false
set_option maxRecDepth 100000 in
theorem headWord:Try.prog.initOrder=String.ofList [Char.ofNat 104,Char.ofNat 97,Char.ofNat 114,Char.ofNat 110,Char.ofNat 101,Char.ofNat 115,Char.ofNat 115,Char.ofNat 32,Char.ofNat 52,Char.ofNat 101,Char.ofNat 55,Char.ofNat 100,Char.ofNat 98,Char.ofNat 99,Char.ofNat 99,Char.ofNat 49,Char.ofNat 49,Char.ofNat 55,Char.ofNat 98,Char.ofNat 100,Char.ofNat 53,Char.ofNat 57,Char.ofNat 49,Char.ofNat 102,Char.ofNat 97,Char.ofNat 57,Char.ofNat 97,Char.ofNat 101,Char.ofNat 100,Char.ofNat 56,Char.ofNat 101,Char.ofNat 97,Char.ofNat 97,Char.ofNat 56,Char.ofNat 101,Char.ofNat 102,Char.ofNat 57,Char.ofNat 50,Char.ofNat 100,Char.ofNat 52,Char.ofNat 48,Char.ofNat 100,Char.ofNat 49,Char.ofNat 101,Char.ofNat 99,Char.ofNat 101,Char.ofNat 57,Char.ofNat 98,Char.ofNat 97,Char.ofNat 49,Char.ofNat 54,Char.ofNat 99,Char.ofNat 52,Char.ofNat 102,Char.ofNat 99,Char.ofNat 55,Char.ofNat 55,Char.ofNat 100,Char.ofNat 101,Char.ofNat 52,Char.ofNat 48,Char.ofNat 56,Char.ofNat 54,Char.ofNat 98,Char.ofNat 100,Char.ofNat 97,Char.ofNat 53,Char.ofNat 52,Char.ofNat 99,Char.ofNat 48,Char.ofNat 56,Char.ofNat 56,Char.ofNat 32,Char.ofNat 99,Char.ofNat 117,Char.ofNat 116,Char.ofNat 32,Char.ofNat 97,Char.ofNat 116,Char.ofNat 32,Char.ofNat 99,Char.ofNat 111,Char.ofNat 109,Char.ofNat 112,Char.ofNat 111,Char.ofNat 115,Char.ofNat 105,Char.ofNat 116,Char.ofNat 111,Char.ofNat 114,Char.ofNat 47,Char.ofNat 99,Char.ofNat 111,Char.ofNat 109,Char.ofNat 112,Char.ofNat 111,Char.ofNat 115,Char.ofNat 105,Char.ofNat 116,Char.ofNat 111,Char.ofNat 114,Char.ofNat 108,Char.ofNat 97,Char.ofNat 119,Char.ofNat 49,Char.ofNat 56,Char.ofNat 46,Char.ofNat 83,Char.ofNat 99,Char.ofNat 114,Char.ofNat 105,Char.ofNat 112,Char.ofNat 116,Char.ofNat 69,Char.ofNat 110,Char.ofNat 99,Char.ofNat 111,Char.ofNat 100,Char.ofNat 101,Char.ofNat 65,Char.ofNat 103,Char.ofNat 114,Char.ofNat 101,Char.ofNat 101,Char.ofNat 115,Char.ofNat 32,Char.ofNat 99,Char.ofNat 111,Char.ofNat 109,Char.ofNat 112,Char.ofNat 111,Char.ofNat 115,Char.ofNat 105,Char.ofNat 116,Char.ofNat 111,Char.ofNat 114,Char.ofNat 47,Char.ofNat 99,Char.ofNat 111,Char.ofNat 109,Char.ofNat 112,Char.ofNat 111,Char.ofNat 115,Char.ofNat 105,Char.ofNat 116,Char.ofNat 111,Char.ofNat 114,Char.ofNat 108,Char.ofNat 97,Char.ofNat 119,Char.ofNat 49,Char.ofNat 56,Char.ofNat 46,Char.ofNat 83,Char.ofNat 99,Char.ofNat 114,Char.ofNat 105,Char.ofNat 112,Char.ofNat 116,Char.ofNat 69,Char.ofNat 110,Char.ofNat 99,Char.ofNat 111,Char.ofNat 100,Char.ofNat 97,Char.ofNat 98,Char.ofNat 108,Char.ofNat 101,Char.ofNat 65,Char.ofNat 103,Char.ofNat 114,Char.ofNat 101,Char.ofNat 101,Char.ofNat 115,Char.ofNat 32,Char.ofNat 99,Char.ofNat 111,Char.ofNat 109,Char.ofNat 112,Char.ofNat 111,Char.ofNat 115,Char.ofNat 105,Char.ofNat 116,Char.ofNat 111,Char.ofNat 114,Char.ofNat 47,Char.ofNat 99,Char.ofNat 111,Char.ofNat 109,Char.ofNat 112,Char.ofNat 111,Char.ofNat 115,Char.ofNat 105,Char.ofNat 116,Char.ofNat 111,Char.ofNat 114,Char.ofNat 108,Char.ofNat 97,Char.ofNat 119,Char.ofNat 49,Char.ofNat 56,Char.ofNat 46,Char.ofNat 83,Char.ofNat 99,Char.ofNat 114,Char.ofNat 105,Char.ofNat 112,Char.ofNat 116,Char.ofNat 68,Char.ofNat 101,Char.ofNat 99,Char.ofNat 111,Char.ofNat 100,Char.ofNat 101,Char.ofNat 65,Char.ofNat 103,Char.ofNat 114,Char.ofNat 101,Char.ofNat 101,Char.ofNat 115,Char.ofNat 32,Char.ofNat 99,Char.ofNat 111,Char.ofNat 109,Char.ofNat 112,Char.ofNat 111,Char.ofNat 115,Char.ofNat 105,Char.ofNat 116,Char.ofNat 111,Char.ofNat 114,Char.ofNat 47,Char.ofNat 99,Char.ofNat 111,Char.ofNat 109,Char.ofNat 112,Char.ofNat 111,Char.ofNat 115,Char.ofNat 105,Char.ofNat 116,Char.ofNat 111,Char.ofNat 114,Char.ofNat 108,Char.ofNat 97,Char.ofNat 119,Char.ofNat 49,Char.ofNat 56,Char.ofNat 46,Char.ofNat 83,Char.ofNat 99,Char.ofNat 114,Char.ofNat 105,Char.ofNat 112,Char.ofNat 116,Char.ofNat 68,Char.ofNat 101,Char.ofNat 99,Char.ofNat 111,Char.ofNat 100,Char.ofNat 101,Char.ofNat 78,Char.ofNat 101,Char.ofNat 101,Char.ofNat 100,Char.ofNat 115,Char.ofNat 65,Char.ofNat 108,Char.ofNat 108,Char.ofNat 66,Char.ofNat 121,Char.ofNat 116,Char.ofNat 101,Char.ofNat 115,Char.ofNat 32,Char.ofNat 99,Char.ofNat 111,Char.ofNat 109,Char.ofNat 112,Char.ofNat 111,Char.ofNat 115,Char.ofNat 105,Char.ofNat 116,Char.ofNat 111,Char.ofNat 114,Char.ofNat 47,Char.ofNat 99,Char.ofNat 111,Char.ofNat 109,Char.ofNat 112,Char.ofNat 111,Char.ofNat 115,Char.ofNat 105,Char.ofNat 116,Char.ofNat 111,Char.ofNat 114,Char.ofNat 108,Char.ofNat 97,Char.ofNat 119,Char.ofNat 49,Char.ofNat 56,Char.ofNat 46,Char.ofNat 83,Char.ofNat 99,Char.ofNat 114,Char.ofNat 105,Char.ofNat 112,Char.ofNat 116,Char.ofNat 82,Char.ofNat 111,Char.ofNat 117,Char.ofNat 110,Char.ofNat 100,Char.ofNat 84,Char.ofNat 114,Char.ofNat 105,Char.ofNat 112,Char.ofNat 32,Char.ofNat 99,Char.ofNat 111,Char.ofNat 109,Char.ofNat 112,Char.ofNat 111,Char.ofNat 115,Char.ofNat 105,Char.ofNat 116,Char.ofNat 111,Char.ofNat 114,Char.ofNat 47,Char.ofNat 99,Char.ofNat 111,Char.ofNat 109,Char.ofNat 112,Char.ofNat 111,Char.ofNat 115,Char.ofNat 105,Char.ofNat 116,Char.ofNat 111,Char.ofNat 114,Char.ofNat 108,Char.ofNat 97,Char.ofNat 119,Char.ofNat 49,Char.ofNat 56,Char.ofNat 46,Char.ofNat 83,Char.ofNat 99,Char.ofNat 114,Char.ofNat 105,Char.ofNat 112,Char.ofNat 116,Char.ofNat 69,Char.ofNat 113,Char.ofNat 117,Char.ofNat 97,Char.ofNat 108,Char.ofNat 65,Char.ofNat 103,Char.ofNat 114,Char.ofNat 101,Char.ofNat 101,Char.ofNat 115]:=by kernel_rfl
set_option maxRecDepth 100000 in
theorem headSigns:Try.prog.initOrder.toList=[Char.ofNat 104,Char.ofNat 97,Char.ofNat 114,Char.ofNat 110,Char.ofNat 101,Char.ofNat 115,Char.ofNat 115,Char.ofNat 32,Char.ofNat 52,Char.ofNat 101,Char.ofNat 55,Char.ofNat 100,Char.ofNat 98,Char.ofNat 99,Char.ofNat 99,Char.ofNat 49,Char.ofNat 49,Char.ofNat 55,Char.ofNat 98,Char.ofNat 100,Char.ofNat 53,Char.ofNat 57,Char.ofNat 49,Char.ofNat 102,Char.ofNat 97,Char.ofNat 57,Char.ofNat 97,Char.ofNat 101,Char.ofNat 100,Char.ofNat 56,Char.ofNat 101,Char.ofNat 97,Char.ofNat 97,Char.ofNat 56,Char.ofNat 101,Char.ofNat 102,Char.ofNat 57,Char.ofNat 50,Char.ofNat 100,Char.ofNat 52,Char.ofNat 48,Char.ofNat 100,Char.ofNat 49,Char.ofNat 101,Char.ofNat 99,Char.ofNat 101,Char.ofNat 57,Char.ofNat 98,Char.ofNat 97,Char.ofNat 49,Char.ofNat 54,Char.ofNat 99,Char.ofNat 52,Char.ofNat 102,Char.ofNat 99,Char.ofNat 55,Char.ofNat 55,Char.ofNat 100,Char.ofNat 101,Char.ofNat 52,Char.ofNat 48,Char.ofNat 56,Char.ofNat 54,Char.ofNat 98,Char.ofNat 100,Char.ofNat 97,Char.ofNat 53,Char.ofNat 52,Char.ofNat 99,Char.ofNat 48,Char.ofNat 56,Char.ofNat 56,Char.ofNat 32,Char.ofNat 99,Char.ofNat 117,Char.ofNat 116,Char.ofNat 32,Char.ofNat 97,Char.ofNat 116,Char.ofNat 32,Char.ofNat 99,Char.ofNat 111,Char.ofNat 109,Char.ofNat 112,Char.ofNat 111,Char.ofNat 115,Char.ofNat 105,Char.ofNat 116,Char.ofNat 111,Char.ofNat 114,Char.ofNat 47,Char.ofNat 99,Char.ofNat 111,Char.ofNat 109,Char.ofNat 112,Char.ofNat 111,Char.ofNat 115,Char.ofNat 105,Char.ofNat 116,Char.ofNat 111,Char.ofNat 114,Char.ofNat 108,Char.ofNat 97,Char.ofNat 119,Char.ofNat 49,Char.ofNat 56,Char.ofNat 46,Char.ofNat 83,Char.ofNat 99,Char.ofNat 114,Char.ofNat 105,Char.ofNat 112,Char.ofNat 116,Char.ofNat 69,Char.ofNat 110,Char.ofNat 99,Char.ofNat 111,Char.ofNat 100,Char.ofNat 101,Char.ofNat 65,Char.ofNat 103,Char.ofNat 114,Char.ofNat 101,Char.ofNat 101,Char.ofNat 115,Char.ofNat 32,Char.ofNat 99,Char.ofNat 111,Char.ofNat 109,Char.ofNat 112,Char.ofNat 111,Char.ofNat 115,Char.ofNat 105,Char.ofNat 116,Char.ofNat 111,Char.ofNat 114,Char.ofNat 47,Char.ofNat 99,Char.ofNat 111,Char.ofNat 109,Char.ofNat 112,Char.ofNat 111,Char.ofNat 115,Char.ofNat 105,Char.ofNat 116,Char.ofNat 111,Char.ofNat 114,Char.ofNat 108,Char.ofNat 97,Char.ofNat 119,Char.ofNat 49,Char.ofNat 56,Char.ofNat 46,Char.ofNat 83,Char.ofNat 99,Char.ofNat 114,Char.ofNat 105,Char.ofNat 112,Char.ofNat 116,Char.ofNat 69,Char.ofNat 110,Char.ofNat 99,Char.ofNat 111,Char.ofNat 100,Char.ofNat 97,Char.ofNat 98,Char.ofNat 108,Char.ofNat 101,Char.ofNat 65,Char.ofNat 103,Char.ofNat 114,Char.ofNat 101,Char.ofNat 101,Char.ofNat 115,Char.ofNat 32,Char.ofNat 99,Char.ofNat 111,Char.ofNat 109,Char.ofNat 112,Char.ofNat 111,Char.ofNat 115,Char.ofNat 105,Char.ofNat 116,Char.ofNat 111,Char.ofNat 114,Char.ofNat 47,Char.ofNat 99,Char.ofNat 111,Char.ofNat 109,Char.ofNat 112,Char.ofNat 111,Char.ofNat 115,Char.ofNat 105,Char.ofNat 116,Char.ofNat 111,Char.ofNat 114,Char.ofNat 108,Char.ofNat 97,Char.ofNat 119,Char.ofNat 49,Char.ofNat 56,Char.ofNat 46,Char.ofNat 83,Char.ofNat 99,Char.ofNat 114,Char.ofNat 105,Char.ofNat 112,Char.ofNat 116,Char.ofNat 68,Char.ofNat 101,Char.ofNat 99,Char.ofNat 111,Char.ofNat 100,Char.ofNat 101,Char.ofNat 65,Char.ofNat 103,Char.ofNat 114,Char.ofNat 101,Char.ofNat 101,Char.ofNat 115,Char.ofNat 32,Char.ofNat 99,Char.ofNat 111,Char.ofNat 109,Char.ofNat 112,Char.ofNat 111,Char.ofNat 115,Char.ofNat 105,Char.ofNat 116,Char.ofNat 111,Char.ofNat 114,Char.ofNat 47,Char.ofNat 99,Char.ofNat 111,Char.ofNat 109,Char.ofNat 112,Char.ofNat 111,Char.ofNat 115,Char.ofNat 105,Char.ofNat 116,Char.ofNat 111,Char.ofNat 114,Char.ofNat 108,Char.ofNat 97,Char.ofNat 119,Char.ofNat 49,Char.ofNat 56,Char.ofNat 46,Char.ofNat 83,Char.ofNat 99,Char.ofNat 114,Char.ofNat 105,Char.ofNat 112,Char.ofNat 116,Char.ofNat 68,Char.ofNat 101,Char.ofNat 99,Char.ofNat 111,Char.ofNat 100,Char.ofNat 101,Char.ofNat 78,Char.ofNat 101,Char.ofNat 101,Char.ofNat 100,Char.ofNat 115,Char.ofNat 65,Char.ofNat 108,Char.ofNat 108,Char.ofNat 66,Char.ofNat 121,Char.ofNat 116,Char.ofNat 101,Char.ofNat 115,Char.ofNat 32,Char.ofNat 99,Char.ofNat 111,Char.ofNat 109,Char.ofNat 112,Char.ofNat 111,Char.ofNat 115,Char.ofNat 105,Char.ofNat 116,Char.ofNat 111,Char.ofNat 114,Char.ofNat 47,Char.ofNat 99,Char.ofNat 111,Char.ofNat 109,Char.ofNat 112,Char.ofNat 111,Char.ofNat 115,Char.ofNat 105,Char.ofNat 116,Char.ofNat 111,Char.ofNat 114,Char.ofNat 108,Char.ofNat 97,Char.ofNat 119,Char.ofNat 49,Char.ofNat 56,Char.ofNat 46,Char.ofNat 83,Char.ofNat 99,Char.ofNat 114,Char.ofNat 105,Char.ofNat 112,Char.ofNat 116,Char.ofNat 82,Char.ofNat 111,Char.ofNat 117,Char.ofNat 110,Char.ofNat 100,Char.ofNat 84,Char.ofNat 114,Char.ofNat 105,Char.ofNat 112,Char.ofNat 32,Char.ofNat 99,Char.ofNat 111,Char.ofNat 109,Char.ofNat 112,Char.ofNat 111,Char.ofNat 115,Char.ofNat 105,Char.ofNat 116,Char.ofNat 111,Char.ofNat 114,Char.ofNat 47,Char.ofNat 99,Char.ofNat 111,Char.ofNat 109,Char.ofNat 112,Char.ofNat 111,Char.ofNat 115,Char.ofNat 105,Char.ofNat 116,Char.ofNat 111,Char.ofNat 114,Char.ofNat 108,Char.ofNat 97,Char.ofNat 119,Char.ofNat 49,Char.ofNat 56,Char.ofNat 46,Char.ofNat 83,Char.ofNat 99,Char.ofNat 114,Char.ofNat 105,Char.ofNat 112,Char.ofNat 116,Char.ofNat 69,Char.ofNat 113,Char.ofNat 117,Char.ofNat 97,Char.ofNat 108,Char.ofNat 65,Char.ofNat 103,Char.ofNat 114,Char.ofNat 101,Char.ofNat 101,Char.ofNat 115]:=by rw [headWord,String.toList_ofList]
set_option maxRecDepth 100000 in
theorem enters:Try.prog.mayEnter=true:=by
  unfold Program.mayEnter Program.doorFits
  rw [headSigns]
  kernel_rfl
set_option maxRecDepth 100000 in
theorem liftsNot:Try.prog.liftsFinal=false:=by
  unfold Program.liftsFinal Program.headLifts
  rw [headSigns]
  kernel_rfl
set_option maxRecDepth 100000 in
theorem made:Try.prog.make=some .cut:=by
  unfold Program.make
  rw [headSigns]
  kernel_rfl
theorem own:ownKnob Try.prog.godebug=none:=by kernel_rfl
theorem laidOut:laidOutB Try.prog=true:=by kernel_rfl
theorem mapsRow:mapsRowed Try.prog=true:=by kernel_rfl
theorem noStops:(Try.prog.stops==[])=true:=by kernel_rfl
theorem noKnobs:(Try.prog.stopKnobs==[])=true:=by kernel_rfl
theorem plain:Try.prog.plainKeys=true:=by kernel_rfl
theorem heard:Try.prog.stopsHeard=true:=by kernel_rfl
end Go.Proofs.Ytlnfgagmiogkgaa.closed
