/-
  Part 4 of what BoundsOutsideNothingHappens rests on.
-/
import Derived.Test.YthjaljiamllaeaaGreatDoorBoundsOutsideNothingHappensZ3
import Derived.Shelf.Spec.BitsCarry
namespace Go.Proofs.YthjaljiamllaeaaGreatDoor
open Go.RowKit
set_option linter.unusedVariables false
set_option linter.unusedSimpArgs false
set_option maxRecDepth 20000
structure Lv where
  op:Oq
  acc:Ac
  back:Px
def zXF:Lv:=⟨⟨2,0,0,0,0,0,0,0,0,0,true,false⟩,.zero,.zero⟩
def topL (L:List Lv):Lv:=(L[L.length - 1]?).getD zXF
def zKa (p:Px) (k m:Int):Bool:=zZj m && (p.ok m && decide (k≤m))
def zQU (p:Px) (k m:Int):Px × Bool:=if zKa p k m then (zXZ p k m,true) else (.zero,false)
def zYn (p:Px) (a b m:Int):Px × Bool:=if zKa p a m then zQU (zXZ p a m) b m else (.zero,false)
def zQe (m:Int) (o:Oq) (p:Px) (mask:Int):Px × Bool:=zYn p (if o.mask=0 then m else mask) o.opac m
def zZI (m:Int) (L:List Lv) (o:Oq) (p:Px):Bool:=zXg (topL L).op.kno o.oper o.mode m p (topL L).acc (topL L).back
def zZf (m:Int) (L:List Lv) (o:Oq) (p:Px):List Lv:=if zZI m L o p then L.set (L.length - 1) ⟨(topL L).op,accS (topL L).op.kno o.oper o.mode m p (topL L).acc (topL L).back,(topL L).back⟩ else L
def zYR (m:Int) (L:List Lv) (o:Oq) (p:Px) (mask:Int):List Lv:=if o.kind=1∧(zQe m o p mask).2=true then zZf m L o (zQe m o p mask).1 else L
def zXS (L:List Lv) (o:Oq):List Lv:=if o.kind=2∧L.length < 65 then L++[⟨o,(zQo o.iso (topL L).op.kno (topL L).acc (topL L).back).1,(zQo o.iso (topL L).op.kno (topL L).acc (topL L).back).2⟩] else L
def resB (m:Int) (t:Lv):Bool:=t.acc.ok t.back m
def resL (m:Int) (t:Lv):Px:=if resB m t then zZG t.acc t.back m else .zero
def popL (m:Int) (L:List Lv) (mask:Int):List Lv:=
 if L.length≤1 then L
 else if (zQe m (topL L).op (resL m (topL L)) mask).2=false then L
 else if resB m (topL L) && zZI m L.dropLast (topL L).op (zQe m (topL L).op (resL m (topL L)) mask).1 then zZf m L.dropLast (topL L).op (zQe m (topL L).op (resL m (topL L)) mask).1
 else L
def zZF (m:Im) (x y dx dy:Int):Px:=if x < dx∨y < dy∨x - dx≥1099511627776∨y - dy≥1099511627776 then .zero else m.at_ (x - dx) (y - dy)
def zJA (ms:List Im) (i x y dx dy:Int):Px:=if 0≤i then match ms[i.toNat]? with
 | some m=>zZF m x y dx dy
 | none=>.zero
 else .zero
def srcS (ms:List Im) (o:Oq) (x y:Int):Px:=if o.kind=1 then zJA ms o.image x y o.x o.y else .zero
def zZY (ms:List Im) (o:Oq) (x y:Int):Int:=if 1≤o.mask then (zJA ms (o.mask - 1) x y o.mx o.my).al else 0
def zYW (m:Int) (ms:List Im) (x y:Int) (L:List Lv) (o:Oq):List Lv:=
 if o.kind=1 then zYR m L o (srcS ms o x y) (zZY ms o x y)
 else if o.kind=2 then zXS L o
 else if o.kind=3 then popL m L (zZY ms (topL L).op x y)
 else L
def runM (m:Int) (ms:List Im) (x y:Int) (l:List Oq) (L:List Lv):List Lv:=l.foldl (zYW m ms x y) L
theorem zJL (m:Int) (ms:List Im) (x y:Int) (l k:List Oq) (L:List Lv):runM m ms x y (l++k) L=runM m ms x y k (runM m ms x y l L):=List.foldl_append
theorem zYh (m:Int) (ms:List Im) (x y:Int) (o:Oq) (k:List Oq) (L:List Lv):runM m ms x y (o::k) L=runM m ms x y k (zYW m ms x y L o):=rfl
def zXY (m:Int) (ms:List Im) (x y:Int) (l:List Oq):Px:=
 let L:=runM m ms x y l [zXF]
 if 1 < L.length then .zero else resL m ((L[0]?).getD zXF)
def Fo.vf (bits:Int) (mn:Nat):List Oq→Fo→Prop
 | st,.nil=>True
 | st,.draw o r=>o.kind=1∧errO bits mn o st=0∧r.vf bits mn st
 | st,.grp o k r=>o.kind=2∧errO bits mn o st=0∧k.vf bits mn (st++[o])∧r.vf bits mn st
theorem zWk {o:Oq} {st:List Oq} (h:o.kind=1):zZX o st=st:=by
 unfold zZX; rw [if_neg (by omega),if_neg (by omega)]
theorem zWj {o:Oq} {st:List Oq} (h:o.kind=2):zZX o st=st++[o]:=by
 unfold zZX; rw [if_pos h]
theorem jZf {st:List Oq}:zZX popO st=st.dropLast:=by
 have h1:popO.kind=3:=rfl
 unfold zZX; rw [if_neg (by rw [h1]; decide),if_pos h1]
theorem jZv {bits:Int} {mn:Nat}:∀ (f:Fo) (st st':List Oq),f.ok→okO bits mn f.flat st=some st'→f.vf bits mn st∧st'=st
 | .nil,st,st',_,h=>⟨trivial,by simpa [Fo.flat,okO] using h.symm⟩
 | .draw o r,st,st',hf,h=>by
  simp only [Fo.flat,okO] at h
  split at h
  ·rename_i he
   rw [zWk hf.1] at h
   have ⟨h1,h2⟩:=jZv r st st' hf.2 h
   exact ⟨⟨hf.1,he,h1⟩,h2⟩
  ·cases h
 | .grp o k r,st,st',hf,h=>by
  simp only [Fo.flat,okO] at h
  split at h
  ·rename_i he
   rw [zWj hf.1,zY5] at h
   cases hk:okO bits mn k.flat (st++[o]) with
   | none=>rw [hk] at h; cases h
   | some s1=>
    rw [hk] at h
    have ⟨k1,k2⟩:=jZv k (st++[o]) s1 hf.2.1 hk
    subst k2
    simp only [Option.bind_some,okO] at h
    split at h
    ·rw [jZf,List.dropLast_concat] at h
     have ⟨h1,h2⟩:=jZv r st st' hf.2.2 h
     exact ⟨⟨hf.1,he,k1,h1⟩,h2⟩
    ·cases h
  ·cases h
theorem zUA {bits:Int} {mn:Nat}:∀ (f:Fo) (st:List Oq),f.vf bits mn st→f.ok∧okO bits mn f.flat st=some st
 | .nil,st,_=>⟨trivial,rfl⟩
 | .draw o r,st,h=>by
  obtain ⟨h1,h2,h3⟩:=h
  have ⟨i1,i2⟩:=zUA r st h3
  refine ⟨⟨h1,i1⟩,?_⟩
  simp only [Fo.flat,okO]
  rw [if_pos h2,zWk h1]; exact i2
 | .grp o k r,st,h=>by
  obtain ⟨h1,h2,h3,h4⟩:=h
  have ⟨k1,k2⟩:=zUA k (st++[o]) h3
  have ⟨i1,i2⟩:=zUA r st h4
  refine ⟨⟨h1,k1,i1⟩,?_⟩
  simp only [Fo.flat,okO]
  rw [if_pos h2,zWj h1,zY5,k2]
  simp only [Option.bind_some,okO]
  rw [if_pos (zG5 (by simp)),jZf,List.dropLast_concat]; exact i2
theorem zZS {bits:Int} {mn:Nat} {o:Oq} {st:List Oq} (hk:o.kind=1∨o.kind=2) (h:errO bits mn o st=0) :
  (o.kind=1→0≤o.image∧o.image < mn)∧(0≤o.mask∧o.mask≤mn)∧(zZA o.x=true∧zZA o.y=true∧zZA o.mx=true∧zZA o.my=true)∧o.opac≤zQ1 bits∧isNm o.oper=true∧isNm o.mode=true∧(o.oper=4∨ctxB st=true)∧(o.kind=2→st.length < 64):=by
 unfold errO at h
 split at h
 ·cases h
 split at h
 ·cases h
 split at h
 ·omega
 split at h
 ·cases h
 rename_i hm
 split at h
 ·cases h
 rename_i hn
 split at h
 ·cases h
 split at h
 ·cases h
 rename_i h1
 split at h
 ·cases h
 rename_i h2
 split at h
 ·cases h
 rename_i h3
 split at h
 ·cases h
 rename_i h4
 refine ⟨fun q=>?_,?_,Decidable.not_not.1 hn,by omega,decide_eq_true (Decidable.not_not.1 h1),decide_eq_true (Decidable.not_not.1 h2),?_,fun q=>?_⟩
 ·omega
 ·omega
 ·by_cases q:o.oper=4
  ·exact .inl q
  ·refine .inr ?_
   cases hc:ctxB st with
   | true=>rfl
   | false=>exact absurd ⟨q,hc⟩ h3
 ·omega
structure zKE (m:Int) (ms:List Im):Prop where
  full:zZj m=true
  px:∀ i∈ms,∀ x y,(i.at_ x y).ok m=true∧(i.at_ x y).nn
structure StOk (m:Int) (st:List Oq) (L:List Lv):Prop where
  ops:L.map Lv.op=zXF.op::st
  lv:∀ t∈L,LvOk m t.op.iso t.op.kno t.acc t.back
  opac:∀ o∈st,0≤o.opac∧o.opac≤m
theorem StOk.len {m:Int} {st:List Oq} {L:List Lv} (h:StOk m st L):L.length=st.length+1:=by
 have:=congrArg List.length h.ops
 simpa using this
theorem zZ7 (P:List Lv) (t:Lv):topL (P++[t])=t:=by simp [topL]
theorem StOk.split {m:Int} {st:List Oq} {L:List Lv} (h:StOk m st L):∃ P t,L=P++[t]:=by
 have:=h.len
 have hne:L≠[]:=by intro e; rw [e] at this; simp at this
 exact ⟨L.dropLast,L.getLast hne,(List.dropLast_concat_getLast hne).symm⟩
theorem jKw {m:Int} {st:List Oq} {P:List Lv} {t:Lv} (h:StOk m st (P++[t])) (hc:ctxB st=true):t.op.iso=true∧t.op.kno=false:=by
 have e:=h.ops
 rw [List.map_append,List.map_cons,List.map_nil] at e
 cases st with
 | nil=>
  have:P.map Lv.op=[]∧t.op=zXF.op:=by
   cases hp:P.map Lv.op with
   | nil=>rw [hp] at e; simpa using e
   | cons a r=>rw [hp] at e; simp at e
  rw [this.2]; exact ⟨rfl,rfl⟩
 | cons a r=>
  have e2:(zXF.op::a::r).getLast?=some t.op:=by rw [← e]; simp
  rw [List.getLast?_cons_cons] at e2
  unfold ctxB at hc
  rw [e2] at hc
  simpa using hc
theorem zUB (P:List Lv) (t u:Lv):(P++[t]).set ((P++[t]).length - 1) u=P++[u]:=by
 rw [List.length_append,List.length_singleton,Nat.add_sub_cancel,List.set_append_right _ _ (Nat.le_refl _),Nat.sub_self]; rfl
theorem jX6 {m:Int} {ms:List Im} (h:zKE m ms) (i x y dx dy:Int):(zJA ms i x y dx dy).ok m=true∧(zJA ms i x y dx dy).nn:=by
 have z:=zKl (m:=m) (by have:=(zZd h.full).1; omega)
 unfold zJA
 split
 ·split
  ·rename_i im hi
   unfold zZF
   split
   ·exact z
   ·exact h.px _ (List.mem_of_getElem? hi) _ _
  ·exact z
 ·exact z
theorem jJE {m:Int} {ms:List Im} (h:zKE m ms) (o:Oq) (x y:Int):(srcS ms o x y).ok m=true∧(srcS ms o x y).nn:=by
 unfold srcS
 split
 ·exact jX6 h _ _ _ _ _
 ·exact zKl (by have:=(zZd h.full).1; omega)
theorem zGR {m:Int} {ms:List Im} (h:zKE m ms) (o:Oq) (x y:Int):0≤zZY ms o x y∧zZY ms o x y≤m:=by
 have hm:=(zZd h.full).1
 unfold zZY
 split
 ·obtain ⟨a,b,c,d⟩:=jX6 h (o.mask - 1) x y o.mx o.my
  obtain ⟨q1,q2,q3,q4,q5⟩:=Px.ok_iff.1 a
  omega
 ·omega
theorem zKK {m:Int} {o:Oq} {p:Px} {mask:Int} (hf:zZj m=true) (hp:p.ok m=true) (hn:p.nn) (h0:0≤mask) (h1:mask≤m) (o0:0≤o.opac) (o1:o.opac≤m) :
  zQe m o p mask=(zXZ (zXZ p (if o.mask=0 then m else mask) m) o.opac m,true)∧(zQe m o p mask).1.ok m=true∧(zQe m o p mask).1.nn:=by
 have hm:=(zZd hf).1
 have hk:0≤(if o.mask=0 then m else mask)∧(if o.mask=0 then m else mask)≤m:=by split <;> omega
 have ⟨a1,a2⟩:=zGn hm hp hn hk.1 hk.2
 have ⟨b1,b2⟩:=zGn hm a1 a2 o0 o1
 have e:zQe m o p mask=(zXZ (zXZ p (if o.mask=0 then m else mask) m) o.opac m,true):=by
  unfold zQe zYn zQU zKa
  rw [hf,hp,a1,decide_eq_true hk.2,decide_eq_true o1]
  rfl
 rw [e]
 exact ⟨rfl,b1,b2⟩
theorem zVu {m:Int} {st:List Oq} {P:List Lv} {t:Lv} (h:StOk m st (P++[t])) {o:Oq} {p:Px} (hp:p.ok m=true) (hn:p.nn) (h1:isNm o.oper=true) (h2:isNm o.mode=true) (hop:o.oper=4∨ctxB st=true) :
  zZI m (P++[t]) o p=true∧∃ x,zZf m (P++[t]) o p=P++[⟨t.op,x,t.back⟩]∧StOk m st (P++[⟨t.op,x,t.back⟩]):=by
 have ht:=h.lv t (by simp)
 have hc:o.oper=4∨(t.op.iso=true∧t.op.kno=false):=hop.imp id (jKw h)
 have ⟨k1,k2⟩:=jJU ht hp hn h1 h2 hc
 have e:zZI m (P++[t]) o p=true:=by unfold zZI; rw [zZ7]; exact k1
 refine ⟨e,accS t.op.kno o.oper o.mode m p t.acc t.back,?_,?_⟩
 ·unfold zZf
  rw [if_pos e,zZ7,zUB]
 ·refine ⟨by have:=h.ops; simpa using this,fun u hu=>?_,h.opac⟩
  rcases List.mem_append.1 hu with hu | hu
  ·exact h.lv u (by simp [hu])
  ·rw [List.mem_singleton.1 hu]; exact k2
theorem zUX {m:Int} {st:List Oq} {P:List Lv} {t:Lv} (h:StOk m st (P++[t])) {o:Oq} (hn:zQ8 o.oper=true):zZf m (P++[t]) o .zero=P++[t]:=by
 unfold zZf
 split
 ·rename_i hb
  unfold zZI at hb
  rw [zZ7] at hb
  have ht:=h.lv t (by simp)
  rw [zZ7,jYM hn ht.nn ht.kn hb,zUB]
 ·rfl
theorem jQg {m:Int} {bits:Int} {ms:List Im} {st:List Oq} {P:List Lv} {t:Lv} (hi:zKE m ms) (hb:zQ1 bits=m) (h:StOk m st (P++[t])) {o:Oq} (hk:o.kind=1) (h0:0≤o.opac) (he:errO bits ms.length o st=0) (x y:Int) :
  ∃ a,zYW m ms x y (P++[t]) o=P++[⟨t.op,a,t.back⟩]∧StOk m st (P++[⟨t.op,a,t.back⟩]):=by
 obtain ⟨_,_,_,f1,f2,f3,f4,_⟩:=zZS (.inl hk) he
 have ⟨s1,s2⟩:=jJE hi o x y
 have ⟨m1,m2⟩:=zGR hi o x y
 obtain ⟨e,s3,s4⟩:=zKK (o:=o) hi.full s1 s2 m1 m2 h0 (by omega)
 obtain ⟨_,a,ha,hs⟩:=zVu h s3 s4 f2 f3 f4
 refine ⟨a,?_,hs⟩
 unfold zYW zYR
 rw [if_pos hk,if_pos ⟨hk,by rw [e]⟩]
 exact ha
theorem zWC {m:Int} {bits:Int} {ms:List Im} {st:List Oq} {P:List Lv} {t:Lv} (hb:zQ1 bits=m) (h:StOk m st (P++[t])) {o:Oq} (hk:o.kind=2) (h0:0≤o.opac) (he:errO bits ms.length o st=0) (x y:Int) :
  zYW m ms x y (P++[t]) o=(P++[t])++[⟨o,(zQo o.iso t.op.kno t.acc t.back).1,(zQo o.iso t.op.kno t.acc t.back).2⟩]∧StOk m (st++[o]) ((P++[t])++[⟨o,(zQo o.iso t.op.kno t.acc t.back).1,(zQo o.iso t.op.kno t.acc t.back).2⟩]):=by
 obtain ⟨_,_,_,f1,f2,f3,f4,f5⟩:=zZS (.inr hk) he
 have hl:=h.len
 have f5:=f5 hk
 constructor
 ·unfold zYW zXS
  rw [if_neg (by omega),if_pos hk,if_pos ⟨hk,by omega⟩,zZ7]
 ·refine ⟨?_,fun u hu=>?_,fun q hq=>?_⟩
  ·rw [List.map_append,h.ops]; rfl
  ·rcases List.mem_append.1 hu with hu | hu
   ·exact h.lv u hu
   ·rw [List.mem_singleton.1 hu]; exact jJu (h.lv t (by simp))
  ·rcases List.mem_append.1 hq with hq | hq
   ·exact h.opac q hq
   ·rw [List.mem_singleton.1 hq]; omega
theorem StOk.pre {m:Int} {st:List Oq} {o:Oq} {L:List Lv} {u:Lv} (h:StOk m (st++[o]) (L++[u])):u.op=o∧StOk m st L:=by
 have e:=h.ops
 rw [List.map_append,List.map_cons,List.map_nil,show zXF.op::(st++[o])=(zXF.op::st)++[o] from rfl] at e
 have ⟨e1,e2⟩:=List.append_inj' e rfl
 refine ⟨by simpa using e2,e1,fun t ht=>h.lv t (by simp [ht]),fun q hq=>h.opac q (by simp [hq])⟩
theorem jXZ {m:Int} {ms:List Im} {st:List Oq} {o:Oq} {P:List Lv} {t u:Lv} (hi:zKE m ms) (h:StOk m (st++[o]) ((P++[t])++[u])) (h1:isNm o.oper=true) (h2:isNm o.mode=true) (hop:o.oper=4∨ctxB st=true) (x y:Int) :
  zYW m ms x y ((P++[t])++[u]) popO=zZf m (P++[t]) o (zQe m o (zZG u.acc u.back m) (zZY ms o x y)).1∧∃ a,zZf m (P++[t]) o (zQe m o (zZG u.acc u.back m) (zZY ms o x y)).1=P++[⟨t.op,a,t.back⟩]∧StOk m st (P++[⟨t.op,a,t.back⟩]):=by
 obtain ⟨eo,hs⟩:=h.pre
 have hu:=h.lv u (by simp)
 have ⟨r1,r2⟩:=zWw hu
 have ⟨m1,m2⟩:=zGR hi o x y
 have ⟨o1,o2⟩:=h.opac o (by simp)
 obtain ⟨e,s3,s4⟩:=zKK (o:=o) hi.full r1 r2 m1 m2 o1 o2
 obtain ⟨pb,a,ha,hs2⟩:=zVu hs s3 s4 h1 h2 hop
 have rb:resB m u=true:=hu.ok
 have rl:resL m u=zZG u.acc u.back m:=by unfold resL; rw [if_pos rb]
 refine ⟨?_,a,ha,hs2⟩
 have k3:popO.kind=3:=rfl
 unfold zYW popL
 rw [if_neg (by rw [k3]; decide),if_neg (by rw [k3]; decide),if_pos k3,if_neg (by simp),zZ7,eo,rl,if_neg (by rw [e]; simp),List.dropLast_concat,rb,pb]
 rfl
theorem zKO {m:Int} {bits:Int} {ms:List Im} (hi:zKE m ms) (hb:zQ1 bits=m) (x y:Int):∀ (f:Fo) (st:List Oq) (P:List Lv) (t:Lv),f.vf bits ms.length st→(∀ o∈f.flat,0≤o.opac)→StOk m st (P++[t]) →
  ∃ a,runM m ms x y f.flat (P++[t])=P++[⟨t.op,a,t.back⟩]∧StOk m st (P++[⟨t.op,a,t.back⟩])
 | .nil,st,P,t,_,_,h=>⟨t.acc,rfl,h⟩
 | .draw o r,st,P,t,hv,ho,h=>by
  obtain ⟨a,e,h1⟩:=jQg hi hb h hv.1 (ho o (by simp [Fo.flat])) hv.2.1 x y
  obtain ⟨b,e2,h2⟩:=zKO hi hb x y r st P _ hv.2.2 (fun q hq=>ho q (by simp [Fo.flat,hq])) h1
  exact ⟨b,by rw [Fo.flat,zYh,e,e2],h2⟩
 | .grp o k r,st,P,t,hv,ho,h=>by
  obtain ⟨h1,h2,h3,h4⟩:=hv
  obtain ⟨e1,s1⟩:=zWC hb h h1 (ho o (by simp [Fo.flat])) h2 x y (ms:=ms)
  obtain ⟨b,e2,s2⟩:=zKO hi hb x y k (st++[o]) (P++[t]) _ h3 (fun q hq=>ho q (by simp [Fo.flat,hq])) s1
  obtain ⟨_,_,_,_,f2,f3,f4,_⟩:=zZS (.inr h1) h2
  obtain ⟨e3,a,e4,s3⟩:=jXZ hi s2 f2 f3 f4 x y
  obtain ⟨c,e5,s4⟩:=zKO hi hb x y r st P _ h4 (fun q hq=>ho q (by simp [Fo.flat,hq])) s3
  refine ⟨c,?_,s4⟩
  rw [Fo.flat,zYh,e1,zJL,e2,zYh,e3,e4,e5]
theorem jYI {m:Int} (hf:zZj m=true):StOk m [] ([]++[zXF]):=by
 have hm:=(zZd hf).1
 refine ⟨rfl,fun t ht=>?_,fun o ho=>by simp at ho⟩
 rw [List.nil_append] at ht
 rw [List.mem_singleton.1 ht]
 exact ⟨Ac.ok_iff.2 ⟨⟨by decide,by decide,by decide⟩,hf,⟨by decide,by decide,by show 0≤m; omega,by show 0≤m; omega⟩,(zKl (by omega)).1,rfl⟩,⟨by decide,by decide,by decide,by decide⟩,(zKl (m:=m) (by omega)).2,fun _ _=>rfl⟩
def exOk (ph q r d:Int):Bool:=decide (ph < 4294967296) && (decide (q < 70368744177664) && (decide (r < 8589934592) && decide (1≤d)))
def Ex.zero:Ex:=⟨0,0,0,0⟩
def blK (mode s a d b:Int):Bool:=isNm mode && (decide (s≤a) && decide (d≤b))
def blE (mode s a d b:Int):Ex:=if blK mode s a d b then zQp mode s a d b else .zero
def fcK (op a b m:Int):Bool:=isNm op && (decide (a≤m) && decide (b≤m))
def fcA (op a b m:Int):Int:=if fcK op a b m then facA op a b m else 0
def fcB (op a b m:Int):Int:=if fcK op a b m then facB op a b m else 0
def vlK (op mode m s a d b:Int):Bool:=blK mode s a d b && (fcK op a b m && zZj m)
def vlE (op mode m s a d b:Int):Ex:=if vlK op mode m s a d b then valS op mode m s a d b else .zero
def zX5 (kno:Bool) (op mode m:Int) (p:Px) (x:Ac) (k:Px):Ac:=if zXg kno op mode m p x k then accS kno op mode m p x k else .zero
def resE (x:Ac) (k:Px) (m:Int):Px:=if x.ok k m then zZG x k m else .zero
def Ac.ds (x:Ac):List DV:=[.int .u16 x.a,.int .u16 x.b,.int .u16 x.c,.int .u16 x.al,.int .u16 x.own,.int .u16 x.f]
def Lv.cells (t:Lv):List DV:=t.op.cells++(t.acc.ds++t.back.ds)
def lvs (l:List Lv):List DV:=l.flatMap Lv.cells
theorem zYc (l:List Lv):(lvs l).length=l.length*23:=by
 induction l with
 | nil=>rfl
 | cons t l ih=>
  show (t.cells++lvs l).length=_
  rw [List.length_append,ih]
  simp only [Lv.cells,Oq.cells,Ac.ds,Px.ds,List.length_append,List.length_cons,List.length_nil]
  omega
theorem zU0 (l k:List Lv):lvs l++lvs k=lvs (l++k):=by simp [lvs]
theorem zKy {mode s a d b:Int} (h0:0≤s) (h1:s≤a) (h2:0≤d) (h3:d≤b) (ha:a≤65535) (hb:b≤65535) :
  let t:=zQp mode s a d b
  t.ok∧t.d≤4294836225∧t.p≤4294836225*4294836225∧t.q≤65535∧t.r≤4294836225:=by
 have hu:=zZt (mode:=mode) h0 h1 h2 h3
 have small:∀ n:Int,(zZa n).d≤4294836225∧(zZa n).q≤65535∧(zZa n).r≤4294836225:=fun n=>⟨by simp [zZa],by simp [zZa],by simp [zZa]⟩
 have mk:∀ p q r e:Int,e≤65535→q≤65535→r≤4294836225→(⟨p,q,r,e⟩:Ex).d≤4294836225∧(⟨p,q,r,e⟩:Ex).q≤65535∧(⟨p,q,r,e⟩:Ex).r≤4294836225:=fun p q r e x y z=>⟨by simp only; omega,y,z⟩
 have db:=zQj h2 (show d≤65535 by omega) (show 0≤b by omega) hb
 have bb:=zQj (show 0≤b by omega) hb (show 0≤b by omega) hb
 have soft:(zYX s a d b).d≤4294836225∧(zYX s a d b).q≤65535∧(zYX s a d b).r≤4294836225:=by
  unfold zYX
  split
  ·exact mk _ _ _ _ (by omega) (by omega) (by omega)
  split
  ·exact mk _ _ _ _ (by omega) (by omega) (by omega)
  split
  ·exact ⟨by simp only; omega,by simp only; omega,by simp only; omega⟩
  ·exact mk _ _ _ _ (by omega) (by omega) (by omega)
 have key:∀ (c:Prop) [Decidable c] (x y:Ex),(x.d≤4294836225∧x.q≤65535∧x.r≤4294836225)→(y.d≤4294836225∧y.q≤65535∧y.r≤4294836225)→((if c then x else y).d≤4294836225∧(if c then x else y).q≤65535∧(if c then x else y).r≤4294836225):=fun c _ x y hx hy=>by split <;> assumption
 have all:(zQp mode s a d b).d≤4294836225∧(zQp mode s a d b).q≤65535∧(zQp mode s a d b).r≤4294836225:=by
  unfold zQp
  repeat' (first | exact small _ | exact soft | exact mk _ _ _ _ (by omega) (by omega) (by omega) | refine key _ _ _ ?_ ?_)
 have ab:=zQj (show 0≤a by omega) ha (show 0≤b by omega) hb
 have pp:=zQj (x:=a*b) (y:=(zQp mode s a d b).d) (A:=4294836225) (B:=4294836225) ab.1 (by omega) (by have:=hu.ok.d; omega) all.1
 have:=hu.p
 exact ⟨hu.ok,all.1,by omega,all.2.1,all.2.2⟩
open Go.Proofs.Tryz (prog)
section
attribute [local irreducible] Ans AnsO AnsG AnsN AnsI
theorem jZm {w:World} {S:Nat→Prop} {x y c:Int} {vs:Array Value} (h:RepRs w S [RV.d (DV.int .u64 x),RV.d (DV.int .u64 y),RV.d (DV.int .u64 c)] vs.toList):vs=#[.int .u64 x,.int .u64 y,.int .u64 c]:=by
 obtain ⟨l⟩:=vs
 match l,h with
 | [a,b,d],h=>
  simp only [RepRs,RepR,RepD] at h
  obtain ⟨h1,h2,h3,_⟩:=h
  rw [h1.1,h2.1,h3.1]
theorem jQl (x y c:Int) (hx:0≤x∧x < 18446744073709551616) (hy:0≤y∧y < 18446744073709551616) (hc:0≤c∧c≤1):AnsE prog 120 [RV.d (DV.int .u64 x),RV.d (DV.int .u64 y),RV.d (DV.int .u64 c)] (RV.tup [RV.d (DV.int .u64 ((x+y+c) % 18446744073709551616)),RV.d (DV.int .u64 ((x+y+c) / 18446744073709551616))]):=by
 intro w S vs h
 rw [jZm h,run_callFunc_extern Tryz.func120 (by kernel_rfl) (by kernel_rfl) (by kernel_rfl) (e:=add64Entry) (by kernel_rfl),run_add64 x y c hx.1 hy.1 hc.1 hc.2]
 refine ⟨_,rfl,?_⟩
 simp only [RepR,RepRs,RepD]
 have mi:IntKind.min .u64=0:=rfl
 have ma:IntKind.max .u64=18446744073709551615:=rfl
 exact ⟨_,rfl,⟨rfl,by rw [zZZ,mi,ma]; omega⟩,⟨rfl,by rw [zZZ,mi,ma]; omega⟩,trivial⟩
theorem jXz (x y c:Int) (hx:0≤x∧x < 18446744073709551616) (hy:0≤y∧y < 18446744073709551616) (hc:0≤c∧c≤1):AnsE prog 126 [RV.d (DV.int .u64 x),RV.d (DV.int .u64 y),RV.d (DV.int .u64 c)] (RV.tup [RV.d (DV.int .u64 ((x - y - c) % 18446744073709551616)),RV.d (DV.int .u64 (if x < y+c then 1 else 0))]):=by
 intro w S vs h
 obtain ⟨X,rfl⟩:=Int.eq_ofNat_of_zero_le hx.1
 obtain ⟨Y,rfl⟩:=Int.eq_ofNat_of_zero_le hy.1
 obtain ⟨Z,rfl⟩:=Int.eq_ofNat_of_zero_le hc.1
 rw [jZm h,run_callFunc_extern Tryz.func126 (by kernel_rfl) (by kernel_rfl) (by kernel_rfl) (e:=sub64Entry) (by kernel_rfl),run_sub64 X Y Z (by omega)]
 refine ⟨_,rfl,?_⟩
 simp only [RepR,RepRs,RepD]
 have e1:(((X+18446744073709551616 - Y - Z) % 18446744073709551616:Nat):Int)=((X:Int) - Y - Z) % 18446744073709551616:=by omega
 have e2:((if X < Y+Z then 1 else 0:Nat):Int)=if (X:Int) < Y+Z then 1 else 0:=by split <;> split <;> omega
 have mi:IntKind.min .u64=0:=rfl
 have ma:IntKind.max .u64=18446744073709551615:=rfl
 exact ⟨_,rfl,⟨by rw [e1],by rw [zZZ,mi,ma]; omega⟩,⟨by rw [e2],by rw [zZZ,mi,ma]; split <;> omega⟩,trivial⟩
def gZ30 (xs:List RV):Option RV:=match xs with | [.d (.int _ n),.d (.int _ d)]=>some (RV.d (DV.int .u64 (zQO n d))) | _=>none
def gZ31 (xs:List RV):Option RV:=match xs with | [.d (.int _ a),.d (.int _ b)]=>some (RV.agg [DV.int .u64 (hiW (a*b)),DV.int .u64 (loW (a*b))]) | _=>none
def gZ32 (xs:List RV):Option RV:=match xs with | [.agg [.int _ ah,.int _ al],.agg [.int _ bh,.int _ bl]]=>some (rJ (cmpI (wV ah al) (wV bh bl))) | _=>none
def gZ33 (xs:List RV):Option RV:=match xs with | [.agg [.int _ ah,.int _ al],.agg [.int _ bh,.int _ bl]]=>some (RV.tup [RV.agg [DV.int .u64 (hiW (addW (wV ah al) (wV bh bl))),DV.int .u64 (loW (addW (wV ah al) (wV bh bl)))],RV.d (dQ (addK (wV ah al) (wV bh bl)))]) | _=>none
def gZ34 (xs:List RV):Option RV:=match xs with | [.agg [.int _ ah,.int _ al],.agg [.int _ bh,.int _ bl]]=>some (RV.tup [RV.agg [DV.int .u64 (hiW (subW (wV ah al) (wV bh bl))),DV.int .u64 (loW (subW (wV ah al) (wV bh bl)))],RV.d (dQ (subK (wV ah al) (wV bh bl)))]) | _=>none
def gZ35 (xs:List RV):Option RV:=match xs with | [.agg [.int _ ah,.int _ al],.d (.int _ k)]=>some (RV.tup [RV.agg [DV.int .u64 (hiW (wV ah al*k)),DV.int .u64 (loW (wV ah al*k))],RV.d (dQ true)]) | _=>none
def jQ1:Gam where
 pure:=fun f xs=>
  if f=121 then (match xs with | [.d (.int _ x),.d (.int _ y)]=>some (RV.tup [RV.d (DV.int .u64 (hiW (x*y))),RV.d (DV.int .u64 (loW (x*y)))]) | _=>none) else
  if f=120 then (match xs with | [.d (.int _ x),.d (.int _ y),.d (.int _ c)]=>some (RV.tup [RV.d (DV.int .u64 ((x+y+c) % 18446744073709551616)),RV.d (DV.int .u64 ((x+y+c) / 18446744073709551616))]) | _=>none) else
  if f=126 then (match xs with | [.d (.int _ x),.d (.int _ y),.d (.int _ c)]=>some (RV.tup [RV.d (DV.int .u64 ((x - y - c) % 18446744073709551616)),RV.d (DV.int .u64 (if x < y+c then 1 else 0))]) | _=>none) else
  if f=82 then gZ30 xs else
  if f=111 then gZ31 xs else
  if f=125 then gZ32 xs else
  if f=110 then gZ33 xs else
  if f=118 then gZ34 xs else
  if f=124 then gZ35 xs else
  none
 modes:=fun f=>
  none
 proc:=fun f xs bs=>
  none
 iter:=fun f cs=>
  none
theorem zQW (n d:Int):Ans prog 82 [RV.d (DV.int .u64 n),RV.d (DV.int .u64 d)] (RV.d (DV.int .u64 (zQO n d))):=
 zQa (Γ:=jQ1) Ann.leaf zQg Tryz.func82 rfl (nL rfl) fun hwf=>by
  refine Eq.mpr (by kernel_rfl:_=(let a:=(DV.int .u64 (zQO n d)); let b:=(decide ((Int.tmod n d)≥(IntKind.wrap .u64 (d - (Int.tmod n d))))); let c:=(IntKind.wrap .u64 (Int.tdiv n d)); tU3 (((d==0)=true→True∧RV.d (DV.int .u64 (0:Int))=RV.d a)∧((d==0)=false→tU2 ((d≠0)∧tU2 ((d≠0)∧tU2 ((true=true)∧tU5 ((b=true→tU5 (RV.d (DV.int .u64 (IntKind.wrap .u64 (c+1)))=RV.d a))∧(b=false→tU2 (RV.d (DV.int .u64 c)=RV.d a)))))))))) ?_
  simp only [sS]
  simp only [RV.wfs,RV.wf,DV.wf] at hwf
  have m1:IntKind.min .u64=0:=rfl
  have m2:IntKind.max .u64=18446744073709551615:=rfl
  rw [m1,m2] at hwf
  have t1:Int.tdiv n d=n / d:=Int.tdiv_eq_ediv_of_nonneg (by omega)
  have t2:Int.tmod n d=n % d:=Int.tmod_eq_emod_of_nonneg (by omega)
  refine ⟨fun q=>by (have q:d=0:=(by simpa using q)); simp [zQO,q],fun q=>?_⟩
  have q:d≠0:=by simpa using q
  have b1:0≤n % d:=Int.emod_nonneg _ q
  have b2:n % d < d:=Int.emod_lt_of_pos _ (by omega)
  have b3:0≤n / d:=Int.ediv_nonneg (by omega) (by omega)
  have b4:n / d≤n:=Int.ediv_le_self _ (by omega)
  simp only [t1,t2]
  rw [IntWalk.u64_in (n / d) ⟨b3,by omega⟩,IntWalk.u64_in (d - n % d) ⟨by omega,by omega⟩]
  refine ⟨q,q,fun q2=>?_,fun q2=>?_⟩
  ·have b5:d≥2∨d=1:=by omega
   have b6:n / d+1≤18446744073709551615:=by
    rcases b5 with b5 | b5
    ·have:n / d < n∨n=0:=by
      by_cases hn:n=0
      ·exact .inr hn
      ·exact .inl (Int.ediv_lt_self_of_pos_of_ne_one (by omega) (by omega))
     rcases this with h | h
     ·omega
     ·subst h; simp
    ·subst b5; omega
   rw [IntWalk.u64_in _ ⟨by omega,b6⟩]
   simp [zQO,q]; omega
  ·simp [zQO,q]; omega
theorem zZ3 (x y:Int):Ans prog 121 [RV.d (DV.int .u64 x),RV.d (DV.int .u64 y)] (RV.tup [RV.d (DV.int .u64 (hiW (x*y))),RV.d (DV.int .u64 (loW (x*y)))]):=
 zQa (Γ:=jQ1) Ann.leaf zQg Tryz.func121 rfl (nL rfl) fun hwf=>by
  refine Eq.mpr (by kernel_rfl:_=(let a:=(Int.fdiv y (2 ^ min (32:Int).toNat 64)); let b:=(Int.fdiv x (2 ^ min (32:Int).toNat 64)); let c:=(IntKind.wrap .u64 (BitVec.ofInt 64 y &&& BitVec.ofInt 64 (4294967295:Int)).toNat); let d:=(IntKind.wrap .u64 (BitVec.ofInt 64 x &&& BitVec.ofInt 64 (4294967295:Int)).toNat); let e:=(IntKind.wrap .u64 ((IntKind.wrap .u64 (b*c))+(Int.fdiv (IntKind.wrap .u64 (d*c)) (2 ^ min (32:Int).toNat 64)))); tU6 ((0≤(32:Int))∧tU5 ((0≤(32:Int))∧True∧tU8 ((0≤(32:Int))∧tU6 ((0≤(32:Int))∧tU5 (tU8 ((0≤(32:Int))∧tU6 (RV.tup [RV.d (DV.int .u64 (IntKind.wrap .u64 ((IntKind.wrap .u64 ((IntKind.wrap .u64 (b*a))+(Int.fdiv e (2 ^ min (32:Int).toNat 64))))+(Int.fdiv (IntKind.wrap .u64 ((IntKind.wrap .u64 (BitVec.ofInt 64 e &&& BitVec.ofInt 64 (4294967295:Int)).toNat)+(IntKind.wrap .u64 (d*a)))) (2 ^ min (32:Int).toNat 64))))),RV.d (DV.int .u64 (IntKind.wrap .u64 (x*y)))]=RV.tup [RV.d (DV.int .u64 (hiW (x*y))),RV.d (DV.int .u64 (loW (x*y)))]))))))))) ?_
  simp only [sS,zQW]
  simp only [RV.wfs,RV.wf,DV.wf,DV.wfs] at hwf
  have mi:IntKind.min .u64=0:=rfl
  have ma:IntKind.max .u64=18446744073709551615:=rfl
  have mj:IntKind.min .u16=0:=rfl
  have mb:IntKind.max .u16=65535:=rfl
  simp only [mi,ma,mj,mb] at hwf
  obtain ⟨hx,hy,_⟩:=hwf
  have wr:∀ a:Int,0≤a→a < 18446744073709551616→IntKind.wrap .u64 a=a:=fun a h1 h2=>IntWalk.u64_in a ⟨h1,by omega⟩
  have f32:∀ a:Int,0≤a→Int.fdiv a (2 ^ min (Int.toNat 32) 64)=a / 4294967296:=fun a ha=>by
   rw [show ((2:Int) ^ min (Int.toNat 32) 64)=4294967296 from by decide]
   exact Int.fdiv_eq_ediv_of_nonneg _ (by omega)
  have ex:x=x / 4294967296*4294967296+x % 4294967296:=by omega
  have ey:y=y / 4294967296*4294967296+y % 4294967296:=by omega
  have bx:0≤x / 4294967296∧x / 4294967296≤4294967295∧0≤x % 4294967296∧x % 4294967296≤4294967295:=by omega
  have by_:0≤y / 4294967296∧y / 4294967296≤4294967295∧0≤y % 4294967296∧y % 4294967296≤4294967295:=by omega
  simp only [zHc hx.1 (by omega),zHc hy.1 (by omega),f32 x hx.1,f32 y hy.1]
  have exy:x*y=(x / 4294967296)*(y / 4294967296)*18446744073709551616+((x / 4294967296)*(y % 4294967296)+(x % 4294967296)*(y / 4294967296))*4294967296+(x % 4294967296)*(y % 4294967296):=by
   generalize x / 4294967296=x1 at *
   generalize x % 4294967296=x0 at *
   generalize y / 4294967296=y1 at *
   generalize y % 4294967296=y0 at *
   subst ex ey
   grind
  rw [exy]
  clear exy ex ey
  generalize x / 4294967296=x1 at *
  generalize x % 4294967296=x0 at *
  generalize y / 4294967296=y1 at *
  generalize y % 4294967296=y0 at *
  obtain ⟨p1,p2,p3,p4⟩:=bx
  obtain ⟨q1,q2,q3,q4⟩:=by_
  have m11:=zQj p1 p2 q1 q2
  have m10:=zQj p1 p2 q3 q4
  have m01:=zQj p3 p4 q1 q2
  have m00:=zQj p3 p4 q3 q4
  rw [wr x0 (by omega) (by omega),wr y0 (by omega) (by omega)]
  generalize x1*y1=A at *
  generalize x1*y0=B at *
  generalize x0*y1=C at *
  generalize x0*y0=D at *
  rw [wr D (by omega) (by omega),f32 D (by omega),wr B (by omega) (by omega),wr (B+D / 4294967296) (by omega) (by omega),zHc (n:=B+D / 4294967296) (by omega) (by omega),wr ((B+D / 4294967296) % 4294967296) (by omega) (by omega),wr C (by omega) (by omega),wr ((B+D / 4294967296) % 4294967296+C) (by omega) (by omega),f32 (B+D / 4294967296) (by omega),f32 ((B+D / 4294967296) % 4294967296+C) (by omega),wr A (by omega) (by omega),wr (A+(B+D / 4294967296) / 4294967296) (by omega) (by omega),wr (A+(B+D / 4294967296) / 4294967296+_) (by omega) (by omega)]
  unfold hiW loW
  rw [IntKind.wrap_u64]
  constructor <;> omega
theorem zZw (a b:Int):Ans prog 111 [RV.d (DV.int .u64 a),RV.d (DV.int .u64 b)] (RV.agg [DV.int .u64 (hiW (a*b)),DV.int .u64 (loW (a*b))]):=
 zQa (Γ:=jQ1) Ann.leaf zQg Tryz.func111 rfl (nL rfl) fun hwf=>by
  refine Eq.mpr (by kernel_rfl:_=(let c:=[DV.int .u64 (hiW (a*b)),DV.int .u64 (loW (a*b))]; tU3 ((Ans prog 121 [RV.d (DV.int .u64 a),RV.d (DV.int .u64 b)] (RV.tup [RV.d (DV.int .u64 (hiW (a*b))),RV.d (DV.int .u64 (loW (a*b)))]))∧True∧tU8 (RV.agg c=RV.agg c)))) ?_
  simp only [sS,zQW,zZ3]
theorem zXt (ah al bh bl:Int):Ans prog 125 [RV.agg [DV.int .u64 ah,DV.int .u64 al],RV.agg [DV.int .u64 bh,DV.int .u64 bl]] (rJ ((cmpI (wV ah al) (wV bh bl)))):=
 zQa (Γ:=jQ1) Ann.leaf zQg Tryz.func125 rfl (nL rfl) fun hwf=>by
  refine Eq.mpr (by kernel_rfl:_=(let b:=((ah==bh) && ((al==bl) && true)); let a:=(dJ (cmpI (wV ah al) (wV bh bl))); tU7 ((b=true→True∧rJ 0=RV.d a)∧(b=false→tU6 (((decide (ah < bh))=false→tU6 (((ah==bh)=true→tU8 (((decide (al < bl))=true→True∧rJ (-1:Int)=RV.d a)∧((decide (al < bl))=false→True∧rJ 1=RV.d a)))∧((ah==bh)=(!true)→tU4 (rJ 1=RV.d a))))∧((decide (ah < bh))=(!false)→tU3 (rJ (-1:Int)=RV.d a))))))) ?_
  delta dJ rJ
  simp only [sS,zQW,zZ3,zZw]
  simp only [RV.wfs,RV.wf,DV.wf,DV.wfs] at hwf
  have mi:IntKind.min .u64=0:=rfl
  have ma:IntKind.max .u64=18446744073709551615:=rfl
  have mj:IntKind.min .u16=0:=rfl
  have mb:IntKind.max .u16=65535:=rfl
  simp only [mi,ma,mj,mb] at hwf
  unfold cmpI wV
  grind
theorem zXd (ah al bh bl:Int):Ans prog 110 [RV.agg [DV.int .u64 ah,DV.int .u64 al],RV.agg [DV.int .u64 bh,DV.int .u64 bl]] (RV.tup [RV.agg [DV.int .u64 (hiW (addW (wV ah al) (wV bh bl))),DV.int .u64 (loW (addW (wV ah al) (wV bh bl)))],RV.d (dQ (addK (wV ah al) (wV bh bl)))]):=
 zQa (Γ:=jQ1) Ann.leaf zQg Tryz.func110 rfl (nL rfl) fun hwf=>by
  refine Eq.mpr (by kernel_rfl:_=(let c:=((al+bl+0) % 18446744073709551616); let a:=((al+bl+0) / 18446744073709551616); let d:=((ah+bh+a) % 18446744073709551616); let b:=((ah+bh+a) / 18446744073709551616); let e:=(DV.int .u64 a); let f:=[RV.agg [DV.int .u64 (hiW (addW (wV ah al) (wV bh bl))),DV.int .u64 (loW (addW (wV ah al) (wV bh bl)))],RV.d (dQ (addK (wV ah al) (wV bh bl)))]; tU8 ((AnsE prog 120 [RV.d (DV.int .u64 al),RV.d (DV.int .u64 bl),RV.d (DV.int .u64 (0:Int))] (RV.tup [RV.d (DV.int .u64 c),RV.d e]))∧tU2 (tU8 ((AnsE prog 120 [RV.d (DV.int .u64 ah),RV.d (DV.int .u64 bh),RV.d e] (RV.tup [RV.d (DV.int .u64 d),RV.d (DV.int .u64 b)]))∧tU7 (((b != 0)=true→tU3 (RV.tup [RV.agg [DV.int .u64 (0:Int),DV.int .u64 (0:Int)],RV.d (dQ false)]=RV.tup f))∧((b != 0)=false→tU5 (RV.tup [RV.agg [DV.int .u64 d,DV.int .u64 c],RV.d (dQ true)]=RV.tup f)))))))) ?_
  delta dQ
  simp only [sS,zQW,zZ3,zZw,zXt]
  simp only [RV.wfs,RV.wf,DV.wf,DV.wfs] at hwf
  have mi:IntKind.min .u64=0:=rfl
  have ma:IntKind.max .u64=18446744073709551615:=rfl
  have mj:IntKind.min .u16=0:=rfl
  have mb:IntKind.max .u16=65535:=rfl
  simp only [mi,ma,mj,mb] at hwf
  obtain ⟨⟨h1,h2,_⟩,⟨h3,h4,_⟩,_⟩:=hwf
  refine ⟨jQl _ _ _ (by omega) (by omega) (by omega),jQl _ _ _ (by omega) (by omega) (by omega),fun h=>?_,fun h=>?_⟩
  ·have h:=bne_iff_ne.1 h
   have e:¬ wV ah al+wV bh bl < 340282366920938463463374607431768211456:=by unfold wV; omega
   unfold addW addK
   rw [if_neg e,decide_eq_false e]
   exact ⟨⟨rfl,rfl⟩,rfl⟩
  ·have h:=bne_eq_false_iff_eq.1 h
   have e:wV ah al+wV bh bl < 340282366920938463463374607431768211456:=by unfold wV; omega
   unfold addW addK
   rw [if_pos e,decide_eq_true e]
   unfold wV hiW loW
   exact ⟨⟨by omega,by omega⟩,rfl⟩
theorem zYk (ah al bh bl:Int):Ans prog 118 [RV.agg [DV.int .u64 ah,DV.int .u64 al],RV.agg [DV.int .u64 bh,DV.int .u64 bl]] (RV.tup [RV.agg [DV.int .u64 (hiW (subW (wV ah al) (wV bh bl))),DV.int .u64 (loW (subW (wV ah al) (wV bh bl)))],RV.d (dQ (subK (wV ah al) (wV bh bl)))]):=
 zQa (Γ:=jQ1) Ann.leaf zQg Tryz.func118 rfl (nL rfl) fun hwf=>by
  refine Eq.mpr (by kernel_rfl:_=(let b:=((al - bl - 0) % 18446744073709551616); let a:=(cmpI (wV ah al) (wV bh bl)); let c:=[RV.agg [DV.int .u64 (hiW (subW (wV ah al) (wV bh bl))),DV.int .u64 (loW (subW (wV ah al) (wV bh bl)))],RV.d (dQ (subK (wV ah al) (wV bh bl)))]; let d:=(if al < bl+0 then 1 else 0); tU6 ((Ans prog 125 [RV.agg [DV.int .u64 ah,DV.int .u64 al],RV.agg [DV.int .u64 bh,DV.int .u64 bl]] (rJ a))∧True∧(((decide (a < 0))=true→tU3 (RV.tup [RV.agg [DV.int .u64 (0:Int),DV.int .u64 (0:Int)],RV.d (dQ false)]=RV.tup c))∧((decide (a < 0))=false→tU4 ((AnsE prog 126 [RV.d (DV.int .u64 al),RV.d (DV.int .u64 bl),RV.d (DV.int .u64 (0:Int))] (RV.tup [RV.d (DV.int .u64 b),RV.d (DV.int .u64 d)]))∧tU8 (tU8 (RV.tup [RV.agg [DV.int .u64 (IntKind.wrap .u64 ((IntKind.wrap .u64 (ah - bh)) - d)),DV.int .u64 b],RV.d (dQ true)]=RV.tup c)))))))) ?_
  delta dQ rJ
  simp only [sS,zQW,zZ3,zZw,zXt,zXd]
  simp only [RV.wfs,RV.wf,DV.wf,DV.wfs] at hwf
  have mi:IntKind.min .u64=0:=rfl
  have ma:IntKind.max .u64=18446744073709551615:=rfl
  have mj:IntKind.min .u16=0:=rfl
  have mb:IntKind.max .u16=65535:=rfl
  simp only [mi,ma,mj,mb] at hwf
  obtain ⟨⟨h1,h2,_⟩,⟨h3,h4,_⟩,_⟩:=hwf
  have hc:cmpI (wV ah al) (wV bh bl) < 0↔wV ah al < wV bh bl:=by unfold cmpI; grind
  simp only [hc,Int.add_zero,Int.sub_zero]
  refine ⟨fun h=>?_,fun h=>⟨?_,?_⟩⟩
  ·unfold subW subK
   rw [if_pos h,decide_eq_false (by omega)]
   exact ⟨⟨rfl,rfl⟩,rfl⟩
  ·have:=jXz al bl 0 (by omega) (by omega) (by omega)
   simpa only [Int.add_zero,Int.sub_zero] using this
  ·unfold subW subK
   rw [if_neg h,decide_eq_true (by omega)]
   unfold wV at h
   unfold wV hiW loW
   by_cases q:al < bl
   ·rw [if_pos q,IntWalk.u64_in (ah - bh) ⟨by omega,by omega⟩,IntWalk.u64_in _ ⟨by omega,by omega⟩]
    exact ⟨⟨by omega,by omega⟩,rfl⟩
   ·rw [if_neg q,IntWalk.u64_in (ah - bh) ⟨by omega,by omega⟩,IntWalk.u64_in _ ⟨by omega,by omega⟩]
    exact ⟨⟨by omega,by omega⟩,rfl⟩
theorem zXX (ah al k:Int) (h:wV ah al*k < 340282366920938463463374607431768211456):Ans prog 124 [RV.agg [DV.int .u64 ah,DV.int .u64 al],RV.d (DV.int .u64 k)] (RV.tup [RV.agg [DV.int .u64 (hiW (wV ah al*k)),DV.int .u64 (loW (wV ah al*k))],RV.d (dQ true)]):=
 zQa (Γ:=jQ1) (Ann.seq Ann.leaf (Ann.seq Ann.leaf (Ann.seq Ann.leaf (Ann.seq (Ann.loop ⟨Int × Int × Int,fun z:Int × Int × Int=>z.1+z.2.1*z.2.2=wV ah al*k∧0≤z.1∧0≤z.2.1∧0≤z.2.2∧z.2.2 < 18446744073709551616∧z.1 < 340282366920938463463374607431768211456∧z.2.1 < 340282366920938463463374607431768211456,fun z:Int × Int × Int=>⟨[(1,AV.one (Cl.d (DV.int .u64 z.2.2))),(2,AV.one (Cl.ptr 2 0)),(4,AV.one (Cl.ptr 4 0)),(6,AV.one (Cl.ptr 6 0)),(7,AV.one (Cl.d (dQ true)))],[(2,bC [Cl.d (DV.int .u64 (hiW z.2.1)),Cl.d (DV.int .u64 (loW z.2.1))]),(4,bC [Cl.d (DV.int .u64 (0:Int)),Cl.d (DV.int .u64 (0:Int))]),(6,bC [Cl.d (DV.int .u64 (hiW z.1)),Cl.d (DV.int .u64 (loW z.1))])]⟩,fun z:Int × Int × Int=>z.2.2.toNat⟩ fun z=>Ann.leaf) Ann.leaf)))) zQg Tryz.func124 rfl (nL rfl) fun hwf=>by
  refine Eq.mpr (by kernel_rfl:_=(let m:=fun (z:Int × Int × Int)=>(z.1+z.2.1*z.2.2=wV ah al*k∧0≤z.1∧0≤z.2.1∧0≤z.2.2∧z.2.2 < 18446744073709551616∧z.1 < 340282366920938463463374607431768211456∧z.2.1 < 340282366920938463463374607431768211456); let n:=(dQ true=dQ true); let b:=fun (z:Int × Int × Int)=>[DV.int .u64 (hiW z.2.1),DV.int .u64 (loW z.2.1)]; let d:=[DV.int .u64 (0:Int),DV.int .u64 (0:Int)]; let c:=(d=d); let e:=fun (z:Int × Int × Int)=>[DV.int .u64 (hiW z.1),DV.int .u64 (loW z.1)]; let o:=fun (z:Int × Int × Int)=>((IntKind.wrap .u64 (BitVec.ofInt 64 z.2.2 &&& BitVec.ofInt 64 (1:Int)).toNat)==1); let p:=fun (z:Int × Int × Int)=>[DV.int .u64 (hiW (addW (wV (hiW z.1) (loW z.1)) (wV (hiW z.2.1) (loW z.2.1)))),DV.int .u64 (loW (addW (wV (hiW z.1) (loW z.1)) (wV (hiW z.2.1) (loW z.2.1))))]; let q:=[RV.agg d,RV.d (dQ false)]; let j:=[RV.agg [DV.int .u64 (hiW (wV ah al*k)),DV.int .u64 (loW (wV ah al*k))],RV.d (dQ true)]; let r:=fun (z:Int × Int × Int)=>[DV.int .u64 (hiW (addW (wV (hiW z.2.1) (loW z.2.1)) (wV (hiW z.2.1) (loW z.2.1)))),DV.int .u64 (loW (addW (wV (hiW z.2.1) (loW z.2.1)) (wV (hiW z.2.1) (loW z.2.1))))]; let s:=fun (z:Int × Int × Int)=>(Ans prog 110 [RV.agg (b z),RV.agg (b z)] (RV.tup [RV.agg (r z),RV.d (dQ (addK (wV (hiW z.2.1) (loW z.2.1)) (wV (hiW z.2.1) (loW z.2.1))))])); let t:=fun (z:Int × Int × Int)=>((!(addK (wV (hiW z.2.1) (loW z.2.1)) (wV (hiW z.2.1) (loW z.2.1))))=true→tU3 (RV.tup q=RV.tup j)); let f:=fun (z':Int × Int × Int)=>(z'.1+z'.2.1*z'.2.2=wV ah al*k∧0≤z'.1∧0≤z'.2.1∧0≤z'.2.2∧z'.2.2 < 18446744073709551616∧z'.1 < 340282366920938463463374607431768211456∧z'.2.1 < 340282366920938463463374607431768211456); let g:=fun (z:Int × Int × Int)=>fun (z':Int × Int × Int)=>(z'.2.2.toNat < z.2.2.toNat); let l:=fun (z:Int × Int × Int)=>fun (z':Int × Int × Int)=>(DV.int .u64 (Int.fdiv z.2.2 (2 ^ min (1:Int).toNat 64))=DV.int .u64 z'.2.2); let u:=fun (z:Int × Int × Int)=>fun (z':Int × Int × Int)=>((l z z')∧(0=0)∧(0=0)∧(0=0)∧(dQ (addK (wV (hiW z.2.1) (loW z.2.1)) (wV (hiW z.2.1) (loW z.2.1)))=dQ true)∧True); let v:=fun (z':Int × Int × Int)=>[DV.int .u64 (hiW z'.2.1),DV.int .u64 (loW z'.2.1)]; let w:=fun (z:Int × Int × Int)=>fun (z':Int × Int × Int)=>((r z)=(v z')); let x:=fun (z':Int × Int × Int)=>[DV.int .u64 (hiW z'.1),DV.int .u64 (loW z'.1)]; let y:=fun (z:Int × Int × Int)=>fun (z':Int × Int × Int)=>((p z)=(x z')); let A:=fun (z:Int × Int × Int)=>fun (z':Int × Int × Int)=>((b z)=(v z')); let B:=fun (z:Int × Int × Int)=>fun (z':Int × Int × Int)=>((e z)=(x z')); tU5 ((∃ z:Int × Int × Int,(m z)∧(((DV.int .u64 k=DV.int .u64 z.2.2)∧(0=0)∧(0=0)∧(0=0)∧n∧True)∧(([DV.int .u64 ah,DV.int .u64 al]=(b z))∧c∧(d=(e z))∧True)))∧∀ z:Int × Int × Int,let h:=(wV (hiW z.1) (loW z.1)); let i:=(decide ((Int.fdiv z.2.2 (2 ^ min (1:Int).toNat 64)) > 0)); let a:=(wV (hiW z.2.1) (loW z.2.1)); (m z)→tU2 (((decide (z.2.2 > 0))=true→tU3 (((o z)=true→tU2 ((Ans prog 110 [RV.agg (e z),RV.agg (b z)] (RV.tup [RV.agg (p z),RV.d (dQ (addK h a))]))∧tU7 (((!(addK h a))=true→tU3 (RV.tup q=RV.tup j))∧((!(addK h a))=false→True∧(0≤(1:Int))∧tU3 ((i=true→tU2 ((s z)∧tU7 ((t z)∧((!(addK a a))=false→∃ z':Int × Int × Int,(f z')∧(g z z')∧((u z z')∧((w z z')∧c∧(y z z')∧True))))))∧(i=false→∃ z':Int × Int × Int,(f z')∧(g z z')∧(((l z z')∧(0=0)∧(0=0)∧(0=0)∧(dQ (addK h a)=dQ true)∧True)∧((A z z')∧c∧(y z z')∧True))))))))∧((o z)=false→True∧(0≤(1:Int))∧tU3 ((i=true→tU2 ((s z)∧tU7 ((t z)∧((!(addK a a))=false→∃ z':Int × Int × Int,(f z')∧(g z z')∧((u z z')∧((w z z')∧c∧(B z z')∧True))))))∧(i=false→∃ z':Int × Int × Int,(f z')∧(g z z')∧(((l z z')∧(0=0)∧(0=0)∧(0=0)∧n∧True)∧((A z z')∧c∧(B z z')∧True)))))))∧((decide (z.2.2 > 0))=false→tU3 (RV.tup [RV.agg (e z),RV.d (dQ true)]=RV.tup j)))))) ?_
  delta dQ
  simp only [sS,zQW,zZ3,zZw,zXt,zXd,zYk]
  simp only [RV.wfs,RV.wf,DV.wf,DV.wfs] at hwf
  have mi:IntKind.min .u64=0:=rfl
  have ma:IntKind.max .u64=18446744073709551615:=rfl
  have mj:IntKind.min .u16=0:=rfl
  have mb:IntKind.max .u16=65535:=rfl
  simp only [mi,ma,mj,mb] at hwf
  obtain ⟨⟨h1,h2,_⟩,h3,_⟩:=hwf
  have hA:0≤wV ah al:=by unfold wV; omega
  have hk1:wV ah al < 340282366920938463463374607431768211456:=by unfold wV; omega
  have f1:∀ a:Int,0≤a→Int.fdiv a (2 ^ min (Int.toNat 1) 64)=a / 2:=fun a ha=>by
   rw [show ((2:Int) ^ min (Int.toNat 1) 64)=2 from by decide]
   exact Int.fdiv_eq_ediv_of_nonneg _ (by omega)
  refine ⟨⟨(0,wV ah al,k),⟨by simp,Int.le_refl 0,hA,h3.1,by simp only; omega,by simp only; omega,hk1⟩,rfl,⟨(jVc h2.1 (by omega)).symm,(jVb h2.1 (by omega)).symm⟩,rfl,rfl⟩,fun z hz=>?_⟩
  obtain ⟨o,a,j⟩:=z
  obtain ⟨e,z1,z2,z3,z4,z5,z6⟩:=hz
  simp only at e z1 z2 z3 z4 z5 z6 ⊢
  have eb:IntKind.wrap .u64 ((BitVec.ofInt 64 j &&& BitVec.ofInt 64 1).toNat:Int)=j % 2:=by
   rw [jKB z3 z4,IntWalk.u64_in _ ⟨by omega,by omega⟩]
  simp only [eb,f1 j z3,zYv]
  have ej:a*j=a*(j / 2)*2+a*(j % 2):=by
   have:j=j / 2*2+j % 2:=by omega
   generalize j / 2=x at *
   generalize j % 2=y at *
   subst this; grind
  have n1:0≤a*(j / 2):=Int.mul_nonneg z2 (by omega)
  have ad:∀ x y:Int,x+y < 340282366920938463463374607431768211456→addW x y=x+y∧addK x y=true:=fun x y hxy=>⟨by unfold addW; rw [if_pos hxy],decide_eq_true hxy⟩
  have dbl:0 < j / 2→a+a < 340282366920938463463374607431768211456:=fun hj=>by
   have:=Int.mul_le_mul_of_nonneg_left (show 1≤j / 2 by omega) z2
   have n2:0≤a*(j % 2):=Int.mul_nonneg z2 (by omega)
   omega
  have aa:a*(j / 2)*2=(a+a)*(j / 2):=by grind
  refine ⟨fun hj=>⟨fun b1=>?_,fun b0=>?_⟩,fun hj=>?_⟩
  ·have b1:j % 2=1:=by simpa using b1
   rw [b1,Int.mul_one] at ej
   have oa:=ad o a (by omega)
   refine ⟨fun q=>(by rw [oa.2] at q; cases q),fun q=>⟨by decide,fun hj2=>?_,fun hj2=>?_⟩⟩
   ·have da:=ad a a (dbl (by omega))
    rw [oa.1,da.1]
    exact ⟨fun q=>(by rw [da.2] at q; cases q),fun q=>⟨(o+a,a+a,j / 2),⟨by simp only; omega,by simp only; omega,by simp only; omega,by simp only; omega,by simp only; omega,by simp only; omega,by simp only; have:=dbl (by omega); omega⟩,by simp only; omega,⟨rfl,q⟩,⟨rfl,rfl⟩,rfl,rfl⟩⟩
   ·have j0:j / 2=0:=by omega
    rw [oa.1]
    refine ⟨(o+a,a,j / 2),⟨?_,by simp only; omega,z2,by simp only; omega,by simp only; omega,by simp only; omega,z6⟩,by simp only; omega,⟨rfl,q⟩,⟨rfl,rfl⟩,rfl,rfl⟩
    rw [j0] at ej ⊢
    simp only [Int.mul_zero,Int.zero_mul] at ej ⊢
    omega
  ·have b0:j % 2=0:=(Int.emod_two_eq j).resolve_right (by simpa using b0)
   rw [b0,Int.mul_zero] at ej
   refine ⟨by decide,fun hj2=>?_,fun hj2=>?_⟩
   ·have da:=ad a a (dbl (by omega))
    rw [da.1]
    exact ⟨fun q=>(by rw [da.2] at q; cases q),fun q=>⟨(o,a+a,j / 2),⟨by simp only; omega,z1,by simp only; omega,by simp only; omega,by simp only; omega,z5,by simp only; have:=dbl (by omega); omega⟩,by simp only; omega,⟨rfl,q⟩,⟨rfl,rfl⟩,rfl,rfl⟩⟩
   ·omega
  ·have:j=0:=by omega
   rw [this,Int.mul_zero,Int.add_zero] at e
   rw [e]
   exact ⟨rfl,rfl⟩
def gZ36 (xs:List RV):Option RV:=match xs with | [.agg [.int _ ph,.int _ pl,.int _ q,.int _ r,.int _ d]]=>some (RV.tup [RV.d (DV.int .u64 (⟨wV ph pl,q,r,d⟩:Ex).half),RV.d (dQ true)]) | _=>none
def gZ37 (xs:List RV):Option RV:=match xs with | [.d (.int _ m)]=>some (RV.d (dQ (zZj m))) | _=>none
def jXf:Gam where
 pure:=fun f xs=>
  if f=111 then gZ31 xs else
  if f=125 then gZ32 xs else
  if f=110 then gZ33 xs else
  if f=118 then gZ34 xs else
  if f=124 then gZ35 xs else
  if f=127 then (match xs with | [.agg [.int _ ph,.int _ pl,.int _ q,.int _ r,.int _ d]]=>some (RV.d (dQ (exOk ph q r d))) | _=>none) else
  if f=128 then (match xs with | [.agg [.int _ ph,.int _ pl,.int _ q,.int _ r,.int _ d],.agg [.int _ nh,.int _ nl]]=>some (rJ (zUs q r (wV nh nl))) | _=>none) else
  if f=123 then (match xs with | [.agg [.int _ ph,.int _ pl,.int _ q,.int _ r,.int _ d],.d (.bool tw),.d (.int _ n)]=>some (rJ (tmS (wV ph pl) q r d (if tw then 2 else 1) n)) | _=>none) else
  if f=122 then (match xs with | [.agg [.int _ ph,.int _ pl,.int _ q,.int _ r,.int _ d]]=>some (RV.tup [RV.d (DV.int .u64 (⟨wV ph pl,q,r,d⟩:Ex).floor),RV.d (dQ true)]) | _=>none) else
  if f=112 then gZ36 xs else
  if f=75 then gZ37 xs else
  none
 modes:=fun f=>
  none
 proc:=fun f xs bs=>
  none
 iter:=fun f cs=>
  none
theorem zQX (m:Int):Ans prog 75 [RV.d (dK m)] (RV.d (dQ (zZj m))):=
 zQa (Γ:=jXf) Ann.leaf zQg Tryz.func75 rfl (nL rfl) fun hwf=>by
  refine Eq.mpr (by kernel_rfl:_=(tU4 (((m==255)=false→tU4 (RV.d (dQ (m==65535))=RV.d (dQ (zZj m))))∧((m==255)=(!false)→tU2 (RV.d (dQ true)=RV.d (dQ (zZj m))))))) ?_
  delta dQ
  simp only [sS]
  unfold zZj
  grind
theorem zZE (ph pl q r d:Int):Ans prog 127 [RV.agg [DV.int .u64 ph,DV.int .u64 pl,DV.int .u64 q,DV.int .u64 r,DV.int .u64 d]] (RV.d (dQ (exOk ph q r d))):=
 zQa (Γ:=jXf) Ann.leaf zQg Tryz.func127 rfl (nL rfl) fun hwf=>by
  refine Eq.mpr (by kernel_rfl:_=(let b:=(decide (q < 70368744177664)); let a:=(RV.d (dQ false)=RV.d (dQ (exOk ph q r d))); tU7 (((decide (ph < 4294967296))=true→tU5 ((b=true→tU5 (((decide (r < 8589934592))=true→tU5 (RV.d (dQ (decide (d≥1)))=RV.d (dQ (exOk ph q r d))))∧((decide (r < 8589934592))=(!true)→tU2 a)))∧(b=(!true)→tU4 a)))∧((decide (ph < 4294967296))=(!true)→tU6 a)))) ?_
  delta dQ
  simp only [sS,zQX]
  unfold exOk
  grind
theorem zVU (ph pl q r d nh nl:Int) (h:q*q*r < 340282366920938463463374607431768211456):Ans prog 128 [RV.agg [DV.int .u64 ph,DV.int .u64 pl,DV.int .u64 q,DV.int .u64 r,DV.int .u64 d],RV.agg [DV.int .u64 nh,DV.int .u64 nl]] (rJ ((zUs q r (wV nh nl)))):=
 zQa (Γ:=jXf) Ann.leaf zQg Tryz.func128 rfl (nL rfl) fun hwf=>by
  refine Eq.mpr (by kernel_rfl:_=(let a:=(wV (hiW (q*q)) (loW (q*q))*r); let b:=(dJ (zUs q r (wV nh nl))); let c:=[DV.int .u64 (hiW (q*q)),DV.int .u64 (loW (q*q))]; let d:=[DV.int .u64 (hiW a),DV.int .u64 (loW a)]; let e:=[DV.int .u64 (hiW (nl*nl)),DV.int .u64 (loW (nl*nl))]; let f:=(dJ (cmpI (wV (hiW a) (loW a)) (wV (hiW (nl*nl)) (loW (nl*nl))))); tU6 (((decide (nh > 0))=true→True∧rJ (-1:Int)=RV.d b)∧((decide (nh > 0))=false→tU4 ((Ans prog 111 [RV.d (DV.int .u64 q),RV.d (DV.int .u64 q)] (RV.agg c))∧tU2 ((Ans prog 124 [RV.agg c,RV.d (DV.int .u64 r)] (RV.tup [RV.agg d,RV.d (dQ true)]))∧tU6 ((true=true)∧tU5 ((Ans prog 111 [RV.d (DV.int .u64 nl),RV.d (DV.int .u64 nl)] (RV.agg e))∧(Ans prog 125 [RV.agg d,RV.agg e] (RV.d f))∧True∧(true=true)∧RV.d f=RV.d b)))))))) ?_
  delta dJ dQ rJ
  simp only [sS,zQX,zZE]
  simp only [RV.wfs,RV.wf,DV.wf,DV.wfs] at hwf
  have mi:IntKind.min .u64=0:=rfl
  have ma:IntKind.max .u64=18446744073709551615:=rfl
  have mj:IntKind.min .u16=0:=rfl
  have mb:IntKind.max .u16=65535:=rfl
  simp only [mi,ma,mj,mb] at hwf
  obtain ⟨⟨_,_,hq,hr,_⟩,⟨hn,hl,_⟩,_⟩:=hwf
  refine ⟨fun h1=>?_,fun h1=>?_⟩
  ·unfold zUs
   rw [if_pos (by unfold wV; omega)]
  ·have e:nh=0:=by omega
   subst e
   refine ⟨zZw _ _,zXX _ _ _ (by rw [zYv]; exact h),zZw _ _,zXt _ _ _ _,?_⟩
   simp only [zYv,jJQ]
   unfold zUs
   rw [if_neg (by omega)]
theorem zJf (ph pl q r d:Int) (tw:Bool) (n:Int) (hp:ph < 4294967296) (hq:q < 70368744177664) (hr:r < 8589934592):Ans prog 123 [RV.agg [DV.int .u64 ph,DV.int .u64 pl,DV.int .u64 q,DV.int .u64 r,DV.int .u64 d],RV.d (dQ tw),RV.d (DV.int .u64 n)] (rJ ((tmS (wV ph pl) q r d (if tw then 2 else 1) n))):=
 zQa (Γ:=jXf) Ann.leaf zQg Tryz.func123 rfl (nL rfl) fun hwf=>by
  refine Eq.mpr (by kernel_rfl:_=(let b:=(addW (wV ph pl) (wV ph pl)); let a:=(wV (hiW (n*d)) (loW (n*d))); let j:=(!(subK a (wV ph pl))); let c:=(subW a (wV ph pl)); let e:=(wV (hiW b) (loW b)); let f:=(subW a e); let h:=[DV.int .u64 (hiW (n*d)),DV.int .u64 (loW (n*d))]; let i:=[DV.int .u64 ph,DV.int .u64 pl]; let k:=[DV.int .u64 (hiW b),DV.int .u64 (loW b)]; let l:=[DV.int .u64 (hiW f),DV.int .u64 (loW f)]; let g:=(dJ (tmS (wV ph pl) q r d (if tw then 2 else 1) n)); let m:=(IntKind.wrap .u64 ((2:Int)*q)); let o:=(dJ (zUs m r (wV (hiW f) (loW f)))); let p:=[DV.int .u64 (hiW c),DV.int .u64 (loW c)]; let s:=(dJ (zUs q r (wV (hiW c) (loW c)))); tU5 ((Ans prog 111 [RV.d (DV.int .u64 n),RV.d (DV.int .u64 d)] (RV.agg h))∧True∧tU8 ((true=true)∧True∧((tw=true→tU2 ((Ans prog 110 [RV.agg i,RV.agg i] (RV.tup [RV.agg k,RV.d (dQ (addK (wV ph pl) (wV ph pl)))]))∧tU3 (tU8 ((Ans prog 118 [RV.agg h,RV.agg k] (RV.tup [RV.agg l,RV.d (dQ (subK a e))]))∧tU8 (((!(subK a e))=true→True∧rJ 1=RV.d g)∧((!(subK a e))=false→tU2 ((Ans prog 128 [RV.agg [DV.int .u64 ph,DV.int .u64 pl,DV.int .u64 m,DV.int .u64 r,DV.int .u64 d],RV.agg l] (RV.d o))∧True∧RV.d o=RV.d g)))))))∧(tw=false→tU2 ((Ans prog 118 [RV.agg h,RV.agg i] (RV.tup [RV.agg p,RV.d (dQ (subK a (wV ph pl)))]))∧tU8 ((j=true→True∧rJ 1=RV.d g)∧(j=false→tU2 ((Ans prog 128 [RV.agg [DV.int .u64 ph,DV.int .u64 pl,DV.int .u64 q,DV.int .u64 r,DV.int .u64 d],RV.agg p] (RV.d s))∧True∧RV.d s=RV.d g)))))))))) ?_
  delta dJ dQ rJ
  simp only [sS,zQX,zZE]
  simp only [RV.wfs,RV.wf,DV.wf,DV.wfs] at hwf
  have mi:IntKind.min .u64=0:=rfl
  have ma:IntKind.max .u64=18446744073709551615:=rfl
  have mj:IntKind.min .u16=0:=rfl
  have mb:IntKind.max .u16=65535:=rfl
  simp only [mi,ma,mj,mb] at hwf
  obtain ⟨⟨w1,w2,w3,w4,w5,_⟩,_,w6,_⟩:=hwf
  have hP:0≤wV ph pl∧wV ph pl < 79228162514264337593543950336:=by unfold wV; omega
  have sq:∀ a:Int,0≤a→a≤140737488355328→a*a*r < 340282366920938463463374607431768211456:=fun a a0 a1=>by
   have x1:=zQj a0 a1 a0 a1
   have x2:=zQj x1.1 x1.2 w4.1 (show r≤8589934592 by omega)
   omega
  have fin:∀ t Q:Int,0≤t*wV ph pl→Q=t*q→∀ D,D=t*wV ph pl→(subK (n*d) D=false→1=tmS (wV ph pl) q r d t n)∧(subK (n*d) D=true→zUs Q r (subW (n*d) D)=tmS (wV ph pl) q r d t n):=fun t Q h0 hQ D hD=>by
   subst hD hQ
   unfold subK subW tmS
   refine ⟨fun h=>?_,fun h=>?_⟩
   ·have h:=of_decide_eq_false h
    rw [if_pos (by omega)]
   ·have h:=of_decide_eq_true h
    rw [if_neg (by omega),if_neg (by omega)]
  refine ⟨zZw _ _,fun ht=>?_,fun ht=>?_⟩
  ·subst ht
   have aw:addW (wV ph pl) (wV ph pl)=2*wV ph pl:=by unfold addW; rw [if_pos (by omega)]; omega
   have wq:IntKind.wrap .u64 (2*q)=2*q:=IntWalk.u64_in _ ⟨by omega,by omega⟩
   have f:=fin 2 (2*q) (by omega) rfl (2*wV ph pl) rfl
   refine ⟨zXd _ _ _ _,zYk _ _ _ _,fun h=>?_,fun h=>⟨zVU _ _ _ _ _ _ _ (by rw [wq]; exact sq _ (by omega) (by omega)),?_⟩⟩
   ·simp only [zYv,aw] at h
    simpa using f.1 h
   ·simp only [zYv,aw] at h
    simp only [zYv,aw,wq]
    simpa using f.2 h
  ·subst ht
   have f:=fin 1 q (by omega) (by omega) (wV ph pl) (by omega)
   refine ⟨zYk _ _ _ _,fun h=>?_,fun h=>⟨zVU _ _ _ _ _ _ _ (sq _ (by omega) (by omega)),?_⟩⟩
   ·simp only [zYv] at h
    simpa using f.1 h
   ·simp only [zYv] at h
    simp only [zYv]
    simpa using f.2 h
theorem zVi (ph pl q r d:Int) (hp:ph < 4294967296) (hq:q < 70368744177664) (hr:r < 8589934592) (hd:1≤d) (hf:(⟨wV ph pl,q,r,d⟩:Ex).floor < 9223372036854775808):Ans prog 122 [RV.agg [DV.int .u64 ph,DV.int .u64 pl,DV.int .u64 q,DV.int .u64 r,DV.int .u64 d]] (RV.tup [RV.d (DV.int .u64 ((⟨wV ph pl,q,r,d⟩:Ex).floor)),RV.d (dQ true)]):=
 zQa (Γ:=jXf) (Ann.seq Ann.leaf (Ann.seq Ann.leaf (Ann.seq Ann.leaf (Ann.seq (Ann.seq Ann.leaf (Ann.loop ⟨Nat,fun i=>i≤63,fun i=>⟨[(1,AV.one (Cl.ptr 1 0)),(4,AV.one (Cl.d (DV.int .u64 ((⟨wV ph pl,q,r,d⟩:Ex).floor / 2 ^ i*2 ^ i)))),(5,aJ ((i:Int) - 1))],[(1,bC [Cl.d (DV.int .u64 ph),Cl.d (DV.int .u64 pl),Cl.d (DV.int .u64 q),Cl.d (DV.int .u64 r),Cl.d (DV.int .u64 d)])]⟩,fun i=>i⟩ fun i=>Ann.leaf)) Ann.leaf)))) zQg Tryz.func122 rfl (nL rfl) fun hwf=>by
  refine Eq.mpr (by kernel_rfl:_=(let h:=(if false then 2 else 1); let b:=(tmS (wV ph pl) q r d h (9223372036854775808:Int)); let a:=[DV.int .u64 ph,DV.int .u64 pl,DV.int .u64 q,DV.int .u64 r,DV.int .u64 d]; let j:=[RV.d (DV.int .u64 (0:Int)),RV.d (dQ false)]; let c:=[RV.d (DV.int .u64 (⟨wV ph pl,q,r,d⟩:Ex).floor),RV.d (dQ true)]; let e:=((a=a)∧True); let k:=fun (i:Nat)=>(0≤IntKind.wrap .u64 ((i:Int) - 1)); let f:=fun (i:Nat)=>(IntKind.wrap .u64 (BitVec.ofInt 64 ((⟨wV ph pl,q,r,d⟩:Ex).floor / 2 ^ i*2 ^ i) ||| BitVec.ofInt 64 (IntKind.wrap .u64 ((1:Int)*2 ^ min (IntKind.wrap .u64 ((i:Int) - 1)).toNat 64))).toNat); let l:=fun (i:Nat)=>fun (i':Nat)=>(dJ (wK (((i:Int) - 1) - 1))=dJ ((i':Int) - 1)); tU4 ((Ans prog 127 [RV.agg a] (RV.d (dQ (exOk ph q r d))))∧tU2 (((!(exOk ph q r d))=false→True∧(Ans prog 123 [RV.agg a,RV.d (dQ false),RV.d (DV.int .u64 (9223372036854775808:Int))] (rJ b))∧tU2 (((decide (b≥0))=true→tU2 (RV.tup j=RV.tup c))∧((decide (b≥0))=false→tU2 ((∃ i:Nat,(i≤63)∧(((0=0)∧(DV.int .u64 (0:Int)=DV.int .u64 ((⟨wV ph pl,q,r,d⟩:Ex).floor / 2 ^ i*2 ^ i))∧(dJ 62=dJ ((i:Int) - 1))∧True)∧e))∧∀ i:Nat,let g:=(tmS (wV ph pl) q r d h (f i)); (i≤63)→tU2 (((decide (((i:Int) - 1)≥0))=true→tU4 ((k i)∧True∧(Ans prog 123 [RV.agg a,RV.d (dQ false),RV.d (DV.int .u64 (f i))] (rJ g))∧True∧(((decide (g≥0))=true→tU3 ((k i)∧tU5 (∃ i':Nat,(i'≤63)∧(i' < i)∧(((0=0)∧(DV.int .u64 (f i)=DV.int .u64 ((⟨wV ph pl,q,r,d⟩:Ex).floor / 2 ^ i'*2 ^ i'))∧(l i i')∧True)∧e))))∧((decide (g≥0))=false→tU3 (∃ i':Nat,(i'≤63)∧(i' < i)∧(((0=0)∧(DV.int .u64 ((⟨wV ph pl,q,r,d⟩:Ex).floor / 2 ^ i*2 ^ i)=DV.int .u64 ((⟨wV ph pl,q,r,d⟩:Ex).floor / 2 ^ i'*2 ^ i'))∧(l i i')∧True)∧e))))))∧((decide (((i:Int) - 1)≥0))=false→tU3 (RV.tup [RV.d (DV.int .u64 ((⟨wV ph pl,q,r,d⟩:Ex).floor / 2 ^ i*2 ^ i)),RV.d (dQ true)]=RV.tup c)))))))∧((!(exOk ph q r d))=(!false)→tU3 (RV.tup j=RV.tup c)))))) ?_
  delta dJ dQ wK rJ
  simp only [sS,zQX,zZE]
  simp only [RV.wfs,RV.wf,DV.wf,DV.wfs] at hwf
  have mi:IntKind.min .u64=0:=rfl
  have ma:IntKind.max .u64=18446744073709551615:=rfl
  have mj:IntKind.min .u16=0:=rfl
  have mb:IntKind.max .u16=65535:=rfl
  simp only [mi,ma,mj,mb] at hwf
  obtain ⟨⟨w1,w2,w3,w4,w5,_⟩,_⟩:=hwf
  have hP:0≤wV ph pl∧wV ph pl < 79228162514264337593543950336:=by unfold wV; omega
  have sq:∀ a:Int,0≤a→a≤140737488355328→a*a*r < 340282366920938463463374607431768211456:=fun a a0 a1=>by
   have x1:=zQj a0 a1 a0 a1
   have x2:=zQj x1.1 x1.2 w4.1 (show r≤8589934592 by omega)
   omega
  have hok:exOk ph q r d=true:=by simp [exOk]; omega
  have tg:∀ t n:Int,0≤t→t≤2→0≤n→(tmS (wV ph pl) q r d t n≥0↔n*d≤(⟨wV ph pl,q,r,d⟩:Ex).up t):=fun t n t0 t1 n0=>jJB hP.1 w3.1 w4.1 w5.1 t0 n0 (sq _ (Int.mul_nonneg t0 w3.1) (by have:=zQj t0 t1 w3.1 (show q≤70368744177664 by omega); omega))
  have eok:(⟨wV ph pl,q,r,d⟩:Ex).ok:=⟨hP.1,w3.1,w4.1,by simp only; omega⟩
  have up0:=Ex.up_nonneg eok (t:=1) (by omega)
  have F0:0≤(⟨wV ph pl,q,r,d⟩:Ex).floor:=Int.ediv_nonneg up0 w5.1
  have tF:∀ n:Int,0≤n→(tmS (wV ph pl) q r d 1 n≥0↔n≤(⟨wV ph pl,q,r,d⟩:Ex).floor):=fun n n0=>by
   rw [tg 1 n (by decide) (by decide) n0]
   exact (Int.le_ediv_iff_mul_le (by omega)).symm
  have e2:(if false=true then (2:Int) else 1)=1:=rfl
  simp only [e2]
  clear sq tg up0 eok
  refine ⟨fun _=>⟨zJf _ _ _ _ _ _ _ hp hq hr,fun h=>?_,fun h=>?_⟩,fun h=>by rw [hok] at h; cases h⟩
  ·have:=(tF _ (by decide)).1 h
   omega
  obtain ⟨f,hfe⟩:=Int.eq_ofNat_of_zero_le F0
  rw [hfe] at tF hf ⊢
  clear h hok
  have hf:f < 2 ^ 63:=by omega
  refine ⟨⟨63,Nat.le_refl _,?_,by decide⟩,fun i hi=>⟨fun h=>?_,fun h=>?_⟩⟩
  ·have:(f:Int) / 2 ^ 63=0:=Int.ediv_eq_zero_of_lt (by omega) (by omega)
   rw [this]; rfl
  ·obtain ⟨k,rfl⟩:∃ k,i=k+1:=⟨i - 1,by omega⟩
   have hk:k < 63:=by omega
   obtain ⟨b1,b2,b3,b4⟩:=jYF hf hk
   have c0:(((k+1:Nat):Int) - 1)=(k:Int):=by omega
   have c1:IntKind.wrap .u64 ((k:Int))=(k:Int):=IntWalk.u64_in _ ⟨by omega,by omega⟩
   have p0:(2 ^ k:Nat) < 2 ^ 64:=Nat.pow_lt_pow_right (by decide) (by omega)
   have c2:IntKind.wrap .u64 ((1:Int)*2 ^ min k 64)=((2 ^ k:Nat):Int):=by
    rw [Nat.min_eq_left (by omega),Int.one_mul,show ((2:Int) ^ k)=((2 ^ k:Nat):Int) by simp]
    generalize (2 ^ k:Nat)=p at p0 ⊢
    exact IntWalk.u64_in _ ⟨by omega,by omega⟩
   have c3:∀ j,(f:Int) / 2 ^ j*2 ^ j=((f / 2 ^ j*2 ^ j:Nat):Int):=fun j=>by simp
   have c4:IntKind.wrap .u64 ((f / 2 ^ (k+1)*2 ^ (k+1)+2 ^ k:Nat):Int)=((f / 2 ^ (k+1)*2 ^ (k+1)+2 ^ k:Nat):Int):=IntWalk.u64_in _ ⟨by omega,by omega⟩
   have c5:IntKind.wrap .i64 ((k:Int) - 1)=(k:Int) - 1:=IntWalk.i64_in _ ⟨by omega,by omega⟩
   simp only [c0,c1,Int.toNat_natCast,c2,c3,b1,c4,c5]
   refine ⟨by omega,zJf _ _ _ _ _ _ _ hp hq hr,fun h=>⟨by omega,k,by omega,by omega,?_,rfl⟩,fun h=>⟨k,by omega,by omega,?_,rfl⟩⟩
   ·have:=(tF _ (by omega)).1 h
    rw [b3 (by omega)]
   ·have:=(not_congr (tF _ (by omega))).1 h
    rw [b4 (by omega)]
  ·have:i=0:=by omega
   subst this
   simp
theorem zYT (ph pl q r d:Int) (hp:ph < 4294967296) (hq:q < 70368744177664) (hr:r < 8589934592) (hd:1≤d) (hf:(⟨wV ph pl,q,r,d⟩:Ex).floor < 4611686018427387904):Ans prog 112 [RV.agg [DV.int .u64 ph,DV.int .u64 pl,DV.int .u64 q,DV.int .u64 r,DV.int .u64 d]] (RV.tup [RV.d (DV.int .u64 ((⟨wV ph pl,q,r,d⟩:Ex).half)),RV.d (dQ true)]):=
 zQa (Γ:=jXf) Ann.leaf zQg Tryz.func112 rfl (nL rfl) fun hwf=>by
  refine Eq.mpr (by kernel_rfl:_=(let e:=[DV.int .u64 ph,DV.int .u64 pl,DV.int .u64 q,DV.int .u64 r,DV.int .u64 d]; let f:=[RV.d (DV.int .u64 (⟨wV ph pl,q,r,d⟩:Ex).floor),RV.d (dQ true)]; let j:=[RV.d (DV.int .u64 (0:Int)),RV.d (dQ false)]; let a:=[RV.d (DV.int .u64 (⟨wV ph pl,q,r,d⟩:Ex).half),RV.d (dQ true)]; let b:=(RV.tup j=RV.tup a); let g:=(IntKind.wrap .u64 ((IntKind.wrap .u64 ((2:Int)*(⟨wV ph pl,q,r,d⟩:Ex).floor))+1)); let c:=(tmS (wV ph pl) q r d (if true then 2 else 1) g); let h:=(IntKind.wrap .u64 ((⟨wV ph pl,q,r,d⟩:Ex).floor+1)); let i:=(decide (h≥9223372036854775808)); tU4 ((Ans prog 122 [RV.agg e] (RV.tup f))∧tU7 (((!true)=true→tU2 b)∧((!true)=false→tU4 ((Ans prog 123 [RV.agg e,RV.d (dQ true),RV.d (DV.int .u64 g)] (rJ c))∧True∧(((decide (c≥0))=true→tU5 ((i=true→tU2 b)∧(i=false→tU3 (RV.tup [RV.d (DV.int .u64 h),RV.d (dQ true)]=RV.tup a))))∧((decide (c≥0))=false→tU2 (((decide ((⟨wV ph pl,q,r,d⟩:Ex).floor≥9223372036854775808))=true→tU2 b)∧((decide ((⟨wV ph pl,q,r,d⟩:Ex).floor≥9223372036854775808))=false→tU3 (RV.tup f=RV.tup a))))))))))) ?_
  delta dQ rJ
  simp only [sS,zQX,zZE]
  simp only [RV.wfs,RV.wf,DV.wf,DV.wfs] at hwf
  have mi:IntKind.min .u64=0:=rfl
  have ma:IntKind.max .u64=18446744073709551615:=rfl
  have mj:IntKind.min .u16=0:=rfl
  have mb:IntKind.max .u16=65535:=rfl
  simp only [mi,ma,mj,mb] at hwf
  obtain ⟨⟨w1,w2,w3,w4,w5,_⟩,_⟩:=hwf
  have hP:0≤wV ph pl∧wV ph pl < 79228162514264337593543950336:=by unfold wV; omega
  have sq:∀ a:Int,0≤a→a≤140737488355328→a*a*r < 340282366920938463463374607431768211456:=fun a a0 a1=>by
   have x1:=zQj a0 a1 a0 a1
   have x2:=zQj x1.1 x1.2 w4.1 (show r≤8589934592 by omega)
   omega
  have hok:exOk ph q r d=true:=by simp [exOk]; omega
  have tg:∀ t n:Int,0≤t→t≤2→0≤n→(tmS (wV ph pl) q r d t n≥0↔n*d≤(⟨wV ph pl,q,r,d⟩:Ex).up t):=fun t n t0 t1 n0=>jJB hP.1 w3.1 w4.1 w5.1 t0 n0 (sq _ (Int.mul_nonneg t0 w3.1) (by have:=zQj t0 t1 w3.1 (show q≤70368744177664 by omega); omega))
  have eok:(⟨wV ph pl,q,r,d⟩:Ex).ok:=⟨hP.1,w3.1,w4.1,by simp only; omega⟩
  have up0:=Ex.up_nonneg eok (t:=1) (by omega)
  have F0:0≤(⟨wV ph pl,q,r,d⟩:Ex).floor:=Int.ediv_nonneg up0 w5.1
  have tF:∀ n:Int,0≤n→(tmS (wV ph pl) q r d 1 n≥0↔n≤(⟨wV ph pl,q,r,d⟩:Ex).floor):=fun n n0=>by
   rw [tg 1 n (by decide) (by decide) n0]
   exact (Int.le_ediv_iff_mul_le (by omega)).symm
  have up2:=Ex.half_floor eok
  have e1:IntKind.wrap .u64 (2*(⟨wV ph pl,q,r,d⟩:Ex).floor)=2*(⟨wV ph pl,q,r,d⟩:Ex).floor:=IntWalk.u64_in _ ⟨by omega,by omega⟩
  have e2:IntKind.wrap .u64 (2*(⟨wV ph pl,q,r,d⟩:Ex).floor+1)=2*(⟨wV ph pl,q,r,d⟩:Ex).floor+1:=IntWalk.u64_in _ ⟨by omega,by omega⟩
  have e3:IntKind.wrap .u64 ((⟨wV ph pl,q,r,d⟩:Ex).floor+1)=(⟨wV ph pl,q,r,d⟩:Ex).floor+1:=IntWalk.u64_in _ ⟨by omega,by omega⟩
  have e4:(if True then (2:Int) else 1)=2:=by simp
  have tt:=tg 2 (2*(⟨wV ph pl,q,r,d⟩:Ex).floor+1) (by decide) (by decide) (by omega)
  have an:=zJf ph pl q r d true (2*(⟨wV ph pl,q,r,d⟩:Ex).floor+1) hp hq hr
  have e5:(if true=true then (2:Int) else 1)=2:=by simp
  simp only [e5] at an
  simp only [e1,e2,e3,e4,tt]
  refine ⟨zVi _ _ _ _ _ hp hq hr hd (by omega),fun h=>(by cases h),an,fun h=>⟨fun h2=>by omega,fun _=>?_⟩,fun h=>⟨fun h2=>by omega,fun _=>?_⟩⟩
  ·rw [up2,if_pos h]
  ·rw [up2,if_neg h]
def gZ38 (xs:List RV):Option RV:=match xs with | [.d (.int _ a),.d (.int _ b),.d (.int _ c)]=>some (RV.agg [DV.int .u64 (hiW (a*b*c)),DV.int .u64 (loW (a*b*c))]) | _=>none
def gZ39 (xs:List RV):Option RV:=match xs with | [.d (.int _ mode),.d (.int _ s),.d (.int _ a),.d (.int _ d),.d (.int _ b)]=>let c:=(blE mode s a d b); some (RV.tup [RV.agg [DV.int .u64 (hiW c.p),DV.int .u64 (loW c.p),DV.int .u64 c.q,DV.int .u64 c.r,DV.int .u64 c.d],RV.d (dQ (blK mode s a d b))]) | _=>none
def jYm:Gam where
 pure:=fun f xs=>
  if f=111 then gZ31 xs else
  if f=110 then gZ33 xs else
  if f=118 then gZ34 xs else
  if f=124 then gZ35 xs else
  if f=115 then (match xs with | [.d (.int _ p)]=>some (RV.agg [DV.int .u64 0,DV.int .u64 p,DV.int .u64 0,DV.int .u64 0,DV.int .u64 1]) | _=>none) else
  if f=117 then gZ38 xs else
  if f=116 then (match xs with | [.d (.int _ s),.d (.int _ a),.d (.int _ d),.d (.int _ b)]=>some (RV.d (DV.int .u64 (zJB s a d b))) | _=>none) else
  if f=119 then (match xs with | [.d (.int _ s),.d (.int _ a),.d (.int _ d),.d (.int _ b)]=>let c:=(zYX s a d b); some (RV.agg [DV.int .u64 (hiW c.p),DV.int .u64 (loW c.p),DV.int .u64 c.q,DV.int .u64 c.r,DV.int .u64 c.d]) | _=>none) else
  if f=109 then gZ39 xs else
  if f=99 then gZ20 xs else
  none
 modes:=fun f=>
  none
 proc:=fun f xs bs=>
  none
 iter:=fun f cs=>
  none
theorem zYb (p:Int):Ans prog 115 [RV.d (DV.int .u64 p)] (RV.agg [DV.int .u64 0,DV.int .u64 p,DV.int .u64 0,DV.int .u64 0,DV.int .u64 1]):=
 zQa (Γ:=jYm) Ann.leaf zQg Tryz.func115 rfl (nL rfl) fun hwf=>by
  refine Eq.mpr (by kernel_rfl:_=(tU5 (RV.agg [DV.int .u64 (0:Int),DV.int .u64 p,DV.int .u64 (0:Int),DV.int .u64 (0:Int),DV.int .u64 (1:Int)]=RV.agg [DV.int .u64 0,DV.int .u64 p,DV.int .u64 0,DV.int .u64 0,DV.int .u64 1]))) ?_
  simp only [sS]
theorem zZm (a b c:Int) (h:a*b*c < 340282366920938463463374607431768211456):Ans prog 117 [RV.d (DV.int .u64 a),RV.d (DV.int .u64 b),RV.d (DV.int .u64 c)] (RV.agg [DV.int .u64 (hiW (a*b*c)),DV.int .u64 (loW (a*b*c))]):=
 zQa (Γ:=jYm) Ann.leaf zQg Tryz.func117 rfl (nL rfl) fun hwf=>by
  refine Eq.mpr (by kernel_rfl:_=(let d:=(wV (hiW (a*b)) (loW (a*b))*c); let e:=[DV.int .u64 (hiW (a*b)),DV.int .u64 (loW (a*b))]; let f:=[DV.int .u64 (hiW d),DV.int .u64 (loW d)]; tU3 ((Ans prog 111 [RV.d (DV.int .u64 a),RV.d (DV.int .u64 b)] (RV.agg e))∧True∧(Ans prog 124 [RV.agg e,RV.d (DV.int .u64 c)] (RV.tup [RV.agg f,RV.d (dQ true)]))∧tU8 (RV.agg f=RV.agg [DV.int .u64 (hiW (a*b*c)),DV.int .u64 (loW (a*b*c))])))) ?_
  delta dQ
  simp only [sS,zYb]
  exact ⟨zZw _ _,zXX _ _ _ (by rw [zYv]; exact h),by rw [zYv],by rw [zYv]⟩
theorem zVT (s a d b:Int) (h0:0≤s) (h1:s≤a) (h2:0≤d) (h3:d≤b) (ha:a≤65535) (hb:b≤65535):Ans prog 116 [RV.d (DV.int .u64 s),RV.d (DV.int .u64 a),RV.d (DV.int .u64 d),RV.d (DV.int .u64 b)] (RV.d (DV.int .u64 (zJB s a d b))):=
 zQa (Γ:=jYm) Ann.leaf zQg Tryz.func116 rfl (nL rfl) fun hwf=>by
  refine Eq.mpr (by kernel_rfl:_=(let c:=(IntKind.wrap .u64 ((2:Int)*s)); let e:=(DV.int .u64 (zJB s a d b)); tU5 (((decide (c≤a))=true→tU5 (RV.d (DV.int .u64 (IntKind.wrap .u64 (c*d)))=RV.d e))∧((decide (c≤a))=false→tU5 (tU8 (RV.d (DV.int .u64 (IntKind.wrap .u64 ((IntKind.wrap .u64 (a*b)) - (IntKind.wrap .u64 ((IntKind.wrap .u64 ((2:Int)*(IntKind.wrap .u64 (b - d))))*(IntKind.wrap .u64 (a - s)))))))=RV.d e)))))) ?_
  simp only [sS,zYb]
  have W:∀ x:Int,0≤x→x < 18446744073709551616→IntKind.wrap .u64 x=x:=fun x x0 x1=>IntWalk.u64_in x ⟨x0,by omega⟩
  have p1:=zQj (x:=2*s) (y:=d) (A:=131070) (B:=65535) (by omega) (by omega) h2 (by omega)
  have p2:=zQj (x:=a) (y:=b) (A:=65535) (B:=65535) (by omega) ha (by omega) hb
  have p3:=zQj (x:=2*(b - d)) (y:=a - s) (A:=131070) (B:=65535) (by omega) (by omega) (by omega) (by omega)
  simp only [W (2*s) (by omega) (by omega),W (b - d) (by omega) (by omega),W (2*(b - d)) (by omega) (by omega),W (a - s) (by omega) (by omega),W (a*b) (by omega) (by omega),W (2*s*d) (by omega) (by omega),W (2*(b - d)*(a - s)) (by omega) (by omega)]
  have hh:=zGY h0 h1 h2 h3
  unfold zJB at hh ⊢
  refine ⟨fun h=>by rw [if_pos h],fun h=>?_⟩
  rw [if_neg h] at hh ⊢
  exact W _ hh.1 (by omega)
theorem jQn (s a d b:Int) (h0:0≤s) (h1:s≤a) (h2:0≤d) (h3:d≤b) (ha:a≤65535) (hb:b≤65535):Ans prog 119 [RV.d (DV.int .u64 s),RV.d (DV.int .u64 a),RV.d (DV.int .u64 d),RV.d (DV.int .u64 b)] (RV.agg [DV.int .u64 (hiW (zYX s a d b).p),DV.int .u64 (loW (zYX s a d b).p),DV.int .u64 ((zYX s a d b).q),DV.int .u64 ((zYX s a d b).r),DV.int .u64 ((zYX s a d b).d)]):=
 zQa (Γ:=jYm) Ann.leaf zQg Tryz.func119 rfl (nL rfl) fun hwf=>by
  refine Eq.mpr (by kernel_rfl:_=(let p:=(decide ((IntKind.wrap .u64 ((4:Int)*d))≤b)); let n:=(IntKind.wrap .u64 (b*b)); let o:=(IntKind.wrap .u64 (d*a)); let h:=(zYX s a d b); let i:=(DV.int .u64 (1:Int)); let q:=[DV.int .u64 0,DV.int .u64 (0:Int),DV.int .u64 0,DV.int .u64 0,DV.int .u64 1]; let j:=[DV.int .u64 (hiW h.p),DV.int .u64 (loW h.p),DV.int .u64 h.q,DV.int .u64 h.r,DV.int .u64 h.d]; let k:=(IntKind.wrap .u64 ((2:Int)*s)); let r:=(DV.int .u64 o); let c:=(o*b*1); let t:=[DV.int .u64 (hiW c),DV.int .u64 (loW c)]; let u:=(IntKind.wrap .u64 ((IntKind.wrap .u64 (a - k))*d)); let e:=(u*(IntKind.wrap .u64 (b - d))*1); let l:=(subW (wV (hiW c) (loW c)) (wV (hiW e) (loW e))); let v:=[DV.int .u64 (hiW e),DV.int .u64 (loW e)]; let f:=(o*n*1); let w:=[DV.int .u64 (hiW f),DV.int .u64 (loW f)]; let x:=(IntKind.wrap .u64 (k - a)); let y:=(IntKind.wrap .u64 (x*d)); let z:=(IntKind.wrap .u64 ((IntKind.wrap .u64 ((IntKind.wrap .u64 ((IntKind.wrap .u64 ((16:Int)*d))*d))+(IntKind.wrap .u64 ((IntKind.wrap .u64 ((3:Int)*b))*b)))) - (IntKind.wrap .u64 ((IntKind.wrap .u64 ((12:Int)*d))*b)))); let g:=(y*z*1); let m:=(addW (wV (hiW f) (loW f)) (wV (hiW g) (loW g))); let A:=[DV.int .u64 (hiW g),DV.int .u64 (loW g)]; tU4 (((b==0)=true→(Ans prog 115 [RV.d (DV.int .u64 (0:Int))] (RV.agg q))∧True∧RV.agg q=RV.agg j)∧((b==0)=false→tU5 (((decide (k≤a))=true→tU4 ((Ans prog 117 [RV.d r,RV.d (DV.int .u64 b),RV.d i] (RV.agg t))∧True∧tU8 ((Ans prog 117 [RV.d (DV.int .u64 u),RV.d (DV.int .u64 (IntKind.wrap .u64 (b - d))),RV.d i] (RV.agg v))∧(Ans prog 118 [RV.agg t,RV.agg v] (RV.tup [RV.agg [DV.int .u64 (hiW l),DV.int .u64 (loW l)],RV.d (dQ (subK (wV (hiW c) (loW c)) (wV (hiW e) (loW e))))]))∧tU2 (tU8 (RV.agg [DV.int .u64 (hiW l),DV.int .u64 (loW l),DV.int .u64 (0:Int),DV.int .u64 (0:Int),DV.int .u64 b]=RV.agg j)))))∧((decide (k≤a))=false→tU5 ((p=true→tU6 ((Ans prog 117 [RV.d r,RV.d (DV.int .u64 n),RV.d i] (RV.agg w))∧tU4 (tU8 (tU8 ((Ans prog 117 [RV.d (DV.int .u64 y),RV.d (DV.int .u64 z),RV.d i] (RV.agg A))∧(Ans prog 110 [RV.agg w,RV.agg A] (RV.tup [RV.agg [DV.int .u64 (hiW m),DV.int .u64 (loW m)],RV.d (dQ (addK (wV (hiW f) (loW f)) (wV (hiW g) (loW g))))]))∧tU4 (tU8 (RV.agg [DV.int .u64 (hiW m),DV.int .u64 (loW m),DV.int .u64 (0:Int),DV.int .u64 (0:Int),DV.int .u64 n]=RV.agg j)))))))∧(p=false→tU8 (tU8 (RV.agg [DV.int .u64 (0:Int),DV.int .u64 (IntKind.wrap .u64 ((IntKind.wrap .u64 ((2:Int)*d))*(IntKind.wrap .u64 (a - s)))),DV.int .u64 x,DV.int .u64 (IntKind.wrap .u64 (d*b)),DV.int .u64 (1:Int)]=RV.agg j)))))))))) ?_
  delta dQ
  simp only [sS,zYb]
  have W:∀ x:Int,0≤x→x < 18446744073709551616→IntKind.wrap .u64 x=x:=fun x x0 x1=>IntWalk.u64_in x ⟨x0,by omega⟩
  have p1:=zQj (x:=d) (y:=a) (A:=65535) (B:=65535) h2 (by omega) (by omega) ha
  have p2:=zQj (x:=b) (y:=b) (A:=65535) (B:=65535) (by omega) hb (by omega) hb
  have p5:=zQj (x:=d) (y:=b) (A:=65535) (B:=65535) h2 (by omega) (by omega) hb
  have p6:=zQj (x:=d*a) (y:=b) (A:=4294836225) (B:=65535) p1.1 (by omega) (by omega) hb
  have z1:hiW 1=0:=rfl
  have hz:hiW 0=0∧loW 0=0:=⟨rfl,rfl⟩
  have su:=zWm h0 h1 h2 h3
  simp only [W (2*s) (by omega) (by omega),W (d*a) p1.1 (by omega),W (b - d) (by omega) (by omega),W (a - s) (by omega) (by omega),W (b*b) p2.1 (by omega),W (4*d) (by omega) (by omega),W (d*b) p5.1 (by omega),W (16*d) (by omega) (by omega),W (3*b) (by omega) (by omega),W (12*d) (by omega) (by omega),W (2*d) (by omega) (by omega),Int.mul_one]
  unfold zYX at su ⊢
  refine ⟨fun h=>?_,fun h=>⟨fun c1=>?_,fun c1=>⟨fun c2=>?_,fun c2=>?_⟩⟩⟩
  ·have h:b=0:=by simpa using h
   rw [if_pos h]
   (repeat' (first | exact trivial | rfl | apply And.intro))
  ·have h:¬ b=0:=by simpa using h
   rw [if_neg h,if_pos c1] at su ⊢
   have q1:=zQj (x:=a - 2*s) (y:=d) (A:=65535) (B:=65535) (by omega) (by omega) h2 (by omega)
   have q2:=zQj (x:=(a - 2*s)*d) (y:=b - d) (A:=4294836225) (B:=65535) q1.1 (by omega) (by omega) (by omega)
   have q3:=su.ok.p
   simp only at q3
   simp only [W (a - 2*s) (by omega) (by omega),W ((a - 2*s)*d) q1.1 (by omega)]
   have w1:=zZm (d*a) b 1 (by omega)
   have w2:=zZm ((a - 2*s)*d) (b - d) 1 (by omega)
   simp only [Int.mul_one] at w1 w2
   have e:subW (d*a*b) ((a - 2*s)*d*(b - d))=d*a*b - (a - 2*s)*d*(b - d):=by unfold subW; rw [if_neg (by omega)]
   refine ⟨w1,w2,zYk _ _ _ _,?_⟩
   simp only [zYv,e]
   (repeat' (first | exact trivial | rfl | apply And.intro))
  ·have h:¬ b=0:=by simpa using h
   rw [if_neg h,if_neg c1,if_pos c2] at su ⊢
   have ⟨k1,k2⟩:=jZg h2 c2
   have e16:16*d*d=16*(d*d):=by grind
   have e12:12*d*b=12*(d*b):=by grind
   have e3:3*b*b=3*(b*b):=by grind
   have p7:=zQj (x:=d) (y:=d) (A:=65535) (B:=65535) h2 (by omega) h2 (by omega)
   have q1:=zQj (x:=2*s - a) (y:=d) (A:=65535) (B:=65535) (by omega) (by omega) h2 (by omega)
   have q4:=zQj (x:=d*a) (y:=b*b) (A:=4294836225) (B:=4294836225) p1.1 (by omega) p2.1 (by omega)
   have kk:16*d*d+3*b*b - 12*d*b≤81601888275:=by omega
   have q5:=zQj (x:=(2*s - a)*d) (y:=16*d*d+3*b*b - 12*d*b) (A:=4294836225) (B:=81601888275) q1.1 (by omega) k1 kk
   simp only [W (16*d*d) (by omega) (by omega),W (3*b*b) (by omega) (by omega),W (16*d*d+3*b*b) (by omega) (by omega),W (12*d*b) (by omega) (by omega),W (16*d*d+3*b*b - 12*d*b) k1 (by omega),W (2*s - a) (by omega) (by omega),W ((2*s - a)*d) q1.1 (by omega)]
   have w1:=zZm (d*a) (b*b) 1 (by omega)
   have w2:=zZm ((2*s - a)*d) (16*d*d+3*b*b - 12*d*b) 1 (by omega)
   simp only [Int.mul_one] at w1 w2
   have e:addW (d*a*(b*b)) ((2*s - a)*d*(16*d*d+3*b*b - 12*d*b))=d*a*(b*b)+(2*s - a)*d*(16*d*d+3*b*b - 12*d*b):=by unfold addW; rw [if_pos (by omega)]
   refine ⟨w1,w2,zXd _ _ _ _,?_⟩
   simp only [zYv,e]
   (repeat' (first | exact trivial | rfl | apply And.intro))
  ·have h:¬ b=0:=by simpa using h
   rw [if_neg h,if_neg c1,if_neg c2]
   have q1:=zQj (x:=2*d) (y:=a - s) (A:=131070) (B:=65535) (by omega) (by omega) (by omega) (by omega)
   simp only [W (2*d*(a - s)) q1.1 (by omega),W (2*s - a) (by omega) (by omega)]
   refine ⟨(jZF q1.1 (by omega)).symm,(jZA q1.1 (by omega)).symm,?_⟩
   (repeat' (first | exact trivial | rfl | apply And.intro))
theorem zVg (mode s a d b:Int):Ans prog 109 [rJ (mode),RV.d (dK s),RV.d (dK a),RV.d (dK d),RV.d (dK b)] (RV.tup [RV.agg [DV.int .u64 (hiW (blE mode s a d b).p),DV.int .u64 (loW (blE mode s a d b).p),DV.int .u64 ((blE mode s a d b).q),DV.int .u64 ((blE mode s a d b).r),DV.int .u64 ((blE mode s a d b).d)],RV.d (dQ (blK mode s a d b))]):=
 zQa (Γ:=jYm) Ann.leaf zQg Tryz.func109 rfl (nL rfl) fun hwf=>by
  refine Eq.mpr (by kernel_rfl:_=(let y:=(!(decide (1≤mode∧mode < 13))); let n:=(blE mode s a d b); let g:=(IntKind.wrap .u64 s); let h:=(IntKind.wrap .u64 b); let f:=(IntKind.wrap .u64 d); let e:=(IntKind.wrap .u64 a); let z:=(zJB g e f h); let A:=(zJB f h g e); let o:=(zYX g e f h); let z5:=[RV.agg [DV.int .u64 (0:Int),DV.int .u64 (0:Int),DV.int .u64 (0:Int),DV.int .u64 (0:Int),DV.int .u64 (0:Int)],RV.d (dQ false)]; let c:=[RV.agg [DV.int .u64 (hiW n.p),DV.int .u64 (loW n.p),DV.int .u64 n.q,DV.int .u64 n.r,DV.int .u64 n.d],RV.d (dQ (blK mode s a d b))]; let r:=(RV.tup z5=RV.tup c); let i:=(IntKind.wrap .u64 (g*h)); let B:=[DV.int .u64 0,DV.int .u64 i,DV.int .u64 0,DV.int .u64 0,DV.int .u64 1]; let t:=(IntKind.wrap .u64 (g*f)); let C:=[DV.int .u64 0,DV.int .u64 t,DV.int .u64 0,DV.int .u64 0,DV.int .u64 1]; let j:=(IntKind.wrap .u64 (f*e)); let D:=(IntKind.wrap .u64 (i+j)); let E:=(IntKind.wrap .u64 (D - t)); let F:=[DV.int .u64 0,DV.int .u64 E,DV.int .u64 0,DV.int .u64 0,DV.int .u64 1]; let u:=(DV.int .u64 f); let v:=(DV.int .u64 h); let w:=(DV.int .u64 g); let k:=(DV.int .u64 e); let G:=(DV.int .u64 A); let H:=[DV.int .u64 0,DV.int .u64 A,DV.int .u64 0,DV.int .u64 0,DV.int .u64 1]; let I:=[DV.int .u64 0,DV.int .u64 (min i j),DV.int .u64 0,DV.int .u64 0,DV.int .u64 1]; let J:=[DV.int .u64 0,DV.int .u64 (max i j),DV.int .u64 0,DV.int .u64 0,DV.int .u64 1]; let K:=(f==0); let L:=[DV.int .u64 0,DV.int .u64 (0:Int),DV.int .u64 0,DV.int .u64 0,DV.int .u64 1]; let M:=(Ans prog 115 [RV.d (DV.int .u64 (0:Int))] (RV.agg L)); let N:=[RV.agg L,RV.d (dQ true)]; let O:=(IntKind.wrap .u64 (e - g)); let P:=(decide (j≥(IntKind.wrap .u64 (h*O)))); let Q:=(IntKind.wrap .u64 (e*h)); let R:=[DV.int .u64 0,DV.int .u64 Q,DV.int .u64 0,DV.int .u64 0,DV.int .u64 1]; let z6:=(Ans prog 115 [RV.d (DV.int .u64 Q)] (RV.agg R)); let z7:=[RV.agg R,RV.d (dQ true)]; let S:=(z6∧tU2 (RV.tup z7=RV.tup c)); let p:=(e*e*f); let T:=(f==h); let x:=(IntKind.wrap .u64 (h - f)); let U:=(decide ((IntKind.wrap .u64 (x*e))≥i)); let l:=(e*h*g); let V:=[DV.int .u64 (hiW l),DV.int .u64 (loW l)]; let m:=(x*e*e); let q:=(subW (wV (hiW l) (loW l)) (wV (hiW m) (loW m))); let W:=[DV.int .u64 (hiW m),DV.int .u64 (loW m)]; let X:=[RV.d w,RV.d k,RV.d u,RV.d v]; let Y:=(DV.int .u64 z); let Z:=[DV.int .u64 0,DV.int .u64 z,DV.int .u64 0,DV.int .u64 0,DV.int .u64 1]; let z0:=[DV.int .u64 (hiW o.p),DV.int .u64 (loW o.p),DV.int .u64 o.q,DV.int .u64 o.r,DV.int .u64 o.d]; let z1:=(IntKind.wrap .u64 ((max i j) - (min i j))); let z2:=[DV.int .u64 0,DV.int .u64 z1,DV.int .u64 0,DV.int .u64 0,DV.int .u64 1]; let z3:=(IntKind.wrap .u64 (D - (IntKind.wrap .u64 ((IntKind.wrap .u64 ((2:Int)*g))*f)))); let z4:=[DV.int .u64 0,DV.int .u64 z3,DV.int .u64 0,DV.int .u64 0,DV.int .u64 1]; tU3 ((Ans prog 99 [rJ mode] (RV.d (dQ (decide (1≤mode∧mode < 13)))))∧tU2 ((y=false→tU5 (((decide (s > a))=false→tU4 (((decide (d > b))=true→tU3 r)∧((decide (d > b))=false→tU7 (tU8 (((mode==1)=true→tU3 ((Ans prog 115 [RV.d (DV.int .u64 i)] (RV.agg B))∧tU2 (RV.tup [RV.agg B,RV.d (dQ true)]=RV.tup c)))∧((mode==1)=false→tU2 (((mode==2)=true→tU3 ((Ans prog 115 [RV.d (DV.int .u64 t)] (RV.agg C))∧tU2 (RV.tup [RV.agg C,RV.d (dQ true)]=RV.tup c)))∧((mode==2)=false→tU2 (((mode==3)=true→tU3 (tU8 ((Ans prog 115 [RV.d (DV.int .u64 E)] (RV.agg F))∧tU2 (RV.tup [RV.agg F,RV.d (dQ true)]=RV.tup c))))∧((mode==3)=false→tU2 (((mode==4)=true→tU4 ((Ans prog 116 [RV.d u,RV.d v,RV.d w,RV.d k] (RV.d G))∧(Ans prog 115 [RV.d G] (RV.agg H))∧tU2 (RV.tup [RV.agg H,RV.d (dQ true)]=RV.tup c)))∧((mode==4)=false→tU2 (((mode==5)=true→tU7 ((Ans prog 115 [RV.d (DV.int .u64 (min i j))] (RV.agg I))∧tU2 (RV.tup [RV.agg I,RV.d (dQ true)]=RV.tup c)))∧((mode==5)=false→tU2 (((mode==6)=true→tU7 ((Ans prog 115 [RV.d (DV.int .u64 (max i j))] (RV.agg J))∧tU2 (RV.tup [RV.agg J,RV.d (dQ true)]=RV.tup c)))∧((mode==6)=false→tU2 (((mode==7)=true→tU2 ((K=true→M∧tU2 (RV.tup N=RV.tup c))∧(K=false→True∧tU8 ((P=true→tU3 S)∧(P=false→tU3 ((Ans prog 117 [RV.d k,RV.d k,RV.d u] (RV.agg [DV.int .u64 (hiW p),DV.int .u64 (loW p)]))∧tU6 (RV.tup [RV.agg [DV.int .u64 (hiW p),DV.int .u64 (loW p),DV.int .u64 (0:Int),DV.int .u64 (0:Int),DV.int .u64 O],RV.d (dQ true)]=RV.tup c)))))))∧((mode==7)=false→tU2 (((mode==8)=true→tU3 ((T=true→tU3 S)∧(T=false→True∧tU8 ((U=true→M∧tU2 (RV.tup N=RV.tup c))∧(U=false→tU3 ((Ans prog 117 [RV.d k,RV.d v,RV.d w] (RV.agg V))∧tU5 ((Ans prog 117 [RV.d (DV.int .u64 x),RV.d k,RV.d k] (RV.agg W))∧(Ans prog 118 [RV.agg V,RV.agg W] (RV.tup [RV.agg [DV.int .u64 (hiW q),DV.int .u64 (loW q)],RV.d (dQ (subK (wV (hiW l) (loW l)) (wV (hiW m) (loW m))))]))∧tU3 (tU8 (RV.tup [RV.agg [DV.int .u64 (hiW q),DV.int .u64 (loW q),DV.int .u64 (0:Int),DV.int .u64 (0:Int),DV.int .u64 g],RV.d (dQ true)]=RV.tup c)))))))))∧((mode==8)=false→tU2 (((mode==9)=true→tU4 ((Ans prog 116 X (RV.d Y))∧(Ans prog 115 [RV.d Y] (RV.agg Z))∧tU2 (RV.tup [RV.agg Z,RV.d (dQ true)]=RV.tup c)))∧((mode==9)=false→tU2 (((mode==10)=true→tU4 ((Ans prog 119 X (RV.agg z0))∧tU2 (RV.tup [RV.agg z0,RV.d (dQ true)]=RV.tup c)))∧((mode==10)=false→tU2 (((mode==11)=true→tU7 (tU8 ((Ans prog 115 [RV.d (DV.int .u64 z1)] (RV.agg z2))∧tU2 (RV.tup [RV.agg z2,RV.d (dQ true)]=RV.tup c))))∧((mode==11)=false→tU4 (tU8 ((Ans prog 115 [RV.d (DV.int .u64 z3)] (RV.agg z4))∧tU2 (RV.tup [RV.agg z4,RV.d (dQ true)]=RV.tup c)))))))))))))))))))))))))))))∧((decide (s > a))=(!false)→tU4 r)))∧(y=(!false)→tU6 r))))) ?_
  delta dQ rJ
  simp only [sS,zYb]
  simp only [RV.wfs,RV.wf,DV.wf,DV.wfs] at hwf
  have mi:IntKind.min .u64=0:=rfl
  have ma:IntKind.max .u64=18446744073709551615:=rfl
  have mj:IntKind.min .u16=0:=rfl
  have mb:IntKind.max .u16=65535:=rfl
  simp only [mi,ma,mj,mb] at hwf
  have W:∀ x:Int,0≤x→x < 18446744073709551616→IntKind.wrap .u64 x=x:=fun x x0 x1=>IntWalk.u64_in x ⟨x0,by omega⟩
  obtain ⟨_,⟨s0,s1⟩,⟨a0,a1⟩,⟨d0,d1⟩,⟨b0,b1⟩,_⟩:=hwf
  simp only [W s s0 (by omega),W a a0 (by omega),W d d0 (by omega),W b b0 (by omega)]
  have bad:¬ (isNm mode=true∧s≤a∧d≤b)→blK mode s a d b=false∧blE mode s a d b=.zero:=fun hn=>by
   have:blK mode s a d b=false:=by
    cases e:blK mode s a d b with
    | false=>rfl
    | true=>
     simp only [blK,Bool.and_eq_true,decide_eq_true_eq] at e
     exact absurd ⟨e.1,e.2.1,e.2.2⟩ hn
   exact ⟨this,by unfold blE; rw [this]; rfl⟩
  have good:isNm mode=true→s≤a→d≤b→blK mode s a d b=true∧blE mode s a d b=zQp mode s a d b:=fun h1 h2 h3=>by
   have:blK mode s a d b=true:=by unfold blK; rw [h1,decide_eq_true h2,decide_eq_true h3]; rfl
   exact ⟨this,by unfold blE; rw [if_pos this]⟩
  refine ⟨zQI _,fun hm=>⟨fun hsa=>⟨fun hdb=>?_,fun hdb=>?_⟩,fun hsa=>?_⟩,fun hm=>?_⟩
  case refine_1=>rw [(bad fun h=>by omega).1,(bad fun h=>by omega).2]; exact ⟨⟨rfl,rfl,rfl,rfl,rfl⟩,rfl⟩
  case refine_3=>rw [(bad fun h=>by omega).1,(bad fun h=>by omega).2]; exact ⟨⟨rfl,rfl,rfl,rfl,rfl⟩,rfl⟩
  case refine_4=>rw [(bad fun h=>hm (of_decide_eq_true h.1)).1,(bad fun h=>hm (of_decide_eq_true h.1)).2]; exact ⟨⟨rfl,rfl,rfl,rfl,rfl⟩,rfl⟩
  have h1:s≤a:=by omega
  have h2:d≤b:=by omega
  obtain ⟨g1,g2⟩:=good (decide_eq_true hm) h1 h2
  clear good bad hsa hdb hm
  have hu:=zZt (mode:=mode) s0 h1 d0 h2
  rw [g1,g2]
  clear g1 g2
  have sb:=zQj (x:=s) (y:=b) (A:=65535) (B:=65535) s0 s1 b0 b1
  have da:=zQj (x:=d) (y:=a) (A:=65535) (B:=65535) d0 d1 a0 a1
  have sd:=zQj (x:=s) (y:=d) (A:=65535) (B:=65535) s0 s1 d0 d1
  have ab:=zQj (x:=a) (y:=b) (A:=65535) (B:=65535) a0 a1 b0 b1
  have ba:=zQj (x:=b) (y:=a - s) (A:=65535) (B:=65535) b0 b1 (by omega) (by omega)
  have bd:=zQj (x:=b - d) (y:=a) (A:=65535) (B:=65535) (by omega) (by omega) a0 a1
  have s2:=zQj (x:=2*s) (y:=d) (A:=131070) (B:=65535) (by omega) (by omega) d0 d1
  simp only [W (s*b) sb.1 (by omega),W (d*a) da.1 (by omega),W (s*d) sd.1 (by omega),W (a*b) ab.1 (by omega),W (a - s) (by omega) (by omega),W (b - d) (by omega) (by omega),W (b*(a - s)) ba.1 (by omega),W ((b - d)*a) bd.1 (by omega),W (2*s) (by omega) (by omega),W (2*s*d) s2.1 (by omega),W (s*b+d*a) (by omega) (by omega)]
  have fin:∀ n X:Int,zQp mode s a d b=zZa n→(0≤n→n≤a*b→X=n)→(0=hiW (zQp mode s a d b).p∧X=loW (zQp mode s a d b).p∧0=(zQp mode s a d b).q∧0=(zQp mode s a d b).r∧1=(zQp mode s a d b).d):=fun n X e hX=>by
   rw [e] at hu ⊢
   have n0:0≤n:=hu.ok.p
   have n1:n≤a*b*1:=hu.p
   have n2:n≤a*b:=by omega
   rw [hX n0 n2]
   exact ⟨(jZF n0 (by omega)).symm,(jZA n0 (by omega)).symm,rfl,rfl,rfl⟩
  have fex:∀ x y:Ex,y=x→(hiW x.p=hiW y.p∧loW x.p=loW y.p∧x.q=y.q∧x.r=y.r∧x.d=y.d):=fun x y h=>by rw [h]; exact ⟨rfl,rfl,rfl,rfl,rfl⟩
  refine ⟨fun c=>?_,fun c1=>?_⟩
  ·have c:mode=1:=by simpa using c
   exact ⟨fin (s*b) _ (by rw [c]; rfl) fun _ _=>rfl,trivial⟩
  refine ⟨fun c=>?_,fun c2=>?_⟩
  ·have c:mode=2:=by simpa using c
   exact ⟨fin (s*d) _ (by rw [c]; rfl) fun _ _=>rfl,trivial⟩
  refine ⟨fun c=>?_,fun c3=>?_⟩
  ·have c:mode=3:=by simpa using c
   exact ⟨fin (s*b+d*a - s*d) _ (by rw [c]; rfl) fun q0 q1=>W _ q0 (by omega),trivial⟩
  refine ⟨fun c=>?_,fun c4=>?_⟩
  ·have c:mode=4:=by simpa using c
   exact ⟨zVT d b s a d0 h2 s0 h1 b1 a1,fin (zJB d b s a) _ (by rw [c]; rfl) fun _ _=>rfl,trivial⟩
  refine ⟨fun c=>?_,fun c5=>?_⟩
  ·have c:mode=5:=by simpa using c
   exact ⟨fin (min (s*b) (d*a)) _ (by rw [c]; rfl) fun _ _=>rfl,trivial⟩
  refine ⟨fun c=>?_,fun c6=>?_⟩
  ·have c:mode=6:=by simpa using c
   exact ⟨fin (max (s*b) (d*a)) _ (by rw [c]; rfl) fun _ _=>rfl,trivial⟩
  refine ⟨fun c=>?_,fun c7=>?_⟩
  ·have c:mode=7:=by simpa using c
   have e7:zQp mode s a d b=if d=0 then zZa 0 else if d*a≥b*(a - s) then zZa (a*b) else ⟨a*a*d,0,0,a - s⟩:=by rw [c]; rfl
   refine ⟨fun k=>?_,fun k=>⟨fun k2=>?_,fun k2=>?_⟩⟩
   ·have k:d=0:=by simpa using k
    exact ⟨fin 0 0 (by rw [e7,if_pos k]) fun _ _=>rfl,trivial⟩
   ·have k:¬ d=0:=by simpa using k
    exact ⟨fin (a*b) _ (by rw [e7,if_neg k,if_pos k2]) fun _ _=>rfl,trivial⟩
   ·have k:¬ d=0:=by simpa using k
    have aa:=zQj (x:=a) (y:=a) (A:=65535) (B:=65535) a0 a1 a0 a1
    have aad:=zQj (x:=a*a) (y:=d) (A:=4294836225) (B:=65535) aa.1 (by omega) d0 d1
    exact ⟨zZm a a d (by omega),fex ⟨a*a*d,0,0,a - s⟩ _ (by rw [e7,if_neg k,if_neg k2]),trivial⟩
  refine ⟨fun c=>?_,fun c8=>?_⟩
  ·have c:mode=8:=by simpa using c
   have e8:zQp mode s a d b=if d=b then zZa (a*b) else if (b - d)*a≥s*b then zZa 0 else ⟨a*b*s - (b - d)*a*a,0,0,s⟩:=by rw [c]; rfl
   refine ⟨fun k=>?_,fun k=>⟨fun k2=>?_,fun k2=>?_⟩⟩
   ·have k:d=b:=by simpa using k
    exact ⟨fin (a*b) _ (by rw [e8,if_pos k]) fun _ _=>rfl,trivial⟩
   ·have k:¬ d=b:=by simpa using k
    exact ⟨fin 0 0 (by rw [e8,if_neg k,if_pos k2]) fun _ _=>rfl,trivial⟩
   ·have k:¬ d=b:=by simpa using k
    have e:zQp mode s a d b=⟨a*b*s - (b - d)*a*a,0,0,s⟩:=by rw [e8,if_neg k,if_neg k2]
    have q0:=hu.ok.p
    rw [e] at q0
    simp only at q0
    have abs:=zQj (x:=a*b) (y:=s) (A:=4294836225) (B:=65535) ab.1 (by omega) s0 s1
    have bda:=zQj (x:=(b - d)*a) (y:=a) (A:=4294836225) (B:=65535) bd.1 (by omega) a0 a1
    have es:subW (a*b*s) ((b - d)*a*a)=a*b*s - (b - d)*a*a:=by unfold subW; rw [if_neg (by omega)]
    refine ⟨zZm a b s (by omega),zZm (b - d) a a (by omega),zYk _ _ _ _,?_⟩
    simp only [zYv,es]
    exact ⟨fex ⟨a*b*s - (b - d)*a*a,0,0,s⟩ _ e,trivial⟩
  refine ⟨fun c=>?_,fun c9=>?_⟩
  ·have c:mode=9:=by simpa using c
   exact ⟨zVT s a d b s0 h1 d0 h2 a1 b1,fin (zJB s a d b) _ (by rw [c]; rfl) fun _ _=>rfl,trivial⟩
  refine ⟨fun c=>?_,fun c10=>?_⟩
  ·have c:mode=10:=by simpa using c
   exact ⟨jQn s a d b s0 h1 d0 h2 a1 b1,fex _ _ (by rw [c]; rfl),trivial⟩
  refine ⟨fun c=>?_,fun c11=>?_⟩
  ·have c:mode=11:=by simpa using c
   exact ⟨fin (max (s*b) (d*a) - min (s*b) (d*a)) _ (by rw [c]; rfl) fun q0 q1=>W _ q0 (by omega),trivial⟩
  ·have n:∀ k:Int,(mode==k)=false→¬ mode=k:=fun k h=>by simpa using h
   exact ⟨fin (s*b+d*a - 2*s*d) _ (by unfold zQp; rw [if_neg (n _ c1),if_neg (n _ c2),if_neg (n _ c3),if_neg (n _ c4),if_neg (n _ c5),if_neg (n _ c6),if_neg (n _ c7),if_neg (n _ c8),if_neg (n _ c9),if_neg (n _ c10),if_neg (n _ c11)]) fun q0 q1=>W _ q0 (by omega),trivial⟩
def gZ40 (xs:List RV):Option RV:=match xs with | [.d (.int _ op),.d (.int _ a),.d (.int _ b),.d (.int _ m)]=>some (RV.d (dK (zZU op a b m))) | _=>none
def gZ41 (xs:List RV):Option RV:=match xs with | [.d (.int _ op),.d (.int _ f),.d (.int _ g),.d (.int _ m)]=>some (RV.d (dK (zXP op f g m))) | _=>none
def gZ42 (xs:List RV):Option RV:=match xs with | [.d (.int _ op),.d (.int _ mode),.d (.int _ m),.d (.int _ s),.d (.int _ a),.d (.int _ d),.d (.int _ b)]=>some (RV.tup [RV.d (dK (colS op mode m s a d b)),RV.d (dQ true)]) | _=>none
def gZ43 (xs:List RV):Option RV:=match xs with | [.d (.int _ mode),.d (.int _ m),.d (.int _ s),.d (.int _ a),.d (.int _ f),.d (.int _ c),.d (.int _ d),.d (.int _ b)]=>some (RV.tup [RV.d (dK (knoC mode m s a f c d b)),RV.d (dQ true)]) | _=>none
def gZ44 (xs:List RV):Option RV:=match xs with | [.d (.int _ m),.d (.int _ a),.d (.int _ f),.d (.int _ acc),.d (.int _ b)]=>some (RV.tup [RV.d (dK (knoA m a f acc b)),RV.d (dQ true)]) | _=>none
def gZ45 (xs:List RV):Option RV:=match xs with | [.d (.int _ m),.d (.int _ a),.d (.int _ f),.d (.int _ own)]=>some (RV.tup [RV.d (dK (knoA m a f own 0)),RV.d (dQ true)]) | _=>none
def zH0:Gam where
 pure:=fun f xs=>
  if f=82 then gZ30 xs else
  if f=111 then gZ31 xs else
  if f=110 then gZ33 xs else
  if f=124 then gZ35 xs else
  if f=112 then gZ36 xs else
  if f=75 then gZ37 xs else
  if f=117 then gZ38 xs else
  if f=109 then gZ39 xs else
  if f=98 then gZ20 xs else
  if f=99 then gZ20 xs else
  if f=114 then (match xs with | [.d (.int _ op),.d (.int _ a),.d (.int _ b),.d (.int _ m)]=>some (RV.tup [RV.d (dK (fcA op a b m)),RV.d (dK (fcB op a b m)),RV.d (dQ (fcK op a b m))]) | _=>none) else
  if f=106 then gZ40 xs else
  if f=101 then gZ41 xs else
  if f=113 then (match xs with | [.d (.int _ op),.d (.int _ mode),.d (.int _ m),.d (.int _ s),.d (.int _ a),.d (.int _ d),.d (.int _ b)]=>let c:=(vlE op mode m s a d b); some (RV.tup [RV.agg [DV.int .u64 (hiW c.p),DV.int .u64 (loW c.p),DV.int .u64 c.q,DV.int .u64 c.r,DV.int .u64 c.d],RV.d (dQ (vlK op mode m s a d b))]) | _=>none) else
  if f=103 then gZ42 xs else
  if f=102 then gZ43 xs else
  if f=104 then gZ44 xs else
  if f=105 then gZ45 xs else
  none
 modes:=fun f=>
  none
 proc:=fun f xs bs=>
  none
 iter:=fun f cs=>
  none
theorem zJI (op a b m:Int):Ans prog 114 [rJ (op),RV.d (dK a),RV.d (dK b),RV.d (dK m)] (RV.tup [RV.d (dK (fcA op a b m)),RV.d (dK (fcB op a b m)),RV.d (dQ (fcK op a b m))]):=
 zQa (Γ:=zH0) Ann.leaf zQg Tryz.func114 rfl (nL rfl) fun hwf=>by
  refine Eq.mpr (by kernel_rfl:_=(let g:=[RV.d (dK 0),RV.d (dK 0),RV.d (dQ false)]; let c:=[RV.d (dK (fcA op a b m)),RV.d (dK (fcB op a b m)),RV.d (dQ (fcK op a b m))]; let f:=(RV.tup g=RV.tup c); let d:=(dK (IntKind.wrap .u16 (m - a))); let e:=(dK (IntKind.wrap .u16 (m - b))); tU4 ((Ans prog 98 [rJ op] (RV.d (dQ (decide (1≤op∧op < 13)))))∧tU2 (((!(decide (1≤op∧op < 13)))=false→tU5 (((decide (a > m))=false→tU4 (((decide (b > m))=true→tU3 f)∧((decide (b > m))=false→tU3 (((op==2)=true→tU4 (RV.tup [RV.d (dK m),RV.d (dK 0),RV.d (dQ true)]=RV.tup c))∧((op==2)=false→tU2 (((op==3)=true→tU4 (RV.tup [RV.d (dK 0),RV.d (dK m),RV.d (dQ true)]=RV.tup c))∧((op==3)=false→tU2 (((op==4)=true→tU7 (RV.tup [RV.d (dK m),RV.d d,RV.d (dQ true)]=RV.tup c))∧((op==4)=false→tU2 (((op==5)=true→tU7 (RV.tup [RV.d e,RV.d (dK m),RV.d (dQ true)]=RV.tup c))∧((op==5)=false→tU2 (((op==6)=true→tU4 (RV.tup [RV.d (dK b),RV.d (dK 0),RV.d (dQ true)]=RV.tup c))∧((op==6)=false→tU2 (((op==7)=true→tU4 (RV.tup [RV.d (dK 0),RV.d (dK a),RV.d (dQ true)]=RV.tup c))∧((op==7)=false→tU2 (((op==8)=true→tU6 (RV.tup [RV.d e,RV.d (dK 0),RV.d (dQ true)]=RV.tup c))∧((op==8)=false→tU2 (((op==9)=true→tU6 (RV.tup [RV.d (dK 0),RV.d d,RV.d (dQ true)]=RV.tup c))∧((op==9)=false→tU2 (((op==10)=true→tU7 (RV.tup [RV.d (dK b),RV.d d,RV.d (dQ true)]=RV.tup c))∧((op==10)=false→tU2 (((op==11)=true→tU7 (RV.tup [RV.d e,RV.d (dK a),RV.d (dQ true)]=RV.tup c))∧((op==11)=false→tU2 (((op==12)=true→True∧tU8 (RV.tup [RV.d e,RV.d d,RV.d (dQ true)]=RV.tup c))∧((op==12)=false→tU3 (RV.tup [RV.d (dK 0),RV.d (dK 0),RV.d (dQ true)]=RV.tup c))))))))))))))))))))))))))∧((decide (a > m))=(!false)→tU4 f)))∧((!(decide (1≤op∧op < 13)))=(!false)→tU6 f))))) ?_
  delta dK dQ rJ
  simp only [sS]
  simp only [RV.wfs,RV.wf,DV.wf,DV.wfs] at hwf
  have mi:IntKind.min .u64=0:=rfl
  have ma:IntKind.max .u64=18446744073709551615:=rfl
  have mj:IntKind.min .u16=0:=rfl
  have mb:IntKind.max .u16=65535:=rfl
  simp only [mi,ma,mj,mb] at hwf
  have W:∀ x:Int,0≤x→x < 18446744073709551616→IntKind.wrap .u64 x=x:=fun x x0 x1=>IntWalk.u64_in x ⟨x0,by omega⟩
  have U:∀ x:Int,0≤x→x≤65535→IntKind.wrap .u16 x=x:=fun x x0 x1=>IntWalk.u16_in x ⟨x0,by omega⟩
  have fbad:¬ (isNm op=true∧a≤m∧b≤m)→fcK op a b m=false∧fcA op a b m=0∧fcB op a b m=0:=fun hn=>by
   have:fcK op a b m=false:=by
    cases e:fcK op a b m with
    | false=>rfl
    | true=>
     simp only [fcK,Bool.and_eq_true,decide_eq_true_eq] at e
     exact absurd ⟨e.1,e.2.1,e.2.2⟩ hn
   exact ⟨this,by unfold fcA; rw [this]; rfl,by unfold fcB; rw [this]; rfl⟩
  have fgood:isNm op=true→a≤m→b≤m→fcK op a b m=true∧fcA op a b m=facA op a b m∧fcB op a b m=facB op a b m:=fun h1 h2 h3=>by
   have:fcK op a b m=true:=by unfold fcK; rw [h1,decide_eq_true h2,decide_eq_true h3]; rfl
   exact ⟨this,by unfold fcA; rw [if_pos this],by unfold fcB; rw [if_pos this]⟩
  obtain ⟨_,⟨a0,a1⟩,⟨b0,b1⟩,⟨m0,m1⟩,_⟩:=hwf
  refine ⟨zQV _,fun ho=>⟨fun hx=>⟨fun hy=>?_,fun hy=>?_⟩,fun hx=>?_⟩,fun ho=>?_⟩
  case refine_1=>obtain ⟨e1,e2,e3⟩:=fbad (fun h=>by omega); rw [e1,e2,e3]; exact ⟨rfl,rfl,rfl⟩
  case refine_3=>obtain ⟨e1,e2,e3⟩:=fbad (fun h=>by omega); rw [e1,e2,e3]; exact ⟨rfl,rfl,rfl⟩
  case refine_4=>obtain ⟨e1,e2,e3⟩:=fbad (fun h=>ho (of_decide_eq_true h.1)); rw [e1,e2,e3]; exact ⟨rfl,rfl,rfl⟩
  obtain ⟨e1,e2,e3⟩:=fgood (decide_eq_true ho) (by omega) (by omega)
  rw [e1,e2,e3,U (m - a) (by omega) (by omega),U (m - b) (by omega) (by omega)]
  clear fbad fgood e1 e2 e3
  rcases zX7 ho with rfl | rfl | rfl | rfl | rfl | rfl | rfl | rfl | rfl | rfl | rfl | rfl <;> simp [facA,facB]
theorem zVh (op a b m:Int) (hf:zZj m=true) (ho:isNm op=true) (h1:a≤m) (h3:b≤m):Ans prog 106 [rJ (op),RV.d (dK a),RV.d (dK b),RV.d (dK m)] (RV.d (dK (zZU op a b m))):=
 zQa (Γ:=zH0) Ann.leaf zQg Tryz.func106 rfl (nL rfl) fun hwf=>by
  refine Eq.mpr (by kernel_rfl:_=(let c:=(IntKind.wrap .u64 m); let d:=(IntKind.wrap .u64 ((IntKind.wrap .u64 ((IntKind.wrap .u64 (fcA op a b m))*(IntKind.wrap .u64 a)))+(IntKind.wrap .u64 ((IntKind.wrap .u64 (fcB op a b m))*(IntKind.wrap .u64 b))))); tU5 ((Ans prog 114 [rJ op,RV.d (dK a),RV.d (dK b),RV.d (dK m)] (RV.tup [RV.d (dK (fcA op a b m)),RV.d (dK (fcB op a b m)),RV.d (dQ (fcK op a b m))]))∧tU4 (tU8 (tU8 ((Ans prog 82 [RV.d (DV.int .u64 d),RV.d (DV.int .u64 c)] (RV.d (DV.int .u64 (zQO d c))))∧tU2 (RV.d (dK (IntKind.wrap .u16 (zQO d c)))=RV.d (dK (zZU op a b m))))))))) ?_
  delta dK dQ rJ
  simp only [sS]
  simp only [RV.wfs,RV.wf,DV.wf,DV.wfs] at hwf
  have mi:IntKind.min .u64=0:=rfl
  have ma:IntKind.max .u64=18446744073709551615:=rfl
  have mj:IntKind.min .u16=0:=rfl
  have mb:IntKind.max .u16=65535:=rfl
  simp only [mi,ma,mj,mb] at hwf
  have W:∀ x:Int,0≤x→x < 18446744073709551616→IntKind.wrap .u64 x=x:=fun x x0 x1=>IntWalk.u64_in x ⟨x0,by omega⟩
  have U:∀ x:Int,0≤x→x≤65535→IntKind.wrap .u16 x=x:=fun x x0 x1=>IntWalk.u16_in x ⟨x0,by omega⟩
  have fbad:¬ (isNm op=true∧a≤m∧b≤m)→fcK op a b m=false∧fcA op a b m=0∧fcB op a b m=0:=fun hn=>by
   have:fcK op a b m=false:=by
    cases e:fcK op a b m with
    | false=>rfl
    | true=>
     simp only [fcK,Bool.and_eq_true,decide_eq_true_eq] at e
     exact absurd ⟨e.1,e.2.1,e.2.2⟩ hn
   exact ⟨this,by unfold fcA; rw [this]; rfl,by unfold fcB; rw [this]; rfl⟩
  have fgood:isNm op=true→a≤m→b≤m→fcK op a b m=true∧fcA op a b m=facA op a b m∧fcB op a b m=facB op a b m:=fun h1 h2 h3=>by
   have:fcK op a b m=true:=by unfold fcK; rw [h1,decide_eq_true h2,decide_eq_true h3]; rfl
   exact ⟨this,by unfold fcA; rw [if_pos this],by unfold fcB; rw [if_pos this]⟩
  obtain ⟨_,⟨a0,a1⟩,⟨b0,b1⟩,⟨m0,m1⟩,_⟩:=hwf
  have hm:=(zZd hf).1
  obtain ⟨e1,e2,e3⟩:=fgood ho h1 h3
  have ⟨⟨f0,f1⟩,f2,f3⟩:=jQd (op:=op) a0 h1 b0 h3
  have fa:=zJI op a b m
  rw [e1,e2,e3] at fa
  rw [e1,e2,e3]
  have q1:=zQj f0 (show facA op a b m≤65535 by omega) a0 a1
  have q2:=zQj f2 (show facB op a b m≤65535 by omega) b0 b1
  rw [W (facA op a b m) (by omega) (by omega),W (facB op a b m) (by omega) (by omega),W a (by omega) (by omega),W b (by omega) (by omega),W m (by omega) (by omega),W (facA op a b m*a) q1.1 (by omega),W (facB op a b m*b) q2.1 (by omega),W (facA op a b m*a+facB op a b m*b) (by omega) (by omega)]
  have al:=zUl (op:=op) hm a0 h1 b0 h3
  have aS:=zXi (op:=op) (a:=a) (f:=m) (b:=b) (g:=m) hm a0 h1 (Int.le_refl _) b0 h3 (Int.le_refl _)
  exact ⟨fa,zQW _ _,U _ al (by unfold zZU at *; omega)⟩
theorem zHj (op f g m:Int) (hf:zZj m=true) (ho:isNm op=true) (h1:f≤m) (h3:g≤m):Ans prog 101 [rJ (op),RV.d (dK f),RV.d (dK g),RV.d (dK m)] (RV.d (dK (zXP op f g m))):=
 zQa (Γ:=zH0) Ann.leaf zQg Tryz.func101 rfl (nL rfl) fun hwf=>by
  refine Eq.mpr (by kernel_rfl:_=(let c:=(IntKind.wrap .u64 f); let b:=(IntKind.wrap .u64 m); let a:=(dK (zXP op f g m)); let d:=(RV.d (dK f)=RV.d a); let e:=(RV.d (dK g)=RV.d a); let h:=(IntKind.wrap .u64 ((IntKind.wrap .u64 (b*c))+(IntKind.wrap .u64 ((IntKind.wrap .u64 (b - c))*(IntKind.wrap .u64 g))))); let o:=(DV.int .u64 b); let q:=(Ans prog 82 [RV.d (DV.int .u64 h),RV.d o] (RV.d (DV.int .u64 (zQO h b)))); let r:=(dK (IntKind.wrap .u16 (zQO h b))); let i:=(tU8 (q∧tU2 (RV.d r=RV.d a))); let j:=(IntKind.wrap .u64 (c*(IntKind.wrap .u64 g))); let s:=(Ans prog 82 [RV.d (DV.int .u64 j),RV.d o] (RV.d (DV.int .u64 (zQO j b)))); let t:=(dK (IntKind.wrap .u16 (zQO j b))); let p:=(s∧tU2 (RV.d t=RV.d a)); let k:=(((op==6)=true→(((op==6)=true→tU4 p)∧((op==6)=false→True∧RV.d (dK 0)=RV.d a)))∧((op==6)=false→tU2 (((op==7)=true→tU4 p)∧((op==7)=false→True∧RV.d (dK 0)=RV.d a)))); let l:=(((op==4)=true→(((op==4)=true→tU2 i)∧((op==4)=false→tU2 k)))∧((op==4)=false→tU2 (((op==5)=true→(((op==5)=true→tU2 i)∧((op==5)=false→tU2 k)))∧((op==5)=false→tU2 (((op==12)=true→tU2 i)∧((op==12)=false→tU2 k)))))); let n:=(((op==3)=true→(((op==3)=true→tU2 e)∧((op==3)=false→tU2 l)))∧((op==3)=false→tU2 (((op==9)=true→(((op==9)=true→tU2 e)∧((op==9)=false→tU2 l)))∧((op==9)=false→tU2 (((op==10)=true→tU2 e)∧((op==10)=false→tU2 l)))))); tU2 ((Ans prog 98 [rJ op] (RV.d (dQ (decide (1≤op∧op < 13)))))∧tU2 (((!(decide (1≤op∧op < 13)))=false→tU5 (((decide (f > m))=false→tU4 (((decide (g > m))=true→True∧RV.d (dK 0)=RV.d a)∧((decide (g > m))=false→tU4 (tU8 (((op==2)=true→(((op==2)=true→tU2 d)∧((op==2)=false→tU2 n)))∧((op==2)=false→tU2 (((op==8)=true→(((op==8)=true→tU2 d)∧((op==8)=false→tU2 n)))∧((op==8)=false→tU2 (((op==11)=true→tU2 d)∧((op==11)=false→tU2 n))))))))))∧((decide (f > m))=(!false)→tU2 (RV.d (dK 0)=RV.d a))))∧((!(decide (1≤op∧op < 13)))=(!false)→tU4 (RV.d (dK 0)=RV.d a)))))) ?_
  delta dK dQ rJ
  simp only [sS]
  simp only [RV.wfs,RV.wf,DV.wf,DV.wfs] at hwf
  have mi:IntKind.min .u64=0:=rfl
  have ma:IntKind.max .u64=18446744073709551615:=rfl
  have mj:IntKind.min .u16=0:=rfl
  have mb:IntKind.max .u16=65535:=rfl
  simp only [mi,ma,mj,mb] at hwf
  have W:∀ x:Int,0≤x→x < 18446744073709551616→IntKind.wrap .u64 x=x:=fun x x0 x1=>IntWalk.u64_in x ⟨x0,by omega⟩
  have U:∀ x:Int,0≤x→x≤65535→IntKind.wrap .u16 x=x:=fun x x0 x1=>IntWalk.u16_in x ⟨x0,by omega⟩
  obtain ⟨_,⟨f0,f1⟩,⟨g0,g1⟩,⟨m0,m1⟩,_⟩:=hwf
  have hm:=(zZd hf).1
  have ho':=of_decide_eq_true ho
  have sh:=zXi (op:=op) (a:=0) (f:=f) (b:=0) (g:=g) hm (Int.le_refl _) f0 h1 (Int.le_refl _) g0 h3
  have s0:=zUl (op:=op) (a:=0) (b:=0) hm (Int.le_refl _) (by omega) (Int.le_refl _) (by omega)
  have s1:0≤zXP op f g m∧zXP op f g m≤65535:=by omega
  clear sh s0
  have q1:=zQj m0 m1 f0 f1
  have q2:=zQj (x:=m - f) (y:=g) (A:=65535) (B:=65535) (by omega) (by omega) g0 g1
  have q3:=zQj f0 f1 g0 g1
  rw [W f (by omega) (by omega),W g (by omega) (by omega),W m (by omega) (by omega),W (m*f) q1.1 (by omega),W (m - f) (by omega) (by omega),W ((m - f)*g) q2.1 (by omega),W (m*f+(m - f)*g) (by omega) (by omega),W (f*g) q3.1 (by omega)]
  have hi:=zQV op
  have ha:=zQW (m*f+(m - f)*g) m
  have hb:=zQW (f*g) m
  have e1:∀ p,(op=4∨op=5∨op=12)→p=zXP op f g m→IntKind.wrap .u16 p=zXP op f g m:=fun p _ h=>by rw [h]; exact U _ s1.1 s1.2
  have n1:¬ f > m:=by omega
  have n2:¬ g > m:=by omega
  generalize hx:zQO (m*f+(m - f)*g) m=X at *
  generalize hy:zQO (f*g) m=Y at *
  refine ⟨hi,fun _=>⟨fun _=>⟨fun h=>absurd h n2,fun _=>?_⟩,fun h=>absurd h n1⟩,fun h=>absurd ho' h⟩
  clear hi ho hf
  rcases zX7 ho' with rfl | rfl | rfl | rfl | rfl | rfl | rfl | rfl | rfl | rfl | rfl | rfl <;> simp [zXP,hx,hy] at s1 ⊢ <;> (first | exact ⟨ha,U _ s1.1 s1.2⟩ | exact ⟨hb,U _ s1.1 s1.2⟩ | skip)
theorem zHi (op mode m s a d b:Int):Ans prog 113 [rJ (op),rJ (mode),RV.d (dK m),RV.d (dK s),RV.d (dK a),RV.d (dK d),RV.d (dK b)] (RV.tup [RV.agg [DV.int .u64 (hiW (vlE op mode m s a d b).p),DV.int .u64 (loW (vlE op mode m s a d b).p),DV.int .u64 ((vlE op mode m s a d b).q),DV.int .u64 ((vlE op mode m s a d b).r),DV.int .u64 ((vlE op mode m s a d b).d)],RV.d (dQ (vlK op mode m s a d b))]):=
 zQa (Γ:=zH0) Ann.leaf zQg Tryz.func113 rfl (nL rfl) fun hwf=>by
  refine Eq.mpr (by kernel_rfl:_=(let g:=(IntKind.wrap .u64 m); let h:=(vlE op mode m s a d b); let c:=(blE mode s a d b); let n:=(loW c.p); let o:=(hiW c.p); let C:=[RV.agg [DV.int .u64 (0:Int),DV.int .u64 (0:Int),DV.int .u64 (0:Int),DV.int .u64 (0:Int),DV.int .u64 (0:Int)],RV.d (dQ false)]; let q:=[RV.agg [DV.int .u64 (hiW h.p),DV.int .u64 (loW h.p),DV.int .u64 h.q,DV.int .u64 h.r,DV.int .u64 h.d],RV.d (dQ (vlK op mode m s a d b))]; let p:=(RV.tup C=RV.tup q); let i:=(IntKind.wrap .u64 (fcA op a b m)); let j:=(wV o n*i); let r:=(wV (hiW j) (loW j)); let t:=(DV.int .u64 i); let u:=[DV.int .u64 (hiW j),DV.int .u64 (loW j)]; let v:=(IntKind.wrap .u64 ((IntKind.wrap .u64 (g - (IntKind.wrap .u64 b)))*(IntKind.wrap .u64 s))); let w:=(DV.int .u64 c.d); let e:=(v*i*c.d); let k:=(addW r (wV (hiW e) (loW e))); let x:=(wV (hiW k) (loW k)); let y:=[DV.int .u64 (hiW e),DV.int .u64 (loW e)]; let z:=(IntKind.wrap .u64 ((IntKind.wrap .u64 (fcB op a b m))*(IntKind.wrap .u64 d))); let f:=(z*g*c.d); let l:=(addW x (wV (hiW f) (loW f))); let A:=[DV.int .u64 (hiW f),DV.int .u64 (loW f)]; let B:=[DV.int .u64 (hiW k),DV.int .u64 (loW k)]; tU7 ((Ans prog 109 [rJ mode,RV.d (dK s),RV.d (dK a),RV.d (dK d),RV.d (dK b)] (RV.tup [RV.agg [DV.int .u64 o,DV.int .u64 n,DV.int .u64 c.q,DV.int .u64 c.r,DV.int .u64 c.d],RV.d (dQ (blK mode s a d b))]))∧tU2 (tU8 ((Ans prog 114 [rJ op,RV.d (dK a),RV.d (dK b),RV.d (dK m)] (RV.tup [RV.d (dK (fcA op a b m)),RV.d (dK (fcB op a b m)),RV.d (dQ (fcK op a b m))]))∧tU2 (tU8 (((!(blK mode s a d b))=false→tU4 (((!(fcK op a b m))=false→True∧(Ans prog 75 [RV.d (dK m)] (RV.d (dQ (zZj m))))∧tU2 (((!(zZj m))=true→tU3 p)∧((!(zZj m))=false→True∧tU8 ((Ans prog 124 [RV.agg [DV.int .u64 o,DV.int .u64 n],RV.d t] (RV.tup [RV.agg u,RV.d (dQ true)]))∧tU8 (tU8 ((Ans prog 117 [RV.d (DV.int .u64 v),RV.d t,RV.d w] (RV.agg y))∧tU2 (tU8 ((Ans prog 117 [RV.d (DV.int .u64 z),RV.d (DV.int .u64 g),RV.d w] (RV.agg A))∧tU4 ((Ans prog 110 [RV.agg u,RV.agg y] (RV.tup [RV.agg B,RV.d (dQ (addK r (wV (hiW e) (loW e))))]))∧tU6 ((Ans prog 110 [RV.agg B,RV.agg A] (RV.tup [RV.agg [DV.int .u64 (hiW l),DV.int .u64 (loW l)],RV.d (dQ (addK x (wV (hiW f) (loW f))))]))∧tU4 (tU8 (tU8 (RV.tup [RV.agg [DV.int .u64 (hiW l),DV.int .u64 (loW l),DV.int .u64 (IntKind.wrap .u64 (i*c.q)),DV.int .u64 c.r,DV.int .u64 (IntKind.wrap .u64 ((IntKind.wrap .u64 (g*g))*c.d))],RV.d (dQ true)]=RV.tup q)))))))))))))∧((!(fcK op a b m))=(!false)→tU4 p)))∧((!(blK mode s a d b))=(!false)→tU6 p)))))))) ?_
  delta dK dQ rJ
  simp only [sS]
  simp only [RV.wfs,RV.wf,DV.wf,DV.wfs] at hwf
  have mi:IntKind.min .u64=0:=rfl
  have ma:IntKind.max .u64=18446744073709551615:=rfl
  have mj:IntKind.min .u16=0:=rfl
  have mb:IntKind.max .u16=65535:=rfl
  simp only [mi,ma,mj,mb] at hwf
  have W:∀ x:Int,0≤x→x < 18446744073709551616→IntKind.wrap .u64 x=x:=fun x x0 x1=>IntWalk.u64_in x ⟨x0,by omega⟩
  have U:∀ x:Int,0≤x→x≤65535→IntKind.wrap .u16 x=x:=fun x x0 x1=>IntWalk.u16_in x ⟨x0,by omega⟩
  have fbad:¬ (isNm op=true∧a≤m∧b≤m)→fcK op a b m=false∧fcA op a b m=0∧fcB op a b m=0:=fun hn=>by
   have:fcK op a b m=false:=by
    cases e:fcK op a b m with
    | false=>rfl
    | true=>
     simp only [fcK,Bool.and_eq_true,decide_eq_true_eq] at e
     exact absurd ⟨e.1,e.2.1,e.2.2⟩ hn
   exact ⟨this,by unfold fcA; rw [this]; rfl,by unfold fcB; rw [this]; rfl⟩
  have fgood:isNm op=true→a≤m→b≤m→fcK op a b m=true∧fcA op a b m=facA op a b m∧fcB op a b m=facB op a b m:=fun h1 h2 h3=>by
   have:fcK op a b m=true:=by unfold fcK; rw [h1,decide_eq_true h2,decide_eq_true h3]; rfl
   exact ⟨this,by unfold fcA; rw [if_pos this],by unfold fcB; rw [if_pos this]⟩
  obtain ⟨_,_,⟨m0,m1⟩,⟨s0,s1⟩,⟨a0,a1⟩,⟨d0,d1⟩,⟨b0,b1⟩,_⟩:=hwf
  refine ⟨zVg _ _ _ _ _,zJI _ _ _ _,?_⟩
  have no:vlK op mode m s a d b=false→vlE op mode m s a d b=.zero:=fun h=>by unfold vlE; rw [h]; rfl
  have k0:vlK op mode m s a d b=(blK mode s a d b && (fcK op a b m && zZj m)):=rfl
  cases kb:blK mode s a d b with
  | false=>
   rw [kb,Bool.false_and] at k0
   rw [k0,no k0]
   exact ⟨fun h=>(by cases h),fun _=>⟨⟨rfl,rfl,rfl,rfl,rfl⟩,rfl⟩⟩
  | true=>
   cases kf:fcK op a b m with
   | false=>
    rw [kb,kf,Bool.false_and,Bool.and_false] at k0
    rw [k0,no k0]
    exact ⟨fun _=>⟨fun h=>(by cases h),fun _=>⟨⟨rfl,rfl,rfl,rfl,rfl⟩,rfl⟩⟩,fun h=>by cases h⟩
   | true=>
    cases km:zZj m with
    | false=>
     have fm:=zQX m
     rw [km] at fm
     rw [kb,kf,km] at k0
     have k0:vlK op mode m s a d b=false:=k0
     rw [k0,no k0]
     exact ⟨fun _=>⟨fun _=>⟨fm,fun _=>⟨⟨rfl,rfl,rfl,rfl,rfl⟩,rfl⟩,fun h=>by cases h⟩,fun h=>by cases h⟩,fun h=>by cases h⟩
    | true=>
     have fm:=zQX m
     rw [km] at fm
     rw [kb,kf,km] at k0
     have k0:vlK op mode m s a d b=true:=k0
     have ve:vlE op mode m s a d b=valS op mode m s a d b:=by unfold vlE; rw [if_pos k0]
     simp only [blK,Bool.and_eq_true,decide_eq_true_eq] at kb
     simp only [fcK,Bool.and_eq_true,decide_eq_true_eq] at kf
     obtain ⟨kb1,kb2,kb3⟩:=kb
     obtain ⟨kf1,kf2,kf3⟩:=kf
     have be:blE mode s a d b=zQp mode s a d b:=by unfold blE; rw [if_pos (by unfold blK; rw [kb1,decide_eq_true kb2,decide_eq_true kb3]; rfl)]
     obtain ⟨e1,e2,e3⟩:=fgood kf1 kf2 kf3
     obtain ⟨ok,t1,t2,t3,t4⟩:=zKy (mode:=mode) s0 kb2 d0 kb3 a1 b1
     have ⟨⟨f0,f1⟩,f2,f3⟩:=jQd (op:=op) a0 kf2 b0 kf3
     have tp:=ok.p
     have tq:=ok.q
     have td:=ok.d
     rw [k0,ve,be,e2,e3]
     have vS:valS op mode m s a d b=⟨(zQp mode s a d b).p*facA op a b m+(m - b)*s*facA op a b m*(zQp mode s a d b).d+facB op a b m*d*m*(zQp mode s a d b).d,facA op a b m*(zQp mode s a d b).q,(zQp mode s a d b).r,m*m*(zQp mode s a d b).d⟩:=rfl
     rw [vS]
     clear vS ve be e1 e2 e3 fbad fgood k0 no
     generalize facA op a b m=A at *
     generalize facB op a b m=F at *
     generalize (zQp mode s a d b).p=p at *
     generalize (zQp mode s a d b).q=q at *
     generalize (zQp mode s a d b).r=r at *
     generalize (zQp mode s a d b).d=e at *
     simp only at *
     have q1:=zQj (x:=m - b) (y:=s) (A:=65535) (B:=65535) (by omega) (by omega) s0 s1
     have q2:=zQj (x:=F) (y:=d) (A:=65535) (B:=65535) f2 (by omega) d0 d1
     have q3:=zQj (x:=p) (y:=A) (A:=4294836225*4294836225) (B:=65535) tp t2 f0 (by omega)
     have q4:=zQj (x:=(m - b)*s) (y:=A) (A:=4294836225) (B:=65535) q1.1 (by omega) f0 (by omega)
     have q5:=zQj (x:=(m - b)*s*A) (y:=e) (A:=281462092005375) (B:=4294836225) q4.1 (by omega) (by omega) t1
     have q6:=zQj (x:=F*d) (y:=m) (A:=4294836225) (B:=65535) q2.1 (by omega) m0 m1
     have q7:=zQj (x:=F*d*m) (y:=e) (A:=281462092005375) (B:=4294836225) q6.1 (by omega) (by omega) t1
     have q8:=zQj (x:=A) (y:=q) (A:=65535) (B:=65535) f0 (by omega) tq t3
     have q9:=zQj (x:=m) (y:=m) (A:=65535) (B:=65535) m0 m1 m0 m1
     have q10:=zQj (x:=m*m) (y:=e) (A:=4294836225) (B:=4294836225) q9.1 (by omega) (by omega) t1
     simp only [W m m0 (by omega),W b b0 (by omega),W s s0 (by omega),W d d0 (by omega),W A f0 (by omega),W F f2 (by omega),W (m - b) (by omega) (by omega),W ((m - b)*s) q1.1 (by omega),W (F*d) q2.1 (by omega),W (A*q) q8.1 (by omega),W (m*m) q9.1 (by omega),W (m*m*e) q10.1 (by omega)]
     have ad:∀ x y:Int,x+y < 340282366920938463463374607431768211456→addW x y=x+y:=fun x y h=>by unfold addW; rw [if_pos h]
     refine ⟨fun _=>⟨fun _=>⟨fm,fun h=>(by cases h),fun _=>⟨zXX _ _ _ (by rw [zYv]; omega),zZm _ _ _ (by omega),zZm _ _ _ (by omega),zXd _ _ _ _,zXd _ _ _ _,?_⟩⟩,fun h=>(by cases h)⟩,fun h=>by cases h⟩
     simp only [zYv]
     rw [ad (p*A) ((m - b)*s*A*e) (by omega),ad (p*A+(m - b)*s*A*e) (F*d*m*e) (by omega)]
     (repeat' (first | exact trivial | rfl | apply And.intro))
theorem zJe (op mode m s a d b:Int) (hf:zZj m=true) (ho:isNm op=true) (hm:isNm mode=true) (h1:s≤a) (h2:a≤m) (h3:d≤b) (h4:b≤m):Ans prog 103 [rJ (op),rJ (mode),RV.d (dK m),RV.d (dK s),RV.d (dK a),RV.d (dK d),RV.d (dK b)] (RV.tup [RV.d (dK (colS op mode m s a d b)),RV.d (dQ true)]):=
 zQa (Γ:=zH0) Ann.leaf zQg Tryz.func103 rfl (nL rfl) fun hwf=>by
  refine Eq.mpr (by kernel_rfl:_=(let c:=(vlE op mode m s a d b); let e:=(loW c.p); let f:=(hiW c.p); let g:=[DV.int .u64 f,DV.int .u64 e,DV.int .u64 c.q,DV.int .u64 c.r,DV.int .u64 c.d]; let h:=[RV.d (dK (colS op mode m s a d b)),RV.d (dQ true)]; True∧tU8 ((Ans prog 113 [rJ op,rJ mode,RV.d (dK m),RV.d (dK s),RV.d (dK a),RV.d (dK d),RV.d (dK b)] (RV.tup [RV.agg g,RV.d (dQ (vlK op mode m s a d b))]))∧tU8 (((!(vlK op mode m s a d b))=true→tU2 (RV.tup [RV.d (dK 0),RV.d (dQ false)]=RV.tup h))∧((!(vlK op mode m s a d b))=false→True∧(Ans prog 112 [RV.agg g] (RV.tup [RV.d (DV.int .u64 (⟨wV f e,c.q,c.r,c.d⟩:Ex).half),RV.d (dQ true)]))∧True∧tU8 (RV.tup [RV.d (dK (IntKind.wrap .u16 (⟨wV f e,c.q,c.r,c.d⟩:Ex).half)),RV.d (dQ true)]=RV.tup h)))))) ?_
  delta dK dQ rJ
  simp only [sS]
  simp only [RV.wfs,RV.wf,DV.wf,DV.wfs] at hwf
  have mi:IntKind.min .u64=0:=rfl
  have ma:IntKind.max .u64=18446744073709551615:=rfl
  have mj:IntKind.min .u16=0:=rfl
  have mb:IntKind.max .u16=65535:=rfl
  simp only [mi,ma,mj,mb] at hwf
  have W:∀ x:Int,0≤x→x < 18446744073709551616→IntKind.wrap .u64 x=x:=fun x x0 x1=>IntWalk.u64_in x ⟨x0,by omega⟩
  have U:∀ x:Int,0≤x→x≤65535→IntKind.wrap .u16 x=x:=fun x x0 x1=>IntWalk.u16_in x ⟨x0,by omega⟩
  obtain ⟨_,_,⟨m0,m1⟩,⟨s0,s1⟩,⟨a0,a1⟩,⟨d0,d1⟩,⟨b0,b1⟩,_⟩:=hwf
  have hM:=(zZd hf).1
  have kb:blK mode s a d b=true:=by unfold blK; rw [hm,decide_eq_true h1,decide_eq_true h3]; rfl
  have kf:fcK op a b m=true:=by unfold fcK; rw [ho,decide_eq_true h2,decide_eq_true h4]; rfl
  have k:vlK op mode m s a d b=true:=by unfold vlK; rw [kb,kf,hf]; rfl
  have ve:vlE op mode m s a d b=valS op mode m s a d b:=by unfold vlE; rw [if_pos k]
  have va:=zHi op mode m s a d b
  rw [k,ve] at va
  rw [k,ve]
  obtain ⟨ok,l1,l2⟩:=zHo (op:=op) (mode:=mode) hM s0 h1 h2 d0 h3 h4
  obtain ⟨bk,t1,t2,t3,t4⟩:=zKy (mode:=mode) s0 h1 d0 h3 a1 b1
  have ⟨⟨f0,f1⟩,f2,f3⟩:=jQd (op:=op) a0 h2 b0 h4
  have ⟨c0,c1⟩:=zG7 (op:=op) (mode:=mode) hM s0 h1 h2 d0 h3 h4
  have aS:=zXi (op:=op) (a:=a) (f:=m) (b:=b) (g:=m) hM a0 h2 (Int.le_refl _) b0 h4 (Int.le_refl _)
  have hq:(valS op mode m s a d b).q=facA op a b m*(zQp mode s a d b).q:=rfl
  have hr:(valS op mode m s a d b).r=(zQp mode s a d b).r:=rfl
  have hh:(valS op mode m s a d b).half=colS op mode m s a d b:=rfl
  have hfl:=Ex.half_floor ok
  have n1:=zQj f0 (show facA op a b m≤65535 by omega) bk.q t3
  have g1:=zQj f0 (show facA op a b m≤65535 by omega) a0 a1
  have g2:=zQj f2 (show facB op a b m≤65535 by omega) b0 b1
  have g3:=zQj (x:=(zQp mode s a d b).d) (y:=m) (A:=4294836225) (B:=65535) (by have:=bk.d; omega) t1 m0 m1
  have g4:=zQj (x:=(zQp mode s a d b).d*m) (y:=facA op a b m*a+facB op a b m*b) (A:=281462092005375) (B:=8589672450) g3.1 (by omega) (by omega) (by omega)
  have eta:(⟨wV (hiW (valS op mode m s a d b).p) (loW (valS op mode m s a d b).p),(valS op mode m s a d b).q,(valS op mode m s a d b).r,(valS op mode m s a d b).d⟩:Ex)=valS op mode m s a d b:=by rw [zYv]
  have ha:=zYT (hiW (valS op mode m s a d b).p) (loW (valS op mode m s a d b).p) (valS op mode m s a d b).q (valS op mode m s a d b).r (valS op mode m s a d b).d (by unfold hiW; omega) (by rw [hq]; omega) (by rw [hr]; omega) (by have:=ok.d; omega) (by rw [eta]; rw [hh] at hfl; split at hfl <;> omega)
  refine ⟨va,fun h=>(by cases h),fun _=>⟨ha,?_⟩⟩
  rw [eta,hh]
  exact U _ c0 (by omega)
theorem zXs (mode m s a f c d b:Int) (hf:zZj m=true) (hm:isNm mode=true) (h1:s≤a) (h2:a≤f) (h3:f≤m) (h4:d≤b) (h5:b≤m) (h6:c≤m):Ans prog 102 [rJ (mode),RV.d (dK m),RV.d (dK s),RV.d (dK a),RV.d (dK f),RV.d (dK c),RV.d (dK d),RV.d (dK b)] (RV.tup [RV.d (dK (knoC mode m s a f c d b)),RV.d (dQ true)]):=
 zQa (Γ:=zH0) Ann.leaf zQg Tryz.func102 rfl (nL rfl) fun hwf=>by
  refine Eq.mpr (by kernel_rfl:_=(let p:=(!(decide (1≤mode∧mode < 13))); let n:=(IntKind.wrap .u64 m); let e:=(blE mode s a d b); let i:=(loW e.p); let j:=(hiW e.p); let v:=[RV.d (dK 0),RV.d (dQ false)]; let q:=[RV.d (dK (knoC mode m s a f c d b)),RV.d (dQ true)]; let g:=(RV.tup v=RV.tup q); let r:=(IntKind.wrap .u64 ((IntKind.wrap .u64 ((IntKind.wrap .u64 ((IntKind.wrap .u64 (n - (IntKind.wrap .u64 f)))*(IntKind.wrap .u64 c)))+(IntKind.wrap .u64 ((IntKind.wrap .u64 ((IntKind.wrap .u64 f) - (IntKind.wrap .u64 a)))*(IntKind.wrap .u64 d)))))+(IntKind.wrap .u64 ((IntKind.wrap .u64 (n - (IntKind.wrap .u64 b)))*(IntKind.wrap .u64 s))))); let h:=(r*e.d); let t:=(addW (wV j i) (wV (hiW h) (loW h))); let k:=(loW t); let l:=(hiW t); let u:=[DV.int .u64 (hiW h),DV.int .u64 (loW h)]; let o:=(IntKind.wrap .u64 (n*e.d)); tU3 ((Ans prog 99 [rJ mode] (RV.d (dQ (decide (1≤mode∧mode < 13)))))∧tU2 ((p=false→True∧(Ans prog 75 [RV.d (dK m)] (RV.d (dQ (zZj m))))∧tU3 (((!(zZj m))=false→tU5 (((decide (s > a))=false→tU5 (((decide (a > f))=false→tU5 (((decide (f > m))=false→tU5 (((decide (d > b))=false→tU5 (((decide (b > m))=false→tU4 (((decide (c > m))=true→tU2 g)∧((decide (c > m))=false→tU5 ((Ans prog 109 [rJ mode,RV.d (dK s),RV.d (dK a),RV.d (dK d),RV.d (dK b)] (RV.tup [RV.agg [DV.int .u64 j,DV.int .u64 i,DV.int .u64 e.q,DV.int .u64 e.r,DV.int .u64 e.d],RV.d (dQ (blK mode s a d b))]))∧tU8 (tU8 (tU8 (tU8 (tU8 ((Ans prog 111 [RV.d (DV.int .u64 r),RV.d (DV.int .u64 e.d)] (RV.agg u))∧(Ans prog 110 [RV.agg [DV.int .u64 j,DV.int .u64 i],RV.agg u] (RV.tup [RV.agg [DV.int .u64 l,DV.int .u64 k],RV.d (dQ (addK (wV j i) (wV (hiW h) (loW h))))]))∧tU6 ((true=true)∧tU2 (tU8 ((Ans prog 112 [RV.agg [DV.int .u64 l,DV.int .u64 k,DV.int .u64 e.q,DV.int .u64 e.r,DV.int .u64 o]] (RV.tup [RV.d (DV.int .u64 (⟨wV l k,e.q,e.r,o⟩:Ex).half),RV.d (dQ true)]))∧True∧tU8 (RV.tup [RV.d (dK (IntKind.wrap .u16 (⟨wV l k,e.q,e.r,o⟩:Ex).half)),RV.d (dQ true)]=RV.tup q)))))))))))))∧((decide (b > m))=(!false)→tU3 g)))∧((decide (d > b))=(!false)→tU5 g)))∧((decide (f > m))=(!false)→tU7 g)))∧((decide (a > f))=(!false)→True∧tU8 g)))∧((decide (s > a))=(!false)→tU3 (tU8 g))))∧((!(zZj m))=(!false)→tU5 (tU8 g))))∧(p=(!false)→tU7 (tU8 g)))))) ?_
  delta dK dQ rJ
  simp only [sS]
  simp only [RV.wfs,RV.wf,DV.wf,DV.wfs] at hwf
  have mi:IntKind.min .u64=0:=rfl
  have ma:IntKind.max .u64=18446744073709551615:=rfl
  have mj:IntKind.min .u16=0:=rfl
  have mb:IntKind.max .u16=65535:=rfl
  simp only [mi,ma,mj,mb] at hwf
  have W:∀ x:Int,0≤x→x < 18446744073709551616→IntKind.wrap .u64 x=x:=fun x x0 x1=>IntWalk.u64_in x ⟨x0,by omega⟩
  have U:∀ x:Int,0≤x→x≤65535→IntKind.wrap .u16 x=x:=fun x x0 x1=>IntWalk.u16_in x ⟨x0,by omega⟩
  obtain ⟨_,⟨m0,m1⟩,⟨s0,s1⟩,⟨a0,a1⟩,⟨f0,f1⟩,⟨c0,c1⟩,⟨d0,d1⟩,⟨b0,b1⟩,_⟩:=hwf
  have hM:=(zZd hf).1
  have kb:blK mode s a d b=true:=by unfold blK; rw [hm,decide_eq_true h1,decide_eq_true h4]; rfl
  have be:blE mode s a d b=zQp mode s a d b:=by unfold blE; rw [if_pos kb]
  have bl:=zVg mode s a d b
  rw [kb,be] at bl
  rw [kb,be]
  have fm:=zQX m
  rw [hf] at fm
  rw [hf]
  have im:=zQI mode
  obtain ⟨ok,l1,l2⟩:=zHP (mode:=mode) hM s0 h1 h2 h3 d0 h4 h5 c0 h6
  obtain ⟨bk,t1,t2,t3,t4⟩:=zKy (mode:=mode) s0 h1 d0 h4 a1 b1
  have ⟨k0,k1⟩:=zWX (mode:=mode) hM s0 h1 h2 h3 d0 h4 h5 c0 h6
  have ka:=zGV (acc:=m) (b:=b) hM a0 h2 h3 m0 (Int.le_refl _) b0 h5
  have hh:(knoX mode m s a f c d b).half=knoC mode m s a f c d b:=rfl
  have hfl:=Ex.half_floor ok
  rw [hh] at hfl
  have td:=bk.d
  have tp:=bk.p
  have q1:=zQj (x:=m - f) (y:=c) (A:=65535) (B:=65535) (by omega) (by omega) c0 c1
  have q2:=zQj (x:=f - a) (y:=d) (A:=65535) (B:=65535) (by omega) (by omega) d0 d1
  have q3:=zQj (x:=m - b) (y:=s) (A:=65535) (B:=65535) (by omega) (by omega) s0 s1
  have q4:=zQj (x:=(m - f)*c+(f - a)*d+(m - b)*s) (y:=(zQp mode s a d b).d) (A:=12884508675) (B:=4294836225) (by omega) (by omega) (by omega) t1
  have q5:=zQj (x:=m) (y:=(zQp mode s a d b).d) (A:=65535) (B:=4294836225) m0 m1 (by omega) t1
  simp only [W m m0 (by omega),W f f0 (by omega),W c c0 (by omega),W a a0 (by omega),W d d0 (by omega),W b b0 (by omega),W s s0 (by omega),W (m - f) (by omega) (by omega),W ((m - f)*c) q1.1 (by omega),W (f - a) (by omega) (by omega),W ((f - a)*d) q2.1 (by omega),W ((m - f)*c+(f - a)*d) (by omega) (by omega),W (m - b) (by omega) (by omega),W ((m - b)*s) q3.1 (by omega),W ((m - f)*c+(f - a)*d+(m - b)*s) (by omega) (by omega),W (m*(zQp mode s a d b).d) q5.1 (by omega)]
  have kx:knoX mode m s a f c d b=⟨(zQp mode s a d b).p+((m - f)*c+(f - a)*d+(m - b)*s)*(zQp mode s a d b).d,(zQp mode s a d b).q,(zQp mode s a d b).r,m*(zQp mode s a d b).d⟩:=rfl
  have ae:addW (zQp mode s a d b).p (((m - f)*c+(f - a)*d+(m - b)*s)*(zQp mode s a d b).d)=(zQp mode s a d b).p+((m - f)*c+(f - a)*d+(m - b)*s)*(zQp mode s a d b).d:=by unfold addW; rw [if_pos (by omega)]
  have mu:=zZw ((m - f)*c+(f - a)*d+(m - b)*s) (zQp mode s a d b).d
  have ad:=zXd (hiW (zQp mode s a d b).p) (loW (zQp mode s a d b).p) (hiW (((m - f)*c+(f - a)*d+(m - b)*s)*(zQp mode s a d b).d)) (loW (((m - f)*c+(f - a)*d+(m - b)*s)*(zQp mode s a d b).d))
  have ha:=zYT (hiW (knoX mode m s a f c d b).p) (loW (knoX mode m s a f c d b).p) (knoX mode m s a f c d b).q (knoX mode m s a f c d b).r (knoX mode m s a f c d b).d (by rw [kx]; unfold hiW; simp only; omega) (by rw [kx]; simp only; omega) (by rw [kx]; simp only; omega) (by have:=ok.d; omega) (by rw [zYv]; change (knoX mode m s a f c d b).floor < _; split at hfl <;> omega)
  rw [zYv] at ha
  change Ans _ _ _ (RV.tup [RV.d (DV.int .u64 (knoX mode m s a f c d b).half),_]) at ha
  rw [hh,kx] at ha
  simp only [zYv,ae] at ad ⊢
  have hh2:(⟨(zQp mode s a d b).p+((m - f)*c+(f - a)*d+(m - b)*s)*(zQp mode s a d b).d,(zQp mode s a d b).q,(zQp mode s a d b).r,m*(zQp mode s a d b).d⟩:Ex).half=knoC mode m s a f c d b:=hh
  simp only [hh2]
  have uk:IntKind.wrap .u16 (knoC mode m s a f c d b)=knoC mode m s a f c d b:=by
   have ⟨_,kk⟩:=zWX (mode:=mode) (A:=m) hM s0 h1 h2 h3 d0 h4 h5 c0 h6
   exact U _ k0 (by omega)
  have hm':=of_decide_eq_true hm
  clear hfl ok l1 l2 hh hh2 kx
  (repeat' (first | apply And.intro | intro _)) <;> first | exact bl | exact fm | exact im | exact mu | exact ad | exact ha | exact uk | (exfalso; omega) | (exfalso; contradiction) | skip
theorem zYu (m a f acc b:Int) (hf:zZj m=true) (h1:a≤f) (h2:f≤m) (h4:acc≤m) (h5:b≤m):Ans prog 104 [RV.d (dK m),RV.d (dK a),RV.d (dK f),RV.d (dK acc),RV.d (dK b)] (RV.tup [RV.d (dK (knoA m a f acc b)),RV.d (dQ true)]):=
 zQa (Γ:=zH0) Ann.leaf zQg Tryz.func104 rfl (nL rfl) fun hwf=>by
  refine Eq.mpr (by kernel_rfl:_=(let c:=(IntKind.wrap .u64 m); let h:=[RV.d (dK 0),RV.d (dQ false)]; let g:=[RV.d (dK (knoA m a f acc b)),RV.d (dQ true)]; let d:=(RV.tup h=RV.tup g); let e:=(IntKind.wrap .u64 ((IntKind.wrap .u64 ((IntKind.wrap .u64 ((IntKind.wrap .u64 (c - (IntKind.wrap .u64 f)))*(IntKind.wrap .u64 acc)))+(IntKind.wrap .u64 ((IntKind.wrap .u64 ((IntKind.wrap .u64 f) - (IntKind.wrap .u64 a)))*(IntKind.wrap .u64 b)))))+(IntKind.wrap .u64 (c*(IntKind.wrap .u64 a))))); tU3 ((Ans prog 75 [RV.d (dK m)] (RV.d (dQ (zZj m))))∧tU2 (((!(zZj m))=false→tU5 (((decide (a > f))=false→tU5 (((decide (f > m))=false→tU5 (((decide (acc > m))=false→tU4 (((decide (b > m))=true→tU2 d)∧((decide (b > m))=false→tU2 (tU8 (tU8 (tU8 ((Ans prog 82 [RV.d (DV.int .u64 e),RV.d (DV.int .u64 c)] (RV.d (DV.int .u64 (zQO e c))))∧tU3 (RV.tup [RV.d (dK (IntKind.wrap .u16 (zQO e c))),RV.d (dQ true)]=RV.tup g))))))))∧((decide (acc > m))=(!false)→tU3 d)))∧((decide (f > m))=(!false)→tU5 d)))∧((decide (a > f))=(!false)→tU7 d)))∧((!(zZj m))=(!false)→True∧tU8 d))))) ?_
  delta dK dQ
  simp only [sS]
  simp only [RV.wfs,RV.wf,DV.wf,DV.wfs] at hwf
  have mi:IntKind.min .u64=0:=rfl
  have ma:IntKind.max .u64=18446744073709551615:=rfl
  have mj:IntKind.min .u16=0:=rfl
  have mb:IntKind.max .u16=65535:=rfl
  simp only [mi,ma,mj,mb] at hwf
  have W:∀ x:Int,0≤x→x < 18446744073709551616→IntKind.wrap .u64 x=x:=fun x x0 x1=>IntWalk.u64_in x ⟨x0,by omega⟩
  have U:∀ x:Int,0≤x→x≤65535→IntKind.wrap .u16 x=x:=fun x x0 x1=>IntWalk.u16_in x ⟨x0,by omega⟩
  obtain ⟨⟨m0,m1⟩,⟨a0,a1⟩,⟨f0,f1⟩,⟨c0,c1⟩,⟨b0,b1⟩,_⟩:=hwf
  have hM:=(zZd hf).1
  have fm:=zQX m
  rw [hf] at fm
  rw [hf]
  have ka:=zGV (acc:=acc) (b:=b) hM a0 h1 h2 c0 h4 b0 h5
  have q1:=zQj (x:=m - f) (y:=acc) (A:=65535) (B:=65535) (by omega) (by omega) c0 c1
  have q2:=zQj (x:=f - a) (y:=b) (A:=65535) (B:=65535) (by omega) (by omega) b0 b1
  have q3:=zQj (x:=m) (y:=a) (A:=65535) (B:=65535) m0 m1 a0 a1
  simp only [W m m0 (by omega),W f f0 (by omega),W acc c0 (by omega),W a a0 (by omega),W b b0 (by omega),W (m - f) (by omega) (by omega),W ((m - f)*acc) q1.1 (by omega),W (f - a) (by omega) (by omega),W ((f - a)*b) q2.1 (by omega),W ((m - f)*acc+(f - a)*b) (by omega) (by omega),W (m*a) q3.1 (by omega),W ((m - f)*acc+(f - a)*b+m*a) (by omega) (by omega)]
  have ha:=zQW ((m - f)*acc+(f - a)*b+m*a) m
  have uk:IntKind.wrap .u16 (zQO ((m - f)*acc+(f - a)*b+m*a) m)=knoA m a f acc b:=U _ ka.1 (by unfold knoA at ka; omega)
  (repeat' (first | apply And.intro | intro _)) <;> first | exact fm | exact ha | exact uk | (exfalso; omega) | (exfalso; contradiction) | skip
theorem zV7 (m a f own:Int) (hf:zZj m=true) (h1:a≤f) (h2:f≤m) (h4:own≤m):Ans prog 105 [RV.d (dK m),RV.d (dK a),RV.d (dK f),RV.d (dK own)] (RV.tup [RV.d (dK (knoA m a f own 0)),RV.d (dQ true)]):=
 zQa (Γ:=zH0) Ann.leaf zQg Tryz.func105 rfl (nL rfl) fun hwf=>by
  refine Eq.mpr (by kernel_rfl:_=(let b:=[RV.d (dK (knoA m a f own (0:Int))),RV.d (dQ true)]; tU6 ((Ans prog 104 [RV.d (dK m),RV.d (dK a),RV.d (dK f),RV.d (dK own),RV.d (dK 0)] (RV.tup b))∧tU4 (RV.tup b=RV.tup [RV.d (dK (knoA m a f own 0)),RV.d (dQ true)])))) ?_
  delta dK dQ
  simp only [sS]
  simp only [RV.wfs,RV.wf,DV.wf,DV.wfs] at hwf
  have mi:IntKind.min .u64=0:=rfl
  have ma:IntKind.max .u64=18446744073709551615:=rfl
  have mj:IntKind.min .u16=0:=rfl
  have mb:IntKind.max .u16=65535:=rfl
  simp only [mi,ma,mj,mb] at hwf
  exact zYu _ _ _ _ _ hf h1 h2 h4 (by omega)
def gZ46 (xs:List RV):Option RV:=match xs with | [.agg [.int _ pa,.int _ pb,.int _ pc,.int _ pal,.int _ pf],.d (.int _ k),.d (.int _ m)]=>some (RV.tup [RV.agg [dK (zQU (⟨pa,pb,pc,pal,pf⟩:Px) k m).1.a,dK (zQU (⟨pa,pb,pc,pal,pf⟩:Px) k m).1.b,dK (zQU (⟨pa,pb,pc,pal,pf⟩:Px) k m).1.c,dK (zQU (⟨pa,pb,pc,pal,pf⟩:Px) k m).1.al,dK (zQU (⟨pa,pb,pc,pal,pf⟩:Px) k m).1.f],RV.d (dQ (zQU (⟨pa,pb,pc,pal,pf⟩:Px) k m).2)]) | _=>none
def gZ47 (xs:List RV):Option RV:=match xs with | [.agg [.int _ pa,.int _ pb,.int _ pc,.int _ pal,.int _ pf],.d (.int _ j),.d (.int _ k),.d (.int _ m)]=>some (RV.tup [RV.agg [dK (zYn (⟨pa,pb,pc,pal,pf⟩:Px) j k m).1.a,dK (zYn (⟨pa,pb,pc,pal,pf⟩:Px) j k m).1.b,dK (zYn (⟨pa,pb,pc,pal,pf⟩:Px) j k m).1.c,dK (zYn (⟨pa,pb,pc,pal,pf⟩:Px) j k m).1.al,dK (zYn (⟨pa,pb,pc,pal,pf⟩:Px) j k m).1.f],RV.d (dQ (zYn (⟨pa,pb,pc,pal,pf⟩:Px) j k m).2)]) | _=>none
def gZ48 (xs:List RV):Option RV:=match xs with | [.d (.bool iso),.d (.bool kno),.agg [.int _ xa,.int _ xb,.int _ xc,.int _ xal,.int _ xown,.int _ xf],.agg [.int _ ka,.int _ kb,.int _ kc,.int _ kal,.int _ kf]]=>some (RV.tup [RV.agg [dK (zQo iso kno (⟨xa,xb,xc,xal,xown,xf⟩:Ac) (⟨ka,kb,kc,kal,kf⟩:Px)).1.a,dK (zQo iso kno (⟨xa,xb,xc,xal,xown,xf⟩:Ac) (⟨ka,kb,kc,kal,kf⟩:Px)).1.b,dK (zQo iso kno (⟨xa,xb,xc,xal,xown,xf⟩:Ac) (⟨ka,kb,kc,kal,kf⟩:Px)).1.c,dK (zQo iso kno (⟨xa,xb,xc,xal,xown,xf⟩:Ac) (⟨ka,kb,kc,kal,kf⟩:Px)).1.al,dK (zQo iso kno (⟨xa,xb,xc,xal,xown,xf⟩:Ac) (⟨ka,kb,kc,kal,kf⟩:Px)).1.own,dK (zQo iso kno (⟨xa,xb,xc,xal,xown,xf⟩:Ac) (⟨ka,kb,kc,kal,kf⟩:Px)).1.f],RV.agg [dK (zQo iso kno (⟨xa,xb,xc,xal,xown,xf⟩:Ac) (⟨ka,kb,kc,kal,kf⟩:Px)).2.a,dK (zQo iso kno (⟨xa,xb,xc,xal,xown,xf⟩:Ac) (⟨ka,kb,kc,kal,kf⟩:Px)).2.b,dK (zQo iso kno (⟨xa,xb,xc,xal,xown,xf⟩:Ac) (⟨ka,kb,kc,kal,kf⟩:Px)).2.c,dK (zQo iso kno (⟨xa,xb,xc,xal,xown,xf⟩:Ac) (⟨ka,kb,kc,kal,kf⟩:Px)).2.al,dK (zQo iso kno (⟨xa,xb,xc,xal,xown,xf⟩:Ac) (⟨ka,kb,kc,kal,kf⟩:Px)).2.f]]) | _=>none
def gZ49 (xs:List RV):Option RV:=match xs with | [.d (.bool kno),.d (.int _ op),.d (.int _ mode),.d (.int _ m),.agg [.int _ pa,.int _ pb,.int _ pc,.int _ pal,.int _ pf],.agg [.int _ xa,.int _ xb,.int _ xc,.int _ xal,.int _ xown,.int _ xf],.agg [.int _ ka,.int _ kb,.int _ kc,.int _ kal,.int _ kf]]=>some (RV.tup [RV.agg [dK (zX5 kno op mode m (⟨pa,pb,pc,pal,pf⟩:Px) (⟨xa,xb,xc,xal,xown,xf⟩:Ac) (⟨ka,kb,kc,kal,kf⟩:Px)).a,dK (zX5 kno op mode m (⟨pa,pb,pc,pal,pf⟩:Px) (⟨xa,xb,xc,xal,xown,xf⟩:Ac) (⟨ka,kb,kc,kal,kf⟩:Px)).b,dK (zX5 kno op mode m (⟨pa,pb,pc,pal,pf⟩:Px) (⟨xa,xb,xc,xal,xown,xf⟩:Ac) (⟨ka,kb,kc,kal,kf⟩:Px)).c,dK (zX5 kno op mode m (⟨pa,pb,pc,pal,pf⟩:Px) (⟨xa,xb,xc,xal,xown,xf⟩:Ac) (⟨ka,kb,kc,kal,kf⟩:Px)).al,dK (zX5 kno op mode m (⟨pa,pb,pc,pal,pf⟩:Px) (⟨xa,xb,xc,xal,xown,xf⟩:Ac) (⟨ka,kb,kc,kal,kf⟩:Px)).own,dK (zX5 kno op mode m (⟨pa,pb,pc,pal,pf⟩:Px) (⟨xa,xb,xc,xal,xown,xf⟩:Ac) (⟨ka,kb,kc,kal,kf⟩:Px)).f],RV.d (dQ (zXg kno op mode m (⟨pa,pb,pc,pal,pf⟩:Px) (⟨xa,xb,xc,xal,xown,xf⟩:Ac) (⟨ka,kb,kc,kal,kf⟩:Px)))]) | _=>none
def gZ50 (xs:List RV):Option RV:=match xs with | [.agg [.int _ xa,.int _ xb,.int _ xc,.int _ xal,.int _ xown,.int _ xf],.agg [.int _ ka,.int _ kb,.int _ kc,.int _ kal,.int _ kf],.d (.int _ m)]=>some (RV.tup [RV.agg [dK (resE (⟨xa,xb,xc,xal,xown,xf⟩:Ac) (⟨ka,kb,kc,kal,kf⟩:Px) m).a,dK (resE (⟨xa,xb,xc,xal,xown,xf⟩:Ac) (⟨ka,kb,kc,kal,kf⟩:Px) m).b,dK (resE (⟨xa,xb,xc,xal,xown,xf⟩:Ac) (⟨ka,kb,kc,kal,kf⟩:Px) m).c,dK (resE (⟨xa,xb,xc,xal,xown,xf⟩:Ac) (⟨ka,kb,kc,kal,kf⟩:Px) m).al,dK (resE (⟨xa,xb,xc,xal,xown,xf⟩:Ac) (⟨ka,kb,kc,kal,kf⟩:Px) m).f],RV.d (dQ (Ac.ok (⟨xa,xb,xc,xal,xown,xf⟩:Ac) (⟨ka,kb,kc,kal,kf⟩:Px) m))]) | _=>none
def jXe:Gam where
 pure:=fun f xs=>
  if f=82 then gZ30 xs else
  if f=75 then gZ37 xs else
  if f=88 then gZ11 xs else
  if f=98 then gZ20 xs else
  if f=99 then gZ20 xs else
  if f=106 then gZ40 xs else
  if f=101 then gZ41 xs else
  if f=103 then gZ42 xs else
  if f=102 then gZ43 xs else
  if f=104 then gZ44 xs else
  if f=105 then gZ45 xs else
  if f=77 then gZ46 xs else
  if f=93 then gZ47 xs else
  if f=81 then (match xs with | [.agg [.int _ xa,.int _ xb,.int _ xc,.int _ xal,.int _ xown,.int _ xf],.agg [.int _ ka,.int _ kb,.int _ kc,.int _ kal,.int _ kf],.d (.int _ m)]=>some (RV.d (dQ (Ac.ok (⟨xa,xb,xc,xal,xown,xf⟩:Ac) (⟨ka,kb,kc,kal,kf⟩:Px) m))) | _=>none) else
  if f=80 then gZ48 xs else
  if f=94 then gZ49 xs else
  if f=54 then gZ50 xs else
  none
 modes:=fun f=>
  none
 proc:=fun f xs bs=>
  none
 iter:=fun f cs=>
  none
theorem zJd (p:Px) (k m:Int):Ans prog 77 [RV.agg [dK p.a,dK p.b,dK p.c,dK p.al,dK p.f],RV.d (dK k),RV.d (dK m)] (RV.tup [RV.agg [dK (((zQU p k m).1).a),dK (((zQU p k m).1).b),dK (((zQU p k m).1).c),dK (((zQU p k m).1).al),dK (((zQU p k m).1).f)],RV.d (dQ ((zQU p k m).2))]):=
 zQa (Γ:=jXe) (let h:=(IntKind.wrap .u64 m); let i:=(IntKind.wrap .u64 k); let a:=(8,AV.one (Cl.ptr 8 0)); let b:=(6,AV.one (Cl.ptr 6 0)); let c:=(3,AV.one (Cl.ptr 3 0)); let j:=(Ann.seq (Ann.seq Ann.leaf (Ann.sure true Ann.leaf)) Ann.leaf); let d:=(1,AV.one (cK k)); let e:=(2,AV.one (cK m)); let f:=(3,bC [cK p.a,cK p.b,cK p.c,cK p.al,cK p.f]); let n:=[cK 0,cK 0,cK 0,cK 0,cK 0]; let g:=(6,Bx.cells n); let l:=(dK (IntKind.wrap .u16 (zQO (IntKind.wrap .u64 ((IntKind.wrap .u64 p.a)*i)) h))); let o:=(dK (IntKind.wrap .u16 (zQO (IntKind.wrap .u64 ((IntKind.wrap .u64 p.b)*i)) h))); (Ann.seq Ann.leaf (Ann.seq Ann.leaf (Ann.seq Ann.leaf (Ann.seq (Ann.seq Ann.leaf (Ann.link ⟨Unit,fun _u=>True,fun _u=>⟨[d,e,c,b,a,(9,aJ 0)],[f,g,(8,Bx.cells n)]⟩,fun _u=>0⟩ (fun _u=>j) (Ann.link ⟨Unit,fun _u=>True,fun _u=>⟨[d,e,c,b,a,(9,aJ 1)],[f,g,(8,bC [Cl.d l,cK 0,cK 0,cK 0,cK 0])]⟩,fun _u=>0⟩ (fun _u=>j) (Ann.link ⟨Unit,fun _u=>True,fun _u=>⟨[d,e,c,b,a,(9,aJ 2)],[f,g,(8,bC [Cl.d l,Cl.d o,cK 0,cK 0,cK 0])]⟩,fun _u=>0⟩ (fun _u=>j) (Ann.link ⟨Unit,fun _u=>True,fun _u=>⟨[d,e,c,b,a,(9,aJ 3)],[f,g,(8,bC [Cl.d l,Cl.d o,cK (IntKind.wrap .u16 (zQO (IntKind.wrap .u64 ((IntKind.wrap .u64 p.c)*i)) h)),cK 0,cK 0])]⟩,fun _u=>0⟩ (fun _u=>(Ann.seq (Ann.seq Ann.leaf (Ann.sure false Ann.leaf)) Ann.leaf)) Ann.leaf))))) Ann.leaf))))) zQg Tryz.func77 rfl (nL rfl) fun hwf=>by
  refine Eq.mpr (by kernel_rfl:_=(let b:=(zQU p k m); let c:=(IntKind.wrap .u64 k); let a:=(IntKind.wrap .u64 m); let j:=[dK p.a,dK p.b,dK p.c,dK p.al,dK p.f]; let l:=[dK 0,dK 0,dK 0,dK 0,dK 0]; let D:=[RV.agg l,RV.d (dQ false)]; let v:=[RV.agg [dK b.1.a,dK b.1.b,dK b.1.c,dK b.1.al,dK b.1.f],RV.d (dQ b.2)]; let n:=(RV.tup D=RV.tup v); let f:=(dK k=dK k); let g:=(dK m=dK m); let h:=(j=j); let d:=(l=l); let w:=(0≤(0:Int)∧(0:Int) < ((3:Nat):Int)); let o:=(IntKind.wrap .u64 ((IntKind.wrap .u64 p.a)*c)); let e:=(DV.int .u64 a); let i:=(IntKind.wrap .u16 (zQO o a)); let x:=[dK i,dK 0,dK 0,dK 0,dK 0]; let y:=(0≤(1:Int)∧(1:Int) < ((3:Nat):Int)); let q:=(IntKind.wrap .u64 ((IntKind.wrap .u64 p.b)*c)); let r:=(IntKind.wrap .u16 (zQO q a)); let z:=[dK i,dK r,dK 0,dK 0,dK 0]; let A:=(0≤(2:Int)∧(2:Int) < ((3:Nat):Int)); let s:=(IntKind.wrap .u64 ((IntKind.wrap .u64 p.c)*c)); let B:=(IntKind.wrap .u16 (zQO s a)); let C:=[dK i,dK r,dK B,dK 0,dK 0]; let t:=(IntKind.wrap .u64 ((IntKind.wrap .u64 p.al)*c)); let u:=(IntKind.wrap .u64 ((IntKind.wrap .u64 p.f)*c)); tU4 ((Ans prog 75 [RV.d (dK m)] (RV.d (dQ (zZj m))))∧tU2 (((!(zZj m))=false→tU2 ((Ans prog 88 [RV.agg j,RV.d (dK m)] (RV.d (dQ (Px.ok p m))))∧tU3 (((!(Px.ok p m))=false→tU4 (((decide (k > m))=true→tU3 n)∧((decide (k > m))=false→tU2 ((∃ _u:Unit,True∧((f∧g∧(0=0)∧(0=0)∧(0=0)∧(dJ 0=dJ 0)∧True)∧(h∧d∧d∧True)))∧((∀ _u:Unit,True→tU2 (decide ((0:Int) < 3)=true∧tU3 (w∧tU7 ((Ans prog 82 [RV.d (DV.int .u64 o),RV.d e] (RV.d (DV.int .u64 (zQO o a))))∧tU2 (w∧tU4 (∃ _u:Unit,True∧((f∧g∧(0=0)∧(0=0)∧(0=0)∧(dJ (wK ((0:Int)+1))=dJ 1)∧True)∧(h∧d∧(x=x)∧True))))))))∧(∀ _u:Unit,True→tU2 (decide ((1:Int) < 3)=true∧tU3 (y∧tU7 ((Ans prog 82 [RV.d (DV.int .u64 q),RV.d e] (RV.d (DV.int .u64 (zQO q a))))∧tU2 (y∧tU4 (∃ _u:Unit,True∧((f∧g∧(0=0)∧(0=0)∧(0=0)∧(dJ (wK ((1:Int)+1))=dJ 2)∧True)∧(h∧d∧(z=z)∧True))))))))∧(∀ _u:Unit,True→tU2 (decide ((2:Int) < 3)=true∧tU3 (A∧tU7 ((Ans prog 82 [RV.d (DV.int .u64 s),RV.d e] (RV.d (DV.int .u64 (zQO s a))))∧tU2 (A∧tU4 (∃ _u:Unit,True∧((f∧g∧(0=0)∧(0=0)∧(0=0)∧(dJ (wK ((2:Int)+1))=dJ 3)∧True)∧(h∧d∧(C=C)∧True))))))))∧(∀ _u:Unit,True→tU2 (decide ((3:Int) < 3)=false∧tU8 ((Ans prog 82 [RV.d (DV.int .u64 t),RV.d e] (RV.d (DV.int .u64 (zQO t a))))∧tU3 (tU8 ((Ans prog 82 [RV.d (DV.int .u64 u),RV.d e] (RV.d (DV.int .u64 (zQO u a))))∧tU6 (RV.tup [RV.agg [dK i,dK r,dK B,dK (IntKind.wrap .u16 (zQO t a)),dK (IntKind.wrap .u16 (zQO u a))],RV.d (dQ true)]=RV.tup v))))))∧True)))))∧((!(Px.ok p m))=(!false)→tU4 n))))∧((!(zZj m))=(!false)→tU6 n))))) ?_
  delta dJ dK dQ wK
  simp only [sS]
  simp only [RV.wfs,RV.wf,DV.wf,DV.wfs] at hwf
  have mi:IntKind.min .u64=0:=rfl
  have ma:IntKind.max .u64=18446744073709551615:=rfl
  have mj:IntKind.min .u16=0:=rfl
  have mb:IntKind.max .u16=65535:=rfl
  simp only [mi,ma,mj,mb] at hwf
  have W:∀ x:Int,0≤x→x < 18446744073709551616→IntKind.wrap .u64 x=x:=fun x x0 x1=>IntWalk.u64_in x ⟨x0,by omega⟩
  have U:∀ x:Int,0≤x→x≤65535→IntKind.wrap .u16 x=x:=fun x x0 x1=>IntWalk.u16_in x ⟨x0,by omega⟩
  obtain ⟨⟨⟨a0,a1⟩,⟨b0,b1⟩,⟨c0,c1⟩,⟨l0,l1⟩,⟨f0,f1⟩,_⟩,⟨k0,k1⟩,⟨m0,m1⟩,_⟩:=hwf
  have s1:zQU p k m=if zKa p k m then (zXZ p k m,true) else (.zero,false):=rfl
  have bad:¬ (zZj m=true∧p.ok m=true∧k≤m)→zQU p k m=(.zero,false):=fun hn=>by
   rw [s1,if_neg]
   intro e
   simp only [zKa,Bool.and_eq_true,decide_eq_true_eq] at e
   exact hn ⟨e.1,e.2.1,e.2.2⟩
  have q:∀ v:Int,0≤v→v≤65535→IntKind.wrap .u64 (IntKind.wrap .u64 v*IntKind.wrap .u64 k)=v*k:=fun v v0 v1=>by
   have:=zQj v0 v1 k0 k1
   rw [W v v0 (by omega),W k k0 (by omega),W _ this.1 (by omega)]
  rw [q p.a a0 a1,q p.b b0 b1,q p.c c0 c1,q p.al l0 l1,q p.f f0 f1,W m m0 (by omega)]
  have ful:=zQX m
  have vp:=zQT p.a p.b p.c p.al p.f m
  change Ans _ _ _ (RV.d (DV.bool (p.ok m))) at vp
  refine ⟨ful,fun hf=>⟨vp,fun hp=>⟨fun hk=>?_,fun hk=>?_⟩,fun hp=>?_⟩,fun hf=>?_⟩
  ·rw [bad (fun h=>by omega)]; exact ⟨⟨rfl,rfl,rfl,rfl,rfl⟩,rfl⟩
  ·have hk:k≤m:=by omega
   have hm:=(zZd hf).1
   have e:zQU p k m=(zXZ p k m,true):=by
    rw [s1,if_pos]
    unfold zKa
    rw [hf,hp,decide_eq_true hk]; rfl
   rw [e]
   obtain ⟨o1,o2⟩:=zGn hm hp ⟨a0,b0,c0⟩ k0 hk
   obtain ⟨x1,x2,x3,x4,x5⟩:=Px.ok_iff.1 o1
   obtain ⟨y1,y2,y3⟩:=o2
   have H:=fun v=>zQW (v*k) m
   have w1:IntKind.wrap .i64 (0+1)=1:=by decide
   have w2:IntKind.wrap .i64 (1+1)=2:=by decide
   have w3:IntKind.wrap .i64 (2+1)=3:=by decide
   simp only [zXZ] at x1 x2 x3 x4 x5 y1 y2 y3 ⊢
   refine ⟨⟨(),trivial⟩,⟨by decide,by decide,H _,by decide,(),w1⟩,⟨by decide,by decide,H _,by decide,(),w2⟩,⟨by decide,by decide,H _,by decide,(),w3⟩,by decide,H _,H _,⟨U _ y1 (by omega),U _ y2 (by omega),U _ y3 (by omega),U _ (by omega) (by omega),U _ (by omega) (by omega)⟩,trivial⟩
  ·rw [bad (fun h=>by rw [hp] at h; exact absurd h.2.1 (by decide))]; exact ⟨⟨rfl,rfl,rfl,rfl,rfl⟩,rfl⟩
  ·rw [bad (fun h=>by rw [hf] at h; exact absurd h.1 (by decide))]; exact ⟨⟨rfl,rfl,rfl,rfl,rfl⟩,rfl⟩
theorem jQp (p:Px) (j k m:Int):Ans prog 93 [RV.agg [dK p.a,dK p.b,dK p.c,dK p.al,dK p.f],RV.d (dK j),RV.d (dK k),RV.d (dK m)] (RV.tup [RV.agg [dK (((zYn p j k m).1).a),dK (((zYn p j k m).1).b),dK (((zYn p j k m).1).c),dK (((zYn p j k m).1).al),dK (((zYn p j k m).1).f)],RV.d (dQ ((zYn p j k m).2))]):=
 zQa (Γ:=jXe) Ann.leaf zQg Tryz.func93 rfl (nL rfl) fun hwf=>by
  refine Eq.mpr (by kernel_rfl:_=(let b:=(zYn p j k m); let a:=(zQU p j m); let c:=(zQU a.1 k m); let d:=[dK a.1.a,dK a.1.b,dK a.1.c,dK a.1.al,dK a.1.f]; let e:=[RV.agg [dK b.1.a,dK b.1.b,dK b.1.c,dK b.1.al,dK b.1.f],RV.d (dQ b.2)]; let f:=[RV.agg [dK c.1.a,dK c.1.b,dK c.1.c,dK c.1.al,dK c.1.f],RV.d (dQ c.2)]; tU6 ((Ans prog 77 [RV.agg [dK p.a,dK p.b,dK p.c,dK p.al,dK p.f],RV.d (dK j),RV.d (dK m)] (RV.tup [RV.agg d,RV.d (dQ a.2)]))∧tU8 (((!a.2)=true→tU3 (RV.tup [RV.agg [dK 0,dK 0,dK 0,dK 0,dK 0],RV.d (dQ false)]=RV.tup e))∧((!a.2)=false→tU3 ((Ans prog 77 [RV.agg d,RV.d (dK k),RV.d (dK m)] (RV.tup f))∧tU4 (RV.tup f=RV.tup e))))))) ?_
  delta dK dQ
  simp only [sS]
  have S:=zJd p j m
  have S2:=zJd (zQU p j m).1 k m
  refine ⟨S,fun h=>?_,fun h=>⟨S2,?_⟩⟩
  ·have:zKa p j m=false:=by
    cases e:zKa p j m with
    | false=>rfl
    | true=>unfold zQU at h; rw [if_pos e] at h; cases h
   unfold zYn
   rw [this]
   exact ⟨⟨rfl,rfl,rfl,rfl,rfl⟩,rfl⟩
  ·have:zKa p j m=true:=by
    cases e:zKa p j m with
    | true=>rfl
    | false=>unfold zQU at h; rw [e] at h; cases h
   have e:zYn p j k m=zQU (zQU p j m).1 k m:=by
    unfold zYn
    rw [if_pos this]
    have:zQU p j m=(zXZ p j m,true):=by unfold zQU; rw [if_pos this]
    rw [this]
   rw [e]
   exact ⟨⟨rfl,rfl,rfl,rfl,rfl⟩,rfl⟩
theorem zYt (x:Ac) (k:Px) (m:Int):Ans prog 81 [RV.agg [dK x.a,dK x.b,dK x.c,dK x.al,dK x.own,dK x.f],RV.agg [dK k.a,dK k.b,dK k.c,dK k.al,dK k.f],RV.d (dK m)] (RV.d (dQ (Ac.ok x k m))):=
 zQa (Γ:=jXe) (let a:=(4,AV.one (Cl.ptr 4 0)); let b:=(3,AV.one (Cl.ptr 3 0)); let e:=(Ann.seq (Ann.seq Ann.leaf (Ann.sure true Ann.leaf)) Ann.leaf); let c:=(2,AV.one (cK m)); let d:=[(3,bC [cK x.a,cK x.b,cK x.c,cK x.al,cK x.own,cK x.f]),(4,bC [cK k.a,cK k.b,cK k.c,cK k.al,cK k.f])]; (Ann.seq Ann.leaf (Ann.seq (Ann.seq Ann.leaf (Ann.link ⟨Unit,fun _u=>True,fun _u=>⟨[c,b,a,(7,aJ 0)],d⟩,fun _u=>0⟩ (fun _u=>e) (Ann.link ⟨Unit,fun _u=>(x.a≤x.al)∧True,fun _u=>⟨[c,b,a,(7,aJ 1)],d⟩,fun _u=>0⟩ (fun _u=>e) (Ann.link ⟨Unit,fun _u=>(x.a≤x.al)∧(x.b≤x.al)∧True,fun _u=>⟨[c,b,a,(7,aJ 2)],d⟩,fun _u=>0⟩ (fun _u=>e) (Ann.link ⟨Unit,fun _u=>(x.a≤x.al)∧(x.b≤x.al)∧(x.c≤x.al)∧True,fun _u=>⟨[c,b,a,(7,aJ 3)],d⟩,fun _u=>0⟩ (fun _u=>(Ann.seq (Ann.seq Ann.leaf (Ann.sure false Ann.leaf)) Ann.leaf)) Ann.leaf))))) Ann.leaf))) zQg Tryz.func81 rfl (nL rfl) fun hwf=>by
  refine Eq.mpr (by kernel_rfl:_=(let b:=(dQ (Ac.ok x k m)); let a:=(RV.d (dQ false)=RV.d b); let c:=(dK m=dK m); let f:=[dK x.a,dK x.b,dK x.c,dK x.al,dK x.own,dK x.f]; let e:=[dK k.a,dK k.b,dK k.c,dK k.al,dK k.f]; let d:=((f=f)∧(e=e)∧True); let g:=((x.a≤x.al)∧(x.b≤x.al)∧True); let h:=((x.a≤x.al)∧(x.b≤x.al)∧(x.c≤x.al)∧True); tU4 ((∃ _u:Unit,True∧((c∧(0=0)∧(0=0)∧(dJ 0=dJ 0)∧True)∧d))∧((∀ _u:Unit,True→tU2 (decide ((0:Int) < 3)=true∧tU2 ((0≤(0:Int)∧(0:Int) < ((3:Nat):Int))∧tU4 ((true=true)∧(((decide (x.a > x.al))=true→True∧RV.d (dQ false)=RV.d b)∧((decide (x.a > x.al))=false→tU3 (∃ _u:Unit,((x.a≤x.al)∧True)∧((c∧(0=0)∧(0=0)∧(dJ (wK ((0:Int)+1))=dJ 1)∧True)∧d))))))))∧(∀ _u:Unit,((x.a≤x.al)∧True)→tU2 (decide ((1:Int) < 3)=true∧tU2 ((0≤(1:Int)∧(1:Int) < ((3:Nat):Int))∧tU4 ((true=true)∧(((decide (x.b > x.al))=true→True∧RV.d (dQ false)=RV.d b)∧((decide (x.b > x.al))=false→tU3 (∃ _u:Unit,g∧((c∧(0=0)∧(0=0)∧(dJ (wK ((1:Int)+1))=dJ 2)∧True)∧d))))))))∧(∀ _u:Unit,g→tU2 (decide ((2:Int) < 3)=true∧tU2 ((0≤(2:Int)∧(2:Int) < ((3:Nat):Int))∧tU4 ((true=true)∧(((decide (x.c > x.al))=true→True∧RV.d (dQ false)=RV.d b)∧((decide (x.c > x.al))=false→tU3 (∃ _u:Unit,h∧((c∧(0=0)∧(0=0)∧(dJ (wK ((2:Int)+1))=dJ 3)∧True)∧d))))))))∧(∀ _u:Unit,h→tU2 (decide ((3:Int) < 3)=false∧True∧(Ans prog 75 [RV.d (dK m)] (RV.d (dQ (zZj m))))∧True∧(((zZj m)=true→tU7 (((decide (x.own≤x.al))=true→tU7 (((decide (x.own≤x.f))=true→tU6 (((decide (x.al≤m))=true→tU6 (((decide (x.f≤m))=true→tU2 ((Ans prog 88 [RV.agg e,RV.d (dK m)] (RV.d (dQ (Px.ok k m))))∧tU2 (((Px.ok k m)=true→tU7 (RV.d (dQ (k.f==k.al))=RV.d b))∧((Px.ok k m)=(!true)→tU2 a))))∧((decide (x.f≤m))=(!true)→tU4 a)))∧((decide (x.al≤m))=(!true)→tU6 a)))∧((decide (x.own≤x.f))=(!true)→tU8 a)))∧((decide (x.own≤x.al))=(!true)→tU2 (tU8 a))))∧((zZj m)=(!true)→tU4 (tU8 a)))))∧True)))) ?_
  delta dJ dK dQ wK
  simp only [sS]
  simp only [RV.wfs,RV.wf,DV.wf,DV.wfs] at hwf
  have mi:IntKind.min .u64=0:=rfl
  have ma:IntKind.max .u64=18446744073709551615:=rfl
  have mj:IntKind.min .u16=0:=rfl
  have mb:IntKind.max .u16=65535:=rfl
  simp only [mi,ma,mj,mb] at hwf
  have ful:=zQX m
  have vp:=zQT k.a k.b k.c k.al k.f m
  change Ans _ _ _ (RV.d (DV.bool (k.ok m))) at vp
  have no:¬ ((x.a≤x.al∧x.b≤x.al∧x.c≤x.al)∧zZj m=true∧(x.own≤x.al∧x.own≤x.f∧x.al≤m∧x.f≤m)∧k.ok m=true∧k.f=k.al)→false=x.ok k m:=fun h=>by
   cases e:x.ok k m with
   | false=>rfl
   | true=>exact absurd (Ac.ok_iff.1 e) h
  have w1:IntKind.wrap .i64 (0+1)=1:=by decide
  have w2:IntKind.wrap .i64 (1+1)=2:=by decide
  have w3:IntKind.wrap .i64 (2+1)=3:=by decide
  refine ⟨⟨(),trivial⟩,⟨by decide,by decide,fun h=>no (fun q=>by omega),fun h=>⟨(),by omega,w1⟩⟩,fun h1=>⟨by decide,by decide,fun h=>no (fun q=>by omega),fun h=>⟨(),⟨h1,by omega⟩,w2⟩⟩,fun h2=>⟨by decide,by decide,fun h=>no (fun q=>by omega),fun h=>⟨(),⟨h2.1,h2.2,by omega⟩,w3⟩⟩,fun h3=>⟨by decide,ful,fun hf=>⟨fun g1=>⟨fun g2=>⟨fun g3=>⟨fun g4=>⟨vp,fun hk=>?_,fun hk=>no (fun q=>by rw [hk] at q; exact absurd q.2.2.2.1 (by decide))⟩,fun h=>no (fun q=>by omega)⟩,fun h=>no (fun q=>by omega)⟩,fun h=>no (fun q=>by omega)⟩,fun h=>no (fun q=>by omega)⟩,fun hf=>no (fun q=>by rw [hf] at q; exact absurd q.2.1 (by decide))⟩⟩
  by_cases e:k.f=k.al
  ·rw [Ac.ok_iff.2 ⟨h3,hf,⟨g1,g2,g3,g4⟩,hk,e⟩]
   simpa using e
  ·rw [← no (fun q=>e q.2.2.2.2)]
   simpa using e
theorem zHk (iso kno:Bool) (x:Ac) (k:Px):Ans prog 80 [RV.d (dQ iso),RV.d (dQ kno),RV.agg [dK x.a,dK x.b,dK x.c,dK x.al,dK x.own,dK x.f],RV.agg [dK k.a,dK k.b,dK k.c,dK k.al,dK k.f]] (RV.tup [RV.agg [dK (((zQo iso kno x k).1).a),dK (((zQo iso kno x k).1).b),dK (((zQo iso kno x k).1).c),dK (((zQo iso kno x k).1).al),dK (((zQo iso kno x k).1).own),dK (((zQo iso kno x k).1).f)],RV.agg [dK (((zQo iso kno x k).2).a),dK (((zQo iso kno x k).2).b),dK (((zQo iso kno x k).2).c),dK (((zQo iso kno x k).2).al),dK (((zQo iso kno x k).2).f)]]):=
 zQa (Γ:=jXe) Ann.leaf zQg Tryz.func80 rfl (nL rfl) fun hwf=>by
  refine Eq.mpr (by kernel_rfl:_=(let a:=(zQo iso kno x k); let b:=[RV.agg [dK a.1.a,dK a.1.b,dK a.1.c,dK a.1.al,dK a.1.own,dK a.1.f],RV.agg [dK a.2.a,dK a.2.b,dK a.2.c,dK a.2.al,dK a.2.f]]; True∧tU8 (((!iso)=true→True∧tU8 ((kno=true→tU2 (tU8 ((true=true)∧RV.tup [RV.agg [dK k.a,dK k.b,dK k.c,dK k.al,dK 0,dK 0],RV.agg [dK k.a,dK k.b,dK k.c,dK k.al,dK k.f]]=RV.tup b)))∧(kno=false→tU8 ((true=true)∧RV.tup [RV.agg [dK x.a,dK x.b,dK x.c,dK x.al,dK 0,dK 0],RV.agg [dK x.a,dK x.b,dK x.c,dK x.al,dK x.al]]=RV.tup b))))∧((!iso)=false→tU8 ((true=true)∧RV.tup [RV.agg [dK 0,dK 0,dK 0,dK 0,dK 0,dK 0],RV.agg [dK 0,dK 0,dK 0,dK 0,dK 0]]=RV.tup b))))) ?_
  delta dK
  simp only [sS]
  unfold zQo
  cases iso <;> cases kno <;> simp [Px.zero]
theorem jQo (kno:Bool) (op mode m:Int) (p:Px) (x:Ac) (k:Px):Ans prog 94 [RV.d (dQ kno),rJ (op),rJ (mode),RV.d (dK m),RV.agg [dK p.a,dK p.b,dK p.c,dK p.al,dK p.f],RV.agg [dK x.a,dK x.b,dK x.c,dK x.al,dK x.own,dK x.f],RV.agg [dK k.a,dK k.b,dK k.c,dK k.al,dK k.f]] (RV.tup [RV.agg [dK ((zX5 kno op mode m p x k).a),dK ((zX5 kno op mode m p x k).b),dK ((zX5 kno op mode m p x k).c),dK ((zX5 kno op mode m p x k).al),dK ((zX5 kno op mode m p x k).own),dK ((zX5 kno op mode m p x k).f)],RV.d (dQ (zXg kno op mode m p x k))]):=
 zQa (Γ:=jXe) (let a:=(16,AV.one (Cl.ptr 16 0)); let b:=(14,AV.one (Cl.ptr 14 0)); let c:=(13,AV.one (Cl.ptr 13 0)); let d:=(12,AV.one (Cl.ptr 12 0)); let e:=(11,AV.one (Cl.ptr 11 0)); let f:=(accS kno op mode m p x k); let t:=(Ann.seq (Ann.seq Ann.leaf (Ann.sure true Ann.leaf)) Ann.leaf); let g:=(zXg kno op mode m p x k=true); let h:=(0,AV.one (Cl.d (dQ kno))); let i:=(1,aJ op); let j:=(2,aJ mode); let l:=(3,AV.one (cK m)); let n:=(11,bC [cK p.a,cK p.b,cK p.c,cK p.al,cK p.f]); let o:=(12,bC [cK x.a,cK x.b,cK x.c,cK x.al,cK x.own,cK x.f]); let q:=(13,bC [cK k.a,cK k.b,cK k.c,cK k.al,cK k.f]); let r:=(14,bC [cK 0,cK 0,cK 0,cK 0,cK 0,cK 0]); let s:=(dK f.f); let u:=(dK f.a); let v:=(dK f.b); (Ann.seq Ann.leaf (Ann.seq Ann.leaf (Ann.seq Ann.leaf (Ann.seq (Ann.seq Ann.leaf (Ann.link ⟨Unit,fun _u=>g,fun _u=>⟨[h,i,j,l,e,d,c,b,a,(17,aJ 0)],[n,o,q,r,(16,bC [cK 0,cK 0,cK 0,cK 0,cK 0,Cl.d s])]⟩,fun _u=>0⟩ (fun _u=>t) (Ann.link ⟨Unit,fun _u=>g,fun _u=>⟨[h,i,j,l,e,d,c,b,a,(17,aJ 1)],[n,o,q,r,(16,bC [Cl.d u,cK 0,cK 0,cK 0,cK 0,Cl.d s])]⟩,fun _u=>0⟩ (fun _u=>t) (Ann.link ⟨Unit,fun _u=>g,fun _u=>⟨[h,i,j,l,e,d,c,b,a,(17,aJ 2)],[n,o,q,r,(16,bC [Cl.d u,Cl.d v,cK 0,cK 0,cK 0,Cl.d s])]⟩,fun _u=>0⟩ (fun _u=>t) (Ann.link ⟨Unit,fun _u=>g,fun _u=>⟨[h,i,j,l,e,d,c,b,a,(17,aJ 3)],[n,o,q,r,(16,bC [Cl.d u,Cl.d v,cK f.c,cK 0,cK 0,Cl.d s])]⟩,fun _u=>0⟩ (fun _u=>(Ann.seq (Ann.seq Ann.leaf (Ann.sure false Ann.leaf)) Ann.leaf)) Ann.leaf))))) Ann.leaf))))) zQg Tryz.func94 rfl (nL rfl) fun hwf=>by
  refine Eq.mpr (by kernel_rfl:_=(let y:=(!(decide (1≤mode∧mode < 13))); let z:=(colS op mode m p.a p.al x.a x.al); let A:=(colS op mode m p.b p.al x.b x.al); let B:=(colS op mode m p.c p.al x.c x.al); let C:=(knoC mode m p.a p.al p.f x.a k.a k.al); let D:=(knoC mode m p.b p.al p.f x.b k.b k.al); let E:=(knoC mode m p.c p.al p.f x.c k.c k.al); let n:=(dQ kno=dQ kno); let j:=(zX5 kno op mode m p x k); let F:=(Ans prog 103 [rJ op,rJ mode,RV.d (dK m),RV.d (dK p.c),RV.d (dK p.al),RV.d (dK x.c),RV.d (dK x.al)] (RV.tup [RV.d (dK B),RV.d (dQ true)])); let G:=(Ans prog 103 [rJ op,rJ mode,RV.d (dK m),RV.d (dK p.b),RV.d (dK p.al),RV.d (dK x.b),RV.d (dK x.al)] (RV.tup [RV.d (dK A),RV.d (dQ true)])); let H:=(Ans prog 103 [rJ op,rJ mode,RV.d (dK m),RV.d (dK p.a),RV.d (dK p.al),RV.d (dK x.a),RV.d (dK x.al)] (RV.tup [RV.d (dK z),RV.d (dQ true)])); let I:=(Ans prog 102 [rJ mode,RV.d (dK m),RV.d (dK p.c),RV.d (dK p.al),RV.d (dK p.f),RV.d (dK x.c),RV.d (dK k.c),RV.d (dK k.al)] (RV.tup [RV.d (dK E),RV.d (dQ true)])); let J:=(Ans prog 102 [rJ mode,RV.d (dK m),RV.d (dK p.b),RV.d (dK p.al),RV.d (dK p.f),RV.d (dK x.b),RV.d (dK k.b),RV.d (dK k.al)] (RV.tup [RV.d (dK D),RV.d (dQ true)])); let K:=(Ans prog 102 [rJ mode,RV.d (dK m),RV.d (dK p.a),RV.d (dK p.al),RV.d (dK p.f),RV.d (dK x.a),RV.d (dK k.a),RV.d (dK k.al)] (RV.tup [RV.d (dK C),RV.d (dQ true)])); let b:=(zXg kno op mode m p x k=true); let a:=(accS kno op mode m p x k); let s:=[dK x.a,dK x.b,dK x.c,dK x.al,dK x.own,dK x.f]; let t:=[dK k.a,dK k.b,dK k.c,dK k.al,dK k.f]; let u:=[dK p.a,dK p.b,dK p.c,dK p.al,dK p.f]; let v:=[dK 0,dK 0,dK 0,dK 0,dK 0,dK 0]; let z0:=[RV.agg v,RV.d (dQ false)]; let w:=[RV.agg [dK j.a,dK j.b,dK j.c,dK j.al,dK j.own,dK j.f],RV.d (dQ (zXg kno op mode m p x k))]; let l:=(RV.tup z0=RV.tup w); let L:=(decide ((3:Int) < 3)=false∧True∧((kno=true→True∧tU8 ((Ans prog 104 [RV.d (dK m),RV.d (dK p.al),RV.d (dK p.f),RV.d (dK x.al),RV.d (dK k.al)] (RV.tup [RV.d (dK (knoA m p.al p.f x.al k.al)),RV.d (dQ true)]))∧tU4 (tU8 ((Ans prog 105 [RV.d (dK m),RV.d (dK p.al),RV.d (dK p.f),RV.d (dK x.own)] (RV.tup [RV.d (dK (knoA m p.al p.f x.own 0)),RV.d (dQ true)]))∧tU8 (RV.tup [RV.agg [dK a.a,dK a.b,dK a.c,dK (knoA m p.al p.f x.al k.al),dK (knoA m p.al p.f x.own 0),dK a.f],RV.d (dQ true)]=RV.tup w)))))∧(kno=false→tU6 ((Ans prog 106 [rJ op,RV.d (dK p.al),RV.d (dK x.al),RV.d (dK m)] (RV.d (dK (zZU op p.al x.al m))))∧tU6 ((Ans prog 106 [rJ op,RV.d (dK p.al),RV.d (dK x.own),RV.d (dK m)] (RV.d (dK (zZU op p.al x.own m))))∧tU4 ((true=true)∧tU3 (RV.tup [RV.agg [dK a.a,dK a.b,dK a.c,dK (zZU op p.al x.al m),dK (zZU op p.al x.own m),dK a.f],RV.d (dQ true)]=RV.tup w))))))); let M:=(Ans prog 101 [rJ op,RV.d (dK p.f),RV.d (dK x.f),RV.d (dK m)] (RV.d (dK (zXP op p.f x.f m)))); let o:=(dJ op=dJ op); let q:=(dJ mode=dJ mode); let r:=(dK m=dK m); let f:=(u=u); let g:=(s=s); let h:=(t=t); let i:=(v=v); let N:=((n∧o∧q∧r∧(0=0)∧(0=0)∧(0=0)∧(0=0)∧(0=0)∧(dJ 0=dJ 0)∧True)∧(f∧g∧h∧i∧([dK 0,dK 0,dK 0,dK 0,dK 0,dK (zXP op p.f x.f m)]=[dK 0,dK 0,dK 0,dK 0,dK 0,dK a.f])∧True)); let c:=(0≤(0:Int)∧(0:Int) < ((3:Nat):Int)); let O:=(n∧o∧q∧r∧(0=0)∧(0=0)∧(0=0)∧(0=0)∧(0=0)∧(dJ (wK ((0:Int)+1))=dJ 1)∧True); let P:=[dK a.a,dK 0,dK 0,dK 0,dK 0,dK a.f]; let Q:=(O∧(f∧g∧h∧i∧([dK z,dK 0,dK 0,dK 0,dK 0,dK a.f]=P)∧True)); let R:=(O∧(f∧g∧h∧i∧([dK C,dK 0,dK 0,dK 0,dK 0,dK a.f]=P)∧True)); let d:=(0≤(1:Int)∧(1:Int) < ((3:Nat):Int)); let S:=(n∧o∧q∧r∧(0=0)∧(0=0)∧(0=0)∧(0=0)∧(0=0)∧(dJ (wK ((1:Int)+1))=dJ 2)∧True); let T:=[dK a.a,dK a.b,dK 0,dK 0,dK 0,dK a.f]; let U:=(S∧(f∧g∧h∧i∧([dK a.a,dK A,dK 0,dK 0,dK 0,dK a.f]=T)∧True)); let V:=(S∧(f∧g∧h∧i∧([dK a.a,dK D,dK 0,dK 0,dK 0,dK a.f]=T)∧True)); let e:=(0≤(2:Int)∧(2:Int) < ((3:Nat):Int)); let W:=(n∧o∧q∧r∧(0=0)∧(0=0)∧(0=0)∧(0=0)∧(0=0)∧(dJ (wK ((2:Int)+1))=dJ 3)∧True); let X:=[dK a.a,dK a.b,dK a.c,dK 0,dK 0,dK a.f]; let Y:=(W∧(f∧g∧h∧i∧([dK a.a,dK a.b,dK B,dK 0,dK 0,dK a.f]=X)∧True)); let Z:=(W∧(f∧g∧h∧i∧([dK a.a,dK a.b,dK E,dK 0,dK 0,dK a.f]=X)∧True)); tU6 ((Ans prog 98 [rJ op] (RV.d (dQ (decide (1≤op∧op < 13)))))∧tU2 (((!(decide (1≤op∧op < 13)))=false→True∧(Ans prog 99 [rJ mode] (RV.d (dQ (decide (1≤mode∧mode < 13)))))∧tU3 ((y=false→tU3 ((Ans prog 81 [RV.agg s,RV.agg t,RV.d (dK m)] (RV.d (dQ (Ac.ok x k m))))∧tU3 (((!(Ac.ok x k m))=false→tU2 ((Ans prog 88 [RV.agg u,RV.d (dK m)] (RV.d (dQ (Px.ok p m))))∧tU3 (((!(Px.ok p m))=false→tU2 ((kno=true→tU4 (((op != 4)=true→tU3 l)∧((op != 4)=false→tU6 (M∧tU4 ((∃ _u:Unit,b∧N)∧((∀ _u:Unit,b→tU2 (decide ((0:Int) < 3)=true∧True∧((kno=true→tU5 (c∧tU7 (c∧tU3 (c∧tU3 (K∧tU4 (c∧True∧(true=true)∧tU3 (∃ _u:Unit,b∧R)))))))∧(kno=false→tU6 (c∧tU5 (c∧tU3 (H∧tU4 (c∧True∧(true=true)∧tU3 (∃ _u:Unit,b∧Q)))))))))∧(∀ _u:Unit,b→tU2 (decide ((1:Int) < 3)=true∧True∧((kno=true→tU5 (d∧tU7 (d∧tU3 (d∧tU3 (J∧tU4 (d∧True∧(true=true)∧tU3 (∃ _u:Unit,b∧V)))))))∧(kno=false→tU6 (d∧tU5 (d∧tU3 (G∧tU4 (d∧True∧(true=true)∧tU3 (∃ _u:Unit,b∧U)))))))))∧(∀ _u:Unit,b→tU2 (decide ((2:Int) < 3)=true∧True∧((kno=true→tU5 (e∧tU7 (e∧tU3 (e∧tU3 (I∧tU4 (e∧True∧(true=true)∧tU3 (∃ _u:Unit,b∧Z)))))))∧(kno=false→tU6 (e∧tU5 (e∧tU3 (F∧tU4 (e∧True∧(true=true)∧tU3 (∃ _u:Unit,b∧Y)))))))))∧(∀ _u:Unit,b→tU2 L)∧True))))))∧(kno=(!true)→tU8 (M∧tU4 ((∃ _u:Unit,b∧N)∧((∀ _u:Unit,b→tU2 (decide ((0:Int) < 3)=true∧True∧((kno=true→tU5 (c∧tU7 (c∧tU3 (c∧tU3 (K∧tU4 (c∧True∧(true=true)∧tU3 (∃ _u:Unit,b∧R)))))))∧(kno=false→tU6 (c∧tU5 (c∧tU3 (H∧tU4 (c∧True∧(true=true)∧tU3 (∃ _u:Unit,b∧Q)))))))))∧(∀ _u:Unit,b→tU2 (decide ((1:Int) < 3)=true∧True∧((kno=true→tU5 (d∧tU7 (d∧tU3 (d∧tU3 (J∧tU4 (d∧True∧(true=true)∧tU3 (∃ _u:Unit,b∧V)))))))∧(kno=false→tU6 (d∧tU5 (d∧tU3 (G∧tU4 (d∧True∧(true=true)∧tU3 (∃ _u:Unit,b∧U)))))))))∧(∀ _u:Unit,b→tU2 (decide ((2:Int) < 3)=true∧True∧((kno=true→tU5 (e∧tU7 (e∧tU3 (e∧tU3 (I∧tU4 (e∧True∧(true=true)∧tU3 (∃ _u:Unit,b∧Z)))))))∧(kno=false→tU6 (e∧tU5 (e∧tU3 (F∧tU4 (e∧True∧(true=true)∧tU3 (∃ _u:Unit,b∧Y)))))))))∧(∀ _u:Unit,b→tU2 L)∧True))))))∧((!(Px.ok p m))=(!false)→tU4 l))))∧((!(Ac.ok x k m))=(!false)→tU6 l))))∧(y=(!false)→tU8 l)))∧((!(decide (1≤op∧op < 13)))=(!false)→tU2 (tU8 l)))))) ?_
  delta dJ dK dQ wK rJ
  simp only [sS]
  simp only [RV.wfs,RV.wf,DV.wf,DV.wfs] at hwf
  have mi:IntKind.min .u64=0:=rfl
  have ma:IntKind.max .u64=18446744073709551615:=rfl
  have mj:IntKind.min .u16=0:=rfl
  have mb:IntKind.max .u16=65535:=rfl
  simp only [mi,ma,mj,mb] at hwf
  obtain ⟨_,_,_,⟨m0,m1⟩,⟨⟨pa0,_⟩,⟨pb0,_⟩,⟨pc0,_⟩,⟨pl0,_⟩,⟨pf0,_⟩,_⟩,⟨⟨xa0,_⟩,⟨xb0,_⟩,⟨xc0,_⟩,⟨xl0,_⟩,⟨xo0,_⟩,⟨xf0,_⟩,_⟩,⟨⟨ka0,_⟩,⟨kb0,_⟩,⟨kc0,_⟩,⟨kl0,_⟩,⟨kf0,_⟩,_⟩,_⟩:=hwf
  have va:=zYt x k m
  have vp:=zQT p.a p.b p.c p.al p.f m
  change Ans _ _ _ (RV.d (DV.bool (p.ok m))) at vp
  have io:=zQV op
  have im:=zQI mode
  have mk:1≤op∧op < 13→1≤mode∧mode < 13→x.ok k m=true→p.ok m=true→(kno=true→op=4)→zXg kno op mode m p x k=true:=fun h1 h2 h3 h4 h5=>by
   unfold zXg isNm
   rw [decide_eq_true h1,decide_eq_true h2,h3,h4]
   cases kno with
   | false=>rfl
   | true=>rw [h5 rfl]; rfl
  have e0:zX5 kno op mode m p x k=if zXg kno op mode m p x k then accS kno op mode m p x k else .zero:=rfl
  cases hs:zXg kno op mode m p x k with
  | false=>
   rw [hs] at e0 mk
   have e0:zX5 kno op mode m p x k=.zero:=e0
   rw [e0]
   have Z:(0=Ac.zero.a∧0=Ac.zero.b∧0=Ac.zero.c∧0=Ac.zero.al∧0=Ac.zero.own∧0=Ac.zero.f)∧false=false:=⟨⟨rfl,rfl,rfl,rfl,rfl,rfl⟩,rfl⟩
   refine ⟨io,fun ho=>⟨im,fun hmo=>⟨va,fun hx=>⟨vp,fun hp=>⟨fun hk=>⟨fun h4=>Z,fun h4=>?_⟩,fun hk=>?_⟩,fun hp=>Z⟩,fun hx=>Z⟩,fun hmo=>Z⟩,fun ho=>Z⟩
   ·have:=mk ho hmo hx hp (fun _=>by simpa using h4)
    cases this
   ·have:=mk ho hmo hx hp (fun h=>by rw [hk] at h; cases h)
    cases this
  | true=>
   rw [hs] at e0
   have e0:zX5 kno op mode m p x k=accS kno op mode m p x k:=e0
   clear mk
   unfold zXg at hs
   simp only [Bool.and_eq_true] at hs
   obtain ⟨h1,h2,h3,h4,h5⟩:=hs
   obtain ⟨⟨q1,q2,q3⟩,hf,⟨q4,q5,q6,q7⟩,hk2,hk3⟩:=Ac.ok_iff.1 h3
   obtain ⟨r1,r2,r3,r4,r5⟩:=Px.ok_iff.1 hk2
   obtain ⟨p1,p2,p3,p4,p5⟩:=Px.ok_iff.1 h4
   have sh:=zHj op p.f x.f m hf h1 p5 q7
   have k1:=zXs mode m p.a p.al p.f x.a k.a k.al hf h2 p1 p4 p5 r1 (by omega) (by omega)
   have k2:=zXs mode m p.b p.al p.f x.b k.b k.al hf h2 p2 p4 p5 r2 (by omega) (by omega)
   have k3:=zXs mode m p.c p.al p.f x.c k.c k.al hf h2 p3 p4 p5 r3 (by omega) (by omega)
   have c1:=zJe op mode m p.a p.al x.a x.al hf h1 h2 p1 (by omega) q1 q6
   have c2:=zJe op mode m p.b p.al x.b x.al hf h1 h2 p2 (by omega) q2 q6
   have c3:=zJe op mode m p.c p.al x.c x.al hf h1 h2 p3 (by omega) q3 q6
   have ka:=zYu m p.al p.f x.al k.al hf p4 p5 q6 (by omega)
   have ko:=zV7 m p.al p.f x.own hf p4 p5 (by omega)
   have a1:=zVh op p.al x.al m hf h1 (by omega) q6
   have a2:=zVh op p.al x.own m hf h1 (by omega) (by omega)
   have w1:IntKind.wrap .i64 (0+1)=1:=by decide
   have w2:IntKind.wrap .i64 (1+1)=2:=by decide
   have w3:IntKind.wrap .i64 (2+1)=3:=by decide
   have h1':1≤op∧op < 13:=of_decide_eq_true h1
   have h2':1≤mode∧mode < 13:=of_decide_eq_true h2
   rw [h3] at va
   rw [h4] at vp
   rw [e0,h3,h4]
   cases kno with
   | false=>
    (repeat' (first | apply And.intro | intro _ | refine Exists.intro () ?_)) <;> first | exact io | exact im | exact va | exact vp | exact sh | exact c1 | exact c2 | exact c3 | exact a1 | exact a2 | exact w1 | exact w2 | exact w3 | rfl | decide | (exfalso; contradiction) | (exfalso; omega)
   | true=>
    have h5:op=4:=by simpa using h5
    have h6:(op != 4)=false:=by simpa using h5
    have nb:((op != 4)=true)=False:=by rw [h6]; simp
    simp only [nb,false_implies,true_and]
    (repeat' (first | apply And.intro | intro _ | refine Exists.intro () ?_)) <;> first | exact io | exact im | exact va | exact vp | exact sh | exact k1 | exact k2 | exact k3 | exact ka | exact ko | exact w1 | exact w2 | exact w3 | rfl | decide | (exfalso; contradiction) | (exfalso; omega)
theorem zYz (x:Ac) (k:Px) (m:Int):Ans prog 54 [RV.agg [dK x.a,dK x.b,dK x.c,dK x.al,dK x.own,dK x.f],RV.agg [dK k.a,dK k.b,dK k.c,dK k.al,dK k.f],RV.d (dK m)] (RV.tup [RV.agg [dK ((resE x k m).a),dK ((resE x k m).b),dK ((resE x k m).c),dK ((resE x k m).al),dK ((resE x k m).f)],RV.d (dQ (Ac.ok x k m))]):=
 zQa (Γ:=jXe) (let d:=(x.ok k m=true); let e:=(8,AV.one (Cl.ptr 8 0)); let f:=(6,AV.one (Cl.ptr 6 0)); let g:=(4,AV.one (Cl.ptr 4 0)); let h:=(3,AV.one (Cl.ptr 3 0)); let o:=(Ann.seq (Ann.seq Ann.leaf (Ann.sure true Ann.leaf)) Ann.leaf); let i:=(9,AV.one (Cl.d (DV.int .u64 (IntKind.wrap .u64 m)))); let j:=(3,bC [cK x.a,cK x.b,cK x.c,cK x.al,cK x.own,cK x.f]); let l:=(4,bC [cK k.a,cK k.b,cK k.c,cK k.al,cK k.f]); let n:=(6,bC [cK 0,cK 0,cK 0,cK 0,cK 0]); let p:=(dK (zZG x k m).a); let q:=(dK (zZG x k m).b); (Ann.seq Ann.leaf (Ann.seq Ann.leaf (Ann.seq Ann.leaf (Ann.seq Ann.leaf (Ann.seq (Ann.seq Ann.leaf (Ann.link ⟨Unit,fun _u=>d,fun _u=>⟨[h,g,f,e,i,(10,aJ 0)],[j,l,n,(8,bC [cK 0,cK 0,cK 0,cK x.own,cK x.f])]⟩,fun _u=>0⟩ (fun _u=>o) (Ann.link ⟨Unit,fun _u=>d,fun _u=>⟨[h,g,f,e,i,(10,aJ 1)],[j,l,n,(8,bC [Cl.d p,cK 0,cK 0,cK x.own,cK x.f])]⟩,fun _u=>0⟩ (fun _u=>o) (Ann.link ⟨Unit,fun _u=>d,fun _u=>⟨[h,g,f,e,i,(10,aJ 2)],[j,l,n,(8,bC [Cl.d p,Cl.d q,cK 0,cK x.own,cK x.f])]⟩,fun _u=>0⟩ (fun _u=>o) (Ann.link ⟨Unit,fun _u=>d,fun _u=>⟨[h,g,f,e,i,(10,aJ 3)],[j,l,n,(8,bC [Cl.d p,Cl.d q,cK (zZG x k m).c,cK x.own,cK x.f])]⟩,fun _u=>0⟩ (fun _u=>(Ann.seq (Ann.seq Ann.leaf (Ann.sure false Ann.leaf)) Ann.leaf)) Ann.leaf))))) Ann.leaf)))))) zQg Tryz.func54 rfl (nL rfl) fun hwf=>by
  refine Eq.mpr (by kernel_rfl:_=(let g:=(resE x k m); let h:=(IntKind.wrap .u64 x.own); let c:=(zZG x k m); let b:=(x.ok k m=true); let a:=(IntKind.wrap .u64 m); let j:=[dK x.a,dK x.b,dK x.c,dK x.al,dK x.own,dK x.f]; let l:=[dK k.a,dK k.b,dK k.c,dK k.al,dK k.f]; let n:=[dK 0,dK 0,dK 0,dK 0,dK 0]; let H:=[RV.agg [dK g.a,dK g.b,dK g.c,dK g.al,dK g.f],RV.d (dQ (Ac.ok x k m))]; let i:=(DV.int .u64 a=DV.int .u64 a); let d:=(j=j); let e:=(l=l); let f:=(n=n); let o:=[dK 0,dK 0,dK 0,dK x.own,dK x.f]; let p:=(0≤(0:Int)∧(0:Int) < ((3:Nat):Int)); let q:=(IntKind.wrap .u64 (a*(IntKind.wrap .u64 x.a))); let r:=(IntKind.wrap .u64 (a - h)); let s:=(IntKind.wrap .u64 (r*(IntKind.wrap .u64 k.a))); let t:=(IntKind.wrap .u64 (q - s)); let u:=(DV.int .u64 a); let I:=((0=0)∧(0=0)∧(0=0)∧(0=0)∧i∧(dJ (wK ((0:Int)+1))=dJ 1)∧True); let v:=[dK c.a,dK 0,dK 0,dK x.own,dK x.f]; let w:=(0≤(1:Int)∧(1:Int) < ((3:Nat):Int)); let y:=(IntKind.wrap .u64 (a*(IntKind.wrap .u64 x.b))); let z:=(IntKind.wrap .u64 (r*(IntKind.wrap .u64 k.b))); let A:=(IntKind.wrap .u64 (y - z)); let J:=((0=0)∧(0=0)∧(0=0)∧(0=0)∧i∧(dJ (wK ((1:Int)+1))=dJ 2)∧True); let B:=[dK c.a,dK c.b,dK 0,dK x.own,dK x.f]; let C:=(0≤(2:Int)∧(2:Int) < ((3:Nat):Int)); let D:=(IntKind.wrap .u64 (a*(IntKind.wrap .u64 x.c))); let E:=(IntKind.wrap .u64 (r*(IntKind.wrap .u64 k.c))); let F:=(IntKind.wrap .u64 (D - E)); let K:=((0=0)∧(0=0)∧(0=0)∧(0=0)∧i∧(dJ (wK ((2:Int)+1))=dJ 3)∧True); let G:=[dK c.a,dK c.b,dK c.c,dK x.own,dK x.f]; tU7 ((Ans prog 81 [RV.agg j,RV.agg l,RV.d (dK m)] (RV.d (dQ (Ac.ok x k m))))∧True∧(((!(Ac.ok x k m))=true→tU3 (RV.tup [RV.agg n,RV.d (dQ false)]=RV.tup H))∧((!(Ac.ok x k m))=false→tU3 (tU8 ((∃ _u:Unit,b∧(((0=0)∧(0=0)∧(0=0)∧(0=0)∧i∧(dJ 0=dJ 0)∧True)∧(d∧e∧f∧(o=o)∧True)))∧((∀ _u:Unit,b→tU2 (decide ((0:Int) < 3)=true∧tU3 (p∧tU2 (tU8 (p∧tU5 ((true=true)∧tU3 (((decide (q > s))=true→tU5 ((Ans prog 82 [RV.d (DV.int .u64 t),RV.d u] (RV.d (DV.int .u64 (zQO t a))))∧tU6 (p∧True∧(true=true)∧tU3 (∃ _u:Unit,b∧(I∧(d∧e∧f∧([dK (IntKind.wrap .u16 (min (zQO t a) h)),dK 0,dK 0,dK x.own,dK x.f]=v)∧True))))))∧((decide (q > s))=false→tU3 (∃ _u:Unit,b∧(I∧(d∧e∧f∧(o=v)∧True)))))))))))∧(∀ _u:Unit,b→tU2 (decide ((1:Int) < 3)=true∧tU3 (w∧tU2 (tU8 (w∧tU5 ((true=true)∧tU3 (((decide (y > z))=true→tU5 ((Ans prog 82 [RV.d (DV.int .u64 A),RV.d u] (RV.d (DV.int .u64 (zQO A a))))∧tU6 (w∧True∧(true=true)∧tU3 (∃ _u:Unit,b∧(J∧(d∧e∧f∧([dK c.a,dK (IntKind.wrap .u16 (min (zQO A a) h)),dK 0,dK x.own,dK x.f]=B)∧True))))))∧((decide (y > z))=false→tU3 (∃ _u:Unit,b∧(J∧(d∧e∧f∧(v=B)∧True)))))))))))∧(∀ _u:Unit,b→tU2 (decide ((2:Int) < 3)=true∧tU3 (C∧tU2 (tU8 (C∧tU5 ((true=true)∧tU3 (((decide (D > E))=true→tU5 ((Ans prog 82 [RV.d (DV.int .u64 F),RV.d u] (RV.d (DV.int .u64 (zQO F a))))∧tU6 (C∧True∧(true=true)∧tU3 (∃ _u:Unit,b∧(K∧(d∧e∧f∧([dK c.a,dK c.b,dK (IntKind.wrap .u16 (min (zQO F a) h)),dK x.own,dK x.f]=G)∧True))))))∧((decide (D > E))=false→tU3 (∃ _u:Unit,b∧(K∧(d∧e∧f∧(B=G)∧True)))))))))))∧(∀ _u:Unit,b→tU2 (decide ((3:Int) < 3)=false∧tU3 (RV.tup [RV.agg G,RV.d (dQ true)]=RV.tup H)))∧True)))))))) ?_
  delta dJ dK dQ wK
  simp only [sS]
  simp only [RV.wfs,RV.wf,DV.wf,DV.wfs] at hwf
  have mi:IntKind.min .u64=0:=rfl
  have ma:IntKind.max .u64=18446744073709551615:=rfl
  have mj:IntKind.min .u16=0:=rfl
  have mb:IntKind.max .u16=65535:=rfl
  simp only [mi,ma,mj,mb] at hwf
  have W:∀ x:Int,0≤x→x < 18446744073709551616→IntKind.wrap .u64 x=x:=fun x x0 x1=>IntWalk.u64_in x ⟨x0,by omega⟩
  have U:∀ x:Int,0≤x→x≤65535→IntKind.wrap .u16 x=x:=fun x x0 x1=>IntWalk.u16_in x ⟨x0,by omega⟩
  obtain ⟨⟨⟨xa0,xa1⟩,⟨xb0,xb1⟩,⟨xc0,xc1⟩,⟨xl0,xl1⟩,⟨xo0,xo1⟩,⟨xf0,xf1⟩,_⟩,⟨⟨ka0,ka1⟩,⟨kb0,kb1⟩,⟨kc0,kc1⟩,⟨kl0,kl1⟩,⟨kf0,kf1⟩,_⟩,⟨m0,m1⟩,_⟩:=hwf
  have va:=zYt x k m
  have e0:resE x k m=if x.ok k m then zZG x k m else .zero:=rfl
  cases hx:x.ok k m with
  | false=>
   rw [hx] at e0 va
   have e0:resE x k m=.zero:=e0
   rw [e0]
   exact ⟨va,fun _=>⟨⟨rfl,rfl,rfl,rfl,rfl⟩,rfl⟩,fun h=>by cases h⟩
  | true=>
   rw [hx] at e0 va
   have e0:resE x k m=zZG x k m:=e0
   rw [e0]
   obtain ⟨⟨q1,q2,q3⟩,hf,⟨q4,q5,q6,q7⟩,hk2,hk3⟩:=Ac.ok_iff.1 hx
   have hm:=(zZd hf).1
   have w1:IntKind.wrap .i64 (0+1)=1:=by decide
   have w2:IntKind.wrap .i64 (1+1)=2:=by decide
   have w3:IntKind.wrap .i64 (2+1)=3:=by decide
   simp only [W m m0 (by omega),W x.own xo0 (by omega),W (m - x.own) (by omega) (by omega)]
   have one:∀ c b:Int,0≤c→c≤65535→0≤b→b≤65535→(IntKind.wrap .u64 (m*IntKind.wrap .u64 c)=m*c∧IntKind.wrap .u64 ((m - x.own)*IntKind.wrap .u64 b)=(m - x.own)*b)∧(m*c > (m - x.own)*b→Ans prog 82 [RV.d (DV.int .u64 (IntKind.wrap .u64 (m*c - (m - x.own)*b))),RV.d (DV.int .u64 m)] (RV.d (DV.int .u64 (zQO (IntKind.wrap .u64 (m*c - (m - x.own)*b)) m)))∧IntKind.wrap .u16 (min (zQO (IntKind.wrap .u64 (m*c - (m - x.own)*b)) m) x.own)=remS m c x.own b)∧(¬ m*c > (m - x.own)*b→0=remS m c x.own b):=fun c b c0 c1 b0 b1=>by
    have n1:=zQj m0 m1 c0 c1
    have n2:=zQj (x:=m - x.own) (y:=b) (A:=65535) (B:=65535) (by omega) (by omega) b0 b1
    refine ⟨⟨by rw [W c c0 (by omega),W _ n1.1 (by omega)],by rw [W b b0 (by omega),W _ n2.1 (by omega)]⟩,fun h=>⟨zQW _ _,?_⟩,fun h=>by unfold remS; rw [if_neg h]⟩
    have:=zGz (c:=c) (b:=b) hm xo0
    rw [W (m*c - (m - x.own)*b) (by omega) (by omega)]
    unfold remS at this ⊢
    rw [if_pos h] at this ⊢
    exact U _ this.1 (by omega)
   obtain ⟨⟨u1,u2⟩,u3,u4⟩:=one x.a k.a xa0 xa1 ka0 ka1
   obtain ⟨⟨v1,v2⟩,v3,v4⟩:=one x.b k.b xb0 xb1 kb0 kb1
   obtain ⟨⟨t1,t2⟩,t3,t4⟩:=one x.c k.c xc0 xc1 kc0 kc1
   simp only [u1,u2,v1,v2,t1,t2]
   simp only [zZG]
   refine ⟨va,fun h=>(by cases h),fun _=>⟨⟨(),trivial⟩,fun _=>⟨by decide,by decide,by decide,fun h=>⟨(u3 h).1,by decide,(),trivial,w1,(u3 h).2⟩,fun h=>⟨(),trivial,w1,u4 h⟩⟩,fun _=>⟨by decide,by decide,by decide,fun h=>⟨(v3 h).1,by decide,(),trivial,w2,(v3 h).2⟩,fun h=>⟨(),trivial,w2,v4 h⟩⟩,fun _=>⟨by decide,by decide,by decide,fun h=>⟨(t3 h).1,by decide,(),trivial,w3,(t3 h).2⟩,fun h=>⟨(),trivial,w3,t4 h⟩⟩,fun _=>⟨by decide,?_⟩⟩⟩
   (repeat' (first | exact trivial | rfl | apply And.intro))
end
theorem jKf {l:List Lv} {k:Nat} (h:k < l.length) (j:Nat) (hj:j < 23):(lvs l)[k*23+j]?=l[k].cells[j]?:=by
 induction l generalizing k with
 | nil=>simp at h
 | cons o l ih=>
  have e:lvs (o::l)=o.cells++lvs l:=by simp [lvs]
  have ec:o.cells.length=23:=rfl
  rw [e]
  cases k with
  | zero=>simp only [List.getElem_cons_zero]; rw [List.getElem?_append_left (by omega)]; simp
  | succ k=>
   rw [List.getElem?_append_right (by omega)]
   have:=ih (k:=k) (by simpa using h)
   simp only [List.getElem_cons_succ]
   rw [← this]
   congr 1
   omega
theorem zK0 {l:List Lv} {k:Nat} (h:k < l.length):(lvs l)[k*23+0]?=some (.int .i64 l[k].op.kind)∧(lvs l)[k*23+1]?=some (.int .i64 l[k].op.image)∧(lvs l)[k*23+2]?=some (.int .i64 l[k].op.x)∧(lvs l)[k*23+3]?=some (.int .i64 l[k].op.y)∧(lvs l)[k*23+4]?=some (.int .i64 l[k].op.mask)∧(lvs l)[k*23+5]?=some (.int .i64 l[k].op.mx)∧(lvs l)[k*23+6]?=some (.int .i64 l[k].op.my)∧(lvs l)[k*23+7]?=some (.int .u16 l[k].op.opac)∧(lvs l)[k*23+8]?=some (.int .i64 l[k].op.oper)∧(lvs l)[k*23+9]?=some (.int .i64 l[k].op.mode)∧(lvs l)[k*23+10]?=some (.bool l[k].op.iso)∧(lvs l)[k*23+11]?=some (.bool l[k].op.kno)∧(lvs l)[k*23+12]?=some (.int .u16 l[k].acc.a)∧(lvs l)[k*23+13]?=some (.int .u16 l[k].acc.b)∧(lvs l)[k*23+14]?=some (.int .u16 l[k].acc.c)∧(lvs l)[k*23+15]?=some (.int .u16 l[k].acc.al)∧(lvs l)[k*23+16]?=some (.int .u16 l[k].acc.own)∧(lvs l)[k*23+17]?=some (.int .u16 l[k].acc.f)∧(lvs l)[k*23+18]?=some (.int .u16 l[k].back.a)∧(lvs l)[k*23+19]?=some (.int .u16 l[k].back.b)∧(lvs l)[k*23+20]?=some (.int .u16 l[k].back.c)∧(lvs l)[k*23+21]?=some (.int .u16 l[k].back.al)∧(lvs l)[k*23+22]?=some (.int .u16 l[k].back.f):=by
 have g:=fun j hj=>jKf h j hj
 exact ⟨g 0 (by omega),g 1 (by omega),g 2 (by omega),g 3 (by omega),g 4 (by omega),g 5 (by omega),g 6 (by omega),g 7 (by omega),g 8 (by omega),g 9 (by omega),g 10 (by omega),g 11 (by omega),g 12 (by omega),g 13 (by omega),g 14 (by omega),g 15 (by omega),g 16 (by omega),g 17 (by omega),g 18 (by omega),g 19 (by omega),g 20 (by omega),g 21 (by omega),g 22 (by omega)⟩
theorem zK1 {l:List Lv} {k:Nat} (h:k < l.length):nAt (lvs l) (k*23+0)=l[k].op.kind∧nAt (lvs l) (k*23+1)=l[k].op.image∧nAt (lvs l) (k*23+2)=l[k].op.x∧nAt (lvs l) (k*23+3)=l[k].op.y∧nAt (lvs l) (k*23+4)=l[k].op.mask∧nAt (lvs l) (k*23+5)=l[k].op.mx∧nAt (lvs l) (k*23+6)=l[k].op.my∧nAt (lvs l) (k*23+7)=l[k].op.opac∧nAt (lvs l) (k*23+8)=l[k].op.oper∧nAt (lvs l) (k*23+9)=l[k].op.mode∧bAt (lvs l) (k*23+10)=l[k].op.iso∧bAt (lvs l) (k*23+11)=l[k].op.kno∧nAt (lvs l) (k*23+12)=l[k].acc.a∧nAt (lvs l) (k*23+13)=l[k].acc.b∧nAt (lvs l) (k*23+14)=l[k].acc.c∧nAt (lvs l) (k*23+15)=l[k].acc.al∧nAt (lvs l) (k*23+16)=l[k].acc.own∧nAt (lvs l) (k*23+17)=l[k].acc.f∧nAt (lvs l) (k*23+18)=l[k].back.a∧nAt (lvs l) (k*23+19)=l[k].back.b∧nAt (lvs l) (k*23+20)=l[k].back.c∧nAt (lvs l) (k*23+21)=l[k].back.al∧nAt (lvs l) (k*23+22)=l[k].back.f:=by
 obtain ⟨e0,e1,e2,e3,e4,e5,e6,e7,e8,e9,e10,e11,e12,e13,e14,e15,e16,e17,e18,e19,e20,e21,e22⟩:=zK0 h
 simp only [nAt,bAt,e0,e1,e2,e3,e4,e5,e6,e7,e8,e9,e10,e11,e12,e13,e14,e15,e16,e17,e18,e19,e20,e21,e22,and_self]
def lvAt (xs:List DV) (i:Nat):Lv:=⟨⟨nAt xs (i+0),nAt xs (i+1),nAt xs (i+2),nAt xs (i+3),nAt xs (i+4),nAt xs (i+5),nAt xs (i+6),nAt xs (i+7),nAt xs (i+8),nAt xs (i+9),bAt xs (i+10),bAt xs (i+11)⟩,⟨nAt xs (i+12),nAt xs (i+13),nAt xs (i+14),nAt xs (i+15),nAt xs (i+16),nAt xs (i+17)⟩,⟨nAt xs (i+18),nAt xs (i+19),nAt xs (i+20),nAt xs (i+21),nAt xs (i+22)⟩⟩
theorem jJe {l:List Lv} {k:Nat} (h:k < l.length):lvAt (lvs l) (k*23)=l[k]:=by
 obtain ⟨e0,e1,e2,e3,e4,e5,e6,e7,e8,e9,e10,e11,e12,e13,e14,e15,e16,e17,e18,e19,e20,e21,e22⟩:=zK1 h
 simp only [lvAt,e0,e1,e2,e3,e4,e5,e6,e7,e8,e9,e10,e11,e12,e13,e14,e15,e16,e17,e18,e19,e20,e21,e22]
def zQw (xs:List DV):List Lv:=(List.range (xs.length / 23)).map fun k=>lvAt xs (k*23)
theorem zKI (l:List Lv):zQw (lvs l)=l:=by
 have e:(lvs l).length / 23=l.length:=by rw [zYc]; omega
 unfold zQw
 rw [e]
 refine List.ext_getElem (by simp) fun i h1 h2=>?_
 simp only [List.getElem_map,List.getElem_range]
 exact jJe h2
structure Mc where
  at_:Int
  kind:Int
  inp:Px
  back:Px
  k:Int
  out:Px
def Mc.cells (t:Mc):List DV:=[.int .i64 t.at_,.int .i64 t.kind]++(t.inp.ds++(t.back.ds++([.int .u16 t.k]++t.out.ds)))
def mcs (l:List Mc):List DV:=l.flatMap Mc.cells
theorem zJT (l k:List Mc):mcs l++mcs k=mcs (l++k):=by simp [mcs]
theorem zZQ (l:List Mc):(mcs l).length=l.length*18:=by
 induction l with
 | nil=>rfl
 | cons t l ih=>
  show (t.cells++mcs l).length=_
  rw [List.length_append,ih]
  simp only [Mc.cells,Px.ds,List.length_append,List.length_cons,List.length_nil]
  omega
theorem jKe {l:List Mc} {k:Nat} (h:k < l.length) (j:Nat) (hj:j < 18):(mcs l)[k*18+j]?=l[k].cells[j]?:=by
 induction l generalizing k with
 | nil=>simp at h
 | cons o l ih=>
  have e:mcs (o::l)=o.cells++mcs l:=by simp [mcs]
  have ec:o.cells.length=18:=rfl
  rw [e]
  cases k with
  | zero=>simp only [List.getElem_cons_zero]; rw [List.getElem?_append_left (by omega)]; simp
  | succ k=>
   rw [List.getElem?_append_right (by omega)]
   have:=ih (k:=k) (by simpa using h)
   simp only [List.getElem_cons_succ]
   rw [← this]
   congr 1
   omega
theorem jKQ {l:List Mc} {k:Nat} (h:k < l.length):(mcs l)[k*18+0]?=some (.int .i64 l[k].at_)∧(mcs l)[k*18+1]?=some (.int .i64 l[k].kind)∧(mcs l)[k*18+2]?=some (.int .u16 l[k].inp.a)∧(mcs l)[k*18+3]?=some (.int .u16 l[k].inp.b)∧(mcs l)[k*18+4]?=some (.int .u16 l[k].inp.c)∧(mcs l)[k*18+5]?=some (.int .u16 l[k].inp.al)∧(mcs l)[k*18+6]?=some (.int .u16 l[k].inp.f)∧(mcs l)[k*18+7]?=some (.int .u16 l[k].back.a)∧(mcs l)[k*18+8]?=some (.int .u16 l[k].back.b)∧(mcs l)[k*18+9]?=some (.int .u16 l[k].back.c)∧(mcs l)[k*18+10]?=some (.int .u16 l[k].back.al)∧(mcs l)[k*18+11]?=some (.int .u16 l[k].back.f)∧(mcs l)[k*18+12]?=some (.int .u16 l[k].k)∧(mcs l)[k*18+13]?=some (.int .u16 l[k].out.a)∧(mcs l)[k*18+14]?=some (.int .u16 l[k].out.b)∧(mcs l)[k*18+15]?=some (.int .u16 l[k].out.c)∧(mcs l)[k*18+16]?=some (.int .u16 l[k].out.al)∧(mcs l)[k*18+17]?=some (.int .u16 l[k].out.f):=by
 have g:=fun j hj=>jKe h j hj
 exact ⟨g 0 (by omega),g 1 (by omega),g 2 (by omega),g 3 (by omega),g 4 (by omega),g 5 (by omega),g 6 (by omega),g 7 (by omega),g 8 (by omega),g 9 (by omega),g 10 (by omega),g 11 (by omega),g 12 (by omega),g 13 (by omega),g 14 (by omega),g 15 (by omega),g 16 (by omega),g 17 (by omega)⟩
theorem jKR {l:List Mc} {k:Nat} (h:k < l.length):nAt (mcs l) (k*18+0)=l[k].at_∧nAt (mcs l) (k*18+1)=l[k].kind∧nAt (mcs l) (k*18+2)=l[k].inp.a∧nAt (mcs l) (k*18+3)=l[k].inp.b∧nAt (mcs l) (k*18+4)=l[k].inp.c∧nAt (mcs l) (k*18+5)=l[k].inp.al∧nAt (mcs l) (k*18+6)=l[k].inp.f∧nAt (mcs l) (k*18+7)=l[k].back.a∧nAt (mcs l) (k*18+8)=l[k].back.b∧nAt (mcs l) (k*18+9)=l[k].back.c∧nAt (mcs l) (k*18+10)=l[k].back.al∧nAt (mcs l) (k*18+11)=l[k].back.f∧nAt (mcs l) (k*18+12)=l[k].k∧nAt (mcs l) (k*18+13)=l[k].out.a∧nAt (mcs l) (k*18+14)=l[k].out.b∧nAt (mcs l) (k*18+15)=l[k].out.c∧nAt (mcs l) (k*18+16)=l[k].out.al∧nAt (mcs l) (k*18+17)=l[k].out.f:=by
 obtain ⟨e0,e1,e2,e3,e4,e5,e6,e7,e8,e9,e10,e11,e12,e13,e14,e15,e16,e17⟩:=jKQ h
 simp only [nAt,bAt,e0,e1,e2,e3,e4,e5,e6,e7,e8,e9,e10,e11,e12,e13,e14,e15,e16,e17,and_self]
def mcAt (xs:List DV) (i:Nat):Mc:=⟨nAt xs (i+0),nAt xs (i+1),⟨nAt xs (i+2),nAt xs (i+3),nAt xs (i+4),nAt xs (i+5),nAt xs (i+6)⟩,⟨nAt xs (i+7),nAt xs (i+8),nAt xs (i+9),nAt xs (i+10),nAt xs (i+11)⟩,nAt xs (i+12),⟨nAt xs (i+13),nAt xs (i+14),nAt xs (i+15),nAt xs (i+16),nAt xs (i+17)⟩⟩
theorem jJb {l:List Mc} {k:Nat} (h:k < l.length):mcAt (mcs l) (k*18)=l[k]:=by
 obtain ⟨e0,e1,e2,e3,e4,e5,e6,e7,e8,e9,e10,e11,e12,e13,e14,e15,e16,e17⟩:=jKR h
 simp only [mcAt,e0,e1,e2,e3,e4,e5,e6,e7,e8,e9,e10,e11,e12,e13,e14,e15,e16,e17]
def zWg (xs:List DV):List Mc:=(List.range (xs.length / 18)).map fun k=>mcAt xs (k*18)
theorem jXy (l:List Mc):zWg (mcs l)=l:=by
 have e:(mcs l).length / 18=l.length:=by rw [zZQ]; omega
 unfold zWg
 rw [e]
 refine List.ext_getElem (by simp) fun i h1 h2=>?_
 simp only [List.getElem_map,List.getElem_range]
 exact jJb h2
def zXx (l:List Mc) (i:Int) (o:Oq) (p:Px) (mask m:Int):List Mc × Px:=
 if o.mask≠0 then
  (l++[⟨i,2,p,.zero,mask,(zQU p mask m).1⟩]++[⟨i,3,(zQU p mask m).1,.zero,o.opac,(zQU (zQU p mask m).1 o.opac m).1⟩],(zQU (zQU p mask m).1 o.opac m).1)
 else (l++[⟨i,3,p,.zero,o.opac,(zQU p o.opac m).1⟩],(zQU p o.opac m).1)
def Ac.col (x:Ac):Px:=⟨x.a,x.b,x.c,x.al,x.f⟩
theorem jKP {m:Im} {x y dx dy:Int} (h:¬ (x < dx∨y < dy∨x - dx≥1099511627776∨y - dy≥1099511627776)):zZF m x y dx dy=m.at_ (x - dx) (y - dy):=by
 unfold zZF; rw [if_neg h]
theorem zHT {ms:List Im} {i:Int} {x y dx dy:Int} (h0:0≤i) (h:i.toNat < ms.length):zJA ms i x y dx dy=zZF ms[i.toNat] x y dx dy:=by
 unfold zJA; rw [if_pos h0,List.getElem?_eq_getElem h]
theorem zU3 {ms:List Im} {i:Int} {x y dx dy:Int} (h:¬ (0≤i∧i < ms.length)):zJA ms i x y dx dy=.zero:=by
 unfold zJA
 split
 ·rename_i h0
  rw [List.getElem?_eq_none (by omega)]
 ·rfl
section
attribute [local irreducible] Ans AnsO AnsG AnsN AnsI
def gZ51 (xs:List RV):Option RV:=match xs with | [.agg [.int _ bits,.int _ cx0,.int _ cy0,.int _ cx1,.int _ cy1,.int _ tw,.int _ th,.sl on oxs,.sl mn mxs,.sl pn pxs],.agg [.int _ okind,.int _ oimage,.int _ ox,.int _ oy,.int _ omask,.int _ omx,.int _ omy,.int _ oopac,.int _ ooper,.int _ omode,.bool oiso,.bool okno]]=>some (RV.agg [dJ (imgR (⟨bits,⟨cx0,cy0,cx1,cy1⟩,tw,th,ints oxs,zQf mxs,zQd pxs⟩:Scr) (⟨okind,oimage,ox,oy,omask,omx,omy,oopac,ooper,omode,oiso,okno⟩:Oq)).a,dJ (imgR (⟨bits,⟨cx0,cy0,cx1,cy1⟩,tw,th,ints oxs,zQf mxs,zQd pxs⟩:Scr) (⟨okind,oimage,ox,oy,omask,omx,omy,oopac,ooper,omode,oiso,okno⟩:Oq)).b,dJ (imgR (⟨bits,⟨cx0,cy0,cx1,cy1⟩,tw,th,ints oxs,zQf mxs,zQd pxs⟩:Scr) (⟨okind,oimage,ox,oy,omask,omx,omy,oopac,ooper,omode,oiso,okno⟩:Oq)).c,dJ (imgR (⟨bits,⟨cx0,cy0,cx1,cy1⟩,tw,th,ints oxs,zQf mxs,zQd pxs⟩:Scr) (⟨okind,oimage,ox,oy,omask,omx,omy,oopac,ooper,omode,oiso,okno⟩:Oq)).d]) | _=>none
def gZ52 (xs:List RV):Option RV:=match xs with | [.agg [.int _ bits,.int _ cx0,.int _ cy0,.int _ cx1,.int _ cy1,.int _ tw,.int _ th,.sl on oxs,.sl mn mxs,.sl pn pxs],.agg [.int _ okind,.int _ oimage,.int _ ox,.int _ oy,.int _ omask,.int _ omx,.int _ omy,.int _ oopac,.int _ ooper,.int _ omode,.bool oiso,.bool okno],.agg [.int _ ra,.int _ rb,.int _ rc_,.int _ rd]]=>some (RV.agg [dJ (boxF (⟨bits,⟨cx0,cy0,cx1,cy1⟩,tw,th,ints oxs,zQf mxs,zQd pxs⟩:Scr) (⟨okind,oimage,ox,oy,omask,omx,omy,oopac,ooper,omode,oiso,okno⟩:Oq) ⟨ra,rb,rc_,rd⟩).a,dJ (boxF (⟨bits,⟨cx0,cy0,cx1,cy1⟩,tw,th,ints oxs,zQf mxs,zQd pxs⟩:Scr) (⟨okind,oimage,ox,oy,omask,omx,omy,oopac,ooper,omode,oiso,okno⟩:Oq) ⟨ra,rb,rc_,rd⟩).b,dJ (boxF (⟨bits,⟨cx0,cy0,cx1,cy1⟩,tw,th,ints oxs,zQf mxs,zQd pxs⟩:Scr) (⟨okind,oimage,ox,oy,omask,omx,omy,oopac,ooper,omode,oiso,okno⟩:Oq) ⟨ra,rb,rc_,rd⟩).c,dJ (boxF (⟨bits,⟨cx0,cy0,cx1,cy1⟩,tw,th,ints oxs,zQf mxs,zQd pxs⟩:Scr) (⟨okind,oimage,ox,oy,omask,omx,omy,oopac,ooper,omode,oiso,okno⟩:Oq) ⟨ra,rb,rc_,rd⟩).d]) | _=>none
def jXg:Gam where
 pure:=fun f xs=>
  if f=73 then gZ18 xs else
  if f=40 then (match xs with | [.d (.int _ op)]=>some (RV.d (dQ (zQ8 op))) | _=>none) else
  if f=74 then (match xs with | [.d (.int _ v)]=>some (RV.d (dQ (farB v))) | _=>none) else
  if f=31 then gZ5 xs else
  if f=42 then (match xs with | [.agg [.int _ bits,.int _ cx0,.int _ cy0,.int _ cx1,.int _ cy1,.int _ tw,.int _ th,.sl on oxs,.sl mn mxs,.sl pn pxs],.d (.int _ i),.d (.int _ x),.d (.int _ y)]=>some (RV.agg [dJ (zQ7 (⟨bits,⟨cx0,cy0,cx1,cy1⟩,tw,th,ints oxs,zQf mxs,zQd pxs⟩:Scr) i x y).a,dJ (zQ7 (⟨bits,⟨cx0,cy0,cx1,cy1⟩,tw,th,ints oxs,zQf mxs,zQd pxs⟩:Scr) i x y).b,dJ (zQ7 (⟨bits,⟨cx0,cy0,cx1,cy1⟩,tw,th,ints oxs,zQf mxs,zQd pxs⟩:Scr) i x y).c,dJ (zQ7 (⟨bits,⟨cx0,cy0,cx1,cy1⟩,tw,th,ints oxs,zQf mxs,zQd pxs⟩:Scr) i x y).d]) | _=>none) else
  if f=24 then gZ51 xs else
  if f=41 then (match xs with | [.agg [.int _ bits,.int _ cx0,.int _ cy0,.int _ cx1,.int _ cy1,.int _ tw,.int _ th,.sl on oxs,.sl mn mxs,.sl pn pxs],.agg [.int _ okind,.int _ oimage,.int _ ox,.int _ oy,.int _ omask,.int _ omx,.int _ omy,.int _ oopac,.int _ ooper,.int _ omode,.bool oiso,.bool okno]]=>some (RV.agg [dJ (zY7 (⟨bits,⟨cx0,cy0,cx1,cy1⟩,tw,th,ints oxs,zQf mxs,zQd pxs⟩:Scr) (⟨okind,oimage,ox,oy,omask,omx,omy,oopac,ooper,omode,oiso,okno⟩:Oq)).a,dJ (zY7 (⟨bits,⟨cx0,cy0,cx1,cy1⟩,tw,th,ints oxs,zQf mxs,zQd pxs⟩:Scr) (⟨okind,oimage,ox,oy,omask,omx,omy,oopac,ooper,omode,oiso,okno⟩:Oq)).b,dJ (zY7 (⟨bits,⟨cx0,cy0,cx1,cy1⟩,tw,th,ints oxs,zQf mxs,zQd pxs⟩:Scr) (⟨okind,oimage,ox,oy,omask,omx,omy,oopac,ooper,omode,oiso,okno⟩:Oq)).c,dJ (zY7 (⟨bits,⟨cx0,cy0,cx1,cy1⟩,tw,th,ints oxs,zQf mxs,zQd pxs⟩:Scr) (⟨okind,oimage,ox,oy,omask,omx,omy,oopac,ooper,omode,oiso,okno⟩:Oq)).d]) | _=>none) else
  if f=23 then gZ52 xs else
  none
 modes:=fun f=>
  none
 proc:=fun f xs bs=>
  none
 iter:=fun f cs=>
  none
theorem zQ6 (op:Int):Ans prog 40 [rJ (op)] (RV.d (dQ (zQ8 op))):=
 zQa (Γ:=jXg) Ann.leaf zQg Tryz.func40 rfl (nL rfl) fun hwf=>by
  refine Eq.mpr (by kernel_rfl:_=(let b:=(zJs op 3); let a:=(zJs op 2); let c:=(decide (1≤op∧op < 13)); let d:=(dQ (zQ8 op)); let e:=(RV.d (dQ false)=RV.d d); let f:=(((b==2)=false→tU6 (RV.d (dQ (b==3))=RV.d d))∧((b==2)=(!false)→tU3 (RV.d (dQ true)=RV.d d))); tU2 ((Ans prog 73 [rJ op] (RV.tup [RV.agg [DV.str (zZr op),dJ (zJs op 1),dJ a,dJ b],RV.d (dQ c)]))∧tU8 ((c=true→tU4 (((a==1)=false→tU6 (((a==3)=true→tU4 f)∧((a==3)=(!true)→tU2 e)))∧((a==1)=(!false)→tU7 f)))∧(c=(!true)→tU4 e))))) ?_
  delta dJ dQ rJ
  simp only [sS,zQi,zQv]
  by_cases h:1≤op∧op < 13
  ·rcases zX7 h with rfl | rfl | rfl | rfl | rfl | rfl | rfl | rfl | rfl | rfl | rfl | rfl <;> decide +kernel
  ·have h2:zQ8 op=false:=by unfold zQ8; simp; omega
   simp [h,h2]
theorem zXK (v:Int):Ans prog 74 [rJ (v)] (RV.d (dQ (farB v))):=
 zQa (Γ:=jXg) Ann.leaf zQg Tryz.func74 rfl (nL rfl) fun hwf=>by
  refine Eq.mpr (by kernel_rfl:_=(let a:=(decide (v < (-1099511627776:Int))); tU4 ((a=false→tU4 (RV.d (dQ (decide (v > 1099511627776)))=RV.d (dQ (farB v))))∧(a=(!false)→tU2 (RV.d (dQ true)=RV.d (dQ (farB v))))))) ?_
  delta dQ
  simp only [sS,zQi,zQv,zQ6]
  unfold farB
  grind
theorem zYS (s:Scr) (i x y:Int):Ans prog 42 [RV.agg [dJ s.bits,dJ s.c.a,dJ s.c.b,dJ s.c.c,dJ s.c.d,dJ s.tw,dJ s.th,dS s.ord.length (is s.ord),dS s.ims.length (ims s.ims),dS s.ops.length (ops s.ops)],rJ (i),rJ (x),rJ (y)] (RV.agg [dJ ((zQ7 s i x y).a),dJ ((zQ7 s i x y).b),dJ ((zQ7 s i x y).c),dJ ((zQ7 s i x y).d)]):=
 zQa (Γ:=jXg) Ann.leaf zQg Tryz.func42 rfl (nL rfl) fun hwf=>by
  refine Eq.mpr (by kernel_rfl:_=(let g:=(i.toNat*28+1+1+1+1+1+1+1+1+1+1+1); let f:=(s.ims.length:Int); let h:=(i.toNat*28+1+1+1+1+1+1+1+1+1+1+1+1+1+1+1); let d:=(zQ7 s i x y); let j:=(i.toNat*28+1+1+1+1+1+1+1+1+1+1+1+1+1+1+1+1+1+1+1); let k:=(i.toNat*28+1+1+1+1+1+1+1+1+1+1+1+1+1+1+1+1+1+1+1+1+1+1+1); let l:=(i.toNat*28+1+1+1+1+1+1+1+1+1+1+1+1+1+1+1+1+1+1+1+1+1+1+1+1+1+1+1); let b:=(nAt (ims s.ims) (i.toNat*28)); let c:=(nAt (ims s.ims) (i.toNat*28+1)); let t:=[dJ 0,dJ 0,dJ 0,dJ 0]; let m:=[dJ d.a,dJ d.b,dJ d.c,dJ d.d]; let a:=(RV.agg t=RV.agg m); let n:=(dJ b); let o:=(dJ c); let p:=(wK (x+b)); let q:=(wK (y+c)); let e:=(Rc.inter ⟨x,y,p,q⟩ s.c); let r:=[dJ e.a,dJ e.b,dJ e.c,dJ e.d]; tU5 (((decide (i < 0))=false→tU6 (((decide (i≥f))=true→tU2 a)∧((decide (i≥f))=false→tU3 ((0≤i∧i < f∧i.toNat*28 < (ims s.ims).length)∧(((ims s.ims)[i.toNat*28]?=some n)∧((ims s.ims)[i.toNat*28+1]?=some o)∧((ims s.ims)[i.toNat*28+1+1]?=some (dQ (bAt (ims s.ims) (i.toNat*28+1+1))))∧((ims s.ims)[i.toNat*28+1+1+1]?=some (dK (nAt (ims s.ims) (i.toNat*28+1+1+1))))∧((ims s.ims)[i.toNat*28+1+1+1+1]?=some (dK (nAt (ims s.ims) (i.toNat*28+1+1+1+1))))∧((ims s.ims)[i.toNat*28+1+1+1+1+1]?=some (dK (nAt (ims s.ims) (i.toNat*28+1+1+1+1+1))))∧((ims s.ims)[i.toNat*28+1+1+1+1+1+1]?=some (dK (nAt (ims s.ims) (i.toNat*28+1+1+1+1+1+1))))∧((ims s.ims)[i.toNat*28+1+1+1+1+1+1+1]?=some (dK (nAt (ims s.ims) (i.toNat*28+1+1+1+1+1+1+1))))∧((ims s.ims)[i.toNat*28+1+1+1+1+1+1+1+1]?=some (dJ (nAt (ims s.ims) (i.toNat*28+1+1+1+1+1+1+1+1))))∧((ims s.ims)[i.toNat*28+1+1+1+1+1+1+1+1+1]?=some (dJ (nAt (ims s.ims) (i.toNat*28+1+1+1+1+1+1+1+1+1))))∧((ims s.ims)[i.toNat*28+1+1+1+1+1+1+1+1+1+1]?=some (dJ (nAt (ims s.ims) (i.toNat*28+1+1+1+1+1+1+1+1+1+1))))∧((ims s.ims)[i.toNat*28+1+1+1+1+1+1+1+1+1+1+1]?=some (dS (lAt (ims s.ims) g) (cAt (ims s.ims) g)))∧((ims s.ims)[i.toNat*28+1+1+1+1+1+1+1+1+1+1+1+1]?=some (dJ (nAt (ims s.ims) (i.toNat*28+1+1+1+1+1+1+1+1+1+1+1+1))))∧((ims s.ims)[i.toNat*28+1+1+1+1+1+1+1+1+1+1+1+1+1]?=some (dJ (nAt (ims s.ims) (i.toNat*28+1+1+1+1+1+1+1+1+1+1+1+1+1))))∧((ims s.ims)[i.toNat*28+1+1+1+1+1+1+1+1+1+1+1+1+1+1]?=some (dJ (nAt (ims s.ims) (i.toNat*28+1+1+1+1+1+1+1+1+1+1+1+1+1+1))))∧((ims s.ims)[i.toNat*28+1+1+1+1+1+1+1+1+1+1+1+1+1+1+1]?=some (dS (lAt (ims s.ims) h) (cAt (ims s.ims) h)))∧((ims s.ims)[i.toNat*28+1+1+1+1+1+1+1+1+1+1+1+1+1+1+1+1]?=some (dJ (nAt (ims s.ims) (i.toNat*28+1+1+1+1+1+1+1+1+1+1+1+1+1+1+1+1))))∧((ims s.ims)[i.toNat*28+1+1+1+1+1+1+1+1+1+1+1+1+1+1+1+1+1]?=some (dJ (nAt (ims s.ims) (i.toNat*28+1+1+1+1+1+1+1+1+1+1+1+1+1+1+1+1+1))))∧((ims s.ims)[i.toNat*28+1+1+1+1+1+1+1+1+1+1+1+1+1+1+1+1+1+1]?=some (dJ (nAt (ims s.ims) (i.toNat*28+1+1+1+1+1+1+1+1+1+1+1+1+1+1+1+1+1+1))))∧((ims s.ims)[i.toNat*28+1+1+1+1+1+1+1+1+1+1+1+1+1+1+1+1+1+1+1]?=some (dS (lAt (ims s.ims) j) (cAt (ims s.ims) j)))∧((ims s.ims)[i.toNat*28+1+1+1+1+1+1+1+1+1+1+1+1+1+1+1+1+1+1+1+1]?=some (dJ (nAt (ims s.ims) (i.toNat*28+1+1+1+1+1+1+1+1+1+1+1+1+1+1+1+1+1+1+1+1))))∧((ims s.ims)[i.toNat*28+1+1+1+1+1+1+1+1+1+1+1+1+1+1+1+1+1+1+1+1+1]?=some (dJ (nAt (ims s.ims) (i.toNat*28+1+1+1+1+1+1+1+1+1+1+1+1+1+1+1+1+1+1+1+1+1))))∧((ims s.ims)[i.toNat*28+1+1+1+1+1+1+1+1+1+1+1+1+1+1+1+1+1+1+1+1+1+1]?=some (dJ (nAt (ims s.ims) (i.toNat*28+1+1+1+1+1+1+1+1+1+1+1+1+1+1+1+1+1+1+1+1+1+1))))∧((ims s.ims)[i.toNat*28+1+1+1+1+1+1+1+1+1+1+1+1+1+1+1+1+1+1+1+1+1+1+1]?=some (dS (lAt (ims s.ims) k) (cAt (ims s.ims) k)))∧((ims s.ims)[i.toNat*28+1+1+1+1+1+1+1+1+1+1+1+1+1+1+1+1+1+1+1+1+1+1+1+1]?=some (dJ (nAt (ims s.ims) (i.toNat*28+1+1+1+1+1+1+1+1+1+1+1+1+1+1+1+1+1+1+1+1+1+1+1+1))))∧((ims s.ims)[i.toNat*28+1+1+1+1+1+1+1+1+1+1+1+1+1+1+1+1+1+1+1+1+1+1+1+1+1]?=some (dJ (nAt (ims s.ims) (i.toNat*28+1+1+1+1+1+1+1+1+1+1+1+1+1+1+1+1+1+1+1+1+1+1+1+1+1))))∧((ims s.ims)[i.toNat*28+1+1+1+1+1+1+1+1+1+1+1+1+1+1+1+1+1+1+1+1+1+1+1+1+1+1]?=some (dJ (nAt (ims s.ims) (i.toNat*28+1+1+1+1+1+1+1+1+1+1+1+1+1+1+1+1+1+1+1+1+1+1+1+1+1+1))))∧((ims s.ims)[i.toNat*28+1+1+1+1+1+1+1+1+1+1+1+1+1+1+1+1+1+1+1+1+1+1+1+1+1+1+1]?=some (dS (lAt (ims s.ims) l) (cAt (ims s.ims) l)))∧True)∧tU3 ((Ans prog 74 [rJ x] (RV.d (dQ (farB x))))∧True∧(((farB x)=false→True∧(Ans prog 74 [rJ y] (RV.d (dQ (farB y))))∧tU2 (((farB y)=false→tU2 ((Ans prog 74 [RV.d n] (RV.d (dQ (farB b))))∧tU2 (((farB b)=false→tU2 ((Ans prog 74 [RV.d o] (RV.d (dQ (farB c))))∧True∧(((farB c)=true→tU2 a)∧((farB c)=false→tU5 (tU8 ((Ans prog 31 [RV.agg [dJ x,dJ y,dJ p,dJ q],RV.agg [dJ s.c.a,dJ s.c.b,dJ s.c.c,dJ s.c.d]] (RV.agg r))∧True∧RV.agg r=RV.agg m))))))∧((farB b)=(!false)→tU3 a))))∧((farB y)=(!false)→tU5 a)))∧((farB x)=(!false)→tU7 a)))))))∧((decide (i < 0))=(!false)→tU3 a)))) ?_
  delta dJ dK dQ wK dS rJ
  simp only [sS,zQi,zQv,zQ6,zXK]
  (try simp only [zKn,zKJ,zZ8,zXk,zQG])
  have hsE:(⟨s.bits,s.c,s.tw,s.th,s.ord,s.ims,s.ops⟩:Scr)=s:=rfl
  (try simp only [hsE])
  clear hsE
  have hfw:∀ a b:Int,farB a=false→farB b=false→IntKind.wrap .i64 (a+b)=a+b:=fun a b h1 h2=>by
   unfold farB at h1 h2
   have h1:=of_decide_eq_false h1
   have h2:=of_decide_eq_false h2
   exact IntWalk.i64_in _ ⟨by omega,by omega⟩
  have z:zQ7 s i x y=Rc.zero→0=(zQ7 s i x y).a∧0=(zQ7 s i x y).b∧0=(zQ7 s i x y).c∧0=(zQ7 s i x y).d:=fun h=>by rw [h]; exact ⟨rfl,rfl,rfl,rfl⟩
  refine ⟨fun h0=>⟨fun h1=>z (zWH x y (.inr h1)),fun h1=>?_⟩,fun h0=>z (zWH x y (.inl h0))⟩
  have hk:i.toNat < s.ims.length:=by omega
  have e:=zUV x y (show 0≤i by omega) hk
  have q1:=zHR hk
  have q2:=zHS hk
  simp only [q2]
  have fin:farB x=false→farB y=false→farB s.ims[i.toNat].w=false→farB s.ims[i.toNat].h=false→Rc.inter ⟨x,y,IntKind.wrap .i64 (x+s.ims[i.toNat].w),IntKind.wrap .i64 (y+s.ims[i.toNat].h)⟩ s.c=zQ7 s i x y:=fun f1 f2 f3 f4=>by
   rw [e,hfw _ _ f1 f3,hfw _ _ f2 f4,f1,f2,f3,f4]; rfl
  refine ⟨⟨by omega,by omega,by rw [zJX]; omega⟩,q1,fun f1=>⟨fun f2=>⟨fun f3=>⟨fun f4=>z (by rw [e,f4]; simp),fun f4=>?_⟩,fun f3=>z (by rw [e,f3]; simp)⟩,fun f2=>z (by rw [e,f2]; simp)⟩,fun f1=>z (by rw [e,f1]; simp)⟩
  rw [← fin f1 f2 f3 f4]
  exact ⟨zQv _ _ _ _ _ _ _ _,rfl,rfl,rfl,rfl⟩
def sE (s:Scr):Scr:=⟨s.bits,s.c,s.tw,s.th,ints (is s.ord),zQf (ims s.ims),zQd (ops s.ops)⟩
theorem zJ2 (s:Scr) (o:Oq):Ans prog 24 [RV.agg [dJ s.bits,dJ s.c.a,dJ s.c.b,dJ s.c.c,dJ s.c.d,dJ s.tw,dJ s.th,dS s.ord.length (is s.ord),dS s.ims.length (ims s.ims),dS s.ops.length (ops s.ops)],RV.agg [dJ o.kind,dJ o.image,dJ o.x,dJ o.y,dJ o.mask,dJ o.mx,dJ o.my,dK o.opac,dJ o.oper,dJ o.mode,dQ o.iso,dQ o.kno]] (RV.agg [dJ ((imgR s o).a),dJ ((imgR s o).b),dJ ((imgR s o).c),dJ ((imgR s o).d)]):=
 zQa (Γ:=jXg) Ann.leaf zQg Tryz.func24 rfl (nL rfl) fun hwf=>by
  refine Eq.mpr (by kernel_rfl:_=(let e:=(zQ7 ((sE s):Scr) o.image o.x o.y); let f:=[dJ (imgR s o).a,dJ (imgR s o).b,dJ (imgR s o).c,dJ (imgR s o).d]; let g:=[dJ e.a,dJ e.b,dJ e.c,dJ e.d]; tU6 (((o.kind != 1)=true→tU2 (RV.agg [dJ 0,dJ 0,dJ 0,dJ 0]=RV.agg f))∧((o.kind != 1)=false→tU7 ((Ans prog 42 [RV.agg [dJ s.bits,dJ s.c.a,dJ s.c.b,dJ s.c.c,dJ s.c.d,dJ s.tw,dJ s.th,dS s.ord.length (is s.ord),dS s.ims.length (ims s.ims),dS s.ops.length (ops s.ops)],rJ o.image,rJ o.x,rJ o.y] (RV.agg g))∧True∧RV.agg g=RV.agg f))))) ?_
  delta sE dJ dS rJ
  simp only [sS,zQi,zQv,zQ6,zXK]
  (try simp only [zKn,zKJ,zZ8,zXk,zQG])
  have hsE:(⟨s.bits,s.c,s.tw,s.th,s.ord,s.ims,s.ops⟩:Scr)=s:=rfl
  (try simp only [hsE])
  clear hsE
  refine ⟨fun h=>?_,fun h=>?_⟩
  ·have h:¬ o.kind=1:=by simpa using h
   unfold imgR
   rw [if_neg h]
   exact ⟨rfl,rfl,rfl,rfl⟩
  ·have h:o.kind=1:=by simpa using h
   unfold imgR
   rw [if_pos h]
   exact ⟨zYS s o.image o.x o.y,rfl,rfl,rfl,rfl⟩
theorem zKx (s:Scr) (o:Oq):Ans prog 41 [RV.agg [dJ s.bits,dJ s.c.a,dJ s.c.b,dJ s.c.c,dJ s.c.d,dJ s.tw,dJ s.th,dS s.ord.length (is s.ord),dS s.ims.length (ims s.ims),dS s.ops.length (ops s.ops)],RV.agg [dJ o.kind,dJ o.image,dJ o.x,dJ o.y,dJ o.mask,dJ o.mx,dJ o.my,dK o.opac,dJ o.oper,dJ o.mode,dQ o.iso,dQ o.kno]] (RV.agg [dJ ((zY7 s o).a),dJ ((zY7 s o).b),dJ ((zY7 s o).c),dJ ((zY7 s o).d)]):=
 zQa (Γ:=jXg) Ann.leaf zQg Tryz.func41 rfl (nL rfl) fun hwf=>by
  refine Eq.mpr (by kernel_rfl:_=(let e:=(Rc.inter s.c s.c); let h:=[dJ s.c.a,dJ s.c.b,dJ s.c.c,dJ s.c.d]; let i:=[dJ e.a,dJ e.b,dJ e.c,dJ e.d]; let g:=[dJ (zY7 s o).a,dJ (zY7 s o).b,dJ (zY7 s o).c,dJ (zY7 s o).d]; let j:=(wK (o.mask - 1)); let f:=(zQ7 ((sE s):Scr) j o.mx o.my); let k:=[dJ f.a,dJ f.b,dJ f.c,dJ f.d]; tU6 (((o.mask==0)=true→tU4 ((Ans prog 31 [RV.agg h,RV.agg h] (RV.agg i))∧True∧RV.agg i=RV.agg g))∧((o.mask==0)=false→tU3 (((decide (o.mask < 0))=true→tU2 (RV.agg [dJ 0,dJ 0,dJ 0,dJ 0]=RV.agg g))∧((decide (o.mask < 0))=false→tU8 ((Ans prog 42 [RV.agg [dJ s.bits,dJ s.c.a,dJ s.c.b,dJ s.c.c,dJ s.c.d,dJ s.tw,dJ s.th,dS s.ord.length (is s.ord),dS s.ims.length (ims s.ims),dS s.ops.length (ops s.ops)],rJ j,rJ o.mx,rJ o.my] (RV.agg k))∧True∧RV.agg k=RV.agg g))))))) ?_
  delta sE dJ wK dS rJ
  simp only [sS,zQi,zQv,zQ6,zXK]
  (try simp only [zKn,zKJ,zZ8,zXk,zQG])
  have hsE:(⟨s.bits,s.c,s.tw,s.th,s.ord,s.ims,s.ops⟩:Scr)=s:=rfl
  (try simp only [hsE])
  clear hsE
  refine ⟨fun h=>?_,fun h=>⟨fun h2=>?_,fun h2=>?_⟩⟩
  ·have h:o.mask=0:=by simpa using h
   unfold zY7
   rw [if_pos h]
   exact ⟨zQv _ _ _ _ _ _ _ _,rfl,rfl,rfl,rfl⟩
  ·have h:¬ o.mask=0:=by simpa using h
   unfold zY7
   rw [if_neg h,if_pos h2]
   exact ⟨rfl,rfl,rfl,rfl⟩
  ·have h:¬ o.mask=0:=by simpa using h
   unfold zY7
   rw [if_neg h,if_neg h2]
   simp only [RV.wfs,RV.wf,DV.wf,DV.wfs] at hwf
   have hr : -9223372036854775808≤o.mask∧o.mask≤9223372036854775807:=hwf.2.1.2.2.2.2.1
   rw [IntWalk.i64_in _ ⟨by omega,by omega⟩]
   exact ⟨zYS s (o.mask - 1) o.mx o.my,rfl,rfl,rfl,rfl⟩
theorem zKf (s:Scr) (o:Oq) (r:Rc):Ans prog 23 [RV.agg [dJ s.bits,dJ s.c.a,dJ s.c.b,dJ s.c.c,dJ s.c.d,dJ s.tw,dJ s.th,dS s.ord.length (is s.ord),dS s.ims.length (ims s.ims),dS s.ops.length (ops s.ops)],RV.agg [dJ o.kind,dJ o.image,dJ o.x,dJ o.y,dJ o.mask,dJ o.mx,dJ o.my,dK o.opac,dJ o.oper,dJ o.mode,dQ o.iso,dQ o.kno],RV.agg [dJ r.a,dJ r.b,dJ r.c,dJ r.d]] (RV.agg [dJ ((boxF s o r).a),dJ ((boxF s o r).b),dJ ((boxF s o r).c),dJ ((boxF s o r).d)]):=
 zQa (Γ:=jXg) Ann.leaf zQg Tryz.func23 rfl (nL rfl) fun hwf=>by
  refine Eq.mpr (by kernel_rfl:_=(let b:=(boxF s o r); let a:=(zY7 ((sE s):Scr) o); let c:=(Rc.inter r a); let d:=[dJ b.a,dJ b.b,dJ b.c,dJ b.d]; let e:=[dJ a.a,dJ a.b,dJ a.c,dJ a.d]; let f:=[dJ c.a,dJ c.b,dJ c.c,dJ c.d]; tU6 ((Ans prog 40 [rJ o.oper] (RV.d (dQ (zQ8 o.oper))))∧tU2 (((!(zQ8 o.oper))=true→tU3 (RV.agg [dJ s.c.a,dJ s.c.b,dJ s.c.c,dJ s.c.d]=RV.agg d))∧((!(zQ8 o.oper))=false→tU4 (((o.opac==0)=true→tU2 (RV.agg [dJ 0,dJ 0,dJ 0,dJ 0]=RV.agg d))∧((o.opac==0)=false→tU3 ((Ans prog 41 [RV.agg [dJ s.bits,dJ s.c.a,dJ s.c.b,dJ s.c.c,dJ s.c.d,dJ s.tw,dJ s.th,dS s.ord.length (is s.ord),dS s.ims.length (ims s.ims),dS s.ops.length (ops s.ops)],RV.agg (Oq.cells o)] (RV.agg e))∧(Ans prog 31 [RV.agg [dJ r.a,dJ r.b,dJ r.c,dJ r.d],RV.agg e] (RV.agg f))∧True∧(true=true)∧RV.agg f=RV.agg d)))))))) ?_
  delta sE dJ dQ dS rJ
  simp only [sS,zQi,zQv,zQ6,zXK]
  (try simp only [zKn,zKJ,zZ8,zXk,zQG])
  have hsE:(⟨s.bits,s.c,s.tw,s.th,s.ord,s.ims,s.ops⟩:Scr)=s:=rfl
  (try simp only [hsE])
  clear hsE
  refine ⟨fun h=>?_,fun h=>⟨fun h2=>?_,fun h2=>?_⟩⟩
  ·unfold boxF
   rw [if_pos h]
   exact ⟨rfl,rfl,rfl,rfl⟩
  ·have h2:o.opac=0:=by simpa using h2
   unfold boxF
   rw [if_neg (by rw [h]; decide),if_pos h2]
   exact ⟨rfl,rfl,rfl,rfl⟩
  ·have h2:¬ o.opac=0:=by simpa using h2
   unfold boxF
   rw [if_neg (by rw [h]; decide),if_neg h2]
   exact ⟨zKx s o,zQv _ _ _ _ _ _ _ _,rfl,rfl,rfl,rfl⟩
def gZ53 (xs:List RV):Option RV:=match xs with | [.agg [.int _ bits,.int _ cx0,.int _ cy0,.int _ cx1,.int _ cy1,.int _ tw,.int _ th,.sl on oxs,.sl mn mxs,.sl pn pxs],.agg [.int _ okind,.int _ oimage,.int _ ox,.int _ oy,.int _ omask,.int _ omx,.int _ omy,.int _ oopac,.int _ ooper,.int _ omode,.bool oiso,.bool okno],.d (.int _ x),.d (.int _ y)]=>some (RV.tup [RV.agg [dK (srcS (zQf mxs) (⟨okind,oimage,ox,oy,omask,omx,omy,oopac,ooper,omode,oiso,okno⟩:Oq) x y).a,dK (srcS (zQf mxs) (⟨okind,oimage,ox,oy,omask,omx,omy,oopac,ooper,omode,oiso,okno⟩:Oq) x y).b,dK (srcS (zQf mxs) (⟨okind,oimage,ox,oy,omask,omx,omy,oopac,ooper,omode,oiso,okno⟩:Oq) x y).c,dK (srcS (zQf mxs) (⟨okind,oimage,ox,oy,omask,omx,omy,oopac,ooper,omode,oiso,okno⟩:Oq) x y).al,dK (srcS (zQf mxs) (⟨okind,oimage,ox,oy,omask,omx,omy,oopac,ooper,omode,oiso,okno⟩:Oq) x y).f],RV.d (dK (zZY (zQf mxs) (⟨okind,oimage,ox,oy,omask,omx,omy,oopac,ooper,omode,oiso,okno⟩:Oq) x y))]) | _=>none
def gZ54 (xs:List RV):Option RV:=match xs with | [.agg [.int _ okind,.int _ oimage,.int _ ox,.int _ oy,.int _ omask,.int _ omx,.int _ omy,.int _ oopac,.int _ ooper,.int _ omode,.bool oiso,.bool okno],.agg [.int _ pa,.int _ pb,.int _ pc,.int _ pal,.int _ pf],.d (.int _ mask),.d (.int _ most)]=>some (RV.tup [RV.agg [dK (zQe most (⟨okind,oimage,ox,oy,omask,omx,omy,oopac,ooper,omode,oiso,okno⟩:Oq) (⟨pa,pb,pc,pal,pf⟩:Px) mask).1.a,dK (zQe most (⟨okind,oimage,ox,oy,omask,omx,omy,oopac,ooper,omode,oiso,okno⟩:Oq) (⟨pa,pb,pc,pal,pf⟩:Px) mask).1.b,dK (zQe most (⟨okind,oimage,ox,oy,omask,omx,omy,oopac,ooper,omode,oiso,okno⟩:Oq) (⟨pa,pb,pc,pal,pf⟩:Px) mask).1.c,dK (zQe most (⟨okind,oimage,ox,oy,omask,omx,omy,oopac,ooper,omode,oiso,okno⟩:Oq) (⟨pa,pb,pc,pal,pf⟩:Px) mask).1.al,dK (zQe most (⟨okind,oimage,ox,oy,omask,omx,omy,oopac,ooper,omode,oiso,okno⟩:Oq) (⟨pa,pb,pc,pal,pf⟩:Px) mask).1.f],RV.d (dQ (zQe most (⟨okind,oimage,ox,oy,omask,omx,omy,oopac,ooper,omode,oiso,okno⟩:Oq) (⟨pa,pb,pc,pal,pf⟩:Px) mask).2)]) | _=>none
def gZ55 (xs:List RV):Option RV:=match xs with | [.agg [.int _ xa,.int _ xb,.int _ xc,.int _ xal,.int _ xown,.int _ xf]]=>some (RV.agg [dK (Ac.col (⟨xa,xb,xc,xal,xown,xf⟩:Ac)).a,dK (Ac.col (⟨xa,xb,xc,xal,xown,xf⟩:Ac)).b,dK (Ac.col (⟨xa,xb,xc,xal,xown,xf⟩:Ac)).c,dK (Ac.col (⟨xa,xb,xc,xal,xown,xf⟩:Ac)).al,dK (Ac.col (⟨xa,xb,xc,xal,xown,xf⟩:Ac)).f]) | _=>none
def jJl:Gam where
 pure:=fun f xs=>
  if f=92 then gZ13 xs else
  if f=93 then gZ47 xs else
  if f=76 then (match xs with | [.agg [.int _ w,.int _ h,.bool so,.int _ c0,.int _ c1,.int _ c2,.int _ ca,.int _ cf,.int _ w0,.int _ h0,.int _ s0,.sl n0 xs0,.int _ w1,.int _ h1,.int _ s1,.sl n1 xs1,.int _ w2,.int _ h2,.int _ s2,.sl n2 xs2,.int _ w3,.int _ h3,.int _ s3,.sl n3 xs3,.int _ w4,.int _ h4,.int _ s4,.sl n4 xs4],.d (.int _ x),.d (.int _ y),.d (.int _ dx),.d (.int _ dy)]=>some (RV.agg [dK (zZF ⟨w,h,so,⟨c0,c1,c2,ca,cf⟩,⟨w0,h0,s0,n0,xs0⟩,⟨w1,h1,s1,n1,xs1⟩,⟨w2,h2,s2,n2,xs2⟩,⟨w3,h3,s3,n3,xs3⟩,⟨w4,h4,s4,n4,xs4⟩⟩ x y dx dy).a,dK (zZF ⟨w,h,so,⟨c0,c1,c2,ca,cf⟩,⟨w0,h0,s0,n0,xs0⟩,⟨w1,h1,s1,n1,xs1⟩,⟨w2,h2,s2,n2,xs2⟩,⟨w3,h3,s3,n3,xs3⟩,⟨w4,h4,s4,n4,xs4⟩⟩ x y dx dy).b,dK (zZF ⟨w,h,so,⟨c0,c1,c2,ca,cf⟩,⟨w0,h0,s0,n0,xs0⟩,⟨w1,h1,s1,n1,xs1⟩,⟨w2,h2,s2,n2,xs2⟩,⟨w3,h3,s3,n3,xs3⟩,⟨w4,h4,s4,n4,xs4⟩⟩ x y dx dy).c,dK (zZF ⟨w,h,so,⟨c0,c1,c2,ca,cf⟩,⟨w0,h0,s0,n0,xs0⟩,⟨w1,h1,s1,n1,xs1⟩,⟨w2,h2,s2,n2,xs2⟩,⟨w3,h3,s3,n3,xs3⟩,⟨w4,h4,s4,n4,xs4⟩⟩ x y dx dy).al,dK (zZF ⟨w,h,so,⟨c0,c1,c2,ca,cf⟩,⟨w0,h0,s0,n0,xs0⟩,⟨w1,h1,s1,n1,xs1⟩,⟨w2,h2,s2,n2,xs2⟩,⟨w3,h3,s3,n3,xs3⟩,⟨w4,h4,s4,n4,xs4⟩⟩ x y dx dy).f]) | _=>none) else
  if f=46 then gZ53 xs else
  if f=78 then gZ54 xs else
  if f=48 then gZ55 xs else
  none
 modes:=fun f=>
  none
 proc:=fun f xs bs=>
  none
 iter:=fun f cs=>
  none
theorem jQm (m:Im) (x y dx dy:Int) (hu:m.isU):Ans prog 76 [RV.agg [dJ m.w,dJ m.h,dQ m.so,dK m.c.a,dK m.c.b,dK m.c.c,dK m.c.al,dK m.c.f,dJ m.p0.w,dJ m.p0.h,dJ m.p0.s,dS m.p0.n m.p0.xs,dJ m.p1.w,dJ m.p1.h,dJ m.p1.s,dS m.p1.n m.p1.xs,dJ m.p2.w,dJ m.p2.h,dJ m.p2.s,dS m.p2.n m.p2.xs,dJ m.p3.w,dJ m.p3.h,dJ m.p3.s,dS m.p3.n m.p3.xs,dJ m.p4.w,dJ m.p4.h,dJ m.p4.s,dS m.p4.n m.p4.xs],rJ (x),rJ (y),rJ (dx),rJ (dy)] (RV.agg [dK ((zZF m x y dx dy).a),dK ((zZF m x y dx dy).b),dK ((zZF m x y dx dy).c),dK ((zZF m x y dx dy).al),dK ((zZF m x y dx dy).f)]):=
 zQa (Γ:=jJl) Ann.leaf zQg Tryz.func76 rfl (nL rfl) fun hwf=>by
  refine Eq.mpr (by kernel_rfl:_=(let a:=(zZF m x y dx dy); let d:=(decide ((IntKind.wrap .u64 ((IntKind.wrap .u64 y) - (IntKind.wrap .u64 dy)))≥1099511627776)); let e:=(decide ((IntKind.wrap .u64 ((IntKind.wrap .u64 x) - (IntKind.wrap .u64 dx)))≥1099511627776)); let j:=[dK 0,dK 0,dK 0,dK 0,dK 0]; let f:=[dK a.a,dK a.b,dK a.c,dK a.al,dK a.f]; let c:=(RV.agg j=RV.agg f); let g:=(wK (x - dx)); let h:=(wK (y - dy)); let b:=(Im.at_ m g h); let i:=[dK b.a,dK b.b,dK b.c,dK b.al,dK b.f]; tU6 (((decide (x < dx))=false→tU5 (((decide (y < dy))=false→tU8 ((e=false→tU7 ((d=true→tU2 c)∧(d=false→tU7 ((Ans prog 92 [(imR m),rJ g,rJ h] (RV.agg i))∧True∧RV.agg i=RV.agg f))))∧(e=(!false)→tU3 c)))∧((decide (y < dy))=(!false)→tU5 c)))∧((decide (x < dx))=(!false)→tU7 c)))) ?_
  delta dK wK rJ
  simp only [sS]
  simp only [RV.wfs,RV.wf,DV.wf,DV.wfs] at hwf
  have mi:IntKind.min .i64 = -9223372036854775808:=rfl
  have ma:IntKind.max .i64=9223372036854775807:=rfl
  have mj:IntKind.min .u16=0:=rfl
  have mb:IntKind.max .u16=65535:=rfl
  simp only [mi,ma,mj,mb] at hwf
  obtain ⟨_,⟨x0,x1⟩,⟨y0,y1⟩,⟨u0,u1⟩,⟨v0,v1⟩,_⟩:=hwf
  have z:(x < dx∨y < dy∨x - dx≥1099511627776∨y - dy≥1099511627776)→0=(zZF m x y dx dy).a∧0=(zZF m x y dx dy).b∧0=(zZF m x y dx dy).c∧0=(zZF m x y dx dy).al∧0=(zZF m x y dx dy).f:=fun h=>by
   unfold zZF; rw [if_pos h]; exact ⟨rfl,rfl,rfl,rfl,rfl⟩
  simp only [IntKind.wrap_u64]
  refine ⟨fun h1=>⟨fun h2=>⟨fun h3=>⟨fun h4=>z (by omega),fun h4=>?_⟩,fun h3=>z (by omega)⟩,fun h2=>z (by omega)⟩,fun h1=>z (by omega)⟩
  rw [IntWalk.i64_in (x - dx) ⟨by omega,by omega⟩,IntWalk.i64_in (y - dy) ⟨by omega,by omega⟩,jKP (by omega)]
  exact ⟨zUy m _ _ hu,rfl,rfl,rfl,rfl,rfl⟩
theorem zKj (s:Scr) (o:Oq) (x y:Int) (hu:∀ m∈s.ims,m.isU):Ans prog 46 [RV.agg [dJ s.bits,dJ s.c.a,dJ s.c.b,dJ s.c.c,dJ s.c.d,dJ s.tw,dJ s.th,dS s.ord.length (is s.ord),dS s.ims.length (ims s.ims),dS s.ops.length (ops s.ops)],RV.agg [dJ o.kind,dJ o.image,dJ o.x,dJ o.y,dJ o.mask,dJ o.mx,dJ o.my,dK o.opac,dJ o.oper,dJ o.mode,dQ o.iso,dQ o.kno],rJ (x),rJ (y)] (RV.tup [RV.agg [dK ((srcS s.ims o x y).a),dK ((srcS s.ims o x y).b),dK ((srcS s.ims o x y).c),dK ((srcS s.ims o x y).al),dK ((srcS s.ims o x y).f)],RV.d (dK (zZY s.ims o x y))]):=
 zQa (Γ:=jJl) Ann.leaf zQg Tryz.func46 rfl (nL rfl) fun hwf=>by
  refine Eq.mpr (by kernel_rfl:_=(let x5:=(decide (o.mask≥1)); let x4:=(srcS s.ims o x y); let x6:=(s.ims.length:Int); let w0:=(decide (o.image < x6)); let x7:=(decide (o.mask≤x6)); let Q:=(nAt (ims s.ims) (o.image.toNat*28)); let R:=(nAt (ims s.ims) (o.image.toNat*28+1)); let S:=(bAt (ims s.ims) (o.image.toNat*28+1+1)); let T:=(nAt (ims s.ims) (o.image.toNat*28+1+1+1)); let U:=(nAt (ims s.ims) (o.image.toNat*28+1+1+1+1)); let V:=(nAt (ims s.ims) (o.image.toNat*28+1+1+1+1+1)); let W:=(nAt (ims s.ims) (o.image.toNat*28+1+1+1+1+1+1)); let X:=(nAt (ims s.ims) (o.image.toNat*28+1+1+1+1+1+1+1)); let Y:=(nAt (ims s.ims) (o.image.toNat*28+1+1+1+1+1+1+1+1)); let Z:=(nAt (ims s.ims) (o.image.toNat*28+1+1+1+1+1+1+1+1+1)); let z0:=(nAt (ims s.ims) (o.image.toNat*28+1+1+1+1+1+1+1+1+1+1)); let z1:=(nAt (ims s.ims) (o.image.toNat*28+1+1+1+1+1+1+1+1+1+1+1+1)); let z2:=(nAt (ims s.ims) (o.image.toNat*28+1+1+1+1+1+1+1+1+1+1+1+1+1)); let z3:=(nAt (ims s.ims) (o.image.toNat*28+1+1+1+1+1+1+1+1+1+1+1+1+1+1)); let z4:=(nAt (ims s.ims) (o.image.toNat*28+1+1+1+1+1+1+1+1+1+1+1+1+1+1+1+1)); let z5:=(nAt (ims s.ims) (o.image.toNat*28+1+1+1+1+1+1+1+1+1+1+1+1+1+1+1+1+1)); let z6:=(nAt (ims s.ims) (o.image.toNat*28+1+1+1+1+1+1+1+1+1+1+1+1+1+1+1+1+1+1)); let z7:=(nAt (ims s.ims) (o.image.toNat*28+1+1+1+1+1+1+1+1+1+1+1+1+1+1+1+1+1+1+1+1)); let z8:=(nAt (ims s.ims) (o.image.toNat*28+1+1+1+1+1+1+1+1+1+1+1+1+1+1+1+1+1+1+1+1+1)); let z9:=(nAt (ims s.ims) (o.image.toNat*28+1+1+1+1+1+1+1+1+1+1+1+1+1+1+1+1+1+1+1+1+1+1)); let y0:=(nAt (ims s.ims) (o.image.toNat*28+1+1+1+1+1+1+1+1+1+1+1+1+1+1+1+1+1+1+1+1+1+1+1+1)); let w1:=(o.image.toNat*28+1+1+1+1+1+1+1+1+1+1+1); let y1:=(cAt (ims s.ims) w1); let y2:=(lAt (ims s.ims) w1); let y3:=(nAt (ims s.ims) (o.image.toNat*28+1+1+1+1+1+1+1+1+1+1+1+1+1+1+1+1+1+1+1+1+1+1+1+1+1)); let y4:=(nAt (ims s.ims) (o.image.toNat*28+1+1+1+1+1+1+1+1+1+1+1+1+1+1+1+1+1+1+1+1+1+1+1+1+1+1)); let w2:=(o.image.toNat*28+1+1+1+1+1+1+1+1+1+1+1+1+1+1+1); let y5:=(cAt (ims s.ims) w2); let y6:=(lAt (ims s.ims) w2); let w3:=(o.image.toNat*28+1+1+1+1+1+1+1+1+1+1+1+1+1+1+1+1+1+1+1); let y7:=(cAt (ims s.ims) w3); let y8:=(lAt (ims s.ims) w3); let w4:=(o.image.toNat*28+1+1+1+1+1+1+1+1+1+1+1+1+1+1+1+1+1+1+1+1+1+1+1); let y9:=(cAt (ims s.ims) w4); let x0:=(lAt (ims s.ims) w4); let w5:=(o.image.toNat*28+1+1+1+1+1+1+1+1+1+1+1+1+1+1+1+1+1+1+1+1+1+1+1+1+1+1+1); let x1:=(cAt (ims s.ims) w5); let x2:=(lAt (ims s.ims) w5); let x8:=[dK (zZF ⟨Q,R,S,⟨T,U,V,W,X⟩,⟨Y,Z,z0,y2,y1⟩,⟨z1,z2,z3,y6,y5⟩,⟨z4,z5,z6,y8,y7⟩,⟨z7,z8,z9,x0,y9⟩,⟨y0,y3,y4,x2,x1⟩⟩ x y o.x o.y).a,dK (zZF ⟨Q,R,S,⟨T,U,V,W,X⟩,⟨Y,Z,z0,y2,y1⟩,⟨z1,z2,z3,y6,y5⟩,⟨z4,z5,z6,y8,y7⟩,⟨z7,z8,z9,x0,y9⟩,⟨y0,y3,y4,x2,x1⟩⟩ x y o.x o.y).b,dK (zZF ⟨Q,R,S,⟨T,U,V,W,X⟩,⟨Y,Z,z0,y2,y1⟩,⟨z1,z2,z3,y6,y5⟩,⟨z4,z5,z6,y8,y7⟩,⟨z7,z8,z9,x0,y9⟩,⟨y0,y3,y4,x2,x1⟩⟩ x y o.x o.y).c,dK (zZF ⟨Q,R,S,⟨T,U,V,W,X⟩,⟨Y,Z,z0,y2,y1⟩,⟨z1,z2,z3,y6,y5⟩,⟨z4,z5,z6,y8,y7⟩,⟨z7,z8,z9,x0,y9⟩,⟨y0,y3,y4,x2,x1⟩⟩ x y o.x o.y).al,dK (zZF ⟨Q,R,S,⟨T,U,V,W,X⟩,⟨Y,Z,z0,y2,y1⟩,⟨z1,z2,z3,y6,y5⟩,⟨z4,z5,z6,y8,y7⟩,⟨z7,z8,z9,x0,y9⟩,⟨y0,y3,y4,x2,x1⟩⟩ x y o.x o.y).f]; let d:=(wK (o.mask - 1)); let e:=(nAt (ims s.ims) (d.toNat*28)); let g:=(nAt (ims s.ims) (d.toNat*28+1)); let h:=(bAt (ims s.ims) (d.toNat*28+1+1)); let i:=(nAt (ims s.ims) (d.toNat*28+1+1+1)); let j:=(nAt (ims s.ims) (d.toNat*28+1+1+1+1)); let k:=(nAt (ims s.ims) (d.toNat*28+1+1+1+1+1)); let l:=(nAt (ims s.ims) (d.toNat*28+1+1+1+1+1+1)); let m:=(nAt (ims s.ims) (d.toNat*28+1+1+1+1+1+1+1)); let n:=(nAt (ims s.ims) (d.toNat*28+1+1+1+1+1+1+1+1)); let p:=(nAt (ims s.ims) (d.toNat*28+1+1+1+1+1+1+1+1+1)); let q:=(nAt (ims s.ims) (d.toNat*28+1+1+1+1+1+1+1+1+1+1)); let r:=(nAt (ims s.ims) (d.toNat*28+1+1+1+1+1+1+1+1+1+1+1+1)); let t:=(nAt (ims s.ims) (d.toNat*28+1+1+1+1+1+1+1+1+1+1+1+1+1)); let u:=(nAt (ims s.ims) (d.toNat*28+1+1+1+1+1+1+1+1+1+1+1+1+1+1)); let v:=(nAt (ims s.ims) (d.toNat*28+1+1+1+1+1+1+1+1+1+1+1+1+1+1+1+1)); let w:=(nAt (ims s.ims) (d.toNat*28+1+1+1+1+1+1+1+1+1+1+1+1+1+1+1+1+1)); let z:=(nAt (ims s.ims) (d.toNat*28+1+1+1+1+1+1+1+1+1+1+1+1+1+1+1+1+1+1)); let A:=(nAt (ims s.ims) (d.toNat*28+1+1+1+1+1+1+1+1+1+1+1+1+1+1+1+1+1+1+1+1)); let B:=(nAt (ims s.ims) (d.toNat*28+1+1+1+1+1+1+1+1+1+1+1+1+1+1+1+1+1+1+1+1+1)); let C:=(nAt (ims s.ims) (d.toNat*28+1+1+1+1+1+1+1+1+1+1+1+1+1+1+1+1+1+1+1+1+1+1)); let D:=(nAt (ims s.ims) (d.toNat*28+1+1+1+1+1+1+1+1+1+1+1+1+1+1+1+1+1+1+1+1+1+1+1+1)); let E:=(nAt (ims s.ims) (d.toNat*28+1+1+1+1+1+1+1+1+1+1+1+1+1+1+1+1+1+1+1+1+1+1+1+1+1)); let F:=(nAt (ims s.ims) (d.toNat*28+1+1+1+1+1+1+1+1+1+1+1+1+1+1+1+1+1+1+1+1+1+1+1+1+1+1)); let w6:=(0≤wK (o.mask - 1)∧wK (o.mask - 1) < x6∧d.toNat*28 < (ims s.ims).length); let w7:=(d.toNat*28+1+1+1+1+1+1+1+1+1+1+1); let G:=(cAt (ims s.ims) w7); let H:=(lAt (ims s.ims) w7); let w8:=(d.toNat*28+1+1+1+1+1+1+1+1+1+1+1+1+1+1+1); let I:=(cAt (ims s.ims) w8); let J:=(lAt (ims s.ims) w8); let w9:=(d.toNat*28+1+1+1+1+1+1+1+1+1+1+1+1+1+1+1+1+1+1+1); let K:=(cAt (ims s.ims) w9); let L:=(lAt (ims s.ims) w9); let v0:=(d.toNat*28+1+1+1+1+1+1+1+1+1+1+1+1+1+1+1+1+1+1+1+1+1+1+1); let M:=(cAt (ims s.ims) v0); let N:=(lAt (ims s.ims) v0); let v1:=(d.toNat*28+1+1+1+1+1+1+1+1+1+1+1+1+1+1+1+1+1+1+1+1+1+1+1+1+1+1+1); let O:=(cAt (ims s.ims) v1); let P:=(lAt (ims s.ims) v1); let v2:=(((ims s.ims)[d.toNat*28]?=some (dJ e))∧((ims s.ims)[d.toNat*28+1]?=some (dJ g))∧((ims s.ims)[d.toNat*28+1+1]?=some (dQ h))∧((ims s.ims)[d.toNat*28+1+1+1]?=some (dK i))∧((ims s.ims)[d.toNat*28+1+1+1+1]?=some (dK j))∧((ims s.ims)[d.toNat*28+1+1+1+1+1]?=some (dK k))∧((ims s.ims)[d.toNat*28+1+1+1+1+1+1]?=some (dK l))∧((ims s.ims)[d.toNat*28+1+1+1+1+1+1+1]?=some (dK m))∧((ims s.ims)[d.toNat*28+1+1+1+1+1+1+1+1]?=some (dJ n))∧((ims s.ims)[d.toNat*28+1+1+1+1+1+1+1+1+1]?=some (dJ p))∧((ims s.ims)[d.toNat*28+1+1+1+1+1+1+1+1+1+1]?=some (dJ q))∧((ims s.ims)[d.toNat*28+1+1+1+1+1+1+1+1+1+1+1]?=some (dS H G))∧((ims s.ims)[d.toNat*28+1+1+1+1+1+1+1+1+1+1+1+1]?=some (dJ r))∧((ims s.ims)[d.toNat*28+1+1+1+1+1+1+1+1+1+1+1+1+1]?=some (dJ t))∧((ims s.ims)[d.toNat*28+1+1+1+1+1+1+1+1+1+1+1+1+1+1]?=some (dJ u))∧((ims s.ims)[d.toNat*28+1+1+1+1+1+1+1+1+1+1+1+1+1+1+1]?=some (dS J I))∧((ims s.ims)[d.toNat*28+1+1+1+1+1+1+1+1+1+1+1+1+1+1+1+1]?=some (dJ v))∧((ims s.ims)[d.toNat*28+1+1+1+1+1+1+1+1+1+1+1+1+1+1+1+1+1]?=some (dJ w))∧((ims s.ims)[d.toNat*28+1+1+1+1+1+1+1+1+1+1+1+1+1+1+1+1+1+1]?=some (dJ z))∧((ims s.ims)[d.toNat*28+1+1+1+1+1+1+1+1+1+1+1+1+1+1+1+1+1+1+1]?=some (dS L K))∧((ims s.ims)[d.toNat*28+1+1+1+1+1+1+1+1+1+1+1+1+1+1+1+1+1+1+1+1]?=some (dJ A))∧((ims s.ims)[d.toNat*28+1+1+1+1+1+1+1+1+1+1+1+1+1+1+1+1+1+1+1+1+1]?=some (dJ B))∧((ims s.ims)[d.toNat*28+1+1+1+1+1+1+1+1+1+1+1+1+1+1+1+1+1+1+1+1+1+1]?=some (dJ C))∧((ims s.ims)[d.toNat*28+1+1+1+1+1+1+1+1+1+1+1+1+1+1+1+1+1+1+1+1+1+1+1]?=some (dS N M))∧((ims s.ims)[d.toNat*28+1+1+1+1+1+1+1+1+1+1+1+1+1+1+1+1+1+1+1+1+1+1+1+1]?=some (dJ D))∧((ims s.ims)[d.toNat*28+1+1+1+1+1+1+1+1+1+1+1+1+1+1+1+1+1+1+1+1+1+1+1+1+1]?=some (dJ E))∧((ims s.ims)[d.toNat*28+1+1+1+1+1+1+1+1+1+1+1+1+1+1+1+1+1+1+1+1+1+1+1+1+1+1]?=some (dJ F))∧((ims s.ims)[d.toNat*28+1+1+1+1+1+1+1+1+1+1+1+1+1+1+1+1+1+1+1+1+1+1+1+1+1+1+1]?=some (dS P O))∧True); let v3:=(Ans prog 76 [RV.agg [dJ e,dJ g,dQ h,dK i,dK j,dK k,dK l,dK m,dJ n,dJ p,dJ q,dS H G,dJ r,dJ t,dJ u,dS J I,dJ v,dJ w,dJ z,dS L K,dJ A,dJ B,dJ C,dS N M,dJ D,dJ E,dJ F,dS P O],rJ x,rJ y,rJ o.mx,rJ o.my] (RV.agg [dK (zZF ⟨e,g,h,⟨i,j,k,l,m⟩,⟨n,p,q,H,G⟩,⟨r,t,u,J,I⟩,⟨v,w,z,L,K⟩,⟨A,B,C,N,M⟩,⟨D,E,F,P,O⟩⟩ x y o.mx o.my).a,dK (zZF ⟨e,g,h,⟨i,j,k,l,m⟩,⟨n,p,q,H,G⟩,⟨r,t,u,J,I⟩,⟨v,w,z,L,K⟩,⟨A,B,C,N,M⟩,⟨D,E,F,P,O⟩⟩ x y o.mx o.my).b,dK (zZF ⟨e,g,h,⟨i,j,k,l,m⟩,⟨n,p,q,H,G⟩,⟨r,t,u,J,I⟩,⟨v,w,z,L,K⟩,⟨A,B,C,N,M⟩,⟨D,E,F,P,O⟩⟩ x y o.mx o.my).c,dK (zZF ⟨e,g,h,⟨i,j,k,l,m⟩,⟨n,p,q,H,G⟩,⟨r,t,u,J,I⟩,⟨v,w,z,L,K⟩,⟨A,B,C,N,M⟩,⟨D,E,F,P,O⟩⟩ x y o.mx o.my).al,dK (zZF ⟨e,g,h,⟨i,j,k,l,m⟩,⟨n,p,q,H,G⟩,⟨r,t,u,J,I⟩,⟨v,w,z,L,K⟩,⟨A,B,C,N,M⟩,⟨D,E,F,P,O⟩⟩ x y o.mx o.my).f])); let v4:=(dK (zZF ⟨e,g,h,⟨i,j,k,l,m⟩,⟨n,p,q,H,G⟩,⟨r,t,u,J,I⟩,⟨v,w,z,L,K⟩,⟨A,B,C,N,M⟩,⟨D,E,F,P,O⟩⟩ x y o.mx o.my).al); let x3:=[RV.agg [dK x4.a,dK x4.b,dK x4.c,dK x4.al,dK x4.f],RV.d (dK (zZY s.ims o x y))]; let v5:=[RV.agg x8,RV.d (dK 0)]; let v6:=[dK 0,dK 0,dK 0,dK 0,dK 0]; let v7:=[RV.agg v6,RV.d (dK 0)]; let x9:=((x5=true→tU7 ((x7=true→tU5 (w6∧v2∧tU6 (v3∧tU2 ((true=true)∧tU4 (RV.tup [RV.agg v6,RV.d v4]=RV.tup x3)))))∧(x7=false→tU4 (RV.tup v7=RV.tup x3))))∧(x5=(!true)→tU5 (RV.tup v7=RV.tup x3))); tU2 (tU8 (((o.kind==1)=true→tU5 (((decide (o.image≥0))=true→tU7 ((w0=true→tU4 ((0≤o.image∧o.image < x6∧o.image.toNat*28 < (ims s.ims).length)∧(((ims s.ims)[o.image.toNat*28]?=some (dJ Q))∧((ims s.ims)[o.image.toNat*28+1]?=some (dJ R))∧((ims s.ims)[o.image.toNat*28+1+1]?=some (dQ S))∧((ims s.ims)[o.image.toNat*28+1+1+1]?=some (dK T))∧((ims s.ims)[o.image.toNat*28+1+1+1+1]?=some (dK U))∧((ims s.ims)[o.image.toNat*28+1+1+1+1+1]?=some (dK V))∧((ims s.ims)[o.image.toNat*28+1+1+1+1+1+1]?=some (dK W))∧((ims s.ims)[o.image.toNat*28+1+1+1+1+1+1+1]?=some (dK X))∧((ims s.ims)[o.image.toNat*28+1+1+1+1+1+1+1+1]?=some (dJ Y))∧((ims s.ims)[o.image.toNat*28+1+1+1+1+1+1+1+1+1]?=some (dJ Z))∧((ims s.ims)[o.image.toNat*28+1+1+1+1+1+1+1+1+1+1]?=some (dJ z0))∧((ims s.ims)[o.image.toNat*28+1+1+1+1+1+1+1+1+1+1+1]?=some (dS y2 y1))∧((ims s.ims)[o.image.toNat*28+1+1+1+1+1+1+1+1+1+1+1+1]?=some (dJ z1))∧((ims s.ims)[o.image.toNat*28+1+1+1+1+1+1+1+1+1+1+1+1+1]?=some (dJ z2))∧((ims s.ims)[o.image.toNat*28+1+1+1+1+1+1+1+1+1+1+1+1+1+1]?=some (dJ z3))∧((ims s.ims)[o.image.toNat*28+1+1+1+1+1+1+1+1+1+1+1+1+1+1+1]?=some (dS y6 y5))∧((ims s.ims)[o.image.toNat*28+1+1+1+1+1+1+1+1+1+1+1+1+1+1+1+1]?=some (dJ z4))∧((ims s.ims)[o.image.toNat*28+1+1+1+1+1+1+1+1+1+1+1+1+1+1+1+1+1]?=some (dJ z5))∧((ims s.ims)[o.image.toNat*28+1+1+1+1+1+1+1+1+1+1+1+1+1+1+1+1+1+1]?=some (dJ z6))∧((ims s.ims)[o.image.toNat*28+1+1+1+1+1+1+1+1+1+1+1+1+1+1+1+1+1+1+1]?=some (dS y8 y7))∧((ims s.ims)[o.image.toNat*28+1+1+1+1+1+1+1+1+1+1+1+1+1+1+1+1+1+1+1+1]?=some (dJ z7))∧((ims s.ims)[o.image.toNat*28+1+1+1+1+1+1+1+1+1+1+1+1+1+1+1+1+1+1+1+1+1]?=some (dJ z8))∧((ims s.ims)[o.image.toNat*28+1+1+1+1+1+1+1+1+1+1+1+1+1+1+1+1+1+1+1+1+1+1]?=some (dJ z9))∧((ims s.ims)[o.image.toNat*28+1+1+1+1+1+1+1+1+1+1+1+1+1+1+1+1+1+1+1+1+1+1+1]?=some (dS x0 y9))∧((ims s.ims)[o.image.toNat*28+1+1+1+1+1+1+1+1+1+1+1+1+1+1+1+1+1+1+1+1+1+1+1+1]?=some (dJ y0))∧((ims s.ims)[o.image.toNat*28+1+1+1+1+1+1+1+1+1+1+1+1+1+1+1+1+1+1+1+1+1+1+1+1+1]?=some (dJ y3))∧((ims s.ims)[o.image.toNat*28+1+1+1+1+1+1+1+1+1+1+1+1+1+1+1+1+1+1+1+1+1+1+1+1+1+1]?=some (dJ y4))∧((ims s.ims)[o.image.toNat*28+1+1+1+1+1+1+1+1+1+1+1+1+1+1+1+1+1+1+1+1+1+1+1+1+1+1+1]?=some (dS x2 x1))∧True)∧tU6 ((Ans prog 76 [RV.agg [dJ Q,dJ R,dQ S,dK T,dK U,dK V,dK W,dK X,dJ Y,dJ Z,dJ z0,dS y2 y1,dJ z1,dJ z2,dJ z3,dS y6 y5,dJ z4,dJ z5,dJ z6,dS y8 y7,dJ z7,dJ z8,dJ z9,dS x0 y9,dJ y0,dJ y3,dJ y4,dS x2 x1],rJ x,rJ y,rJ o.x,rJ o.y] (RV.agg x8))∧True∧(true=true)∧tU4 ((x5=true→tU7 ((x7=true→tU5 (w6∧v2∧tU6 (v3∧tU2 ((true=true)∧tU4 (RV.tup [RV.agg x8,RV.d v4]=RV.tup x3)))))∧(x7=false→tU4 (RV.tup v5=RV.tup x3))))∧(x5=(!true)→tU5 (RV.tup v5=RV.tup x3))))))∧(w0=false→tU4 x9)))∧((decide (o.image≥0))=(!true)→tU5 x9)))∧((o.kind==1)=(!true)→tU7 x9))))) ?_
  delta dJ dK dQ wK dS rJ
  simp only [sS]
  have oeta:(⟨o.kind,o.image,o.x,o.y,o.mask,o.mx,o.my,o.opac,o.oper,o.mode,o.iso,o.kno⟩:Oq)=o:=rfl
  have ime:∀ m:Im,(⟨m.w,m.h,m.so,⟨m.c.a,m.c.b,m.c.c,m.c.al,m.c.f⟩,⟨m.p0.w,m.p0.h,m.p0.s,m.p0.n,m.p0.xs⟩,⟨m.p1.w,m.p1.h,m.p1.s,m.p1.n,m.p1.xs⟩,⟨m.p2.w,m.p2.h,m.p2.s,m.p2.n,m.p2.xs⟩,⟨m.p3.w,m.p3.h,m.p3.s,m.p3.n,m.p3.xs⟩,⟨m.p4.w,m.p4.h,m.p4.s,m.p4.n,m.p4.xs⟩⟩:Im)=m:=fun _=>rfl
  have wm:1≤o.mask→o.mask≤s.ims.length→IntKind.wrap .i64 (o.mask - 1)=o.mask - 1:=fun h1 h2=>by
   simp only [RV.wfs,RV.wf,DV.wf,DV.wfs] at hwf
   have ma:IntKind.max .i64=9223372036854775807:=rfl
   have hb:∃ l h,l≤o.mask∧o.mask≤9223372036854775807∧h=l:=⟨_,_,by omega,by have:=hwf.2.1; simp only [ma] at this; omega,rfl⟩
   obtain ⟨_,_,_,h3,_⟩:=hb
   exact IntWalk.i64_in _ ⟨by omega,by omega⟩
  clear hwf
  have S1:o.kind=1→(h0:0≤o.image)→(h:o.image.toNat < s.ims.length)→srcS s.ims o x y=zZF s.ims[o.image.toNat] x y o.x o.y:=fun h1 h2 h3=>by unfold srcS; rw [if_pos h1,zHT h2 h3]
  have SZ:¬ (o.kind=1∧0≤o.image∧o.image < s.ims.length)→srcS s.ims o x y=.zero:=fun h=>by
   unfold srcS
   split
   ·rename_i h1
    exact zU3 (fun q=>h ⟨h1,q⟩)
   ·rfl
  have M1:1≤o.mask→(h:(o.mask - 1).toNat < s.ims.length)→(zZF s.ims[(o.mask - 1).toNat] x y o.mx o.my).al=zZY s.ims o x y:=fun h1 h3=>by unfold zZY; rw [if_pos h1,zHT (by omega) h3]
  have MZ:¬ (1≤o.mask∧o.mask≤s.ims.length)→0=zZY s.ims o x y:=fun h=>by
   unfold zZY
   split
   ·rw [zU3 (by omega)]; rfl
   ·rfl
  have Z:¬ (o.kind=1∧0≤o.image∧o.image < s.ims.length)→(0=(srcS s.ims o x y).a∧0=(srcS s.ims o x y).b∧0=(srcS s.ims o x y).c∧0=(srcS s.ims o x y).al∧0=(srcS s.ims o x y).f):=fun h=>by rw [SZ h]; exact ⟨rfl,rfl,rfl,rfl,rfl⟩
  have N:=fun i (hi:i < s.ims.length) u v=>jQm s.ims[i] x y u v (hu _ (List.getElem_mem hi))
  have lb:∀ i:Int,0≤i→i < s.ims.length→(0≤i∧i < ↑s.ims.length∧i.toNat*28 < (ims s.ims).length):=fun i h0 h1=>⟨h0,h1,by rw [zJX]; omega⟩
  by_cases hm:1≤o.mask∧o.mask≤s.ims.length
  ·have k2:(o.mask - 1).toNat < s.ims.length:=by omega
   rw [wm hm.1 hm.2]
   have q2:=zHR k2
   simp only [zHS k2,q2,and_self,true_and]
   clear q2
   have N2:=N _ k2 o.mx o.my
   by_cases hi:0≤o.image∧o.image < s.ims.length
   ·have k1:o.image.toNat < s.ims.length:=by omega
    have q1:=zHR k1
    simp only [zHS k1,q1,and_self,true_and]
    clear q1
    have N1:=N _ k1 o.x o.y
    simp only [ime,oeta] at N1 N2 ⊢
    refine ⟨fun h1=>⟨fun h2=>⟨fun h3=>⟨lb _ hi.1 hi.2,N1,⟨fun _=>⟨fun _=>⟨lb _ (by omega) (by omega),N2,?_,M1 hm.1 k2⟩,fun h=>absurd hm.2 h⟩,fun h=>absurd hm.1 h⟩⟩,fun h=>absurd hi.2 h⟩,fun h=>absurd hi.1 h⟩,fun h=>⟨fun _=>⟨fun _=>⟨lb _ (by omega) (by omega),N2,?_,M1 hm.1 k2⟩,fun h=>absurd hm.2 h⟩,fun h=>absurd hm.1 h⟩⟩
    ·have h1:o.kind=1:=by simpa using h1
     rw [S1 h1 hi.1 k1]; exact ⟨rfl,rfl,rfl,rfl,rfl⟩
    ·exact Z (fun q=>by rw [q.1] at h; cases h)
   ·simp only [ime,oeta] at N2 ⊢
    refine ⟨fun h1=>⟨fun h2=>⟨fun h3=>absurd ⟨h2,h3⟩ hi,fun h=>⟨fun _=>⟨fun _=>⟨lb _ (by omega) (by omega),N2,?_,M1 hm.1 k2⟩,fun h=>absurd hm.2 h⟩,fun h=>absurd hm.1 h⟩⟩,fun h=>⟨fun _=>⟨fun _=>⟨lb _ (by omega) (by omega),N2,?_,M1 hm.1 k2⟩,fun h=>absurd hm.2 h⟩,fun h=>absurd hm.1 h⟩⟩,fun h=>⟨fun _=>⟨fun _=>⟨lb _ (by omega) (by omega),N2,?_,M1 hm.1 k2⟩,fun h=>absurd hm.2 h⟩,fun h=>absurd hm.1 h⟩⟩
    all_goals exact Z (fun q=>hi q.2)
  ·by_cases hi:0≤o.image∧o.image < s.ims.length
   ·have k1:o.image.toNat < s.ims.length:=by omega
    have q1:=zHR k1
    simp only [zHS k1,q1,and_self,true_and]
    clear q1
    have N1:=N _ k1 o.x o.y
    simp only [ime,oeta] at N1 ⊢
    refine ⟨fun h9=>⟨fun h2=>⟨fun h3=>⟨lb _ hi.1 hi.2,N1,⟨fun h1=>⟨fun h2=>absurd ⟨h1,h2⟩ hm,fun _=>⟨?_,MZ hm⟩⟩,fun _=>⟨?_,MZ hm⟩⟩⟩,fun h=>absurd hi.2 h⟩,fun h=>absurd hi.1 h⟩,fun h=>⟨fun h1=>⟨fun h2=>absurd ⟨h1,h2⟩ hm,fun _=>⟨?_,MZ hm⟩⟩,fun _=>⟨?_,MZ hm⟩⟩⟩
    ·have h9:o.kind=1:=by simpa using h9
     rw [S1 h9 hi.1 k1]; exact ⟨rfl,rfl,rfl,rfl,rfl⟩
    ·have h9:o.kind=1:=by simpa using h9
     rw [S1 h9 hi.1 k1]; exact ⟨rfl,rfl,rfl,rfl,rfl⟩
    all_goals exact Z (fun q=>by rw [q.1] at h; cases h)
   ·refine ⟨fun h1=>⟨fun h2=>⟨fun h3=>absurd ⟨h2,h3⟩ hi,fun h=>⟨fun h1=>⟨fun h2=>absurd ⟨h1,h2⟩ hm,fun _=>⟨?_,MZ hm⟩⟩,fun _=>⟨?_,MZ hm⟩⟩⟩,fun h=>⟨fun h1=>⟨fun h2=>absurd ⟨h1,h2⟩ hm,fun _=>⟨?_,MZ hm⟩⟩,fun _=>⟨?_,MZ hm⟩⟩⟩,fun h=>⟨fun h1=>⟨fun h2=>absurd ⟨h1,h2⟩ hm,fun _=>⟨?_,MZ hm⟩⟩,fun _=>⟨?_,MZ hm⟩⟩⟩
    all_goals exact Z (fun q=>hi q.2)
theorem zKi (o:Oq) (p:Px) (mask most:Int):Ans prog 78 [RV.agg [dJ o.kind,dJ o.image,dJ o.x,dJ o.y,dJ o.mask,dJ o.mx,dJ o.my,dK o.opac,dJ o.oper,dJ o.mode,dQ o.iso,dQ o.kno],RV.agg [dK p.a,dK p.b,dK p.c,dK p.al,dK p.f],RV.d (dK mask),RV.d (dK most)] (RV.tup [RV.agg [dK (((zQe most o p mask).1).a),dK (((zQe most o p mask).1).b),dK (((zQe most o p mask).1).c),dK (((zQe most o p mask).1).al),dK (((zQe most o p mask).1).f)],RV.d (dQ ((zQe most o p mask).2))]):=
 zQa (Γ:=jJl) Ann.leaf zQg Tryz.func78 rfl (nL rfl) fun hwf=>by
  refine Eq.mpr (by kernel_rfl:_=(let a:=(zQe most o p mask); let b:=(zYn p most o.opac most); let c:=(zYn p mask o.opac most); let d:=[dK p.a,dK p.b,dK p.c,dK p.al,dK p.f]; let e:=[RV.agg [dK c.1.a,dK c.1.b,dK c.1.c,dK c.1.al,dK c.1.f],RV.d (dQ c.2)]; let f:=[RV.agg [dK a.1.a,dK a.1.b,dK a.1.c,dK a.1.al,dK a.1.f],RV.d (dQ a.2)]; let g:=[RV.agg [dK b.1.a,dK b.1.b,dK b.1.c,dK b.1.al,dK b.1.f],RV.d (dQ b.2)]; True∧tU8 (((o.mask != 0)=true→tU7 ((Ans prog 93 [RV.agg d,RV.d (dK mask),RV.d (dK o.opac),RV.d (dK most)] (RV.tup e))∧tU4 (RV.tup e=RV.tup f)))∧((o.mask != 0)=false→tU5 ((Ans prog 93 [RV.agg d,RV.d (dK most),RV.d (dK o.opac),RV.d (dK most)] (RV.tup g))∧tU4 (RV.tup g=RV.tup f)))))) ?_
  delta dK dQ
  simp only [sS]
  clear hwf
  have B:=fun k=>jQp p k o.opac most
  refine ⟨fun h=>?_,fun h=>?_⟩
  ·have h:o.mask≠0:=by simpa using h
   have e:zQe most o p mask=zYn p mask o.opac most:=by unfold zQe; rw [if_neg h]
   rw [e]
   exact ⟨B _,⟨rfl,rfl,rfl,rfl,rfl⟩,rfl⟩
  ·have h:o.mask=0:=by simpa using h
   have e:zQe most o p mask=zYn p most o.opac most:=by unfold zQe; rw [if_pos h]
   rw [e]
   exact ⟨B _,⟨rfl,rfl,rfl,rfl,rfl⟩,rfl⟩
theorem zXq (x:Ac):Ans prog 48 [RV.agg [dK x.a,dK x.b,dK x.c,dK x.al,dK x.own,dK x.f]] (RV.agg [dK ((Ac.col x).a),dK ((Ac.col x).b),dK ((Ac.col x).c),dK ((Ac.col x).al),dK ((Ac.col x).f)]):=
 zQa (Γ:=jJl) Ann.leaf zQg Tryz.func48 rfl (nL rfl) fun hwf=>by
  refine Eq.mpr (by kernel_rfl:_=(tU2 (tU8 (RV.agg [dK x.a,dK x.b,dK x.c,dK x.al,dK x.f]=RV.agg [dK (Ac.col x).a,dK (Ac.col x).b,dK (Ac.col x).c,dK (Ac.col x).al,dK (Ac.col x).f])))) ?_
  delta dK
  simp only [sS]
  exact ⟨rfl,rfl,rfl,rfl,rfl⟩
end
section
variable {w:World} {V V':Nat→Prop} {ι:zQk} {bx:Nat→Bx}
end
def StV (bits:Int) (mn:Nat) (st:List Oq):Prop:=∀ (p:List Oq) (q:Oq) (r:List Oq),st=p++q::r→q.kind=2∧errO bits mn q p=0
theorem StV.nil {bits:Int} {mn:Nat}:StV bits mn []:=fun p q r h=>by simp at h
theorem StV.push {bits:Int} {mn:Nat} {st:List Oq} (h:StV bits mn st) {o:Oq} (hk:o.kind=2) (he:errO bits mn o st=0):StV bits mn (st++[o]):=fun p q r e=>by
 rcases List.eq_nil_or_concat r with rfl | ⟨r',z,rfl⟩
 ·have ⟨e1,e2⟩:=List.append_inj' e rfl
  simp only [List.cons.injEq,and_true] at e2
  subst e1 e2
  exact ⟨hk,he⟩
 ·have e:st++[o]=(p++q::r')++[z]:=by rw [e]; simp
  exact h p q r' (List.append_inj' e rfl).1
theorem StV.pop {bits:Int} {mn:Nat} {st:List Oq} (h:StV bits mn st):StV bits mn st.dropLast:=fun p q r e=>by
 rcases List.eq_nil_or_concat st with rfl | ⟨s',z,rfl⟩
 ·simp at e
 ·rw [List.concat_eq_append,List.dropLast_concat] at e
  exact h p q (r++[z]) (by rw [List.concat_eq_append,e]; simp)
theorem jXD {m:Int} {ms:List Im} {x y:Int} {L:List Lv} {o:Oq} (hk:o.kind=3):zYW m ms x y L o=zYW m ms x y L popO:=by
 have k3:popO.kind=3:=rfl
 unfold zYW
 rw [if_neg (by omega),if_neg (by omega),if_pos hk,if_neg (by omega),if_neg (by omega),if_pos k3]
theorem jXC {m:Int} {bits:Int} {ms:List Im} {st:List Oq} {L:List Lv} {o:Oq} (hi:zKE m ms) (hb:zQ1 bits=m) (hv:StV bits ms.length st) (h:StOk m st L) (h0:0≤o.opac) (he:errO bits ms.length o st=0) (x y:Int) :
  StV bits ms.length (zZX o st)∧StOk m (zZX o st) (zYW m ms x y L o):=by
 obtain ⟨P,t,rfl⟩:=h.split
 rcases zYP he with hk | hk | ⟨hk,hne⟩
 ·rw [zWk hk]
  obtain ⟨a,e,h1⟩:=jQg hi hb h hk h0 he x y
  rw [e]
  exact ⟨hv,h1⟩
 ·rw [zWj hk]
  obtain ⟨e,h1⟩:=zWC hb h hk h0 he x y (ms:=ms)
  rw [e]
  exact ⟨hv.push hk he,h1⟩
 ·rcases List.eq_nil_or_concat st with rfl | ⟨st',q,rfl⟩
  ·exact absurd rfl hne
  ·have hk:o.kind=3:=by rw [hk]; rfl
   rw [List.concat_eq_append] at hv h hne ⊢
   have e:zZX o (st'++[q])=st':=by unfold zZX; rw [if_neg (by omega),if_pos hk,List.dropLast_concat]
   obtain ⟨q1,q2⟩:=hv st' q [] rfl
   obtain ⟨_,_,_,_,f2,f3,f4,_⟩:=zZS (.inr q1) q2
   obtain ⟨P',u,rfl⟩:=h.pre.2.split
   obtain ⟨e3,a,e4,s3⟩:=jXZ hi h f2 f3 f4 x y
   rw [e,jXD hk,e3,e4]
   have:=hv.pop
   rw [List.dropLast_concat] at this
   exact ⟨this,s3⟩
theorem jXN {m:Int} {bits:Int} {ms:List Im} (hi:zKE m ms) (hb:zQ1 bits=m) (x y:Int):∀ (l st st':List Oq) (L:List Lv),okO bits ms.length l st=some st'→(∀ o∈l,0≤o.opac)→StV bits ms.length st→StOk m st L→StV bits ms.length st'∧StOk m st' (runM m ms x y l L)
 | [],st,st',L,h,_,hv,hs=>by
  simp only [okO,Option.some.injEq] at h
  subst h
  exact ⟨hv,hs⟩
 | o::l,st,st',L,h,ho,hv,hs=>by
  simp only [okO] at h
  split at h
  ·rename_i he
   obtain ⟨h1,h2⟩:=jXC hi hb hv hs (ho o (by simp)) he x y
   rw [zYh]
   exact jXN hi hb x y l _ st' _ h (fun q hq=>ho q (by simp [hq])) h1 h2
  ·cases h
theorem zJP (m:Int) (L:List Lv) (o:Oq) (p:Px):(zZf m L o p).length=L.length:=by
 unfold zZf; split <;> simp
theorem jQh (m:Int) (L:List Lv) (o:Oq) (p:Px) (k:Int):(zYR m L o p k).length=L.length:=by
 unfold zYR; split
 ·exact zJP _ _ _ _
 ·rfl
theorem zHD {L:List Lv} (o:Oq) (h:1≤L.length∧L.length≤65):1≤(zXS L o).length∧(zXS L o).length≤65:=by
 unfold zXS; split
 ·simp; omega
 ·exact h
theorem jZp {m:Int} {L:List Lv} (k:Int) (h:1≤L.length∧L.length≤65):1≤(popL m L k).length∧(popL m L k).length≤65:=by
 unfold popL
 split
 ·exact h
 ·split
  ·exact h
  ·split
   ·rw [zJP]; simp; omega
   ·exact h
theorem jXE {m:Int} {ms:List Im} {x y:Int} {L:List Lv} (o:Oq) (h:1≤L.length∧L.length≤65):1≤(zYW m ms x y L o).length∧(zYW m ms x y L o).length≤65:=by
 unfold zYW
 split
 ·rw [jQh]; exact h
 ·split
  ·exact zHD o h
  ·split
   ·exact jZp _ h
   ·exact h
def stT (m:Int) (ms:List Im) (x y i:Int) (z:List Mc × List Lv) (o:Oq):List Mc × List Lv:=
 if o.kind=1 then
  let c:=zXx (z.1++[⟨i,1,.zero,.zero,0,srcS ms o x y⟩]) i o (srcS ms o x y) (zZY ms o x y) m
  let L:=zYR m z.2 o (srcS ms o x y) (zZY ms o x y)
  (c.1++[⟨i,4,c.2,(topL z.2).acc.col,0,(topL L).acc.col⟩],L)
 else if o.kind=2 then (z.1++[⟨i,5,.zero,.zero,0,(topL (zXS z.2 o)).back⟩],zXS z.2 o)
 else if o.kind=3 then
  let t:=topL z.2
  let k:=zZY ms t.op x y
  let r:=resE t.acc t.back m
  let c:=zXx (z.1++[⟨i,6,.zero,.zero,0,r⟩]) i t.op r k m
  let L:=popL m z.2 k
  (c.1++[⟨i,4,c.2,(topL z.2.dropLast).acc.col,0,(topL L).acc.col⟩],L)
 else z
theorem jXF (m:Int) (ms:List Im) (x y i:Int) (z:List Mc × List Lv) (o:Oq):(stT m ms x y i z o).2=zYW m ms x y z.2 o:=by
 unfold stT zYW
 split
 ·rfl
 ·split
  ·rfl
  ·split <;> rfl
theorem zKM (l:List Mc) (i:Int) (o:Oq) (p:Px) (k m:Int):(zXx l i o p k m).1.length≤l.length+2:=by
 unfold zXx; split <;> simp
theorem jJV (m:Int) (ms:List Im) (x y i:Int) (z:List Mc × List Lv) (o:Oq):(stT m ms x y i z o).1.length≤z.1.length+4:=by
 unfold stT
 split
 ·have:=zKM (z.1++[⟨i,1,.zero,.zero,0,srcS ms o x y⟩]) i o (srcS ms o x y) (zZY ms o x y) m
  simp only [List.length_append,List.length_cons,List.length_nil] at this ⊢
  omega
 ·split
  ·simp
  ·split
   ·have:=zKM (z.1++[⟨i,6,.zero,.zero,0,resE (topL z.2).acc (topL z.2).back m⟩]) i (topL z.2).op (resE (topL z.2).acc (topL z.2).back m) (zZY ms (topL z.2).op x y) m
    simp only [List.length_append,List.length_cons,List.length_nil] at this ⊢
    omega
   ·omega
def runT (m:Int) (ms:List Im) (x y:Int) (l:List Oq):Nat→List Mc × List Lv
 | 0=>([],[zXF])
 | k+1=>stT m ms x y k (runT m ms x y l k) ((l[k]?).getD popO)
theorem zGp {m:Int} {ms:List Im} {x y:Int} {l:List Oq}:∀ k,k≤l.length→(runT m ms x y l k).2=runM m ms x y (l.take k) [zXF]
 | 0,_=>rfl
 | k+1,hk=>by
  rw [runT,jXF,zGp k (by omega),List.take_add_one,List.getElem?_eq_getElem (by omega),zJL]
  rfl
theorem zGq (m:Int) (ms:List Im) (x y:Int) (l:List Oq):∀ k,(runT m ms x y l k).1.length≤4*k∧1≤(runT m ms x y l k).2.length∧(runT m ms x y l k).2.length≤65
 | 0=>⟨Nat.le_refl _,by simp [runT],by simp [runT]⟩
 | k+1=>by
  obtain ⟨h1,h2,h3⟩:=zGq m ms x y l k
  have h4:=jJV m ms x y k (runT m ms x y l k) ((l[k]?).getD popO)
  have h5:=jXE (m:=m) (ms:=ms) (x:=x) (y:=y) ((l[k]?).getD popO) ⟨h2,h3⟩
  rw [← jXF (i:=(k:Int))] at h5
  exact ⟨by rw [runT]; omega,h5⟩
theorem zYo {L:List Lv} (h:1≤L.length):topL L=L[L.length - 1]:=by
 unfold topL; rw [List.getElem?_eq_getElem (by omega)]; rfl
theorem jJG (m:Int) (t:Lv):resL m t=resE t.acc t.back m:=by
 unfold resL resE resB
 rfl
section
attribute [local irreducible] Ans AnsO AnsG AnsN AnsI
theorem zHq {cs:List DV}:∀ (ys xs:List DV) (i:Nat),sets (cs++xs) (i+cs.length) ys=cs++sets xs i ys
 | [],xs,i=>rfl
 | y::ys,xs,i=>by
  rw [sets,sets,List.set_append_right _ _ (by omega),show i+cs.length - cs.length=i by omega,show i+cs.length+1=(i+1)+cs.length by omega]
  exact zHq ys _ _
theorem jZh:∀ {l:List Lv} {k:Nat} (a:Ac) (h:k < l.length),sets (lvs l) (k*23+12) a.ds=lvs (l.set k ⟨l[k].op,a,l[k].back⟩)
 | q::l,0,a,_=>rfl
 | q::l,k+1,a,h=>by
  have ih:=jZh (l:=l) (k:=k) a (by simpa using h)
  have e:lvs (q::l)=q.cells++lvs l:=by simp [lvs]
  have e2:∀ t,lvs ((q::l).set (k+1) t)=q.cells++lvs (l.set k t):=fun t=>by simp [lvs]
  have ec:q.cells.length=23:=rfl
  have:=zHq (cs:=q.cells) a.ds (lvs l) (k*23+12)
  rw [e,e2,List.getElem_cons_succ,← ih,← this]
  congr 1
  omega
theorem zHF {m:Int} {L:List Lv} {o:Oq} {p:Px} (h:1≤L.length) (hb:zZI m L o p=true):sets (lvs L) ((L.length - 1)*23+12) (accS (topL L).op.kno o.oper o.mode m p (topL L).acc (topL L).back).ds=lvs (zZf m L o p):=by
 have:=jZh (l:=L) (k:=L.length - 1) (accS (topL L).op.kno o.oper o.mode m p (topL L).acc (topL L).back) (by omega)
 rw [this]
 unfold zZf
 rw [if_pos hb,zYo h]
def gZ56 (xs:List AV) (bs:List Bx):Option Ret:=match xs,bs with | [AV.one (Cl.ptr 0 0)],[Bx.cells [Cl.d (DV.int _ most),Cl.ref 1 n],Bx.row _ _ xs]=>some ⟨aJ ((n:Int) - 1),[bC [cK most,Cl.ref 1 n],Bx.row 123 23 xs],false⟩ | _,_=>none
def jYl:Gam where
 pure:=fun f xs=>
  if f=94 then gZ49 xs else
  none
 modes:=fun f=>
  if f=53 then some ([false],2,1000) else
  none
 proc:=fun f xs bs=>
  if f=53 then gZ56 xs bs else
  none
 iter:=fun f cs=>
  none
theorem zQZ (most:Int) (L:List Lv) (hn:1≤L.length) (hl:L.length≤66):AnsG prog 53 2 [aPz] [bC [cK (most),Cl.ref 1 L.length],Bx.row 123 23 (lvs L)] ⟨aJ ((((L.length:Int) - 1))),[bC [cK (most),Cl.ref 1 L.length],Bx.row 123 23 (lvs L)],false⟩:=
 zQL (Γ:=jYl) Ann.leaf zQg Tryz.func53 rfl (nL rfl) rfl fun hwf hbx=>by
  refine Eq.mpr (by kernel_rfl:_=(let a:=((L.length:Int) - 1); tU5 ((L.length≤maxLen)∧tU2 ((((dJ (wK a)=dJ a)∧True)∧(((dK most=dK most)∧(L.length=L.length)∧True)∧(lvs L=lvs L)∧True))∧zQn ⟨aJ a,[bC [cK most,Cl.ref 1 L.length],Bx.row 123 23 (lvs L)],false⟩)))) ?_
  delta dJ dK cK wK aJ bC
  simp only [sS]
  exact ⟨by unfold maxLen; omega,IntWalk.i64_in _ ⟨by omega,by omega⟩,trivial⟩
theorem zZL (most:Int) (L:List Lv) (hn:1≤L.length) (hl:L.length≤66):AnsG prog 56 2 [aPz] [bC [cK (most),Cl.ref 1 L.length],Bx.row 123 23 (lvs L)] ⟨aJ ((((L.length:Int) - 1))),[bC [cK (most),Cl.ref 1 L.length],Bx.row 123 23 (lvs L)],false⟩:=
 zQL (Γ:=jYl) Ann.leaf zQg Tryz.func56 rfl (nL rfl) rfl fun hwf hbx=>by
  refine Eq.mpr (by kernel_rfl:_=(let a:=((L.length:Int) - 1); tU5 ((L.length≤maxLen)∧tU2 ((((dJ (wK a)=dJ a)∧True)∧(((dK most=dK most)∧(L.length=L.length)∧True)∧(lvs L=lvs L)∧True))∧zQn ⟨aJ a,[bC [cK most,Cl.ref 1 L.length],Bx.row 123 23 (lvs L)],false⟩)))) ?_
  delta dJ dK cK wK aJ bC
  simp only [sS]
  exact ⟨by unfold maxLen; omega,IntWalk.i64_in _ ⟨by omega,by omega⟩,trivial⟩
theorem zXc (most:Int) (L:List Lv) (hn:1≤L.length) (hl:L.length≤66):AnsG prog 49 2 [aPz] [bC [cK (most),Cl.ref 1 L.length],Bx.row 123 23 (lvs L)] ⟨AV.agg [cK ((((topL L).acc).a)),cK ((((topL L).acc).b)),cK ((((topL L).acc).c)),cK ((((topL L).acc).al)),cK ((((topL L).acc).own)),cK ((((topL L).acc).f))],[bC [cK (most),Cl.ref 1 L.length],Bx.row 123 23 (lvs L)],false⟩:=
 zQL (Γ:=jYl) Ann.leaf zQg Tryz.func49 rfl (nL rfl) rfl fun hwf hbx=>by
  refine Eq.mpr (by kernel_rfl:_=(let c:=(L.length:Int); let a:=(c - 1); let d:=(nAt (lvs L) (a.toNat*23+12)); let e:=(nAt (lvs L) (a.toNat*23+12+1)); let f:=(nAt (lvs L) (a.toNat*23+12+1+1)); let g:=(nAt (lvs L) (a.toNat*23+12+1+1+1)); let h:=(nAt (lvs L) (a.toNat*23+12+1+1+1+1)); let i:=(nAt (lvs L) (a.toNat*23+12+1+1+1+1+1)); let b:=[bC [cK most,Cl.ref 1 L.length],Bx.row 123 23 (lvs L)]; tU6 ((AnsG prog 53 2 [aPz] b ⟨aJ a,b,false⟩∧b=b)∧(0≤c - 1∧c - 1 < c)∧True∧(((lvs L)[a.toNat*23+12]?=some (dK d))∧((lvs L)[a.toNat*23+12+1]?=some (dK e))∧((lvs L)[a.toNat*23+12+1+1]?=some (dK f))∧((lvs L)[a.toNat*23+12+1+1+1]?=some (dK g))∧((lvs L)[a.toNat*23+12+1+1+1+1]?=some (dK h))∧((lvs L)[a.toNat*23+12+1+1+1+1+1]?=some (dK i))∧True)∧True∧(true=true)∧((([dK d,dK e,dK f,dK g,dK h,dK i]=[dK (topL L).acc.a,dK (topL L).acc.b,dK (topL L).acc.c,dK (topL L).acc.al,dK (topL L).acc.own,dK (topL L).acc.f])∧True)∧(((dK most=dK most)∧(L.length=L.length)∧True)∧(lvs L=lvs L)∧True))∧zQn ⟨AV.agg [cK (topL L).acc.a,cK (topL L).acc.b,cK (topL L).acc.c,cK (topL L).acc.al,cK (topL L).acc.own,cK (topL L).acc.f],b,false⟩))) ?_
  delta dK cK aJ aPz bC
  simp only [sS]
  have hk:L.length - 1 < L.length:=by omega
  have hT:L[L.length - 1]=topL L:=(zYo hn).symm
  have ei:((L.length:Int) - 1).toNat=L.length - 1:=by omega
  have bd:0≤(L.length:Int) - 1∧(L.length:Int) - 1 < (L.length:Int):=by omega
  have tp:=zQZ most L hn hl
  have r1:=zK0 (l:=L) (k:=L.length - 1) hk
  have r2:=zK1 (l:=L) (k:=L.length - 1) hk
  rw [hT] at r1 r2
  simp only [Nat.add_zero] at r1 r2
  simp only [ei,Nat.add_assoc,Nat.reduceAdd,Nat.add_zero,Nat.zero_add,r1,r2,and_self,true_and,and_true]
  exact ⟨tp,bd,trivial⟩
theorem zJ7 (most:Int) (L:List Lv) (hn:1≤L.length) (hl:L.length≤66):AnsG prog 52 2 [aPz] [bC [cK (most),Cl.ref 1 L.length],Bx.row 123 23 (lvs L)] ⟨AV.agg [cK ((((topL L).back).a)),cK ((((topL L).back).b)),cK ((((topL L).back).c)),cK ((((topL L).back).al)),cK ((((topL L).back).f))],[bC [cK (most),Cl.ref 1 L.length],Bx.row 123 23 (lvs L)],false⟩:=
 zQL (Γ:=jYl) Ann.leaf zQg Tryz.func52 rfl (nL rfl) rfl fun hwf hbx=>by
  refine Eq.mpr (by kernel_rfl:_=(let c:=(L.length:Int); let a:=(c - 1); let d:=(nAt (lvs L) (a.toNat*23+18)); let e:=(nAt (lvs L) (a.toNat*23+18+1)); let f:=(nAt (lvs L) (a.toNat*23+18+1+1)); let g:=(nAt (lvs L) (a.toNat*23+18+1+1+1)); let h:=(nAt (lvs L) (a.toNat*23+18+1+1+1+1)); let b:=[bC [cK most,Cl.ref 1 L.length],Bx.row 123 23 (lvs L)]; tU6 ((AnsG prog 53 2 [aPz] b ⟨aJ a,b,false⟩∧b=b)∧(0≤c - 1∧c - 1 < c)∧True∧(((lvs L)[a.toNat*23+18]?=some (dK d))∧((lvs L)[a.toNat*23+18+1]?=some (dK e))∧((lvs L)[a.toNat*23+18+1+1]?=some (dK f))∧((lvs L)[a.toNat*23+18+1+1+1]?=some (dK g))∧((lvs L)[a.toNat*23+18+1+1+1+1]?=some (dK h))∧True)∧True∧(true=true)∧((([dK d,dK e,dK f,dK g,dK h]=[dK (topL L).back.a,dK (topL L).back.b,dK (topL L).back.c,dK (topL L).back.al,dK (topL L).back.f])∧True)∧(((dK most=dK most)∧(L.length=L.length)∧True)∧(lvs L=lvs L)∧True))∧zQn ⟨AV.agg [cK (topL L).back.a,cK (topL L).back.b,cK (topL L).back.c,cK (topL L).back.al,cK (topL L).back.f],b,false⟩))) ?_
  delta dK cK aJ aPz bC
  simp only [sS]
  have hk:L.length - 1 < L.length:=by omega
  have hT:L[L.length - 1]=topL L:=(zYo hn).symm
  have ei:((L.length:Int) - 1).toNat=L.length - 1:=by omega
  have bd:0≤(L.length:Int) - 1∧(L.length:Int) - 1 < (L.length:Int):=by omega
  have tp:=zQZ most L hn hl
  have r1:=zK0 (l:=L) (k:=L.length - 1) hk
  have r2:=zK1 (l:=L) (k:=L.length - 1) hk
  rw [hT] at r1 r2
  simp only [Nat.add_zero] at r1 r2
  simp only [ei,Nat.add_assoc,Nat.reduceAdd,Nat.add_zero,Nat.zero_add,r1,r2,and_self,true_and,and_true]
  exact ⟨tp,bd,trivial⟩
theorem zXV (most:Int) (L:List Lv) (o:Oq) (p:Px) (hn:1≤L.length) (hl:L.length≤66):AnsG prog 79 1 [aPz,AV.agg [cJ (o.kind),cJ (o.image),cJ (o.x),cJ (o.y),cJ (o.mask),cJ (o.mx),cJ (o.my),cK (o.opac),cJ (o.oper),cJ (o.mode),Cl.d (dQ o.iso),Cl.d (dQ o.kno)],AV.agg [cK (p.a),cK (p.b),cK (p.c),cK (p.al),cK (p.f)]] [bC [cK (most),Cl.ref 1 L.length],Bx.row 123 23 (lvs L)] ⟨AV.one (Cl.d (dQ (zZI most L o p))),[bC [cK (most),Cl.ref 1 (((zZf most L o p)).length)],Bx.row 123 23 (lvs (zZf most L o p))],false⟩:=
 zQL (Γ:=jYl) Ann.leaf zQg Tryz.func79 rfl (nL rfl) rfl fun hwf hbx=>by
  refine Eq.mpr (by kernel_rfl:_=(let x:=(zZI most L o p); let u:=(L.length:Int); let t:=(zZf most L o p); let y:=[bC [cK most,Cl.ref 1 t.length],Bx.row 123 23 (lvs t)]; let d:=(u - 1); let s:=(bAt (lvs L) (d.toNat*23+0+11)); let e:=(nAt (lvs L) (d.toNat*23+18)); let g:=(nAt (lvs L) (d.toNat*23+12)); let h:=(nAt (lvs L) (d.toNat*23+18+1)); let i:=(nAt (lvs L) (d.toNat*23+12+1)); let j:=(nAt (lvs L) (d.toNat*23+18+1+1)); let k:=(nAt (lvs L) (d.toNat*23+12+1+1)); let l:=(nAt (lvs L) (d.toNat*23+18+1+1+1)); let m:=(nAt (lvs L) (d.toNat*23+12+1+1+1)); let n:=(nAt (lvs L) (d.toNat*23+18+1+1+1+1)); let q:=(nAt (lvs L) (d.toNat*23+12+1+1+1+1)); let r:=(nAt (lvs L) (d.toNat*23+12+1+1+1+1+1)); let v:=[bC [cK most,Cl.ref 1 L.length],Bx.row 123 23 (lvs L)]; let w:=(0≤u - 1∧u - 1 < u); let z:=(dQ s); let A:=[dK (zX5 s o.oper o.mode most p (⟨g,i,k,m,q,r⟩:Ac) (⟨e,h,j,l,n⟩:Px)).a,dK (zX5 s o.oper o.mode most p (⟨g,i,k,m,q,r⟩:Ac) (⟨e,h,j,l,n⟩:Px)).b,dK (zX5 s o.oper o.mode most p (⟨g,i,k,m,q,r⟩:Ac) (⟨e,h,j,l,n⟩:Px)).c,dK (zX5 s o.oper o.mode most p (⟨g,i,k,m,q,r⟩:Ac) (⟨e,h,j,l,n⟩:Px)).al,dK (zX5 s o.oper o.mode most p (⟨g,i,k,m,q,r⟩:Ac) (⟨e,h,j,l,n⟩:Px)).own,dK (zX5 s o.oper o.mode most p (⟨g,i,k,m,q,r⟩:Ac) (⟨e,h,j,l,n⟩:Px)).f]; let B:=((dQ (zXg s o.oper o.mode most p (⟨g,i,k,m,q,r⟩:Ac) (⟨e,h,j,l,n⟩:Px))=dQ x)∧True); let C:=((dK most=dK most)∧(L.length=t.length)∧True); tU4 ((AnsG prog 53 2 [aPz] v ⟨aJ d,v,false⟩∧v=v)∧tU6 (w∧tU2 ((((lvs L)[d.toNat*23+0+11]?=some z)∧True)∧tU6 (tU8 (w∧True∧(((lvs L)[d.toNat*23+12]?=some (dK g))∧((lvs L)[d.toNat*23+12+1]?=some (dK i))∧((lvs L)[d.toNat*23+12+1+1]?=some (dK k))∧((lvs L)[d.toNat*23+12+1+1+1]?=some (dK m))∧((lvs L)[d.toNat*23+12+1+1+1+1]?=some (dK q))∧((lvs L)[d.toNat*23+12+1+1+1+1+1]?=some (dK r))∧True)∧tU5 (w∧True∧(((lvs L)[d.toNat*23+18]?=some (dK e))∧((lvs L)[d.toNat*23+18+1]?=some (dK h))∧((lvs L)[d.toNat*23+18+1+1]?=some (dK j))∧((lvs L)[d.toNat*23+18+1+1+1]?=some (dK l))∧((lvs L)[d.toNat*23+18+1+1+1+1]?=some (dK n))∧True)∧(Ans prog 94 [RV.d z,rJ o.oper,rJ o.mode,RV.d (dK most),RV.agg [dK p.a,dK p.b,dK p.c,dK p.al,dK p.f],RV.agg [dK g,dK i,dK k,dK m,dK q,dK r],RV.agg [dK e,dK h,dK j,dK l,dK n]] (RV.tup [RV.agg A,RV.d (dQ (zXg s o.oper o.mode most p (⟨g,i,k,m,q,r⟩:Ac) (⟨e,h,j,l,n⟩:Px)))]))∧tU6 ((true=true)∧True∧(((zXg s o.oper o.mode most p (⟨g,i,k,m,q,r⟩:Ac) (⟨e,h,j,l,n⟩:Px))=true→tU6 (w∧True∧(d.toNat*23+12+6≤(lvs L).length)∧(true=true)∧tU2 ((B∧(C∧(sets (lvs L) (d.toNat*23+12) A=lvs t)∧True))∧zQn ⟨AV.one (Cl.d (dQ x)),y,false⟩)))∧((zXg s o.oper o.mode most p (⟨g,i,k,m,q,r⟩:Ac) (⟨e,h,j,l,n⟩:Px))=false→tU2 ((B∧(C∧(lvs L=lvs t)∧True))∧zQn ⟨AV.one (Cl.d (dQ x)),y,false⟩)))))))))))) ?_
  delta dK dQ cK rJ aJ aPz bC
  simp only [sS]
  have hk:L.length - 1 < L.length:=by omega
  have hT:L[L.length - 1]=topL L:=(zYo hn).symm
  have ei:((L.length:Int) - 1).toNat=L.length - 1:=by omega
  have bd:0≤(L.length:Int) - 1∧(L.length:Int) - 1 < (L.length:Int):=by omega
  have tp:=zQZ most L hn hl
  have r1:=zK0 (l:=L) (k:=L.length - 1) hk
  have r2:=zK1 (l:=L) (k:=L.length - 1) hk
  rw [hT] at r1 r2
  simp only [Nat.add_zero] at r1 r2
  simp only [ei,Nat.add_assoc,Nat.reduceAdd,Nat.add_zero,Nat.zero_add,r1,r2,and_self,true_and,and_true]
  clear r1 r2 hwf hbx
  have S:=jQo (topL L).op.kno o.oper o.mode most p (topL L).acc (topL L).back
  have lb:(L.length - 1)*23+(12+6)≤(lvs L).length:=by rw [zYc]; omega
  refine ⟨tp,bd,bd,bd,S,fun h=>⟨bd,by omega,⟨rfl,(zJP _ _ _ _).symm,?_⟩,trivial⟩,fun h=>⟨⟨rfl,(zJP _ _ _ _).symm,?_⟩,trivial⟩⟩
  ·have hb:zZI most L o p=true:=h
   have e:zX5 (topL L).op.kno o.oper o.mode most p (topL L).acc (topL L).back=accS (topL L).op.kno o.oper o.mode most p (topL L).acc (topL L).back:=by
    unfold zX5; exact if_pos hb
   rw [← zHF hn hb,← e]; rfl
  ·have hb:zZI most L o p=false:=h
   unfold zZf
   rw [if_neg (by rw [hb]; decide)]
end
end Go.Proofs.YthjaljiamllaeaaGreatDoor
