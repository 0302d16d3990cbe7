/-
  Part 5 of what TopTilesTogether rests on.
-/
import Derived.Test.YtbnmadpcdlnleaaGreatDoorTopTilesTogetherZ4
namespace Go.Proofs.YtbnmadpcdlnleaaGreatDoor
open Go.IntKind (wrap)
open Go.RowKit
set_option linter.unusedVariables false
set_option linter.unusedSimpArgs false
set_option maxRecDepth 20000
open Go.Proofs.Tryz (prog)
section
attribute [local irreducible] Ans AnsO AnsG AnsN AnsI
def gZ42 (xs:List RV):Option RV:=match xs with | [.d (.int _ op),.d (.int _ a),.d (.int _ b),.d (.int _ m)]=>some (RV.d (dK (zXA op a b m))) | _=>none
def gZ43 (xs:List RV):Option RV:=match xs with | [.d (.int _ op),.d (.int _ f),.d (.int _ g),.d (.int _ m)]=>some (RV.d (dK (zYu op f g m))) | _=>none
def gZ44 (xs:List RV):Option RV:=match xs with | [.d (.int _ op),.d (.int _ mode),.d (.int _ m),.d (.int _ s),.d (.int _ a),.d (.int _ d),.d (.int _ b)]=>some (RV.tup [RV.d (dK (colS op mode m s a d b)),RV.d (dQ true)]) | _=>none
def gZ45 (xs:List RV):Option RV:=match xs with | [.d (.int _ mode),.d (.int _ m),.d (.int _ s),.d (.int _ a),.d (.int _ f),.d (.int _ c),.d (.int _ d),.d (.int _ b)]=>some (RV.tup [RV.d (dK (knoC mode m s a f c d b)),RV.d (dQ true)]) | _=>none
def gZ46 (xs:List RV):Option RV:=match xs with | [.d (.int _ m),.d (.int _ a),.d (.int _ f),.d (.int _ acc),.d (.int _ b)]=>some (RV.tup [RV.d (dK (knoA m a f acc b)),RV.d (dQ true)]) | _=>none
def gZ47 (xs:List RV):Option RV:=match xs with | [.d (.int _ m),.d (.int _ a),.d (.int _ f),.d (.int _ own)]=>some (RV.tup [RV.d (dK (knoA m a f own 0)),RV.d (dQ true)]) | _=>none
def zUM:Gam where
 pure:=fun f xs=>
  if f=263 then (match xs with | [.agg [.int _ ph,.int _ pl,.int _ q,.int _ r,.int _ d]]=>some (RV.tup [RV.d (DV.int .u64 (⟨wV ph pl,q,r,d⟩:Ex).half),RV.d (dQ true)]) | _=>none) else
  if f=276 then gZ39 xs else
  if f=275 then gZ40 xs else
  if f=228 then gZ36 xs else
  if f=273 then (match xs with | [.d (.int _ mode),.d (.int _ s),.d (.int _ a),.d (.int _ d),.d (.int _ b)]=>let c:=(blE mode s a d b); some (RV.tup [RV.agg [DV.int .u64 (hiW c.p),DV.int .u64 (loW c.p),DV.int .u64 c.q,DV.int .u64 c.r,DV.int .u64 c.d],RV.d (dQ (blK mode s a d b))]) | _=>none) else
  if f=216 then gZ22 xs else
  if f=280 then (match xs with | [.d (.int _ f),.d (.int _ a),.d (.int _ m)]=>some (RV.d (dK (facF f a m))) | _=>none) else
  if f=264 then (match xs with | [.d (.int _ op),.d (.int _ a),.d (.int _ b),.d (.int _ m)]=>some (RV.tup [RV.d (dK (fcA op a b m)),RV.d (dK (fcB op a b m)),RV.d (dQ (fcK op a b m))]) | _=>none) else
  if f=265 then (match xs with | [.d (.int _ x),.d (.int _ p),.d (.int _ y),.d (.int _ q),.d (.int _ m)]=>some (RV.d (dK (wrap .u16 (zQE (x*p+y*q) m)))) | _=>none) else
  if f=246 then gZ42 xs else
  if f=247 then gZ43 xs else
  if f=262 then (match xs with | [.d (.int _ op),.d (.int _ mode),.d (.int _ m),.d (.int _ s),.d (.int _ a),.d (.int _ d),.d (.int _ b)]=>let c:=(vlE op mode m s a d b); some (RV.tup [RV.agg [DV.int .u64 (hiW c.p),DV.int .u64 (loW c.p),DV.int .u64 c.q,DV.int .u64 c.r,DV.int .u64 c.d],RV.d (dQ (vlK op mode m s a d b))]) | _=>none) else
  if f=245 then gZ44 xs else
  if f=274 then (match xs with | [.d (.int _ m)]=>some (RV.d (dQ (zZZ m))) | _=>none) else
  if f=277 then (match xs with | [.d (.int _ a),.d (.int _ b),.d (.int _ c),.d (.int _ d),.d (.int _ e),.d (.int _ f)]=>some (RV.d (DV.int .u64 (a*b+c*d+e*f))) | _=>none) else
  if f=259 then gZ45 xs else
  if f=260 then gZ46 xs else
  if f=261 then gZ47 xs else
  none
 modes:=fun f=>
  none
 proc:=fun f xs bs=>
  none
 iter:=fun f cs=>
  none
theorem zY9 (f a m:Int) (h:a≤m):Ans prog 280 [rJ (f),rD (dK a),rD (dK m)] (rD (dK (facF f a m))):=
 zQa (Γ:=zUM) aL zQf Tryz.func280 rfl (nL rfl) fun hwf=>by
  refine Eq.mpr (by kernel_rfl:_=(let b:=(dK (facF f a m)); tU4 (((f==1)=true→tU2 (rD (dK m)=rD b))∧((f==1)=false→tU2 (((f==2)=true→tU2 (rD (dK a)=rD b))∧((f==2)=false→tU2 (((f==3)=true→tU4 (rD (dK (wrap .u16 (m - a)))=rD b))∧((f==3)=false→True∧rD (dK 0)=rD b)))))))) ?_
  delta dK
  simp only [sS]
  unfold facF
  refine ⟨fun h=>?_,fun h1=>⟨fun h=>?_,fun h2=>⟨fun h=>?_,fun h3=>?_⟩⟩⟩
  ·rw [if_pos (by simpa using h)]
  ·rw [if_neg (by simpa using h1),if_pos (by simpa using h)]
  ·rw [if_neg (by simpa using h1),if_neg (by simpa using h2),if_pos (by simpa using h)]
   simp only [RV.wfs,RV.wf,DV.wf] at hwf
   have mj:IntKind.min .u16=0:=rfl
   have mb:IntKind.max .u16=65535:=rfl
   simp only [mj,mb] at hwf
   exact IntWalk.u16_in _ ⟨by omega,by omega⟩
  ·rw [if_neg (by simpa using h1),if_neg (by simpa using h2),if_neg (by simpa using h3)]
theorem zYJ (op a b m:Int):Ans prog 264 [rJ (op),rD (dK a),rD (dK b),rD (dK m)] (rT [rD (dK (fcA op a b m)),rD (dK (fcB op a b m)),rD (dQ (fcK op a b m))]):=
 zQa (Γ:=zUM) aL zQf Tryz.func264 rfl (nL rfl) fun hwf=>by
  refine Eq.mpr (by kernel_rfl:_=(let g:=[rD (dK 0),rD (dK 0),rD (dQ false)]; let d:=[rD (dK (fcA op a b m)),rD (dK (fcB op a b m)),rD (dQ (fcK op a b m))]; let c:=(rT g=rT d); let e:=(dK (facF (zXY op 1) b m)); let f:=(dK (facF (zXY op 2) a m)); tU4 ((Ans prog 216 [rJ op] (rT [rA [DV.str (zZJ op),dJ (zXY op 1),dJ (zXY op 2),dJ (zXY op 3)],rD (dQ (decide (1≤op∧op < 13)))]))∧True∧tU8 (((!(decide (1≤op∧op < 13)))=false→tU5 (((decide (a > m))=false→tU4 (((decide (b > m))=true→tU3 c)∧((decide (b > m))=false→tU4 ((Ans prog 280 [rJ (zXY op 1),rD (dK b),rD (dK m)] (rD e))∧tU4 ((Ans prog 280 [rJ (zXY op 2),rD (dK a),rD (dK m)] (rD f))∧tU3 ((true=true)∧rT [rD e,rD f,rD (dQ true)]=rT d))))))∧((decide (a > m))=(!false)→tU4 c)))∧((!(decide (1≤op∧op < 13)))=(!false)→tU6 c))))) ?_
  delta dJ dK dQ rJ
  simp only [sS]
  simp only [RV.wfs,RV.wf,DV.wf,DV.wfs] at hwf
  have mi:IntKind.min .u64=0:=rfl
  have ma:IntKind.max .u64=18446744073709551615:=rfl
  have mj:IntKind.min .u16=0:=rfl
  have mb:IntKind.max .u16=65535:=rfl
  simp only [mi,ma,mj,mb] at hwf
  have fbad:¬ (isNm op=true∧a≤m∧b≤m)→fcK op a b m=false∧fcA op a b m=0∧fcB op a b m=0:=fun hn=>by
   have:fcK op a b m=false:=by
    cases e:fcK op a b m with
    | false=>rfl
    | true=>
     simp only [fcK,Bool.and_eq_true,decide_eq_true_eq] at e
     exact absurd ⟨e.1,e.2.1,e.2.2⟩ hn
   exact ⟨this,by unfold fcA; rw [this]; rfl,by unfold fcB; rw [this]; rfl⟩
  have fgood:isNm op=true→a≤m→b≤m→fcK op a b m=true∧fcA op a b m=facA op a b m∧fcB op a b m=facB op a b m:=fun h1 h2 h3=>by
   have:fcK op a b m=true:=by unfold fcK; rw [h1,decide_eq_true h2,decide_eq_true h3]; rfl
   exact ⟨this,by unfold fcA; rw [if_pos this],by unfold fcB; rw [if_pos this]⟩
  obtain ⟨_,⟨a0,a1⟩,⟨b0,b1⟩,⟨m0,m1⟩,_⟩:=hwf
  have OF:=zQl op
  refine ⟨OF,fun ho=>⟨fun hx=>⟨fun hy=>?_,fun hy=>?_⟩,fun hx=>?_⟩,fun ho=>?_⟩
  case refine_1=>obtain ⟨e1,e2,e3⟩:=fbad (fun h=>by omega); rw [e1,e2,e3]; exact ⟨rfl,rfl,rfl⟩
  case refine_3=>obtain ⟨e1,e2,e3⟩:=fbad (fun h=>by omega); rw [e1,e2,e3]; exact ⟨rfl,rfl,rfl⟩
  case refine_4=>obtain ⟨e1,e2,e3⟩:=fbad (fun h=>ho (of_decide_eq_true h.1)); rw [e1,e2,e3]; exact ⟨rfl,rfl,rfl⟩
  obtain ⟨e1,e2,e3⟩:=fgood (decide_eq_true ho) (by omega) (by omega)
  obtain ⟨k1,k2⟩:=jGH ho a b m
  rw [e1,e2,e3]
  exact ⟨zY9 _ _ _ (by omega),zY9 _ _ _ (by omega),k1,k2,rfl⟩
theorem zYF (x p y q m:Int):Ans prog 265 [rD (dK x),rD (dK p),rD (dK y),rD (dK q),rD (dK m)] (rD (dK (wrap .u16 (zQE (x*p+y*q) m)))):=
 zQa (Γ:=zUM) aL zQf Tryz.func265 rfl (nL rfl) fun hwf=>by
  refine Eq.mpr (by kernel_rfl:_=(let a:=(wrap .u64 m); let b:=(wrap .u64 ((wrap .u64 ((wrap .u64 x)*(wrap .u64 p)))+(wrap .u64 ((wrap .u64 y)*(wrap .u64 q))))); tU6 (tU8 ((Ans prog 228 [rD (DV.int .u64 b),rD (DV.int .u64 a)] (rD (DV.int .u64 (zQE b a))))∧tU2 (rD (dK (wrap .u16 (zQE b a)))=rD (dK (wrap .u16 (zQE (x*p+y*q) m)))))))) ?_
  delta dK
  simp only [sS]
  simp only [RV.wfs,RV.wf,DV.wf,DV.wfs] at hwf
  have mi:IntKind.min .u64=0:=rfl
  have ma:IntKind.max .u64=18446744073709551615:=rfl
  have mj:IntKind.min .u16=0:=rfl
  have mb:IntKind.max .u16=65535:=rfl
  simp only [mi,ma,mj,mb] at hwf
  have W:∀ x:Int,0≤x→x < 18446744073709551616→wrap .u64 x=x:=fun x x0 x1=>IntWalk.u64_in x ⟨x0,by omega⟩
  obtain ⟨⟨x0,x1⟩,⟨p0,p1⟩,⟨y0,y1⟩,⟨q0,q1⟩,⟨m0,m1⟩,_⟩:=hwf
  have e1:=zQg x0 x1 p0 p1
  have e2:=zQg y0 y1 q0 q1
  rw [W x x0 (by omega),W p p0 (by omega),W y y0 (by omega),W q q0 (by omega),W m m0 (by omega),W (x*p) e1.1 (by omega),W (y*q) e2.1 (by omega),W (x*p+y*q) (by omega) (by omega)]
  exact ⟨zQF _ _,rfl⟩
theorem zJj (op a b m:Int) (hf:zZZ m=true) (ho:isNm op=true) (h1:a≤m) (h3:b≤m):Ans prog 246 [rJ (op),rD (dK a),rD (dK b),rD (dK m)] (rD (dK (zXA op a b m))):=
 zQa (Γ:=zUM) aL zQf Tryz.func246 rfl (nL rfl) fun hwf=>by
  refine Eq.mpr (by kernel_rfl:_=(let c:=(dK (fcA op a b m)); let d:=(dK (fcB op a b m)); let e:=(dK (wrap .u16 (zQE ((fcA op a b m)*a+(fcB op a b m)*b) m))); tU5 ((Ans prog 264 [rJ op,rD (dK a),rD (dK b),rD (dK m)] (rT [rD c,rD d,rD (dQ (fcK op a b m))]))∧tU4 (tU8 ((Ans prog 265 [rD c,rD (dK a),rD d,rD (dK b),rD (dK m)] (rD e))∧True∧rD e=rD (dK (zXA op a b m))))))) ?_
  delta dK dQ rJ
  simp only [sS]
  simp only [RV.wfs,RV.wf,DV.wf,DV.wfs] at hwf
  have mi:IntKind.min .u64=0:=rfl
  have ma:IntKind.max .u64=18446744073709551615:=rfl
  have mj:IntKind.min .u16=0:=rfl
  have mb:IntKind.max .u16=65535:=rfl
  simp only [mi,ma,mj,mb] at hwf
  have W:∀ x:Int,0≤x→x < 18446744073709551616→wrap .u64 x=x:=fun x x0 x1=>IntWalk.u64_in x ⟨x0,by omega⟩
  have U:∀ x:Int,0≤x→x≤65535→wrap .u16 x=x:=fun x x0 x1=>IntWalk.u16_in x ⟨x0,by omega⟩
  have fbad:¬ (isNm op=true∧a≤m∧b≤m)→fcK op a b m=false∧fcA op a b m=0∧fcB op a b m=0:=fun hn=>by
   have:fcK op a b m=false:=by
    cases e:fcK op a b m with
    | false=>rfl
    | true=>
     simp only [fcK,Bool.and_eq_true,decide_eq_true_eq] at e
     exact absurd ⟨e.1,e.2.1,e.2.2⟩ hn
   exact ⟨this,by unfold fcA; rw [this]; rfl,by unfold fcB; rw [this]; rfl⟩
  have fgood:isNm op=true→a≤m→b≤m→fcK op a b m=true∧fcA op a b m=facA op a b m∧fcB op a b m=facB op a b m:=fun h1 h2 h3=>by
   have:fcK op a b m=true:=by unfold fcK; rw [h1,decide_eq_true h2,decide_eq_true h3]; rfl
   exact ⟨this,by unfold fcA; rw [if_pos this],by unfold fcB; rw [if_pos this]⟩
  obtain ⟨_,⟨a0,a1⟩,⟨b0,b1⟩,⟨m0,m1⟩,_⟩:=hwf
  have hm:=(zZG hf).1
  obtain ⟨e1,e2,e3⟩:=fgood ho h1 h3
  have fa:=zYJ op a b m
  rw [e1,e2,e3] at fa
  rw [e1,e2,e3]
  have al:=zHh (op:=op) hm a0 h1 b0 h3
  have aS:=zXV (op:=op) (a:=a) (f:=m) (b:=b) (g:=m) hm a0 h1 (Int.le_refl _) b0 h3 (Int.le_refl _)
  have uu:=U (zXA op a b m) al (by omega)
  exact ⟨fa,zYF _ _ _ _ _,uu⟩
theorem zJi (op f g m:Int) (hf:zZZ m=true) (ho:isNm op=true) (h1:f≤m) (h3:g≤m):Ans prog 247 [rJ (op),rD (dK f),rD (dK g),rD (dK m)] (rD (dK (zYu op f g m))):=
 zQa (Γ:=zUM) aL zQf Tryz.func247 rfl (nL rfl) fun hwf=>by
  refine Eq.mpr (by kernel_rfl:_=(let a:=(zXY op 3); let b:=(dK (zYu op f g m)); let c:=(dK (wrap .u16 (zQE (m*f+(wrap .u16 (m - f))*g) m))); let d:=(dK (wrap .u16 (zQE (f*g+0*0) m))); tU2 ((Ans prog 216 [rJ op] (rT [rA [DV.str (zZJ op),dJ (zXY op 1),dJ (zXY op 2),dJ a],rD (dQ (decide (1≤op∧op < 13)))]))∧tU2 (tU8 (((decide (f > m))=false→tU5 (((decide (g > m))=false→tU3 (((m==0)=true→True∧rD (dK 0)=rD b)∧((m==0)=false→tU4 (((a==1)=true→tU2 (rD (dK f)=rD b))∧((a==1)=false→tU2 (((a==2)=true→tU2 (rD (dK g)=rD b))∧((a==2)=false→tU2 (((a==3)=true→tU7 ((Ans prog 265 [rD (dK m),rD (dK f),rD (dK (wrap .u16 (m - f))),rD (dK g),rD (dK m)] (rD c))∧True∧rD c=rD b))∧((a==3)=false→tU2 (((a==4)=true→tU3 ((Ans prog 265 [rD (dK f),rD (dK g),rD (dK 0),rD (dK 0),rD (dK m)] (rD d))∧True∧rD d=rD b))∧((a==4)=false→True∧rD (dK 0)=rD b)))))))))))∧((decide (g > m))=(!false)→tU2 (rD (dK 0)=rD b))))∧((decide (f > m))=(!false)→tU4 (rD (dK 0)=rD b))))))) ?_
  delta dJ dK dQ rJ
  simp only [sS]
  simp only [RV.wfs,RV.wf,DV.wf,DV.wfs] at hwf
  have mi:IntKind.min .u64=0:=rfl
  have ma:IntKind.max .u64=18446744073709551615:=rfl
  have mj:IntKind.min .u16=0:=rfl
  have mb:IntKind.max .u16=65535:=rfl
  simp only [mi,ma,mj,mb] at hwf
  have W:∀ x:Int,0≤x→x < 18446744073709551616→wrap .u64 x=x:=fun x x0 x1=>IntWalk.u64_in x ⟨x0,by omega⟩
  have U:∀ x:Int,0≤x→x≤65535→wrap .u16 x=x:=fun x x0 x1=>IntWalk.u16_in x ⟨x0,by omega⟩
  obtain ⟨_,⟨f0,f1⟩,⟨g0,g1⟩,⟨m0,m1⟩,_⟩:=hwf
  have hm:=(zZG hf).1
  have ho':=of_decide_eq_true ho
  have sh:=zXV (op:=op) (a:=0) (f:=f) (b:=0) (g:=g) hm (Int.le_refl _) f0 h1 (Int.le_refl _) g0 h3
  have s0:=zHh (op:=op) (a:=0) (b:=0) hm (Int.le_refl _) (by omega) (Int.le_refl _) (by omega)
  have s1:0≤zYu op f g m∧zYu op f g m≤65535:=by omega
  have e:=jGo ho' f g m
  rw [U (m - f) (by omega) (by omega),Int.mul_zero,Int.add_zero,← e]
  rw [← e] at s1
  unfold shpF at s1 ⊢
  have uu:=fun x (h:0≤x∧x≤65535)=>U x h.1 h.2
  have os:=zYF m f (m - f) g m
  have ot:=zYF f g 0 0 m
  rw [Int.mul_zero,Int.add_zero] at ot
  refine ⟨zQl op,fun _=>⟨fun _=>⟨fun h=>absurd (show m=0 by simpa using h) (by omega),fun _=>⟨fun c=>?_,fun c1=>⟨fun c=>?_,fun c2=>⟨fun c=>?_,fun c3=>⟨fun c=>?_,fun c4=>?_⟩⟩⟩⟩⟩,fun h=>absurd h3 (by omega)⟩,fun h=>absurd h1 (by omega)⟩
  ·rw [if_pos (by simpa using c)]
  ·rw [if_neg (by simpa using c1),if_pos (by simpa using c)]
  ·rw [if_neg (by simpa using c1),if_neg (by simpa using c2),if_pos (by simpa using c)] at s1 ⊢
   exact ⟨os,uu _ s1⟩
  ·rw [if_neg (by simpa using c1),if_neg (by simpa using c2),if_neg (by simpa using c3),if_pos (by simpa using c)] at s1 ⊢
   exact ⟨ot,uu _ s1⟩
  ·rw [if_neg (by simpa using c1),if_neg (by simpa using c2),if_neg (by simpa using c3),if_neg (by simpa using c4)]
theorem zZk (m:Int):Ans prog 274 [rD (dK m)] (rD (dQ (zZZ m))):=
 zQa (Γ:=zUM) aL zQf Tryz.func274 rfl (nL rfl) fun hwf=>by
  refine Eq.mpr (by kernel_rfl:_=(tU4 (((m==255)=false→tU4 (rD (dQ (m==65535))=rD (dQ (zZZ m))))∧((m==255)=(!false)→tU2 (rD (dQ true)=rD (dQ (zZZ m))))))) ?_
  delta dQ
  simp only [sS]
  unfold zZZ
  grind
theorem zKm (a b c d e f:Int):Ans prog 277 [rD (dK a),rD (dK b),rD (dK c),rD (dK d),rD (dK e),rD (dK f)] (rD (DV.int .u64 (a*b+c*d+e*f))):=
 zQa (Γ:=zUM) aL zQf Tryz.func277 rfl (nL rfl) fun hwf=>by
  refine Eq.mpr (by kernel_rfl:_=(tU3 (tU8 (tU8 (rD (DV.int .u64 (wrap .u64 ((wrap .u64 ((wrap .u64 ((wrap .u64 a)*(wrap .u64 b)))+(wrap .u64 ((wrap .u64 c)*(wrap .u64 d)))))+(wrap .u64 ((wrap .u64 e)*(wrap .u64 f))))))=rD (DV.int .u64 (a*b+c*d+e*f))))))) ?_
  simp only [sS,zZk]
  simp only [RV.wfs,RV.wf,DV.wf,DV.wfs] at hwf
  have mi:IntKind.min .u64=0:=rfl
  have ma:IntKind.max .u64=18446744073709551615:=rfl
  have mj:IntKind.min .u16=0:=rfl
  have mb:IntKind.max .u16=65535:=rfl
  simp only [mi,ma,mj,mb] at hwf
  have W:∀ x:Int,0≤x→x < 18446744073709551616→wrap .u64 x=x:=fun x x0 x1=>IntWalk.u64_in x ⟨x0,by omega⟩
  obtain ⟨⟨a0,a1⟩,⟨b0,b1⟩,⟨c0,c1⟩,⟨d0,d1⟩,⟨e0,e1⟩,⟨f0,f1⟩,_⟩:=hwf
  have q1:=zQg a0 a1 b0 b1
  have q2:=zQg c0 c1 d0 d1
  have q3:=zQg e0 e1 f0 f1
  rw [W a a0 (by omega),W b b0 (by omega),W c c0 (by omega),W d d0 (by omega),W e e0 (by omega),W f f0 (by omega),W (a*b) q1.1 (by omega),W (c*d) q2.1 (by omega),W (e*f) q3.1 (by omega),W (a*b+c*d) (by omega) (by omega),W (a*b+c*d+e*f) (by omega) (by omega)]
theorem jQ2 (op mode m s a d b:Int):Ans prog 262 [rJ (op),rJ (mode),rD (dK m),rD (dK s),rD (dK a),rD (dK d),rD (dK b)] (rT [rA [DV.int .u64 (hiW (vlE op mode m s a d b).p),DV.int .u64 (loW (vlE op mode m s a d b).p),DV.int .u64 ((vlE op mode m s a d b).q),DV.int .u64 ((vlE op mode m s a d b).r),DV.int .u64 ((vlE op mode m s a d b).d)],rD (dQ (vlK op mode m s a d b))]):=
 zQa (Γ:=zUM) (let c:=(blE mode s a d b); let e:=(DV.int .u64 (0:Int)); Ann.seq aL (aQ aL (aQ aL (Ann.cut ⟨Unit,fun _u:Unit=>vlK op mode m s a d b=true,fun _u:Unit=>⟨[(2,aO (cK m)),(3,aO (cK s)),(5,aO (cK d)),(6,aO (cK b)),(14,aO (Cl.ptr 14 0)),(16,aO (cK (fcA op a b m))),(17,aO (cK (fcB op a b m))),(19,aO (Cl.ptr 19 0))],[(14,bC [cD e,cD e,cD e,cD e,cD e]),(19,bC [cD (DV.int .u64 (hiW c.p)),cD (DV.int .u64 (loW c.p)),cD (DV.int .u64 c.q),cD (DV.int .u64 c.r),cD (DV.int .u64 c.d)])]⟩,fun _u:Unit=>0⟩ aL fun _u=>aL)))) zQf Tryz.func262 rfl (nL rfl) fun hwf=>by
  refine Eq.mpr (by kernel_rfl:_=(let h:=(fcB op a b m); let i:=(fcA op a b m); let k:=(wrap .u64 m); let g:=(vlE op mode m s a d b); let c:=(blE mode s a d b); let l:=[DV.int .u64 (hiW c.p),DV.int .u64 (loW c.p),DV.int .u64 c.q,DV.int .u64 c.r,DV.int .u64 c.d]; let n:=[DV.int .u64 (0:Int),DV.int .u64 (0:Int),DV.int .u64 (0:Int),DV.int .u64 (0:Int),DV.int .u64 (0:Int)]; let z:=[rA n,rD (dQ false)]; let r:=[rA [DV.int .u64 (hiW g.p),DV.int .u64 (loW g.p),DV.int .u64 g.q,DV.int .u64 g.r,DV.int .u64 g.d],rD (dQ (vlK op mode m s a d b))]; let o:=(rT z=rT r); let p:=(vlK op mode m s a d b=true); let t:=(((dK m=dK m)∧(dK s=dK s)∧(dK d=dK d)∧(dK b=dK b)∧(0=0)∧(dK i=dK i)∧(dK h=dK h)∧(0=0)∧True)∧((n=n)∧(l=l)∧True)); let u:=(wrap .u64 ((wrap .u64 ((wrap .u64 ((wrap .u64 (wrap .u16 (m - b)))*(wrap .u64 s)))*c.d))+(loW c.p))); let q:=(wrap .u64 i); let e:=(u*q); let v:=[DV.int .u64 (hiW e),DV.int .u64 (loW e)]; let w:=(wrap .u64 ((wrap .u64 ((wrap .u64 d)*k))*c.d)); let x:=(wrap .u64 h); let f:=(w*x); let j:=(addW (wV (hiW e) (loW e)) (wV (hiW f) (loW f))); let y:=[DV.int .u64 (hiW f),DV.int .u64 (loW f)]; tU6 ((Ans prog 264 [rJ op,rD (dK a),rD (dK b),rD (dK m)] (rT [rD (dK i),rD (dK h),rD (dQ (fcK op a b m))]))∧tU4 (tU8 ((Ans prog 273 [rJ mode,rD (dK s),rD (dK a),rD (dK d),rD (dK b)] (rT [rA l,rD (dQ (blK mode s a d b))]))∧tU6 ((tU3 (((!(fcK op a b m))=false→tU4 (((!(blK mode s a d b))=false→tU3 (((m != 255)=true→tU4 (((m != 65535)=true→tU3 o)∧((m != 65535)=false→∃ _u:Unit,p∧t)))∧((m != 255)=(!true)→tU2 (∃ _u:Unit,p∧t))))∧((!(blK mode s a d b))=(!false)→tU4 o)))∧((!(fcK op a b m))=(!false)→tU6 o)))∧∀ _u:Unit,p→tU5 (tU8 (tU8 (tU8 ((Ans prog 276 [rD (DV.int .u64 u),rD (DV.int .u64 q)] (rA v))∧tU3 ((Ans prog 276 [rD (DV.int .u64 w),rD (DV.int .u64 x)] (rA y))∧(Ans prog 275 [rA v,rA y] (rT [rA [DV.int .u64 (hiW j),DV.int .u64 (loW j)],rD (dQ (addK (wV (hiW e) (loW e)) (wV (hiW f) (loW f))))]))∧tU7 (tU8 (tU8 (rT [rA [DV.int .u64 (hiW j),DV.int .u64 (loW j),DV.int .u64 (wrap .u64 (q*c.q)),DV.int .u64 c.r,DV.int .u64 (wrap .u64 ((wrap .u64 (k*k))*c.d))],rD (dQ true)]=rT r)))))))))))))) ?_
  delta dK dQ rJ
  simp only [sS,zZk]
  simp only [RV.wfs,RV.wf,DV.wf,DV.wfs] at hwf
  have mi:IntKind.min .u64=0:=rfl
  have ma:IntKind.max .u64=18446744073709551615:=rfl
  have mj:IntKind.min .u16=0:=rfl
  have mb:IntKind.max .u16=65535:=rfl
  simp only [mi,ma,mj,mb] at hwf
  have W:∀ x:Int,0≤x→x < 18446744073709551616→wrap .u64 x=x:=fun x x0 x1=>IntWalk.u64_in x ⟨x0,by omega⟩
  have U:∀ x:Int,0≤x→x≤65535→wrap .u16 x=x:=fun x x0 x1=>IntWalk.u16_in x ⟨x0,by omega⟩
  have fbad:¬ (isNm op=true∧a≤m∧b≤m)→fcK op a b m=false∧fcA op a b m=0∧fcB op a b m=0:=fun hn=>by
   have:fcK op a b m=false:=by
    cases e:fcK op a b m with
    | false=>rfl
    | true=>
     simp only [fcK,Bool.and_eq_true,decide_eq_true_eq] at e
     exact absurd ⟨e.1,e.2.1,e.2.2⟩ hn
   exact ⟨this,by unfold fcA; rw [this]; rfl,by unfold fcB; rw [this]; rfl⟩
  have fgood:isNm op=true→a≤m→b≤m→fcK op a b m=true∧fcA op a b m=facA op a b m∧fcB op a b m=facB op a b m:=fun h1 h2 h3=>by
   have:fcK op a b m=true:=by unfold fcK; rw [h1,decide_eq_true h2,decide_eq_true h3]; rfl
   exact ⟨this,by unfold fcA; rw [if_pos this],by unfold fcB; rw [if_pos this]⟩
  obtain ⟨_,_,⟨m0,m1⟩,⟨s0,s1⟩,⟨a0,a1⟩,⟨d0,d1⟩,⟨b0,b1⟩,_⟩:=hwf
  have FA:=zYJ op a b m
  have BE:=zKU mode s a d b
  have k0:vlK op mode m s a d b=(blK mode s a d b && (fcK op a b m && zZZ m)):=rfl
  have no:vlK op mode m s a d b=false→(0=hiW (vlE op mode m s a d b).p∧0=loW (vlE op mode m s a d b).p∧0=(vlE op mode m s a d b).q∧0=(vlE op mode m s a d b).r∧0=(vlE op mode m s a d b).d)∧false=vlK op mode m s a d b:=fun h=>by
   have:vlE op mode m s a d b=.zero:=by unfold vlE; rw [h]; rfl
   rw [this,h]
   exact ⟨⟨rfl,rfl,rfl,rfl,rfl⟩,rfl⟩
  refine ⟨FA,BE,⟨fun kf=>⟨fun kb=>⟨fun q1=>⟨fun q2=>?_,fun q2=>⟨(),?_⟩⟩,fun q1=>⟨(),?_⟩⟩,fun kb=>?_⟩,fun kf=>?_⟩,fun k=>?_⟩
  ·refine no ?_
   have km:zZZ m=false:=decide_eq_false (by
    have q1:=bne_iff_ne.1 q1
    have q2:=bne_iff_ne.1 q2
    omega)
   rw [k0,km,Bool.and_false,Bool.and_false]
  ·have q2:=bne_eq_false_iff_eq.1 q2
   rw [k0,kb,kf,show zZZ m=true from decide_eq_true (.inr q2)]; rfl
  ·have q1:=bne_eq_false_iff_eq.1 q1
   rw [k0,kb,kf,show zZZ m=true from decide_eq_true (.inl q1)]; rfl
  ·exact no (by rw [k0,kb]; rfl)
  ·exact no (by rw [k0,kf,Bool.false_and,Bool.and_false])
  have k':=k
  rw [k0] at k'
  simp only [Bool.and_eq_true] at k'
  obtain ⟨kb,kf,km⟩:=k'
  have ve:vlE op mode m s a d b=valS op mode m s a d b:=by unfold vlE; rw [if_pos k]
  have be:blE mode s a d b=zQr mode s a d b:=by unfold blE; rw [if_pos kb]
  simp only [blK,Bool.and_eq_true,decide_eq_true_eq] at kb
  simp only [fcK,Bool.and_eq_true,decide_eq_true_eq] at kf
  obtain ⟨kb1,kb2,kb3⟩:=kb
  obtain ⟨kf1,kf2,kf3⟩:=kf
  obtain ⟨e1,e2,e3⟩:=fgood kf1 kf2 kf3
  obtain ⟨ok,t1,t2,t3,t4⟩:=zVQ (mode:=mode) s0 kb2 d0 kb3 a1 b1
  have tu:=(zZx (mode:=mode) s0 kb2 d0 kb3).p
  have ⟨⟨f0,f1⟩,f2,f3⟩:=jJA (op:=op) a0 kf2 b0 kf3
  have tp:=ok.p
  have tq:=ok.q
  have td:=ok.d
  rw [k,ve,be,e2,e3]
  have vS:valS op mode m s a d b=⟨(zQr mode s a d b).p*facA op a b m+(m - b)*s*facA op a b m*(zQr mode s a d b).d+facB op a b m*d*m*(zQr mode s a d b).d,facA op a b m*(zQr mode s a d b).q,(zQr mode s a d b).r,m*m*(zQr mode s a d b).d⟩:=rfl
  rw [vS]
  clear vS ve be e1 e2 e3 fbad fgood k0 no FA BE k kb1 kf1 km
  generalize facA op a b m=A at *
  generalize facB op a b m=F at *
  generalize (zQr mode s a d b).p=p at *
  generalize (zQr mode s a d b).q=q at *
  generalize (zQr mode s a d b).r=r at *
  generalize (zQr mode s a d b).d=e at *
  simp only at *
  have q1:=zQg (x:=m - b) (y:=s) (A:=65535) (B:=65535) (by omega) (by omega) s0 s1
  have qz:(m - b)*s+a*b≤4294836225:=by
   have z1:=Int.mul_le_mul_of_nonneg_left kb2 (show 0≤m - b by omega)
   have z2:=zQg a0 a1 m0 m1
   have z3:(m - b)*a+a*b=a*m:=by grind
   omega
  have qe:((m - b)*s+a*b)*e≤4294836225*4294836225:=by
   have z1:=zQg a0 a1 b0 b1
   exact (zQg (x:=(m - b)*s+a*b) (y:=e) (A:=4294836225) (B:=4294836225) (by omega) qz (by omega) t1).2
  have qd:((m - b)*s+a*b)*e=(m - b)*s*e+a*b*e:=by grind
  have q2:=zQg (x:=(m - b)*s) (y:=e) (A:=4294836225) (B:=4294836225) q1.1 (by omega) (by omega) t1
  have q3:=zQg d0 d1 m0 m1
  have q4:=zQg (x:=d*m) (y:=e) (A:=4294836225) (B:=4294836225) q3.1 (by omega) (by omega) t1
  have q5:=zQg (x:=(m - b)*s*e+p) (y:=A) (A:=18446744073709551615) (B:=65535) (by omega) (by omega) f0 (by omega)
  have q6:=zQg (x:=d*m*e) (y:=F) (A:=18446744073709551615) (B:=65535) q4.1 (by omega) f2 (by omega)
  have q8:=zQg (x:=A) (y:=q) (A:=65535) (B:=65535) f0 (by omega) tq t3
  have q9:=zQg (x:=m) (y:=m) (A:=65535) (B:=65535) m0 m1 m0 m1
  have q10:=zQg (x:=m*m) (y:=e) (A:=4294836225) (B:=4294836225) q9.1 (by omega) (by omega) t1
  have lp:loW p=p:=zX6 tp (by omega)
  have ad:∀ x y:Int,x+y < 340282366920938463463374607431768211456→addW x y=x+y:=fun x y h=>by unfold addW; rw [if_pos h]
  simp only [lp,U (m - b) (by omega) (by omega),W (m - b) (by omega) (by omega),W s s0 (by omega),W A f0 (by omega),W F f2 (by omega),W d d0 (by omega),W m m0 (by omega),W ((m - b)*s) q1.1 (by omega),W ((m - b)*s*e) q2.1 (by omega),W ((m - b)*s*e+p) (by omega) (by omega),W (d*m) q3.1 (by omega),W (d*m*e) q4.1 (by omega),W (A*q) q8.1 (by omega),W (m*m) q9.1 (by omega),W (m*m*e) q10.1 (by omega)]
  have AD:=zZW (hiW (((m - b)*s*e+p)*A)) (loW (((m - b)*s*e+p)*A)) (hiW (d*m*e*F)) (loW (d*m*e*F))
  refine ⟨zQW _ _,zQW _ _,AD,?_⟩
  simp only [zYN]
  rw [ad _ _ (by omega),show ((m - b)*s*e+p)*A+d*m*e*F=p*A+(m - b)*s*A*e+F*d*m*e by grind]
  (repeat' (first | exact trivial | rfl | apply And.intro))
theorem zJ4 (op mode m s a d b:Int) (hf:zZZ m=true) (ho:isNm op=true) (hm:isNm mode=true) (h1:s≤a) (h2:a≤m) (h3:d≤b) (h4:b≤m):Ans prog 245 [rJ (op),rJ (mode),rD (dK m),rD (dK s),rD (dK a),rD (dK d),rD (dK b)] (rT [rD (dK (colS op mode m s a d b)),rD (dQ true)]):=
 zQa (Γ:=zUM) aL zQf Tryz.func245 rfl (nL rfl) fun hwf=>by
  refine Eq.mpr (by kernel_rfl:_=(let c:=(vlE op mode m s a d b); let e:=(loW c.p); let f:=(hiW c.p); let g:=[DV.int .u64 f,DV.int .u64 e,DV.int .u64 c.q,DV.int .u64 c.r,DV.int .u64 c.d]; let h:=[rD (dK (colS op mode m s a d b)),rD (dQ true)]; True∧tU8 ((Ans prog 262 [rJ op,rJ mode,rD (dK m),rD (dK s),rD (dK a),rD (dK d),rD (dK b)] (rT [rA g,rD (dQ (vlK op mode m s a d b))]))∧tU8 (((!(vlK op mode m s a d b))=true→tU2 (rT [rD (dK 0),rD (dQ false)]=rT h))∧((!(vlK op mode m s a d b))=false→True∧(Ans prog 263 [rA g] (rT [rD (DV.int .u64 (⟨wV f e,c.q,c.r,c.d⟩:Ex).half),rD (dQ true)]))∧tU2 (tU8 (rT [rD (dK (wrap .u16 (⟨wV f e,c.q,c.r,c.d⟩:Ex).half)),rD (dQ true)]=rT h))))))) ?_
  delta dK dQ rJ
  simp only [sS,zZk]
  simp only [RV.wfs,RV.wf,DV.wf,DV.wfs] at hwf
  have mi:IntKind.min .u64=0:=rfl
  have ma:IntKind.max .u64=18446744073709551615:=rfl
  have mj:IntKind.min .u16=0:=rfl
  have mb:IntKind.max .u16=65535:=rfl
  simp only [mi,ma,mj,mb] at hwf
  have W:∀ x:Int,0≤x→x < 18446744073709551616→wrap .u64 x=x:=fun x x0 x1=>IntWalk.u64_in x ⟨x0,by omega⟩
  have U:∀ x:Int,0≤x→x≤65535→wrap .u16 x=x:=fun x x0 x1=>IntWalk.u16_in x ⟨x0,by omega⟩
  obtain ⟨_,_,⟨m0,m1⟩,⟨s0,s1⟩,⟨a0,a1⟩,⟨d0,d1⟩,⟨b0,b1⟩,_⟩:=hwf
  have hM:=(zZG hf).1
  have kb:blK mode s a d b=true:=by unfold blK; rw [hm,decide_eq_true h1,decide_eq_true h3]; rfl
  have kf:fcK op a b m=true:=by unfold fcK; rw [ho,decide_eq_true h2,decide_eq_true h4]; rfl
  have k:vlK op mode m s a d b=true:=by unfold vlK; rw [kb,kf,hf]; rfl
  have ve:vlE op mode m s a d b=valS op mode m s a d b:=by unfold vlE; rw [if_pos k]
  have va:=jQ2 op mode m s a d b
  rw [k,ve] at va
  rw [k,ve]
  obtain ⟨ok,l1,l2⟩:=jZw (op:=op) (mode:=mode) hM s0 h1 h2 d0 h3 h4
  obtain ⟨bk,t1,t2,t3,t4⟩:=zVQ (mode:=mode) s0 h1 d0 h3 a1 b1
  have ⟨⟨f0,f1⟩,f2,f3⟩:=jJA (op:=op) a0 h2 b0 h4
  have ⟨c0,c1⟩:=jZj (op:=op) (mode:=mode) hM s0 h1 h2 d0 h3 h4
  have aS:=zXV (op:=op) (a:=a) (f:=m) (b:=b) (g:=m) hM a0 h2 (Int.le_refl _) b0 h4 (Int.le_refl _)
  have hq:(valS op mode m s a d b).q=facA op a b m*(zQr mode s a d b).q:=rfl
  have hr:(valS op mode m s a d b).r=(zQr mode s a d b).r:=rfl
  have hh:(valS op mode m s a d b).half=colS op mode m s a d b:=rfl
  have hfl:=Ex.half_floor ok
  have n1:=zQg f0 (show facA op a b m≤65535 by omega) bk.q t3
  have g1:=zQg f0 (show facA op a b m≤65535 by omega) a0 a1
  have g2:=zQg f2 (show facB op a b m≤65535 by omega) b0 b1
  have g3:=zQg (x:=(zQr mode s a d b).d) (y:=m) (A:=4294836225) (B:=65535) (by have:=bk.d; omega) t1 m0 m1
  have g4:=zQg (x:=(zQr mode s a d b).d*m) (y:=facA op a b m*a+facB op a b m*b) (A:=281462092005375) (B:=8589672450) g3.1 (by omega) (by omega) (by omega)
  have eta:(⟨wV (hiW (valS op mode m s a d b).p) (loW (valS op mode m s a d b).p),(valS op mode m s a d b).q,(valS op mode m s a d b).r,(valS op mode m s a d b).d⟩:Ex)=valS op mode m s a d b:=by rw [zYN]
  have ha:=zV0 (hiW (valS op mode m s a d b).p) (loW (valS op mode m s a d b).p) (valS op mode m s a d b).q (valS op mode m s a d b).r (valS op mode m s a d b).d (by unfold hiW; omega) (by rw [hq]; omega) (by rw [hr]; omega) (by have:=ok.d; omega) (by rw [eta]; rw [hh] at hfl; split at hfl <;> omega)
  refine ⟨va,fun h=>(by cases h),fun _=>⟨ha,?_⟩⟩
  rw [eta,hh]
  exact U _ c0 (by omega)
theorem zX8 (mode m s a f c d b:Int) (hf:zZZ m=true) (hm:isNm mode=true) (h1:s≤a) (h2:a≤f) (h3:f≤m) (h4:d≤b) (h5:b≤m) (h6:c≤m):Ans prog 259 [rJ (mode),rD (dK m),rD (dK s),rD (dK a),rD (dK f),rD (dK c),rD (dK d),rD (dK b)] (rT [rD (dK (knoC mode m s a f c d b)),rD (dQ true)]):=
 zQa (Γ:=zUM) (let e:=(blE mode s a d b); Ann.seq aL (aQ aL (Ann.cut ⟨Unit,fun _u:Unit=>True,fun _u:Unit=>⟨[(1,aO (cK m)),(2,aO (cK s)),(3,aO (cK a)),(4,aO (cK f)),(5,aO (cK c)),(6,aO (cK d)),(7,aO (cK b)),(18,aO (Cl.ptr 18 0))],[(18,bC [cD (DV.int .u64 (hiW e.p)),cD (DV.int .u64 (loW e.p)),cD (DV.int .u64 e.q),cD (DV.int .u64 e.r),cD (DV.int .u64 e.d)])]⟩,fun _u:Unit=>0⟩ aL fun _u=>aL))) zQf Tryz.func259 rfl (nL rfl) fun hwf=>by
  refine Eq.mpr (by kernel_rfl:_=(let e:=(blE mode s a d b); let i:=(loW e.p); let j:=(hiW e.p); let n:=[DV.int .u64 j,DV.int .u64 i,DV.int .u64 e.q,DV.int .u64 e.r,DV.int .u64 e.d]; let v:=[rD (dK 0),rD (dQ false)]; let p:=[rD (dK (knoC mode m s a f c d b)),rD (dQ true)]; let g:=(rT v=rT p); let q:=((wrap .u16 (m - f))*c+(wrap .u16 (f - a))*d+(wrap .u16 (m - b))*s); let r:=(DV.int .u64 q); let h:=(q*e.d); let t:=(addW (wV (hiW h) (loW h)) (wV j i)); let k:=(loW t); let l:=(hiW t); let u:=[DV.int .u64 (hiW h),DV.int .u64 (loW h)]; let o:=(wrap .u64 ((wrap .u64 m)*e.d)); tU7 ((Ans prog 273 [rJ mode,rD (dK s),rD (dK a),rD (dK d),rD (dK b)] (rT [rA n,rD (dQ (blK mode s a d b))]))∧tU6 ((tU3 (((!(blK mode s a d b))=false→True∧(Ans prog 274 [rD (dK m)] (rD (dQ (zZZ m))))∧tU3 (((!(zZZ m))=false→tU5 (((decide (a > f))=false→tU5 (((decide (f > m))=false→tU5 (((decide (b > m))=false→tU4 (((decide (c > m))=true→tU2 g)∧((decide (c > m))=false→∃ _u:Unit,True∧(((dK m=dK m)∧(dK s=dK s)∧(dK a=dK a)∧(dK f=dK f)∧(dK c=dK c)∧(dK d=dK d)∧(dK b=dK b)∧(0=0)∧True)∧((n=n)∧True)))))∧((decide (b > m))=(!false)→tU3 g)))∧((decide (f > m))=(!false)→tU5 g)))∧((decide (a > f))=(!false)→tU7 g)))∧((!(zZZ m))=(!false)→True∧tU8 g)))∧((!(blK mode s a d b))=(!false)→tU3 (tU8 g))))∧∀ _u:Unit,True→tU4 (tU8 ((Ans prog 277 [rD (dK (wrap .u16 (m - f))),rD (dK c),rD (dK (wrap .u16 (f - a))),rD (dK d),rD (dK (wrap .u16 (m - b))),rD (dK s)] (rD r))∧tU2 ((Ans prog 276 [rD r,rD (DV.int .u64 e.d)] (rA u))∧tU2 ((Ans prog 275 [rA u,rA [DV.int .u64 j,DV.int .u64 i]] (rT [rA [DV.int .u64 l,DV.int .u64 k],rD (dQ (addK (wV (hiW h) (loW h)) (wV j i)))]))∧tU6 ((true=true)∧tU3 (tU8 ((Ans prog 263 [rA [DV.int .u64 l,DV.int .u64 k,DV.int .u64 e.q,DV.int .u64 e.r,DV.int .u64 o]] (rT [rD (DV.int .u64 (⟨wV l k,e.q,e.r,o⟩:Ex).half),rD (dQ true)]))∧tU2 (tU8 (rT [rD (dK (wrap .u16 (⟨wV l k,e.q,e.r,o⟩:Ex).half)),rD (dQ true)]=rT p))))))))))))) ?_
  delta dK dQ rJ
  simp only [sS,zZk]
  simp only [RV.wfs,RV.wf,DV.wf,DV.wfs] at hwf
  have mi:IntKind.min .u64=0:=rfl
  have ma:IntKind.max .u64=18446744073709551615:=rfl
  have mj:IntKind.min .u16=0:=rfl
  have mb:IntKind.max .u16=65535:=rfl
  simp only [mi,ma,mj,mb] at hwf
  have W:∀ x:Int,0≤x→x < 18446744073709551616→wrap .u64 x=x:=fun x x0 x1=>IntWalk.u64_in x ⟨x0,by omega⟩
  have U:∀ x:Int,0≤x→x≤65535→wrap .u16 x=x:=fun x x0 x1=>IntWalk.u16_in x ⟨x0,by omega⟩
  obtain ⟨_,⟨m0,m1⟩,⟨s0,s1⟩,⟨a0,a1⟩,⟨f0,f1⟩,⟨c0,c1⟩,⟨d0,d1⟩,⟨b0,b1⟩,_⟩:=hwf
  have hM:=(zZG hf).1
  have kb:blK mode s a d b=true:=by unfold blK; rw [hm,decide_eq_true h1,decide_eq_true h4]; rfl
  have be:blE mode s a d b=zQr mode s a d b:=by unfold blE; rw [if_pos kb]
  have bl:=zKU mode s a d b
  rw [kb,be] at bl
  rw [kb,be]
  obtain ⟨ok,l1,l2⟩:=jXb (mode:=mode) hM s0 h1 h2 h3 d0 h4 h5 c0 h6
  obtain ⟨bk,t1,t2,t3,t4⟩:=zVQ (mode:=mode) s0 h1 d0 h4 a1 b1
  have ⟨k0,k1⟩:=jQ6 (mode:=mode) (A:=m) hM s0 h1 h2 h3 d0 h4 h5 c0 h6
  have ka:=jQ7 (acc:=m) (b:=b) hM a0 h2 h3 m0 (Int.le_refl _) b0 h5
  have hh:(knoX mode m s a f c d b).half=knoC mode m s a f c d b:=rfl
  have hfl:=Ex.half_floor ok
  rw [hh] at hfl
  have td:=bk.d
  have tp:=bk.p
  have q1:=zQg (x:=m - f) (y:=c) (A:=65535) (B:=65535) (by omega) (by omega) c0 c1
  have q2:=zQg (x:=f - a) (y:=d) (A:=65535) (B:=65535) (by omega) (by omega) d0 d1
  have q3:=zQg (x:=m - b) (y:=s) (A:=65535) (B:=65535) (by omega) (by omega) s0 s1
  have q4:=zQg (x:=(m - f)*c+(f - a)*d+(m - b)*s) (y:=(zQr mode s a d b).d) (A:=12884508675) (B:=4294836225) (by omega) (by omega) (by omega) t1
  have q5:=zQg (x:=m) (y:=(zQr mode s a d b).d) (A:=65535) (B:=4294836225) m0 m1 (by omega) t1
  simp only [W m m0 (by omega),U (m - f) (by omega) (by omega),U (f - a) (by omega) (by omega),U (m - b) (by omega) (by omega),W (m*(zQr mode s a d b).d) q5.1 (by omega),zYN]
  have kx:knoX mode m s a f c d b=⟨(zQr mode s a d b).p+((m - f)*c+(f - a)*d+(m - b)*s)*(zQr mode s a d b).d,(zQr mode s a d b).q,(zQr mode s a d b).r,m*(zQr mode s a d b).d⟩:=rfl
  have ae:addW (((m - f)*c+(f - a)*d+(m - b)*s)*(zQr mode s a d b).d) (zQr mode s a d b).p=(zQr mode s a d b).p+((m - f)*c+(f - a)*d+(m - b)*s)*(zQr mode s a d b).d:=by unfold addW; rw [if_pos (by omega),Int.add_comm]
  have mu:=zQW ((m - f)*c+(f - a)*d+(m - b)*s) (zQr mode s a d b).d
  have ad:=zZW (hiW (((m - f)*c+(f - a)*d+(m - b)*s)*(zQr mode s a d b).d)) (loW (((m - f)*c+(f - a)*d+(m - b)*s)*(zQr mode s a d b).d)) (hiW (zQr mode s a d b).p) (loW (zQr mode s a d b).p)
  have ha:=zV0 (hiW (knoX mode m s a f c d b).p) (loW (knoX mode m s a f c d b).p) (knoX mode m s a f c d b).q (knoX mode m s a f c d b).r (knoX mode m s a f c d b).d (by rw [kx]; unfold hiW; simp only; omega) (by rw [kx]; simp only; omega) (by rw [kx]; simp only; omega) (by have:=ok.d; omega) (by rw [zYN]; change (knoX mode m s a f c d b).floor < _; split at hfl <;> omega)
  rw [zYN] at ha
  change Ans _ _ _ (RV.tup [RV.d (DV.int .u64 (knoX mode m s a f c d b).half),_]) at ha
  rw [hh,kx] at ha
  simp only [zYN,ae] at ad ⊢
  have hh2:(⟨(zQr mode s a d b).p+((m - f)*c+(f - a)*d+(m - b)*s)*(zQr mode s a d b).d,(zQr mode s a d b).q,(zQr mode s a d b).r,m*(zQr mode s a d b).d⟩:Ex).half=knoC mode m s a f c d b:=hh
  simp only [hh2]
  have uk:wrap .u16 (knoC mode m s a f c d b)=knoC mode m s a f c d b:=U _ k0 (by omega)
  have SU:=zKm (m - f) c (f - a) d (m - b) s
  refine ⟨bl,⟨fun _=>⟨fun _=>⟨fun _=>⟨fun _=>⟨fun _=>⟨fun h=>absurd h6 (by omega),fun _=>⟨(),trivial⟩⟩,fun h=>absurd h5 (by omega)⟩,fun h=>absurd h3 (by omega)⟩,fun h=>absurd h2 (by omega)⟩,fun h=>(by rw [hf] at h; cases h)⟩,fun h=>(by cases h)⟩,SU,mu,ad,ha,uk⟩
theorem zJl (m a f acc b:Int) (hf:zZZ m=true) (h1:a≤f) (h2:f≤m) (h4:acc≤m) (h5:b≤m):Ans prog 260 [rD (dK m),rD (dK a),rD (dK f),rD (dK acc),rD (dK b)] (rT [rD (dK (knoA m a f acc b)),rD (dQ true)]):=
 zQa (Γ:=zUM) aL zQf Tryz.func260 rfl (nL rfl) fun hwf=>by
  refine Eq.mpr (by kernel_rfl:_=(let d:=(wrap .u64 m); let i:=[rD (dK 0),rD (dQ false)]; let g:=[rD (dK (knoA m a f acc b)),rD (dQ true)]; let c:=(rT i=rT g); let e:=((wrap .u16 (m - f))*acc+(wrap .u16 (f - a))*b+m*a); let h:=(DV.int .u64 e); tU3 ((Ans prog 274 [rD (dK m)] (rD (dQ (zZZ m))))∧tU2 (((!(zZZ m))=false→tU5 (((decide (a > f))=false→tU5 (((decide (f > m))=false→tU5 (((decide (acc > m))=false→tU4 (((decide (b > m))=true→tU2 c)∧((decide (b > m))=false→tU2 (tU8 ((Ans prog 277 [rD (dK (wrap .u16 (m - f))),rD (dK acc),rD (dK (wrap .u16 (f - a))),rD (dK b),rD (dK m),rD (dK a)] (rD h))∧tU2 ((Ans prog 228 [rD h,rD (DV.int .u64 d)] (rD (DV.int .u64 (zQE e d))))∧tU3 (rT [rD (dK (wrap .u16 (zQE e d))),rD (dQ true)]=rT g)))))))∧((decide (acc > m))=(!false)→tU3 c)))∧((decide (f > m))=(!false)→tU5 c)))∧((decide (a > f))=(!false)→tU7 c)))∧((!(zZZ m))=(!false)→True∧tU8 c))))) ?_
  delta dK dQ
  simp only [sS,zZk]
  simp only [RV.wfs,RV.wf,DV.wf,DV.wfs] at hwf
  have mi:IntKind.min .u64=0:=rfl
  have ma:IntKind.max .u64=18446744073709551615:=rfl
  have mj:IntKind.min .u16=0:=rfl
  have mb:IntKind.max .u16=65535:=rfl
  simp only [mi,ma,mj,mb] at hwf
  have W:∀ x:Int,0≤x→x < 18446744073709551616→wrap .u64 x=x:=fun x x0 x1=>IntWalk.u64_in x ⟨x0,by omega⟩
  have U:∀ x:Int,0≤x→x≤65535→wrap .u16 x=x:=fun x x0 x1=>IntWalk.u16_in x ⟨x0,by omega⟩
  obtain ⟨⟨m0,m1⟩,⟨a0,a1⟩,⟨f0,f1⟩,⟨c0,c1⟩,⟨b0,b1⟩,_⟩:=hwf
  have hM:=(zZG hf).1
  have ka:=jQ7 (acc:=acc) (b:=b) hM a0 h1 h2 c0 h4 b0 h5
  have q1:=zQg (x:=m - f) (y:=acc) (A:=65535) (B:=65535) (by omega) (by omega) c0 c1
  have q2:=zQg (x:=f - a) (y:=b) (A:=65535) (B:=65535) (by omega) (by omega) b0 b1
  have q3:=zQg (x:=m) (y:=a) (A:=65535) (B:=65535) m0 m1 a0 a1
  have SU:=zKm (m - f) acc (f - a) b m a
  have HA:=zQF ((m - f)*acc+(f - a)*b+m*a) m
  have uk:wrap .u16 (zQE ((m - f)*acc+(f - a)*b+m*a) m)=knoA m a f acc b:=U _ ka.1 (by unfold knoA at ka; omega)
  simp only [W m m0 (by omega),U (m - f) (by omega) (by omega),U (f - a) (by omega) (by omega)]
  refine ⟨fun _=>⟨fun _=>⟨fun _=>⟨fun _=>⟨fun h=>absurd h5 (by omega),fun _=>⟨SU,HA,uk⟩⟩,fun h=>absurd h4 (by omega)⟩,fun h=>absurd h2 (by omega)⟩,fun h=>absurd h1 (by omega)⟩,fun h=>(by rw [hf] at h; cases h)⟩
theorem zUJ (m a f own:Int) (hf:zZZ m=true) (h1:a≤f) (h2:f≤m) (h4:own≤m):Ans prog 261 [rD (dK m),rD (dK a),rD (dK f),rD (dK own)] (rT [rD (dK (knoA m a f own 0)),rD (dQ true)]):=
 zQa (Γ:=zUM) aL zQf Tryz.func261 rfl (nL rfl) fun hwf=>by
  refine Eq.mpr (by kernel_rfl:_=(let b:=[rD (dK (knoA m a f own (0:Int))),rD (dQ true)]; tU6 ((Ans prog 260 [rD (dK m),rD (dK a),rD (dK f),rD (dK own),rD (dK 0)] (rT b))∧tU4 (rT b=rT [rD (dK (knoA m a f own 0)),rD (dQ true)])))) ?_
  delta dK dQ
  simp only [sS,zZk]
  simp only [RV.wfs,RV.wf,DV.wf,DV.wfs] at hwf
  have mi:IntKind.min .u64=0:=rfl
  have ma:IntKind.max .u64=18446744073709551615:=rfl
  have mj:IntKind.min .u16=0:=rfl
  have mb:IntKind.max .u16=65535:=rfl
  simp only [mi,ma,mj,mb] at hwf
  exact zJl _ _ _ _ _ hf h1 h2 h4 (by omega)
def gZ48 (xs:List RV):Option RV:=match xs with | [.agg [.int _ pa,.int _ pb,.int _ pc,.int _ pal,.int _ pf],.d (.int _ j),.d (.int _ k),.d (.int _ m)]=>some (RV.tup [RV.agg [dK (zXx (⟨pa,pb,pc,pal,pf⟩:Px) j k m).1.a,dK (zXx (⟨pa,pb,pc,pal,pf⟩:Px) j k m).1.b,dK (zXx (⟨pa,pb,pc,pal,pf⟩:Px) j k m).1.c,dK (zXx (⟨pa,pb,pc,pal,pf⟩:Px) j k m).1.al,dK (zXx (⟨pa,pb,pc,pal,pf⟩:Px) j k m).1.f],RV.d (dQ (zXx (⟨pa,pb,pc,pal,pf⟩:Px) j k m).2)]) | _=>none
def gZ49 (xs:List RV):Option RV:=match xs with | [.d (.bool iso),.d (.bool kno),.agg [.int _ xa,.int _ xb,.int _ xc,.int _ xal,.int _ xown,.int _ xf],.agg [.int _ ka,.int _ kb,.int _ kc,.int _ kal,.int _ kf]]=>some (RV.tup [RV.agg [dK (zQB iso kno (⟨xa,xb,xc,xal,xown,xf⟩:Ac) (⟨ka,kb,kc,kal,kf⟩:Px)).1.a,dK (zQB iso kno (⟨xa,xb,xc,xal,xown,xf⟩:Ac) (⟨ka,kb,kc,kal,kf⟩:Px)).1.b,dK (zQB iso kno (⟨xa,xb,xc,xal,xown,xf⟩:Ac) (⟨ka,kb,kc,kal,kf⟩:Px)).1.c,dK (zQB iso kno (⟨xa,xb,xc,xal,xown,xf⟩:Ac) (⟨ka,kb,kc,kal,kf⟩:Px)).1.al,dK (zQB iso kno (⟨xa,xb,xc,xal,xown,xf⟩:Ac) (⟨ka,kb,kc,kal,kf⟩:Px)).1.own,dK (zQB iso kno (⟨xa,xb,xc,xal,xown,xf⟩:Ac) (⟨ka,kb,kc,kal,kf⟩:Px)).1.f],RV.agg [dK (zQB iso kno (⟨xa,xb,xc,xal,xown,xf⟩:Ac) (⟨ka,kb,kc,kal,kf⟩:Px)).2.a,dK (zQB iso kno (⟨xa,xb,xc,xal,xown,xf⟩:Ac) (⟨ka,kb,kc,kal,kf⟩:Px)).2.b,dK (zQB iso kno (⟨xa,xb,xc,xal,xown,xf⟩:Ac) (⟨ka,kb,kc,kal,kf⟩:Px)).2.c,dK (zQB iso kno (⟨xa,xb,xc,xal,xown,xf⟩:Ac) (⟨ka,kb,kc,kal,kf⟩:Px)).2.al,dK (zQB iso kno (⟨xa,xb,xc,xal,xown,xf⟩:Ac) (⟨ka,kb,kc,kal,kf⟩:Px)).2.f]]) | _=>none
def gZ50 (xs:List RV):Option RV:=match xs with | [.d (.bool kno),.d (.int _ op),.d (.int _ mode),.d (.int _ m),.agg [.int _ pa,.int _ pb,.int _ pc,.int _ pal,.int _ pf],.agg [.int _ xa,.int _ xb,.int _ xc,.int _ xal,.int _ xown,.int _ xf],.agg [.int _ ka,.int _ kb,.int _ kc,.int _ kal,.int _ kf]]=>some (RV.tup [RV.agg [dK (zX0 kno op mode m (⟨pa,pb,pc,pal,pf⟩:Px) (⟨xa,xb,xc,xal,xown,xf⟩:Ac) (⟨ka,kb,kc,kal,kf⟩:Px)).a,dK (zX0 kno op mode m (⟨pa,pb,pc,pal,pf⟩:Px) (⟨xa,xb,xc,xal,xown,xf⟩:Ac) (⟨ka,kb,kc,kal,kf⟩:Px)).b,dK (zX0 kno op mode m (⟨pa,pb,pc,pal,pf⟩:Px) (⟨xa,xb,xc,xal,xown,xf⟩:Ac) (⟨ka,kb,kc,kal,kf⟩:Px)).c,dK (zX0 kno op mode m (⟨pa,pb,pc,pal,pf⟩:Px) (⟨xa,xb,xc,xal,xown,xf⟩:Ac) (⟨ka,kb,kc,kal,kf⟩:Px)).al,dK (zX0 kno op mode m (⟨pa,pb,pc,pal,pf⟩:Px) (⟨xa,xb,xc,xal,xown,xf⟩:Ac) (⟨ka,kb,kc,kal,kf⟩:Px)).own,dK (zX0 kno op mode m (⟨pa,pb,pc,pal,pf⟩:Px) (⟨xa,xb,xc,xal,xown,xf⟩:Ac) (⟨ka,kb,kc,kal,kf⟩:Px)).f],RV.d (dQ (zZN kno op mode m (⟨pa,pb,pc,pal,pf⟩:Px) (⟨xa,xb,xc,xal,xown,xf⟩:Ac) (⟨ka,kb,kc,kal,kf⟩:Px)))]) | _=>none
def gZ51 (xs:List RV):Option RV:=match xs with | [.agg [.int _ xa,.int _ xb,.int _ xc,.int _ xal,.int _ xown,.int _ xf],.agg [.int _ ka,.int _ kb,.int _ kc,.int _ kal,.int _ kf],.d (.int _ m)]=>some (RV.tup [RV.agg [dK (resE (⟨xa,xb,xc,xal,xown,xf⟩:Ac) (⟨ka,kb,kc,kal,kf⟩:Px) m).a,dK (resE (⟨xa,xb,xc,xal,xown,xf⟩:Ac) (⟨ka,kb,kc,kal,kf⟩:Px) m).b,dK (resE (⟨xa,xb,xc,xal,xown,xf⟩:Ac) (⟨ka,kb,kc,kal,kf⟩:Px) m).c,dK (resE (⟨xa,xb,xc,xal,xown,xf⟩:Ac) (⟨ka,kb,kc,kal,kf⟩:Px) m).al,dK (resE (⟨xa,xb,xc,xal,xown,xf⟩:Ac) (⟨ka,kb,kc,kal,kf⟩:Px) m).f],RV.d (dQ (Ac.ok (⟨xa,xb,xc,xal,xown,xf⟩:Ac) (⟨ka,kb,kc,kal,kf⟩:Px) m))]) | _=>none
def jXp:Gam where
 pure:=fun f xs=>
  if f=228 then gZ36 xs else
  if f=118 then (match xs with | [.d (.int _ n)]=>some (RV.d (DV.int .u32 (zQE n 255))) | _=>none) else
  if f=119 then (match xs with | [.d (.int _ n)]=>some (RV.d (DV.int .u64 (zQE n 65535))) | _=>none) else
  if f=117 then gZ12 xs else
  if f=245 then gZ44 xs else
  if f=246 then gZ42 xs else
  if f=247 then gZ43 xs else
  if f=259 then gZ45 xs else
  if f=260 then gZ46 xs else
  if f=261 then gZ47 xs else
  if f=64 then (match xs with | [.agg [.int _ pa,.int _ pb,.int _ pc,.int _ pal,.int _ pf],.d (.int _ k),.d (.int _ m)]=>some (RV.tup [RV.agg [dK (zZr (⟨pa,pb,pc,pal,pf⟩:Px) k m).1.a,dK (zZr (⟨pa,pb,pc,pal,pf⟩:Px) k m).1.b,dK (zZr (⟨pa,pb,pc,pal,pf⟩:Px) k m).1.c,dK (zZr (⟨pa,pb,pc,pal,pf⟩:Px) k m).1.al,dK (zZr (⟨pa,pb,pc,pal,pf⟩:Px) k m).1.f],RV.d (dQ (zZr (⟨pa,pb,pc,pal,pf⟩:Px) k m).2)]) | _=>none) else
  if f=229 then gZ48 xs else
  if f=182 then (match xs with | [.agg [.int _ xa,.int _ xb,.int _ xc,.int _ xal,.int _ xown,.int _ xf],.agg [.int _ ka,.int _ kb,.int _ kc,.int _ kal,.int _ kf],.d (.int _ m)]=>some (RV.d (dQ (Ac.ok (⟨xa,xb,xc,xal,xown,xf⟩:Ac) (⟨ka,kb,kc,kal,kf⟩:Px) m))) | _=>none) else
  if f=181 then gZ49 xs else
  if f=244 then (match xs with | [.d (.int _ mode),.d (.int _ m),.agg [.int _ pa,.int _ pb,.int _ pc,.int _ pal,.int _ pf],.agg [.int _ xa,.int _ xb,.int _ xc,.int _ xal,.int _ xown,.int _ xf],.agg [.int _ ka,.int _ kb,.int _ kc,.int _ kal,.int _ kf]]=>some (RV.tup [RV.agg [dK (accS true 4 mode m (⟨pa,pb,pc,pal,pf⟩:Px) (⟨xa,xb,xc,xal,xown,xf⟩:Ac) (⟨ka,kb,kc,kal,kf⟩:Px)).a,dK (accS true 4 mode m (⟨pa,pb,pc,pal,pf⟩:Px) (⟨xa,xb,xc,xal,xown,xf⟩:Ac) (⟨ka,kb,kc,kal,kf⟩:Px)).b,dK (accS true 4 mode m (⟨pa,pb,pc,pal,pf⟩:Px) (⟨xa,xb,xc,xal,xown,xf⟩:Ac) (⟨ka,kb,kc,kal,kf⟩:Px)).c,dK (accS true 4 mode m (⟨pa,pb,pc,pal,pf⟩:Px) (⟨xa,xb,xc,xal,xown,xf⟩:Ac) (⟨ka,kb,kc,kal,kf⟩:Px)).al,dK (accS true 4 mode m (⟨pa,pb,pc,pal,pf⟩:Px) (⟨xa,xb,xc,xal,xown,xf⟩:Ac) (⟨ka,kb,kc,kal,kf⟩:Px)).own,dK (accS true 4 mode m (⟨pa,pb,pc,pal,pf⟩:Px) (⟨xa,xb,xc,xal,xown,xf⟩:Ac) (⟨ka,kb,kc,kal,kf⟩:Px)).f],RV.d (dQ true)]) | _=>none) else
  if f=230 then gZ50 xs else
  if f=183 then (match xs with | [.d (.int _ c),.d (.int _ k),.d (.int _ own),.d (.int _ m)]=>some (RV.d (dK (remS m c own k))) | _=>none) else
  if f=109 then gZ51 xs else
  none
 modes:=fun f=>
  none
 proc:=fun f xs bs=>
  none
 iter:=fun f cs=>
  none
theorem zKC (p:Px) (k m:Int):Ans prog 64 [rA [dK p.a,dK p.b,dK p.c,dK p.al,dK p.f],rD (dK k),rD (dK m)] (rT [rA [dK (((zZr p k m).1).a),dK (((zZr p k m).1).b),dK (((zZr p k m).1).c),dK (((zZr p k m).1).al),dK (((zZr p k m).1).f)],rD (dQ ((zZr p k m).2))]):=
 zQa (Γ:=jXp) (let h:=(zXz p k m); let e:=(zYI p k m=true); let a:=(6,aO (Cl.ptr 6 0)); let b:=(3,aO (Cl.ptr 3 0)); let i:=(aQ aL (aQ (Ann.sure true aL) aL)); let c:=(1,aO (cK k)); let d:=(2,aO (cK m)); let f:=(6,bC [cK 0,cK 0,cK 0,cK 0,cK 0]); let o:=[(3,bC [cK p.a,cK p.b,cK p.c,cK p.al,cK p.f]),f]; let g:=(37,AV.agg [Cl.ptr 3 0,Cl.ptr 3 1,Cl.ptr 3 2,Cl.ptr 3 3,Cl.ptr 3 4]); let j:=(dK h.a); let l:=(dK h.b); let n:=(dK h.c); let q:=(dK h.al); (aQ aL (Ann.cut ⟨Unit,fun _u:Unit=>zYI p k m=true,fun _u:Unit=>⟨[c,d,b,a],o⟩,fun _u:Unit=>0⟩ aL fun _u=>(aQ (aQ aL (Ann.link ⟨Unit,fun _u=>e,fun _u=>⟨[c,d,b,a,g,(38,aJ 0)],o⟩,fun _u=>0⟩ (fun _u=>i) (Ann.link ⟨Unit,fun _u=>e,fun _u=>⟨[c,d,b,a,g,(38,aJ 1)],[(3,bC [cD j,cK p.b,cK p.c,cK p.al,cK p.f]),f]⟩,fun _u=>0⟩ (fun _u=>i) (Ann.link ⟨Unit,fun _u=>e,fun _u=>⟨[c,d,b,a,g,(38,aJ 2)],[(3,bC [cD j,cD l,cK p.c,cK p.al,cK p.f]),f]⟩,fun _u=>0⟩ (fun _u=>i) (Ann.link ⟨Unit,fun _u=>e,fun _u=>⟨[c,d,b,a,g,(38,aJ 3)],[(3,bC [cD j,cD l,cD n,cK p.al,cK p.f]),f]⟩,fun _u=>0⟩ (fun _u=>i) (Ann.link ⟨Unit,fun _u=>e,fun _u=>⟨[c,d,b,a,g,(38,aJ 4)],[(3,bC [cD j,cD l,cD n,cD q,cK p.f]),f]⟩,fun _u=>0⟩ (fun _u=>i) (Ann.link ⟨Unit,fun _u=>e,fun _u=>⟨[c,d,b,a,g,(38,aJ 5)],[(3,bC [cD j,cD l,cD n,cD q,cK h.f]),f]⟩,fun _u=>0⟩ (fun _u=>(aQ aL (aQ (Ann.sure false aL) aL))) aL))))))) aL)))) zQf Tryz.func64 rfl (nL rfl) fun hwf=>by
  refine Eq.mpr (by kernel_rfl:_=(let t:=(!(Px.ok p m)); let j:=(decide (k > m)); let h:=((5:Nat):Int); let f:=(zZr p k m); let i:=(wrap .u32 k); let b:=(zYI p k m=true); let a:=(zXz p k m); let u:=[dK p.a,dK p.b,dK p.c,dK p.al,dK p.f]; let C:=(Ans prog 117 [rA u,rD (dK m)] (rD (dQ (Px.ok p m)))); let v:=[dK 0,dK 0,dK 0,dK 0,dK 0]; let Q:=[rA v,rD (dQ false)]; let D:=[rA [dK f.1.a,dK f.1.b,dK f.1.c,dK f.1.al,dK f.1.f],rD (dQ f.2)]; let l:=(rT Q=rT D); let E:=(t=(!false)→tU4 l); let d:=(dK k=dK k); let e:=(dK m=dK m); let c:=(v=v); let F:=((u=u)∧c∧True); let G:=((d∧e∧(0=0)∧(0=0)∧True)∧F); let g:=((0=0)∧(1=1)∧(2=2)∧(3=3)∧(4=4)∧True); let n:=(wrap .u32 ((wrap .u32 p.a)*i)); let H:=(d∧e∧(0=0)∧(0=0)∧g∧(dJ (wK ((0:Int)+1))=dJ 1)∧True); let I:=[dK a.a,dK p.b,dK p.c,dK p.al,dK p.f]; let w:=(wrap .u64 n); let o:=(wrap .u32 ((wrap .u32 p.b)*i)); let J:=(d∧e∧(0=0)∧(0=0)∧g∧(dJ (wK ((1:Int)+1))=dJ 2)∧True); let K:=[dK a.a,dK a.b,dK p.c,dK p.al,dK p.f]; let x:=(wrap .u64 o); let q:=(wrap .u32 ((wrap .u32 p.c)*i)); let L:=(d∧e∧(0=0)∧(0=0)∧g∧(dJ (wK ((2:Int)+1))=dJ 3)∧True); let M:=[dK a.a,dK a.b,dK a.c,dK p.al,dK p.f]; let y:=(wrap .u64 q); let r:=(wrap .u32 ((wrap .u32 p.al)*i)); let N:=(d∧e∧(0=0)∧(0=0)∧g∧(dJ (wK ((3:Int)+1))=dJ 4)∧True); let O:=[dK a.a,dK a.b,dK a.c,dK a.al,dK p.f]; let z:=(wrap .u64 r); let s:=(wrap .u32 ((wrap .u32 p.f)*i)); let P:=(d∧e∧(0=0)∧(0=0)∧g∧(dJ (wK ((4:Int)+1))=dJ 5)∧True); let A:=[dK a.a,dK a.b,dK a.c,dK a.al,dK a.f]; let B:=(wrap .u64 s); tU3 ((tU3 (((m != 255)=true→tU4 (((m != 65535)=false→tU2 (C∧tU3 ((t=false→tU4 ((j=true→tU3 l)∧(j=false→∃ _u:Unit,b∧G)))∧E)))∧((m != 65535)=(!false)→tU6 l)))∧((m != 255)=(!true)→tU4 (C∧tU3 ((t=false→tU4 ((j=true→tU3 l)∧(j=false→∃ _u:Unit,b∧G)))∧E)))))∧∀ _u:Unit,b→True∧(0≤(0:Int)∧(0:Int) < ((3:Nat):Int))∧True∧(0≤(1:Int)∧(1:Int) < ((3:Nat):Int))∧True∧(0≤(2:Int)∧(2:Int) < ((3:Nat):Int))∧tU4 ((∃ _u:Unit,b∧((d∧e∧(0=0)∧(0=0)∧g∧(dJ 0=dJ 0)∧True)∧F))∧((∀ _u:Unit,b→True∧(decide ((0:Int) < 5)=true∧(0≤(0:Int)∧(0:Int) < h)∧tU3 (tU8 (((m==255)=true→tU2 ((Ans prog 118 [rD (DV.int .u32 n)] (rD (DV.int .u32 (zQE n 255))))∧tU5 (∃ _u:Unit,b∧(H∧(([dK (wrap .u16 (zQE n 255)),dK p.b,dK p.c,dK p.al,dK p.f]=I)∧c∧True)))))∧((m==255)=false→tU3 ((Ans prog 119 [rD (DV.int .u64 w)] (rD (DV.int .u64 (zQE w 65535))))∧tU5 (∃ _u:Unit,b∧(H∧(([dK (wrap .u16 (zQE w 65535)),dK p.b,dK p.c,dK p.al,dK p.f]=I)∧c∧True)))))))))∧(∀ _u:Unit,b→True∧(decide ((1:Int) < 5)=true∧(0≤(1:Int)∧(1:Int) < h)∧tU3 (tU8 (((m==255)=true→tU2 ((Ans prog 118 [rD (DV.int .u32 o)] (rD (DV.int .u32 (zQE o 255))))∧tU5 (∃ _u:Unit,b∧(J∧(([dK a.a,dK (wrap .u16 (zQE o 255)),dK p.c,dK p.al,dK p.f]=K)∧c∧True)))))∧((m==255)=false→tU3 ((Ans prog 119 [rD (DV.int .u64 x)] (rD (DV.int .u64 (zQE x 65535))))∧tU5 (∃ _u:Unit,b∧(J∧(([dK a.a,dK (wrap .u16 (zQE x 65535)),dK p.c,dK p.al,dK p.f]=K)∧c∧True)))))))))∧(∀ _u:Unit,b→True∧(decide ((2:Int) < 5)=true∧(0≤(2:Int)∧(2:Int) < h)∧tU3 (tU8 (((m==255)=true→tU2 ((Ans prog 118 [rD (DV.int .u32 q)] (rD (DV.int .u32 (zQE q 255))))∧tU5 (∃ _u:Unit,b∧(L∧(([dK a.a,dK a.b,dK (wrap .u16 (zQE q 255)),dK p.al,dK p.f]=M)∧c∧True)))))∧((m==255)=false→tU3 ((Ans prog 119 [rD (DV.int .u64 y)] (rD (DV.int .u64 (zQE y 65535))))∧tU5 (∃ _u:Unit,b∧(L∧(([dK a.a,dK a.b,dK (wrap .u16 (zQE y 65535)),dK p.al,dK p.f]=M)∧c∧True)))))))))∧(∀ _u:Unit,b→True∧(decide ((3:Int) < 5)=true∧(0≤(3:Int)∧(3:Int) < h)∧tU3 (tU8 (((m==255)=true→tU2 ((Ans prog 118 [rD (DV.int .u32 r)] (rD (DV.int .u32 (zQE r 255))))∧tU5 (∃ _u:Unit,b∧(N∧(([dK a.a,dK a.b,dK a.c,dK (wrap .u16 (zQE r 255)),dK p.f]=O)∧c∧True)))))∧((m==255)=false→tU3 ((Ans prog 119 [rD (DV.int .u64 z)] (rD (DV.int .u64 (zQE z 65535))))∧tU5 (∃ _u:Unit,b∧(N∧(([dK a.a,dK a.b,dK a.c,dK (wrap .u16 (zQE z 65535)),dK p.f]=O)∧c∧True)))))))))∧(∀ _u:Unit,b→True∧(decide ((4:Int) < 5)=true∧(0≤(4:Int)∧(4:Int) < h)∧tU3 (tU8 (((m==255)=true→tU2 ((Ans prog 118 [rD (DV.int .u32 s)] (rD (DV.int .u32 (zQE s 255))))∧tU5 (∃ _u:Unit,b∧(P∧(([dK a.a,dK a.b,dK a.c,dK a.al,dK (wrap .u16 (zQE s 255))]=A)∧c∧True)))))∧((m==255)=false→tU3 ((Ans prog 119 [rD (DV.int .u64 B)] (rD (DV.int .u64 (zQE B 65535))))∧tU5 (∃ _u:Unit,b∧(P∧(([dK a.a,dK a.b,dK a.c,dK a.al,dK (wrap .u16 (zQE B 65535))]=A)∧c∧True)))))))))∧(∀ _u:Unit,b→True∧(decide ((5:Int) < 5)=false∧tU3 (rT [rA A,rD (dQ true)]=rT D)))∧True))))) ?_
  delta dJ dK dQ wK
  simp only [sS]
  simp only [RV.wfs,RV.wf,DV.wf,DV.wfs] at hwf
  have mi:IntKind.min .u64=0:=rfl
  have ma:IntKind.max .u64=18446744073709551615:=rfl
  have mj:IntKind.min .u16=0:=rfl
  have mb:IntKind.max .u16=65535:=rfl
  simp only [mi,ma,mj,mb] at hwf
  obtain ⟨⟨⟨a0,a1⟩,⟨b0,b1⟩,⟨c0,c1⟩,⟨l0,l1⟩,⟨f0,f1⟩,_⟩,⟨k0,k1⟩,⟨m0,m1⟩,_⟩:=hwf
  have s1:zZr p k m=if zYI p k m then (zXz p k m,true) else (.zero,false):=rfl
  have bad:¬ (zZZ m=true∧p.ok m=true∧k≤m)→(0=(zZr p k m).1.a∧0=(zZr p k m).1.b∧0=(zZr p k m).1.c∧0=(zZr p k m).1.al∧0=(zZr p k m).1.f)∧false=(zZr p k m).2:=fun hn=>by
   have:zZr p k m=(.zero,false):=by
    rw [s1,if_neg]
    intro e
    simp only [zYI,Bool.and_eq_true,decide_eq_true_eq] at e
    exact hn ⟨e.1,e.2.1,e.2.2⟩
   rw [this]; exact ⟨⟨rfl,rfl,rfl,rfl,rfl⟩,rfl⟩
  have vp:=zQv p.a p.b p.c p.al p.f m
  change Ans _ _ _ (RV.d (DV.bool (p.ok m))) at vp
  have nf:(m != 255)=true→(m != 65535)=true→¬ zZZ m=true:=fun h1 h2 h=>by
   have h1:=bne_iff_ne.1 h1
   have h2:=bne_iff_ne.1 h2
   rcases zW8 h with h | h <;> contradiction
  have fa:(m != 65535)=false→zZZ m=true:=fun h=>decide_eq_true (.inr (bne_eq_false_iff_eq.1 h))
  have fb:(m != 255)=false→zZZ m=true:=fun h=>decide_eq_true (.inl (bne_eq_false_iff_eq.1 h))
  have sb:zZZ m=true→p.ok m=true→¬ k > m→zYI p k m=true:=fun h1 h2 h3=>by
   unfold zYI; rw [h1,h2,decide_eq_true (show k≤m by omega)]; rfl
  have tail:zZZ m=true→_∧(p.ok m=true→(k > m→_∧_)∧(¬ k > m→∃ _:Unit,zYI p k m=true))∧(p.ok m=false→_∧_):=fun hf=>⟨vp,fun hp=>⟨fun hk=>bad (fun h=>by omega),fun hk=>⟨(),sb hf hp hk⟩⟩,fun hp=>bad (fun h=>by rw [hp] at h; exact absurd h.2.1 (by decide))⟩
  refine ⟨⟨fun h1=>⟨fun h2=>tail (fa h2),fun h2=>bad (fun h=>nf h1 h2 h.1)⟩,fun h1=>tail (fb h1)⟩,fun hs=>?_⟩
  clear bad nf fa fb sb tail vp
  have hs':=hs
  unfold zYI at hs'
  simp only [Bool.and_eq_true,decide_eq_true_eq] at hs'
  obtain ⟨hf,hp,hk⟩:=hs'
  have hm:=(zZG hf).1
  have e:zZr p k m=(zXz p k m,true):=by rw [s1,if_pos hs]
  rw [e]
  clear e s1
  obtain ⟨o1,o2⟩:=jQB hm hp ⟨a0,b0,c0⟩ k0 hk
  obtain ⟨x1,x2,x3,x4,x5⟩:=Px.ok_iff.1 o1
  obtain ⟨y1,y2,y3⟩:=o2
  have W32:∀ x:Int,0≤x→x < 4294967296→wrap .u32 x=x:=fun x x0 x1=>IntWalk.u32_in x ⟨x0,by omega⟩
  have W64:∀ x:Int,0≤x→x < 18446744073709551616→wrap .u64 x=x:=fun x x0 x1=>IntWalk.u64_in x ⟨x0,by omega⟩
  have U:∀ x:Int,0≤x→x≤65535→wrap .u16 x=x:=fun x x0 x1=>IntWalk.u16_in x ⟨x0,by omega⟩
  have ch:∀ v:Int,0≤v→v≤65535→wrap .u32 (wrap .u32 v*wrap .u32 k)=v*k∧wrap .u64 (v*k)=v*k:=fun v v0 v1=>by
   have:=zQg v0 v1 k0 k1
   rw [W32 v v0 (by omega),W32 k k0 (by omega),W32 _ this.1 (by omega),W64 _ this.1 (by omega)]
   exact ⟨rfl,rfl⟩
  have ca:=ch _ a0 a1
  have cb:=ch _ b0 b1
  have cc:=ch _ c0 c1
  have cl:=ch _ l0 l1
  have cf:=ch _ f0 f1
  simp only [ca.1,ca.2,cb.1,cb.2,cc.1,cc.2,cl.1,cl.2,cf.1,cf.2]
  clear ch ca cb cc cl cf
  have w1:wrap .i64 (0+1)=1:=by decide
  have w2:wrap .i64 (1+1)=2:=by decide
  have w3:wrap .i64 (2+1)=3:=by decide
  have w4:wrap .i64 (3+1)=4:=by decide
  have w5:wrap .i64 (4+1)=5:=by decide
  have fin:∀ (v z r:Int),z=zQE (v*k) m→0≤z→z≤65535→((m==255)=true→wrap .u16 (zQE (v*k) 255)=z)∧((m==255)=false→wrap .u16 (zQE (v*k) 65535)=z):=fun v z r hz z0 z1=>by
   subst hz
   rcases zW8 hf with rfl | rfl
   ·exact ⟨fun _=>U _ z0 z1,fun h=>by cases h⟩
   ·exact ⟨fun h=>absurd h (by decide),fun _=>U _ z0 z1⟩
  have g1:=fin p.a (zXz p k m).a 0 rfl y1 (by omega)
  have g2:=fin p.b (zXz p k m).b 0 rfl y2 (by omega)
  have g3:=fin p.c (zXz p k m).c 0 rfl y3 (by omega)
  have g4:=fin p.al (zXz p k m).al 0 rfl (by omega) (by omega)
  have g5:=fin p.f (zXz p k m).f 0 rfl (by omega) (by omega)
  have B1:=fun v=>zXh (v*k)
  have B2:=fun v=>zXs (v*k)
  (repeat' (first | intro _ | apply And.intro | refine Exists.intro () ?_)) <;> first | exact hs | exact B1 _ | exact B2 _ | exact w1 | exact w2 | exact w3 | exact w4 | exact w5 | decide | rfl | exact g1.1 ‹_› | exact g1.2 ‹_› | exact g2.1 ‹_› | exact g2.2 ‹_› | exact g3.1 ‹_› | exact g3.2 ‹_› | exact g4.1 ‹_› | exact g4.2 ‹_› | exact g5.1 ‹_› | exact g5.2 ‹_› | omega
theorem zHt (p:Px) (j k m:Int):Ans prog 229 [rA [dK p.a,dK p.b,dK p.c,dK p.al,dK p.f],rD (dK j),rD (dK k),rD (dK m)] (rT [rA [dK (((zXx p j k m).1).a),dK (((zXx p j k m).1).b),dK (((zXx p j k m).1).c),dK (((zXx p j k m).1).al),dK (((zXx p j k m).1).f)],rD (dQ ((zXx p j k m).2))]):=
 zQa (Γ:=jXp) aL zQf Tryz.func229 rfl (nL rfl) fun hwf=>by
  refine Eq.mpr (by kernel_rfl:_=(let b:=(zXx p j k m); let a:=(zZr p j m); let c:=(zZr a.1 k m); let d:=[dK a.1.a,dK a.1.b,dK a.1.c,dK a.1.al,dK a.1.f]; let e:=[rA [dK b.1.a,dK b.1.b,dK b.1.c,dK b.1.al,dK b.1.f],rD (dQ b.2)]; let f:=[rA [dK c.1.a,dK c.1.b,dK c.1.c,dK c.1.al,dK c.1.f],rD (dQ c.2)]; tU6 ((Ans prog 64 [rA [dK p.a,dK p.b,dK p.c,dK p.al,dK p.f],rD (dK j),rD (dK m)] (rT [rA d,rD (dQ a.2)]))∧tU7 (((!a.2)=true→tU3 (rT [rA [dK 0,dK 0,dK 0,dK 0,dK 0],rD (dQ false)]=rT e))∧((!a.2)=false→tU3 ((Ans prog 64 [rA d,rD (dK k),rD (dK m)] (rT f))∧tU4 (rT f=rT e))))))) ?_
  delta dK dQ
  simp only [sS]
  have S:=zKC p j m
  have S2:=zKC (zZr p j m).1 k m
  refine ⟨S,fun h=>?_,fun h=>⟨S2,?_⟩⟩
  ·have:zYI p j m=false:=by
    cases e:zYI p j m with
    | false=>rfl
    | true=>unfold zZr at h; rw [if_pos e] at h; cases h
   unfold zXx
   rw [this]
   exact ⟨⟨rfl,rfl,rfl,rfl,rfl⟩,rfl⟩
  ·have:zYI p j m=true:=by
    cases e:zYI p j m with
    | true=>rfl
    | false=>unfold zZr at h; rw [e] at h; cases h
   have e:zXx p j k m=zZr (zZr p j m).1 k m:=by
    unfold zXx
    rw [if_pos this]
    have:zZr p j m=(zXz p j m,true):=by unfold zZr; rw [if_pos this]
    rw [this]
   rw [e]
   exact ⟨⟨rfl,rfl,rfl,rfl,rfl⟩,rfl⟩
theorem zKQ (x:Ac) (k:Px) (m:Int):Ans prog 182 [rA [dK x.a,dK x.b,dK x.c,dK x.al,dK x.own,dK x.f],rA [dK k.a,dK k.b,dK k.c,dK k.al,dK k.f],rD (dK m)] (rD (dQ (Ac.ok x k m))):=
 zQa (Γ:=jXp) (let a:=(4,aO (Cl.ptr 4 0)); let b:=(3,aO (Cl.ptr 3 0)); let f:=(aQ aL (aQ (Ann.sure true aL) aL)); let c:=(2,aO (cK m)); let d:=(10,AV.agg [cK x.a,cK x.b,cK x.c]); let e:=[(3,bC [cK x.a,cK x.b,cK x.c,cK x.al,cK x.own,cK x.f]),(4,bC [cK k.a,cK k.b,cK k.c,cK k.al,cK k.f])]; (aQ aL (aQ (aQ aL (Ann.link ⟨Unit,fun _u=>True,fun _u=>⟨[c,b,a,d,(11,aJ 0)],e⟩,fun _u=>0⟩ (fun _u=>f) (Ann.link ⟨Unit,fun _u=>(x.a≤x.al)∧True,fun _u=>⟨[c,b,a,d,(11,aJ 1)],e⟩,fun _u=>0⟩ (fun _u=>f) (Ann.link ⟨Unit,fun _u=>(x.a≤x.al)∧(x.b≤x.al)∧True,fun _u=>⟨[c,b,a,d,(11,aJ 2)],e⟩,fun _u=>0⟩ (fun _u=>f) (Ann.link ⟨Unit,fun _u=>(x.a≤x.al)∧(x.b≤x.al)∧(x.c≤x.al)∧True,fun _u=>⟨[c,b,a,d,(11,aJ 3)],e⟩,fun _u=>0⟩ (fun _u=>(aQ aL (aQ (Ann.sure false aL) aL))) aL))))) aL))) zQf Tryz.func182 rfl (nL rfl) fun hwf=>by
  refine Eq.mpr (by kernel_rfl:_=(let b:=(dQ (Ac.ok x k m)); let a:=(rD (dQ false)=rD b); let c:=(dK m=dK m); let g:=[dK x.a,dK x.b,dK x.c]; let d:=(g=g); let h:=[dK x.a,dK x.b,dK x.c,dK x.al,dK x.own,dK x.f]; let f:=[dK k.a,dK k.b,dK k.c,dK k.al,dK k.f]; let e:=((h=h)∧(f=f)∧True); let i:=((x.a≤x.al)∧(x.b≤x.al)∧True); let j:=((x.a≤x.al)∧(x.b≤x.al)∧(x.c≤x.al)∧True); let l:=(((decide (x.own≤x.al))=true→tU7 (((decide (x.own≤x.f))=true→tU6 (((decide (x.al≤m))=true→tU6 (((decide (x.f≤m))=true→tU2 ((Ans prog 117 [rA f,rD (dK m)] (rD (dQ (Px.ok k m))))∧tU2 (((Px.ok k m)=true→tU7 (rD (dQ (k.f==k.al))=rD b))∧((Px.ok k m)=(!true)→tU2 a))))∧((decide (x.f≤m))=(!true)→tU4 a)))∧((decide (x.al≤m))=(!true)→tU6 a)))∧((decide (x.own≤x.f))=(!true)→tU8 a)))∧((decide (x.own≤x.al))=(!true)→tU2 (tU8 a))); tU6 ((∃ _u:Unit,True∧((c∧(0=0)∧(0=0)∧d∧(dJ 0=dJ 0)∧True)∧e))∧((∀ _u:Unit,True→True∧(decide ((0:Int) < 3)=true∧(0≤(0:Int)∧(0:Int) < ((3:Nat):Int)∧(some (dK x.a)=some (dK x.a))∧True)∧tU5 (((decide (x.a > x.al))=true→True∧rD (dQ false)=rD b)∧((decide (x.a > x.al))=false→tU2 (∃ _u:Unit,((x.a≤x.al)∧True)∧((c∧(0=0)∧(0=0)∧d∧(dJ (wK ((0:Int)+1))=dJ 1)∧True)∧e))))))∧(∀ _u:Unit,((x.a≤x.al)∧True)→True∧(decide ((1:Int) < 3)=true∧(0≤(1:Int)∧(1:Int) < ((3:Nat):Int)∧(some (dK x.b)=some (dK x.b))∧True)∧tU5 (((decide (x.b > x.al))=true→True∧rD (dQ false)=rD b)∧((decide (x.b > x.al))=false→tU2 (∃ _u:Unit,i∧((c∧(0=0)∧(0=0)∧d∧(dJ (wK ((1:Int)+1))=dJ 2)∧True)∧e))))))∧(∀ _u:Unit,i→True∧(decide ((2:Int) < 3)=true∧(0≤(2:Int)∧(2:Int) < ((3:Nat):Int)∧(some (dK x.c)=some (dK x.c))∧True)∧tU5 (((decide (x.c > x.al))=true→True∧rD (dQ false)=rD b)∧((decide (x.c > x.al))=false→tU2 (∃ _u:Unit,j∧((c∧(0=0)∧(0=0)∧d∧(dJ (wK ((2:Int)+1))=dJ 3)∧True)∧e))))))∧(∀ _u:Unit,j→True∧(decide ((3:Int) < 3)=false∧tU3 (((m==255)=false→tU4 (((m==65535)=true→tU7 l)∧((m==65535)=(!true)→tU4 (tU8 a))))∧((m==255)=(!false)→True∧tU8 l))))∧True)))) ?_
  delta dJ dK dQ wK
  simp only [sS]
  simp only [RV.wfs,RV.wf,DV.wf,DV.wfs] at hwf
  have mi:IntKind.min .u64=0:=rfl
  have ma:IntKind.max .u64=18446744073709551615:=rfl
  have mj:IntKind.min .u16=0:=rfl
  have mb:IntKind.max .u16=65535:=rfl
  simp only [mi,ma,mj,mb] at hwf
  have vp:=zQv k.a k.b k.c k.al k.f m
  change Ans _ _ _ (RV.d (DV.bool (k.ok m))) at vp
  have no:¬ ((x.a≤x.al∧x.b≤x.al∧x.c≤x.al)∧zZZ m=true∧(x.own≤x.al∧x.own≤x.f∧x.al≤m∧x.f≤m)∧k.ok m=true∧k.f=k.al)→false=x.ok k m:=fun h=>by
   cases e:x.ok k m with
   | false=>rfl
   | true=>exact absurd (Ac.ok_iff.1 e) h
  have w1:wrap .i64 (0+1)=1:=by decide
  have w2:wrap .i64 (1+1)=2:=by decide
  have w3:wrap .i64 (2+1)=3:=by decide
  have tail:(x.a≤x.al∧x.b≤x.al∧x.c≤x.al)→zZZ m=true→(x.own≤x.al→(x.own≤x.f→(x.al≤m→(x.f≤m→_∧(k.ok m=true→(k.f==k.al)=x.ok k m)∧(k.ok m=false→false=x.ok k m))∧(¬ x.f≤m→false=x.ok k m))∧(¬ x.al≤m→false=x.ok k m))∧(¬ x.own≤x.f→false=x.ok k m))∧(¬ x.own≤x.al→false=x.ok k m):=fun h3 hf=>⟨fun g1=>⟨fun g2=>⟨fun g3=>⟨fun g4=>⟨vp,fun hk=>(by
   by_cases e:k.f=k.al
   ·rw [Ac.ok_iff.2 ⟨h3,hf,⟨g1,g2,g3,g4⟩,hk,e⟩]
    simpa using e
   ·rw [← no (fun q=>e q.2.2.2.2)]
    simpa using e),fun hk=>no (fun q=>by rw [hk] at q; exact absurd q.2.2.2.1 (by decide))⟩,fun h=>no (fun q=>by omega)⟩,fun h=>no (fun q=>by omega)⟩,fun h=>no (fun q=>by omega)⟩,fun h=>no (fun q=>by omega)⟩
  refine ⟨⟨(),trivial⟩,⟨by decide,by decide,fun h=>no (fun q=>by omega),fun h=>⟨(),by omega,w1⟩⟩,fun h1=>⟨by decide,by decide,fun h=>no (fun q=>by omega),fun h=>⟨(),⟨h1,by omega⟩,w2⟩⟩,fun h2=>⟨by decide,by decide,fun h=>no (fun q=>by omega),fun h=>⟨(),⟨h2.1,h2.2,by omega⟩,w3⟩⟩,fun h3=>⟨by decide,fun m1=>⟨fun m2=>tail h3 (decide_eq_true (.inr (by simpa using m2))),fun m2=>no fun q=>?_⟩,fun m1=>tail h3 (decide_eq_true (.inl (by simpa using m1)))⟩⟩
  rcases zW8 q.2.1 with h | h
  ·rw [h] at m1; cases m1
  ·rw [h] at m2; cases m2
theorem zGU (iso kno:Bool) (x:Ac) (k:Px):Ans prog 181 [rD (dQ iso),rD (dQ kno),rA [dK x.a,dK x.b,dK x.c,dK x.al,dK x.own,dK x.f],rA [dK k.a,dK k.b,dK k.c,dK k.al,dK k.f]] (rT [rA [dK (((zQB iso kno x k).1).a),dK (((zQB iso kno x k).1).b),dK (((zQB iso kno x k).1).c),dK (((zQB iso kno x k).1).al),dK (((zQB iso kno x k).1).own),dK (((zQB iso kno x k).1).f)],rA [dK (((zQB iso kno x k).2).a),dK (((zQB iso kno x k).2).b),dK (((zQB iso kno x k).2).c),dK (((zQB iso kno x k).2).al),dK (((zQB iso kno x k).2).f)]]):=
 zQa (Γ:=jXp) aL zQf Tryz.func181 rfl (nL rfl) fun hwf=>by
  refine Eq.mpr (by kernel_rfl:_=(let a:=(zQB iso kno x k); let b:=[rA [dK a.1.a,dK a.1.b,dK a.1.c,dK a.1.al,dK a.1.own,dK a.1.f],rA [dK a.2.a,dK a.2.b,dK a.2.c,dK a.2.al,dK a.2.f]]; tU6 ((iso=true→tU2 (tU8 ((true=true)∧rT [rA [dK 0,dK 0,dK 0,dK 0,dK 0,dK 0],rA [dK 0,dK 0,dK 0,dK 0,dK 0]]=rT b)))∧(iso=false→tU3 (((!kno)=true→tU8 (tU8 ((true=true)∧rT [rA [dK x.a,dK x.b,dK x.c,dK x.al,dK 0,dK 0],rA [dK x.a,dK x.b,dK x.c,dK x.al,dK x.al]]=rT b)))∧((!kno)=false→tU8 ((true=true)∧rT [rA [dK k.a,dK k.b,dK k.c,dK k.al,dK 0,dK 0],rA [dK k.a,dK k.b,dK k.c,dK k.al,dK k.f]]=rT b))))))) ?_
  delta dK
  simp only [sS]
  unfold zQB
  cases iso <;> cases kno <;> simp [Px.zero]
theorem zW6 (mode m:Int) (p:Px) (x:Ac) (k:Px) (hs:zZN true 4 mode m p x k=true):Ans prog 244 [rJ (mode),rD (dK m),rA [dK p.a,dK p.b,dK p.c,dK p.al,dK p.f],rA [dK x.a,dK x.b,dK x.c,dK x.al,dK x.own,dK x.f],rA [dK k.a,dK k.b,dK k.c,dK k.al,dK k.f]] (rT [rA [dK ((accS true 4 mode m p x k).a),dK ((accS true 4 mode m p x k).b),dK ((accS true 4 mode m p x k).c),dK ((accS true 4 mode m p x k).al),dK ((accS true 4 mode m p x k).own),dK ((accS true 4 mode m p x k).f)],rD (dQ true)]):=
 zQa (Γ:=jXp) (let o:=(accS true 4 mode m p x k); let a:=(9,aO (Cl.ptr 9 0)); let b:=(8,aO (Cl.ptr 8 0)); let c:=(7,aO (Cl.ptr 7 0)); let d:=(12,aO (Cl.ptr 12 0)); let e:=(10,aO (Cl.ptr 10 0)); let q:=(aQ aL (aQ (Ann.sure true aL) aL)); let f:=(0,aJ mode); let g:=(1,aO (cK m)); let h:=(19,AV.agg [cK x.a,cK x.b,cK x.c]); let i:=(7,bC [cK p.a,cK p.b,cK p.c,cK p.al,cK p.f]); let s:=[cK x.a,cK x.b,cK x.c,cK x.al,cK x.own,cK x.f]; let j:=(8,Bx.cells s); let l:=(9,bC [cK k.a,cK k.b,cK k.c,cK k.al,cK k.f]); let n:=(10,bC [cK 0,cK 0,cK 0,cK 0,cK 0,cK 0]); let r:=(dK o.a); let t:=(dK o.b); (aQ aL (aQ aL (aQ (aQ aL (Ann.link ⟨Unit,fun _u=>True,fun _u=>⟨[f,g,c,b,a,e,d,h,(20,aJ 0)],[i,j,l,n,(12,Bx.cells s)]⟩,fun _u=>0⟩ (fun _u=>q) (Ann.link ⟨Unit,fun _u=>True,fun _u=>⟨[f,g,c,b,a,e,d,h,(20,aJ 1)],[i,j,l,n,(12,bC [cD r,cK x.b,cK x.c,cK x.al,cK x.own,cK x.f])]⟩,fun _u=>0⟩ (fun _u=>q) (Ann.link ⟨Unit,fun _u=>True,fun _u=>⟨[f,g,c,b,a,e,d,h,(20,aJ 2)],[i,j,l,n,(12,bC [cD r,cD t,cK x.c,cK x.al,cK x.own,cK x.f])]⟩,fun _u=>0⟩ (fun _u=>q) (Ann.link ⟨Unit,fun _u=>True,fun _u=>⟨[f,g,c,b,a,e,d,h,(20,aJ 3)],[i,j,l,n,(12,bC [cD r,cD t,cK o.c,cK x.al,cK x.own,cK x.f])]⟩,fun _u=>0⟩ (fun _u=>(aQ aL (aQ (Ann.sure false aL) aL))) aL))))) aL)))) zQf Tryz.func244 rfl (nL rfl) fun hwf=>by
  refine Eq.mpr (by kernel_rfl:_=(let r:=(knoC mode m p.c p.al p.f x.c k.c k.al); let s:=(knoC mode m p.b p.al p.f x.b k.b k.al); let t:=(knoC mode m p.a p.al p.f x.a k.a k.al); let b:=((3:Nat):Int); let a:=(accS true 4 mode m p x k); let d:=(dJ mode=dJ mode); let e:=(dK m=dK m); let u:=[dK x.a,dK x.b,dK x.c]; let f:=(u=u); let v:=[dK p.a,dK p.b,dK p.c,dK p.al,dK p.f]; let g:=(v=v); let w:=[dK x.a,dK x.b,dK x.c,dK x.al,dK x.own,dK x.f]; let c:=(w=w); let y:=[dK k.a,dK k.b,dK k.c,dK k.al,dK k.f]; let h:=(y=y); let j:=[dK 0,dK 0,dK 0,dK 0,dK 0,dK 0]; let i:=(j=j); let l:=(0≤(0:Int)∧(0:Int) < b); let z:=[rA [dK a.a,dK a.b,dK a.c,dK a.al,dK a.own,dK a.f],rD (dQ true)]; let n:=((!true)=true→tU3 (rT [rA j,rD (dQ false)]=rT z)); let o:=(0≤(1:Int)∧(1:Int) < b); let q:=(0≤(2:Int)∧(2:Int) < b); tU3 (tU8 ((∃ _u:Unit,True∧((d∧e∧(0=0)∧(0=0)∧(0=0)∧(0=0)∧(0=0)∧f∧(dJ 0=dJ 0)∧True)∧(g∧c∧h∧i∧c∧True)))∧((∀ _u:Unit,True→True∧(decide ((0:Int) < 3)=true∧True∧(0≤(0:Int)∧(0:Int) < b∧(some (dK x.a)=some (dK x.a))∧True)∧tU6 (l∧tU8 (l∧tU3 ((Ans prog 259 [rJ mode,rD (dK m),rD (dK p.a),rD (dK p.al),rD (dK p.f),rD (dK x.a),rD (dK k.a),rD (dK k.al)] (rT [rD (dK t),rD (dQ true)]))∧tU5 ((true=true)∧tU2 (n∧((!true)=false→tU3 (l∧tU3 (∃ _u:Unit,True∧((d∧e∧(0=0)∧(0=0)∧(0=0)∧(0=0)∧(0=0)∧f∧(dJ (wK ((0:Int)+1))=dJ 1)∧True)∧(g∧c∧h∧i∧([dK t,dK x.b,dK x.c,dK x.al,dK x.own,dK x.f]=[dK a.a,dK x.b,dK x.c,dK x.al,dK x.own,dK x.f])∧True))))))))))))∧(∀ _u:Unit,True→True∧(decide ((1:Int) < 3)=true∧True∧(0≤(1:Int)∧(1:Int) < b∧(some (dK x.b)=some (dK x.b))∧True)∧tU6 (o∧tU8 (o∧tU3 ((Ans prog 259 [rJ mode,rD (dK m),rD (dK p.b),rD (dK p.al),rD (dK p.f),rD (dK x.b),rD (dK k.b),rD (dK k.al)] (rT [rD (dK s),rD (dQ true)]))∧tU5 ((true=true)∧tU2 (n∧((!true)=false→tU3 (o∧tU3 (∃ _u:Unit,True∧((d∧e∧(0=0)∧(0=0)∧(0=0)∧(0=0)∧(0=0)∧f∧(dJ (wK ((1:Int)+1))=dJ 2)∧True)∧(g∧c∧h∧i∧([dK a.a,dK s,dK x.c,dK x.al,dK x.own,dK x.f]=[dK a.a,dK a.b,dK x.c,dK x.al,dK x.own,dK x.f])∧True))))))))))))∧(∀ _u:Unit,True→True∧(decide ((2:Int) < 3)=true∧True∧(0≤(2:Int)∧(2:Int) < b∧(some (dK x.c)=some (dK x.c))∧True)∧tU6 (q∧tU8 (q∧tU3 ((Ans prog 259 [rJ mode,rD (dK m),rD (dK p.c),rD (dK p.al),rD (dK p.f),rD (dK x.c),rD (dK k.c),rD (dK k.al)] (rT [rD (dK r),rD (dQ true)]))∧tU5 ((true=true)∧tU2 (n∧((!true)=false→tU3 (q∧tU3 (∃ _u:Unit,True∧((d∧e∧(0=0)∧(0=0)∧(0=0)∧(0=0)∧(0=0)∧f∧(dJ (wK ((2:Int)+1))=dJ 3)∧True)∧(g∧c∧h∧i∧([dK a.a,dK a.b,dK r,dK x.al,dK x.own,dK x.f]=[dK a.a,dK a.b,dK a.c,dK x.al,dK x.own,dK x.f])∧True))))))))))))∧(∀ _u:Unit,True→True∧(decide ((3:Int) < 3)=false∧True∧tU8 ((Ans prog 260 [rD (dK m),rD (dK p.al),rD (dK p.f),rD (dK x.al),rD (dK k.al)] (rT [rD (dK (knoA m p.al p.f x.al k.al)),rD (dQ true)]))∧tU4 (tU8 ((Ans prog 261 [rD (dK m),rD (dK p.al),rD (dK p.f),rD (dK x.own)] (rT [rD (dK (knoA m p.al p.f x.own 0)),rD (dQ true)]))∧tU2 (tU8 ((Ans prog 247 [rJ 4,rD (dK p.f),rD (dK x.f),rD (dK m)] (rD (dK (zYu (4:Int) p.f x.f m))))∧tU5 (rT [rA [dK a.a,dK a.b,dK a.c,dK (knoA m p.al p.f x.al k.al),dK (knoA m p.al p.f x.own 0),dK (zYu (4:Int) p.f x.f m)],rD (dQ true)]=rT z))))))))∧True))))) ?_
  delta dJ dK dQ wK rJ
  simp only [sS]
  simp only [RV.wfs,RV.wf,DV.wf,DV.wfs] at hwf
  have mi:IntKind.min .u64=0:=rfl
  have ma:IntKind.max .u64=18446744073709551615:=rfl
  have mj:IntKind.min .u16=0:=rfl
  have mb:IntKind.max .u16=65535:=rfl
  simp only [mi,ma,mj,mb] at hwf
  obtain ⟨_,⟨m0,m1⟩,⟨⟨pa0,_⟩,⟨pb0,_⟩,⟨pc0,_⟩,⟨pl0,_⟩,⟨pf0,_⟩,_⟩,⟨⟨xa0,_⟩,⟨xb0,_⟩,⟨xc0,_⟩,⟨xl0,_⟩,⟨xo0,_⟩,⟨xf0,_⟩,_⟩,⟨⟨ka0,_⟩,⟨kb0,_⟩,⟨kc0,_⟩,⟨kl0,_⟩,⟨kf0,_⟩,_⟩,_⟩:=hwf
  unfold zZN at hs
  simp only [Bool.and_eq_true] at hs
  obtain ⟨h1,h2,h3,h4,h5⟩:=hs
  obtain ⟨⟨q1,q2,q3⟩,hf,⟨q4,q5,q6,q7⟩,hk2,hk3⟩:=Ac.ok_iff.1 h3
  obtain ⟨r1,r2,r3,r4,r5⟩:=Px.ok_iff.1 hk2
  obtain ⟨p1,p2,p3,p4,p5⟩:=Px.ok_iff.1 h4
  have sh:=zJi 4 p.f x.f m hf h1 p5 q7
  have k1:=zX8 mode m p.a p.al p.f x.a k.a k.al hf h2 p1 p4 p5 r1 (by omega) (by omega)
  have k2:=zX8 mode m p.b p.al p.f x.b k.b k.al hf h2 p2 p4 p5 r2 (by omega) (by omega)
  have k3:=zX8 mode m p.c p.al p.f x.c k.c k.al hf h2 p3 p4 p5 r3 (by omega) (by omega)
  have ka:=zJl m p.al p.f x.al k.al hf p4 p5 q6 (by omega)
  have ko:=zUJ m p.al p.f x.own hf p4 p5 (by omega)
  have w1:wrap .i64 (0+1)=1:=by decide
  have w2:wrap .i64 (1+1)=2:=by decide
  have w3:wrap .i64 (2+1)=3:=by decide
  (repeat' (first | intro _ | apply And.intro | refine Exists.intro () ?_)) <;> first | exact sh | exact k1 | exact k2 | exact k3 | exact ka | exact ko | exact w1 | exact w2 | exact w3 | exact trivial | rfl | decide | (exfalso; contradiction) | omega
theorem zHA (kno:Bool) (op mode m:Int) (p:Px) (x:Ac) (k:Px) (ho:isNm op=true) (hm:isNm mode=true):Ans prog 230 [rD (dQ kno),rJ (op),rJ (mode),rD (dK m),rA [dK p.a,dK p.b,dK p.c,dK p.al,dK p.f],rA [dK x.a,dK x.b,dK x.c,dK x.al,dK x.own,dK x.f],rA [dK k.a,dK k.b,dK k.c,dK k.al,dK k.f]] (rT [rA [dK ((zX0 kno op mode m p x k).a),dK ((zX0 kno op mode m p x k).b),dK ((zX0 kno op mode m p x k).c),dK ((zX0 kno op mode m p x k).al),dK ((zX0 kno op mode m p x k).own),dK ((zX0 kno op mode m p x k).f)],rD (dQ (zZN kno op mode m p x k))]):=
 zQa (Γ:=jXp) (let o:=(accS kno op mode m p x k); let j:=(16,aO (Cl.ptr 16 0)); let a:=(14,aO (Cl.ptr 14 0)); let b:=(12,aO (Cl.ptr 12 0)); let c:=(11,aO (Cl.ptr 11 0)); let q:=(aQ aL (aQ (Ann.sure true aL) aL)); let d:=(1,aJ op); let e:=(2,aJ mode); let f:=(3,aO (cK m)); let g:=(11,bC [cK p.a,cK p.b,cK p.c,cK p.al,cK p.f]); let s:=[cK x.a,cK x.b,cK x.c,cK x.al,cK x.own,cK x.f]; let h:=(12,Bx.cells s); let i:=(14,bC [cK 0,cK 0,cK 0,cK 0,cK 0,cK 0]); let l:=(kno=false∧zZN kno op mode m p x k=true); let n:=(51,AV.agg [cK x.a,cK x.b,cK x.c]); let r:=(dK o.a); let t:=(dK o.b); (aQ aL (Ann.cut ⟨Unit,fun _v:Unit=>zZN kno op mode m p x k=true,fun _v:Unit=>⟨[(0,aO (cD (dQ kno))),d,e,f,c,b,(13,aO (Cl.ptr 13 0)),a],[g,h,(13,bC [cK k.a,cK k.b,cK k.c,cK k.al,cK k.f]),i]⟩,fun _v:Unit=>0⟩ aL fun _v=>(aQ aL (aQ aL (aQ (aQ aL (Ann.link ⟨Unit,fun _u=>l,fun _u=>⟨[d,e,f,c,b,a,j,n,(52,aJ 0)],[g,h,i,(16,Bx.cells s)]⟩,fun _u=>0⟩ (fun _u=>q) (Ann.link ⟨Unit,fun _u=>l,fun _u=>⟨[d,e,f,c,b,a,j,n,(52,aJ 1)],[g,h,i,(16,bC [cD r,cK x.b,cK x.c,cK x.al,cK x.own,cK x.f])]⟩,fun _u=>0⟩ (fun _u=>q) (Ann.link ⟨Unit,fun _u=>l,fun _u=>⟨[d,e,f,c,b,a,j,n,(52,aJ 2)],[g,h,i,(16,bC [cD r,cD t,cK x.c,cK x.al,cK x.own,cK x.f])]⟩,fun _u=>0⟩ (fun _u=>q) (Ann.link ⟨Unit,fun _u=>l,fun _u=>⟨[d,e,f,c,b,a,j,n,(52,aJ 3)],[g,h,i,(16,bC [cD r,cD t,cK o.c,cK x.al,cK x.own,cK x.f])]⟩,fun _u=>0⟩ (fun _u=>(aQ aL (aQ (Ann.sure false aL) aL))) aL))))) aL)))))) zQf Tryz.func230 rfl (nL rfl) fun hwf=>by
  refine Eq.mpr (by kernel_rfl:_=(let y:=(colS op mode m p.c p.al x.c x.al); let z:=(colS op mode m p.b p.al x.b x.al); let A:=(colS op mode m p.a p.al x.a x.al); let c:=((3:Nat):Int); let d:=(accS true 4 mode m p x k); let e:=(zX0 kno op mode m p x k); let a:=(accS kno op mode m p x k); let b:=(kno=false∧zZN kno op mode m p x k=true); let n:=[dK x.a,dK x.b,dK x.c,dK x.al,dK x.own,dK x.f]; let o:=[dK k.a,dK k.b,dK k.c,dK k.al,dK k.f]; let q:=[dK p.a,dK p.b,dK p.c,dK p.al,dK p.f]; let t:=[dK 0,dK 0,dK 0,dK 0,dK 0,dK 0]; let H:=[rA t,rD (dQ false)]; let u:=[rA [dK e.a,dK e.b,dK e.c,dK e.al,dK e.own,dK e.f],rD (dQ (zZN kno op mode m p x k))]; let r:=(rT H=rT u); let v:=(zZN kno op mode m p x k=true); let g:=(dJ op=dJ op); let h:=(dJ mode=dJ mode); let i:=(dK m=dK m); let j:=(q=q); let f:=(n=n); let l:=(t=t); let B:=(((dQ kno=dQ kno)∧g∧h∧i∧(0=0)∧(0=0)∧(0=0)∧(0=0)∧True)∧(j∧f∧(o=o)∧l∧True)); let C:=[rA [dK d.a,dK d.b,dK d.c,dK d.al,dK d.own,dK d.f],rD (dQ true)]; let D:=[dK x.a,dK x.b,dK x.c]; let s:=(D=D); let E:=(0≤(0:Int)∧(0:Int) < c); let w:=((!true)=true→tU3 r); let F:=(0≤(1:Int)∧(1:Int) < c); let G:=(0≤(2:Int)∧(2:Int) < c); tU5 ((tU3 ((Ans prog 182 [rA n,rA o,rD (dK m)] (rD (dQ (Ac.ok x k m))))∧tU2 (((!(Ac.ok x k m))=false→tU2 ((Ans prog 117 [rA q,rD (dK m)] (rD (dQ (Px.ok p m))))∧tU3 (((!(Px.ok p m))=false→tU2 ((kno=true→tU4 (((op != 4)=true→tU3 r)∧((op != 4)=false→∃ _v:Unit,v∧B)))∧(kno=(!true)→tU2 (∃ _v:Unit,v∧B))))∧((!(Px.ok p m))=(!false)→tU4 r))))∧((!(Ac.ok x k m))=(!false)→tU6 r))))∧∀ _v:Unit,v→True∧((kno=true→tU5 ((Ans prog 244 [rJ mode,rD (dK m),rA q,rA n,rA o] (rT C))∧tU4 (rT C=rT u)))∧(kno=false→tU6 ((∃ _u:Unit,b∧((g∧h∧i∧(0=0)∧(0=0)∧(0=0)∧(0=0)∧s∧(dJ 0=dJ 0)∧True)∧(j∧f∧l∧f∧True)))∧((∀ _u:Unit,b→True∧(decide ((0:Int) < 3)=true∧True∧(0≤(0:Int)∧(0:Int) < c∧(some (dK x.a)=some (dK x.a))∧True)∧tU7 (E∧tU6 ((Ans prog 245 [rJ op,rJ mode,rD (dK m),rD (dK p.a),rD (dK p.al),rD (dK x.a),rD (dK x.al)] (rT [rD (dK A),rD (dQ true)]))∧tU5 ((true=true)∧tU2 (w∧((!true)=false→tU3 (E∧tU3 (∃ _u:Unit,b∧((g∧h∧i∧(0=0)∧(0=0)∧(0=0)∧(0=0)∧s∧(dJ (wK ((0:Int)+1))=dJ 1)∧True)∧(j∧f∧l∧([dK A,dK x.b,dK x.c,dK x.al,dK x.own,dK x.f]=[dK a.a,dK x.b,dK x.c,dK x.al,dK x.own,dK x.f])∧True)))))))))))∧(∀ _u:Unit,b→True∧(decide ((1:Int) < 3)=true∧True∧(0≤(1:Int)∧(1:Int) < c∧(some (dK x.b)=some (dK x.b))∧True)∧tU7 (F∧tU6 ((Ans prog 245 [rJ op,rJ mode,rD (dK m),rD (dK p.b),rD (dK p.al),rD (dK x.b),rD (dK x.al)] (rT [rD (dK z),rD (dQ true)]))∧tU5 ((true=true)∧tU2 (w∧((!true)=false→tU3 (F∧tU3 (∃ _u:Unit,b∧((g∧h∧i∧(0=0)∧(0=0)∧(0=0)∧(0=0)∧s∧(dJ (wK ((1:Int)+1))=dJ 2)∧True)∧(j∧f∧l∧([dK a.a,dK z,dK x.c,dK x.al,dK x.own,dK x.f]=[dK a.a,dK a.b,dK x.c,dK x.al,dK x.own,dK x.f])∧True)))))))))))∧(∀ _u:Unit,b→True∧(decide ((2:Int) < 3)=true∧True∧(0≤(2:Int)∧(2:Int) < c∧(some (dK x.c)=some (dK x.c))∧True)∧tU7 (G∧tU6 ((Ans prog 245 [rJ op,rJ mode,rD (dK m),rD (dK p.c),rD (dK p.al),rD (dK x.c),rD (dK x.al)] (rT [rD (dK y),rD (dQ true)]))∧tU5 ((true=true)∧tU2 (w∧((!true)=false→tU3 (G∧tU3 (∃ _u:Unit,b∧((g∧h∧i∧(0=0)∧(0=0)∧(0=0)∧(0=0)∧s∧(dJ (wK ((2:Int)+1))=dJ 3)∧True)∧(j∧f∧l∧([dK a.a,dK a.b,dK y,dK x.al,dK x.own,dK x.f]=[dK a.a,dK a.b,dK a.c,dK x.al,dK x.own,dK x.f])∧True)))))))))))∧(∀ _u:Unit,b→True∧(decide ((3:Int) < 3)=false∧tU6 ((Ans prog 246 [rJ op,rD (dK p.al),rD (dK x.al),rD (dK m)] (rD (dK (zXA op p.al x.al m))))∧tU8 ((Ans prog 246 [rJ op,rD (dK p.al),rD (dK x.own),rD (dK m)] (rD (dK (zXA op p.al x.own m))))∧tU8 ((Ans prog 247 [rJ op,rD (dK p.f),rD (dK x.f),rD (dK m)] (rD (dK (zYu op p.f x.f m))))∧tU5 (rT [rA [dK a.a,dK a.b,dK a.c,dK (zXA op p.al x.al m),dK (zXA op p.al x.own m),dK (zYu op p.f x.f m)],rD (dQ true)]=rT u))))))∧True))))))) ?_
  delta dJ dK dQ wK rJ
  simp only [sS]
  simp only [RV.wfs,RV.wf,DV.wf,DV.wfs] at hwf
  have mi:IntKind.min .u64=0:=rfl
  have ma:IntKind.max .u64=18446744073709551615:=rfl
  have mj:IntKind.min .u16=0:=rfl
  have mb:IntKind.max .u16=65535:=rfl
  simp only [mi,ma,mj,mb] at hwf
  obtain ⟨_,_,_,⟨m0,m1⟩,⟨⟨pa0,_⟩,⟨pb0,_⟩,⟨pc0,_⟩,⟨pl0,_⟩,⟨pf0,_⟩,_⟩,⟨⟨xa0,_⟩,⟨xb0,_⟩,⟨xc0,_⟩,⟨xl0,_⟩,⟨xo0,_⟩,⟨xf0,_⟩,_⟩,⟨⟨ka0,_⟩,⟨kb0,_⟩,⟨kc0,_⟩,⟨kl0,_⟩,⟨kf0,_⟩,_⟩,_⟩:=hwf
  have va:=zKQ x k m
  have vp:=zQv p.a p.b p.c p.al p.f m
  change Ans _ _ _ (RV.d (DV.bool (p.ok m))) at vp
  have mk:x.ok k m=true→p.ok m=true→(kno=true→op=4)→zZN kno op mode m p x k=true:=fun h3 h4 h5=>by
   unfold zZN
   rw [ho,hm,h3,h4]
   cases kno with
   | false=>rfl
   | true=>rw [h5 rfl]; rfl
  have e0:zX0 kno op mode m p x k=if zZN kno op mode m p x k then accS kno op mode m p x k else .zero:=rfl
  have bad:¬ (x.ok k m=true∧p.ok m=true∧(kno=true→op=4))→(0=(zX0 kno op mode m p x k).a∧0=(zX0 kno op mode m p x k).b∧0=(zX0 kno op mode m p x k).c∧0=(zX0 kno op mode m p x k).al∧0=(zX0 kno op mode m p x k).own∧0=(zX0 kno op mode m p x k).f)∧false=zZN kno op mode m p x k:=fun hn=>by
   have hf:zZN kno op mode m p x k=false:=by
    cases e:zZN kno op mode m p x k with
    | false=>rfl
    | true=>
     unfold zZN at e
     simp only [Bool.and_eq_true] at e
     exact absurd ⟨e.2.2.1,e.2.2.2.1,fun hk=>by
      have:=e.2.2.2.2
      rw [hk] at this
      simpa using this⟩ hn
   rw [e0,hf]
   exact ⟨⟨rfl,rfl,rfl,rfl,rfl,rfl⟩,rfl⟩
  refine ⟨⟨va,fun hx=>⟨vp,fun hp=>⟨fun hk=>⟨fun h4=>bad fun q=>absurd (q.2.2 hk) (bne_iff_ne.1 h4),fun h4=>⟨(),mk hx hp fun _=>bne_eq_false_iff_eq.1 h4⟩⟩,fun hk=>⟨(),mk hx hp fun h=>by rw [hk] at h; cases h⟩⟩,fun hp=>bad fun q=>by rw [hp] at q; exact absurd q.2.1 (by decide)⟩,fun hx=>bad fun q=>by rw [hx] at q; exact absurd q.1 (by decide)⟩,fun hs=>?_⟩
  clear bad mk va vp
  have e1:zX0 kno op mode m p x k=accS kno op mode m p x k:=by rw [e0,if_pos hs]
  rw [e1,hs]
  clear e0 e1
  have hs':=hs
  unfold zZN at hs'
  simp only [Bool.and_eq_true] at hs'
  obtain ⟨h1,h2,h3,h4,h5⟩:=hs'
  obtain ⟨⟨q1,q2,q3⟩,hf,⟨q4,q5,q6,q7⟩,hk2,hk3⟩:=Ac.ok_iff.1 h3
  obtain ⟨r1,r2,r3,r4,r5⟩:=Px.ok_iff.1 hk2
  obtain ⟨p1,p2,p3,p4,p5⟩:=Px.ok_iff.1 h4
  cases kno with
  | true=>
   have h6:op=4:=by simpa using h5
   subst h6
   exact ⟨fun _=>⟨zW6 mode m p x k hs,⟨rfl,rfl,rfl,rfl,rfl,rfl⟩,rfl⟩,fun h=>(by cases h)⟩
  | false=>
   have sh:=zJi op p.f x.f m hf h1 p5 q7
   have c1:=zJ4 op mode m p.a p.al x.a x.al hf h1 h2 p1 (by omega) q1 q6
   have c2:=zJ4 op mode m p.b p.al x.b x.al hf h1 h2 p2 (by omega) q2 q6
   have c3:=zJ4 op mode m p.c p.al x.c x.al hf h1 h2 p3 (by omega) q3 q6
   have a1:=zJj op p.al x.al m hf h1 (by omega) q6
   have a2:=zJj op p.al x.own m hf h1 (by omega) (by omega)
   have w1:wrap .i64 (0+1)=1:=by decide
   have w2:wrap .i64 (1+1)=2:=by decide
   have w3:wrap .i64 (2+1)=3:=by decide
   (repeat' (first | intro _ | apply And.intro | refine Exists.intro () ?_)) <;> first | exact sh | exact c1 | exact c2 | exact c3 | exact a1 | exact a2 | exact w1 | exact w2 | exact w3 | exact hs | exact trivial | rfl | decide | (exfalso; contradiction) | omega
theorem zW7 (c k own m:Int) (h1:own≤m) (hm:0 < m):Ans prog 183 [rD (dK c),rD (dK k),rD (dK own),rD (dK m)] (rD (dK (remS m c own k))):=
 zQa (Γ:=jXp) aL zQf Tryz.func183 rfl (nL rfl) fun hwf=>by
  refine Eq.mpr (by kernel_rfl:_=(let a:=(wrap .u64 m); let b:=(wrap .u64 (a*(wrap .u64 c))); let d:=(wrap .u64 ((wrap .u64 (wrap .u16 (m - own)))*(wrap .u64 k))); let f:=(dK (remS m c own k)); let e:=(wrap .u64 (b - d)); tU2 (tU8 (tU8 (((decide (b≤d))=true→True∧rD (dK 0)=rD f)∧((decide (b≤d))=false→tU5 ((Ans prog 228 [rD (DV.int .u64 e),rD (DV.int .u64 a)] (rD (DV.int .u64 (zQE e a))))∧tU4 (rD (dK (min (wrap .u16 (zQE e a)) own))=rD f)))))))) ?_
  delta dK
  simp only [sS]
  simp only [RV.wfs,RV.wf,DV.wf,DV.wfs] at hwf
  have mi:IntKind.min .u64=0:=rfl
  have ma:IntKind.max .u64=18446744073709551615:=rfl
  have mj:IntKind.min .u16=0:=rfl
  have mb:IntKind.max .u16=65535:=rfl
  simp only [mi,ma,mj,mb] at hwf
  have W:∀ x:Int,0≤x→x < 18446744073709551616→wrap .u64 x=x:=fun x x0 x1=>IntWalk.u64_in x ⟨x0,by omega⟩
  have U:∀ x:Int,0≤x→x≤65535→wrap .u16 x=x:=fun x x0 x1=>IntWalk.u16_in x ⟨x0,by omega⟩
  obtain ⟨⟨c0,c1⟩,⟨k0,k1⟩,⟨o0,o1⟩,⟨m0,m1⟩,_⟩:=hwf
  have n1:=zQg m0 m1 c0 c1
  have n2:=zQg (x:=m - own) (y:=k) (A:=65535) (B:=65535) (by omega) (by omega) k0 k1
  rw [W m m0 (by omega),W c c0 (by omega),W k k0 (by omega),U (m - own) (by omega) (by omega),W (m - own) (by omega) (by omega),W (m*c) n1.1 (by omega),W ((m - own)*k) n2.1 (by omega)]
  unfold remS
  refine ⟨fun h=>by rw [if_neg (by omega)],fun h=>?_⟩
  rw [if_pos (by omega),W (m*c - (m - own)*k) (by omega) (by omega)]
  have u0:=zYD (n:=m*c - (m - own)*k) hm (by omega)
  have u1:=zXb (n:=m*c - (m - own)*k) (k:=c) hm (by omega)
  exact ⟨zQF _ _,by rw [U _ u0 (by omega)]⟩
theorem zUL (x:Ac) (k:Px) (m:Int):Ans prog 109 [rA [dK x.a,dK x.b,dK x.c,dK x.al,dK x.own,dK x.f],rA [dK k.a,dK k.b,dK k.c,dK k.al,dK k.f],rD (dK m)] (rT [rA [dK ((resE x k m).a),dK ((resE x k m).b),dK ((resE x k m).c),dK ((resE x k m).al),dK ((resE x k m).f)],rD (dQ (Ac.ok x k m))]):=
 zQa (Γ:=jXp) (let d:=(x.ok k m=true); let e:=(8,aO (Cl.ptr 8 0)); let f:=(6,aO (Cl.ptr 6 0)); let g:=(4,aO (Cl.ptr 4 0)); let h:=(3,aO (Cl.ptr 3 0)); let p:=(aQ aL (aQ (Ann.sure true aL) aL)); let i:=(2,aO (cK m)); let j:=(23,AV.agg [cK x.a,cK x.b,cK x.c]); let l:=(3,bC [cK x.a,cK x.b,cK x.c,cK x.al,cK x.own,cK x.f]); let n:=(4,bC [cK k.a,cK k.b,cK k.c,cK k.al,cK k.f]); let o:=(6,bC [cK 0,cK 0,cK 0,cK 0,cK 0]); let q:=(dK (zZU x k m).a); let r:=(dK (zZU x k m).b); (aQ aL (aQ aL (aQ aL (aQ (aQ aL (Ann.link ⟨Unit,fun _u=>d,fun _u=>⟨[i,h,g,f,e,j,(24,aJ 0)],[l,n,o,(8,bC [cK 0,cK 0,cK 0,cK x.own,cK x.f])]⟩,fun _u=>0⟩ (fun _u=>p) (Ann.link ⟨Unit,fun _u=>d,fun _u=>⟨[i,h,g,f,e,j,(24,aJ 1)],[l,n,o,(8,bC [cD q,cK 0,cK 0,cK x.own,cK x.f])]⟩,fun _u=>0⟩ (fun _u=>p) (Ann.link ⟨Unit,fun _u=>d,fun _u=>⟨[i,h,g,f,e,j,(24,aJ 2)],[l,n,o,(8,bC [cD q,cD r,cK 0,cK x.own,cK x.f])]⟩,fun _u=>0⟩ (fun _u=>p) (Ann.link ⟨Unit,fun _u=>d,fun _u=>⟨[i,h,g,f,e,j,(24,aJ 3)],[l,n,o,(8,bC [cD q,cD r,cK (zZU x k m).c,cK x.own,cK x.f])]⟩,fun _u=>0⟩ (fun _u=>(aQ aL (aQ (Ann.sure false aL) aL))) aL))))) aL))))) zQf Tryz.func109 rfl (nL rfl) fun hwf=>by
  refine Eq.mpr (by kernel_rfl:_=(let d:=(resE x k m); let c:=((3:Nat):Int); let b:=(x.ok k m=true); let a:=(zZU x k m); let j:=[dK x.a,dK x.b,dK x.c,dK x.al,dK x.own,dK x.f]; let l:=[dK k.a,dK k.b,dK k.c,dK k.al,dK k.f]; let n:=[dK 0,dK 0,dK 0,dK 0,dK 0]; let o:=[rA [dK d.a,dK d.b,dK d.c,dK d.al,dK d.f],rD (dQ (Ac.ok x k m))]; let e:=(dK m=dK m); let p:=[dK x.a,dK x.b,dK x.c]; let f:=(p=p); let g:=(j=j); let h:=(l=l); let i:=(n=n); let q:=[dK 0,dK 0,dK 0,dK x.own,dK x.f]; let r:=(0≤(0:Int)∧(0:Int) < c); let s:=(0≤(1:Int)∧(1:Int) < c); let t:=(0≤(2:Int)∧(2:Int) < c); let u:=[dK a.a,dK a.b,dK a.c,dK x.own,dK x.f]; tU7 ((Ans prog 182 [rA j,rA l,rD (dK m)] (rD (dQ (Ac.ok x k m))))∧True∧(((!(Ac.ok x k m))=true→tU3 (rT [rA n,rD (dQ false)]=rT o))∧((!(Ac.ok x k m))=false→tU2 (tU8 ((∃ _u:Unit,b∧((e∧(0=0)∧(0=0)∧(0=0)∧(0=0)∧f∧(dJ 0=dJ 0)∧True)∧(g∧h∧i∧(q=q)∧True)))∧((∀ _u:Unit,b→True∧(decide ((0:Int) < 3)=true∧True∧(0≤(0:Int)∧(0:Int) < c∧(some (dK x.a)=some (dK x.a))∧True)∧tU6 (r∧tU4 ((Ans prog 183 [rD (dK x.a),rD (dK k.a),rD (dK x.own),rD (dK m)] (rD (dK (remS m x.a x.own k.a))))∧True∧r∧True∧(true=true)∧tU2 (∃ _u:Unit,b∧((e∧(0=0)∧(0=0)∧(0=0)∧(0=0)∧f∧(dJ (wK ((0:Int)+1))=dJ 1)∧True)∧(g∧h∧i∧([dK (remS m x.a x.own k.a),dK 0,dK 0,dK x.own,dK x.f]=[dK a.a,dK 0,dK 0,dK x.own,dK x.f])∧True)))))))∧(∀ _u:Unit,b→True∧(decide ((1:Int) < 3)=true∧True∧(0≤(1:Int)∧(1:Int) < c∧(some (dK x.b)=some (dK x.b))∧True)∧tU6 (s∧tU4 ((Ans prog 183 [rD (dK x.b),rD (dK k.b),rD (dK x.own),rD (dK m)] (rD (dK (remS m x.b x.own k.b))))∧True∧s∧True∧(true=true)∧tU2 (∃ _u:Unit,b∧((e∧(0=0)∧(0=0)∧(0=0)∧(0=0)∧f∧(dJ (wK ((1:Int)+1))=dJ 2)∧True)∧(g∧h∧i∧([dK a.a,dK (remS m x.b x.own k.b),dK 0,dK x.own,dK x.f]=[dK a.a,dK a.b,dK 0,dK x.own,dK x.f])∧True)))))))∧(∀ _u:Unit,b→True∧(decide ((2:Int) < 3)=true∧True∧(0≤(2:Int)∧(2:Int) < c∧(some (dK x.c)=some (dK x.c))∧True)∧tU6 (t∧tU4 ((Ans prog 183 [rD (dK x.c),rD (dK k.c),rD (dK x.own),rD (dK m)] (rD (dK (remS m x.c x.own k.c))))∧True∧t∧True∧(true=true)∧tU2 (∃ _u:Unit,b∧((e∧(0=0)∧(0=0)∧(0=0)∧(0=0)∧f∧(dJ (wK ((2:Int)+1))=dJ 3)∧True)∧(g∧h∧i∧([dK a.a,dK a.b,dK (remS m x.c x.own k.c),dK x.own,dK x.f]=u)∧True)))))))∧(∀ _u:Unit,b→True∧(decide ((3:Int) < 3)=false∧tU3 (rT [rA u,rD (dQ true)]=rT o)))∧True)))))))) ?_
  delta dJ dK dQ wK
  simp only [sS]
  simp only [RV.wfs,RV.wf,DV.wf,DV.wfs] at hwf
  have mi:IntKind.min .u64=0:=rfl
  have ma:IntKind.max .u64=18446744073709551615:=rfl
  have mj:IntKind.min .u16=0:=rfl
  have mb:IntKind.max .u16=65535:=rfl
  simp only [mi,ma,mj,mb] at hwf
  obtain ⟨⟨⟨xa0,xa1⟩,⟨xb0,xb1⟩,⟨xc0,xc1⟩,⟨xl0,xl1⟩,⟨xo0,xo1⟩,⟨xf0,xf1⟩,_⟩,⟨⟨ka0,ka1⟩,⟨kb0,kb1⟩,⟨kc0,kc1⟩,⟨kl0,kl1⟩,⟨kf0,kf1⟩,_⟩,⟨m0,m1⟩,_⟩:=hwf
  have va:=zKQ x k m
  have e0:resE x k m=if x.ok k m then zZU x k m else .zero:=rfl
  cases hx:x.ok k m with
  | false=>
   rw [hx] at e0 va
   have e0:resE x k m=.zero:=e0
   rw [e0]
   exact ⟨va,fun _=>⟨⟨rfl,rfl,rfl,rfl,rfl⟩,rfl⟩,fun h=>by cases h⟩
  | true=>
   rw [hx] at e0 va
   have e0:resE x k m=zZU x k m:=e0
   rw [e0]
   obtain ⟨⟨q1,q2,q3⟩,hf,⟨q4,q5,q6,q7⟩,hk2,hk3⟩:=Ac.ok_iff.1 hx
   have hm:=(zZG hf).1
   have R:=fun c k=>zW7 c k x.own m (by omega) hm
   have w1:wrap .i64 (0+1)=1:=by decide
   have w2:wrap .i64 (1+1)=2:=by decide
   have w3:wrap .i64 (2+1)=3:=by decide
   (repeat' (first | intro _ | apply And.intro | refine Exists.intro () ?_)) <;> first | exact va | exact R _ _ | exact w1 | exact w2 | exact w3 | exact hx | exact trivial | rfl | decide | (exfalso; contradiction) | omega
end
structure Mc where
  at_:Int
  kind:Int
  inp:Px
  back:Px
  k:Int
  out:Px
def Mc.cells (t:Mc):List DV:=[.int .i64 t.at_,.int .i64 t.kind]++(t.inp.ds++(t.back.ds++([.int .u16 t.k]++t.out.ds)))
def acs (l:List Ac):List DV:=l.flatMap Ac.ds
theorem jKo (l k:List Ac):acs l++acs k=acs (l++k):=by simp [acs]
theorem zXW (l:List Ac):(acs l).length=l.length*6:=by
 induction l with
 | nil=>rfl
 | cons t l ih=>
  show (t.ds++acs l).length=_
  rw [List.length_append,ih]
  simp only [Ac.ds,List.length_cons,List.length_nil]
  omega
theorem jGh {l:List Ac} {k:Nat} (h:k < l.length) (j:Nat) (hj:j < 6):(acs l)[k*6+j]?=l[k].ds[j]?:=by
 induction l generalizing k with
 | nil=>simp at h
 | cons o l ih=>
  have e:acs (o::l)=o.ds++acs l:=by simp [acs]
  have ec:o.ds.length=6:=rfl
  rw [e]
  cases k with
  | zero=>simp only [List.getElem_cons_zero]; rw [List.getElem?_append_left (by omega)]; simp
  | succ k=>
   rw [List.getElem?_append_right (by omega)]
   have:=ih (k:=k) (by simpa using h)
   simp only [List.getElem_cons_succ]
   rw [← this]
   congr 1
   omega
theorem zHi {l:List Ac} {k:Nat} (h:k < l.length):(acs l)[k*6+0]?=some (.int .u16 l[k].a)∧(acs l)[k*6+1]?=some (.int .u16 l[k].b)∧(acs l)[k*6+2]?=some (.int .u16 l[k].c)∧(acs l)[k*6+3]?=some (.int .u16 l[k].al)∧(acs l)[k*6+4]?=some (.int .u16 l[k].own)∧(acs l)[k*6+5]?=some (.int .u16 l[k].f):=by
 have g:=fun j hj=>jGh h j hj
 exact ⟨g 0 (by omega),g 1 (by omega),g 2 (by omega),g 3 (by omega),g 4 (by omega),g 5 (by omega)⟩
theorem zHj {l:List Ac} {k:Nat} (h:k < l.length):nAt (acs l) (k*6+0)=l[k].a∧nAt (acs l) (k*6+1)=l[k].b∧nAt (acs l) (k*6+2)=l[k].c∧nAt (acs l) (k*6+3)=l[k].al∧nAt (acs l) (k*6+4)=l[k].own∧nAt (acs l) (k*6+5)=l[k].f:=by
 obtain ⟨e0,e1,e2,e3,e4,e5⟩:=zHi h
 simp only [nAt,bAt,e0,e1,e2,e3,e4,e5,and_self]
def acAt (xs:List DV) (i:Nat):Ac:=⟨nAt xs (i+0),nAt xs (i+1),nAt xs (i+2),nAt xs (i+3),nAt xs (i+4),nAt xs (i+5)⟩
theorem jW5 {l:List Ac} {k:Nat} (h:k < l.length):acAt (acs l) (k*6)=l[k]:=by
 obtain ⟨e0,e1,e2,e3,e4,e5⟩:=zHj h
 simp only [acAt,e0,e1,e2,e3,e4,e5]
def jQu (xs:List DV):List Ac:=(List.range (xs.length / 6)).map fun k=>acAt xs (k*6)
theorem zVZ (l:List Ac):jQu (acs l)=l:=by
 have e:(acs l).length / 6=l.length:=by rw [zXW]; omega
 unfold jQu
 rw [e]
 refine List.ext_getElem (by simp) fun i h1 h2=>?_
 simp only [List.getElem_map,List.getElem_range]
 exact jW5 h2
structure Fr where
  op:Oq
  acc:List Ac
  back:List Px
def Fr.cells (t:Fr):List DV:=t.op.cells++[.sl t.acc.length (acs t.acc),.sl t.back.length (pxs t.back)]
def frs (l:List Fr):List DV:=l.flatMap Fr.cells
theorem jKe (l k:List Fr):frs l++frs k=frs (l++k):=by simp [frs]
theorem zW9 (l:List Fr):(frs l).length=l.length*14:=by
 induction l with
 | nil=>rfl
 | cons t l ih=>
  show (t.cells++frs l).length=_
  rw [List.length_append,ih]
  simp only [Fr.cells,Oq.cells,List.length_append,List.length_cons,List.length_nil]
  omega
theorem jU1 {l:List Fr} {k:Nat} (h:k < l.length) (j:Nat) (hj:j < 14):(frs l)[k*14+j]?=l[k].cells[j]?:=by
 induction l generalizing k with
 | nil=>simp at h
 | cons o l ih=>
  have e:frs (o::l)=o.cells++frs l:=by simp [frs]
  have ec:o.cells.length=14:=rfl
  rw [e]
  cases k with
  | zero=>simp only [List.getElem_cons_zero]; rw [List.getElem?_append_left (by omega)]; simp
  | succ k=>
   rw [List.getElem?_append_right (by omega)]
   have:=ih (k:=k) (by simpa using h)
   simp only [List.getElem_cons_succ]
   rw [← this]
   congr 1
   omega
theorem jXt {l:List Fr} {k:Nat} (h:k < l.length):(frs l)[k*14+0]?=some (.int .i64 l[k].op.kind)∧(frs l)[k*14+1]?=some (.int .i64 l[k].op.image)∧(frs l)[k*14+2]?=some (.int .i64 l[k].op.x)∧(frs l)[k*14+3]?=some (.int .i64 l[k].op.y)∧(frs l)[k*14+4]?=some (.int .i64 l[k].op.mask)∧(frs l)[k*14+5]?=some (.int .i64 l[k].op.mx)∧(frs l)[k*14+6]?=some (.int .i64 l[k].op.my)∧(frs l)[k*14+7]?=some (.int .u16 l[k].op.opac)∧(frs l)[k*14+8]?=some (.int .i64 l[k].op.oper)∧(frs l)[k*14+9]?=some (.int .i64 l[k].op.mode)∧(frs l)[k*14+10]?=some (.bool l[k].op.iso)∧(frs l)[k*14+11]?=some (.bool l[k].op.kno)∧(frs l)[k*14+12]?=some (.sl l[k].acc.length (acs l[k].acc))∧(frs l)[k*14+13]?=some (.sl l[k].back.length (pxs l[k].back)):=by
 have g:=fun j hj=>jU1 h j hj
 exact ⟨g 0 (by omega),g 1 (by omega),g 2 (by omega),g 3 (by omega),g 4 (by omega),g 5 (by omega),g 6 (by omega),g 7 (by omega),g 8 (by omega),g 9 (by omega),g 10 (by omega),g 11 (by omega),g 12 (by omega),g 13 (by omega)⟩
theorem jXv {l:List Fr} {k:Nat} (h:k < l.length):nAt (frs l) (k*14+0)=l[k].op.kind∧nAt (frs l) (k*14+1)=l[k].op.image∧nAt (frs l) (k*14+2)=l[k].op.x∧nAt (frs l) (k*14+3)=l[k].op.y∧nAt (frs l) (k*14+4)=l[k].op.mask∧nAt (frs l) (k*14+5)=l[k].op.mx∧nAt (frs l) (k*14+6)=l[k].op.my∧nAt (frs l) (k*14+7)=l[k].op.opac∧nAt (frs l) (k*14+8)=l[k].op.oper∧nAt (frs l) (k*14+9)=l[k].op.mode∧bAt (frs l) (k*14+10)=l[k].op.iso∧bAt (frs l) (k*14+11)=l[k].op.kno∧(lAt (frs l) (k*14+12)=l[k].acc.length∧cAt (frs l) (k*14+12)=acs l[k].acc)∧lAt (frs l) (k*14+13)=l[k].back.length∧cAt (frs l) (k*14+13)=pxs l[k].back:=by
 obtain ⟨e0,e1,e2,e3,e4,e5,e6,e7,e8,e9,e10,e11,e12,e13⟩:=jXt h
 simp only [nAt,bAt,lAt,cAt,e0,e1,e2,e3,e4,e5,e6,e7,e8,e9,e10,e11,e12,e13,and_self]
def frAt (xs:List DV) (i:Nat):Fr:=⟨⟨nAt xs (i+0),nAt xs (i+1),nAt xs (i+2),nAt xs (i+3),nAt xs (i+4),nAt xs (i+5),nAt xs (i+6),nAt xs (i+7),nAt xs (i+8),nAt xs (i+9),bAt xs (i+10),bAt xs (i+11)⟩,jQu (cAt xs (i+12)),zQe (cAt xs (i+13))⟩
theorem jWM {l:List Fr} {k:Nat} (h:k < l.length):frAt (frs l) (k*14)=l[k]:=by
 obtain ⟨e0,e1,e2,e3,e4,e5,e6,e7,e8,e9,e10,e11,⟨_,e12⟩,_,e13⟩:=jXv h
 simp only [frAt,e0,e1,e2,e3,e4,e5,e6,e7,e8,e9,e10,e11,e12,e13,zVZ,zZq]
def zKp (xs:List DV):List Fr:=(List.range (xs.length / 14)).map fun k=>frAt xs (k*14)
theorem zU4 (l:List Fr):zKp (frs l)=l:=by
 have e:(frs l).length / 14=l.length:=by rw [zW9]; omega
 unfold zKp
 rw [e]
 refine List.ext_getElem (by simp) fun i h1 h2=>?_
 simp only [List.getElem_map,List.getElem_range]
 exact jWM h2
theorem zWH {cs:List DV}:∀ (ys xs:List DV) (i:Nat),sets (cs++xs) (i+cs.length) ys=cs++sets xs i ys
 | [],xs,i=>rfl
 | y::ys,xs,i=>by
  rw [sets,sets,List.set_append_right _ _ (by omega),show i+cs.length - cs.length=i by omega,show i+cs.length+1=(i+1)+cs.length by omega]
  exact zWH ys _ _
def u16s (l:List Int):List DV:=l.map (.int .u16)
theorem zU3 (l:List Int):(u16s l).length=l.length:=by simp [u16s]
theorem jKx {l:List Int} {k:Nat} (h:k < l.length):(u16s l)[k]?=some (.int .u16 l[k]):=by simp [u16s,h]
theorem jYQ {l:List Int} {k:Nat} (h:k < l.length):nAt (u16s l) k=l[k]:=by simp [nAt,jKx h]
theorem jXU (l k:List Int):u16s l++u16s k=u16s (l++k):=by simp [u16s]
theorem jVo (l:List Int):ints (u16s l)=l:=by
 unfold ints u16s
 rw [List.map_map]
 exact (List.map_congr_left fun x _=>rfl).trans (List.map_id' l)
def pxN (l:List Px) (j:Nat):Px:=(l[j]?).getD .zero
def acN (l:List Ac) (j:Nat):Ac:=(l[j]?).getD .zero
def ksN (mk:List Int) (m:Int) (j:Nat):Int:=if mk.length=0 then m else (mk[j]?).getD 0
def scR (m opac:Int) (l:List Px) (mk:List Int):List Px:=(List.range l.length).map fun j=>(zXx (pxN l j) (ksN mk m j) opac m).1
def stR (kno:Bool) (op mode m:Int) (l:List Px) (acc:List Ac) (back:List Px):List Ac:=(List.range l.length).map fun j=>accS kno op mode m (pxN l j) (acN acc j) (pxN back j)
def rsR (m:Int) (acc:List Ac) (back:List Px):List Px:=(List.range acc.length).map fun j=>zZU (acN acc j) (pxN back j) m
theorem zY7 {l:List Px} {k:Nat} (h:k < l.length):pxN l k=l[k]:=by unfold pxN; rw [List.getElem?_eq_getElem h]; rfl
theorem jQr {l:List Ac} {k:Nat} (h:k < l.length):acN l k=l[k]:=by unfold acN; rw [List.getElem?_eq_getElem h]; rfl
def jKp (l:List Px) (acc:List Ac) (back:List Px) (k:Nat):Prop:=0 < k∧pxN l k=pxN l (k - 1)∧acN acc k=acN acc (k - 1)∧pxN back k=pxN back (k - 1)
theorem zJt (m opac:Int) (l:List Px) (mk:List Int):(scR m opac l mk).length=l.length:=by simp [scR]
theorem jXY (kno:Bool) (op mode m:Int) (l:List Px) (acc:List Ac) (back:List Px):(stR kno op mode m l acc back).length=l.length:=by simp [stR]
theorem zWM (m:Int) (acc:List Ac) (back:List Px):(rsR m acc back).length=acc.length:=by simp [rsR]
theorem jKO {m opac:Int} {l:List Px} {mk:List Int} {k:Nat} (h:k < (scR m opac l mk).length):(scR m opac l mk)[k]=(zXx (pxN l k) (ksN mk m k) opac m).1:=by simp [scR]
theorem jUd {kno:Bool} {op mode m:Int} {l:List Px} {acc:List Ac} {back:List Px} {k:Nat} (h:k < (stR kno op mode m l acc back).length):(stR kno op mode m l acc back)[k]=accS kno op mode m (pxN l k) (acN acc k) (pxN back k):=by simp [stR]
theorem jKR {m:Int} {acc:List Ac} {back:List Px} {k:Nat} (h:k < (rsR m acc back).length):(rsR m acc back)[k]=zZU (acN acc k) (pxN back k) m:=by simp [rsR]
section
attribute [local irreducible] Ans AnsO AnsG AnsN AnsI
def jUW:Gam where
 pure:=fun f xs=>
  if f=229 then gZ48 xs else
  if f=230 then gZ50 xs else
  if f=109 then gZ51 xs else
  none
 modes:=fun f=>
  none
 proc:=fun f xs bs=>
  none
 iter:=fun f cs=>
  none
theorem zHs (l:List Px) (mk:List Int) (opac m:Int) (hl:l.length≤100000) (hm:mk.length=0∨mk.length=l.length) (hok:∀ j,j < l.length→(zXx (pxN l j) (ksN mk m j) opac m).2=true):Ans prog 212 [rD (dS l.length (pxs l)),rD (dS mk.length (u16s mk)),rD (dK opac),rD (dK m)] (rT [rD (dS ((scR m opac l mk).length) (pxs (scR m opac l mk))),rD (dQ true)]):=
 zQa (Γ:=jUW) (let d:=(cD (dS l.length (pxs l))); let a:=(1,aO (cD (dS mk.length (u16s mk)))); let b:=(2,aO (cK opac)); let c:=(3,aO (cK m)); let e:=fun (k:Nat)=>(10,aO (Cl.ref 1010 k)); let f:=(26,aO d); let g:=(27,aJ (l.length:Int)); let h:=fun (k:Nat)=>(28,aJ (k:Int)); let i:=fun (k:Nat)=>(1010,bR 37 5 (pxs ((scR m opac l mk).take k))); (aQ aL (Ann.cut ⟨Unit,fun _u:Unit=>True,fun _u:Unit=>⟨[(0,aO d),a,b,c],[]⟩,fun _u:Unit=>0⟩ aL fun _u=>(aQ aL (aQ (aQ aL (Ann.loop ⟨Nat,fun k=>k≤l.length,fun k=>⟨[a,b,c,(e k),f,g,(h k)],[(i k)]⟩,fun k=>l.length - k⟩ fun k=>(aQ aL (aQ aL (aQ (aQ aL (aQ aL (Ann.cut ⟨Int,fun w:Int=>w=ksN mk m k,fun w:Int=>⟨[a,b,c,(e k),(12,aO (Cl.ptr 12 0)),(13,aO (cK w)),f,g,(h k)],[(i k),(12,bC [cK (nAt (pxs l) ((k:Int).toNat*5)),cK (nAt (pxs l) ((k:Int).toNat*5+1)),cK (nAt (pxs l) ((k:Int).toNat*5+1+1)),cK (nAt (pxs l) ((k:Int).toNat*5+1+1+1)),cK (nAt (pxs l) ((k:Int).toNat*5+1+1+1+1))])]⟩,fun w:Int=>0⟩ aL fun w=>aL))) aL))))) aL))))) zQf Tryz.func212 rfl (nL rfl) fun hwf=>by
  refine Eq.mpr (by kernel_rfl:_=(let g:=(l.length:Int); let d:=(mk.length:Int); let e:=(scR m opac l mk); let z:=[rD (dS 0 ([])),rD (dQ false)]; let u:=[rD (dS e.length (pxs e)),rD (dQ true)]; let h:=(dS l.length (pxs l)=dS l.length (pxs l)); let i:=(dS mk.length (u16s mk)=dS mk.length (u16s mk)); let j:=(dK opac=dK opac); let n:=(dK m=dK m); let A:=((h∧i∧j∧n∧True)∧True); let o:=(dJ g=dJ g); let B:=fun (k:Nat)=>(dJ (k:Int)=dJ (k:Int)); let v:=fun (k:Nat)=>[dK (nAt (pxs l) (k*5)),dK (nAt (pxs l) (k*5+1)),dK (nAt (pxs l) (k*5+1+1)),dK (nAt (pxs l) (k*5+1+1+1)),dK (nAt (pxs l) (k*5+1+1+1+1))]; let C:=fun (k:Nat)=>((pxs (e.take k)=pxs (e.take k))∧((v k)=(v k))∧True); let x:=fun (k:Nat)=>fun (w:Int)=>(let aA:=(zXx (⟨(nAt (pxs l) (k*5)),(nAt (pxs l) (k*5+1)),(nAt (pxs l) (k*5+1+1)),(nAt (pxs l) (k*5+1+1+1)),(nAt (pxs l) (k*5+1+1+1+1))⟩:Px) w opac m); [dK aA.1.a,dK aA.1.b,dK aA.1.c,dK aA.1.al,dK aA.1.f]); let y:=fun (k:Nat)=>(pxs (e.take k)); tU2 ((tU4 (((d != 0)=true→tU6 (((d != g)=true→tU2 (rT z=rT u))∧((d != g)=false→∃ _u:Unit,True∧A)))∧((d != 0)=(!true)→True∧∃ _u:Unit,True∧A)))∧∀ _u:Unit,True→tU4 ((∃ k:Nat,(k≤l.length)∧((i∧j∧n∧(0=k)∧h∧o∧(dJ 0=dJ (k:Int))∧True)∧(([]=pxs (e.take k))∧True)))∧∀ k:Nat,let D:=(decide ((k:Int) < g)); let E:=(nAt (u16s mk) (k*1)); let p:=(nAt (pxs l) (k*5)); let q:=(nAt (pxs l) (k*5+1)); let r:=(nAt (pxs l) (k*5+1+1)); let s:=(nAt (pxs l) (k*5+1+1+1)); let t:=(nAt (pxs l) (k*5+1+1+1+1)); (k≤l.length)→True∧((D=true→True∧(0≤(k:Int)∧(k:Int) < g∧k*5 < (pxs l).length)∧(((pxs l)[k*5]?=some (dK p))∧((pxs l)[k*5+1]?=some (dK q))∧((pxs l)[k*5+1+1]?=some (dK r))∧((pxs l)[k*5+1+1+1]?=some (dK s))∧((pxs l)[k*5+1+1+1+1]?=some (dK t))∧True)∧tU5 ((tU3 (((decide (d > 0))=true→tU2 ((0≤(k:Int)∧(k:Int) < d∧k*1 < (u16s mk).length)∧(((u16s mk)[k*1]?=some (dK E))∧True)∧True∧∃ w:Int,(w=ksN mk m k)∧((i∧j∧n∧(k=k)∧(0=0)∧(dK E=dK w)∧h∧o∧(B k)∧True)∧(C k))))∧((decide (d > 0))=false→∃ w:Int,(w=ksN mk m k)∧((i∧j∧n∧(k=k)∧(0=0)∧(dK m=dK w)∧h∧o∧(B k)∧True)∧(C k)))))∧∀ w:Int,(w=ksN mk m k)→tU4 ((Ans prog 229 [rA (v k),rD (dK w),rD (dK opac),rD (dK m)] (rT [rA (x k w),rD (dQ (zXx (⟨p,q,r,s,t⟩:Px) w opac m).2)]))∧tU8 (((!(zXx (⟨p,q,r,s,t⟩:Px) w opac m).2)=true→tU2 (rT z=rT u))∧((!(zXx (⟨p,q,r,s,t⟩:Px) w opac m).2)=false→tU3 ((zZL 5 10 k 1 (y k) (x k w))∧tU3 (∃ k':Nat,(k'≤l.length)∧(l.length - k' < l.length - k)∧((i∧j∧n∧(k+1=k')∧h∧o∧(dJ (wK ((k:Int)+1))=dJ (k':Int))∧True)∧(((y k)++(x k w)=pxs (e.take k'))∧True)))))))))∧(D=false→tU3 (rT [rD (dS k (y k)),rD (dQ true)]=rT u))))))) ?_
  delta dJ dK dQ wK dS
  simp only [sS,zQx]
  clear hwf
  have hM:∀ n:Nat,n≤100000→n≤maxLen:=fun n h=>by unfold maxLen; omega
  refine ⟨⟨fun h1=>⟨fun h2=>?_,fun _=>⟨(),trivial⟩⟩,fun _=>⟨(),trivial⟩⟩,⟨0,Nat.zero_le _,⟨rfl,rfl⟩,rfl⟩,fun k hk=>⟨fun hlt=>?_,fun hge=>?_⟩⟩
  ·have h1:=bne_iff_ne.1 h1
   have h2:=bne_iff_ne.1 h2
   omega
  ·have h:k < l.length:=by omega
   obtain ⟨e1,e2,e3,e4,e5⟩:=zQU h
   have q:=zJK h
   have hw:wrap .i64 ((k:Int)+1)=((k+1:Nat):Int):=by rw [IntWalk.i64_in _ ⟨by omega,by omega⟩]; omega
   have ok:=hok k h
   have en:=zY7 h
   have hmk:0 < mk.length→k < mk.length:=by omega
   simp only [e1,e2,e3,e4,e5,Nat.mul_one]
   generalize l[k]=P at *
   rw [en] at ok
   refine ⟨⟨by omega,by omega,by omega⟩,q,⟨fun h1=>⟨⟨by omega,by have:=hmk (by omega); omega,by rw [zU3]; exact hmk (by omega)⟩,(by rw [jYQ (hmk (by omega))]; exact jKx (hmk (by omega))),ksN mk m k,rfl,?_⟩,fun h1=>⟨ksN mk m k,rfl,?_⟩⟩,fun w hw2=>?_⟩
   ·rw [jYQ (hmk (by omega))]
    unfold ksN
    rw [if_neg (by omega),List.getElem?_eq_getElem (hmk (by omega))]; rfl
   ·unfold ksN
    rw [if_pos (by omega)]
   ·have hs:k < (scR m opac l mk).length:=by rw [zJt]; exact h
    have ts:=List.take_add_one (l:=scR m opac l mk) (i:=k)
    rw [List.getElem?_eq_getElem hs,jKO hs,en,← hw2] at ts
    have ap:zZL 5 10 k 1 (pxs ((scR m opac l mk).take k)) (Px.ds (zXx P w opac m).1):=⟨by rw [zQx,List.length_take,Nat.min_eq_left (by omega)],rfl,hM _ (by omega),by omega⟩
    rw [← hw2] at ok
    refine ⟨zHt P w opac m,fun h1=>(by rw [ok] at h1; cases h1),fun _=>⟨ap,k+1,by omega,by omega,⟨rfl,hw⟩,?_⟩⟩
    rw [ts,← zYX]; rfl
  ·have:k=l.length:=by omega
   subst this
   rw [List.take_of_length_le (by rw [zJt]; omega)]
   exact ⟨(zJt _ _ _ _).symm,rfl⟩
theorem jQy (kno:Bool) (op mode m:Int) (l:List Px) (acc:List Ac) (back:List Px) (hl:l.length≤100000) (ha:acc.length=l.length) (hb:back.length=l.length) (ho:isNm op=true) (hmo:isNm mode=true) (hok:∀ j,j < l.length→zZN kno op mode m (pxN l j) (acN acc j) (pxN back j)=true):Ans prog 214 [rD (dQ kno),rJ (op),rJ (mode),rD (dK m),rD (dS l.length (pxs l)),rD (dS acc.length (acs acc)),rD (dS back.length (pxs back))] (rT [rD (dS ((stR kno op mode m l acc back).length) (acs (stR kno op mode m l acc back))),rD (dQ true)]):=
 zQa (Γ:=jUW) (let a:=(0,aO (cD (dQ kno))); let b:=(1,aJ op); let d:=(2,aJ mode); let e:=(3,aO (cK m)); let f:=(4,aO (cD (dS l.length (pxs l)))); let g:=(5,aO (cD (dS acc.length (acs acc)))); let h:=(6,aO (cD (dS back.length (pxs back)))); let i:=fun (k:Nat)=>(16,aO (Cl.ref 1016 k)); let j:=(33,aJ (l.length:Int)); let n:=fun (k:Nat)=>(34,aJ (k:Int)); let o:=fun (k:Nat)=>[(1016,bR 199 6 (acs ((stR kno op mode m l acc back).take k)))]; (aQ aL (Ann.cut ⟨Unit,fun _u:Unit=>True,fun _u:Unit=>⟨[a,b,d,e,f,g,h],[]⟩,fun _u:Unit=>0⟩ aL fun _u=>(aQ aL (aQ (aQ aL (Ann.loop ⟨Nat,fun k=>k≤l.length,fun k=>⟨[a,b,d,e,f,g,h,(i k),j,(n k)],(o k)⟩,fun k=>l.length - k⟩ fun k=>(aQ aL (aQ aL (aQ (aQ aL (aQ (Ann.cut ⟨Bool,fun c:Bool=>(c=true→jKp l acc back k),fun c:Bool=>⟨[a,b,d,e,f,g,h,(i k),(17,aJ (k:Int)),j,(n k),(74,aO (cD (dQ c)))],(o k)⟩,fun c:Bool=>0⟩ aL fun c=>aL) aL)) aL))))) aL))))) zQf Tryz.func214 rfl (nL rfl) fun hwf=>by
  refine Eq.mpr (by kernel_rfl:_=(let J:=(acc.length:Int); let K:=(back.length:Int); let j:=(dQ kno=dQ kno); let g:=(l.length:Int); let i:=(stR kno op mode m l acc back); let x0:=[rD (dS 0 ([])),rD (dQ false)]; let z1:=[rD (dS i.length (acs i)),rD (dQ true)]; let Y:=(rT x0=rT z1); let n:=(dJ op=dJ op); let o:=(dJ mode=dJ mode); let p:=(dK m=dK m); let q:=(dS l.length (pxs l)=dS l.length (pxs l)); let r:=(dS acc.length (acs acc)=dS acc.length (acs acc)); let s:=(dS back.length (pxs back)=dS back.length (pxs back)); let L:=(dJ g=dJ g); let z2:=fun (k:Nat)=>(0≤(k:Int)∧(k:Int) < g∧k*5 < (pxs l).length); let z3:=fun (k:Nat)=>(((pxs l)[k*5]?=some (dK (nAt (pxs l) (k*5))))∧((pxs l)[k*5+1]?=some (dK (nAt (pxs l) (k*5+1))))∧((pxs l)[k*5+1+1]?=some (dK (nAt (pxs l) (k*5+1+1))))∧((pxs l)[k*5+1+1+1]?=some (dK (nAt (pxs l) (k*5+1+1+1))))∧((pxs l)[k*5+1+1+1+1]?=some (dK (nAt (pxs l) (k*5+1+1+1+1))))∧True); let z4:=fun (k:Nat)=>(0≤(k:Int)∧(k:Int) < J∧k*6 < (acs acc).length); let z5:=fun (k:Nat)=>(((acs acc)[k*6]?=some (dK (nAt (acs acc) (k*6))))∧((acs acc)[k*6+1]?=some (dK (nAt (acs acc) (k*6+1))))∧((acs acc)[k*6+1+1]?=some (dK (nAt (acs acc) (k*6+1+1))))∧((acs acc)[k*6+1+1+1]?=some (dK (nAt (acs acc) (k*6+1+1+1))))∧((acs acc)[k*6+1+1+1+1]?=some (dK (nAt (acs acc) (k*6+1+1+1+1))))∧((acs acc)[k*6+1+1+1+1+1]?=some (dK (nAt (acs acc) (k*6+1+1+1+1+1))))∧True); let z6:=fun (k:Nat)=>(0≤(k:Int)∧(k:Int) < K∧k*5 < (pxs back).length); let z7:=fun (k:Nat)=>(((pxs back)[k*5]?=some (dK (nAt (pxs back) (k*5))))∧((pxs back)[k*5+1]?=some (dK (nAt (pxs back) (k*5+1))))∧((pxs back)[k*5+1+1]?=some (dK (nAt (pxs back) (k*5+1+1))))∧((pxs back)[k*5+1+1+1]?=some (dK (nAt (pxs back) (k*5+1+1+1))))∧((pxs back)[k*5+1+1+1+1]?=some (dK (nAt (pxs back) (k*5+1+1+1+1))))∧True); let M:=fun (k:Nat)=>(dJ (k:Int)=dJ (k:Int)); let z8:=fun (k:Nat)=>((acs (i.take k)=acs (i.take k))∧True); let Z:=fun (k:Nat)=>fun (c:Bool)=>((j∧n∧o∧p∧q∧r∧s∧(k=k)∧(M k)∧L∧(M k)∧(dQ false=dQ c)∧True)∧(z8 k)); let z9:=fun (k:Nat)=>fun (k':Nat)=>(l.length - k' < l.length - k); let y0:=fun (k:Nat)=>fun (k':Nat)=>(j∧n∧o∧p∧q∧r∧s∧(k+1=k')∧L∧(dJ (wK ((k:Int)+1))=dJ (k':Int))∧True); let z0:=fun (k:Nat)=>(let aA:=(zX0 kno op mode m (⟨(nAt (pxs l) (k*5)),(nAt (pxs l) (k*5+1)),(nAt (pxs l) (k*5+1+1)),(nAt (pxs l) (k*5+1+1+1)),(nAt (pxs l) (k*5+1+1+1+1))⟩:Px) (⟨(nAt (acs acc) (k*6)),(nAt (acs acc) (k*6+1)),(nAt (acs acc) (k*6+1+1)),(nAt (acs acc) (k*6+1+1+1)),(nAt (acs acc) (k*6+1+1+1+1)),(nAt (acs acc) (k*6+1+1+1+1+1))⟩:Ac) (⟨(nAt (pxs back) (k*5)),(nAt (pxs back) (k*5+1)),(nAt (pxs back) (k*5+1+1)),(nAt (pxs back) (k*5+1+1+1)),(nAt (pxs back) (k*5+1+1+1+1))⟩:Px)); [dK aA.a,dK aA.b,dK aA.c,dK aA.al,dK aA.own,dK aA.f]); tU2 ((tU6 (((g != J)=false→tU6 (((g != K)=true→tU2 Y)∧((g != K)=false→∃ _u:Unit,True∧((j∧n∧o∧p∧q∧r∧s∧True)∧True))))∧((g != J)=(!false)→tU3 Y)))∧∀ _u:Unit,True→tU4 ((∃ k:Nat,(k≤l.length)∧((j∧n∧o∧p∧q∧r∧s∧(0=k)∧L∧(dJ 0=dJ (k:Int))∧True)∧(([]=acs (i.take k))∧True)))∧∀ k:Nat,let y1:=(decide ((k:Int) < g)); let h:=((k:Int) - 1); let t:=(nAt (acs acc) (k*6)); let u:=(nAt (acs acc) (k*6+1)); let y2:=(k*5); let v:=(nAt (pxs l) y2); let w:=(nAt (pxs back) y2); let x:=(nAt (acs acc) (k*6+1+1)); let y:=(nAt (acs acc) (k*6+1+1+1)); let y3:=(k*5+1); let z:=(nAt (pxs l) y3); let A:=(nAt (pxs back) y3); let B:=(nAt (acs acc) (k*6+1+1+1+1)); let C:=(nAt (acs acc) (k*6+1+1+1+1+1)); let y4:=(k*5+1+1); let D:=(nAt (pxs l) y4); let E:=(nAt (pxs back) y4); let y5:=(k*5+1+1+1); let F:=(nAt (pxs l) y5); let G:=(nAt (pxs back) y5); let y6:=(k*5+1+1+1+1); let H:=(nAt (pxs l) y6); let I:=(nAt (pxs back) y6); let e:=(acs (i.take k)); let d:=(wK h); let N:=(d.toNat*5); let O:=(d.toNat*6); let P:=(d.toNat*5+1); let Q:=(d.toNat*6+1); let R:=(d.toNat*5+1+1); let S:=(d.toNat*6+1+1); let T:=(d.toNat*5+1+1+1); let U:=(d.toNat*6+1+1+1); let V:=(d.toNat*5+1+1+1+1); let W:=(d.toNat*6+1+1+1+1); let X:=(d.toNat*6+1+1+1+1+1); let y7:=([dK (nAt e O),dK (nAt e Q),dK (nAt e S),dK (nAt e U),dK (nAt e W),dK (nAt e X)]); let y8:=(((v==(nAt (pxs l) N)) && ((z==(nAt (pxs l) P)) && ((D==(nAt (pxs l) R)) && true))) && ((F==(nAt (pxs l) T)) && ((H==(nAt (pxs l) V)) && true))); let y9:=(((t==(nAt (acs acc) O)) && ((u==(nAt (acs acc) Q)) && ((x==(nAt (acs acc) S)) && true))) && ((y==(nAt (acs acc) U)) && ((B==(nAt (acs acc) W)) && ((C==(nAt (acs acc) X)) && true)))); (k≤l.length)→True∧((y1=true→tU2 ((tU3 (((decide ((k:Int) > 0))=true→tU2 ((z2 k)∧(z3 k)∧tU3 ((0≤wK h∧wK h < g∧d.toNat*5 < (pxs l).length)∧(((pxs l)[d.toNat*5]?=some (dK (nAt (pxs l) N)))∧((pxs l)[d.toNat*5+1]?=some (dK (nAt (pxs l) P)))∧((pxs l)[d.toNat*5+1+1]?=some (dK (nAt (pxs l) R)))∧((pxs l)[d.toNat*5+1+1+1]?=some (dK (nAt (pxs l) T)))∧((pxs l)[d.toNat*5+1+1+1+1]?=some (dK (nAt (pxs l) V)))∧True)∧tU3 ((y8=true→tU2 ((z4 k)∧(z5 k)∧tU3 ((0≤wK h∧wK h < J∧d.toNat*6 < (acs acc).length)∧(((acs acc)[d.toNat*6]?=some (dK (nAt (acs acc) O)))∧((acs acc)[d.toNat*6+1]?=some (dK (nAt (acs acc) Q)))∧((acs acc)[d.toNat*6+1+1]?=some (dK (nAt (acs acc) S)))∧((acs acc)[d.toNat*6+1+1+1]?=some (dK (nAt (acs acc) U)))∧((acs acc)[d.toNat*6+1+1+1+1]?=some (dK (nAt (acs acc) W)))∧((acs acc)[d.toNat*6+1+1+1+1+1]?=some (dK (nAt (acs acc) X)))∧True)∧tU3 ((y9=true→tU2 ((z6 k)∧(z7 k)∧tU3 ((0≤wK h∧wK h < K∧d.toNat*5 < (pxs back).length)∧(((pxs back)[d.toNat*5]?=some (dK (nAt (pxs back) N)))∧((pxs back)[d.toNat*5+1]?=some (dK (nAt (pxs back) P)))∧((pxs back)[d.toNat*5+1+1]?=some (dK (nAt (pxs back) R)))∧((pxs back)[d.toNat*5+1+1+1]?=some (dK (nAt (pxs back) T)))∧((pxs back)[d.toNat*5+1+1+1+1]?=some (dK (nAt (pxs back) V)))∧True)∧tU2 ((true=true)∧∃ c:Bool,(c=true→jKp l acc back k)∧((j∧n∧o∧p∧q∧r∧s∧(k=k)∧(M k)∧L∧(M k)∧(dQ (((w==(nAt (pxs back) N)) && ((A==(nAt (pxs back) P)) && ((E==(nAt (pxs back) R)) && true))) && ((G==(nAt (pxs back) T)) && ((I==(nAt (pxs back) V)) && true)))=dQ c)∧True)∧(z8 k))))))∧(y9=(!true)→True∧(true=true)∧∃ c:Bool,(c=true→jKp l acc back k)∧(Z k c))))))∧(y8=(!true)→tU3 ((true=true)∧∃ c:Bool,(c=true→jKp l acc back k)∧(Z k c)))))))∧((decide ((k:Int) > 0))=(!true)→tU5 ((true=true)∧∃ c:Bool,(c=true→jKp l acc back k)∧(Z k c)))))∧∀ c:Bool,(c=true→jKp l acc back k)→((c=true→tU4 ((0≤wK h∧wK h < (k:Int))∧((e[d.toNat*6]?=some (dK (nAt e O)))∧(e[d.toNat*6+1]?=some (dK (nAt e Q)))∧(e[d.toNat*6+1+1]?=some (dK (nAt e S)))∧(e[d.toNat*6+1+1+1]?=some (dK (nAt e U)))∧(e[d.toNat*6+1+1+1+1]?=some (dK (nAt e W)))∧(e[d.toNat*6+1+1+1+1+1]?=some (dK (nAt e X)))∧True)∧True∧(zZL 6 12 k 1 e y7)∧tU3 (∃ k':Nat,(k'≤l.length)∧(z9 k k')∧((y0 k k')∧((e++y7=acs (i.take k'))∧True)))))∧(c=false→tU6 ((z2 k)∧(z3 k)∧tU2 ((z4 k)∧(z5 k)∧tU2 ((z6 k)∧(z7 k)∧(Ans prog 230 [rD (dQ kno),rJ op,rJ mode,rD (dK m),rA [dK v,dK z,dK D,dK F,dK H],rA [dK t,dK u,dK x,dK y,dK B,dK C],rA [dK w,dK A,dK E,dK G,dK I]] (rT [rA (z0 k),rD (dQ (zZN kno op mode m (⟨v,z,D,F,H⟩:Px) (⟨t,u,x,y,B,C⟩:Ac) (⟨w,A,E,G,I⟩:Px)))]))∧tU6 ((true=true)∧tU2 (((!(zZN kno op mode m (⟨v,z,D,F,H⟩:Px) (⟨t,u,x,y,B,C⟩:Ac) (⟨w,A,E,G,I⟩:Px)))=true→tU2 Y)∧((!(zZN kno op mode m (⟨v,z,D,F,H⟩:Px) (⟨t,u,x,y,B,C⟩:Ac) (⟨w,A,E,G,I⟩:Px)))=false→tU3 ((zZL 6 12 k 1 e (z0 k))∧tU3 (∃ k':Nat,(k'≤l.length)∧(z9 k k')∧((y0 k k')∧((e++(z0 k)=acs (i.take k'))∧True))))))))))))))∧(y1=false→tU3 (rT [rD (dS k e),rD (dQ true)]=rT z1))))))) ?_
  delta dJ dK dQ wK dS rJ
  simp only [sS]
  clear hwf
  have hM:∀ n:Nat,n≤100000→n≤maxLen:=fun n h=>by unfold maxLen; omega
  have pxe:∀ p q:Px,((p.a==q.a && (p.b==q.b && (p.c==q.c && true))) && (p.al==q.al && (p.f==q.f && true)))=true→p=q:=fun p q h=>by
   simp only [Bool.and_eq_true,beq_iff_eq,and_true] at h
   obtain ⟨a,b,c,d,e⟩:=p
   obtain ⟨a',b',c',d',e'⟩:=q
   simp only at h
   obtain ⟨⟨h1,h2,h3⟩,h4,h5⟩:=h
   rw [h1,h2,h3,h4,h5]
  have ace:∀ p q:Ac,((p.a==q.a && (p.b==q.b && (p.c==q.c && true))) && (p.al==q.al && (p.own==q.own && (p.f==q.f && true))))=true→p=q:=fun p q h=>by
   simp only [Bool.and_eq_true,beq_iff_eq,and_true] at h
   obtain ⟨a,b,c,d,e,g⟩:=p
   obtain ⟨a',b',c',d',e',g'⟩:=q
   simp only at h
   obtain ⟨⟨h1,h2,h3⟩,h4,h5,h6⟩:=h
   rw [h1,h2,h3,h4,h5,h6]
  have ebad:∀ h:¬ (acc.length=l.length∧back.length=l.length),(0=(stR kno op mode m l acc back).length∧[]=acs (stR kno op mode m l acc back))∧false=true:=fun h=>absurd ⟨ha,hb⟩ h
  refine ⟨⟨fun h1=>⟨fun h2=>ebad (by have:=bne_iff_ne.1 h2; omega),fun _=>⟨(),trivial⟩⟩,fun h1=>ebad (by have:=bne_iff_ne.1 h1; omega)⟩,⟨0,Nat.zero_le _,⟨rfl,rfl⟩,rfl⟩,fun k hk=>⟨fun hlt=>?_,fun hge=>?_⟩⟩
  ·have h:k < l.length:=by omega
   have h':k < acc.length:=by omega
   have h'':k < back.length:=by omega
   have w1:wrap .i64 ((k:Int)+1)=((k+1:Nat):Int):=by rw [IntWalk.i64_in _ ⟨by omega,by omega⟩]; omega
   have hs:k < (stR kno op mode m l acc back).length:=by rw [jXY]; exact h
   have ts:=List.take_add_one (l:=stR kno op mode m l acc back) (i:=k)
   rw [List.getElem?_eq_getElem hs,jUd hs] at ts
   have tl:((stR kno op mode m l acc back).take k).length=k:=by rw [List.length_take,Nat.min_eq_left (by omega)]
   have ok:=hok k h
   have ap:∀ x:Ac,zZL 6 12 k 1 (acs ((stR kno op mode m l acc back).take k)) (Ac.ds x):=fun x=>⟨by rw [zXW,tl],rfl,hM _ (by omega),by omega⟩
   have nx:∀ x:Ac,x=accS kno op mode m (pxN l k) (acN acc k) (pxN back k)→∃ k',k'≤l.length∧l.length - k' < l.length - k∧(k+1=k'∧wrap .i64 ((k:Int)+1)=(k':Int))∧acs ((stR kno op mode m l acc back).take k)++Ac.ds x=acs ((stR kno op mode m l acc back).take k'):=fun x hx=>⟨k+1,by omega,by omega,⟨rfl,w1⟩,by rw [ts,← hx,← jKo]; rfl⟩
   clear ts
   refine ⟨⟨fun h0=>?_,fun h0=>⟨false,fun q=>(by cases q),rfl⟩⟩,fun c hc=>⟨fun hc1=>?_,fun hc1=>?_⟩⟩
   ·obtain ⟨j,rfl⟩:∃ j,k=j+1:=⟨k - 1,by omega⟩
    have wj:wrap .i64 (((j+1:Nat):Int) - 1)=(j:Int):=by rw [IntWalk.i64_in _ ⟨by omega,by omega⟩]; omega
    have g:j < l.length:=by omega
    have g':j < acc.length:=by omega
    have g'':j < back.length:=by omega
    obtain ⟨e1,e2,e3,e4,e5⟩:=zQU h
    obtain ⟨f1,f2,f3,f4,f5⟩:=zQU g
    obtain ⟨a1,a2,a3,a4,a5,a6⟩:=zHj h'
    obtain ⟨b1,b2,b3,b4,b5,b6⟩:=zHj g'
    obtain ⟨c1,c2,c3,c4,c5⟩:=zQU h''
    obtain ⟨d1,d2,d3,d4,d5⟩:=zQU g''
    simp only [Nat.add_zero] at a1 b1
    simp only [wj,Int.toNat_natCast,e1,e2,e3,e4,e5,f1,f2,f3,f4,f5,a1,a2,a3,a4,a5,a6,b1,b2,b3,b4,b5,b6,c1,c2,c3,c4,c5,d1,d2,d3,d4,d5]
    have R1:=zJK h
    have R2:=zJK g
    have R3:=zHi h'
    have R4:=zHi g'
    have R5:=zJK h''
    have R6:=zJK g''
    simp only [Nat.add_zero] at R3 R4
    have n1:=zY7 h
    have n2:=zY7 g
    have n3:=jQr h'
    have n4:=jQr g'
    have n5:=zY7 h''
    have n6:=zY7 g''
    refine ⟨⟨by omega,by omega,by rw [zQx]; omega⟩,R1,⟨by omega,by omega,by rw [zQx]; omega⟩,R2,fun q1=>⟨⟨by omega,by omega,by rw [zXW]; omega⟩,R3,⟨by omega,by omega,by rw [zXW]; omega⟩,R4,fun q2=>⟨⟨by omega,by omega,by rw [zQx]; omega⟩,R5,⟨by omega,by omega,by rw [zQx]; omega⟩,R6,_,fun q3=>?_,rfl⟩,fun _=>⟨false,fun q=>(by cases q),rfl⟩⟩,fun _=>⟨false,fun q=>(by cases q),rfl⟩⟩
    have z1:=pxe _ _ q1
    have z2:=ace _ _ q2
    have z3:=pxe _ _ q3
    exact ⟨by omega,by rw [n1,Nat.add_sub_cancel,n2,z1],by rw [n3,Nat.add_sub_cancel,n4,z2],by rw [n5,Nat.add_sub_cancel,n6,z3]⟩
   ·obtain ⟨k0,s1,s2,s3⟩:=hc hc1
    obtain ⟨j,rfl⟩:∃ j,k=j+1:=⟨k - 1,by omega⟩
    have wj:wrap .i64 (((j+1:Nat):Int) - 1)=(j:Int):=by rw [IntWalk.i64_in _ ⟨by omega,by omega⟩]; omega
    rw [Nat.add_sub_cancel] at s1 s2 s3
    have hj:j < ((stR kno op mode m l acc back).take (j+1)).length:=by rw [tl]; omega
    obtain ⟨a1,a2,a3,a4,a5,a6⟩:=zHj hj
    have R:=zHi hj
    have ev:((stR kno op mode m l acc back).take (j+1))[j]=accS kno op mode m (pxN l (j+1)) (acN acc (j+1)) (pxN back (j+1)):=by rw [List.getElem_take,jUd,s1,s2,s3]
    simp only [Nat.add_zero] at a1 R
    simp only [wj,Int.toNat_natCast,a1,a2,a3,a4,a5,a6]
    exact ⟨⟨by omega,by omega⟩,R,ap _,nx _ ev⟩
   ·obtain ⟨e1,e2,e3,e4,e5⟩:=zQU h
    obtain ⟨a1,a2,a3,a4,a5,a6⟩:=zHj h'
    obtain ⟨c1,c2,c3,c4,c5⟩:=zQU h''
    simp only [Nat.add_zero] at a1
    simp only [e1,e2,e3,e4,e5,a1,a2,a3,a4,a5,a6,c1,c2,c3,c4,c5]
    have R1:=zJK h
    have R3:=zHi h'
    have R5:=zJK h''
    simp only [Nat.add_zero] at R3
    have n1:=zY7 h
    have n3:=jQr h'
    have n5:=zY7 h''
    have se:zX0 kno op mode m l[k] acc[k] back[k]=accS kno op mode m (pxN l k) (acN acc k) (pxN back k):=by
     rw [n1,n3,n5] at ok ⊢
     unfold zX0
     rw [if_pos ok]
    have S:=zHA kno op mode m l[k] acc[k] back[k] ho hmo
    rw [n1,n3,n5] at ok
    refine ⟨⟨by omega,by omega,by rw [zQx]; omega⟩,R1,⟨by omega,by omega,by rw [zXW]; omega⟩,R3,⟨by omega,by omega,by rw [zQx]; omega⟩,R5,S,fun q=>(by rw [ok] at q; cases q),fun _=>⟨ap _,nx _ se⟩⟩
  ·have:k=l.length:=by omega
   subst this
   rw [List.take_of_length_le (by rw [jXY]; omega)]
   exact ⟨(jXY _ _ _ _ _ _ _).symm,rfl⟩
theorem zKA (acc:List Ac) (back:List Px) (m:Int) (hl:acc.length≤100000) (hb:back.length=acc.length) (hok:∀ j,j < acc.length→(acN acc j).ok (pxN back j) m=true):Ans prog 158 [rD (dS acc.length (acs acc)),rD (dS back.length (pxs back)),rD (dK m)] (rT [rD (dS ((rsR m acc back).length) (pxs (rsR m acc back))),rD (dQ true)]):=
 zQa (Γ:=jUW) (let a:=(0,aO (cD (dS acc.length (acs acc)))); let b:=(1,aO (cD (dS back.length (pxs back)))); let c:=(2,aO (cK m)); (aQ aL (Ann.cut ⟨Unit,fun _u:Unit=>True,fun _u:Unit=>⟨[a,b,c],[]⟩,fun _u:Unit=>0⟩ aL fun _u=>(aQ aL (aQ (aQ aL (Ann.loop ⟨Nat,fun k=>k≤acc.length,fun k=>⟨[a,b,c,(8,aO (Cl.ref 1008 k)),(18,aJ (acc.length:Int)),(19,aJ (k:Int))],[(1008,bR 37 5 (pxs ((rsR m acc back).take k)))]⟩,fun k=>acc.length - k⟩ fun k=>aL)) aL))))) zQf Tryz.func158 rfl (nL rfl) fun hwf=>by
  refine Eq.mpr (by kernel_rfl:_=(let t:=(back.length:Int); let e:=(rsR m acc back); let d:=(acc.length:Int); let A:=[rD (dS 0 ([])),rD (dQ false)]; let u:=[rD (dS e.length (pxs e)),rD (dQ true)]; let v:=(dS acc.length (acs acc)=dS acc.length (acs acc)); let w:=(dS back.length (pxs back)=dS back.length (pxs back)); let x:=(dK m=dK m); let B:=(dJ d=dJ d); let y:=fun (k:Nat)=>(let aA:=(resE (⟨(nAt (acs acc) (k*6)),(nAt (acs acc) (k*6+1)),(nAt (acs acc) (k*6+1+1)),(nAt (acs acc) (k*6+1+1+1)),(nAt (acs acc) (k*6+1+1+1+1)),(nAt (acs acc) (k*6+1+1+1+1+1))⟩:Ac) (⟨(nAt (pxs back) (k*5)),(nAt (pxs back) (k*5+1)),(nAt (pxs back) (k*5+1+1)),(nAt (pxs back) (k*5+1+1+1)),(nAt (pxs back) (k*5+1+1+1+1))⟩:Px) m); [dK aA.a,dK aA.b,dK aA.c,dK aA.al,dK aA.f]); let z:=fun (k:Nat)=>(pxs (e.take k)); tU2 ((tU5 (((d != t)=true→tU2 (rT A=rT u))∧((d != t)=false→∃ _u:Unit,True∧((v∧w∧x∧True)∧True))))∧∀ _u:Unit,True→tU4 ((∃ k:Nat,(k≤acc.length)∧((v∧w∧x∧(0=k)∧B∧(dJ 0=dJ (k:Int))∧True)∧(([]=pxs (e.take k))∧True)))∧∀ k:Nat,let C:=(decide ((k:Int) < d)); let g:=(nAt (acs acc) (k*6)); let h:=(nAt (pxs back) (k*5)); let i:=(nAt (acs acc) (k*6+1)); let j:=(nAt (pxs back) (k*5+1)); let l:=(nAt (acs acc) (k*6+1+1)); let n:=(nAt (pxs back) (k*5+1+1)); let o:=(nAt (acs acc) (k*6+1+1+1)); let p:=(nAt (pxs back) (k*5+1+1+1)); let q:=(nAt (acs acc) (k*6+1+1+1+1)); let r:=(nAt (pxs back) (k*5+1+1+1+1)); let s:=(nAt (acs acc) (k*6+1+1+1+1+1)); (k≤acc.length)→True∧((C=true→tU4 ((0≤(k:Int)∧(k:Int) < d∧k*6 < (acs acc).length)∧(((acs acc)[k*6]?=some (dK g))∧((acs acc)[k*6+1]?=some (dK i))∧((acs acc)[k*6+1+1]?=some (dK l))∧((acs acc)[k*6+1+1+1]?=some (dK o))∧((acs acc)[k*6+1+1+1+1]?=some (dK q))∧((acs acc)[k*6+1+1+1+1+1]?=some (dK s))∧True)∧tU2 ((0≤(k:Int)∧(k:Int) < t∧k*5 < (pxs back).length)∧(((pxs back)[k*5]?=some (dK h))∧((pxs back)[k*5+1]?=some (dK j))∧((pxs back)[k*5+1+1]?=some (dK n))∧((pxs back)[k*5+1+1+1]?=some (dK p))∧((pxs back)[k*5+1+1+1+1]?=some (dK r))∧True)∧True∧(Ans prog 109 [rA [dK g,dK i,dK l,dK o,dK q,dK s],rA [dK h,dK j,dK n,dK p,dK r],rD (dK m)] (rT [rA (y k),rD (dQ (Ac.ok (⟨g,i,l,o,q,s⟩:Ac) (⟨h,j,n,p,r⟩:Px) m))]))∧tU6 ((true=true)∧tU2 (((!(Ac.ok (⟨g,i,l,o,q,s⟩:Ac) (⟨h,j,n,p,r⟩:Px) m))=true→tU2 (rT A=rT u))∧((!(Ac.ok (⟨g,i,l,o,q,s⟩:Ac) (⟨h,j,n,p,r⟩:Px) m))=false→tU3 ((zZL 5 10 k 1 (z k) (y k))∧tU3 (∃ k':Nat,(k'≤acc.length)∧(acc.length - k' < acc.length - k)∧((v∧w∧x∧(k+1=k')∧B∧(dJ (wK ((k:Int)+1))=dJ (k':Int))∧True)∧(((z k)++(y k)=pxs (e.take k'))∧True))))))))))∧(C=false→tU3 (rT [rD (dS k (z k)),rD (dQ true)]=rT u))))))) ?_
  delta dJ dK dQ wK dS
  simp only [sS]
  clear hwf
  have hM:∀ n:Nat,n≤100000→n≤maxLen:=fun n h=>by unfold maxLen; omega
  refine ⟨⟨fun h1=>absurd hb (by have:=bne_iff_ne.1 h1; omega),fun _=>⟨(),trivial⟩⟩,⟨0,Nat.zero_le _,⟨rfl,rfl⟩,rfl⟩,fun k hk=>⟨fun hlt=>?_,fun hge=>?_⟩⟩
  ·have h':k < acc.length:=by omega
   have h'':k < back.length:=by omega
   have w1:wrap .i64 ((k:Int)+1)=((k+1:Nat):Int):=by rw [IntWalk.i64_in _ ⟨by omega,by omega⟩]; omega
   have hs:k < (rsR m acc back).length:=by rw [zWM]; exact h'
   have ts:=List.take_add_one (l:=rsR m acc back) (i:=k)
   rw [List.getElem?_eq_getElem hs,jKR hs] at ts
   have tl:((rsR m acc back).take k).length=k:=by rw [List.length_take,Nat.min_eq_left (by omega)]
   have ok:=hok k h'
   have ap:∀ x:Px,zZL 5 10 k 1 (pxs ((rsR m acc back).take k)) (Px.ds x):=fun x=>⟨by rw [zQx,tl],rfl,hM _ (by omega),by omega⟩
   have nx:∀ x:Px,x=zZU (acN acc k) (pxN back k) m→∃ k',k'≤acc.length∧acc.length - k' < acc.length - k∧(k+1=k'∧wrap .i64 ((k:Int)+1)=(k':Int))∧pxs ((rsR m acc back).take k)++Px.ds x=pxs ((rsR m acc back).take k'):=fun x hx=>⟨k+1,by omega,by omega,⟨rfl,w1⟩,by rw [ts,← hx,← zYX]; rfl⟩
   clear ts
   obtain ⟨a1,a2,a3,a4,a5,a6⟩:=zHj h'
   obtain ⟨c1,c2,c3,c4,c5⟩:=zQU h''
   simp only [Nat.add_zero] at a1
   simp only [a1,a2,a3,a4,a5,a6,c1,c2,c3,c4,c5]
   have R3:=zHi h'
   have R5:=zJK h''
   simp only [Nat.add_zero] at R3
   have n3:=jQr h'
   have n5:=zY7 h''
   rw [n3,n5] at ok nx
   have se:resE acc[k] back[k] m=zZU acc[k] back[k] m:=by unfold resE; rw [if_pos ok]
   exact ⟨⟨by omega,by omega,by rw [zXW]; omega⟩,R3,⟨by omega,by omega,by rw [zQx]; omega⟩,R5,zUL acc[k] back[k] m,fun q=>(by rw [ok] at q; cases q),fun _=>⟨ap _,nx _ se⟩⟩
  ·have:k=acc.length:=by omega
   subst this
   rw [List.take_of_length_le (by rw [zWM]; omega)]
   exact ⟨(zWM _ _ _).symm,rfl⟩
end
def StV (bits:Int) (mn:Nat) (st:List Oq):Prop:=∀ (p:List Oq) (q:Oq) (r:List Oq),st=p++q::r→q.kind=2∧errO bits mn q p=0
theorem StV.nil {bits:Int} {mn:Nat}:StV bits mn []:=fun p q r h=>by simp at h
theorem StV.push {bits:Int} {mn:Nat} {st:List Oq} (h:StV bits mn st) {o:Oq} (hk:o.kind=2) (he:errO bits mn o st=0):StV bits mn (st++[o]):=fun p q r e=>by
 rcases List.eq_nil_or_concat r with rfl | ⟨r',z,rfl⟩
 ·have ⟨e1,e2⟩:=List.append_inj' e rfl
  simp only [List.cons.injEq,and_true] at e2
  subst e1 e2
  exact ⟨hk,he⟩
 ·have e:st++[o]=(p++q::r')++[z]:=by rw [e]; simp
  exact h p q r' (List.append_inj' e rfl).1
theorem StV.pop {bits:Int} {mn:Nat} {st:List Oq} (h:StV bits mn st):StV bits mn st.dropLast:=fun p q r e=>by
 rcases List.eq_nil_or_concat st with rfl | ⟨s',z,rfl⟩
 ·simp at e
 ·rw [List.concat_eq_append,List.dropLast_concat] at e
  exact h p q (r++[z]) (by rw [List.concat_eq_append,e]; simp)
theorem jZy {m:Int} {ms:List Im} {x y:Int} {L:List Lv} {o:Oq} (hk:o.kind=3):zJr m ms x y L o=zJr m ms x y L popO:=by
 have k3:popO.kind=3:=rfl
 unfold zJr
 rw [if_neg (by omega),if_neg (by omega),if_pos hk,if_neg (by omega),if_neg (by omega),if_pos k3]
theorem jKF {m:Int} {bits:Int} {ms:List Im} {st:List Oq} {L:List Lv} {o:Oq} (hi:zKg m ms) (hb:zQP bits=m) (hv:StV bits ms.length st) (h:StOk m st L) (h0:0≤o.opac) (he:errO bits ms.length o st=0) (x y:Int) :
  StV bits ms.length (zXr o st)∧StOk m (zXr o st) (zJr m ms x y L o):=by
 obtain ⟨P,t,rfl⟩:=h.split
 rcases zJa he with hk | hk | ⟨hk,hne⟩
 ·rw [zV2 hk]
  obtain ⟨a,e,h1⟩:=zG6 hi hb h hk h0 he x y
  rw [e]
  exact ⟨hv,h1⟩
 ·rw [zV1 hk]
  obtain ⟨e,h1⟩:=zV8 hb h hk h0 he x y (ms:=ms)
  rw [e]
  exact ⟨hv.push hk he,h1⟩
 ·rcases List.eq_nil_or_concat st with rfl | ⟨st',q,rfl⟩
  ·exact absurd rfl hne
  ·have hk:o.kind=3:=by rw [hk]; rfl
   rw [List.concat_eq_append] at hv h hne ⊢
   have e:zXr o (st'++[q])=st':=by unfold zXr; rw [if_neg (by omega),if_pos hk,List.dropLast_concat]
   obtain ⟨q1,q2⟩:=hv st' q [] rfl
   obtain ⟨_,_,_,_,f2,f3,f4,_⟩:=zZm (.inr q1) q2
   obtain ⟨P',u,rfl⟩:=h.pre.2.split
   obtain ⟨e3,a,e4,s3⟩:=jZW hi h f2 f3 f4 x y
   rw [e,jZy hk,e3,e4]
   have:=hv.pop
   rw [List.dropLast_concat] at this
   exact ⟨this,s3⟩
theorem jKP {m:Int} {bits:Int} {ms:List Im} (hi:zKg m ms) (hb:zQP bits=m) (x y:Int):∀ (l st st':List Oq) (L:List Lv),okO bits ms.length l st=some st'→(∀ o∈l,0≤o.opac)→StV bits ms.length st→StOk m st L→StV bits ms.length st'∧StOk m st' (runM m ms x y l L)
 | [],st,st',L,h,_,hv,hs=>by
  simp only [okO,Option.some.injEq] at h
  subst h
  exact ⟨hv,hs⟩
 | o::l,st,st',L,h,ho,hv,hs=>by
  simp only [okO] at h
  split at h
  ·rename_i he
   obtain ⟨h1,h2⟩:=jKF hi hb hv hs (ho o (by simp)) he x y
   rw [zZP]
   exact jKP hi hb x y l _ st' _ h (fun q hq=>ho q (by simp [hq])) h1 h2
  ·cases h
def jZu (ms:List Im):Prop:=∀ i∈ms,(0≤i.w∧i.w≤16777216)∧0≤i.h∧i.h≤16777216
theorem zKI {v:Int} (h:zXd v=true) : -1048576≤v∧v≤1048576:=of_decide_eq_true h
theorem at_out {m:Im} {x y:Int} (h:¬ (0≤x∧x < m.w∧0≤y∧y < m.h)):m.at_ x y=.zero:=by
 unfold Im.at_
 rw [if_neg]
 simp
 omega
theorem zH2 {s:Scr} (hd:jZu s.ims) {i dx dy x y:Int} (hi:0≤i∧i < s.ims.length) (n1:zXd dx=true) (n2:zXd dy=true) (hc:s.c.has x y=true) (h:(zZv s i dx dy).has x y=false):zWm s.ims i x y dx dy=.zero:=by
 have hk:i.toNat < s.ims.length:=by omega
 have a1:=zKI n1
 have a2:=zKI n2
 obtain ⟨⟨w0,w1⟩,h0,h1⟩:=hd s.ims[i.toNat] (List.getElem_mem hk)
 rw [zH3 dx dy hi.1 hk,if_neg (by simp [farB]; omega),Rc.inter_has,hc,Bool.and_true] at h
 unfold zWm
 rw [if_pos hi.1,List.getElem?_eq_getElem hk]
 simp only
 unfold jVd
 split
 ·rfl
 ·rename_i hn
  apply at_out
  intro q
  have e:Rc.empty ⟨dx,dy,dx+s.ims[i.toNat].w,dy+s.ims[i.toNat].h⟩=false:=by
   rw [Rc.empty_iff]
   simp only
   omega
  have:Rc.has ⟨dx,dy,dx+s.ims[i.toNat].w,dy+s.ims[i.toNat].h⟩ x y=true:=by
   rw [Rc.has_iff]
   refine ⟨e,?_⟩
   simp only
   omega
  rw [this] at h
  cases h
theorem jUv {s:Scr} (hd:jZu s.ims) {bits:Int} {o:Oq} {st:List Oq} (hk:o.kind=1) (he:errO bits s.ims.length o st=0) {x y:Int} (hc:s.c.has x y=true) (h:(imgR s o).has x y=false):srcS s.ims o x y=.zero:=by
 obtain ⟨f1,_,⟨n1,n2,_⟩,_⟩:=zZm (.inl hk) he
 unfold imgR at h
 rw [if_pos hk] at h
 unfold srcS
 rw [if_pos hk]
 exact zH2 hd (f1 hk) n1 n2 hc h
theorem jWz {s:Scr} (hd:jZu s.ims) {bits:Int} {o:Oq} {st:List Oq} (hk:o.kind=1∨o.kind=2) (he:errO bits s.ims.length o st=0) {x y:Int} (hc:s.c.has x y=true) (h:(zJ6 s o).has x y=false):o.mask≠0∧zKK s.ims o x y=0:=by
 obtain ⟨_,f2,⟨_,_,n1,n2⟩,_⟩:=zZm hk he
 unfold zJ6 at h
 by_cases h0:o.mask=0
 ·rw [if_pos h0,Rc.inter_has,hc] at h
  cases h
 ·refine ⟨h0,?_⟩
  rw [if_neg h0,if_neg (by omega)] at h
  unfold zKK
  split
  ·rw [zH2 hd (by omega) n1 n2 hc h]; rfl
  ·rfl
theorem zHK {s:Scr} (hd:jZu s.ims) {m bits:Int} (hi:zKg m s.ims) {o:Oq} {st:List Oq} (hk:o.kind=1∨o.kind=2) (he:errO bits s.ims.length o st=0) (hb:zQP bits=m) (h0:0≤o.opac) {x y:Int} (hc:s.c.has x y=true) {src:Rc} (h:(boxF s o src).has x y=false) {p:Px} (hp:p.ok m=true) (hn:p.nn) (hs:zZw o.oper=true→src.has x y=false→p=.zero) :
  zZw o.oper=true∧(zXg m o p (zKK s.ims o x y)).1=.zero:=by
 have hm:=(zZG hi.full).1
 obtain ⟨_,_,_,f1,_⟩:=zZm hk he
 have ⟨m1,m2⟩:=zW0 hi o x y
 obtain ⟨e,_⟩:=zKB (o:=o) hi.full hp hn m1 m2 h0 (by omega)
 rw [e]
 unfold boxF at h
 cases hq:zZw o.oper with
 | false=>rw [if_pos hq,hc] at h; cases h
 | true=>
  refine ⟨rfl,?_⟩
  rw [if_neg (by rw [hq]; simp)] at h
  split at h
  ·rename_i hz
   rw [hz]; exact zV4 hm
  ·rw [Rc.inter_has] at h
   cases h1:src.has x y with
   | false=>
    have:=hs hq h1
    subst this
    simp only [zHL hm]
   | true=>
    rw [h1,Bool.true_and] at h
    have ⟨a,b⟩:=jWz hd hk he hc h
    rw [if_neg a,b,zV4 hm]
    exact zHL hm
theorem jJB {s:Scr} (hd:jZu s.ims) {m bits:Int} (hi:zKg m s.ims) (hb:zQP bits=m) {st:List Oq} {P:List Lv} {t:Lv} (h:StOk m st (P++[t])) {o:Oq} (hk:o.kind=1) (h0:0≤o.opac) (he:errO bits s.ims.length o st=0) {x y:Int} (hc:s.c.has x y=true) (ho:(boxF s o (imgR s o)).has x y=false) :
  zJr m s.ims x y (P++[t]) o=P++[t]:=by
 have ⟨p1,p2⟩:=jZz hi o x y
 have ⟨n,e⟩:=zHK hd hi (.inl hk) he hb h0 hc ho p1 p2 (fun _ h=>jUv hd hk he hc h)
 unfold zJr jWT
 rw [if_pos hk]
 split
 ·rw [e]; exact zH5 h n
 ·rfl
theorem jXk {x y:Int}:∀ (l:List Rc) (a:Rc),(a.has x y=true∨∃ r∈l,r.has x y=true)→(l.foldl Rc.hull a).has x y=true
 | [],a,h=>by
  rcases h with h | ⟨r,hr,_⟩
  ·exact h
  ·simp at hr
 | b::l,a,h=>by
  refine jXk l (a.hull b) ?_
  rcases h with h | ⟨r,hr,h⟩
  ·exact .inl (Rc.hull_has (.inl h))
  ·rcases List.mem_cons.1 hr with rfl | hr
   ·exact .inl (Rc.hull_has (.inr h))
   ·exact .inr ⟨r,hr,h⟩
theorem jWG {x y:Int} {l:List Rc} (h:(zQX l).has x y=false):∀ r∈l,r.has x y=false:=fun r hr=>by
 cases e:r.has x y with
 | false=>rfl
 | true=>
  have:(zQX l).has x y=true:=jXk l _ (.inr ⟨r,hr,e⟩)
  rw [this] at h; cases h
theorem zGe {s:Scr} (hd:jZu s.ims) {m bits:Int} (hi:zKg m s.ims) (hb:zQP bits=m) {x y:Int} (hc:s.c.has x y=true):∀ (f:Fo) (st:List Oq) (P:List Lv) (t:Lv),f.vf bits s.ims.length st→(∀ o∈f.flat,0≤o.opac)→StOk m st (P++[t]) →
  (∀ r∈zQQ s f,r.has x y=false)→runM m s.ims x y f.flat (P++[t])=P++[t]
 | .nil,st,P,t,_,_,h,_=>rfl
 | .draw o r,st,P,t,hv,ho,h,hx=>by
  rw [Fo.flat,zZP,jJB hd hi hb h hv.1 (ho o (by simp [Fo.flat])) hv.2.1 hc (hx _ (by simp [zQQ]))]
  exact zGe hd hi hb hc r st P t hv.2.2 (fun q hq=>ho q (by simp [Fo.flat,hq])) h (fun q hq=>hx q (by simp [zQQ,hq]))
 | .grp o k r,st,P,t,hv,ho,h,hx=>by
  obtain ⟨h1,h2,h3,h4⟩:=hv
  obtain ⟨e1,s1⟩:=zV8 hb h h1 (ho o (by simp [Fo.flat])) h2 x y (ms:=s.ims)
  obtain ⟨_,_,_,_,f2,f3,f4,_⟩:=zZm (.inr h1) h2
  have hok:∀ q∈k.flat,0≤q.opac:=fun q hq=>ho q (by simp [Fo.flat,hq])
  have hbx:=hx (boxF s o (zQX (zQQ s k))) (by simp [zQQ])
  obtain ⟨b,e2,s2⟩:=zK0 hi hb x y k (st++[o]) (P++[t]) _ h3 hok s1
  have hu:=s2.lv ⟨o,b,(zQB o.iso t.op.kno t.acc t.back).2⟩ (by simp)
  have ⟨r1,r2⟩:=zGm hu
  have ⟨n,e⟩:=zHK hd hi (.inr h1) h2 hb (ho o (by simp [Fo.flat])) hc hbx r1 r2 (fun _ hh=>by
   have e3:=zGe hd hi hb hc k (st++[o]) (P++[t]) _ h3 hok s1 (jWG hh)
   rw [e2] at e3
   have e4:=List.append_cancel_left e3
   simp only [List.cons.injEq,Lv.mk.injEq,and_true,true_and] at e4
   simp only [e4]
   exact jZN)
  obtain ⟨e3,_⟩:=jZW hi s2 f2 f3 f4 x y
  rw [Fo.flat,zZP,e1,zYO,e2,zZP,e3]
  simp only at e ⊢
  rw [e,zH5 h n]
  exact zGe hd hi hb hc r st P t h4 (fun q hq=>ho q (by simp [Fo.flat,hq])) h (fun q hq=>hx q (by simp [zQQ,hq]))
def hit (r b:Rc):Bool:=!(b.inter r).empty
def Fo.act (s:Scr) (r:Rc):Fo→Fo
 | .nil=>.nil
 | .draw o k=>if hit r (boxF s o (imgR s o)) then .draw o (k.act s r) else k.act s r
 | .grp o g k=>if hit r (boxF s o (zQX (zQQ s g))) then .grp o (g.act s r) (k.act s r) else k.act s r
theorem jVt {r b:Rc} {x y:Int} (h:hit r b=false) (hr:r.has x y=true):b.has x y=false:=by
 cases e:b.has x y with
 | false=>rfl
 | true=>
  have:(b.inter r).has x y=true:=by rw [Rc.inter_has,e,hr]; rfl
  rw [Rc.has_iff] at this
  unfold hit at h
  rw [this.1] at h
  cases h
theorem jQp {bits:Int} {mn:Nat} (s:Scr) (r:Rc):∀ (f:Fo) (st:List Oq),f.vf bits mn st→(f.act s r).vf bits mn st
 | .nil,st,h=>trivial
 | .draw o k,st,h=>by
  unfold Fo.act
  split
  ·exact ⟨h.1,h.2.1,jQp s r k st h.2.2⟩
  ·exact jQp s r k st h.2.2
 | .grp o g k,st,h=>by
  unfold Fo.act
  split
  ·exact ⟨h.1,h.2.1,jQp s r g _ h.2.2.1,jQp s r k st h.2.2.2⟩
  ·exact jQp s r k st h.2.2.2
theorem zWL {s:Scr} (hd:jZu s.ims) {m bits:Int} (hi:zKg m s.ims) (hb:zQP bits=m) {r:Rc} {x y:Int} (hc:s.c.has x y=true) (hr:r.has x y=true):∀ (f:Fo) (st:List Oq) (P:List Lv) (t:Lv),f.vf bits s.ims.length st→(∀ o∈f.flat,0≤o.opac)→StOk m st (P++[t]) →
  runM m s.ims x y (f.act s r).flat (P++[t])=runM m s.ims x y f.flat (P++[t])
 | .nil,st,P,t,_,_,h=>rfl
 | .draw o k,st,P,t,hv,ho,h=>by
  have hok:∀ q∈k.flat,0≤q.opac:=fun q hq=>ho q (by simp [Fo.flat,hq])
  unfold Fo.act
  split
  ·obtain ⟨a,e,h1⟩:=zG6 hi hb h hv.1 (ho o (by simp [Fo.flat])) hv.2.1 x y
   rw [Fo.flat,Fo.flat,zZP,zZP,e]
   exact zWL hd hi hb hc hr k st P _ hv.2.2 hok h1
  ·rename_i hn
   rw [Fo.flat,zZP,jJB hd hi hb h hv.1 (ho o (by simp [Fo.flat])) hv.2.1 hc (jVt (by simpa using hn) hr)]
   exact zWL hd hi hb hc hr k st P t hv.2.2 hok h
 | .grp o g k,st,P,t,hv,ho,h=>by
  have hok:∀ q∈k.flat,0≤q.opac:=fun q hq=>ho q (by simp [Fo.flat,hq])
  have hog:∀ q∈g.flat,0≤q.opac:=fun q hq=>ho q (by simp [Fo.flat,hq])
  obtain ⟨h1,h2,h3,h4⟩:=hv
  unfold Fo.act
  split
  ·obtain ⟨e1,s1⟩:=zV8 hb h h1 (ho o (by simp [Fo.flat])) h2 x y (ms:=s.ims)
   obtain ⟨_,_,_,_,f2,f3,f4,_⟩:=zZm (.inr h1) h2
   have eg:=zWL hd hi hb hc hr g (st++[o]) (P++[t]) _ h3 hog s1
   obtain ⟨b,e2,s2⟩:=zK0 hi hb x y g (st++[o]) (P++[t]) _ h3 hog s1
   obtain ⟨e3,a,e4,s3⟩:=jZW hi s2 f2 f3 f4 x y
   rw [Fo.flat,Fo.flat,zZP,zZP,e1,zYO,zYO,eg,e2,zZP,zZP,e3,e4]
   exact zWL hd hi hb hc hr k st P _ h4 hok s3
  ·rename_i hn
   have e:=zGe hd hi hb hc (.grp o g .nil) st P t ⟨h1,h2,h3,trivial⟩ (fun q hq=>by
    simp only [Fo.flat,List.mem_cons,List.mem_append,List.not_mem_nil,or_false] at hq
    rcases hq with hq | hq | hq
    ·exact ho q (by simp [Fo.flat,hq])
    ·exact hog q hq
    ·rw [hq]; decide) h (fun q hq=>by
    simp only [zQQ,List.mem_singleton] at hq
    rw [hq]; exact jVt (by simpa using hn) hr)
   rw [show (Fo.grp o g k).flat=(Fo.grp o g .nil).flat++k.flat by simp [Fo.flat],zYO,e]
   exact zWL hd hi hb hc hr k st P t h4 hok h
def rng {α:Type} (n:Nat) (f:Nat→α):List α:=(List.range n).map f
theorem zZ7 {α:Type} (n:Nat) (f:Nat→α):(rng n f).length=n:=by simp [rng]
theorem jY0 {α:Type} {n:Nat} {f:Nat→α} {j:Nat} (h:j < (rng n f).length):(rng n f)[j]=f j:=by simp [rng]
theorem zXK {α:Type} {n:Nat} {f g:Nat→α} (h:∀ j,j < n→f j=g j):rng n f=rng n g:=List.map_congr_left fun j hj=>h j (by simpa using hj)
theorem zKF {n:Nat} {f:Nat→Px} {j:Nat} (h:j < n):pxN (rng n f) j=f j:=by rw [zY7 (by rw [zZ7]; exact h),jY0]
theorem zVS {n:Nat} {f:Nat→Ac} {j:Nat} (h:j < n):acN (rng n f) j=f j:=by rw [jQr (by rw [zZ7]; exact h),jY0]
def lvN (L:List Lv) (t:Nat):Lv:=(L[t]?).getD zXe
def colA (n:Nat) (L:Nat→List Lv) (t:Nat):Fr:=⟨(lvN (L 0) t).op,rng n fun j=>(lvN (L j) t).acc,rng n fun j=>(lvN (L j) t).back⟩
def colF (n:Nat) (L:Nat→List Lv):List Fr:=rng (L 0).length (colA n L)
def zUv (n:Nat):Fr:=⟨zXe.op,List.replicate n .zero,List.replicate n .zero⟩
def topF (F:List Fr):Fr:=(F[F.length - 1]?).getD (zUv 0)
def zX5 (m:Int) (F:List Fr) (o:Oq) (src:List Px) (mk:List Int):List Fr:=
 F.set (F.length - 1) ⟨(topF F).op,stR (topF F).op.kno o.oper o.mode m (scR m o.opac src mk) (topF F).acc (topF F).back,(topF F).back⟩
def zKr (F:List Fr) (o:Oq):List Fr:=
 F++[⟨o,rng (topF F).acc.length fun j=>(zQB o.iso (topF F).op.kno (acN (topF F).acc j) (pxN (topF F).back j)).1,rng (topF F).acc.length fun j=>(zQB o.iso (topF F).op.kno (acN (topF F).acc j) (pxN (topF F).back j)).2⟩]
theorem zYc (F:List Fr) (t:Fr):topF (F++[t])=t:=by simp [topF]
theorem jUg {P:List Lv} {t:Lv} {i:Nat} (h:i < P.length):lvN (P++[t]) i=lvN P i:=by
 unfold lvN; rw [List.getElem?_append_left h]
theorem jJl (P:List Lv) (t:Lv):lvN (P++[t]) P.length=t:=by simp [lvN]
theorem zYp (n:Nat) (L:Nat→List Lv):(colF n L).length=(L 0).length:=zZ7 _ _
theorem jKj {n:Nat} {L L':Nat→List Lv} {t:Nat} (h0:lvN (L 0) t=lvN (L' 0) t) (h:∀ j,j < n→lvN (L j) t=lvN (L' j) t):colA n L t=colA n L' t:=by
 unfold colA
 rw [h0,zXK (fun j hj=>by rw [h j hj]),zXK (g:=fun j=>(lvN (L' j) t).back) (fun j hj=>by rw [h j hj])]
theorem zXw {n k:Nat} {P:Nat→List Lv} {t:Nat→Lv} (hk:∀ j,(P j).length=k) :
  colF n (fun j=>P j++[t j])=colF n P++[⟨(t 0).op,rng n fun j=>(t j).acc,rng n fun j=>(t j).back⟩]:=by
 have g:∀ (Q:Nat→List Lv) (u:Nat),u < (Q 0).length→(colF n Q)[u]?=some (colA n Q u):=fun Q u h=>by
  unfold colF
  rw [List.getElem?_eq_getElem (by rw [zZ7]; exact h),jY0]
 have e0:∀ j,lvN (P j++[t j]) k=t j:=fun j=>by have:=jJl (P j) (t j); rwa [hk j] at this
 refine List.ext_getElem? fun i=>?_
 by_cases e:i < k
 ·rw [g _ i (by simp [hk]; omega),List.getElem?_append_left (by rw [zYp,hk]; exact e),g _ i (by rw [hk]; exact e)]
  exact congrArg some (jKj (jUg (by rw [hk]; exact e)) fun j _=>jUg (by rw [hk]; exact e))
 ·by_cases e2:i=k
  ·subst e2
   rw [g _ i (by simp [hk]),List.getElem?_append_right (by rw [zYp,hk]; omega),zYp,hk,Nat.sub_self]
   simp only [colA,e0,List.getElem?_cons_zero]
  ·rw [List.getElem?_eq_none (by rw [zYp]; simp [hk]; omega),List.getElem?_eq_none (by simp [zYp,hk]; omega)]
theorem jVP (n:Nat):colF n (fun _=>[zXe])=[zUv n]:=by
 have:=zXw (n:=n) (k:=0) (P:=fun _=>[]) (t:=fun _=>zXe) (fun _=>rfl)
 have e:∀ {α:Type} (a:α),rng n (fun _=>a)=List.replicate n a:=fun a=>by unfold rng; rw [List.map_const',List.length_range]
 rw [e,e] at this
 exact this
theorem zV3 {m:Int} {st:List Oq} {L:Nat→List Lv} (h:∀ j,StOk m st (L j)):∃ (P:Nat→List Lv) (t:Nat→Lv),(∀ j,L j=P j++[t j])∧(∀ j,(P j).length=st.length)∧∀ j,(t j).op=(t 0).op:=by
 have hs:=fun j=>(h j).split
 refine ⟨fun j=>(L j).dropLast,fun j=>lvN (L j) st.length,fun j=>?_,fun j=>?_,fun j=>?_⟩
 ·obtain ⟨P,t,e⟩:=hs j
  have hl:=(h j).len
  rw [e] at hl
  have hp:P.length=st.length:=by simpa using hl
  show L j=(L j).dropLast++[lvN (L j) st.length]
  rw [e,List.dropLast_concat,← hp,jJl]
 ·have hl:=(h j).len
  rw [List.length_dropLast]; omega
 ·have g:∀ j,((L j)[st.length]?).map Lv.op=(zXe.op::st)[st.length]?:=fun j=>by rw [← (h j).ops,List.getElem?_map]
  have k:∀ j,st.length < (L j).length:=fun j=>by have:=(h j).len; omega
  have q:∀ j,lvN (L j) st.length=(L j)[st.length]'(k j):=fun j=>by unfold lvN; rw [List.getElem?_eq_getElem (k j)]; rfl
  have a:=g j
  have b:=g 0
  rw [List.getElem?_eq_getElem (k _)] at a b
  show (lvN (L j) st.length).op=(lvN (L 0) st.length).op
  rw [q,q]
  rw [← b] at a
  simpa using a
theorem jV9 {α:Type} (A:List α) (x y:α):(A++[x]).set ((A++[x]).length - 1) y=A++[y]:=by simp
theorem jVO {m:Int} {n:Nat} {P:Nat→List Lv} {t:Nat→Lv} {k:Nat} (hk:∀ j,(P j).length=k) (hop:∀ j,(t j).op=(t 0).op) {o:Oq} {src:List Px} {mk:List Int} {q:Nat→Px} (hl:src.length=n)
  (hq:∀ j,j < n→(zXx (pxN src j) (ksN mk m j) o.opac m).1=q j) (hb:∀ j,zUk m (P j++[t j]) o (q j)=true) :
  colF n (fun j=>zKl m (P j++[t j]) o (q j))=zX5 m (colF n fun j=>P j++[t j]) o src mk:=by
 have e:∀ j,zKl m (P j++[t j]) o (q j)=P j++[⟨(t j).op,accS (t j).op.kno o.oper o.mode m (q j) (t j).acc (t j).back,(t j).back⟩]:=fun j=>by
  unfold zKl
  rw [if_pos (hb j),zZY,zWJ]
 simp only [e]
 rw [zXw hk,zXw hk]
 unfold zX5
 rw [jV9,zYc]
 congr 1
 congr 1
 congr 1
 unfold stR
 rw [zJt,hl]
 refine List.map_congr_left fun j hj=>?_
 have hj:j < n:=by simpa using hj
 have e2:pxN (scR m o.opac src mk) j=q j:=by
  rw [zY7 (by rw [zJt,hl]; exact hj),jKO,hq j hj]
 rw [e2,zVS hj,zKF hj,hop j]
theorem jWW {n:Nat} {P:Nat→List Lv} {t:Nat→Lv} {k:Nat} (hk:∀ j,(P j).length=k) (hop:∀ j,(t j).op=(t 0).op) {o:Oq} (h2:o.kind=2) (h65:k < 64) :
  colF n (fun j=>jJX (P j++[t j]) o)=zKr (colF n fun j=>P j++[t j]) o:=by
 have e:∀ j,jJX (P j++[t j]) o=(P j++[t j])++[⟨o,(zQB o.iso (t j).op.kno (t j).acc (t j).back).1,(zQB o.iso (t j).op.kno (t j).acc (t j).back).2⟩]:=fun j=>by
  unfold jJX
  rw [if_pos ⟨h2,by simp [hk]; omega⟩,zZY]
 simp only [e]
 rw [zXw (k:=k+1) (fun j=>by simp [hk]),zXw hk]
 unfold zKr
 rw [zYc]
 simp only [zZ7]
 congr 1
 congr 1
 have a:rng n (fun j=>(zQB o.iso (t j).op.kno (t j).acc (t j).back).1)=rng n fun j=>(zQB o.iso (t 0).op.kno (acN (rng n fun j=>(t j).acc) j) (pxN (rng n fun j=>(t j).back) j)).1:=zXK fun j hj=>by rw [zVS hj,zKF hj,hop j]
 have b:rng n (fun j=>(zQB o.iso (t j).op.kno (t j).acc (t j).back).2)=rng n fun j=>(zQB o.iso (t 0).op.kno (acN (rng n fun j=>(t j).acc) j) (pxN (rng n fun j=>(t j).back) j)).2:=zXK fun j hj=>by rw [zVS hj,zKF hj,hop j]
 rw [a,b]
def jQ8 (ms:List Im) (i x y:Int):Px:=if 0≤i then match ms[i.toNat]? with
 | some m=>m.at_ x y
 | none=>.zero
 else .zero
def pixR (ms:List Im) (i x y:Int) (n:Nat):List Px:=rng n fun j=>jQ8 ms i (x+j) y
def maR (ms:List Im) (o:Oq) (x y:Int) (n:Nat):List Int:=if o.mask=0 then [] else (pixR ms (o.mask - 1) (x - o.mx) (y - o.my) n).map Px.al
theorem jVc {ms:List Im} {i x y dx dy:Int} (hx:x - dx < 1099511627776) (hy:y - dy < 1099511627776):zWm ms i x y dx dy=jQ8 ms i (x - dx) (y - dy):=by
 unfold zWm jQ8
 split
 ·cases ms[i.toNat]? with
  | none=>rfl
  | some q=>
   show jVd q x y dx dy=q.at_ (x - dx) (y - dy)
   unfold jVd
   split
   ·rw [at_out (by omega)]
   ·rfl
 ·rfl
theorem zJZ (ms:List Im) (i x y:Int) (n:Nat):(pixR ms i x y n).length=n:=zZ7 _ _
theorem jV8 {ms:List Im} {o:Oq} {x y:Int} {n j:Nat} (hk:o.kind=1) (hj:j < n) (hx:x+j - o.x < 1099511627776) (hy:y - o.y < 1099511627776):pxN (pixR ms o.image (x - o.x) (y - o.y) n) j=srcS ms o (x+j) y:=by
 unfold pixR
 rw [zKF hj,srcS,if_pos hk,jVc hx hy]
 congr 1; omega
theorem jWA {ms:List Im} {o:Oq} {x y m:Int} {n j:Nat} (h0:0≤o.mask) (hj:j < n) (hx:x+j - o.mx < 1099511627776) (hy:y - o.my < 1099511627776):ksN (maR ms o x y n) m j=if o.mask=0 then m else zKK ms o (x+j) y:=by
 unfold ksN maR
 by_cases h:o.mask=0
 ·rw [if_pos h,if_pos h]; rfl
 ·rw [if_neg h,if_neg h,if_neg (by rw [List.length_map,zJZ]; omega),List.getElem?_map,List.getElem?_eq_getElem (by rw [zJZ]; exact hj)]
  unfold zKK
  rw [if_pos (by omega),jVc hx hy]
  simp only [Option.map_some,Option.getD_some,pixR,jY0]
  congr 2; omega
theorem jUM (ms:List Im) (o:Oq) (x y:Int) (n:Nat):(maR ms o x y n).length=0∨(maR ms o x y n).length=n:=by
 unfold maR
 split
 ·exact .inl rfl
 ·exact .inr (by rw [List.length_map,zJZ])
def Cl.thaw (bx:Nat→Bx):Cl→Option DV
 | .d v=>some v
 | .nil=>some (.sl 0 [])
 | .ref b n=>match zXj (bx b) with
  | some xs=>some (.sl n xs)
  | none=>none
 | _=>none
def jKA (bx:Nat→Bx):List Cl→Option (List DV)
 | []=>some []
 | c::cs=>match c.thaw bx,jKA bx cs with
  | some d,some ds=>some (d::ds)
  | _,_=>none
mutual
def AV.thaw (bx:Nat→Bx):AV→Option RV
 | .one c=>match c.thaw bx with
  | some d=>some (.d d)
  | none=>none
 | .agg cs=>match jKA bx cs with
  | some ds=>some (.agg ds)
  | none=>none
 | .tup vs=>match AV.thawL bx vs with
  | some rs=>some (.tup rs)
  | none=>none
def AV.thawL (bx:Nat→Bx):List AV→Option (List RV)
 | []=>some []
 | x::xs=>match x.thaw bx,AV.thawL bx xs with
  | some r,some rs=>some (r::rs)
  | _,_=>none
end
section
variable {w:World} {V V':Nat→Prop} {ι:zQm} {bx:Nat→Bx}
theorem jKB (hk:∀ g,V g→V' g) (hb:∀ b,zXG w V ι bx b (bx b)) (ho:∀ b g c,(bx b).live=true→ι b=some (g,c)→V' g) {c:Cl} {d:DV} {v:Value} (h:c.thaw bx=some d) (hr:zQs w V ι bx c v):RepD w V' d v:=by
 have hkk:zZA w V w V':=fun g off u hV hu=>⟨hk g hV,hu⟩
 cases c with
 | d x=>
  simp only [Cl.thaw,Option.some.injEq] at h
  subst h
  exact RepD.keep hkk hr
 | nil=>
  simp only [Cl.thaw,Option.some.injEq] at h
  subst h
  simp only [zQs] at hr
  simp only [RepD]
  exact ⟨none,0,hr,Nat.le_refl _,Nat.zero_le _,fun hne=>absurd rfl hne⟩
 | ref b n=>
  simp only [Cl.thaw] at h
  split at h
  ·rename_i xs hin
   simp only [Option.some.injEq] at h
   subst h
   simp only [zQs] at hr
   have hbb:=hb b
   cases hB:bx b with
   | row e size ys=>
    rw [hB] at hin hbb
    simp only [zXj,Option.some.injEq] at hin
    subst hin
    obtain ⟨_,⟨h1,h2,h3⟩ | ⟨g,cap,h1,h2,h3⟩⟩:=hr
    ·rcases hbb with ⟨h4,h5⟩ | ⟨g,cap,cur,h4,_⟩
     ·subst h5 h2
      simp only [RepD]
      exact ⟨none,0,h3,Nat.le_refl _,Nat.zero_le _,fun hne=>absurd rfl hne⟩
     ·rw [h1] at h4; cases h4
    ·rcases hbb with ⟨h4,h5⟩ | ⟨g',cap',cur,h4,h5,h6,h7,h8⟩
     ·rw [h1] at h4; cases h4
     ·rw [h1] at h4
      injection h4 with h4
      injection h4 with h4 h4'
      subst h4 h4'
      simp only [RepD]
      exact ⟨_,cap,h2,h3,h6,fun hne=>⟨g,0,rfl,ho b g cap (by rw [hB]; rfl) h1,RepCells.of_row h5 (h8.keep hkk)⟩⟩
   | ice ys=>
    rw [hB] at hin hbb
    simp only [zXj,Option.some.injEq] at hin
    subst hin
    obtain ⟨_,⟨h1,h2,h3⟩ | ⟨g,cap,h1,h2,h3⟩⟩:=hr
    ·rcases hbb with ⟨h4,h5⟩ | ⟨g,cap,h4,_⟩
     ·subst h5 h2
      simp only [RepD]
      exact ⟨none,0,h3,Nat.le_refl _,Nat.zero_le _,fun hne=>absurd rfl hne⟩
     ·rw [h1] at h4; cases h4
    ·rcases hbb with ⟨h4,h5⟩ | ⟨g',cap',h4,h5,h6⟩
     ·rw [h1] at h4; cases h4
     ·rw [h1] at h4
      injection h4 with h4
      injection h4 with h4 h4'
      subst h4 h4'
      simp only [RepD]
      refine ⟨_,cap,h2,h3,h6,fun hne=>⟨g,0,rfl,?_⟩⟩
      have h9:=Lies.keep hkk h5
      exact h9 hne
   | fresh=>rw [hB] at hin; cases hin
   | gone=>rw [hB] at hin; cases hin
   | cells cs=>rw [hB] at hin; cases hin
  ·cases h
 | sub b o n=>cases h
 | lit u=>cases h
 | ptr b off=>cases h
 | vp cs off=>cases h
 | clo f cs=>cases h
 | dead=>cases h
theorem jYS (hk:∀ g,V g→V' g) (hb:∀ b,zXG w V ι bx b (bx b)) (ho:∀ b g c,(bx b).live=true→ι b=some (g,c)→V' g):∀ {cs:List Cl} {ds:List DV} {vs:List Value},jKA bx cs=some ds→zQR w V ι bx cs vs→zZi w V' ds vs
 | [],ds,vs,h,hr=>by
  simp only [jKA,Option.some.injEq] at h
  subst h
  cases vs with
  | nil=>trivial
  | cons _ _=>exact hr.elim
 | c::cs,ds,vs,h,hr=>by
  simp only [jKA] at h
  split at h
  ·rename_i d ds' h1 h2
   simp only [Option.some.injEq] at h
   subst h
   cases vs with
   | nil=>exact hr.elim
   | cons v vs=>exact ⟨jKB hk hb ho h1 hr.1,jYS hk hb ho h2 hr.2⟩
  ·cases h
mutual
theorem jKC (hk:∀ g,V g→V' g) (hb:∀ b,zXG w V ι bx b (bx b)) (ho:∀ b g c,(bx b).live=true→ι b=some (g,c)→V' g):∀ {x:AV} {r:RV} {v:Value},x.thaw bx=some r→zQi w V ι bx x v→RepR w V' r v
 | .one c,r,v,h,hr=>by
  simp only [AV.thaw] at h
  split at h
  ·rename_i d h1
   simp only [Option.some.injEq] at h
   subst h
   simp only [zQi] at hr
   simp only [RepR]
   exact jKB hk hb ho h1 hr
  ·cases h
 | .agg cs,r,v,h,hr=>by
  simp only [AV.thaw] at h
  split at h
  ·rename_i d h1
   simp only [Option.some.injEq] at h
   subst h
   simp only [zQi] at hr
   obtain ⟨cur,e,hr⟩:=hr
   simp only [RepR]
   exact ⟨cur,e,jYS hk hb ho h1 hr⟩
  ·cases h
 | .tup vs,r,v,h,hr=>by
  simp only [AV.thaw] at h
  split at h
  ·rename_i d h1
   simp only [Option.some.injEq] at h
   subst h
   simp only [zQi] at hr
   obtain ⟨cur,e,hr⟩:=hr
   simp only [RepR]
   exact ⟨cur,e,thaw_avs hk hb ho h1 hr⟩
  ·cases h
theorem thaw_avs (hk:∀ g,V g→V' g) (hb:∀ b,zXG w V ι bx b (bx b)) (ho:∀ b g c,(bx b).live=true→ι b=some (g,c)→V' g):∀ {xs:List AV} {rs:List RV} {vs:List Value},AV.thawL bx xs=some rs→RepAVs w V ι bx xs vs→RepRs w V' rs vs
 | [],rs,vs,h,hr=>by
  simp only [AV.thawL,Option.some.injEq] at h
  subst h
  cases vs with
  | nil=>simp only [RepRs]
  | cons _ _=>simp only [RepAVs] at hr
 | x::xs,rs,vs,h,hr=>by
  simp only [AV.thawL] at h
  split at h
  ·rename_i d ds' h1 h2
   simp only [Option.some.injEq] at h
   subst h
   cases vs with
   | nil=>simp only [RepAVs] at hr
   | cons v vs=>
    simp only [RepAVs] at hr
    simp only [RepRs]
    exact ⟨jKC hk hb ho h1 hr.1,thaw_avs hk hb ho h2 hr.2⟩
  ·cases h
end
end
theorem AnsG.ans {P:Program} {f:FuncId} {args:List AV} {rs:List RV} {r:Ret} {res:RV} (h:AnsG P f 0 args [] r) (ha:args=RV.avs rs) (hr:r.res.thaw (zQM r.outs)=some res):Ans P f rs res:=by
 subst ha
 intro w S vs hg hrep
 have hno:∀ b,(zQM ([]:List Bx) b)=.fresh:=fun b=>by simp [zQM]
 have hnone:∀ g,¬ OwnB (zQM ([]:List Bx)) (fun _=>none) g:=fun g ⟨b,c,hl,e⟩=>by rw [hno] at hl; cases hl
 have hh:zHp w S (fun _=>none) (RV.avs rs) [] vs.toList:=by
  refine ⟨fun b g c hl e=>?_,fun b b' g c c' hl hl' hne e=>?_,fun b=>?_,rep_avs hrep⟩
  ·rw [hno] at hl; cases hl
  ·rw [hno] at hl; cases hl
  ·rw [hno]; trivial
 refine (h w S _ vs hg hh).mono fun ed w' hp=>?_
 obtain ⟨v,ι',rfl,ha⟩:=hp
 refine ⟨v,rfl,jKC (fun g hV=>?_) ha.bx (fun b g c hl e=>?_) hr ha.rep,ha.bel.below hnone⟩
 ·rcases hV.1 with ⟨_,h⟩ | h | h
  ·exact .inl h
  ·exact .inr h
  ·exact absurd h (hnone g)
 ·rcases (ha.own b g c hl e).1 with h | h
  ·exact .inr h
  ·exact absurd h (hnone g)
section
attribute [local irreducible] Ans AnsO AnsG AnsN AnsI
def rngK {α:Type} (n k:Nat) (f:Nat→α) (z:α):List α:=rng n fun j=>if j < k then f j else z
theorem zUQ {α:Type} (n k:Nat) (f:Nat→α) (z:α):(rngK n k f z).length=n:=zZ7 _ _
theorem jZG {α:Type} (n:Nat) (f:Nat→α) (z:α):rngK n 0 f z=List.replicate n z:=by
 unfold rngK
 rw [zXK (g:=fun _=>z) fun j _=>if_neg (by omega)]
 unfold rng
 rw [List.map_const',List.length_range]
theorem jZH {α:Type} {n k:Nat} (f:Nat→α) (z:α) (h:n≤k):rngK n k f z=rng n f:=zXK fun j hj=>if_pos (by omega)
def jJZ (t:Fr) (o:Oq) (j:Nat):Ac:=(zQB o.iso t.op.kno (acN t.acc j) (pxN t.back j)).1
def jJY (t:Fr) (o:Oq) (j:Nat):Px:=(zQB o.iso t.op.kno (acN t.acc j) (pxN t.back j)).2
def pixK (ms:List Im) (i x y:Int) (n k:Nat):List Px:=rng n fun j=>if j < k then jQ8 ms i (x+j) y else .zero
theorem jY9 (ms:List Im) (i x y:Int) (n k:Nat):(pixK ms i x y n k).length=n:=zZ7 _ _
theorem jKU {α:Type} (n k:Nat) (f:Nat→α) (v:α):(rng n f).set k v=rng n fun j=>if j=k then v else f j:=by
 refine List.ext_getElem? fun i=>?_
 rw [List.getElem?_set]
 unfold rng
 simp only [List.getElem?_map,List.length_map,List.length_range]
 by_cases h:k=i
 ·subst h
  by_cases hk:k < n
  ·simp [hk]
  ·simp [hk,List.getElem?_eq_none]
 ·rw [if_neg h]
  by_cases hi:i < n
  ·simp [hi,Ne.symm h]
  ·simp [hi]
theorem jY1 {α:Type} (n k:Nat) (f:Nat→α) (z:α):(rngK n k f z).set k (f k)=rngK n (k+1) f z:=by
 unfold rngK
 rw [jKU]
 refine zXK fun j hj=>?_
 by_cases h:j=k
 ·subst h; simp
 ·rw [if_neg h]
  by_cases h2:j < k
  ·rw [if_pos h2,if_pos (by omega)]
  ·rw [if_neg h2,if_neg (by omega)]
theorem jWm (ms:List Im) (i x y:Int) (n k:Nat):(pixK ms i x y n k).set k (jQ8 ms i (x+k) y)=pixK ms i x y n (k+1):=by
 unfold pixK
 rw [jKU]
 refine zXK fun j hj=>?_
 by_cases h:j=k
 ·subst h; simp
 ·rw [if_neg h]
  by_cases h2:j < k
  ·rw [if_pos h2,if_pos (by omega)]
  ·rw [if_neg h2,if_neg (by omega)]
theorem jWF {ms:List Im} {i:Int} (h0:0≤i) (h:i.toNat < ms.length) (x y:Int):jQ8 ms i x y=ms[i.toNat].at_ x y:=by
 unfold jQ8; rw [if_pos h0,List.getElem?_eq_getElem h]
theorem jY6 {l:List Px} {k:Nat} (h:k < l.length) (p:Px):sets (pxs l) (k*5) p.ds=pxs (l.set k p):=by
 induction l generalizing k with
 | nil=>simp at h
 | cons q l ih=>
  cases k with
  | zero=>rfl
  | succ k=>
   have e:∀ t,pxs ((q::l).set (k+1) t)=q.ds++pxs (l.set k t):=fun t=>by simp [pxs]
   have:=zWH (cs:=q.ds) p.ds (pxs l) (k*5)
   rw [e,← ih (by simpa using h),← this]
   show sets (q.ds++pxs l) _ _=_
   congr 1
   show (k+1)*5=k*5+5
   omega
theorem jWK {l:List Fr} {k:Nat} (h:k < l.length) (a:List Ac):(frs l).set (k*14+12) (.sl a.length (acs a))=frs (l.set k ⟨l[k].op,a,l[k].back⟩):=by
 induction l generalizing k with
 | nil=>simp at h
 | cons q l ih=>
  have e0:frs (q::l)=q.cells++frs l:=by simp [frs]
  have ec:q.cells.length=14:=rfl
  cases k with
  | zero=>
   rw [e0,List.set_append_left _ _ (by omega)]
   rfl
  | succ k=>
   have e:∀ t,frs ((q::l).set (k+1) t)=q.cells++frs (l.set k t):=fun t=>by simp [frs]
   rw [e0,e,List.set_append_right _ _ (by omega),ec,show (k+1)*14+12 - 14=k*14+12 by omega,ih (by simpa using h)]
   rfl
theorem jW4 {l:List Ac} {k:Nat} (h:k < l.length) (p:Ac):sets (acs l) (k*6) p.ds=acs (l.set k p):=by
 induction l generalizing k with
 | nil=>simp at h
 | cons q l ih=>
  cases k with
  | zero=>rfl
  | succ k=>
   have e:∀ t,acs ((q::l).set (k+1) t)=q.ds++acs (l.set k t):=fun t=>by simp [acs]
   have:=zWH (cs:=q.ds) p.ds (acs l) (k*6)
   rw [e,← ih (by simpa using h),← this]
   show sets (q.ds++acs l) _ _=_
   congr 1
   show (k+1)*6=k*6+6
   omega
def gZ52 (xs:List AV) (bs:List Bx):Option Ret:=match xs,bs with | [AV.one (Cl.ptr 0 0),AV.one (Cl.d (DV.int _ i)),AV.one (Cl.d (DV.int _ x)),AV.one (Cl.d (DV.int _ y)),AV.one (Cl.d (DV.int _ n))],[Bx.cells [Cl.d (DV.int _ bits),Cl.d (DV.int _ cx0),Cl.d (DV.int _ cy0),Cl.d (DV.int _ cx1),Cl.d (DV.int _ cy1),Cl.d (DV.int _ tw),Cl.d (DV.int _ th),Cl.d (DV.sl on oxs),Cl.d (DV.sl mn mxs),Cl.d (DV.sl qn qxs),Cl.d (DV.int _ most),Cl.d (DV.sl en exs),Cl.ref 1 fn],Bx.row _ _ fxs]=>some ⟨AV.one (Cl.d (dS (pixR (zQc mxs) i x y n.toNat).length (pxs (pixR (zQc mxs) i x y n.toNat)))),[bC [cJ bits,cJ cx0,cJ cy0,cJ cx1,cJ cy1,cJ tw,cJ th,Cl.d (dS on oxs),Cl.d (dS mn mxs),Cl.d (dS qn qxs),cK most,Cl.d (dS en exs),Cl.ref 1 fn],Bx.row 249 14 fxs],false⟩ | _,_=>none
def gZ53 (xs:List AV) (bs:List Bx):Option Ret:=match xs,bs with | [AV.one (Cl.ptr 0 0),AV.agg [Cl.d (DV.int _ okind),Cl.d (DV.int _ oimage),Cl.d (DV.int _ ox),Cl.d (DV.int _ oy),Cl.d (DV.int _ omask),Cl.d (DV.int _ omx),Cl.d (DV.int _ omy),Cl.d (DV.int _ oopac),Cl.d (DV.int _ ooper),Cl.d (DV.int _ omode),Cl.d (DV.bool oiso),Cl.d (DV.bool okno)],AV.one (Cl.d (DV.sl sn sxs)),AV.one (Cl.d (DV.int _ x)),AV.one (Cl.d (DV.int _ y))],[Bx.cells [Cl.d (DV.int _ bits),Cl.d (DV.int _ cx0),Cl.d (DV.int _ cy0),Cl.d (DV.int _ cx1),Cl.d (DV.int _ cy1),Cl.d (DV.int _ tw),Cl.d (DV.int _ th),Cl.d (DV.sl on oxs),Cl.d (DV.sl mn mxs),Cl.d (DV.sl qn qxs),Cl.d (DV.int _ most),Cl.d (DV.sl en exs),Cl.ref 1 fn],Bx.row _ _ fxs]=>some ⟨AV.tup [],[bC [cJ bits,cJ cx0,cJ cy0,cJ cx1,cJ cy1,cJ tw,cJ th,Cl.d (dS on oxs),Cl.d (dS mn mxs),Cl.d (dS qn qxs),cK most,Cl.d (dS en exs),Cl.ref 1 (zX5 most (zKp fxs) (⟨okind,oimage,ox,oy,omask,omx,omy,oopac,ooper,omode,oiso,okno⟩:Oq) (zQe sxs) (maR (zQc mxs) (⟨okind,oimage,ox,oy,omask,omx,omy,oopac,ooper,omode,oiso,okno⟩:Oq) x y sn)).length],Bx.row 249 14 (frs (zX5 most (zKp fxs) (⟨okind,oimage,ox,oy,omask,omx,omy,oopac,ooper,omode,oiso,okno⟩:Oq) (zQe sxs) (maR (zQc mxs) (⟨okind,oimage,ox,oy,omask,omx,omy,oopac,ooper,omode,oiso,okno⟩:Oq) x y sn)))],false⟩ | _,_=>none
def gZ54 (xs:List AV) (bs:List Bx):Option Ret:=match xs,bs with | [AV.one (Cl.ptr 0 0),AV.agg [Cl.d (DV.int _ okind),Cl.d (DV.int _ oimage),Cl.d (DV.int _ ox),Cl.d (DV.int _ oy),Cl.d (DV.int _ omask),Cl.d (DV.int _ omx),Cl.d (DV.int _ omy),Cl.d (DV.int _ oopac),Cl.d (DV.int _ ooper),Cl.d (DV.int _ omode),Cl.d (DV.bool oiso),Cl.d (DV.bool okno)]],[Bx.cells [Cl.d (DV.int _ bits),Cl.d (DV.int _ cx0),Cl.d (DV.int _ cy0),Cl.d (DV.int _ cx1),Cl.d (DV.int _ cy1),Cl.d (DV.int _ tw),Cl.d (DV.int _ th),Cl.d (DV.sl on oxs),Cl.d (DV.sl mn mxs),Cl.d (DV.sl qn qxs),Cl.d (DV.int _ most),Cl.d (DV.sl en exs),Cl.ref 1 fn],Bx.row _ _ fxs]=>some ⟨AV.tup [],[bC [cJ bits,cJ cx0,cJ cy0,cJ cx1,cJ cy1,cJ tw,cJ th,Cl.d (dS on oxs),Cl.d (dS mn mxs),Cl.d (dS qn qxs),cK most,Cl.d (dS en exs),Cl.ref 1 (zKr (zKp fxs) (⟨okind,oimage,ox,oy,omask,omx,omy,oopac,ooper,omode,oiso,okno⟩:Oq)).length],Bx.row 249 14 (frs (zKr (zKp fxs) (⟨okind,oimage,ox,oy,omask,omx,omy,oopac,ooper,omode,oiso,okno⟩:Oq)))],false⟩ | _,_=>none
def jWI:Gam where
 pure:=fun f xs=>
  if f=215 then gZ17 xs else
  if f=181 then gZ49 xs else
  if f=212 then (match xs with | [.d (.sl n xs),.d (.sl mn mxs),.d (.int _ opac),.d (.int _ m)]=>let a:=(scR m opac (zQe xs) (ints mxs)); some (RV.tup [RV.d (dS a.length (pxs a)),RV.d (dQ true)]) | _=>none) else
  if f=214 then (match xs with | [.d (.bool kno),.d (.int _ op),.d (.int _ mode),.d (.int _ m),.d (.sl n xs),.d (.sl an axs),.d (.sl bn bxs)]=>let a:=(stR kno op mode m (zQe xs) (jQu axs) (zQe bxs)); some (RV.tup [RV.d (dS a.length (acs a)),RV.d (dQ true)]) | _=>none) else
  none
 modes:=fun f=>
  if f=161 then some ([false,true,true,true,true],2,1000) else
  if f=213 then some ([false,true,true,true,true],2,1000) else
  if f=159 then some ([false,true,true,true,true],1,1) else
  if f=160 then some ([false,true],1,1) else
  none
 proc:=fun f xs bs=>
  if f=161 then gZ52 xs bs else
  if f=213 then (match xs,bs with | [AV.one (Cl.ptr 0 0),AV.agg [Cl.d (DV.int _ okind),Cl.d (DV.int _ oimage),Cl.d (DV.int _ ox),Cl.d (DV.int _ oy),Cl.d (DV.int _ omask),Cl.d (DV.int _ omx),Cl.d (DV.int _ omy),Cl.d (DV.int _ oopac),Cl.d (DV.int _ ooper),Cl.d (DV.int _ omode),Cl.d (DV.bool oiso),Cl.d (DV.bool okno)],AV.one (Cl.d (DV.int _ x)),AV.one (Cl.d (DV.int _ y)),AV.one (Cl.d (DV.int _ n))],[Bx.cells [Cl.d (DV.int _ bits),Cl.d (DV.int _ cx0),Cl.d (DV.int _ cy0),Cl.d (DV.int _ cx1),Cl.d (DV.int _ cy1),Cl.d (DV.int _ tw),Cl.d (DV.int _ th),Cl.d (DV.sl on oxs),Cl.d (DV.sl mn mxs),Cl.d (DV.sl qn qxs),Cl.d (DV.int _ most),Cl.d (DV.sl en exs),Cl.ref 1 fn],Bx.row _ _ fxs]=>some ⟨AV.one (Cl.d (dS (maR (zQc mxs) (⟨okind,oimage,ox,oy,omask,omx,omy,oopac,ooper,omode,oiso,okno⟩:Oq) x y n.toNat).length (u16s (maR (zQc mxs) (⟨okind,oimage,ox,oy,omask,omx,omy,oopac,ooper,omode,oiso,okno⟩:Oq) x y n.toNat)))),[bC [cJ bits,cJ cx0,cJ cy0,cJ cx1,cJ cy1,cJ tw,cJ th,Cl.d (dS on oxs),Cl.d (dS mn mxs),Cl.d (dS qn qxs),cK most,Cl.d (dS en exs),Cl.ref 1 fn],Bx.row 249 14 fxs],false⟩ | _,_=>none) else
  if f=159 then gZ53 xs bs else
  if f=160 then gZ54 xs bs else
  none
 iter:=fun f cs=>
  none
theorem zXM (s:Scr) (most:Int) (e:List Int) (F:List Fr) (i x y n:Int) (hi:0≤i∧i < s.ims.length) (hu:∀ m∈s.ims,m.isU) (hn:0≤n∧n≤100000) (hx : -4294967296≤x∧x≤4294967296):AnsG prog 161 2 [aPz,aJ ((i)),aJ ((x)),aJ ((y)),aJ ((n))] [bC [cJ (s.bits),cJ (s.c.a),cJ (s.c.b),cJ (s.c.c),cJ (s.c.d),cJ (s.tw),cJ (s.th),cD (dS s.ord.length (is s.ord)),cD (dS s.ims.length (ims s.ims)),cD (dS s.ops.length (ops s.ops)),cK (most),cD (dS e.length (is e)),Cl.ref 1 F.length],bR 249 14 (frs F)] ⟨aO (cD (dS ((pixR s.ims i x y n.toNat).length) (pxs (pixR s.ims i x y n.toNat)))),[bC [cJ (s.bits),cJ (s.c.a),cJ (s.c.b),cJ (s.c.c),cJ (s.c.d),cJ (s.tw),cJ (s.th),cD (dS s.ord.length (is s.ord)),cD (dS s.ims.length (ims s.ims)),cD (dS s.ops.length (ops s.ops)),cK (most),cD (dS e.length (is e)),Cl.ref 1 F.length],bR 249 14 (frs F)],false⟩:=
 zZp (Γ:=jWI) (let a:=(i.toNat*28+1+1+1+1+1+1+1+1+1+1+1); let b:=(i.toNat*28+1+1+1+1+1+1+1+1+1+1+1+1+1+1+1); let c:=(i.toNat*28+1+1+1+1+1+1+1+1+1+1+1+1+1+1+1+1+1+1+1); let d:=(i.toNat*28+1+1+1+1+1+1+1+1+1+1+1+1+1+1+1+1+1+1+1+1+1+1+1); let f:=(i.toNat*28+1+1+1+1+1+1+1+1+1+1+1+1+1+1+1+1+1+1+1+1+1+1+1+1+1+1+1); let g:=(2,aJ x); let h:=(3,aJ y); let j:=(4,aJ n); let l:=(11,bC [cJ (nAt (ims s.ims) (i.toNat*28)),cJ (nAt (ims s.ims) (i.toNat*28+1)),cD (dQ (bAt (ims s.ims) (i.toNat*28+1+1))),cK (nAt (ims s.ims) (i.toNat*28+1+1+1)),cK (nAt (ims s.ims) (i.toNat*28+1+1+1+1)),cK (nAt (ims s.ims) (i.toNat*28+1+1+1+1+1)),cK (nAt (ims s.ims) (i.toNat*28+1+1+1+1+1+1)),cK (nAt (ims s.ims) (i.toNat*28+1+1+1+1+1+1+1)),cJ (nAt (ims s.ims) (i.toNat*28+1+1+1+1+1+1+1+1)),cJ (nAt (ims s.ims) (i.toNat*28+1+1+1+1+1+1+1+1+1)),cJ (nAt (ims s.ims) (i.toNat*28+1+1+1+1+1+1+1+1+1+1)),cD (dS (lAt (ims s.ims) a) (cAt (ims s.ims) a)),cJ (nAt (ims s.ims) (i.toNat*28+1+1+1+1+1+1+1+1+1+1+1+1)),cJ (nAt (ims s.ims) (i.toNat*28+1+1+1+1+1+1+1+1+1+1+1+1+1)),cJ (nAt (ims s.ims) (i.toNat*28+1+1+1+1+1+1+1+1+1+1+1+1+1+1)),cD (dS (lAt (ims s.ims) b) (cAt (ims s.ims) b)),cJ (nAt (ims s.ims) (i.toNat*28+1+1+1+1+1+1+1+1+1+1+1+1+1+1+1+1)),cJ (nAt (ims s.ims) (i.toNat*28+1+1+1+1+1+1+1+1+1+1+1+1+1+1+1+1+1)),cJ (nAt (ims s.ims) (i.toNat*28+1+1+1+1+1+1+1+1+1+1+1+1+1+1+1+1+1+1)),cD (dS (lAt (ims s.ims) c) (cAt (ims s.ims) c)),cJ (nAt (ims s.ims) (i.toNat*28+1+1+1+1+1+1+1+1+1+1+1+1+1+1+1+1+1+1+1+1)),cJ (nAt (ims s.ims) (i.toNat*28+1+1+1+1+1+1+1+1+1+1+1+1+1+1+1+1+1+1+1+1+1)),cJ (nAt (ims s.ims) (i.toNat*28+1+1+1+1+1+1+1+1+1+1+1+1+1+1+1+1+1+1+1+1+1+1)),cD (dS (lAt (ims s.ims) d) (cAt (ims s.ims) d)),cJ (nAt (ims s.ims) (i.toNat*28+1+1+1+1+1+1+1+1+1+1+1+1+1+1+1+1+1+1+1+1+1+1+1+1)),cJ (nAt (ims s.ims) (i.toNat*28+1+1+1+1+1+1+1+1+1+1+1+1+1+1+1+1+1+1+1+1+1+1+1+1+1)),cJ (nAt (ims s.ims) (i.toNat*28+1+1+1+1+1+1+1+1+1+1+1+1+1+1+1+1+1+1+1+1+1+1+1+1+1+1)),cD (dS (lAt (ims s.ims) f) (cAt (ims s.ims) f))]); let m:=(0,bC [cJ s.bits,cJ s.c.a,cJ s.c.b,cJ s.c.c,cJ s.c.d,cJ s.tw,cJ s.th,cD (dS s.ord.length (is s.ord)),cD (dS s.ims.length (ims s.ims)),cD (dS s.ops.length (ops s.ops)),cK most,cD (dS e.length (is e)),Cl.ref 1 F.length]); let o:=(1,bR 249 14 (frs F)); (aQ aL (aQ aL (aQ aL (Ann.cut ⟨Unit,fun _u:Unit=>True,fun _u:Unit=>⟨[g,h,j,(11,aO (Cl.ptr 11 0)),(12,aO (Cl.ref 23 n.toNat))],[l,(23,bR 37 5 (repl n.toNat [dK 0,dK 0,dK 0,dK 0,dK 0])),m,o]⟩,fun _u:Unit=>0⟩ aL fun _u=>(aQ (aQ aL (Ann.loop ⟨Nat,fun k=>k≤8589934592,fun k=>⟨[g,h,j,(11,aO (Cl.ptr 11 0)),(12,aO (Cl.ref 1012 n.toNat)),(13,aJ (k:Int))],[l,(1012,bR 37 5 (pxs (pixK s.ims i x y n.toNat k))),m,o]⟩,fun k=>n.toNat - k⟩ fun k=>aL)) aL)))))) zQf Tryz.func161 rfl (nL rfl) rfl fun hwf hbx=>by
  refine Eq.mpr (by kernel_rfl:_=(let Z:=(n.toNat=n.toNat); let T:=(frs F=frs F); let U:=(pixR s.ims i x y n.toNat); let h:=(bAt (ims s.ims) (i.toNat*28+1+1)); let j:=(nAt (ims s.ims) (i.toNat*28+1+1+1)); let l:=(nAt (ims s.ims) (i.toNat*28+1+1+1+1)); let g:=(nAt (ims s.ims) (i.toNat*28)); let m:=(nAt (ims s.ims) (i.toNat*28+1+1+1+1+1)); let o:=(nAt (ims s.ims) (i.toNat*28+1+1+1+1+1+1)); let d:=(nAt (ims s.ims) (i.toNat*28+1)); let p:=(nAt (ims s.ims) (i.toNat*28+1+1+1+1+1+1+1)); let q:=(nAt (ims s.ims) (i.toNat*28+1+1+1+1+1+1+1+1)); let r:=(nAt (ims s.ims) (i.toNat*28+1+1+1+1+1+1+1+1+1)); let t:=(nAt (ims s.ims) (i.toNat*28+1+1+1+1+1+1+1+1+1+1)); let u:=(nAt (ims s.ims) (i.toNat*28+1+1+1+1+1+1+1+1+1+1+1+1)); let v:=(nAt (ims s.ims) (i.toNat*28+1+1+1+1+1+1+1+1+1+1+1+1+1)); let w:=(nAt (ims s.ims) (i.toNat*28+1+1+1+1+1+1+1+1+1+1+1+1+1+1)); let z:=(nAt (ims s.ims) (i.toNat*28+1+1+1+1+1+1+1+1+1+1+1+1+1+1+1+1)); let A:=(nAt (ims s.ims) (i.toNat*28+1+1+1+1+1+1+1+1+1+1+1+1+1+1+1+1+1)); let B:=(nAt (ims s.ims) (i.toNat*28+1+1+1+1+1+1+1+1+1+1+1+1+1+1+1+1+1+1)); let C:=(nAt (ims s.ims) (i.toNat*28+1+1+1+1+1+1+1+1+1+1+1+1+1+1+1+1+1+1+1+1)); let z7:=(i.toNat*28+1+1+1+1+1+1+1+1+1+1+1); let D:=(cAt (ims s.ims) z7); let E:=(lAt (ims s.ims) z7); let G:=(nAt (ims s.ims) (i.toNat*28+1+1+1+1+1+1+1+1+1+1+1+1+1+1+1+1+1+1+1+1+1)); let H:=(nAt (ims s.ims) (i.toNat*28+1+1+1+1+1+1+1+1+1+1+1+1+1+1+1+1+1+1+1+1+1+1)); let I:=(nAt (ims s.ims) (i.toNat*28+1+1+1+1+1+1+1+1+1+1+1+1+1+1+1+1+1+1+1+1+1+1+1+1)); let J:=(nAt (ims s.ims) (i.toNat*28+1+1+1+1+1+1+1+1+1+1+1+1+1+1+1+1+1+1+1+1+1+1+1+1+1)); let K:=(nAt (ims s.ims) (i.toNat*28+1+1+1+1+1+1+1+1+1+1+1+1+1+1+1+1+1+1+1+1+1+1+1+1+1+1)); let z8:=(i.toNat*28+1+1+1+1+1+1+1+1+1+1+1+1+1+1+1); let L:=(cAt (ims s.ims) z8); let M:=(lAt (ims s.ims) z8); let z9:=(i.toNat*28+1+1+1+1+1+1+1+1+1+1+1+1+1+1+1+1+1+1+1); let N:=(cAt (ims s.ims) z9); let O:=(lAt (ims s.ims) z9); let y0:=(i.toNat*28+1+1+1+1+1+1+1+1+1+1+1+1+1+1+1+1+1+1+1+1+1+1+1); let P:=(cAt (ims s.ims) y0); let Q:=(lAt (ims s.ims) y0); let V:=[bC [cJ s.bits,cJ s.c.a,cJ s.c.b,cJ s.c.c,cJ s.c.d,cJ s.tw,cJ s.th,cD (dS s.ord.length (is s.ord)),cD (dS s.ims.length (ims s.ims)),cD (dS s.ops.length (ops s.ops)),cK most,cD (dS e.length (is e)),Cl.ref 1 F.length],bR 249 14 (frs F)]; let y1:=(i.toNat*28+1+1+1+1+1+1+1+1+1+1+1+1+1+1+1+1+1+1+1+1+1+1+1+1+1+1+1); let R:=(cAt (ims s.ims) y1); let S:=(lAt (ims s.ims) y1); let W:=[dK 0,dK 0,dK 0,dK 0,dK 0]; let z0:=(pxs U); let X:=(cD (dS U.length z0)); let Y:=((dJ s.bits=dJ s.bits)∧(dJ s.c.a=dJ s.c.a)∧(dJ s.c.b=dJ s.c.b)∧(dJ s.c.c=dJ s.c.c)∧(dJ s.c.d=dJ s.c.d)∧(dJ s.tw=dJ s.tw)∧(dJ s.th=dJ s.th)∧(dS s.ord.length (is s.ord)=dS s.ord.length (is s.ord))∧(dS s.ims.length (ims s.ims)=dS s.ims.length (ims s.ims))∧(dS s.ops.length (ops s.ops)=dS s.ops.length (ops s.ops))∧(dK most=dK most)∧(dS e.length (is e)=dS e.length (is e))∧(F.length=F.length)∧True); let y2:=(Y∧T∧True); let y3:=(((dS n.toNat (repl n.toNat W)=dS U.length z0)∧True)∧y2); let z1:=(dJ x=dJ x); let z2:=(dJ y=dJ y); let z3:=(dJ n=dJ n); let z4:=[dJ g,dJ d,dQ h,dK j,dK l,dK m,dK o,dK p,dJ q,dJ r,dJ t,dS E D,dJ u,dJ v,dJ w,dS M L,dJ z,dJ A,dJ B,dS O N,dJ C,dJ G,dJ H,dS Q P,dJ I,dJ J,dJ K,dS S R]; let z5:=(z4=z4); let y4:=fun (k:Nat)=>(let aA:=(Im.at_ ⟨g,d,h,⟨j,l,m,o,p⟩,⟨q,r,t,E,D⟩,⟨u,v,w,M,L⟩,⟨z,A,B,O,N⟩,⟨C,G,H,Q,P⟩,⟨I,J,K,S,R⟩⟩ (wK (x+(k:Int))) y); [dK aA.a,dK aA.b,dK aA.c,dK aA.al,dK aA.f]); let z6:=fun (k:Nat)=>(pxs (pixK s.ims i x y n.toNat k)); let y5:=fun (k:Nat)=>(((dS n.toNat (z6 k)=dS U.length z0)∧True)∧y2); tU7 ((0≤i∧i < (s.ims.length:Int)∧i.toNat*28 < (ims s.ims).length)∧(((ims s.ims)[i.toNat*28]?=some (dJ g))∧((ims s.ims)[i.toNat*28+1]?=some (dJ d))∧((ims s.ims)[i.toNat*28+1+1]?=some (dQ h))∧((ims s.ims)[i.toNat*28+1+1+1]?=some (dK j))∧((ims s.ims)[i.toNat*28+1+1+1+1]?=some (dK l))∧((ims s.ims)[i.toNat*28+1+1+1+1+1]?=some (dK m))∧((ims s.ims)[i.toNat*28+1+1+1+1+1+1]?=some (dK o))∧((ims s.ims)[i.toNat*28+1+1+1+1+1+1+1]?=some (dK p))∧((ims s.ims)[i.toNat*28+1+1+1+1+1+1+1+1]?=some (dJ q))∧((ims s.ims)[i.toNat*28+1+1+1+1+1+1+1+1+1]?=some (dJ r))∧((ims s.ims)[i.toNat*28+1+1+1+1+1+1+1+1+1+1]?=some (dJ t))∧((ims s.ims)[i.toNat*28+1+1+1+1+1+1+1+1+1+1+1]?=some (dS E D))∧((ims s.ims)[i.toNat*28+1+1+1+1+1+1+1+1+1+1+1+1]?=some (dJ u))∧((ims s.ims)[i.toNat*28+1+1+1+1+1+1+1+1+1+1+1+1+1]?=some (dJ v))∧((ims s.ims)[i.toNat*28+1+1+1+1+1+1+1+1+1+1+1+1+1+1]?=some (dJ w))∧((ims s.ims)[i.toNat*28+1+1+1+1+1+1+1+1+1+1+1+1+1+1+1]?=some (dS M L))∧((ims s.ims)[i.toNat*28+1+1+1+1+1+1+1+1+1+1+1+1+1+1+1+1]?=some (dJ z))∧((ims s.ims)[i.toNat*28+1+1+1+1+1+1+1+1+1+1+1+1+1+1+1+1+1]?=some (dJ A))∧((ims s.ims)[i.toNat*28+1+1+1+1+1+1+1+1+1+1+1+1+1+1+1+1+1+1]?=some (dJ B))∧((ims s.ims)[i.toNat*28+1+1+1+1+1+1+1+1+1+1+1+1+1+1+1+1+1+1+1]?=some (dS O N))∧((ims s.ims)[i.toNat*28+1+1+1+1+1+1+1+1+1+1+1+1+1+1+1+1+1+1+1+1]?=some (dJ C))∧((ims s.ims)[i.toNat*28+1+1+1+1+1+1+1+1+1+1+1+1+1+1+1+1+1+1+1+1+1]?=some (dJ G))∧((ims s.ims)[i.toNat*28+1+1+1+1+1+1+1+1+1+1+1+1+1+1+1+1+1+1+1+1+1+1]?=some (dJ H))∧((ims s.ims)[i.toNat*28+1+1+1+1+1+1+1+1+1+1+1+1+1+1+1+1+1+1+1+1+1+1+1]?=some (dS Q P))∧((ims s.ims)[i.toNat*28+1+1+1+1+1+1+1+1+1+1+1+1+1+1+1+1+1+1+1+1+1+1+1+1]?=some (dJ I))∧((ims s.ims)[i.toNat*28+1+1+1+1+1+1+1+1+1+1+1+1+1+1+1+1+1+1+1+1+1+1+1+1+1]?=some (dJ J))∧((ims s.ims)[i.toNat*28+1+1+1+1+1+1+1+1+1+1+1+1+1+1+1+1+1+1+1+1+1+1+1+1+1+1]?=some (dJ K))∧((ims s.ims)[i.toNat*28+1+1+1+1+1+1+1+1+1+1+1+1+1+1+1+1+1+1+1+1+1+1+1+1+1+1+1]?=some (dS S R))∧True)∧tU3 ((0≤n∧n≤n∧n≤(maxLen:Int)∧((10:Nat):Int)*n≤281474976710656)∧True∧(tU3 (((decide (y < 0))=false→tU5 (((decide (y≥d))=true→tU2 (y3∧zQC ⟨aO X,V,false⟩))∧((decide (y≥d))=false→∃ _u:Unit,True∧((z1∧z2∧z3∧(0=0)∧Z∧True)∧(z5∧(repl n.toNat W=repl n.toNat W)∧Y∧T∧True)))))∧((decide (y < 0))=(!false)→tU3 (y3∧zQC ⟨aO X,V,false⟩))))∧∀ _u:Unit,True→tU4 ((∃ k:Nat,(k≤8589934592)∧((z1∧z2∧z3∧(0=0)∧Z∧(dJ (max (0:Int) (wK (0 - x)))=dJ (k:Int))∧True)∧(z5∧(repl n.toNat W=pxs (pixK s.ims i x y n.toNat k))∧Y∧T∧True)))∧∀ k:Nat,let y6:=(decide ((wK (x+(k:Int))) < g)); (k≤8589934592)→tU4 (((decide ((k:Int) < n))=true→tU7 ((y6=true→tU7 ((Ans prog 215 [rA z4,rJ (wK (x+(k:Int))),rJ y] (rA (y4 k)))∧(0≤(k:Int)∧(k:Int) < (n.toNat:Int))∧(k*5+5≤(z6 k).length)∧tU3 (∃ k':Nat,(k'≤8589934592)∧(n.toNat - k' < n.toNat - k)∧((z1∧z2∧z3∧(0=0)∧Z∧(dJ (wK ((k:Int)+1))=dJ (k':Int))∧True)∧(z5∧(sets (z6 k) (k*5) (y4 k)=pxs (pixK s.ims i x y n.toNat k'))∧Y∧T∧True)))))∧(y6=false→tU2 ((y5 k)∧zQC ⟨aO X,V,false⟩))))∧((decide ((k:Int) < n))=(!true)→tU3 ((y5 k)∧zQC ⟨aO X,V,false⟩)))))))) ?_
  delta dJ dK dQ cJ cK wK dS rJ bC
  simp only [sS]
  have ime:∀ m:Im,(⟨m.w,m.h,m.so,⟨m.c.a,m.c.b,m.c.c,m.c.al,m.c.f⟩,⟨m.p0.w,m.p0.h,m.p0.s,m.p0.n,m.p0.xs⟩,⟨m.p1.w,m.p1.h,m.p1.s,m.p1.n,m.p1.xs⟩,⟨m.p2.w,m.p2.h,m.p2.s,m.p2.n,m.p2.xs⟩,⟨m.p3.w,m.p3.h,m.p3.s,m.p3.n,m.p3.xs⟩,⟨m.p4.w,m.p4.h,m.p4.s,m.p4.n,m.p4.xs⟩⟩:Im)=m:=fun _=>rfl
  clear hwf hbx
  have hM:∀ n:Nat,n≤100000→n≤maxLen:=fun n h=>by unfold maxLen; omega
  have k1:i.toNat < s.ims.length:=by omega
  have q1:=jJr k1
  have IA:=fun u v=>jYz s.ims[i.toNat] u v (hu _ (List.getElem_mem k1))
  have ag:=fun u v=>jWF hi.1 k1 u v
  simp only [jJs k1,q1,and_self,true_and,ime]
  clear q1
  generalize s.ims[i.toNat]=g at *
  have en:(n.toNat:Int)=n:=by omega
  have z:repl n.toNat [DV.int .u16 0,DV.int .u16 0,DV.int .u16 0,DV.int .u16 0,DV.int .u16 0]=pxs (List.replicate n.toNat Px.zero):=by
   unfold repl pxs
   rw [List.flatMap_def,List.map_replicate]; rfl
  have zr:∀ f:Nat→Px,(∀ j,j < n.toNat→f j=.zero)→List.replicate n.toNat Px.zero=rng n.toNat f:=fun f hf=>by
   rw [zXK hf]
   unfold rng
   rw [List.map_const',List.length_range]
  have wn:wrap .i64 (0 - x) = -x:=by rw [IntWalk.i64_in _ ⟨by omega,by omega⟩]; omega
  have Z:∀ hy:y < 0∨y≥g.h,n.toNat=(pixR s.ims i x y n.toNat).length∧repl n.toNat [DV.int .u16 0,DV.int .u16 0,DV.int .u16 0,DV.int .u16 0,DV.int .u16 0]=pxs (pixR s.ims i x y n.toNat):=fun hy=>by
   refine ⟨(zJZ _ _ _ _ _).symm,?_⟩
   rw [z]; unfold pixR
   exact congrArg pxs (zr _ fun j _=>by show jQ8 s.ims i (x+j) y=_; rw [ag]; exact at_out (by omega))
  have X:∀ k:Nat,(∀ j:Nat,k≤j→j < n.toNat→g.at_ (x+j) y=.zero)→pixK s.ims i x y n.toNat k=pixR s.ims i x y n.toNat:=fun k h=>by
   unfold pixK pixR
   refine zXK fun j hj=>?_
   by_cases hk:j < k
   ·rw [if_pos hk]
   ·rw [if_neg hk,ag,h j (by omega) hj]
  have Y:∀ k:Nat,(∀ j:Nat,k≤j→j < n.toNat→g.at_ (x+j) y=.zero)→n.toNat=(pixR s.ims i x y n.toNat).length∧pxs (pixK s.ims i x y n.toNat k)=pxs (pixR s.ims i x y n.toNat):=fun k h=>⟨(zJZ _ _ _ _ _).symm,by rw [X k h]⟩
  rw [wn]
  refine ⟨⟨hi.1,hi.2,by rw [zJP]; omega⟩,⟨hn.1,by omega,by have:=hM n.toNat (by omega); omega,by omega⟩,⟨fun h0=>⟨fun h1=>⟨Z (.inr h1),trivial⟩,fun h1=>⟨(),trivial⟩⟩,fun h0=>⟨Z (.inl h0),trivial⟩⟩,⟨(max 0 (-x)).toNat,by omega,by omega,?_⟩,fun k hk=>⟨fun h1=>?_,fun h1=>⟨Y k fun j hj h2=>by omega,trivial⟩⟩⟩
  ·rw [z]; unfold pixK
   rw [zr _ fun j hj=>?_]
   split
   ·rw [ag]; exact at_out (by omega)
   ·rfl
  ·have wk:wrap .i64 (x+(k:Int))=x+k:=IntWalk.i64_in _ ⟨by omega,by omega⟩
   have wk1:wrap .i64 ((k:Int)+1)=(k:Int)+1:=IntWalk.i64_in _ ⟨by omega,by omega⟩
   rw [wk,wk1]
   refine ⟨fun h2=>⟨IA _ _,⟨by omega,by omega⟩,?_,k+1,by omega,by omega,by omega,?_⟩,fun h2=>⟨Y k fun j hj h3=>at_out (by omega),trivial⟩⟩
   ·rw [zQx,jY9]; omega
   ·have:=jY6 (l:=pixK s.ims i x y n.toNat k) (k:=k) (by rw [jY9]; omega) (jQ8 s.ims i (x+k) y)
    rw [jWm,ag] at this
    exact this
theorem zJX (s:Scr) (most:Int) (e:List Int) (F:List Fr) (o:Oq) (x y n:Int) (hu:∀ m∈s.ims,m.isU) (hI:s.ims.length≤1000000) (hxy:(-1073741824≤x∧x≤1073741824) ∧ -1073741824≤y∧y≤1073741824) (hmk:(0≤o.mask∧o.mask≤s.ims.length)∧(-1073741824≤o.mx∧o.mx≤1073741824) ∧ -1073741824≤o.my∧o.my≤1073741824) (hn:0≤n∧n≤100000):AnsG prog 213 2 [aPz,AV.agg [cJ (o.kind),cJ (o.image),cJ (o.x),cJ (o.y),cJ (o.mask),cJ (o.mx),cJ (o.my),cK (o.opac),cJ (o.oper),cJ (o.mode),cD (dQ o.iso),cD (dQ o.kno)],aJ ((x)),aJ ((y)),aJ ((n))] [bC [cJ (s.bits),cJ (s.c.a),cJ (s.c.b),cJ (s.c.c),cJ (s.c.d),cJ (s.tw),cJ (s.th),cD (dS s.ord.length (is s.ord)),cD (dS s.ims.length (ims s.ims)),cD (dS s.ops.length (ops s.ops)),cK (most),cD (dS e.length (is e)),Cl.ref 1 F.length],bR 249 14 (frs F)] ⟨aO (cD (dS ((maR s.ims o x y n.toNat).length) (u16s (maR s.ims o x y n.toNat)))),[bC [cJ (s.bits),cJ (s.c.a),cJ (s.c.b),cJ (s.c.c),cJ (s.c.d),cJ (s.tw),cJ (s.th),cD (dS s.ord.length (is s.ord)),cD (dS s.ims.length (ims s.ims)),cD (dS s.ops.length (ops s.ops)),cK (most),cD (dS e.length (is e)),Cl.ref 1 F.length],bR 249 14 (frs F)],false⟩:=
 zZp (Γ:=jWI) (let a:=(pixR (zQc (ims s.ims)) (wK (o.mask - 1)) (wK (x - o.mx)) (wK (y - o.my)) n.toNat); Ann.seq aL (aQ aL (aQ aL (aQ (aQ aL (Ann.loop ⟨Nat,fun k=>k≤n.toNat,fun k=>⟨[(11,aO (Cl.ref 1011 k)),(30,aO (cD (dS a.length (pxs a)))),(31,aJ ((a.length:Nat):Int)),(32,aJ (k:Int))],[(1011,bR 34 1 (u16s ((maR s.ims o x y n.toNat).take k))),(0,bC [cJ s.bits,cJ s.c.a,cJ s.c.b,cJ s.c.c,cJ s.c.d,cJ s.tw,cJ s.th,cD (dS s.ord.length (is s.ord)),cD (dS s.ims.length (ims s.ims)),cD (dS s.ops.length (ops s.ops)),cK most,cD (dS e.length (is e)),Cl.ref 1 F.length]),(1,bR 249 14 (frs F))]⟩,fun k=>n.toNat - k⟩ fun k=>aL)) aL)))) zQf Tryz.func213 rfl (nL rfl) rfl fun hwf hbx=>by
  refine Eq.mpr (by kernel_rfl:_=(let b:=(maR s.ims o x y n.toNat); let j:=(cD (dS b.length (u16s b))); let g:=((dJ s.bits=dJ s.bits)∧(dJ s.c.a=dJ s.c.a)∧(dJ s.c.b=dJ s.c.b)∧(dJ s.c.c=dJ s.c.c)∧(dJ s.c.d=dJ s.c.d)∧(dJ s.tw=dJ s.tw)∧(dJ s.th=dJ s.th)∧(dS s.ord.length (is s.ord)=dS s.ord.length (is s.ord))∧(dS s.ims.length (ims s.ims)=dS s.ims.length (ims s.ims))∧(dS s.ops.length (ops s.ops)=dS s.ops.length (ops s.ops))∧(dK most=dK most)∧(dS e.length (is e)=dS e.length (is e))∧(F.length=F.length)∧True); let l:=(g∧(frs F=frs F)∧True); let c:=[bC [cJ s.bits,cJ s.c.a,cJ s.c.b,cJ s.c.c,cJ s.c.d,cJ s.tw,cJ s.th,cD (dS s.ord.length (is s.ord)),cD (dS s.ims.length (ims s.ims)),cD (dS s.ops.length (ops s.ops)),cK most,cD (dS e.length (is e)),Cl.ref 1 F.length],bR 249 14 (frs F)]; let m:=(wK (o.mask - 1)); let p:=(wK (x - o.mx)); let q:=(wK (y - o.my)); let d:=(pixR (zQc (ims s.ims)) m p q n.toNat); let f:=((d.length:Nat):Int); let a:=(pxs d); let r:=(dS d.length a=dS d.length a); let t:=(dJ f=dJ f); tU5 (((o.mask==0)=true→True∧(((dS 0 []=dS b.length (u16s b))∧True)∧l)∧zQC ⟨aO j,c,false⟩)∧((o.mask==0)=false→tU6 (tU8 ((AnsG prog 161 2 [aPz,aJ m,aJ p,aJ q,aJ n] c ⟨aO (cD (dS d.length a)),c,false⟩∧c=c)∧tU2 ((∃ k:Nat,(k≤n.toNat)∧(((0=k)∧r∧t∧(dJ 0=dJ (k:Int))∧True)∧(([]=u16s (b.take k))∧g∧(frs F=frs F)∧True)))∧∀ k:Nat,let u:=(decide ((k:Int) < f)); let h:=(u16s (b.take k)); let i:=(nAt a (k*5+1+1+1)); (k≤n.toNat)→True∧((u=true→(0≤(k:Int)∧(k:Int) < f∧k*5 < a.length)∧((a[k*5]?=some (dK (nAt a (k*5))))∧(a[k*5+1]?=some (dK (nAt a (k*5+1))))∧(a[k*5+1+1]?=some (dK (nAt a (k*5+1+1))))∧(a[k*5+1+1+1]?=some (dK i))∧(a[k*5+1+1+1+1]?=some (dK (nAt a (k*5+1+1+1+1))))∧True)∧tU6 ((zZL 1 2 k 1 h ([dK i]))∧tU3 (∃ k':Nat,(k'≤n.toNat)∧(n.toNat - k' < n.toNat - k)∧(((k+1=k')∧r∧t∧(dJ (wK ((k:Int)+1))=dJ (k':Int))∧True)∧((h++([dK i])=u16s (b.take k'))∧g∧(frs F=frs F)∧True)))))∧(u=false→tU2 ((((dS k h=dS b.length (u16s b))∧True)∧l)∧zQC ⟨aO j,c,false⟩)))))))))) ?_
  delta dJ dK cJ cK wK dS aJ aPz bC
  simp only [sS]
  clear hwf hbx
  have hM:∀ n:Nat,n≤100000→n≤maxLen:=fun n h=>by unfold maxLen; omega
  rw [zZd]
  have w1:1≤o.mask→wrap .i64 (o.mask - 1)=o.mask - 1:=fun h=>IntWalk.i64_in _ ⟨by omega,by omega⟩
  have w2:wrap .i64 (x - o.mx)=x - o.mx:=IntWalk.i64_in _ ⟨by omega,by omega⟩
  have w3:wrap .i64 (y - o.my)=y - o.my:=IntWalk.i64_in _ ⟨by omega,by omega⟩
  refine ⟨fun h=>?_,fun h=>?_⟩
  ·have h0:o.mask=0:=eq_of_beq h
   have ee:maR s.ims o x y n.toNat=[]:=by unfold maR; rw [if_pos h0]
   rw [ee]
   exact ⟨⟨rfl,rfl⟩,trivial⟩
  ·have h0:o.mask≠0:=fun h2=>by rw [h2] at h; cases h
   have h1:1≤o.mask:=by omega
   rw [w1 h1,w2,w3]
   have ee:maR s.ims o x y n.toNat=(pixR s.ims (o.mask - 1) (x - o.mx) (y - o.my) n.toNat).map Px.al:=by unfold maR; rw [if_neg h0]
   rw [ee]
   have A:=zXM s most e F (o.mask - 1) (x - o.mx) (y - o.my) n ⟨by omega,by omega⟩ hu hn ⟨by omega,by omega⟩
   have hl:=zJZ s.ims (o.mask - 1) (x - o.mx) (y - o.my) n.toNat
   generalize pixR s.ims (o.mask - 1) (x - o.mx) (y - o.my) n.toNat=L at *
   refine ⟨A,⟨0,Nat.zero_le _,⟨rfl,rfl⟩,rfl⟩,fun k hk=>⟨fun hlt=>?_,fun hge=>?_⟩⟩
   ·have hk2:k < L.length:=by omega
    obtain ⟨q1,q2,q3,q4,q5⟩:=zQU hk2
    have q:=zJK hk2
    have ts:=List.take_add_one (l:=L.map Px.al) (i:=k)
    rw [List.getElem?_map,List.getElem?_eq_getElem hk2] at ts
    rw [q1,q2,q3,q4,q5]
    refine ⟨⟨by omega,by omega,by rw [zQx]; omega⟩,q,⟨by rw [zU3,List.length_take,List.length_map,Nat.min_eq_left (by omega)]; omega,rfl,hM _ (by omega),by omega⟩,k+1,by omega,by omega,⟨rfl,?_⟩,?_⟩
    ·rw [IntWalk.i64_in _ ⟨by omega,by omega⟩]; omega
    ·rw [ts,← jXU]; rfl
   ·have:k=L.length:=by omega
    subst this
    rw [List.take_of_length_le (by rw [List.length_map]; omega),List.length_map]
    exact ⟨⟨rfl,rfl⟩,trivial⟩
theorem zJH (s:Scr) (most:Int) (e:List Int) (F:List Fr) (o:Oq) (l:List Px) (x y:Int) (hF:1≤F.length∧F.length≤66) (hu:∀ m∈s.ims,m.isU) (hI:s.ims.length≤1000000) (hxy:(-1073741824≤x∧x≤1073741824) ∧ -1073741824≤y∧y≤1073741824) (hmk:(0≤o.mask∧o.mask≤s.ims.length)∧(-1073741824≤o.mx∧o.mx≤1073741824) ∧ -1073741824≤o.my∧o.my≤1073741824) (hl:l.length≤100000) (ho:isNm o.oper=true) (hmo:isNm o.mode=true) (ha:(topF F).acc.length=l.length) (hb:(topF F).back.length=l.length) (hok1:∀ j,j < l.length→(zXx (pxN l j) (ksN (maR s.ims o x y l.length) most j) o.opac most).2=true) (hok2:∀ j,j < l.length→zZN (topF F).op.kno o.oper o.mode most (pxN (scR most o.opac l (maR s.ims o x y l.length)) j) (acN (topF F).acc j) (pxN (topF F).back j)=true):AnsG prog 159 1 [aPz,AV.agg [cJ (o.kind),cJ (o.image),cJ (o.x),cJ (o.y),cJ (o.mask),cJ (o.mx),cJ (o.my),cK (o.opac),cJ (o.oper),cJ (o.mode),cD (dQ o.iso),cD (dQ o.kno)],aO (cD (dS l.length (pxs l))),aJ ((x)),aJ ((y))] [bC [cJ (s.bits),cJ (s.c.a),cJ (s.c.b),cJ (s.c.c),cJ (s.c.d),cJ (s.tw),cJ (s.th),cD (dS s.ord.length (is s.ord)),cD (dS s.ims.length (ims s.ims)),cD (dS s.ops.length (ops s.ops)),cK (most),cD (dS e.length (is e)),Cl.ref 1 F.length],bR 249 14 (frs F)] ⟨AV.tup [],[bC [cJ (s.bits),cJ (s.c.a),cJ (s.c.b),cJ (s.c.c),cJ (s.c.d),cJ (s.tw),cJ (s.th),cD (dS s.ord.length (is s.ord)),cD (dS s.ims.length (ims s.ims)),cD (dS s.ops.length (ops s.ops)),cK (most),cD (dS e.length (is e)),Cl.ref 1 (((zX5 most F o l (maR s.ims o x y l.length))).length)],bR 249 14 (frs (zX5 most F o l (maR s.ims o x y l.length)))],false⟩:=
 zZp (Γ:=jWI) aL zQf Tryz.func159 rfl (nL rfl) rfl fun hwf hbx=>by
  refine Eq.mpr (by kernel_rfl:_=(let b:=(F.length:Int); let c:=(zX5 most F o l (maR s.ims o x y l.length)); let a:=(wK (b - 1)); let g:=(bAt (frs F) (a.toNat*14+0+11)); let h:=(a.toNat*14+13); let k:=(dS (lAt (frs F) h) (cAt (frs F) h)); let d:=(a.toNat*14+12); let m:=(dS (lAt (frs F) d) (cAt (frs F) d)); let i:=(maR (zQc (ims s.ims)) o x y (l.length:Int).toNat); let n:=(dS i.length (u16s i)); let j:=(scR most o.opac (zQe (pxs l)) (ints (u16s i))); let p:=(dS j.length (pxs j)); let q:=(stR g o.oper o.mode most (zQe (pxs j)) (jQu (cAt (frs F) d)) (zQe (cAt (frs F) h))); let r:=(dS q.length (acs q)); let t:=(dS s.ord.length (is s.ord)); let u:=(dS s.ims.length (ims s.ims)); let v:=(dS s.ops.length (ops s.ops)); let f:=[bC [cJ s.bits,cJ s.c.a,cJ s.c.b,cJ s.c.c,cJ s.c.d,cJ s.tw,cJ s.th,cD t,cD u,cD v,cK most,cD (dS e.length (is e)),Cl.ref 1 F.length],bR 249 14 (frs F)]; tU8 ((AnsG prog 213 2 [aPz,AV.agg [cJ o.kind,cJ o.image,cJ o.x,cJ o.y,cJ o.mask,cJ o.mx,cJ o.my,cK o.opac,cJ o.oper,cJ o.mode,cD (dQ o.iso),cD (dQ o.kno)],aJ x,aJ y,aJ (l.length:Int)] f ⟨aO (cD n),f,false⟩∧f=f)∧tU6 ((Ans prog 212 [rD (dS l.length (pxs l)),rD n,rD (dK o.opac),rD (dK most)] (rT [rD p,rD (dQ true)]))∧tU4 ((true=true)∧tU8 ((F.length≤maxLen)∧True∧(0≤wK (b - 1)∧wK (b - 1) < b)∧True∧(true=true)∧tU5 ((((frs F)[a.toNat*14+0+11]?=some (dQ g))∧True)∧tU4 (tU8 ((((frs F)[a.toNat*14+12]?=some m)∧True)∧tU3 ((((frs F)[a.toNat*14+13]?=some k)∧True)∧(Ans prog 214 [rD (dQ g),rJ o.oper,rJ o.mode,rD (dK most),rD p,rD m,rD k] (rT [rD r,rD (dQ true)]))∧tU5 ((a.toNat*14+12+1≤(frs F).length)∧(true=true)∧((True∧True)∧(((dJ s.bits=dJ s.bits)∧(dJ s.c.a=dJ s.c.a)∧(dJ s.c.b=dJ s.c.b)∧(dJ s.c.c=dJ s.c.c)∧(dJ s.c.d=dJ s.c.d)∧(dJ s.tw=dJ s.tw)∧(dJ s.th=dJ s.th)∧(dS s.ord.length (is s.ord)=dS s.ord.length (is s.ord))∧(dS s.ims.length (ims s.ims)=dS s.ims.length (ims s.ims))∧(dS s.ops.length (ops s.ops)=dS s.ops.length (ops s.ops))∧(dK most=dK most)∧(dS e.length (is e)=dS e.length (is e))∧(F.length=c.length)∧True)∧(List.set (frs F) d r=frs c)∧True))∧zQC ⟨AV.tup [],[bC [cJ s.bits,cJ s.c.a,cJ s.c.b,cJ s.c.c,cJ s.c.d,cJ s.tw,cJ s.th,cD t,cD u,cD v,cK most,cD (dS e.length (is e)),Cl.ref 1 c.length],bR 249 14 (frs c)],false⟩))))))))))) ?_
  delta dJ dK dQ cJ cK wK dS rJ aJ aPz bC
  simp only [sS]
  clear hwf hbx
  have hM:∀ n:Nat,n≤100000→n≤maxLen:=fun n h=>by unfold maxLen; omega
  have wF:wrap .i64 ((F.length:Int) - 1)=(F.length:Int) - 1:=IntWalk.i64_in _ ⟨by omega,by omega⟩
  have nF:((F.length:Int) - 1).toNat=F.length - 1:=by omega
  have kF:F.length - 1 < F.length:=by omega
  have tF:F[F.length - 1]=topF F:=by unfold topF; rw [List.getElem?_eq_getElem kF]; rfl
  have r:=jXt kF
  have q:=jXv kF
  rw [tF] at r q
  simp only [Nat.add_zero] at r q
  rw [zZd,zZq,jVo]
  simp only [zZq,wF,nF,Nat.add_assoc,Nat.add_zero,Nat.zero_add,Nat.reduceAdd]
  obtain ⟨p0,p1,p2,p3,p4,p5,p6,p7,p8,p9,p10,p11,p12,p13⟩:=q
  obtain ⟨s0,s1,s2,s3,s4,s5,s6,s7,s8,s9,s10,s11,s12,s13⟩:=r
  rw [p11,p12.1,p12.2,p13.1,p13.2,zVZ,zZq]
  have M:=zJX s most e F o x y l.length hu hI hxy hmk ⟨by omega,by omega⟩
  have Q:=jUM s.ims o x y l.length
  refine ⟨M,zHs l (maR s.ims o x y l.length) o.opac most hl Q hok1,hM _ (by omega),⟨by omega,by omega⟩,s11,s12,s13,jQy (topF F).op.kno o.oper o.mode most (scR most o.opac l (maR s.ims o x y l.length)) (topF F).acc (topF F).back (by rw [zJt]; exact hl) (by rw [zJt]; exact ha) (by rw [zJt]; exact hb) ho hmo (by rw [zJt]; exact hok2),by rw [zW9]; omega,⟨?_,?_⟩,trivial⟩
  ·unfold zX5; rw [List.length_set]
  ·rw [jWK kF,tF]; rfl
theorem zJW (s:Scr) (most:Int) (e:List Int) (F:List Fr) (o:Oq) (hF:1≤F.length∧F.length≤66) (ha:(topF F).acc.length≤100000) (hb:(topF F).back.length=(topF F).acc.length):AnsG prog 160 1 [aPz,AV.agg [cJ (o.kind),cJ (o.image),cJ (o.x),cJ (o.y),cJ (o.mask),cJ (o.mx),cJ (o.my),cK (o.opac),cJ (o.oper),cJ (o.mode),cD (dQ o.iso),cD (dQ o.kno)]] [bC [cJ (s.bits),cJ (s.c.a),cJ (s.c.b),cJ (s.c.c),cJ (s.c.d),cJ (s.tw),cJ (s.th),cD (dS s.ord.length (is s.ord)),cD (dS s.ims.length (ims s.ims)),cD (dS s.ops.length (ops s.ops)),cK (most),cD (dS e.length (is e)),Cl.ref 1 F.length],bR 249 14 (frs F)] ⟨AV.tup [],[bC [cJ (s.bits),cJ (s.c.a),cJ (s.c.b),cJ (s.c.c),cJ (s.c.d),cJ (s.tw),cJ (s.th),cD (dS s.ord.length (is s.ord)),cD (dS s.ims.length (ims s.ims)),cD (dS s.ops.length (ops s.ops)),cK (most),cD (dS e.length (is e)),Cl.ref 1 (((zKr F o)).length)],bR 249 14 (frs (zKr F o))],false⟩:=
 zZp (Γ:=jWI) (let a:=(wK ((F.length:Int) - 1)); let d:=(a.toNat*14+1+1+1+1+1+1+1+1+1+1+1+1+1); let b:=(a.toNat*14+1+1+1+1+1+1+1+1+1+1+1+1); let c:=((lAt (frs F) b:Nat):Int); Ann.seq aL (aQ aL (aQ aL (aQ (aQ aL (Ann.loop ⟨Nat,fun k=>k≤(topF F).acc.length,fun k=>⟨[(0,aPz),(3,aO (Cl.ptr 3 0)),(4,aO (Cl.ptr 4 0)),(5,aO (Cl.ptr 5 0)),(31,aJ ((c.toNat:Nat):Int)),(32,aJ (k:Int))],[(0,bC [cJ s.bits,cJ s.c.a,cJ s.c.b,cJ s.c.c,cJ s.c.d,cJ s.tw,cJ s.th,cD (dS s.ord.length (is s.ord)),cD (dS s.ims.length (ims s.ims)),cD (dS s.ops.length (ops s.ops)),cK most,cD (dS e.length (is e)),Cl.ref 1 F.length]),(3,bC [cJ o.kind,cJ o.image,cJ o.x,cJ o.y,cJ o.mask,cJ o.mx,cJ o.my,cK o.opac,cJ o.oper,cJ o.mode,cD (dQ o.iso),cD (dQ o.kno)]),(4,bC [cJ (nAt (frs F) (a.toNat*14)),cJ (nAt (frs F) (a.toNat*14+1)),cJ (nAt (frs F) (a.toNat*14+1+1)),cJ (nAt (frs F) (a.toNat*14+1+1+1)),cJ (nAt (frs F) (a.toNat*14+1+1+1+1)),cJ (nAt (frs F) (a.toNat*14+1+1+1+1+1)),cJ (nAt (frs F) (a.toNat*14+1+1+1+1+1+1)),cK (nAt (frs F) (a.toNat*14+1+1+1+1+1+1+1)),cJ (nAt (frs F) (a.toNat*14+1+1+1+1+1+1+1+1)),cJ (nAt (frs F) (a.toNat*14+1+1+1+1+1+1+1+1+1)),cD (dQ (bAt (frs F) (a.toNat*14+1+1+1+1+1+1+1+1+1+1))),cD (dQ (bAt (frs F) (a.toNat*14+1+1+1+1+1+1+1+1+1+1+1))),cD (dS (lAt (frs F) b) (cAt (frs F) b)),cD (dS (lAt (frs F) d) (cAt (frs F) d))]),(5,bC [cJ o.kind,cJ o.image,cJ o.x,cJ o.y,cJ o.mask,cJ o.mx,cJ o.my,cK o.opac,cJ o.oper,cJ o.mode,cD (dQ o.iso),cD (dQ o.kno),Cl.ref 23 c.toNat,Cl.ref 27 c.toNat]),(1,bR 249 14 (frs F)),(23,bR 199 6 (acs (rngK (topF F).acc.length k (jJZ (topF F) o) .zero))),(27,bR 37 5 (pxs (rngK (topF F).acc.length k (jJY (topF F) o) .zero)))]⟩,fun k=>(topF F).acc.length - k⟩ fun k=>aL)) aL)))) zQf Tryz.func160 rfl (nL rfl) rfl fun hwf hbx=>by
  refine Eq.mpr (by kernel_rfl:_=(let q:=(jJY (topF F) o); let l:=(F.length:Int); let r:=(jJZ (topF F) o); let h:=(wK (l - 1)); let x:=(nAt (frs F) (h.toNat*14)); let y:=(nAt (frs F) (h.toNat*14+1)); let z:=(nAt (frs F) (h.toNat*14+1+1)); let A:=(nAt (frs F) (h.toNat*14+1+1+1)); let B:=(nAt (frs F) (h.toNat*14+1+1+1+1)); let C:=(nAt (frs F) (h.toNat*14+1+1+1+1+1)); let D:=(nAt (frs F) (h.toNat*14+1+1+1+1+1+1)); let E:=(nAt (frs F) (h.toNat*14+1+1+1+1+1+1+1)); let G:=(nAt (frs F) (h.toNat*14+1+1+1+1+1+1+1+1)); let H:=(nAt (frs F) (h.toNat*14+1+1+1+1+1+1+1+1+1)); let I:=(bAt (frs F) (h.toNat*14+1+1+1+1+1+1+1+1+1+1)); let m:=(h.toNat*14+1+1+1+1+1+1+1+1+1+1+1+1+1); let j:=(bAt (frs F) (h.toNat*14+1+1+1+1+1+1+1+1+1+1+1)); let g:=(cAt (frs F) m); let n:=(h.toNat*14+1+1+1+1+1+1+1+1+1+1+1+1); let i:=((lAt (frs F) n:Nat):Int); let p:=((i.toNat:Nat):Int); let d:=(cAt (frs F) n); let J:=(dJ p=dJ p); let K:=(dJ s.bits=dJ s.bits); let L:=(dJ s.c.a=dJ s.c.a); let M:=(dJ s.c.b=dJ s.c.b); let N:=(dJ s.c.c=dJ s.c.c); let O:=(dJ s.c.d=dJ s.c.d); let P:=(dJ s.tw=dJ s.tw); let Q:=(dJ s.th=dJ s.th); let R:=(dS s.ord.length (is s.ord)=dS s.ord.length (is s.ord)); let S:=(dS s.ims.length (ims s.ims)=dS s.ims.length (ims s.ims)); let T:=(dS s.ops.length (ops s.ops)=dS s.ops.length (ops s.ops)); let U:=(dK most=dK most); let V:=(dS e.length (is e)=dS e.length (is e)); let W:=(K∧L∧M∧N∧O∧P∧Q∧R∧S∧T∧U∧V∧(F.length=F.length)∧True); let X:=((Oq.cells o)=(Oq.cells o)); let Y:=[dJ x,dJ y,dJ z,dJ A,dJ B,dJ C,dJ D,dK E,dJ G,dJ H,dQ I,dQ j,dS (lAt (frs F) n) d,dS (lAt (frs F) m) g]; let Z:=(Y=Y); let z0:=(i.toNat=i.toNat); let z1:=((dJ o.kind=dJ o.kind)∧(dJ o.image=dJ o.image)∧(dJ o.x=dJ o.x)∧(dJ o.y=dJ o.y)∧(dJ o.mask=dJ o.mask)∧(dJ o.mx=dJ o.mx)∧(dJ o.my=dJ o.my)∧(dK o.opac=dK o.opac)∧(dJ o.oper=dJ o.oper)∧(dJ o.mode=dJ o.mode)∧(dQ o.iso=dQ o.iso)∧(dQ o.kno=dQ o.kno)∧z0∧z0∧True); let z2:=fun (k:Nat)=>(let aA:=(zQB o.iso j (⟨(nAt d (k*6)),(nAt d (k*6+1)),(nAt d (k*6+1+1)),(nAt d (k*6+1+1+1)),(nAt d (k*6+1+1+1+1)),(nAt d (k*6+1+1+1+1+1))⟩:Ac) (⟨(nAt g (k*5)),(nAt g (k*5+1)),(nAt g (k*5+1+1)),(nAt g (k*5+1+1+1)),(nAt g (k*5+1+1+1+1))⟩:Px)); [dK aA.1.a,dK aA.1.b,dK aA.1.c,dK aA.1.al,dK aA.1.own,dK aA.1.f]); let z3:=fun (k:Nat)=>(let aA:=(zQB o.iso j (⟨(nAt d (k*6)),(nAt d (k*6+1)),(nAt d (k*6+1+1)),(nAt d (k*6+1+1+1)),(nAt d (k*6+1+1+1+1)),(nAt d (k*6+1+1+1+1+1))⟩:Ac) (⟨(nAt g (k*5)),(nAt g (k*5+1)),(nAt g (k*5+1+1)),(nAt g (k*5+1+1+1)),(nAt g (k*5+1+1+1+1))⟩:Px)); [dK aA.2.a,dK aA.2.b,dK aA.2.c,dK aA.2.al,dK aA.2.f]); let z4:=fun (k:Nat)=>(0≤(k:Int)∧(k:Int) < p); let t:=fun (k:Nat)=>(pxs (rngK (topF F).acc.length k q .zero)); True∧tU8 ((F.length≤maxLen)∧True∧(0≤wK (l - 1)∧wK (l - 1) < l)∧(((frs F)[h.toNat*14]?=some (dJ x))∧((frs F)[h.toNat*14+1]?=some (dJ y))∧((frs F)[h.toNat*14+1+1]?=some (dJ z))∧((frs F)[h.toNat*14+1+1+1]?=some (dJ A))∧((frs F)[h.toNat*14+1+1+1+1]?=some (dJ B))∧((frs F)[h.toNat*14+1+1+1+1+1]?=some (dJ C))∧((frs F)[h.toNat*14+1+1+1+1+1+1]?=some (dJ D))∧((frs F)[h.toNat*14+1+1+1+1+1+1+1]?=some (dK E))∧((frs F)[h.toNat*14+1+1+1+1+1+1+1+1]?=some (dJ G))∧((frs F)[h.toNat*14+1+1+1+1+1+1+1+1+1]?=some (dJ H))∧((frs F)[h.toNat*14+1+1+1+1+1+1+1+1+1+1]?=some (dQ I))∧((frs F)[h.toNat*14+1+1+1+1+1+1+1+1+1+1+1]?=some (dQ j))∧((frs F)[h.toNat*14+1+1+1+1+1+1+1+1+1+1+1+1]?=some (dS (lAt (frs F) n) d))∧((frs F)[h.toNat*14+1+1+1+1+1+1+1+1+1+1+1+1+1]?=some (dS (lAt (frs F) m) g))∧True)∧tU2 ((true=true)∧tU4 ((0≤i∧i≤i∧i≤(maxLen:Int)∧((12:Nat):Int)*i≤281474976710656)∧tU3 ((0≤i∧i≤i∧i≤(maxLen:Int)∧((10:Nat):Int)*i≤281474976710656)∧tU3 ((true=true)∧tU2 ((i.toNat≤maxLen)∧True∧((∃ k:Nat,(k≤(topF F).acc.length)∧(((0=0)∧(0=0)∧(0=0)∧(0=0)∧J∧(dJ 0=dJ (k:Int))∧True)∧(W∧X∧Z∧z1∧(frs F=frs F)∧(repl i.toNat [dK 0,dK 0,dK 0,dK 0,dK 0,dK 0]=acs (rngK (topF F).acc.length k r .zero))∧(repl i.toNat [dK 0,dK 0,dK 0,dK 0,dK 0]=pxs (rngK (topF F).acc.length k q .zero))∧True)))∧∀ k:Nat,let z5:=(decide ((k:Int) < p)); let u:=(k*5); let v:=(k*6); let z6:=(nAt g (k*5+1)); let z7:=(nAt d (k*6+1)); let z8:=(nAt g (k*5+1+1)); let z9:=(nAt d (k*6+1+1)); let y0:=(nAt g (k*5+1+1+1)); let y1:=(nAt d (k*6+1+1+1)); let y2:=(nAt g (k*5+1+1+1+1)); let y3:=(nAt d (k*6+1+1+1+1)); let y4:=(nAt d (k*6+1+1+1+1+1)); let w:=(acs (rngK (topF F).acc.length k r .zero)); let y5:=([dJ o.kind,dJ o.image,dJ o.x,dJ o.y,dJ o.mask,dJ o.mx,dJ o.my,dK o.opac,dJ o.oper,dJ o.mode,dQ o.iso,dQ o.kno,dS i.toNat w,dS i.toNat (t k)]); (k≤(topF F).acc.length)→True∧((z5=true→tU8 (tU8 ((0≤(k:Int)∧(k:Int) < i∧k*6 < d.length)∧((d[k*6]?=some (dK (nAt d v)))∧(d[k*6+1]?=some (dK z7))∧(d[k*6+1+1]?=some (dK z9))∧(d[k*6+1+1+1]?=some (dK y1))∧(d[k*6+1+1+1+1]?=some (dK y3))∧(d[k*6+1+1+1+1+1]?=some (dK y4))∧True)∧tU3 ((0≤(k:Int)∧(k:Int) < ((lAt (frs F) m:Nat):Int)∧k*5 < g.length)∧((g[k*5]?=some (dK (nAt g u)))∧(g[k*5+1]?=some (dK z6))∧(g[k*5+1+1]?=some (dK z8))∧(g[k*5+1+1+1]?=some (dK y0))∧(g[k*5+1+1+1+1]?=some (dK y2))∧True)∧(Ans prog 181 [rD (dQ o.iso),rD (dQ j),rA [dK (nAt d v),dK z7,dK z9,dK y1,dK y3,dK y4],rA [dK (nAt g u),dK z6,dK z8,dK y0,dK y2]] (rT [rA (z2 k),rA (z3 k)]))∧tU3 ((z4 k)∧(k*6+6≤w.length)∧(z4 k)∧(k*5+5≤(t k).length)∧(true=true)∧tU2 (∃ k':Nat,(k'≤(topF F).acc.length)∧((topF F).acc.length - k' < (topF F).acc.length - k)∧(((0=0)∧(0=0)∧(0=0)∧(0=0)∧J∧(dJ (wK ((k:Int)+1))=dJ (k':Int))∧True)∧(W∧X∧Z∧z1∧(frs F=frs F)∧(sets w v (z2 k)=acs (rngK (topF F).acc.length k' r .zero))∧(sets (t k) u (z3 k)=pxs (rngK (topF F).acc.length k' q .zero))∧True))))))))∧(z5=false→tU7 ((zZL 14 136 F.length 1 (frs F) y5)∧tU3 ((true=true)∧((True∧True)∧((K∧L∧M∧N∧O∧P∧Q∧R∧S∧T∧U∧V∧(F.length+1=(zKr F o).length)∧True)∧((frs F)++y5=frs (zKr F o))∧True))∧zQC ⟨AV.tup [],[bC [cJ s.bits,cJ s.c.a,cJ s.c.b,cJ s.c.c,cJ s.c.d,cJ s.tw,cJ s.th,cD (dS s.ord.length (is s.ord)),cD (dS s.ims.length (ims s.ims)),cD (dS s.ops.length (ops s.ops)),cK most,cD (dS e.length (is e)),Cl.ref 1 (zKr F o).length],bR 249 14 (frs (zKr F o))],false⟩))))))))))))) ?_
  delta dJ dK dQ cJ cK wK dS bC
  simp only [sS]
  clear hwf hbx
  have hM:∀ n:Nat,n≤100000→n≤maxLen:=fun n h=>by unfold maxLen; omega
  have wF:wrap .i64 ((F.length:Int) - 1)=(F.length:Int) - 1:=IntWalk.i64_in _ ⟨by omega,by omega⟩
  have nF:((F.length:Int) - 1).toNat=F.length - 1:=by omega
  have kF:F.length - 1 < F.length:=by omega
  have tF:F[F.length - 1]=topF F:=by unfold topF; rw [List.getElem?_eq_getElem kF]; rfl
  have r:=jXt kF
  have q:=jXv kF
  rw [tF] at r q
  simp only [Nat.add_zero] at r q
  simp only [wF,nF,Nat.add_assoc,Nat.add_zero,Nat.zero_add,Nat.reduceAdd]
  obtain ⟨p0,p1,p2,p3,p4,p5,p6,p7,p8,p9,p10,p11,p12,p13⟩:=q
  obtain ⟨s0,s1,s2,s3,s4,s5,s6,s7,s8,s9,s10,s11,s12,s13⟩:=r
  simp only [p0,p1,p2,p3,p4,p5,p6,p7,p8,p9,p10,p11,p12.1,p12.2,p13.1,p13.2,s0,s1,s2,s3,s4,s5,s6,s7,s8,s9,s10,s11,s12,s13,true_and,and_true]
  clear p0 p1 p2 p3 p4 p5 p6 p7 p8 p9 p10 p11 p12 p13 s0 s1 s2 s3 s4 s5 s6 s7 s8 s9 s10 s11 s12 s13
  have hP:zKr F o=F++[⟨o,rng (topF F).acc.length (jJZ (topF F) o),rng (topF F).acc.length (jJY (topF F) o)⟩]:=rfl
  have hL:(zKr F o).length=F.length+1:=by rw [hP,List.length_append]; rfl
  generalize topF F=t at *
  have za:repl t.acc.length [DV.int .u16 0,DV.int .u16 0,DV.int .u16 0,DV.int .u16 0,DV.int .u16 0,DV.int .u16 0]=acs (rngK t.acc.length 0 (jJZ t o) .zero):=by
   rw [jZG]; unfold repl acs
   rw [List.flatMap_def,List.map_replicate]; rfl
  have zb:repl t.acc.length [DV.int .u16 0,DV.int .u16 0,DV.int .u16 0,DV.int .u16 0,DV.int .u16 0]=pxs (rngK t.acc.length 0 (jJY t o) .zero):=by
   rw [jZG]; unfold repl pxs
   rw [List.flatMap_def,List.map_replicate]; rfl
  refine ⟨hM _ (by omega),⟨by omega,by omega⟩,⟨by omega,Int.le_refl _,by have:=hM _ ha; omega,by omega⟩,⟨by omega,Int.le_refl _,by have:=hM _ ha; omega,by omega⟩,hM _ ha,⟨0,Nat.zero_le _,⟨rfl,za,zb⟩⟩,fun k hk=>⟨fun hlt=>?_,fun hge=>?_⟩⟩
  ·have k1:k < t.acc.length:=by omega
   have k2:k < t.back.length:=by omega
   obtain ⟨a0,a1,a2,a3,a4,a5⟩:=zHj k1
   obtain ⟨c0,c1,c2,c3,c4⟩:=zQU k2
   have ra:=zHi k1
   have rb:=zJK k2
   simp only [Nat.add_zero] at a0 ra
   have hA:=jQr k1
   have hB:=zY7 k2
   simp only [a0,a1,a2,a3,a4,a5,c0,c1,c2,c3,c4,Nat.add_assoc,Nat.reduceAdd] at ra rb ⊢
   rw [← hA] at ra ⊢
   rw [← hB] at rb ⊢
   have hw:wrap .i64 ((k:Int)+1)=((k+1:Nat):Int):=by rw [IntWalk.i64_in _ ⟨by omega,by omega⟩]; omega
   refine ⟨⟨by omega,by omega,by rw [zXW]; omega⟩,ra,⟨by omega,by omega,by rw [zQx]; omega⟩,rb,zGU o.iso t.op.kno (acN t.acc k) (pxN t.back k),⟨by omega,by omega⟩,by rw [zXW,zUQ]; omega,⟨by omega,by omega⟩,by rw [zQx,zUQ]; omega,k+1,by omega,by omega,hw,?_,?_⟩
   ·have:=jW4 (l:=rngK t.acc.length k (jJZ t o) .zero) (k:=k) (by rw [zUQ]; omega) (jJZ t o k)
    rw [jY1] at this
    exact this
   ·have:=jY6 (l:=rngK t.acc.length k (jJY t o) .zero) (k:=k) (by rw [zUQ]; omega) (jJY t o k)
    rw [jY1] at this
    exact this
  ·have e:k=t.acc.length:=by omega
   subst e
   rw [jZH _ _ (Nat.le_refl _),jZH _ _ (Nat.le_refl _)]
   refine ⟨⟨by rw [zW9],rfl,hM _ (by omega),by omega⟩,⟨hL.symm,?_⟩,trivial⟩
   rw [hP,← jKe]
   unfold frs Fr.cells
   simp only [List.flatMap_cons,List.flatMap_nil,List.append_nil,zZ7]
   rfl
end
def popF (s:Scr) (m x y:Int) (F:List Fr):List Fr:=
 zX5 m F.dropLast (topF F).op (rsR m (topF F).acc (topF F).back) (maR s.ims (topF F).op x y (rsR m (topF F).acc (topF F).back).length)
def jU4 (s:Scr) (m x y n:Int) (F:List Fr) (o:Oq):List Fr:=
 zX5 m F o (pixR s.ims o.image (x - o.x) (y - o.y) n.toNat) (maR s.ims o x y (pixR s.ims o.image (x - o.x) (y - o.y) n.toNat).length)
def zHu (s:Scr) (m:Int) (e:List Int) (act:List Bool) (x y n:Int) (q:Nat × List Fr) (o:Oq):Nat × List Fr:=
 if o.kind=3 then (q.1+1,popF s m x y q.2)
 else if (act[q.1]?).getD false=false then (((e[q.1]?).getD 0).toNat+1,q.2)
 else if o.kind=2 then (q.1+1,zKr q.2 o)
 else (q.1+1,jU4 s m x y n q.2 o)
def zWO (s:Scr) (m:Int) (e:List Int) (act:List Bool) (x y n:Int) (q:Nat × List Fr):Nat × List Fr:=
 match s.ops[q.1]? with
 | none=>q
 | some o=>zHu s m e act x y n q o
def zQT (s:Scr) (m:Int) (e:List Int) (act:List Bool) (x y n:Int):Nat→Nat × List Fr
 | 0=>(0,[zUv n.toNat])
 | k+1=>zWO s m e act x y n (zQT s m e act x y n k)
def zYw (s:Scr) (m:Int) (e:List Int) (act:List Bool) (x y n:Int):List Fr:=(zQT s m e act x y n s.ops.length).2
def frN (F:List Fr) (k:Nat):Fr:=(F[k]?).getD (zUv 0)
def zYv (s:Scr) (m:Int) (e:List Int) (act:List Bool) (x y n:Int):List Px:=
 rsR m (frN (zYw s m e act x y n) 0).acc (frN (zYw s m e act x y n) 0).back
structure zUd (s:Scr) (m:Int) (F:List Fr) (o:Oq) (l:List Px) (x y:Int):Prop where
  len:1≤F.length∧F.length≤66
  mask:(0≤o.mask∧o.mask≤s.ims.length)∧(-1073741824≤o.mx∧o.mx≤1073741824) ∧ -1073741824≤o.my∧o.my≤1073741824
  src:l.length≤100000
  oper:isNm o.oper=true
  mode:isNm o.mode=true
  acc:(topF F).acc.length=l.length
  back:(topF F).back.length=l.length
  ok1:∀ j,j < l.length→(zXx (pxN l j) (ksN (maR s.ims o x y l.length) m j) o.opac m).2=true
  ok2:∀ j,j < l.length→zZN (topF F).op.kno o.oper o.mode m (pxN (scR m o.opac l (maR s.ims o x y l.length)) j) (acN (topF F).acc j) (pxN (topF F).back j)=true
def FrOk (m:Int) (t:Fr):Prop:=t.acc.length≤100000∧t.back.length=t.acc.length∧∀ j,j < t.acc.length→(acN t.acc j).ok (pxN t.back j) m=true
structure jV4 (s:Scr) (m:Int) (e:List Int) (act:List Bool) (x y n:Int) (q:Nat × List Fr) (o:Oq):Prop where
  len:1≤q.2.length∧q.2.length≤65
  fr:FrOk m (topF q.2)
  pop:o.kind=3→2≤q.2.length∧zUd s m q.2.dropLast (topF q.2).op (rsR m (topF q.2).acc (topF q.2).back) x y
  inA:o.kind≠3→q.1 < act.length
  skip:o.kind≠3→act[q.1]?=some false→∃ v:Nat,e[q.1]?=some (v:Int)∧q.1≤v∧v < s.ops.length
  draw:o.kind≠3→o.kind≠2→act[q.1]?=some true→zUd s m q.2 o (pixR s.ims o.image (x - o.x) (y - o.y) n.toNat) x y∧(0≤o.image∧o.image < s.ims.length)∧(-1073741824≤o.x∧o.x≤1073741824) ∧ -1073741824≤o.y∧o.y≤1073741824
structure zHm (s:Scr) (m:Int) (e:List Int) (act:List Bool) (x y n:Int):Prop where
  step:∀ k o,s.ops[(zQT s m e act x y n k).1]?=some o→jV4 s m e act x y n (zQT s m e act x y n k) o
  last:1≤(zYw s m e act x y n).length∧(zYw s m e act x y n).length≤65∧FrOk m (frN (zYw s m e act x y n) 0)
  wide:(frN (zYw s m e act x y n) 0).acc.length=n.toNat
theorem zWN {s:Scr} {m:Int} {e:List Int} {act:List Bool} {x y n:Int} {q:Nat × List Fr} (h:q.1 < s.ops.length):zWO s m e act x y n q=zHu s m e act x y n q s.ops[q.1]:=by
 unfold zWO; rw [List.getElem?_eq_getElem h]
theorem zGh {s:Scr} {m:Int} {e:List Int} {act:List Bool} {x y n:Int} {q:Nat × List Fr} (h:s.ops.length≤q.1):zWO s m e act x y n q=q:=by
 unfold zWO; rw [List.getElem?_eq_none h]
theorem zK1 (s:Scr) (m:Int) (e:List Int) (act:List Bool) (x y n:Int) (k:Nat):zQT s m e act x y n (k+1)=zWO s m e act x y n (zQT s m e act x y n k):=rfl
theorem jYZ {s:Scr} {m:Int} {e:List Int} {act:List Bool} {x y n:Int} {q:Nat × List Fr} {o:Oq} (h:jV4 s m e act x y n q o):q.1 < (zHu s m e act x y n q o).1:=by
 unfold zHu
 split
 ·exact Nat.lt_succ_self _
 ·next h3=>
  split
  ·next h2=>
   have hl:=h.inA h3
   have ha:act[q.1]?=some false:=by
    rw [List.getElem?_eq_getElem hl] at h2 ⊢
    exact congrArg some h2
   obtain ⟨v,hv,h1,_⟩:=h.skip h3 ha
   rw [hv]
   show q.1 < ((v:Int).toNat+1)
   omega
  ·split <;> exact Nat.lt_succ_self _
theorem zK2 {s:Scr} {m:Int} {e:List Int} {act:List Bool} {x y n:Int} {k:Nat} (h:s.ops.length≤(zQT s m e act x y n k).1):∀ j,zQT s m e act x y n (k+j)=zQT s m e act x y n k
 | 0=>rfl
 | j+1=>by
  rw [← Nat.add_assoc,zK1,zK2 h j,zGh h]
theorem jQE {s:Scr} {m:Int} {e:List Int} {act:List Bool} {x y n:Int} (g:∀ k o,s.ops[(zQT s m e act x y n k).1]?=some o→jV4 s m e act x y n (zQT s m e act x y n k) o):∀ k,min k s.ops.length≤(zQT s m e act x y n k).1
 | 0=>by omega
 | k+1=>by
  have ih:=jQE g k
  rcases Nat.lt_or_ge (zQT s m e act x y n k).1 s.ops.length with h | h
  ·have:=jYZ (g k _ (List.getElem?_eq_getElem h))
   rw [zK1,zWN h]; omega
  ·have:=zK2 (s:=s) (k:=k) h 1
   rw [this]; omega
theorem jKT {s:Scr} {m:Int} {e:List Int} {act:List Bool} {x y n:Int} (g:zHm s m e act x y n) {k:Nat} (h:s.ops.length≤(zQT s m e act x y n k).1):(zQT s m e act x y n k).2=zYw s m e act x y n:=by
 unfold zYw
 have hl:s.ops.length≤(zQT s m e act x y n s.ops.length).1:=by have:=jQE g.step s.ops.length; omega
 rcases Nat.le_total k s.ops.length with hk | hk
 ·obtain ⟨j,ej⟩:=Nat.le.dest hk
  rw [← ej,zK2 h j]
 ·obtain ⟨j,ej⟩:=Nat.le.dest hk
  rw [← ej,zK2 hl j]
theorem jWJ (l:List Fr) (k:Nat):(frs l).take (k*14)=frs (l.take k):=by
 induction l generalizing k with
 | nil=>simp [frs]
 | cons q l ih=>
  have e0:∀ t,frs (q::t)=q.cells++frs t:=fun t=>by simp [frs]
  have ec:q.cells.length=14:=rfl
  cases k with
  | zero=>simp [frs]
  | succ k=>
   rw [e0,List.take_append,ec,List.take_of_length_le (by omega),show (k+1)*14 - 14=k*14 by omega,ih,List.take_succ_cons,e0]
theorem jXu (l:List Fr):(frs l).take ((l.length - 1)*14)=frs l.dropLast:=by
 rw [jWJ,List.dropLast_eq_take]
def toBs (xs:List DV):List Bool:=(List.range xs.length).map (bAt xs)
theorem jUr (l:List Bool):toBs (bs l)=l:=by
 unfold toBs
 rw [zHa]
 refine List.ext_getElem (by simp) fun i h1 h2=>?_
 simp only [List.getElem_map,List.getElem_range]
 exact jVS (List.getElem?_eq_getElem h2)
section
attribute [local irreducible] Ans AnsO AnsG AnsN AnsI
def gZ55 (xs:List AV) (bs:List Bx):Option Ret:=match xs,bs with | [AV.one (Cl.ptr 0 0),AV.one (Cl.d (DV.int _ x)),AV.one (Cl.d (DV.int _ y)),AV.one (Cl.d (DV.int _ n)),AV.one (Cl.d (DV.sl an axs))],[Bx.cells [Cl.d (DV.int _ bits),Cl.d (DV.int _ cx0),Cl.d (DV.int _ cy0),Cl.d (DV.int _ cx1),Cl.d (DV.int _ cy1),Cl.d (DV.int _ tw),Cl.d (DV.int _ th),Cl.d (DV.sl on oxs),Cl.d (DV.sl mn mxs),Cl.d (DV.sl qn qxs),Cl.d (DV.int _ most),Cl.d (DV.sl en exs),Cl.ref 1 fn],Bx.row _ _ fxs]=>some ⟨AV.one (Cl.d (dS (zYv (⟨bits,⟨cx0,cy0,cx1,cy1⟩,tw,th,ints oxs,zQc mxs,zQb qxs⟩:Scr) most (ints exs) (toBs axs) x y n).length (pxs (zYv (⟨bits,⟨cx0,cy0,cx1,cy1⟩,tw,th,ints oxs,zQc mxs,zQb qxs⟩:Scr) most (ints exs) (toBs axs) x y n)))),[bC [cJ bits,cJ cx0,cJ cy0,cJ cx1,cJ cy1,cJ tw,cJ th,Cl.d (dS on oxs),Cl.d (dS mn mxs),Cl.d (dS qn qxs),cK most,Cl.d (dS en exs),Cl.ref 1 (zYw (⟨bits,⟨cx0,cy0,cx1,cy1⟩,tw,th,ints oxs,zQc mxs,zQb qxs⟩:Scr) most (ints exs) (toBs axs) x y n).length],Bx.row 249 14 (frs (zYw (⟨bits,⟨cx0,cy0,cx1,cy1⟩,tw,th,ints oxs,zQc mxs,zQb qxs⟩:Scr) most (ints exs) (toBs axs) x y n))],false⟩ | _,_=>none
def jGS:Gam where
 pure:=fun f xs=>
  if f=158 then (match xs with | [.d (.sl an axs),.d (.sl bn bxs),.d (.int _ m)]=>let a:=(rsR m (jQu axs) (zQe bxs)); some (RV.tup [RV.d (dS a.length (pxs a)),RV.d (dQ true)]) | _=>none) else
  none
 modes:=fun f=>
  if f=161 then some ([false,true,true,true,true],2,1000) else
  if f=159 then some ([false,true,true,true,true],1,1) else
  if f=160 then some ([false,true],1,1) else
  if f=82 then some ([false,true,true,true,true],1,1) else
  none
 proc:=fun f xs bs=>
  if f=161 then gZ52 xs bs else
  if f=159 then gZ53 xs bs else
  if f=160 then gZ54 xs bs else
  if f=82 then gZ55 xs bs else
  none
 iter:=fun f cs=>
  none
theorem zKq (s:Scr) (most:Int) (e:List Int) (F:List Fr) (x y n:Int) (act:List Bool) (hu:∀ m∈s.ims,m.isU) (hI:s.ims.length≤1000000) (hG:zHm s most e act x y n) (hn:0≤n∧n≤100000) (hxy:(-536870912≤x∧x≤536870912) ∧ -536870912≤y∧y≤536870912) (hM:s.ops.length≤1000000):AnsG prog 82 1 [aPz,aJ ((x)),aJ ((y)),aJ ((n)),aO (cD (dS act.length (bs act)))] [bC [cJ (s.bits),cJ (s.c.a),cJ (s.c.b),cJ (s.c.c),cJ (s.c.d),cJ (s.tw),cJ (s.th),cD (dS s.ord.length (is s.ord)),cD (dS s.ims.length (ims s.ims)),cD (dS s.ops.length (ops s.ops)),cK (most),cD (dS e.length (is e)),Cl.ref 1 F.length],bR 249 14 (frs F)] ⟨aO (cD (dS ((zYv s most e act x y n).length) (pxs (zYv s most e act x y n)))),[bC [cJ (s.bits),cJ (s.c.a),cJ (s.c.b),cJ (s.c.c),cJ (s.c.d),cJ (s.tw),cJ (s.th),cD (dS s.ord.length (is s.ord)),cD (dS s.ims.length (ims s.ims)),cD (dS s.ops.length (ops s.ops)),cK (most),cD (dS e.length (is e)),Cl.ref 1 (((zYw s most e act x y n)).length)],bR 249 14 (frs (zYw s most e act x y n))],false⟩:=
 zZp (Γ:=jGS) (aQ aL (aQ aL (aQ (aQ aL (Ann.loop ⟨Nat,fun k=>True,fun k=>⟨[(0,aPz),(1,aJ x),(2,aJ y),(3,aJ n),(4,aO (cD (dS act.length (bs act)))),(11,aJ (((zQT s most e act x y n k).1:Nat):Int))],[(0,bC [cJ s.bits,cJ s.c.a,cJ s.c.b,cJ s.c.c,cJ s.c.d,cJ s.tw,cJ s.th,cD (dS s.ord.length (is s.ord)),cD (dS s.ims.length (ims s.ims)),cD (dS s.ops.length (ops s.ops)),cK most,cD (dS e.length (is e)),Cl.ref 1 (zQT s most e act x y n k).2.length]),(1,bR 249 14 (frs (zQT s most e act x y n k).2))]⟩,fun k=>s.ops.length - (zQT s most e act x y n k).1⟩ fun k=>aL)) aL))) zQf Tryz.func82 rfl (nL rfl) rfl fun hwf hbx=>by
  refine Eq.mpr (by kernel_rfl:_=(let x2:=(s.ops.length:Int); let y1:=(zYv s most e act x y n); let z6:=(zYw s most e act x y n); let L:=(dS e.length (is e)); let x3:=([dJ 2,dJ 0,dJ 0,dJ 0,dJ 0,dJ 0,dJ 0,dK 0,dJ 0,dJ 0,dQ true,dQ false,dS n.toNat (repl n.toNat [dK 0,dK 0,dK 0,dK 0,dK 0,dK 0]),dS n.toNat (repl n.toNat [dK 0,dK 0,dK 0,dK 0,dK 0])]); let I:=(zQc (ims s.ims)); let x4:=(List.take ((0:Int).toNat*14) (frs F)); let y2:=(dJ x=dJ x); let y3:=(dJ y=dJ y); let y4:=(dJ n=dJ n); let y5:=(dS act.length (bs act)=dS act.length (bs act)); let M:=(dJ s.bits=dJ s.bits); let N:=(dJ s.c.a=dJ s.c.a); let O:=(dJ s.c.b=dJ s.c.b); let P:=(dJ s.c.c=dJ s.c.c); let Q:=(dJ s.c.d=dJ s.c.d); let R:=(dJ s.tw=dJ s.tw); let S:=(dJ s.th=dJ s.th); let T:=(dS s.ord.length (is s.ord)=dS s.ord.length (is s.ord)); let U:=(dS s.ims.length (ims s.ims)=dS s.ims.length (ims s.ims)); let V:=(dS s.ops.length (ops s.ops)=dS s.ops.length (ops s.ops)); let W:=(dK most=dK most); let X:=(dS e.length (is e)=dS e.length (is e)); let x5:=fun (k:Nat)=>((zQT s most e act x y n k).2.length≤maxLen); let Y:=(dS s.ord.length (is s.ord)); let Z:=(dS s.ims.length (ims s.ims)); let z0:=(dS s.ops.length (ops s.ops)); let z7:=fun (k:Nat)=>fun (k':Nat)=>(s.ops.length - (zQT s most e act x y n k').1 < s.ops.length - (zQT s most e act x y n k).1); let y6:=fun (k:Nat)=>fun (k':Nat)=>((0=0)∧y2∧y3∧y4∧y5∧(dJ (wK ((((zQT s most e act x y n k).1:Nat):Int)+1))=dJ (((zQT s most e act x y n k').1:Nat):Int))∧True); let x6:=fun (k:Nat)=>(let aA:=(((zQT s most e act x y n k).1:Nat):Int); [cJ (nAt (ops s.ops) (aA.toNat*12)),cJ (nAt (ops s.ops) (aA.toNat*12+1)),cJ (nAt (ops s.ops) (aA.toNat*12+1+1)),cJ (nAt (ops s.ops) (aA.toNat*12+1+1+1)),cJ (nAt (ops s.ops) (aA.toNat*12+1+1+1+1)),cJ (nAt (ops s.ops) (aA.toNat*12+1+1+1+1+1)),cJ (nAt (ops s.ops) (aA.toNat*12+1+1+1+1+1+1)),cK (nAt (ops s.ops) (aA.toNat*12+1+1+1+1+1+1+1)),cJ (nAt (ops s.ops) (aA.toNat*12+1+1+1+1+1+1+1+1)),cJ (nAt (ops s.ops) (aA.toNat*12+1+1+1+1+1+1+1+1+1)),cD (dQ (bAt (ops s.ops) (aA.toNat*12+1+1+1+1+1+1+1+1+1+1))),cD (dQ (bAt (ops s.ops) (aA.toNat*12+1+1+1+1+1+1+1+1+1+1+1)))]); let z1:=fun (k:Nat)=>[bC [cJ s.bits,cJ s.c.a,cJ s.c.b,cJ s.c.c,cJ s.c.d,cJ s.tw,cJ s.th,cD Y,cD Z,cD z0,cK most,cD L,Cl.ref 1 (zQT s most e act x y n k).2.length],bR 249 14 (frs (zQT s most e act x y n k).2)]; let x7:=fun (k:Nat)=>(0≤(0:Int)∧(0:Int) < (((zQT s most e act x y n k).2.length:Nat):Int)); let x8:=fun (k:Nat)=>(dS (lAt (frs (zQT s most e act x y n k).2) 12) (cAt (frs (zQT s most e act x y n k).2) 12)); let x9:=fun (k:Nat)=>(dS (lAt (frs (zQT s most e act x y n k).2) 13) (cAt (frs (zQT s most e act x y n k).2) 13)); let w0:=fun (k:Nat)=>(pxs (rsR most (jQu (cAt (frs (zQT s most e act x y n k).2) 12)) (zQe (cAt (frs (zQT s most e act x y n k).2) 13)))); let w1:=(pxs y1); tU6 ((0≤(0:Int)∧(0:Int)≤(F.length:Int))∧tU2 ((0≤n∧n≤n∧n≤(maxLen:Int)∧((12:Nat):Int)*n≤281474976710656)∧True∧(0≤n∧n≤n∧n≤(maxLen:Int)∧((10:Nat):Int)*n≤281474976710656)∧tU2 ((zZL 14 136 (0:Int).toNat 1 x4 x3)∧tU3 ((true=true)∧True∧((∃ k:Nat,let y7:=(zQT s most e act x y n k); True∧(((0=0)∧y2∧y3∧y4∧y5∧(dJ 0=dJ ((y7.1:Nat):Int))∧True)∧((M∧N∧O∧P∧Q∧R∧S∧T∧U∧V∧W∧X∧((0:Int).toNat+1=y7.2.length)∧True)∧(x4++x3=frs y7.2)∧True)))∧∀ k:Nat,let K:=(zQT s most e act x y n k); let y8:=((K.2.length:Nat):Int); let z4:=(y8 - 1); let a:=(frs K.2); let w2:=(rsR most (jQu (cAt a 12)) (zQe (cAt a 13))); let J:=(zKp a); let b:=((K.1:Nat):Int); let w3:=(decide (b < x2)); let z5:=(b.toNat*1); let i:=(nAt (ops s.ops) (b.toNat*12+1+1+1+1)); let f:=(nAt (ops s.ops) (b.toNat*12+1)); let j:=(nAt (ops s.ops) (b.toNat*12+1+1+1+1+1)); let g:=(nAt (ops s.ops) (b.toNat*12+1+1)); let d:=(nAt (ops s.ops) (b.toNat*12)); let l:=(nAt (ops s.ops) (b.toNat*12+1+1+1+1+1+1)); let h:=(nAt (ops s.ops) (b.toNat*12+1+1+1)); let m:=(nAt (ops s.ops) (b.toNat*12+1+1+1+1+1+1+1)); let o:=(nAt (ops s.ops) (b.toNat*12+1+1+1+1+1+1+1+1)); let p:=(nAt (ops s.ops) (b.toNat*12+1+1+1+1+1+1+1+1+1)); let q:=(bAt (ops s.ops) (b.toNat*12+1+1+1+1+1+1+1+1+1+1)); let r:=(bAt (ops s.ops) (b.toNat*12+1+1+1+1+1+1+1+1+1+1+1)); let z2:=(pixR I f (wK (x - g)) (wK (y - h)) n.toNat); let w4:=(pxs z2); let w5:=(cD (dS z2.length w4)); let z8:=(zQe w4); let c:=(wK z4); let w6:=(List.take (c.toNat*14) a); let z9:=(zKp w6); let y9:=(c.toNat*14+1+1+1+1+1+1+1+1+1+1+1+1); let w7:=(dS (lAt a y9) (cAt a y9)); let x0:=(c.toNat*14+1+1+1+1+1+1+1+1+1+1+1+1+1); let w8:=(dS (lAt a x0) (cAt a x0)); let t:=(nAt a (c.toNat*14)); let u:=(nAt a (c.toNat*14+1)); let v:=(nAt a (c.toNat*14+1+1)); let w:=(nAt a (c.toNat*14+1+1+1)); let z:=(nAt a (c.toNat*14+1+1+1+1)); let A:=(nAt a (c.toNat*14+1+1+1+1+1)); let B:=(nAt a (c.toNat*14+1+1+1+1+1+1)); let C:=(nAt a (c.toNat*14+1+1+1+1+1+1+1)); let D:=(nAt a (c.toNat*14+1+1+1+1+1+1+1+1)); let E:=(nAt a (c.toNat*14+1+1+1+1+1+1+1+1+1)); let G:=(bAt a (c.toNat*14+1+1+1+1+1+1+1+1+1+1)); let H:=(bAt a (c.toNat*14+1+1+1+1+1+1+1+1+1+1+1)); let z3:=(rsR most (jQu (cAt a y9)) (zQe (cAt a x0))); let w9:=(pxs z3); let v0:=(dS z3.length w9); let y0:=(zQe w9); True→tU8 ((w3=true→tU6 ((0≤b∧b < x2∧b.toNat*12 < (ops s.ops).length)∧(((ops s.ops)[b.toNat*12]?=some (dJ d))∧((ops s.ops)[b.toNat*12+1]?=some (dJ f))∧((ops s.ops)[b.toNat*12+1+1]?=some (dJ g))∧((ops s.ops)[b.toNat*12+1+1+1]?=some (dJ h))∧((ops s.ops)[b.toNat*12+1+1+1+1]?=some (dJ i))∧((ops s.ops)[b.toNat*12+1+1+1+1+1]?=some (dJ j))∧((ops s.ops)[b.toNat*12+1+1+1+1+1+1]?=some (dJ l))∧((ops s.ops)[b.toNat*12+1+1+1+1+1+1+1]?=some (dK m))∧((ops s.ops)[b.toNat*12+1+1+1+1+1+1+1+1]?=some (dJ o))∧((ops s.ops)[b.toNat*12+1+1+1+1+1+1+1+1+1]?=some (dJ p))∧((ops s.ops)[b.toNat*12+1+1+1+1+1+1+1+1+1+1]?=some (dQ q))∧((ops s.ops)[b.toNat*12+1+1+1+1+1+1+1+1+1+1+1]?=some (dQ r))∧True)∧tU6 (((d==3)=true→tU8 ((x5 k)∧True∧(0≤wK z4∧wK z4 < y8)∧((a[c.toNat*14]?=some (dJ t))∧(a[c.toNat*14+1]?=some (dJ u))∧(a[c.toNat*14+1+1]?=some (dJ v))∧(a[c.toNat*14+1+1+1]?=some (dJ w))∧(a[c.toNat*14+1+1+1+1]?=some (dJ z))∧(a[c.toNat*14+1+1+1+1+1]?=some (dJ A))∧(a[c.toNat*14+1+1+1+1+1+1]?=some (dJ B))∧(a[c.toNat*14+1+1+1+1+1+1+1]?=some (dK C))∧(a[c.toNat*14+1+1+1+1+1+1+1+1]?=some (dJ D))∧(a[c.toNat*14+1+1+1+1+1+1+1+1+1]?=some (dJ E))∧(a[c.toNat*14+1+1+1+1+1+1+1+1+1+1]?=some (dQ G))∧(a[c.toNat*14+1+1+1+1+1+1+1+1+1+1+1]?=some (dQ H))∧(a[c.toNat*14+1+1+1+1+1+1+1+1+1+1+1+1]?=some w7)∧(a[c.toNat*14+1+1+1+1+1+1+1+1+1+1+1+1+1]?=some w8)∧True)∧tU2 ((true=true)∧True∧tU8 ((x5 k)∧True∧(0≤wK z4∧wK z4≤y8)∧tU3 ((true=true)∧tU8 ((Ans prog 158 [rD w7,rD w8,rD (dK most)] (rT [rD v0,rD (dQ true)]))∧tU5 ((true=true)∧tU6 ((AnsG prog 159 1 [aPz,AV.agg [cJ t,cJ u,cJ v,cJ w,cJ z,cJ A,cJ B,cK C,cJ D,cJ E,cD (dQ G),cD (dQ H)],aO (cD v0),aJ x,aJ y] [bC [cJ s.bits,cJ s.c.a,cJ s.c.b,cJ s.c.c,cJ s.c.d,cJ s.tw,cJ s.th,cD Y,cD Z,cD z0,cK most,cD L,Cl.ref 1 c.toNat],bR 249 14 w6] ⟨AV.tup [],[(let aA:=(⟨t,u,v,w,z,A,B,C,D,E,G,H⟩:Oq); bC [cJ s.bits,cJ s.c.a,cJ s.c.b,cJ s.c.c,cJ s.c.d,cJ s.tw,cJ s.th,cD Y,cD Z,cD z0,cK most,cD L,Cl.ref 1 (zX5 most z9 aA y0 (maR I aA x y z3.length)).length]),bR 249 14 (frs (zX5 most z9 (⟨t,u,v,w,z,A,B,C,D,E,G,H⟩:Oq) y0 (maR I (⟨t,u,v,w,z,A,B,C,D,E,G,H⟩:Oq) x y z3.length)))],false⟩)∧tU3 (∃ k':Nat,True∧(z7 k k')∧((y6 k k')∧((M∧N∧O∧P∧Q∧R∧S∧T∧U∧V∧W∧X∧((zX5 most z9 (⟨t,u,v,w,z,A,B,C,D,E,G,H⟩:Oq) y0 (maR I (⟨t,u,v,w,z,A,B,C,D,E,G,H⟩:Oq) x y z3.length)).length=(zQT s most e act x y n k').2.length)∧True)∧(frs (zX5 most z9 (⟨t,u,v,w,z,A,B,C,D,E,G,H⟩:Oq) y0 (maR I (⟨t,u,v,w,z,A,B,C,D,E,G,H⟩:Oq) x y z3.length))=frs (zQT s most e act x y n k').2)∧True)))))))))))∧((d==3)=false→tU2 ((0≤b∧b < (act.length:Int)∧b.toNat*1 < (bs act).length)∧(((bs act)[b.toNat*1]?=some (dQ (bAt (bs act) z5)))∧True)∧tU2 (((!(bAt (bs act) z5))=true→tU5 ((0≤b∧b < (e.length:Int)∧b.toNat*1 < (is e).length)∧(((is e)[b.toNat*1]?=some (dJ (nAt (is e) z5)))∧True)∧tU4 (∃ k':Nat,let x1:=(zQT s most e act x y n k'); True∧(z7 k k')∧(((0=0)∧y2∧y3∧y4∧y5∧(dJ (wK ((nAt (is e) z5)+1))=dJ ((x1.1:Nat):Int))∧True)∧((M∧N∧O∧P∧Q∧R∧S∧T∧U∧V∧W∧X∧(K.2.length=x1.2.length)∧True)∧(frs K.2=frs x1.2)∧True)))))∧((!(bAt (bs act) z5))=false→tU4 (((d==2)=true→tU2 ((AnsG prog 160 1 [aPz,AV.agg (x6 k)] (z1 k) ⟨AV.tup [],[bC [cJ s.bits,cJ s.c.a,cJ s.c.b,cJ s.c.c,cJ s.c.d,cJ s.tw,cJ s.th,cD Y,cD Z,cD z0,cK most,cD L,Cl.ref 1 (zKr J (⟨d,f,g,h,i,j,l,m,o,p,q,r⟩:Oq)).length],bR 249 14 (frs (zKr J (⟨d,f,g,h,i,j,l,m,o,p,q,r⟩:Oq)))],false⟩)∧tU3 (∃ k':Nat,True∧(z7 k k')∧((y6 k k')∧((M∧N∧O∧P∧Q∧R∧S∧T∧U∧V∧W∧X∧((zKr J (⟨d,f,g,h,i,j,l,m,o,p,q,r⟩:Oq)).length=(zQT s most e act x y n k').2.length)∧True)∧(frs (zKr J (⟨d,f,g,h,i,j,l,m,o,p,q,r⟩:Oq))=frs (zQT s most e act x y n k').2)∧True)))))∧((d==2)=false→tU6 (tU8 ((AnsG prog 161 2 [aPz,aJ f,aJ (wK (x - g)),aJ (wK (y - h)),aJ n] (z1 k) ⟨aO w5,(z1 k),false⟩∧(z1 k)=(z1 k))∧tU2 ((AnsG prog 159 1 [aPz,AV.agg (x6 k),aO w5,aJ x,aJ y] (z1 k) ⟨AV.tup [],[(let aA:=(⟨d,f,g,h,i,j,l,m,o,p,q,r⟩:Oq); bC [cJ s.bits,cJ s.c.a,cJ s.c.b,cJ s.c.c,cJ s.c.d,cJ s.tw,cJ s.th,cD Y,cD Z,cD z0,cK most,cD L,Cl.ref 1 (zX5 most J aA z8 (maR I aA x y z2.length)).length]),bR 249 14 (frs (zX5 most J (⟨d,f,g,h,i,j,l,m,o,p,q,r⟩:Oq) z8 (maR I (⟨d,f,g,h,i,j,l,m,o,p,q,r⟩:Oq) x y z2.length)))],false⟩)∧(true=true)∧tU3 (∃ k':Nat,True∧(z7 k k')∧((y6 k k')∧((M∧N∧O∧P∧Q∧R∧S∧T∧U∧V∧W∧X∧((zX5 most J (⟨d,f,g,h,i,j,l,m,o,p,q,r⟩:Oq) z8 (maR I (⟨d,f,g,h,i,j,l,m,o,p,q,r⟩:Oq) x y z2.length)).length=(zQT s most e act x y n k').2.length)∧True)∧(frs (zX5 most J (⟨d,f,g,h,i,j,l,m,o,p,q,r⟩:Oq) z8 (maR I (⟨d,f,g,h,i,j,l,m,o,p,q,r⟩:Oq) x y z2.length))=frs (zQT s most e act x y n k').2)∧True)))))))))))))))∧(w3=false→tU4 ((x7 k)∧True∧((a[12]?=some (x8 k))∧True)∧tU4 ((x7 k)∧True∧((a[13]?=some (x9 k))∧True)∧tU4 ((Ans prog 158 [rD (x8 k),rD (x9 k),rD (dK most)] (rT [rD (dS w2.length (w0 k)),rD (dQ true)]))∧tU5 ((true=true)∧tU2 ((((dS w2.length (w0 k)=dS y1.length w1)∧True)∧((M∧N∧O∧P∧Q∧R∧S∧T∧U∧V∧W∧X∧(K.2.length=z6.length)∧True)∧(frs K.2=frs z6)∧True))∧zQC ⟨aO (cD (dS y1.length w1)),[bC [cJ s.bits,cJ s.c.a,cJ s.c.b,cJ s.c.c,cJ s.c.d,cJ s.tw,cJ s.th,cD Y,cD Z,cD z0,cK most,cD L,Cl.ref 1 z6.length],bR 249 14 (frs z6)],false⟩)))))))))))))) ?_
  delta dJ dK dQ cJ cK wK dS aJ aPz bC
  simp only [sS]
  clear hwf hbx
  have hM2:∀ n:Nat,n≤100000→n≤maxLen:=fun n h=>by unfold maxLen; omega
  have en:(n.toNat:Int)=n:=by omega
  have za:repl n.toNat [DV.int .u16 0,DV.int .u16 0,DV.int .u16 0,DV.int .u16 0,DV.int .u16 0,DV.int .u16 0]=acs (List.replicate n.toNat .zero):=by
   unfold repl acs
   rw [List.flatMap_def,List.map_replicate]; rfl
  have zb:repl n.toNat [DV.int .u16 0,DV.int .u16 0,DV.int .u16 0,DV.int .u16 0,DV.int .u16 0]=pxs (List.replicate n.toNat .zero):=by
   unfold repl pxs
   rw [List.flatMap_def,List.map_replicate]; rfl
  have hmx:=hM2 n.toNat (by omega)
  refine ⟨⟨by omega,by omega⟩,⟨hn.1,Int.le_refl _,by omega,by omega⟩,⟨hn.1,Int.le_refl _,by omega,by omega⟩,⟨rfl,rfl,hM2 _ (by decide),by decide⟩,⟨0,rfl,rfl,?_⟩,fun k=>⟨fun hlt=>?_,fun hge=>?_⟩⟩
  ·rw [za,zb]
   show _=frs [zUv n.toNat]
   unfold frs Fr.cells zUv
   simp only [List.flatMap_cons,List.flatMap_nil,List.append_nil,List.length_replicate]
   rfl
  ·have h:(zQT s most e act x y n k).1 < s.ops.length:=by omega
   have G:=hG.step k _ (List.getElem?_eq_getElem h)
   have su:=(zK1 s most e act x y n k).trans (zWN h)
   have up:=jYZ G
   have eu:=congrArg Prod.fst su
   rw [← eu] at up
   clear eu
   have fu:=congrArg Prod.snd su
   obtain ⟨GL,GF,GP,GA,GS,GD⟩:=G
   generalize hq:zQT s most e act x y n k=q at *
   have r:=zWd h
   have a:=zWe h
   have hon:s.ops[q.1]?=some s.ops[q.1]:=List.getElem?_eq_getElem h
   generalize s.ops[q.1]=o at *
   simp only [Nat.add_assoc,Nat.reduceAdd] at r a
   obtain ⟨a0,a1,a2,a3,a4,a5,a6,a7,a8,a9,a10,a11⟩:=a
   obtain ⟨r0,r1,r2,r3,r4,r5,r6,r7,r8,r9,r10,r11⟩:=r
   simp only [Nat.add_assoc,Nat.reduceAdd,a0,a1,a2,a3,a4,a5,a6,a7,a8,a9,a10,a11,r0,r1,r2,r3,r4,r5,r6,r7,r8,r9,r10,r11,true_and,and_true,and_self]
   clear a0 a1 a2 a3 a4 a5 a6 a7 a8 a9 a10 a11 r0 r1 r2 r3 r4 r5 r6 r7 r8 r9 r10 r11
   have kF:q.2.length - 1 < q.2.length:=by omega
   have wF:wrap .i64 ((q.2.length:Int) - 1)=(q.2.length:Int) - 1:=IntWalk.i64_in _ ⟨by omega,by omega⟩
   have nF:((q.2.length:Int) - 1).toNat=q.2.length - 1:=by omega
   have tF:q.2[q.2.length - 1]=topF q.2:=by unfold topF; rw [List.getElem?_eq_getElem kF]; rfl
   have r:=jXt kF
   have a:=jXv kF
   rw [tF] at r a
   simp only [Nat.add_zero] at r a
   obtain ⟨a0,a1,a2,a3,a4,a5,a6,a7,a8,a9,a10,a11,a12,a13⟩:=a
   obtain ⟨r0,r1,r2,r3,r4,r5,r6,r7,r8,r9,r10,r11,r12,r13⟩:=r
   simp only [wF,nF,Nat.add_assoc,Nat.reduceAdd,a0,a1,a2,a3,a4,a5,a6,a7,a8,a9,a10,a11,a12.1,a12.2,a13.1,a13.2,r0,r1,r2,r3,r4,r5,r6,r7,r8,r9,r10,r11,r12,r13,true_and,and_true,and_self]
   clear a0 a1 a2 a3 a4 a5 a6 a7 a8 a9 a10 a11 a12 a13 r0 r1 r2 r3 r4 r5 r6 r7 r8 r9 r10 r11 r12 r13
   have hm:=hM2 q.2.length (by omega)
   have h2:2≤q.2.length→q.2.length - 1=q.2.dropLast.length:=fun _=>List.length_dropLast.symm
   have go:∀ {i:Int} {F:List Fr},(zQT s most e act x y n (k+1))=(i.toNat,F)→0≤i→∃ k',s.ops.length - (zQT s most e act x y n k').1 < s.ops.length - q.1∧i=((zQT s most e act x y n k').1:Int)∧F.length=(zQT s most e act x y n k').2.length∧frs F=frs (zQT s most e act x y n k').2:=fun hi h0=>⟨k+1,by omega,by rw [hi]; show _=(_:Int); omega,by rw [hi],by rw [hi]⟩
   have w1:wrap .i64 ((q.1:Int)+1)=(q.1:Int)+1:=IntWalk.i64_in _ ⟨by omega,by omega⟩
   have n1:((q.1:Int)+1).toNat=q.1+1:=by omega
   have pk:∀ {F:List Fr} {o:Oq} {l:List Px},zUd s most F o l x y→AnsG prog 159 1 _ _ _:=fun {F o l} h=>zJH s most e F o l x y h.len hu hI ⟨⟨by omega,by omega⟩,by omega,by omega⟩ h.mask h.src h.oper h.mode h.acc h.back h.ok1 h.ok2
   rw [jXu]
   simp only [zZd,zU4,zZq,zVZ,Nat.mul_one]
   rw [w1]
   refine ⟨⟨by omega,by omega,by rw [zZh]; omega⟩,fun h3=>?_,fun h3=>?_⟩
   ·have h3:o.kind=3:=eq_of_beq h3
    obtain ⟨p1,p2⟩:=GP h3
    rw [h2 p1]
    refine ⟨hm,⟨by omega,by omega⟩,hm,⟨by omega,by omega⟩,zKA (topF q.2).acc (topF q.2).back most GF.1 GF.2.1 GF.2.2,pk p2,go (su.trans ?_) (by omega)⟩
    unfold zHu
    rw [if_pos h3,n1]; rfl
   ·have h3:o.kind≠3:=beq_eq_false_iff_ne.1 h3
    have hl:=GA h3
    have ha:=List.getElem?_eq_getElem hl
    have hb:=jVS ha
    have hg:=jVR ha
    rw [hb]
    refine ⟨⟨by omega,by omega,by rw [zHa]; exact hl⟩,hg,fun hf=>?_,fun hf=>?_⟩
    ·rw [hf] at ha
     obtain ⟨v,v1,v2,v3⟩:=GS h3 ha
     rw [jVl v1]
     have hle:q.1 < e.length:=by
      rcases Nat.lt_or_ge q.1 e.length with hh | hh
      ·exact hh
      ·rw [List.getElem?_eq_none hh] at v1; cases v1
     refine ⟨⟨by omega,by omega,by rw [zQH]; exact hle⟩,jJp v1,?_⟩
     have w2:wrap .i64 ((v:Int)+1)=(v:Int)+1:=IntWalk.i64_in _ ⟨by omega,by omega⟩
     rw [w2]
     refine go (su.trans ?_) (by omega)
     unfold zHu
     rw [if_neg h3,ha,v1]
     show ((v:Int).toNat+1,q.2)=_
     congr 1
    ·rw [hf] at ha
     refine ⟨fun h2=>?_,fun h2=>?_⟩
     ·have h2:o.kind=2:=eq_of_beq h2
      refine ⟨zJW s most e q.2 o ⟨by omega,by omega⟩ GF.1 GF.2.1,go (su.trans ?_) (by omega)⟩
      unfold zHu
      rw [if_neg h3,ha,if_neg (by decide),if_pos h2,n1]
     ·have h2:o.kind≠2:=beq_eq_false_iff_ne.1 h2
      obtain ⟨d1,d2,⟨d3,d4⟩,d5,d6⟩:=GD h3 h2 ha
      have wx:wrap .i64 (x - o.x)=x - o.x:=IntWalk.i64_in _ ⟨by omega,by omega⟩
      have wy:wrap .i64 (y - o.y)=y - o.y:=IntWalk.i64_in _ ⟨by omega,by omega⟩
      rw [wx,wy]
      refine ⟨zXM s most e q.2 o.image (x - o.x) (y - o.y) n d2 hu hn ⟨by omega,by omega⟩,pk d1,go (su.trans ?_) (by omega)⟩
      unfold zHu
      rw [if_neg h3,ha,if_neg (by decide),if_neg h2,n1]; rfl
  ·have h:s.ops.length≤(zQT s most e act x y n k).1:=by omega
   rw [jKT hG h]
   obtain ⟨L1,L2,L3⟩:=hG.last
   unfold zYv
   generalize zYw s most e act x y n=G at *
   have r:=jXt (l:=G) (k:=0) (by omega)
   have a:=jXv (l:=G) (k:=0) (by omega)
   have tF:G[0]=frN G 0:=by unfold frN; rw [List.getElem?_eq_getElem (by omega)]; rfl
   rw [tF] at r a
   simp only [Nat.zero_mul,Nat.zero_add] at r a
   obtain ⟨a0,a1,a2,a3,a4,a5,a6,a7,a8,a9,a10,a11,a12,a13⟩:=a
   obtain ⟨r0,r1,r2,r3,r4,r5,r6,r7,r8,r9,r10,r11,r12,r13⟩:=r
   simp only [a12.1,a12.2,a13.1,a13.2,r12,r13,zVZ,zZq]
   exact ⟨⟨by omega,by omega⟩,trivial,⟨by omega,by omega⟩,trivial,zKA (frN G 0).acc (frN G 0).back most L3.1 L3.2.1 L3.2.2,⟨⟨trivial,trivial⟩,trivial,trivial⟩,trivial⟩
end
def actL (s:Scr) (r:Rc):List Bool:=(zZ0 s r).1
def zYB (s:Scr) (m:Int) (e:List Int) (r:Rc) (F:List Fr):Nat→List Fr
 | 0=>F
 | k+1=>zYw s m e (actL s r) r.a (r.b+k) (r.c - r.a)
def zZs (s:Scr) (m:Int) (e:List Int) (r:Rc):Nat→List Px
 | 0=>[]
 | k+1=>zZs s m e r k++zYv s m e (actL s r) r.a (r.b+k) (r.c - r.a)
def zQt (r:Rc):Nat:=(r.d - r.b).toNat
structure zVz (s:Scr) (m:Int) (e:List Int) (r:Rc):Prop where
  row:∀ k:Nat,k < zQt r→zHm s m e (actL s r) r.a (r.b+k) (r.c - r.a)
  wide:0≤r.c - r.a∧r.c - r.a≤1000
  high:r.d - r.b≤1000
  at_:(-536870912≤r.a∧r.a≤536870912) ∧ -536870912≤r.b∧r.d≤536870912
theorem zHR {s:Scr} {m:Int} {e:List Int} {act:List Bool} {x y n:Int} (g:zHm s m e act x y n):(zYv s m e act x y n).length=n.toNat:=by
 unfold zYv
 rw [zWM]; exact g.wide
theorem zY8 {s:Scr} {m:Int} {e:List Int} {r:Rc} (h:zVz s m e r):∀ k,k≤zQt r→(zZs s m e r k).length=k*(r.c - r.a).toNat
 | 0,_=>by simp [zZs]
 | k+1,hk=>by
  rw [zZs,List.length_append,zY8 h k (by omega),zHR (h.row k (by omega)),Nat.add_mul,Nat.one_mul]
theorem jJa {s:Scr} {m:Int} {e:List Int} {r:Rc} (h:zVz s m e r):∀ k,k≤zQt r→∀ y x:Nat,y < k→x < (r.c - r.a).toNat→pxN (zZs s m e r k) (y*(r.c - r.a).toNat+x)=pxN (zYv s m e (actL s r) r.a (r.b+y) (r.c - r.a)) x
 | 0,_,y,x,hy,_=>by omega
 | k+1,hk,y,x,hy,hx=>by
  have hl:=zY8 h k (by omega)
  unfold pxN
  rw [zZs]
  rcases Nat.lt_or_ge y k with hlt | hge
  ·have h1:y*(r.c - r.a).toNat+x < k*(r.c - r.a).toNat:=by
    have:(y+1)*(r.c - r.a).toNat≤k*(r.c - r.a).toNat:=Nat.mul_le_mul_right _ hlt
    rw [Nat.add_mul,Nat.one_mul] at this; omega
   rw [List.getElem?_append_left (by omega)]
   exact jJa h k (by omega) y x hlt hx
  ·have:y=k:=by omega
   subst this
   rw [List.getElem?_append_right (by omega),hl,Nat.add_sub_cancel_left]
def jXV (s:Scr):Int:=wrap .i64 ((cntS s.c s.tw s.th).1*(cntS s.c s.tw s.th).2.1)
def zZX (s:Scr):List Int:=zXi s.ord (jXV s)
def zQo (s:Scr):List Rc:=(zZX s).map fun i=>(zX4 s.c s.tw s.th i).1
section
attribute [local irreducible] Ans AnsO AnsG AnsN AnsI
def gZ56 (xs:List RV):Option RV:=match xs with | [.agg [.int _ bits,.int _ cx0,.int _ cy0,.int _ cx1,.int _ cy1,.int _ tw,.int _ th,.sl on oxs,.sl mn mxs,.sl pn pxs],.agg [.int _ okind,.int _ oimage,.int _ ox,.int _ oy,.int _ omask,.int _ omx,.int _ omy,.int _ oopac,.int _ ooper,.int _ omode,.bool oiso,.bool okno]]=>some (RV.agg [dJ (imgR (⟨bits,⟨cx0,cy0,cx1,cy1⟩,tw,th,ints oxs,zQc mxs,zQb pxs⟩:Scr) (⟨okind,oimage,ox,oy,omask,omx,omy,oopac,ooper,omode,oiso,okno⟩:Oq)).a,dJ (imgR (⟨bits,⟨cx0,cy0,cx1,cy1⟩,tw,th,ints oxs,zQc mxs,zQb pxs⟩:Scr) (⟨okind,oimage,ox,oy,omask,omx,omy,oopac,ooper,omode,oiso,okno⟩:Oq)).b,dJ (imgR (⟨bits,⟨cx0,cy0,cx1,cy1⟩,tw,th,ints oxs,zQc mxs,zQb pxs⟩:Scr) (⟨okind,oimage,ox,oy,omask,omx,omy,oopac,ooper,omode,oiso,okno⟩:Oq)).c,dJ (imgR (⟨bits,⟨cx0,cy0,cx1,cy1⟩,tw,th,ints oxs,zQc mxs,zQb pxs⟩:Scr) (⟨okind,oimage,ox,oy,omask,omx,omy,oopac,ooper,omode,oiso,okno⟩:Oq)).d]) | _=>none
def gZ57 (xs:List RV):Option RV:=match xs with | [.agg [.int _ bits,.int _ cx0,.int _ cy0,.int _ cx1,.int _ cy1,.int _ tw,.int _ th,.sl on oxs,.sl mn mxs,.sl pn pxs],.agg [.int _ okind,.int _ oimage,.int _ ox,.int _ oy,.int _ omask,.int _ omx,.int _ omy,.int _ oopac,.int _ ooper,.int _ omode,.bool oiso,.bool okno],.agg [.int _ ra,.int _ rb,.int _ rc_,.int _ rd]]=>some (RV.agg [dJ (boxF (⟨bits,⟨cx0,cy0,cx1,cy1⟩,tw,th,ints oxs,zQc mxs,zQb pxs⟩:Scr) (⟨okind,oimage,ox,oy,omask,omx,omy,oopac,ooper,omode,oiso,okno⟩:Oq) ⟨ra,rb,rc_,rd⟩).a,dJ (boxF (⟨bits,⟨cx0,cy0,cx1,cy1⟩,tw,th,ints oxs,zQc mxs,zQb pxs⟩:Scr) (⟨okind,oimage,ox,oy,omask,omx,omy,oopac,ooper,omode,oiso,okno⟩:Oq) ⟨ra,rb,rc_,rd⟩).b,dJ (boxF (⟨bits,⟨cx0,cy0,cx1,cy1⟩,tw,th,ints oxs,zQc mxs,zQb pxs⟩:Scr) (⟨okind,oimage,ox,oy,omask,omx,omy,oopac,ooper,omode,oiso,okno⟩:Oq) ⟨ra,rb,rc_,rd⟩).c,dJ (boxF (⟨bits,⟨cx0,cy0,cx1,cy1⟩,tw,th,ints oxs,zQc mxs,zQb pxs⟩:Scr) (⟨okind,oimage,ox,oy,omask,omx,omy,oopac,ooper,omode,oiso,okno⟩:Oq) ⟨ra,rb,rc_,rd⟩).d]) | _=>none
def jKc:Gam where
 pure:=fun f xs=>
  if f=216 then gZ22 xs else
  if f=195 then (match xs with | [.d (.int _ op)]=>some (RV.d (dQ (zZw op))) | _=>none) else
  if f=256 then (match xs with | [.d (.int _ v)]=>some (RV.d (dQ (farB v))) | _=>none) else
  if f=157 then gZ7 xs else
  if f=236 then (match xs with | [.agg [.int _ bits,.int _ cx0,.int _ cy0,.int _ cx1,.int _ cy1,.int _ tw,.int _ th,.sl on oxs,.sl mn mxs,.sl pn pxs],.d (.int _ i),.d (.int _ x),.d (.int _ y)]=>some (RV.agg [dJ (zZv (⟨bits,⟨cx0,cy0,cx1,cy1⟩,tw,th,ints oxs,zQc mxs,zQb pxs⟩:Scr) i x y).a,dJ (zZv (⟨bits,⟨cx0,cy0,cx1,cy1⟩,tw,th,ints oxs,zQc mxs,zQb pxs⟩:Scr) i x y).b,dJ (zZv (⟨bits,⟨cx0,cy0,cx1,cy1⟩,tw,th,ints oxs,zQc mxs,zQb pxs⟩:Scr) i x y).c,dJ (zZv (⟨bits,⟨cx0,cy0,cx1,cy1⟩,tw,th,ints oxs,zQc mxs,zQb pxs⟩:Scr) i x y).d]) | _=>none) else
  if f=197 then gZ56 xs else
  if f=235 then (match xs with | [.agg [.int _ bits,.int _ cx0,.int _ cy0,.int _ cx1,.int _ cy1,.int _ tw,.int _ th,.sl on oxs,.sl mn mxs,.sl pn pxs],.agg [.int _ okind,.int _ oimage,.int _ ox,.int _ oy,.int _ omask,.int _ omx,.int _ omy,.int _ oopac,.int _ ooper,.int _ omode,.bool oiso,.bool okno]]=>some (RV.agg [dJ (zJ6 (⟨bits,⟨cx0,cy0,cx1,cy1⟩,tw,th,ints oxs,zQc mxs,zQb pxs⟩:Scr) (⟨okind,oimage,ox,oy,omask,omx,omy,oopac,ooper,omode,oiso,okno⟩:Oq)).a,dJ (zJ6 (⟨bits,⟨cx0,cy0,cx1,cy1⟩,tw,th,ints oxs,zQc mxs,zQb pxs⟩:Scr) (⟨okind,oimage,ox,oy,omask,omx,omy,oopac,ooper,omode,oiso,okno⟩:Oq)).b,dJ (zJ6 (⟨bits,⟨cx0,cy0,cx1,cy1⟩,tw,th,ints oxs,zQc mxs,zQb pxs⟩:Scr) (⟨okind,oimage,ox,oy,omask,omx,omy,oopac,ooper,omode,oiso,okno⟩:Oq)).c,dJ (zJ6 (⟨bits,⟨cx0,cy0,cx1,cy1⟩,tw,th,ints oxs,zQc mxs,zQb pxs⟩:Scr) (⟨okind,oimage,ox,oy,omask,omx,omy,oopac,ooper,omode,oiso,okno⟩:Oq)).d]) | _=>none) else
  if f=210 then gZ57 xs else
  none
 modes:=fun f=>
  none
 proc:=fun f xs bs=>
  none
 iter:=fun f cs=>
  none
theorem zZt (op:Int):Ans prog 195 [rJ (op)] (rD (dQ (zZw op))):=
 zQa (Γ:=jKc) aL zQf Tryz.func195 rfl (nL rfl) fun hwf=>by
  refine Eq.mpr (by kernel_rfl:_=(let b:=(zXY op 3); let a:=(zXY op 2); let c:=(decide (1≤op∧op < 13)); let d:=(dQ (zZw op)); let e:=(rD (dQ false)=rD d); let f:=(((b==2)=false→tU6 (rD (dQ (b==3))=rD d))∧((b==2)=(!false)→tU3 (rD (dQ true)=rD d))); tU2 ((Ans prog 216 [rJ op] (rT [rA [DV.str (zZJ op),dJ (zXY op 1),dJ a,dJ b],rD (dQ c)]))∧tU8 ((c=true→tU4 (((a==1)=false→tU6 (((a==3)=true→tU4 f)∧((a==3)=(!true)→tU2 e)))∧((a==1)=(!false)→tU7 f)))∧(c=(!true)→tU4 e))))) ?_
  delta dJ dQ rJ
  simp only [sS,zQl,zQu]
  by_cases h:1≤op∧op < 13
  ·rcases zYQ h with rfl | rfl | rfl | rfl | rfl | rfl | rfl | rfl | rfl | rfl | rfl | rfl <;> decide +kernel
  ·have h2:zZw op=false:=by unfold zZw; simp; omega
   simp [h,h2]
theorem zYq (v:Int):Ans prog 256 [rJ (v)] (rD (dQ (farB v))):=
 zQa (Γ:=jKc) aL zQf Tryz.func256 rfl (nL rfl) fun hwf=>by
  refine Eq.mpr (by kernel_rfl:_=(let a:=(decide (v < (-1099511627776:Int))); tU4 ((a=false→tU4 (rD (dQ (decide (v > 1099511627776)))=rD (dQ (farB v))))∧(a=(!false)→tU2 (rD (dQ true)=rD (dQ (farB v))))))) ?_
  delta dQ
  simp only [sS,zQl,zQu,zZt]
  unfold farB
  grind
theorem zJQ (s:Scr) (i x y:Int):Ans prog 236 [rA [dJ s.bits,dJ s.c.a,dJ s.c.b,dJ s.c.c,dJ s.c.d,dJ s.tw,dJ s.th,dS s.ord.length (is s.ord),dS s.ims.length (ims s.ims),dS s.ops.length (ops s.ops)],rJ (i),rJ (x),rJ (y)] (rA [dJ ((zZv s i x y).a),dJ ((zZv s i x y).b),dJ ((zZv s i x y).c),dJ ((zZv s i x y).d)]):=
 zQa (Γ:=jKc) aL zQf Tryz.func236 rfl (nL rfl) fun hwf=>by
  refine Eq.mpr (by kernel_rfl:_=(let g:=(i.toNat*28+1+1+1+1+1+1+1+1+1+1+1); let f:=(s.ims.length:Int); let h:=(i.toNat*28+1+1+1+1+1+1+1+1+1+1+1+1+1+1+1); let d:=(zZv s i x y); let j:=(i.toNat*28+1+1+1+1+1+1+1+1+1+1+1+1+1+1+1+1+1+1+1); let k:=(i.toNat*28+1+1+1+1+1+1+1+1+1+1+1+1+1+1+1+1+1+1+1+1+1+1+1); let l:=(i.toNat*28+1+1+1+1+1+1+1+1+1+1+1+1+1+1+1+1+1+1+1+1+1+1+1+1+1+1+1); let b:=(nAt (ims s.ims) (i.toNat*28)); let c:=(nAt (ims s.ims) (i.toNat*28+1)); let t:=[dJ 0,dJ 0,dJ 0,dJ 0]; let m:=[dJ d.a,dJ d.b,dJ d.c,dJ d.d]; let a:=(rA t=rA m); let n:=(dJ b); let o:=(dJ c); let p:=(wK (x+b)); let q:=(wK (y+c)); let e:=(Rc.inter ⟨x,y,p,q⟩ s.c); let r:=[dJ e.a,dJ e.b,dJ e.c,dJ e.d]; tU5 (((decide (i < 0))=false→tU6 (((decide (i≥f))=true→tU2 a)∧((decide (i≥f))=false→tU3 ((0≤i∧i < f∧i.toNat*28 < (ims s.ims).length)∧(((ims s.ims)[i.toNat*28]?=some n)∧((ims s.ims)[i.toNat*28+1]?=some o)∧((ims s.ims)[i.toNat*28+1+1]?=some (dQ (bAt (ims s.ims) (i.toNat*28+1+1))))∧((ims s.ims)[i.toNat*28+1+1+1]?=some (dK (nAt (ims s.ims) (i.toNat*28+1+1+1))))∧((ims s.ims)[i.toNat*28+1+1+1+1]?=some (dK (nAt (ims s.ims) (i.toNat*28+1+1+1+1))))∧((ims s.ims)[i.toNat*28+1+1+1+1+1]?=some (dK (nAt (ims s.ims) (i.toNat*28+1+1+1+1+1))))∧((ims s.ims)[i.toNat*28+1+1+1+1+1+1]?=some (dK (nAt (ims s.ims) (i.toNat*28+1+1+1+1+1+1))))∧((ims s.ims)[i.toNat*28+1+1+1+1+1+1+1]?=some (dK (nAt (ims s.ims) (i.toNat*28+1+1+1+1+1+1+1))))∧((ims s.ims)[i.toNat*28+1+1+1+1+1+1+1+1]?=some (dJ (nAt (ims s.ims) (i.toNat*28+1+1+1+1+1+1+1+1))))∧((ims s.ims)[i.toNat*28+1+1+1+1+1+1+1+1+1]?=some (dJ (nAt (ims s.ims) (i.toNat*28+1+1+1+1+1+1+1+1+1))))∧((ims s.ims)[i.toNat*28+1+1+1+1+1+1+1+1+1+1]?=some (dJ (nAt (ims s.ims) (i.toNat*28+1+1+1+1+1+1+1+1+1+1))))∧((ims s.ims)[i.toNat*28+1+1+1+1+1+1+1+1+1+1+1]?=some (dS (lAt (ims s.ims) g) (cAt (ims s.ims) g)))∧((ims s.ims)[i.toNat*28+1+1+1+1+1+1+1+1+1+1+1+1]?=some (dJ (nAt (ims s.ims) (i.toNat*28+1+1+1+1+1+1+1+1+1+1+1+1))))∧((ims s.ims)[i.toNat*28+1+1+1+1+1+1+1+1+1+1+1+1+1]?=some (dJ (nAt (ims s.ims) (i.toNat*28+1+1+1+1+1+1+1+1+1+1+1+1+1))))∧((ims s.ims)[i.toNat*28+1+1+1+1+1+1+1+1+1+1+1+1+1+1]?=some (dJ (nAt (ims s.ims) (i.toNat*28+1+1+1+1+1+1+1+1+1+1+1+1+1+1))))∧((ims s.ims)[i.toNat*28+1+1+1+1+1+1+1+1+1+1+1+1+1+1+1]?=some (dS (lAt (ims s.ims) h) (cAt (ims s.ims) h)))∧((ims s.ims)[i.toNat*28+1+1+1+1+1+1+1+1+1+1+1+1+1+1+1+1]?=some (dJ (nAt (ims s.ims) (i.toNat*28+1+1+1+1+1+1+1+1+1+1+1+1+1+1+1+1))))∧((ims s.ims)[i.toNat*28+1+1+1+1+1+1+1+1+1+1+1+1+1+1+1+1+1]?=some (dJ (nAt (ims s.ims) (i.toNat*28+1+1+1+1+1+1+1+1+1+1+1+1+1+1+1+1+1))))∧((ims s.ims)[i.toNat*28+1+1+1+1+1+1+1+1+1+1+1+1+1+1+1+1+1+1]?=some (dJ (nAt (ims s.ims) (i.toNat*28+1+1+1+1+1+1+1+1+1+1+1+1+1+1+1+1+1+1))))∧((ims s.ims)[i.toNat*28+1+1+1+1+1+1+1+1+1+1+1+1+1+1+1+1+1+1+1]?=some (dS (lAt (ims s.ims) j) (cAt (ims s.ims) j)))∧((ims s.ims)[i.toNat*28+1+1+1+1+1+1+1+1+1+1+1+1+1+1+1+1+1+1+1+1]?=some (dJ (nAt (ims s.ims) (i.toNat*28+1+1+1+1+1+1+1+1+1+1+1+1+1+1+1+1+1+1+1+1))))∧((ims s.ims)[i.toNat*28+1+1+1+1+1+1+1+1+1+1+1+1+1+1+1+1+1+1+1+1+1]?=some (dJ (nAt (ims s.ims) (i.toNat*28+1+1+1+1+1+1+1+1+1+1+1+1+1+1+1+1+1+1+1+1+1))))∧((ims s.ims)[i.toNat*28+1+1+1+1+1+1+1+1+1+1+1+1+1+1+1+1+1+1+1+1+1+1]?=some (dJ (nAt (ims s.ims) (i.toNat*28+1+1+1+1+1+1+1+1+1+1+1+1+1+1+1+1+1+1+1+1+1+1))))∧((ims s.ims)[i.toNat*28+1+1+1+1+1+1+1+1+1+1+1+1+1+1+1+1+1+1+1+1+1+1+1]?=some (dS (lAt (ims s.ims) k) (cAt (ims s.ims) k)))∧((ims s.ims)[i.toNat*28+1+1+1+1+1+1+1+1+1+1+1+1+1+1+1+1+1+1+1+1+1+1+1+1]?=some (dJ (nAt (ims s.ims) (i.toNat*28+1+1+1+1+1+1+1+1+1+1+1+1+1+1+1+1+1+1+1+1+1+1+1+1))))∧((ims s.ims)[i.toNat*28+1+1+1+1+1+1+1+1+1+1+1+1+1+1+1+1+1+1+1+1+1+1+1+1+1]?=some (dJ (nAt (ims s.ims) (i.toNat*28+1+1+1+1+1+1+1+1+1+1+1+1+1+1+1+1+1+1+1+1+1+1+1+1+1))))∧((ims s.ims)[i.toNat*28+1+1+1+1+1+1+1+1+1+1+1+1+1+1+1+1+1+1+1+1+1+1+1+1+1+1]?=some (dJ (nAt (ims s.ims) (i.toNat*28+1+1+1+1+1+1+1+1+1+1+1+1+1+1+1+1+1+1+1+1+1+1+1+1+1+1))))∧((ims s.ims)[i.toNat*28+1+1+1+1+1+1+1+1+1+1+1+1+1+1+1+1+1+1+1+1+1+1+1+1+1+1+1]?=some (dS (lAt (ims s.ims) l) (cAt (ims s.ims) l)))∧True)∧tU3 ((Ans prog 256 [rJ x] (rD (dQ (farB x))))∧True∧(((farB x)=false→True∧(Ans prog 256 [rJ y] (rD (dQ (farB y))))∧tU2 (((farB y)=false→tU2 ((Ans prog 256 [rD n] (rD (dQ (farB b))))∧tU2 (((farB b)=false→tU2 ((Ans prog 256 [rD o] (rD (dQ (farB c))))∧True∧(((farB c)=true→tU2 a)∧((farB c)=false→tU5 (tU8 ((Ans prog 157 [rA [dJ x,dJ y,dJ p,dJ q],rA [dJ s.c.a,dJ s.c.b,dJ s.c.c,dJ s.c.d]] (rA r))∧True∧rA r=rA m))))))∧((farB b)=(!false)→tU3 a))))∧((farB y)=(!false)→tU5 a)))∧((farB x)=(!false)→tU7 a)))))))∧((decide (i < 0))=(!false)→tU3 a)))) ?_
  delta dJ dK dQ wK dS rJ
  simp only [sS,zQl,zQu,zZt,zYq]
  (try simp only [zJs,zYl,zZD,zZd,zQG])
  have hsE:(⟨s.bits,s.c,s.tw,s.th,s.ord,s.ims,s.ops⟩:Scr)=s:=rfl
  (try simp only [hsE])
  clear hsE
  have hfw:∀ a b:Int,farB a=false→farB b=false→wrap .i64 (a+b)=a+b:=fun a b h1 h2=>by
   unfold farB at h1 h2
   have h1:=of_decide_eq_false h1
   have h2:=of_decide_eq_false h2
   exact IntWalk.i64_in _ ⟨by omega,by omega⟩
  have z:zZv s i x y=Rc.zero→0=(zZv s i x y).a∧0=(zZv s i x y).b∧0=(zZv s i x y).c∧0=(zZv s i x y).d:=fun h=>by rw [h]; exact ⟨rfl,rfl,rfl,rfl⟩
  refine ⟨fun h0=>⟨fun h1=>z (zGy x y (.inr h1)),fun h1=>?_⟩,fun h0=>z (zGy x y (.inl h0))⟩
  have hk:i.toNat < s.ims.length:=by omega
  have e:=zH3 x y (show 0≤i by omega) hk
  have q1:=jJr hk
  have q2:=jJs hk
  simp only [q2]
  have fin:farB x=false→farB y=false→farB s.ims[i.toNat].w=false→farB s.ims[i.toNat].h=false→Rc.inter ⟨x,y,wrap .i64 (x+s.ims[i.toNat].w),wrap .i64 (y+s.ims[i.toNat].h)⟩ s.c=zZv s i x y:=fun f1 f2 f3 f4=>by
   rw [e,hfw _ _ f1 f3,hfw _ _ f2 f4,f1,f2,f3,f4]; rfl
  refine ⟨⟨by omega,by omega,by rw [zJP]; omega⟩,q1,fun f1=>⟨fun f2=>⟨fun f3=>⟨fun f4=>z (by rw [e,f4]; simp),fun f4=>?_⟩,fun f3=>z (by rw [e,f3]; simp)⟩,fun f2=>z (by rw [e,f2]; simp)⟩,fun f1=>z (by rw [e,f1]; simp)⟩
  rw [← fin f1 f2 f3 f4]
  exact ⟨zQu _ _ _ _ _ _ _ _,rfl,rfl,rfl,rfl⟩
def sE (s:Scr):Scr:=⟨s.bits,s.c,s.tw,s.th,ints (is s.ord),zQc (ims s.ims),zQb (ops s.ops)⟩
theorem zVi (s:Scr) (o:Oq):Ans prog 197 [rA [dJ s.bits,dJ s.c.a,dJ s.c.b,dJ s.c.c,dJ s.c.d,dJ s.tw,dJ s.th,dS s.ord.length (is s.ord),dS s.ims.length (ims s.ims),dS s.ops.length (ops s.ops)],rA [dJ o.kind,dJ o.image,dJ o.x,dJ o.y,dJ o.mask,dJ o.mx,dJ o.my,dK o.opac,dJ o.oper,dJ o.mode,dQ o.iso,dQ o.kno]] (rA [dJ ((imgR s o).a),dJ ((imgR s o).b),dJ ((imgR s o).c),dJ ((imgR s o).d)]):=
 zQa (Γ:=jKc) aL zQf Tryz.func197 rfl (nL rfl) fun hwf=>by
  refine Eq.mpr (by kernel_rfl:_=(let e:=(zZv ((sE s):Scr) o.image o.x o.y); let f:=[dJ (imgR s o).a,dJ (imgR s o).b,dJ (imgR s o).c,dJ (imgR s o).d]; let g:=[dJ e.a,dJ e.b,dJ e.c,dJ e.d]; tU6 (((o.kind != 1)=true→tU2 (rA [dJ 0,dJ 0,dJ 0,dJ 0]=rA f))∧((o.kind != 1)=false→tU7 ((Ans prog 236 [rA [dJ s.bits,dJ s.c.a,dJ s.c.b,dJ s.c.c,dJ s.c.d,dJ s.tw,dJ s.th,dS s.ord.length (is s.ord),dS s.ims.length (ims s.ims),dS s.ops.length (ops s.ops)],rJ o.image,rJ o.x,rJ o.y] (rA g))∧True∧rA g=rA f))))) ?_
  delta sE dJ dS rJ
  simp only [sS,zQl,zQu,zZt,zYq]
  (try simp only [zJs,zYl,zZD,zZd,zQG])
  have hsE:(⟨s.bits,s.c,s.tw,s.th,s.ord,s.ims,s.ops⟩:Scr)=s:=rfl
  (try simp only [hsE])
  clear hsE
  refine ⟨fun h=>?_,fun h=>?_⟩
  ·have h:¬ o.kind=1:=by simpa using h
   unfold imgR
   rw [if_neg h]
   exact ⟨rfl,rfl,rfl,rfl⟩
  ·have h:o.kind=1:=by simpa using h
   unfold imgR
   rw [if_pos h]
   exact ⟨zJQ s o.image o.x o.y,rfl,rfl,rfl,rfl⟩
theorem zVP (s:Scr) (o:Oq):Ans prog 235 [rA [dJ s.bits,dJ s.c.a,dJ s.c.b,dJ s.c.c,dJ s.c.d,dJ s.tw,dJ s.th,dS s.ord.length (is s.ord),dS s.ims.length (ims s.ims),dS s.ops.length (ops s.ops)],rA [dJ o.kind,dJ o.image,dJ o.x,dJ o.y,dJ o.mask,dJ o.mx,dJ o.my,dK o.opac,dJ o.oper,dJ o.mode,dQ o.iso,dQ o.kno]] (rA [dJ ((zJ6 s o).a),dJ ((zJ6 s o).b),dJ ((zJ6 s o).c),dJ ((zJ6 s o).d)]):=
 zQa (Γ:=jKc) aL zQf Tryz.func235 rfl (nL rfl) fun hwf=>by
  refine Eq.mpr (by kernel_rfl:_=(let e:=(Rc.inter s.c s.c); let h:=[dJ s.c.a,dJ s.c.b,dJ s.c.c,dJ s.c.d]; let i:=[dJ e.a,dJ e.b,dJ e.c,dJ e.d]; let g:=[dJ (zJ6 s o).a,dJ (zJ6 s o).b,dJ (zJ6 s o).c,dJ (zJ6 s o).d]; let j:=(wK (o.mask - 1)); let f:=(zZv ((sE s):Scr) j o.mx o.my); let k:=[dJ f.a,dJ f.b,dJ f.c,dJ f.d]; tU6 (((o.mask==0)=true→tU4 ((Ans prog 157 [rA h,rA h] (rA i))∧True∧rA i=rA g))∧((o.mask==0)=false→tU3 (((decide (o.mask < 0))=true→tU2 (rA [dJ 0,dJ 0,dJ 0,dJ 0]=rA g))∧((decide (o.mask < 0))=false→tU8 ((Ans prog 236 [rA [dJ s.bits,dJ s.c.a,dJ s.c.b,dJ s.c.c,dJ s.c.d,dJ s.tw,dJ s.th,dS s.ord.length (is s.ord),dS s.ims.length (ims s.ims),dS s.ops.length (ops s.ops)],rJ j,rJ o.mx,rJ o.my] (rA k))∧True∧rA k=rA g))))))) ?_
  delta sE dJ wK dS rJ
  simp only [sS,zQl,zQu,zZt,zYq]
  (try simp only [zJs,zYl,zZD,zZd,zQG])
  have hsE:(⟨s.bits,s.c,s.tw,s.th,s.ord,s.ims,s.ops⟩:Scr)=s:=rfl
  (try simp only [hsE])
  clear hsE
  refine ⟨fun h=>?_,fun h=>⟨fun h2=>?_,fun h2=>?_⟩⟩
  ·have h:o.mask=0:=by simpa using h
   unfold zJ6
   rw [if_pos h]
   exact ⟨zQu _ _ _ _ _ _ _ _,rfl,rfl,rfl,rfl⟩
  ·have h:¬ o.mask=0:=by simpa using h
   unfold zJ6
   rw [if_neg h,if_pos h2]
   exact ⟨rfl,rfl,rfl,rfl⟩
  ·have h:¬ o.mask=0:=by simpa using h
   unfold zJ6
   rw [if_neg h,if_neg h2]
   simp only [RV.wfs,RV.wf,DV.wf,DV.wfs] at hwf
   have hr : -9223372036854775808≤o.mask∧o.mask≤9223372036854775807:=hwf.2.1.2.2.2.2.1
   rw [IntWalk.i64_in _ ⟨by omega,by omega⟩]
   exact ⟨zJQ s (o.mask - 1) o.mx o.my,rfl,rfl,rfl,rfl⟩
theorem zVt (s:Scr) (o:Oq) (r:Rc):Ans prog 210 [rA [dJ s.bits,dJ s.c.a,dJ s.c.b,dJ s.c.c,dJ s.c.d,dJ s.tw,dJ s.th,dS s.ord.length (is s.ord),dS s.ims.length (ims s.ims),dS s.ops.length (ops s.ops)],rA [dJ o.kind,dJ o.image,dJ o.x,dJ o.y,dJ o.mask,dJ o.mx,dJ o.my,dK o.opac,dJ o.oper,dJ o.mode,dQ o.iso,dQ o.kno],rA [dJ r.a,dJ r.b,dJ r.c,dJ r.d]] (rA [dJ ((boxF s o r).a),dJ ((boxF s o r).b),dJ ((boxF s o r).c),dJ ((boxF s o r).d)]):=
 zQa (Γ:=jKc) aL zQf Tryz.func210 rfl (nL rfl) fun hwf=>by
  refine Eq.mpr (by kernel_rfl:_=(let b:=(boxF s o r); let a:=(zJ6 ((sE s):Scr) o); let c:=(Rc.inter r a); let d:=[dJ b.a,dJ b.b,dJ b.c,dJ b.d]; let e:=[dJ a.a,dJ a.b,dJ a.c,dJ a.d]; let f:=[dJ c.a,dJ c.b,dJ c.c,dJ c.d]; tU6 ((Ans prog 195 [rJ o.oper] (rD (dQ (zZw o.oper))))∧tU2 (((!(zZw o.oper))=true→tU3 (rA [dJ s.c.a,dJ s.c.b,dJ s.c.c,dJ s.c.d]=rA d))∧((!(zZw o.oper))=false→tU4 (((o.opac==0)=true→tU2 (rA [dJ 0,dJ 0,dJ 0,dJ 0]=rA d))∧((o.opac==0)=false→tU3 ((Ans prog 235 [rA [dJ s.bits,dJ s.c.a,dJ s.c.b,dJ s.c.c,dJ s.c.d,dJ s.tw,dJ s.th,dS s.ord.length (is s.ord),dS s.ims.length (ims s.ims),dS s.ops.length (ops s.ops)],rA (Oq.cells o)] (rA e))∧(Ans prog 157 [rA [dJ r.a,dJ r.b,dJ r.c,dJ r.d],rA e] (rA f))∧True∧(true=true)∧rA f=rA d)))))))) ?_
  delta sE dJ dQ dS rJ
  simp only [sS,zQl,zQu,zZt,zYq]
  (try simp only [zJs,zYl,zZD,zZd,zQG])
  have hsE:(⟨s.bits,s.c,s.tw,s.th,s.ord,s.ims,s.ops⟩:Scr)=s:=rfl
  (try simp only [hsE])
  clear hsE
  refine ⟨fun h=>?_,fun h=>⟨fun h2=>?_,fun h2=>?_⟩⟩
  ·unfold boxF
   rw [if_pos h]
   exact ⟨rfl,rfl,rfl,rfl⟩
  ·have h2:o.opac=0:=by simpa using h2
   unfold boxF
   rw [if_neg (by rw [h]; decide),if_pos h2]
   exact ⟨rfl,rfl,rfl,rfl⟩
  ·have h2:¬ o.opac=0:=by simpa using h2
   unfold boxF
   rw [if_neg (by rw [h]; decide),if_neg h2]
   exact ⟨zVP s o,zQu _ _ _ _ _ _ _ _,rfl,rfl,rfl,rfl⟩
end
section
variable {α:Type} {f:α→List DV} {m:Nat}
theorem flat_len (hf:∀ a,(f a).length=m) (l:List α):(l.flatMap f).length=l.length*m:=by
 induction l with
 | nil=>simp
 | cons a l ih=>rw [List.flatMap_cons,List.length_append,hf,ih,List.length_cons,Nat.add_mul]; omega
theorem zGZ (hf:∀ a,(f a).length=m):∀ (l:List α) (k:Nat),(l.flatMap f).take (k*m)=(l.take k).flatMap f
 | [],k=>by simp
 | a::l,0=>by simp
 | a::l,k+1=>by
  rw [List.flatMap_cons,List.take_succ_cons,List.flatMap_cons,List.take_append,hf,List.take_of_length_le (by rw [hf,Nat.add_mul]; omega),show (k+1)*m - m=k*m by rw [Nat.add_mul]; omega,zGZ hf l k]
theorem jXy (hf:∀ a,(f a).length=m):∀ (l:List α) (k:Nat),(l.flatMap f).drop (k*m)=(l.drop k).flatMap f
 | [],k=>by simp
 | a::l,0=>by simp
 | a::l,k+1=>by
  rw [List.flatMap_cons,List.drop_succ_cons,List.drop_append,hf,List.drop_of_length_le (by rw [hf,Nat.add_mul]; omega),show (k+1)*m - m=k*m by rw [Nat.add_mul]; omega,jXy hf l k,List.nil_append]
theorem jVC (hf:∀ a,(f a).length=m) {l:List α} {k:Nat} (h:k < l.length) (a:α):sets (l.flatMap f) (k*m) (f a)=(l.set k a).flatMap f:=by
 have hle:(k+1)*m≤l.length*m:=Nat.mul_le_mul_right _ (by omega)
 rw [zWI _ _ _ (by rw [flat_len hf,hf]; rw [Nat.add_mul] at hle; omega),hf,zGZ hf,show k*m+m=(k+1)*m by rw [Nat.add_mul]; omega,jXy hf,List.set_eq_take_append_cons_drop,if_pos h]
 simp
end
end Go.Proofs.YtbnmadpcdlnleaaGreatDoor
