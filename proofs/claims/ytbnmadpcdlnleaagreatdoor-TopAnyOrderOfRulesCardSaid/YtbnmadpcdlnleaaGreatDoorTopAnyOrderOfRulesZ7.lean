/-
  Part 7 of what TopAnyOrderOfRules rests on.
-/
import Derived.Test.YtbnmadpcdlnleaaGreatDoorTopAnyOrderOfRulesZ6
import Derived.Test.YtbnmadpcdlnleaaGreatDoorRows
import Derived.LaidMore
import Derived.Stop.Joined
import Derived.Shelf.Vars
namespace Go.Proofs.YtbnmadpcdlnleaaGreatDoor
open Go.IntKind (wrap)
open Go.RowKit
set_option linter.unusedVariables false
set_option linter.unusedSimpArgs false
set_option maxRecDepth 20000
open Go.Proofs.Tryz (prog)
abbrev wYR:=@Tryz.ntmps147
abbrev wYQ:=@Tryz.underlying22
theorem jU9(n:Nat)(xs:List DV)(hl:xs.length=n)(hb:n*8<=140737488355328):AnsO prog 147 [RV.d (.sl n xs)] 3 1 n xs:=by
 intro w S vs hG hvs;obtain⟨v,rfl,hv⟩:∃v,vs=#[v]/\RepD w S (.sl n xs) v:=by
  obtain⟨l⟩:=vs
  match l,hvs with
  |[v],h=>simp only[RepRs,RepR]at h;exact⟨v,rfl,h.1⟩
  |[],h=>simp only[RepRs]at h
  |_::_::_,h=>simp only[RepRs]at h;exact h.2.elim
 have hv':=hv;simp only[RepD]at hv;obtain⟨A,cap,rfl,h1,h2,h3⟩:=hv
 cases A with
 |none=>
  have:xs=[]:=by
   cases xs with
   |nil=>rfl
   |cons x xs=>obtain⟨g,off,e,_⟩:=h3 (by simp);cases e
  subst this;simp at hl;subst hl;have hq:=λw'=>wZW (P:=prog) w' 22 3 none 0 cap 0 0 wYQ
  go_enter Tryz.func147,wYR
  go_wp2
  go_ret
  exact⟨_,rfl,[],⟨rfl,.inl ⟨rfl,rfl⟩⟩,trivial,wQ7 _ _⟩
 |some a=>
  have hq:=λw'=>wZW (P:=prog) w' 22 3 (some a) n cap 0 0 wYQ;by_cases hn:n=0
  .subst hn;have:xs=[]:=List.eq_nil_of_length_eq_zero hl;subst this
   go_enter Tryz.func147,wYR
   go_wp2
   refine wZP (v:=.slice (some ⟨w.heap.size,0,none⟩) 0 0) (by simp[results,Tryz.results147,go_sem, *]) rfl ?_;exact⟨_,rfl,[],⟨rfl,.inr ⟨w.heap.size,0,#[],rfl,Nat.le_refl _,.plain (wQN w _),Nat.le_refl _,wQj _,rfl,rfl⟩⟩,trivial,(wQ7 _ _).alloc (Nat.le_refl _) _⟩
  .obtain⟨g,off,hA,hg,hc⟩:=h3 (by intro h;subst h;exact hn (by simpa using hl.symm));injection hA with hA
   subst hA;obtain⟨us,u1,u2⟩:=zXd hc;have hul:us.length=n:=by rw[<-zQ8 u1,hl]
   have hown:(w.alloc (.cells #[] 3)).ownsRow w.heap.size 3 1 (.slice (some ⟨w.heap.size,0,none⟩) 0 0) 0 []:=
    ⟨rfl,.inr ⟨w.heap.size,0,#[],rfl,Nat.le_refl _,wQN w _,Nat.le_refl _,wQj _,rfl,rfl⟩⟩
   go_enter Tryz.func147,wYR
   have hi0:prog.info? 3=some Tryz.t3:=by kernel_rfl
   have hi1:Tryz.t3.zero=some (.int .i64 0):=by kernel_rfl
   have hi2:Tryz.t3.size=1:=by kernel_rfl
   have hi3:Tryz.t3.bytes=8:=by kernel_rfl
   go_wp2_with (at_builtin;refine wYa _ rfl (.tmp 5) (.tmp 6) 22 rfl w.heap.size 3 Tryz.t3 (.int .i64 0) 1 8 wYQ hi0 hi1 hi2 hi3 rfl (by omega) _ 0 [] rfl hown ⟨g,off,none⟩ n cap us rfl (by rw[hul];omega) (λj u hj=>by rw[zZp];exact(wYb _ (u2 j u hj))) (zYm u1) (by omega) (by omega) (by omega) (by simp) _ rfl ?_;intro g2 c2 w2 hown2 hgrow hat hgl)
   have hob:w.heap.size<=w2.heap.size/\Below w.heap.size w w2:=by
    have hb1:Below w.heap.size w (w.alloc (.cells #[] 3)):=(wQ7 _ _).alloc (Nat.le_refl _) _
    have hb2:=hb1.grown hgrow (by simp) (λx hx=>by
     simp[Act.eval,Value.ownBlock]at hx
     omega)
    exact⟨hb2.size,hb2⟩
   refine wZP (v:=.slice (some ⟨g2,0,none⟩) (0+n) c2) (by simp[results,Tryz.results147,go_sem, *]) rfl ?_;rw[Nat.zero_add,List.nil_append]at hown2;rw[Nat.zero_add];have hge:w.heap.size<=g2:=by
    rcases hown2.2 with⟨e,_⟩|⟨g',cap',cur,e,q1,_⟩
    .cases e
    .simp only[wYc,wQa,wYd,and_true,true_and]at e;obtain⟨rfl,rfl⟩:=e;exact q1
   refine⟨_,rfl,us,zUA hown2,u1.keep λg o u hV hu=>?_,hob.2⟩;have hlt:g<w.heap.size:=wZI w _ hu;refine⟨⟨.inl hV,λe=>?_⟩,(hob.2.cell (p:=⟨g,o,none⟩) hlt).trans hu⟩;simp only[Value.ownBlock,wQa]at e;omega
abbrev wYT:=@Tryz.ntmps148
abbrev wYS:=@Tryz.underlying29
set_option maxRecDepth 20000 in
theorem jU8(n:Nat)(xs:List DV)(hl:xs.length=n*28)(hb:n*272<=140737488355328):AnsO prog 148 [RV.d (.sl n xs)] 43 28 n xs:=by
 intro w S vs hG hvs;obtain⟨v,rfl,hv⟩:∃v,vs=#[v]/\RepD w S (.sl n xs) v:=by
  obtain⟨l⟩:=vs
  match l,hvs with
  |[v],h=>simp only[RepRs,RepR]at h;exact⟨v,rfl,h.1⟩
  |[],h=>simp only[RepRs]at h
  |_::_::_,h=>simp only[RepRs]at h;exact h.2.elim
 have hv':=hv;simp only[RepD]at hv;obtain⟨A,cap,rfl,h1,h2,h3⟩:=hv
 cases A with
 |none=>
  have:xs=[]:=by
   cases xs with
   |nil=>rfl
   |cons x xs=>obtain⟨g,off,e,_⟩:=h3 (by simp);cases e
  subst this;have hl:n=0:=by simp at hl;omega
  subst hl;have hq:=λw'=>wZW (P:=prog) w' 29 43 none 0 cap 0 0 wYS
  go_enter Tryz.func148,wYT
  go_wp2
  go_ret
  exact⟨_,rfl,[],⟨rfl,.inl ⟨rfl,rfl⟩⟩,trivial,wQ7 _ _⟩
 |some a=>
  have hq:=λw'=>wZW (P:=prog) w' 29 43 (some a) n cap 0 0 wYS;by_cases hn:n=0
  .subst hn;have:xs=[]:=List.eq_nil_of_length_eq_zero (by omega);subst this
   go_enter Tryz.func148,wYT
   go_wp2
   refine wZP (v:=.slice (some ⟨w.heap.size,0,none⟩) 0 0) (by simp[results,Tryz.results148,go_sem, *]) rfl ?_;exact⟨_,rfl,[],⟨rfl,.inr ⟨w.heap.size,0,#[],rfl,Nat.le_refl _,.plain (wQN w _),Nat.le_refl _,wQj _,rfl,rfl⟩⟩,trivial,(wQ7 _ _).alloc (Nat.le_refl _) _⟩
  .obtain⟨g,off,hA,hg,hc⟩:=h3 (by intro h;subst h;exact hn (by simp at hl;omega));injection hA with hA
   subst hA;obtain⟨us,u1,u2⟩:=zXd hc;have hul:us.length=n*28:=by rw[<-zQ8 u1,hl]
   have hown:(w.alloc (.cells #[] 43)).ownsRow w.heap.size 43 28 (.slice (some ⟨w.heap.size,0,none⟩) 0 0) 0 []:=
    ⟨rfl,.inr ⟨w.heap.size,0,#[],rfl,Nat.le_refl _,wQN w _,Nat.le_refl _,wQj _,rfl,rfl⟩⟩
   go_enter Tryz.func148,wYT
   have hi0:prog.info? 43=some Tryz.t43:=by kernel_rfl
   have hi1:Tryz.t43.zero=some (.agg #[.int .i64 0,.int .i64 0,.bool false,.int .u16 0,.int .u16 0,.int .u16 0,.int .u16 0,.int .u16 0,.int .i64 0,.int .i64 0,.int .i64 0,.slice none 0 0,.int .i64 0,.int .i64 0,.int .i64 0,.slice none 0 0,.int .i64 0,.int .i64 0,.int .i64 0,.slice none 0 0,.int .i64 0,.int .i64 0,.int .i64 0,.slice none 0 0,.int .i64 0,.int .i64 0,.int .i64 0,.slice none 0 0]):=by kernel_rfl
   have hi2:Tryz.t43.size=28:=by kernel_rfl
   have hi3:Tryz.t43.bytes=272:=by kernel_rfl
   go_wp2_with (at_builtin;refine wYa _ rfl (.tmp 5) (.tmp 6) 29 rfl w.heap.size 43 Tryz.t43 (.agg #[.int .i64 0,.int .i64 0,.bool false,.int .u16 0,.int .u16 0,.int .u16 0,.int .u16 0,.int .u16 0,.int .i64 0,.int .i64 0,.int .i64 0,.slice none 0 0,.int .i64 0,.int .i64 0,.int .i64 0,.slice none 0 0,.int .i64 0,.int .i64 0,.int .i64 0,.slice none 0 0,.int .i64 0,.int .i64 0,.int .i64 0,.slice none 0 0,.int .i64 0,.int .i64 0,.int .i64 0,.slice none 0 0]) 28 272 wYS hi0 hi1 hi2 hi3 rfl (by omega) _ 0 [] rfl hown ⟨g,off,none⟩ n cap us rfl hul (λj u hj=>by rw[zZp];exact(wYb _ (u2 j u hj))) (zYm u1) (by omega) (by omega) (by omega) (by simp) _ rfl ?_;intro g2 c2 w2 hown2 hgrow hat hgl)
   have hob:w.heap.size<=w2.heap.size/\Below w.heap.size w w2:=by
    have hb1:Below w.heap.size w (w.alloc (.cells #[] 43)):=(wQ7 _ _).alloc (Nat.le_refl _) _
    have hb2:=hb1.grown hgrow (by simp) (λx hx=>by
     simp[Act.eval,Value.ownBlock]at hx
     omega)
    exact⟨hb2.size,hb2⟩
   refine wZP (v:=.slice (some ⟨g2,0,none⟩) (0+n) c2) (by simp[results,Tryz.results148,go_sem, *]) rfl ?_;rw[Nat.zero_add,List.nil_append]at hown2;rw[Nat.zero_add];have hge:w.heap.size<=g2:=by
    rcases hown2.2 with⟨e,_⟩|⟨g',cap',cur,e,q1,_⟩
    .cases e
    .simp only[wYc,wQa,wYd,and_true,true_and]at e;obtain⟨rfl,rfl⟩:=e;exact q1
   refine⟨_,rfl,us,zUA hown2,u1.keep λg o u hV hu=>?_,hob.2⟩;have hlt:g<w.heap.size:=wZI w _ hu;refine⟨⟨.inl hV,λe=>?_⟩,(hob.2.cell (p:=⟨g,o,none⟩) hlt).trans hu⟩;simp only[Value.ownBlock,wQa]at e;omega
abbrev wYV:=@Tryz.ntmps149
abbrev wYU:=@Tryz.underlying38
theorem jU6(n:Nat)(xs:List DV)(hl:xs.length=n*1)(hb:n*2<=140737488355328):AnsO prog 149 [RV.d (.sl n xs)] 34 1 n xs:=by
 intro w S vs hG hvs;obtain⟨v,rfl,hv⟩:∃v,vs=#[v]/\RepD w S (.sl n xs) v:=by
  obtain⟨l⟩:=vs
  match l,hvs with
  |[v],h=>simp only[RepRs,RepR]at h;exact⟨v,rfl,h.1⟩
  |[],h=>simp only[RepRs]at h
  |_::_::_,h=>simp only[RepRs]at h;exact h.2.elim
 have hv':=hv;simp only[RepD]at hv;obtain⟨A,cap,rfl,h1,h2,h3⟩:=hv
 cases A with
 |none=>
  have:xs=[]:=by
   cases xs with
   |nil=>rfl
   |cons x xs=>obtain⟨g,off,e,_⟩:=h3 (by simp);cases e
  subst this;have hl:n=0:=by simp at hl;omega
  subst hl;have hq:=λw'=>wZW (P:=prog) w' 38 34 none 0 cap 0 0 wYU
  go_enter Tryz.func149,wYV
  go_wp2
  go_ret
  exact⟨_,rfl,[],⟨rfl,.inl ⟨rfl,rfl⟩⟩,trivial,wQ7 _ _⟩
 |some a=>
  have hq:=λw'=>wZW (P:=prog) w' 38 34 (some a) n cap 0 0 wYU;by_cases hn:n=0
  .subst hn;have:xs=[]:=List.eq_nil_of_length_eq_zero (by omega);subst this
   go_enter Tryz.func149,wYV
   go_wp2
   refine wZP (v:=.slice (some ⟨w.heap.size,0,none⟩) 0 0) (by simp[results,Tryz.results149,go_sem, *]) rfl ?_;exact⟨_,rfl,[],⟨rfl,.inr ⟨w.heap.size,0,#[],rfl,Nat.le_refl _,.plain (wQN w _),Nat.le_refl _,wQj _,rfl,rfl⟩⟩,trivial,(wQ7 _ _).alloc (Nat.le_refl _) _⟩
  .obtain⟨g,off,hA,hg,hc⟩:=h3 (by intro h;subst h;exact hn (by simp at hl;omega));injection hA with hA
   subst hA;obtain⟨us,u1,u2⟩:=zXd hc;have hul:us.length=n*1:=by rw[<-zQ8 u1,hl]
   have hown:(w.alloc (.cells #[] 34)).ownsRow w.heap.size 34 1 (.slice (some ⟨w.heap.size,0,none⟩) 0 0) 0 []:=
    ⟨rfl,.inr ⟨w.heap.size,0,#[],rfl,Nat.le_refl _,wQN w _,Nat.le_refl _,wQj _,rfl,rfl⟩⟩
   go_enter Tryz.func149,wYV
   have hi0:prog.info? 34=some Tryz.t34:=by kernel_rfl
   have hi1:Tryz.t34.zero=some (.int .u16 0):=by kernel_rfl
   have hi2:Tryz.t34.size=1:=by kernel_rfl
   have hi3:Tryz.t34.bytes=2:=by kernel_rfl
   go_wp2_with (at_builtin;refine wYa _ rfl (.tmp 5) (.tmp 6) 38 rfl w.heap.size 34 Tryz.t34 (.int .u16 0) 1 2 wYU hi0 hi1 hi2 hi3 rfl (by omega) _ 0 [] rfl hown ⟨g,off,none⟩ n cap us rfl hul (λj u hj=>by rw[zZp];exact(wYb _ (u2 j u hj))) (zYm u1) (by omega) (by omega) (by omega) (by simp) _ rfl ?_;intro g2 c2 w2 hown2 hgrow hat hgl)
   have hob:w.heap.size<=w2.heap.size/\Below w.heap.size w w2:=by
    have hb1:Below w.heap.size w (w.alloc (.cells #[] 34)):=(wQ7 _ _).alloc (Nat.le_refl _) _
    have hb2:=hb1.grown hgrow (by simp) (λx hx=>by
     simp[Act.eval,Value.ownBlock]at hx
     omega)
    exact⟨hb2.size,hb2⟩
   refine wZP (v:=.slice (some ⟨g2,0,none⟩) (0+n) c2) (by simp[results,Tryz.results149,go_sem, *]) rfl ?_;rw[Nat.zero_add,List.nil_append]at hown2;rw[Nat.zero_add];have hge:w.heap.size<=g2:=by
    rcases hown2.2 with⟨e,_⟩|⟨g',cap',cur,e,q1,_⟩
    .cases e
    .simp only[wYc,wQa,wYd,and_true,true_and]at e;obtain⟨rfl,rfl⟩:=e;exact q1
   refine⟨_,rfl,us,zUA hown2,u1.keep λg o u hV hu=>?_,hob.2⟩;have hlt:g<w.heap.size:=wZI w _ hu;refine⟨⟨.inl hV,λe=>?_⟩,(hob.2.cell (p:=⟨g,o,none⟩) hlt).trans hu⟩;simp only[Value.ownBlock,wQa]at e;omega
theorem zHk{w:World}{V:Nat->Prop}{g:Nat}{cur:Array Value}{e:TypeId}(hr:zWc w g cur e):∀(ys:List DV)(us:List Value)(off:Nat),zZo w V ys us->(∀j,j<us.length->cur[off+j]?=us[j]?)->RepCells w V ys g off
 |[],_,_,_,_=>trivial
 |d::ds,[],_,h,_=>h.elim
 |d::ds,u::us,off,h,hc=>⟨⟨u,(hr.cell off).trans (by simpa using hc 0 (by simp)),h.1⟩,zHk hr ds us (off+1) h.2 (λj hj=>by
   have:=hc (j+1) (by simp;omega);rw[show off+1+j=off+(j+1) by omega]
   simpa using this)⟩
variable{P:Program}{ys:List DV}
theorem AnsO.ans{f:FuncId}{args:List RV}{e size n:Nat}(h:AnsO P f args e size n ys):Ans P f args (.d (.sl n ys)):=λw S vs hG hvs=>by
 refine(h w S vs hG hvs).mono λed w' hq=>?_;obtain⟨v,us,rfl,⟨hl,ho⟩,hr,hy,hb⟩:=hq;refine⟨v,rfl,?_,hb⟩;have hr':zZo w' (λg=>S g\/w.heap.size<=g) ys us:=hr.keep (λg off u hV hu=>⟨hV.1,hu⟩);simp only[RepR,RepD]
 rcases ho with⟨rfl,rfl⟩|⟨g,cap,cur,rfl,hg,hrow,hn,hc,hs,ht⟩
 .refine⟨none,0,rfl,Nat.le_refl _,wQj _,λhne=>?_⟩;exact absurd (List.eq_nil_of_length_eq_zero (by omega)) hne
 .refine⟨_,cap,rfl,hn,hc,λ_=>⟨g,0,rfl,.inr hg,zHk hrow ys us 0 hr' λj hj=>?_⟩⟩;rw[<-ht]at hj |-;have hj':j<n*size:=by
   rw[wQl]at hj;omega
  rw[List.getElem?_take_of_lt hj',Nat.zero_add];simp
theorem jU7(n:Nat)(xs:List DV)(hl:xs.length=n*1)(hb:n*2<=140737488355328):Ans prog 149 [RV.d (.sl n xs)] (.d (.sl n xs)):=(jU6 n xs hl hb).ans
variable{v:Vw}{i m:Nat}
section
attribute [local irreducible] Ans AnsO AnsG AnsN AnsI
def canV(v:Vw)(n:Int)(i:Nat):Bool:=decide (0<=(i:Int)/\(i:Int)<(v.s.ops.length:Int))&&(decide ((opV v i).kind≠3)&&(decide (1<=n)&&zXR v n i))
def zJf(v:Vw)(m i:Nat):List (Int × Int):=((List.range m).filter λn:Nat=>canV v (n:Int) i).map λn:Nat=>((n:Int),(i:Int))
def zJ9(v:Vw)(i m:Nat):List (Int × Int):=((List.range i).flatMap λj=>zJf v 10 j)++zJf v m i
def redL(s:Scr):List (Int × Int):=zJ9 (zQd s) s.ops.length 0
def rds(l:List (Int × Int)):List DV:=l.flatMap λp=>[.int .i64 p.1,.int .i64 p.2]
theorem jGS(l:List (Int × Int)):(rds l).length=l.length*2:=by
 induction l with
 |nil=>rfl
 |cons p l ih=>simp only[rds,wQ2,wQe,wQC,wZr]at ih |-;omega
theorem zGF(v:Vw)(i:Nat):zJ9 v i 10=zJ9 v (i+1) 0:=by
 unfold zJ9;rw[wZ2,List.flatMap_append];simp[zJf]
theorem jUw(h:canV v m i=true):zJf v (m+1) i=zJf v m i++[((m:Int),(i:Int))]:=by
 unfold zJf;rw[wZ2,wYp,wQZ];simp[h]
theorem jGR(h:canV v m i=false):zJf v (m+1) i=zJf v m i:=by
 unfold zJf;rw[wZ2,wYp,wQZ];simp[h]
theorem jGQ(h:canV v m i=true):zJ9 v i (m+1)=zJ9 v i m++[((m:Int),(i:Int))]:=by
 unfold zJ9;rw[jUw h,List.append_assoc]
theorem yQr(h:canV v m i=false):zJ9 v i (m+1)=zJ9 v i m:=by
 unfold zJ9;rw[jGR h]
theorem jXj(v:Vw)(m i:Nat):(zJf v m i).length<=m:=by
 unfold zJf;rw[wQD];exact wQJ (List.length_filter_le _ _) (by simp)
theorem jJT(v:Vw)(i m:Nat):(zJ9 v i m).length<=10*i+m:=by
 induction i generalizing m with
 |zero=>unfold zJ9;simpa using jXj v m 0
 |succ i ih=>
  have:=ih 10;rw[zGF]at this;have h2:zJ9 v (i+1) m=zJ9 v (i+1) 0++zJf v m (i+1):=by unfold zJ9;simp[zJf]
  rw[h2,wQe];have:=jXj v m (i+1);omega
def yQX:Gam:=jZN.add [.p 148 (λ| []=>some (RV.tup [RV.tup [rJ 43,rJ 28]])|[.d (.sl n xs)]=>some (RV.d (dS n xs))|_=>none),
 .p 149 (λv=>some (RV.d (dS (lAt (uj v) 0) (cAt (uj v) 0)))),
 .p 147 (λ| []=>some (RV.tup [RV.tup [rJ 3,rJ 1]])|[.d (.sl n xs)]=>some (RV.d (dS n xs))|_=>none),
 .p 70 (λv=>let c:=zZY (zQd (vm (ul v 0))) (nAt (ul v 1) 0) (nAt (ul v 1) 1).toNat;some (RV.tup [RV.d (dS c.length (ops c)),rJ 0])),
 .p 71 (λv=>let c:=ul v 0;some (RV.agg [dJ (nAt c 0),dJ (nAt c 1),dJ (nAt c 2),dJ (nAt c 3),dJ (nAt c 4),dJ (nAt c 5),dJ (nAt c 6),dS (lAt c 7) (cAt c 7),dS (lAt c 8) (cAt c 8),dS (lAt (uj v) 1) (cAt (uj v) 1)]))]
def aKQ(a b:Int)(c:wc):wc:=Cl.d (aB a)::Cl.d (aB b)::c
theorem jZF(s:Scr)(qn:Nat)(qxs:List DV)(hO:s.ord.length<=1000000000)(hI:s.ims.length<=1000000)(HT:∀m∈s.ims,m.tiny):Ans prog 71 [rA (sD s),rD (dS qn qxs)] (rA [dJ s.bits,dJ s.c.a,dJ s.c.b,dJ s.c.c,dJ s.c.d,dJ s.tw,dJ s.th,dS s.ord.length (is s.ord),dS s.ims.length (ims s.ims),dS qn qxs]):=
 vv yQX (let c:=wT (pJ (aFB (mB (aIJ []))));let a:=oL s;let d:=bY (aB s.bits) (aKQ s.c.a s.c.b (aKD s.c.c s.c.d s.tw s.th (fW 11 (List.length s.ord) (fW 14 a [cD (DV.sl qn qxs)]))));gI (ui (λj=>j<=a) (λi=>pE (aFE (lO 20 a 21 i)) 2 d 4 c (uD 11 (is s.ord) 14 43 28 (ims s.ims))) (λh=>a-h) (λb=>gI (gY (ui (λg=>g<=5) (λf=>pE (aFE (zS 6 14 (aZ b 28+8) (zC 20 a (lO 21 b 29 f)))) 2 d 4 c (aJY 14 (ims s.ims) 11 3 1 (is s.ord))) (λe=>5-e) (λk=>aL)))))) Tryz.func71 (let a:=oL s;let c:=ims s.ims;let f:=is s.ord;let j:=gM (gM (gM (aR jG True)));let k:=fX s.bits s.c.a (xA s.c.b s.c.c s.c.d s.tw (aG (bM s.th) (eS (List.length s.ord)) (eS a) (eS (DV.sl qn qxs))));let p:=iB k j f c;True/\fT (AnsO prog 147 [rD (DV.sl (List.length s.ord) (is s.ord))] 3 1 (List.length s.ord) f) (AnsO prog 148 [rD (DV.sl (List.length s.ims) (ims s.ims))] 43 28 a c) (nB (eS true) (mX a (∃o:Nat,o<=a/\dB (aT (iS a) (dC o))/\p) (∀b:Nat,let r:=eS (aZ b 28+8);bL (b<=a) (aE (dT b a) (True/\True/\True/\gU (b:Int) a/\True/\True/\True/\(∃n:Nat,n<=5/\dB (jK r (fC a) b (dC n))/\iB k j c f)/\(∀d:Nat,let q:=aZ b 28+8+aZ d 4;let e:=q+3;let l:=cAt c e;let m:=lAt c e;bL (d<=5) (fP (eX (d:Int)) (True/\gU (d:Int) 5/\True/\(c[e]?=aDD s e/\True)/\jW (tX 149 m l [] (rD (DV.sl m l))) (gU (d:Int) 5) True (eY (fL (e+1) c) (eS true) (∃h:Nat,bZ h 5 (eW (5-h<5-d) (dB (jK r (fC a) b (bQ d h))) k j (jB c q 3 (DV.sl m l)=c) (eS f)))))) (aE (gX (d:Int) 5) (∃g:Nat,bZ g a (dZ a g b/\dB (aT (iS a) (bQ b g))/\p)))))) (aE (eV b a) (eS (rA (yH s (nZ qn qxs))))))))) λhwf=>by
  delta eS aB aW aE gX aU aG bD nZ jE cP bM nP aR eY dB fC aT fL aZ gU bQ bL dC pM tX fT dT eV mX fX bZ xA dZ gM jG iS nB oL jK fP eW iB jW aIO eX yH aDD jB;simp only[sS];clear hwf;have W:∀j:Nat,j<=1000000->wrap .i64 ((j:Int)+1)=((j+1:Nat):Int):=λj hj=>by rw[wQb _ (by omega)];omega
  have il:=zXl s.ims;refine⟨jU9 _ _ (zQl _) (by omega),jU8 _ _ il (by omega),by unfold maxLen;omega,⟨0,by omega,rfl⟩,λi hi=>⟨λhlt=>⟨by omega,⟨0,by omega,rfl⟩,λk hk=>⟨λhk5=>?_,λhk5=>⟨i+1,by omega,by omega,W i (by omega)⟩⟩⟩,λ_=>trivial⟩⟩;have hi':i<s.ims.length:=by omega
  have hk':k<5:=by omega
  obtain⟨n,xs,e1,e2,e3⟩:=HT _ (List.getElem_mem hi') k hk';have e:(ims s.ims)[i*28+8+k*4+3]?=some (.sl n xs):=by
   rw[show i*28+8+k*4+3=i*28+(8+k*4+3) by omega,jHr hi' _ (by omega)];exact e1
  have l1:lAt (ims s.ims) (i*28+8+k*4+3)=n:=by unfold lAt;rw[e]
  have l2:cAt (ims s.ims) (i*28+8+k*4+3)=xs:=by unfold cAt;rw[e]
  rw[l1,l2];refine⟨by omega,e,jU7 n xs (by omega) (by omega),by omega,by omega,k+1,by omega,by omega,W k (by omega),?_⟩;obtain⟨h,e⟩:=wQE.1 e;rw[<-e,List.set_getElem_self]
def aBS(a:List Oq):List DV:=[DV.sl (List.length a) (ops a)]
theorem jQf(s:Scr)(rule op:Int)(R:RuOk s)(hr:s.run.1=0)(hL:s.ops.length<=100000)(hI:s.ims.length<=1000000)(hc:(decide (0<=op/\op<(s.ops.length:Int))&&(decide ((opV (zQd s) op.toNat).kind≠3)&&(decide (1<=rule)&&zXR (zQd s) rule op.toNat)))=true)(hn:1<=rule/\rule<=9)(hO:s.ord.length<=1000000000)(HT:∀m∈s.ims,m.tiny):Ans prog 26 [rA (sD s),rA [dJ rule,dJ op]] (rT [rA [dJ s.bits,dJ s.c.a,dJ s.c.b,dJ s.c.c,dJ s.c.d,dJ s.tw,dJ s.th,dS s.ord.length (is s.ord),dS s.ims.length (ims s.ims),dS ((zZY (zQd s) rule (op).toNat).length) (ops (zZY (zQd s) rule (op).toNat))],rJ (0)]):=
 vv yQX aL Tryz.func26 (let c:=[aV 0];let d:=gA (yH s (aBS (zZY (zQd s) rule (Int.toNat op)))) c;let b:=zZY (iN s) rule (Int.toNat op);let e:=yH s (aBS b);let a:=aB 0;bI (True/\True/\True/\bH 70 (iZ s) (gB (aAE rule op)) (qY b)/\bW (bK (jN 0 0) (gA (a::a::a::a::a::a::a::DV.sl 0 []::DV.sl 0 []::nZ 0 []) c=d)) (fN 0->bD (iG 71 (iZ s) [rD (DV.sl (List.length b) (ops b))] e) (True/\gA e c=d)))) λhwf=>by
  delta eS aB aV bD gB nZ bK bW bH iG bI aIO aBS dN jN fN cY mO lS qY iN gA yH iZ aAE;simp only[sS];clear hwf;simp only[zQv,zQn];exact⟨zGu s rule op R hr hL hI hc hn,λh=>absurd h (by decide),λ_=>⟨jZF s _ _ hO hI HT,trivial,trivial⟩⟩
def vW(a:Scr)(b c:Nat):Nat:=List.length (zJ9 (zQd a) b c)
def vY(a:Scr)(b c:Nat):List DV:=rds (zJ9 (zQd a) b c)
theorem zGv(s:Scr)(R:RuOk s)(hr:s.run.1=0)(hL:s.ops.length<=100000)(hI:s.ims.length<=1000000):Ans prog 25 [rA (sD s)] (rD (dS ((redL s).length) (rds (redL s)))):=
 vv yQX (let d:=vX s (zQd (aFU s)) [];gY (aQ (fK zP) (pH (ui (λh=>jI h s) (λc=>aCW 3 1010 (iP 5 9005 (vW s c 0) (lO 17 (dG s) 18 c)) (lB 1010 d 9005 88 2 (vY s c 0) [])) (λg=>dG s-g) (λa=>gY (vT (gY (ui (λf=>f<=10) (λb=>aCW 3 1010 (iP 5 9006 (vW s a b) (zC 6 a (zF 17 (dG s) 18 a (lO 22 10 23 b)))) (lB 1010 d 9006 88 2 (vY s a b) [])) (λe=>10-e) (λi=>aL))))))))) Tryz.func25 (let f:=dG s;let g:=yH s (cY s::aKE (iN s));let n:=iS f;let m:=[vX s (iN s) []];True/\True/\aX (iY 67 0 [AV.agg (sY s)] [] (AV.tup (pT 0::kE true)) m) (gC (bO true) (True/\True/\True/\(∃j:Nat,gZ (jI j s) (vV (eS (0:Nat)) (0=vW s j 0) f (dC j)) g [] (vY s j 0))/\(∀a:Nat,let h:=(a:Int);bL (jI a s) (aE (dT a f) (aJC nG/\10<=maxLen/\eC True (∃i:Nat,gZ (i<=10) (cT (vW s a 0=vW s a i/\iS a/\jK n (fC a) 10 (dC i))) g (vY s a 0) (vY s a i)) (∀b:Nat,let k:=vY s a b;let l:=vW s a b;let o:=Bool.and (decide (0<=h/\h<(dG s:Int))) (Bool.and (decide ((oQ (nU s (iN s)) h).kind≠3)) (Bool.and (decide (1<=(b:Int))) (zXR (nU s (iN s)) (b:Int) (Int.toNat h))));let p:=aAE (b:Int) h;bL (b<=10) (aN (dT b 10) (True/\True/\(AnsG prog 69 1 [pT 0,bE (fC b),bE (fC a)] m ⟨bE (DV.bool o),m,false⟩/\eS m)/\dL (o=true) (aR (zZQ 2 16 l 1 k p) (∃e:Nat,bZ e 10 (gZ (10-e<10-b) (cT (l+1=vW s a e/\iS a/\jK n (fC a) 10 (bQ b e))) g (k++p) (vY s a e))))/\aE (o=false) (∃d:Nat,bZ d 10 (gZ (10-d<10-b) (cT (l=vW s a d/\iS a/\jK n (fC a) 10 (bQ b d))) g k (vY s a d))))) (aE (eV b 10) (∃c:Nat,bZ c (dG s) (gZ (mF s c a) (vV (eS (0:Nat)) (l=vW s c 0) f (bQ a c)) g k (vY s c 0))))))) (aE (eV a f) (rD (DV.sl (vW s a 0) (vY s a 0))=rD (DV.sl (List.length (redL s)) (rds (redL s))))))))) λhwf=>by
  delta eS aB aE eC aF aU aG bE aN aX dL gC kE aH bY aR cT fC bQ bL dC dT eV gZ aFA bZ dZ iS dG jI jK mF aIO bO mM cY iV pT iY oQ mO aFP kD nU aCQ vX aJC iN sY zV nG yH aAE vV vW vY aKE;simp only[sS];clear hwf;simp only[zQv,zQn,vwS];obtain⟨f,V⟩:=R.view;have A:=V.all hI (show s.ops.length<=1000000 by omega);have L:=zZb s R hr hL;have W:∀j:Nat,j<=1000000->wrap .i64 ((j:Int)+1)=((j+1:Nat):Int):=λj hj=>by rw[wQb _ (by omega)];omega
  refine⟨L,⟨0,by omega,⟨by simp[zJ9,zJf],rfl⟩,by simp[zJ9,zJf,rds]⟩,λk hk=>⟨λhlt=>⟨zQq,by unfold maxLen;omega,⟨0,by omega,⟨rfl,rfl⟩,rfl⟩,λm hm=>⟨λhm2=>?_,λhm2=>?_⟩⟩,λhge=>?_⟩⟩
  .have AP:=zQx (zQd s) m k A (by omega);have tl:=jJT (zQd s) k m;have rl:=jGS (zJ9 (zQd s) k m);refine⟨AP,λh=>?_,λh=>?_⟩
   .have e:=jGQ (v:=zQd s) (i:=k) (m:=m) h;exact⟨⟨rl,rfl,by unfold maxLen;omega,by omega⟩,m+1,by omega,by omega,⟨by rw[e,wQe];rfl,W _ (by omega)⟩,by rw[e];simp[rds]⟩
   .have e:=yQr (v:=zQd s) (i:=k) (m:=m) h;exact⟨m+1,by omega,by omega,⟨by rw[e],W _ (by omega)⟩,by rw[e]⟩
  .have hm:m=10:=by omega
   subst hm;exact⟨k+1,by omega,by omega,⟨by rw[zGF],W _ (by omega)⟩,by rw[zGF]⟩
  .have hk:k=s.ops.length:=by omega
   subst hk;exact⟨rfl,rfl⟩
end
variable{s:Scr}
theorem yZT{p:Int × Int}(h:p∈redL s):∃n i:Nat,p=((n:Int),(i:Int))/\canV (zQd s) n i=true/\n<10/\i<s.ops.length:=by
 unfold redL zJ9 at h
 rcases List.mem_append.1 h with h|h
 .obtain⟨i,hi,h⟩:=List.mem_flatMap.1 h;unfold zJf at h;obtain⟨n,hn,rfl⟩:=wQw.1 h;obtain⟨h1,h2⟩:=wZT.1 hn;exact⟨n,i,rfl,h2,wQy.1 h1,wQy.1 hi⟩
 .simp[zJf]at h
variable{k:Nat}
theorem jGT{l:List (Int × Int)}(h:k<l.length):(rds l)[k*2]?=some (.int .i64 l[k].1)/\(rds l)[k*2+1]?=some (.int .i64 l[k].2):=by
 induction l generalizing k with
 |nil=>cases h
 |cons p l ih=>
  have e:rds (p::l)=[.int .i64 p.1,.int .i64 p.2]++rds l:=rfl
  cases k with
  |zero=>exact⟨rfl,rfl⟩
  |succ k=>
   have:=ih (k:=k) (by simpa using h);rw[e,show(k+1)*2=k*2+2 by omega,show k*2+2+1=k*2+1+2 by omega];exact this
theorem yZU{l:List (Int × Int)}(h:k<l.length):nAt (rds l) (k*2)=l[k].1/\nAt (rds l) (k*2+1)=l[k].2:=by
 obtain⟨a,b⟩:=jGT h;unfold nAt;rw[a,b];exact⟨rfl,rfl⟩
theorem RuOk.len(h:RuOk s){n:Int}(hi:i<s.ops.length)(hk:(opV (zQd s) i).kind≠3)(h1:1<=n)(h9:n<=9)(hr:zXR (zQd s) n i=true):(zZY (zQd s) n i).length<=s.ops.length:=by
 obtain⟨f,V⟩:=h.view;have I:=V.in_ (i:=i) hi hk;obtain⟨e,_,e2,e3,e4⟩:=I.end_;have e4:e<s.ops.length:=e4;have e0:(zQd s).s.ops=s.ops:=rfl;unfold zZY;split
 .unfold remV;rw[e0,e2,wQe,wQl,wQF];omega
 split
 .rw[e0,wQL];omega
 split
 .rw[e0,wQL];omega
 split
 .rw[e0,wQL];omega
 split
 .rw[e0,wQL];omega
 .rename_i n4 n5 n6 n7 n8;unfold zXR at hr;rw[if_neg (by omega),if_neg (by omega),if_neg (by omega),if_neg (by omega),if_neg n5,if_neg n6,if_neg n7,if_neg n8]at hr;have hh:¬((opV (zQd s) i).kind≠2\/(opV (zQd s) i).iso=false\/kidV (zQd s) i≠1):=λh=>by unfold unwV at hr;rw[if_pos h]at hr;cases hr
  obtain⟨a,b,c⟩:=V.one (i:=i) hi (wYg λe=>hh (.inl e)) (wYg λe=>hh (.inr (.inr e)));rw[e2]at c;unfold unwL;rw[e0,e2,wQe,wQe,wQC,wQl,wQl,wQF,wQF];omega
structure zVg(a:Scr)(p:List Oq)(k:Nat):Prop where
  ok:RuOk (zQ5 a p)
  len:p.length<=a.ops.length
  less:wtL p+k<=wtL a.ops
  val:∀x y,a.c.has x y=true->zX2 (zQA a.bits) a.ims x y p=zX2 (zQA a.bits) a.ims x y a.ops
variable{a:Scr}
theorem zVg.start(h:RuOk a):zVg a a.ops 0:=⟨h,Nat.le_refl _,Nat.le_refl _,λ_ _ _=>rfl⟩
variable{p:List Oq}
theorem zVg.few(h:zVg a p k):k<=5*a.ops.length:=by
 have:=h.less;have:=yZs a.ops;omega
variable{n:Nat}
theorem zVg.next(h:zVg a p k)(hi:i<p.length)(hn:n<10)(hc:canV (zQd (zQ5 a p)) n i=true){x0 y0:Int}(hx0:a.c.has x0 y0=true):
  zVg a (zZY (zQd (zQ5 a p)) n i) (k+1)/\wtL (zZY (zQd (zQ5 a p)) n i)<wtL p:=by
 have hc2:=hc;unfold canV at hc2;simp only[wQd,wQf]at hc2;obtain⟨_,hk,h1,hr⟩:=hc2;have hi':i<(zQ5 a p).ops.length:=hi;obtain⟨s1,s2,s3⟩:=h.ok.step hi' hk h1 (by omega) hr (x0:=x0) (y0:=y0) hx0;have l1:=h.ok.len hi' hk h1 (by omega) hr;have s2:wtL (zZY (zQd (zQ5 a p)) n i)<wtL p:=s2;have l1:(zZY (zQd (zQ5 a p)) n i).length<=p.length:=l1;have:=h.len;have:=h.less;refine⟨⟨s1,by omega,by omega,λx y hx=>?_⟩,s2⟩;exact(s3 x y hx).trans (h.val x y hx)
theorem yQp{b:Scr}(ha:Neat a)(hb:Neat b)(hc:a.c=b.c)(h:∀x y,a.c.has x y=true->ptV a x y=ptV b x y):zJe a=zJe b:=by
 have la:=zVe ha.rend _ (Nat.le_refl _);have lb:=zVe hb.rend _ (Nat.le_refl _);obtain⟨w1,w2⟩:=ha.w;obtain⟨h1,h2⟩:=ha.h;obtain⟨⟨p1,p2⟩,p3,p4⟩:=ha.at_;have m1:(a.c.c-a.c.a)*(a.c.d-a.c.b)<=1000*1000:=wQz (by omega) (by omega) (by omega) (by omega);have m0:0<=(a.c.c-a.c.a)*(a.c.d-a.c.b):=Int.mul_nonneg (by omega) (by omega);have ok:∀l:List Px,l.length=((a.c.c-a.c.a)*(a.c.d-a.c.b)).toNat->ofOk (a.c.c-a.c.a) (a.c.d-a.c.b) l.length=true:=λl hl=>by
  unfold ofOk zZi;rw[hl];simp only[wQd,wQf];refine(by omega)
 rw[<-hc]at lb;have oa:=ok _ la;have ob:=ok _ lb;have px:∀x y,a.c.has x y=true->(zJe a).at_ (x-a.c.a) (y-a.c.b)=(zJe b).at_ (x-a.c.a) (y-a.c.b):=λx y hx=>by
  have e1:=ha.image_px hx;have e2:=hb.image_px (x:=x) (y:=y) (by rw[<-hc];exact hx);rw[<-hc]at e2;rw[e1,e2,h x y hx]
 unfold zJe at px |-;rw[<-hc]at px |-;generalize allP a (zZa a).length=A at *;generalize allP b (zZa b).length=B at *;have e:A=B:=by
  refine wQP (by omega) λi i1 i2=>?_;have hW:0<a.c.c-a.c.a:=by omega
  obtain⟨u1,u2,u3⟩:=jW1 (a:=(i:Int)) (w:=a.c.c-a.c.a) (by omega) hW;have r0:(i:Int)-(i:Int) / (a.c.c-a.c.a)*(a.c.c-a.c.a)>=0:=by omega
  generalize hv:(i:Int) / (a.c.c-a.c.a)=v at *;have vn:v<a.c.d-a.c.b:=by
   rcases wZ5 v (a.c.d-a.c.b) with q|q
   .exact q
   .have:=Int.mul_le_mul_of_nonneg_right q (show 0<=a.c.c-a.c.a by omega);rw[wQB (a.c.d-a.c.b)]at this;omega
  have hx:a.c.has (a.c.a+(i-v*(a.c.c-a.c.a))) (a.c.b+v)=true:=jKq (by omega) (by omega);have e:=px _ _ hx;rw[show a.c.a+(i-v*(a.c.c-a.c.a))-a.c.a=i-v*(a.c.c-a.c.a) by omega,show a.c.b+v-a.c.b=v by omega]at e;rw[jVZ oa (by omega) (by omega),jVZ ob (by omega) (by omega)]at e;rw[show(v*(a.c.c-a.c.a)+(i-v*(a.c.c-a.c.a))).toNat=i by omega]at e;unfold pxN at e;rw[List.getElem?_eq_getElem i1,List.getElem?_eq_getElem i2]at e;exact e
 rw[e]
theorem zVg.same{s:Scn}{l:List Int}(h:zVg (s.bscr l) p k):Neat (zQ5 (s.bscr l) p)/\Neat (s.bscr l)/\zJe (s.bscr l)=zJe (zQ5 (s.bscr l) p):=by
 have lo:=s.ops_len;have lb:(s.bscr l).ops.length=s.ops.length:=zKJ s.scr l;have hl:=h.len;have n1:=s.b_neat h.ok (by omega);have n2:Neat (s.bscr l):=s.b_neat (l:=l) (p:=(s.bscr l).ops) (s.b_ru l) (by omega);exact⟨n1,n2,yQp n2 n1 rfl λx y hx=>(h.val x y hx).symm⟩
section
attribute [local irreducible] Ans AnsO AnsG AnsN AnsI
def yX9:Gam:=yQX.add []
def uH(a:Scr)(b:List Int)(c d:Nat):DV:=aB (nAt (ops (zYV a b c)) d)
def wZ(a:Bool)(b:Option Int)(c d:Int):Prop:=a=decide (modS (Option.getD b (0:Int)) 16=c\/modS (Option.getD b (0:Int)) 16=d)
def aNE(a:Nat)(b:List Int)(c:vz):vz:=mP a (DV.sl (List.length b) (is b)) c
def aND(a:Nat)(b:Scr)(c:vz):vz:=tD a (zJP b) c
def aNF(a:Nat)(b:Scr)(c:vz):vz:=aFE (aND a b c)
def aBQ(a:Nat)(b:List Int)(c:Nat)(d:Scr)(e:vz):vz:=aNE a b (aNF c d e)
def zG(a:List Int)(b:Prop):Prop:=cP (DV.sl (List.length a) (is a)) (eS (0:Nat)) b
def xB(a:Scr)(b:List Int)(c d:Nat):Int:=aY (ops (zYV a b c)) d
def zH(b:List Int)(d:Scr)(e f:Nat)(g h:Bool)(i j k:Prop)(l:List DV)(m:Prop):Prop:=zG b (cT (cP (aF (zJP d)) (iS e) (aG (iS f) (eS (0:Nat)) (bM (modS (cB (is b) f 1) 16)) (jH g h))))/\fX d.bits d.c.a i/\lN (gM (gM (gM (aR j k)))) l (ims (zYj d)) m
def zI(e:Oq)(f:Scr)(g:List Int)(h i:Nat)(j k l m n:Prop)(o:List DV):Prop:=pP (e=zJ6 f g h (aFI f.ops[h]?)) (zG g (cT (jK (eQ (zJP f)) (fC i) h j))) (fX f.bits f.c.a (xA f.c.b f.c.c f.c.d f.tw (aG (bM f.th) k (eS i) l))) (iB (gM (gM (gM (aR m n)))) (o=Oq.cells e) (ims (zYj f)) (ops (zYV f g h)))
theorem jK4(s:Scr)(l:List Int)(hc:(-1000<=s.c.a/\s.c.a<=1000)/\(-1000<=s.c.b/\s.c.b<=1000)/\(-1000<=s.c.c/\s.c.c<=1000) /\ -1000<=s.c.d/\s.c.d<=1000)(hI:s.ims.length<=1000000)(hO:s.ops.length<=1000000):Ans prog 24 [rA (sD s),rD (dS l.length (is l))] (rA [dJ s.bits,dJ s.c.a,dJ s.c.b,dJ s.c.c,dJ s.c.d,dJ s.tw,dJ s.th,dS s.ord.length (is s.ord),dS ((zYj s).length) (ims (zYj s)),dS ((zKK s l).length) (ops (zKK s l))]):=
 vv yX9 (let f:=wT (pJ (aFB (aIJ (mB []))));let c:=oL s+2;let d:=aHF s (fW 56 c (fW 14 (dG s) []));aBR (ug True (pE (aBQ 1 l 5 s []) 2 (aHF s (fW 18 (oL s) (fW 14 (dG s) []))) 4 f (aIM 18 (ims s.ims) 14 (ops s.ops))) (gY (gI (ui (λx=>jI x s) (λk=>pE (aBQ 1 l 5 s (lO 9 c 10 k)) 2 d 4 f (aIN 56 (zYj s) 14 (ops (zYV s l k)))) (λw=>dG s-w) (λa=>let e:=ops (zYV s l a);let m:=aIN 56 (zYj s) 14 e;let b:=aZ a 12;let g:=aIK 4 f 11 (aH (uH s l a b) (uH s l a (cR a 12)) (uH s l a (gN a 12)) (uH s l a (hZ a 12)) (aH (uH s l a (gS a 12)) (uH s l a (pO a 12)) (uH s l a (bT (bU b))) (fG e (jV b)) (aH (uH s l a (eH b)) (uH s l a (iA b)) (DV.bool (bAt e (cG b))) (DV.bool (bAt e (cI b))) []))) m;let h:=modS (cB (is l) a 1) 16;let j:=modS (Option.getD l[a]? (0:Int)) 16;aFF (gY (Ann.cut (Inv.mk Oq (λ(v:Oq)=>v=zJ6 s l a (aFI s.ops[a]?)) (λ(u:Oq)=>jJ (aBQ 1 l 5 s (zF 9 c 10 a (dP 11 11 []))) 2 d (tT 4 (aIJ (mB [])) 11 (yV u []) m)) (λ(D:Oq)=>(0:Nat))) (fK (uh Bool (λt=>wZ t l[a]? 0 1) (λr=>jJ (aBQ 1 l 5 s (zF 9 c 10 a (dP 11 11 (aBJ 86 h 87 r [])))) 2 d g) (λC=>qA (uh Bool (λq=>wZ q l[a]? 3 4) (λp=>jJ (aBQ 1 l 5 s (zF 9 c 10 a (dP 11 11 (aBJ 86 h 120 p [])))) 2 d g) (λB=>fK (uh Bool (λo=>o=decide (j=5\/j=6\/j=7)) (λn=>jJ (aBQ 1 l 5 s (zF 9 c 10 a (dP 11 11 (aBJ 86 h 150 n [])))) 2 d g) (λz=>aL))))))) (λ(y:Oq)=>aL))))))))) Tryz.func24 (let R:=ims (zYj s);let b:=oL s+2;let u:=dG s;let S:=gM (gM (gM (aR jG True)));let h:=eS u;let j:=eS (DV.sl (List.length s.ord) (is s.ord));let v:=s.c.b;let k:=xA v s.c.c s.c.d s.tw (aG (bM s.th) j (eS b) h);let x:=s.c.a;let z0:=fX s.bits x k;let m:=zJP s;let z1:=aF m;let e:=eS (0:Nat);let x4:=(b:Int);let z5:=ops s.ops;let f:=clrI s;let C:=f.p4;let D:=f.p3;let E:=f.p2;let F:=f.p1;let G:=f.p0;let H:=f.c;let g:=covW s;let I:=g.p4;let J:=g.p3;let K:=g.p2;let L:=g.p1;let M:=g.p0;let O:=g.c;let x9:=oM g.w g.h g.so O.a O.b O.c O.al O.f M.w M.h M.s M.n M.xs (dH L.w L.h L.s L.n L.xs K.w K.h K.s K.n K.xs (dH J.w J.h J.s J.n J.xs I.w I.h I.s I.n I.xs (kX f.w f.h f.so (aF H.a::cQ H.b H.c (cQ H.al H.f (dH G.w G.h G.s G.n G.xs F.w F.h F.s F.n F.xs (qJ E.w E.h E.s E.n E.xs (dH D.w D.h D.s D.n D.xs C.w C.h C.s C.n C.xs []))))))));let U:=ims s.ims;let V:=aF m;let w0:=iB (fX s.bits x (xA v s.c.c s.c.d s.tw (aG (bM s.th) j (eS (oL s)) h))) S U z5;True/\True/\bD (zZQ 12 88 0 u [] z5) (True/\True/\True/\zZQ 28 272 0 (oL s) [] U/\True/\True/\True/\cS (s.bits==16) (∃v0:Unit,True/\zG l (iJ (aF 65535=V))/\w0) ((s.bits==16)=false->(∃w9:Unit,True/\zG l (iJ (aF 255=V))/\w0))/\(∀w8:Unit,True->aK (aK (mU (iT (gH 2) (aBT (cL 33 (aU (cN s.c.c x+2)) (aV (oH (cN s.c.d v))::gB (aF (mA (Int.tdiv m 2))::cQ 0 m [V,V])) (imR g)) (jW (cL 33 1 (aV 1::gB (cO 0 0 0 0 m)) (imR f)) (zZQ 28 272 (oL s) 2 U x9) True (nN (b<=maxLen/\True/\True/\(∃Z:Nat,eW (jI Z s) (zG l (jK e z1 b (dC Z))) z0 S (U++x9=R) (z5=ops (zYV s l Z)))/\(∀a:Nat,let d:=ops (zYV s l a);let y4:=cV (aIO s [DV.sl b R,DV.sl (List.length s.ops) d]) (aIO s (DV.sl (List.length (zYj s)) (ims (zYj s))::aBS (zKK s l)));let o:=aZ a 12;let y5:=gU (a:Int) u;let p:=[DV.bool (bAt d (cG o)),DV.bool (bAt d (cI o))];let y:=xB s l a (bT (bU o));let z:=xB s l a (pO a 12);let z2:=xB s l a (gS a 12);let y6:=xB s l a (hZ a 12);let y7:=xB s l a (gN a 12);let y8:=xB s l a (cR a 12);let w:=xB s l a o;let A:=ops (zYV s l a);let n:=xD A a 12 12 w y8 y7 y6 z2 z y p;let y9:=(∃w1:Oq,zI w1 s l a b e j h jG True n);let q:=cB (is l) a 1;let c:=modS q 16;let x0:=c==8;let x1:=gW q 16;let r:=l[a]?;let z3:=modS (Option.getD r (0:Int)) 16;let T:=decide (z3=5\/z3=6\/z3=7);let t:=eS d;let x2:=c==6;let z4:=cB d a 12;let x3:=cN x (pZ q 16 3);let x5:=jD x1 3 3;let x6:=cB d a 12;let x7:=dF a (List.length l) 1 (is l);let x8:=modS q 16;let B:=ops (zYV s l a);aN (jI a s) (u<=maxLen/\True/\True/\aE (dT a u) (fU (dT a (List.length l)) (eY y5 (xC (mZ d a 12) d (aZ a 12) (bS B o) (bS B (cR a 12)) (bS B (gN a 12)) (bS B (gS a 12)) (bS B (pO a 12))) (cS (x6==3) (True/\True/\(∃Q:Nat,bZ Q (dG s) (mF s Q a/\zG l (jK e z1 b (bQ a Q))/\gZ z0 S R d (ops (zYV s l Q))))) ((z4==3)=false->(True/\True/\x7/\uI (is l) a/\eC (lM 27 (aB (nAt (is l) (aZ a 1))) [aV 16] (aV x8)) (gJ (pA q 16->(∃y3:Bool,wZ y3 r 0 1/\zH l s b a (c==0) y3 k jG True n t)) (aE (fS x8) (∃y2:Bool,wZ y2 r 0 1/\zH l s b a (c==1) y2 k jG True n t))) (∀Y:Bool,wZ Y r 0 1->fP (Y=true) (True/\x7/\uI (is l) a/\gH 16/\aR x5 (bW (eS true) (∃w7:Oq,zI w7 s l a b e j h jG True (xD A a 12 12 w (gT b) x3 v z2 z y p))))/\bP (Y=false) (aE (lZ c) (kM (eS true) (∃w6:Oq,zI w6 s l a b e j h jG True (xD A a 12 12 w x4 x v z2 z y p)))) (uC c->gJ (qF c->(∃y1:Bool,wZ y1 r 3 4/\zH l s b a (c==3) y1 k jG True n t)) (aE ((c==3)=false) (∃y0:Bool,wZ y0 r 3 4/\zH l s b a (c==4) y0 k jG True n t))/\(∀X:Bool,wZ X r 3 4->(X=true->cS (x6==1) (True/\True/\True/\True/\aHG a l 1 (eY (gH 16) x5 (aK (mU (aK (∃w5:Oq,zI w5 s l a b e j h jG True (mS z4 (cN x4 2) x3 v 0 0 0 m (aB (xB s l a (pO a 12))::aB 1::p)))))))) ((z4==1)=false->y9))/\(X=false->gJ ((c==5)=true->(∃z9:Bool,z9=T/\zH l s b a (c==5) z9 k jG True n t)) (oK c 5 (x2=true->(∃z8:Bool,z8=T/\zH l s b a (c==6) z8 k jG True n t)) (aE (x2=false) (∃z7:Bool,z7=T/\zH l s b a (c==7) z7 k jG True n t)))/\(∀W:Bool,W=T->qK W (aK (aHG a l 1 (gH 16/\jD x1 2 2/\eC True (bK (pA (gW q 16) 2) (∃w4:Oq,zI w4 s l a b e j h jG True (xD d a 12 12 w 0 0 0 m 4 1 p))) (fS (pZ q 16 2)->(∃w3:Oq,zI w3 s l a b e j h jG True (xD A a 12 12 w 0 0 0 m z y p))))))/\bP (W=false) (aE (x0=true) (∃w2:Oq,zI w2 s l a b e j h jG True (xD A a 12 12 w y8 y7 y6 0 z y p))) (x0=false->y9)))))))/\(∀z6:Oq,iL (z6=zJ6 s l a (aFI s.ops[a]?)) y5 (aR (fL (o+12) d) (∃P:Nat,bZ P (dG s) (mF s P a/\zG l (jK e z1 b (bQ a P))/\gZ z0 S R (sets d o (Oq.cells z6)) (ops (zYV s l P))))))))) (aE (eV a (List.length l)) y4))/\aN (aHC a u true) y4)))))))))))) λhwf=>by
  delta eS aB aV aW aE iE eC aF aU aG cQ fG aK aN bD aX cL cO cN jD gW gB fS mE gH pA nN pZ lZ cP bM nP bP aR bK bW cV cT lN kX mS eY eQ fC aT fL aZ gU bQ cR dC mU oH eU cX fM aY bS dF fU oK cB dT eV mZ iH iQ gZ uC mA qF bT bU jH jV fX bZ xA dZ yP iJ gJ gN gS gM hZ iT jG kM iS gT lM pP pO aHC dG cI cG oL jI aFI wZ qJ cS cE dH jK fP iL eW aGO iB jW xC mF oM zG aIO qK xB zH zI xD aBT aBS uI aHG;simp only[sS];clear hwf;have ol:=zQc s.ops;have il:=zXl s.ims;have W:∀j:Nat,j<=1000000->wrap .i64 ((j:Int)+1)=((j+1:Nat):Int):=λj hj=>by rw[wQb _ (by omega)];omega
  have hM:∀j:Nat,j<=1000002->j<=maxLen:=λj hj=>by unfold maxLen;omega
  have cw:=yXr hc;have lI:(zYj s).length=s.ims.length+2:=by simp[zYj]
  have lL:=zKJ s l;refine⟨⟨rfl,ol,hM _ (by omega),by omega⟩,⟨rfl,il,hM _ (by omega),by omega⟩,⟨λh=>⟨(),?_⟩,λh=>⟨(),?_⟩⟩,by decide,zJl _ _ ⟨_,_,_,_,_⟩,zJl _ _ ⟨_,_,_,_,_⟩,⟨il,rfl,hM _ (by omega),by omega⟩,hM _ (by omega),⟨0,wQj _,rfl,?_,by rw[jU0]⟩,λk hk=>⟨hM _ (by omega),λhlt=>⟨λhll=>?_,λhge=>?_⟩,λhge=>?_⟩⟩
  .unfold zJP;rw[if_pos (by simpa using h)]
  .unfold zJP;rw[if_neg (by simpa using h)]
  .show ims s.ims++((covW s).ds++(clrI s).ds)=_
   rw[cw];unfold zYj;rw[jXt,jWS,jHq]
  .have hk1:k<s.ops.length:=by omega
   have hl1:k<l.length:=by omega
   have hk2:k<(zYV s l k).length:=by rw[zJk];exact hk1
   have q1:=zXF hk2;have q2:=zXG hk2;rw[jH3 hk1]at q1 q2;simp only[Nat.add_assoc,Nat.reduceAdd]at q1 q2;have hv:l[k]?=some l[k]:=List.getElem?_eq_getElem hl1;have v1:=zXI hv;have v2:=zXH hv;have o1:(s.ops[k]?).getD popO=s.ops[k]:=by rw[List.getElem?_eq_getElem hk1];rfl
   have l1:(l[k]?).getD 0=l[k]:=by rw[hv];rfl
   have e3:zJ6 s l k s.ops[k]=jWc (zJP s) s.c ((s.ims.length+2:Nat):Int) l[k] s.ops[k]:=by unfold zJ6;rw[hv]
   have st:=jH2 hk1 hv;have sk:=jU1 (l:=l) hk1;have lK:(ops (zYV s l k)).length=s.ops.length*12:=by rw[zQc,zJk]
   have ls:=zQl l;simp only[wQg,Nat.add_assoc,Nat.reduceAdd,q1,q2,v1,v2,o1,l1,e3,true_and,and_true];clear q1 q2 v1 v2 o1 l1 e3 hv;generalize s.ops[k]=q at *;generalize l[k]=v at *;have b3:=@zZF (wrap .i64 (Int.tdiv v 16)) 3 (by omega) (by omega);have w1:wrap .i64 (((s.ims.length+2:Nat):Int)-1)=((s.ims.length+2:Nat):Int)-1:=wQb _ (by omega);have w2:wrap .i64 (((s.ims.length+2:Nat):Int)-2)=((s.ims.length+2:Nat):Int)-2:=wQb _ (by omega);have w3:wrap .i64 (s.c.a-modS (wrap .i64 (Int.tdiv v 16)) 3)=s.c.a-modS (wrap .i64 (Int.tdiv v 16)) 3:=wQb _ (by omega);have m1:=zQj v 16;have m2:=zQj (wrap .i64 (Int.tdiv v 16)) 3;have m3:=zQj (wrap .i64 (Int.tdiv v 16)) 2;simp only[w1,w2,w3];refine⟨by omega,λh3=>⟨k+1,by omega,by omega,W k (by omega),by rw[<-sk (by simpa using h3)]⟩,λh3=>⟨?_,λo ho=>⟨by omega,by omega,k+1,by omega,by omega,W k (by omega),by rw[ho,yQD hk2,st]⟩⟩⟩;have h3:q.kind≠3:=by simpa using h3
   clear sk st w1 w2 w3 b3;unfold jWc;rw[if_neg h3];generalize modS (wrap .i64 (Int.tdiv v 16)) 3=z3 at *;generalize modS (wrap .i64 (Int.tdiv v 16)) 2=z2 at *;generalize modS v 16=x at *;clear hk2 lK il ol cw lI lL W hM hc
   (repeat' (first|apply And.intro|intro _))<;>first
    |omega
    |assumption
    |(refine⟨_,rfl,?_⟩;subst_vars;simp only[wZt,wZO,ne_eq,wQf,wQX]at *;first|(rw[wQ4];simp only[wZt,wQf];omega)|((repeat' split)<;>first|rfl|(exfalso;omega)))
  .exact⟨lI.symm,lL.symm,by rw[jKX (.inr (by omega))]⟩
  .exact⟨lI.symm,lL.symm,by rw[jKX (.inl (by omega))]⟩
def yX2:Gam:=yX9.add [.p 34 (λv=>let c:=zKF (vm (ul v 0));some (RV.tup [rJ c.1,rJ c.2])),
 .p 38 (λ| [.d (.int _ w),.d (.int _ h),.d (.sl n xs)]=>let a:=(imOf w h (zQo xs));some (RV.tup [RV.agg (iD a),RV.d (dQ (ofOk w h n))])|_=>none),
 .p 8 (λv=>some (RV.tup [RV.agg (iD (zJe (vm (ul v 0)))),rJ 0,rJ 0]))]
def aHW(a:Scr):Nat:=List.length (zZa a)
def yN(a:Scr)(b:Nat):DV:=aB (nAt (rcs (zZa a)) b)
theorem zYK(s:Scr)(hu:∀m∈s.ims,m.isU)(hI:s.ims.length<=1000000)(hR:jK2 s):Ans prog 8 [rA (sD s)] (rT [rA (iD (zJe s)),rJ (0),rJ (0)]):=
  vv yX2 (let b:=aFU s;let c:=rcs (zZa b);let h:=(zZj s.ops).fst;let i:=ints (is h);let d:=zQA s.bits;let n:=wM s.c.a s.c.b s.c.c s.c.d [];let o:=aU (cN s.c.c s.c.a*cN s.c.d s.c.b);let p:=aB (aU (s.c.d-s.c.b));let q:=aB (aU (s.c.c-s.c.a));aBR (gI (ui (λv=>v<=aHW s) (λf=>aJV (aCK 7 7 (iF 8 q 9 p (wN 10 45 o (dP 11 1047 (aGH 49 (aHW b) c 50 51 f))))) 2 (lB 7 n 45 37 5 (pxs (allP s f)) (lB 1047 (aAO s d h (fW 2047 (List.length (zUw s f)) [])) 2047 249 14 (frs (zUw s f)) []))) (λu=>aHW s-u) (λa=>let k:=iQ c a 4;let l:=cB c a 4;let e:=(⟨l,iH c a 4,k,iR c a 4⟩:Rc);let g:=zQ2 e;let m:=zHq (frs (zUw s a));gY (vT (aBR (ui (λt=>t<=zQ2 (zXo s a)) (λj=>pE (aCK 7 7 (iF 8 q 9 p (wN 10 45 o (kU 11 1047 13 13 (iF 14 (fH (zXE b d i e g)) 15 (aB (aU (k-l))) (aIW 16 ((zXo s a).b+(j:Int)) 49 (aHW b) c 50 51 a)))))) 2 (wT (cD (aB 0)::cD kG::cD (aF 0)::aBW nO 0 (pJ (xK (zN (xK (mB []))))))) 7 n (vL 45 (bR 37 5 (pxs (zHB s (zXo s a) (allP s a) j))) 1047 (aAO s d h (fW 1057 (List.length (zKV b d i e m g)) [])) (tZ 13 (aH (yN b (aZ a 4)) (yN b (cR a 4)) (yN b (gN a 4)) (yN b (hZ a 4)) []) 1057 249 14 (frs (zKV b d i e m g)) []))) (λr=>zQ2 (zXo s a)-r) (λw=>aL)))))))) Tryz.func8 (let P:=rT (imR (zJe s)::lE 0 0);let j:=cN s.c.d s.c.b;let f:=cN s.c.c s.c.a;let k:=aEV (f*j);let b:=mO s;let e:=aHW b;let c:=rcs (zZa b);let n:=(zZj s.ops).fst;let w:=ints (is n);let d:=zQA s.bits;let y:=gM (cP kG (eQ 0) (sF jG (jO (jO (jO (jO (bM 0/\aT jG True)))))));let g:=eS (0:Nat);let z:=eS k;let A:=eS (aB (aU (s.c.d-s.c.b)));let J:=aB (aU (s.c.c-s.c.a));let S:=eS J;let M:=zKF b;let O:=M.fst;True/\True/\eZ (bH 34 (iZ s) [] (aCX M)) (aP (jN O 0) (True/\True/\True/\True/\gA (oM 0 0 false 0 0 0 0 0 0 0 0 0 [] (dH 0 0 0 0 [] 0 0 0 0 [] (dH 0 0 0 0 [] 0 0 0 0 [] []))) (lE O M.snd)=P) (fP (fN O) (aK (wJ (bD (oG (aU (f*j)) 10) (aX (iY 35 0 [AV.agg (sY s)] [] (pT 0) (aAO s d (zZj (zQi (ops s.ops))).fst (fW 1 0 [])::lW [])) (bH 36 (iZ s) [] (rD (aFV (zZa b)))/\True/\True/\(∃r:Nat,bZ r (aHW s) (eW (cT (g/\S/\eC A z (kQ g e c (dC r)))) y (eS (aAC s)) (repl k mV=pxs (allP s r)) (aHX s (aG (eS (cY s)) (eQ d) (yC (zQi (ops s.ops))=yC s.ops) (0=List.length (zUw s r)))) (frs []=frs (zUw s r))))/\(∀a:Nat,let F:=pxs (allP s a);let Q:=imR (imOf f j (zQo F));let t:=iR c a 4;let u:=iQ c a 4;let G:=iH c a 4;let l:=cB c a 4;let m:=(⟨l,G,u,t⟩:Rc);let v:=zQ2 m;let R:=zHq (frs (zUw s a));let H:=frs (zKV b d w m R v);let x:=zKV b d w m R v;let K:=(zXo s a).b;let T:=eO l G u t;let U:=aAP s d n (eS (List.length x));let B:=zXE b d w m v;let V:=cN u l;let W:=aGJ B;let z1:=eS (aB (aU (u-l)));let z2:=fH B;let D:=zQ2 (zXo s a);let z5:=yN b (cR a 4);bL (a<=aHW s) (dT a e->dF a e 4 c/\kH (aFX c a 4) (True/\True/\True/\iY 37 1 (aGI (aH (yN b (aZ a 4)) z5 (yN b (gN a 4)) (yN b (hZ a 4)) [])) (lX s d n (zUw s a)::lW (zUw s a)) (bE (fH B)) (lX s d n x::lW x)/\bI (bW (∃E:Nat,uF (E<=D) (dB (qV J A z g (cT (cP z2 z1 (kQ (z5=aB (K+(E:Int))) e c (iS a)))))) y (aAC s) (iB (F=pxs (zHB s (zXo s a) (allP s a) E)) U T H)) (∀q:Nat,let I:=pxs (zHB s (zXo s a) (allP s a) q);let o:=K+(q:Int);let L:=aU (cN o G*V);let X:=W-L;let Y:=wQ (aW X 5) (aW L 5) (pxs B);let h:=cN (pS (cN o s.c.b) f l) s.c.a;let C:=aU (h+V);let Z:=C-h;let z0:=aW h 5;let z3:=aW Z 5;let z4:=wO C h;iL (q<=D) (jE o t->aK (aK (iT (0<=h/\h<=C/\C<=(k:Int)) (True/\True/\aGW L (List.length (zXE b d w m v)) (W<=W)/\pP (kY z4 X) (z4<=maxLen) (fL (z0+z3) I) (fL z3 Y)/\mU (∃p:Nat,bZ p D (uF (dZ D p q) (dB (qV J A z g (cT (cP z2 z1 (kQ (lY o (K+(p:Int))) e c (iS a)))))) y (aAC s) (iB (sets I z0 (List.take (aW Z 5) Y)=pxs (zHB s (zXo s a) (allP s a) p)) U T H))))))) (aE (gX o t) (∃i:Nat,oJ (i<=aHW s) (dZ (aHW s) i a) (cT (g/\S/\eC A z (kQ g e c (bQ a i)))) y (eS (aAC s)) (I=pxs (allP s i)) (tH s d n x (zUw s i)) (H=frs (zUw s i)))))))) (aE (eV a e) (aX (cL 38 f (aV j::pM k F []) (rT [Q,aM (ofOk f j k)])) (aK (rT (Q::lE 0 0)=P))))))))))))) λhwf=>by
    delta eS aB aV aW aE iE aP gX eC aF aU aG bE cQ aK bD aX cL cO cN aEV wJ jE aH wM kG cP bM nP aR eO bW cT kX dB eQ fC kY aT fL aZ bQ bL cR dC pM wQ wO oG mU aGW kH cX fM bH aY dF cB eZ dT eV mZ iH iQ iR mV fW aFA aM bT qG bI bZ xA dZ gN gM hZ iT jG iS lE pP oJ uF aHF qJ dH jK fP iL eW iB oM aIO dN lY oN jN qR jO sF qV pS fN cY pT iY mO sY zX gA aFV yC yH iZ aFX aAX aCX aAC kQ fH aJB aAO aHW yN aHX aAP lW aGJ lX tH aGI;simp only[sS];clear hwf;simp only[zQn];have V:=zUk s hu;have chk:=hR.chk;rw[chk]at V |-;obtain⟨w1,w2⟩:=hR.w;obtain⟨h1,h2⟩:=hR.h;obtain⟨⟨c1,c2⟩,c3,c4⟩:=hR.at_;have wW:wrap .i64 (s.c.c-s.c.a)=s.c.c-s.c.a:=wQb _ (by omega);have wH:wrap .i64 (s.c.d-s.c.b)=s.c.d-s.c.b:=wQb _ (by omega)
    obtain⟨PP,eP,P1,P2⟩:∃PP:Int,(s.c.c-s.c.a)*(s.c.d-s.c.b)=PP/\0<=PP/\PP<=1000000:=⟨_,rfl,Int.mul_nonneg (by omega) (by omega),by
      calc (s.c.c-s.c.a)*(s.c.d-s.c.b)<=1000*(s.c.d-s.c.b):=Int.mul_le_mul_of_nonneg_right w2 (by omega)
        _<=1000*1000:=Int.mul_le_mul_of_nonneg_left h2 (by decide)⟩
    have wP:wrap .i64 PP=PP:=wQb _ (by omega);simp only[wW,wH,eP,wP,zQC,zZI,zZv,jJu];have hmx:maxLen=9223372036854775807:=rfl;have ll:(zZa s).length<=1000000:=by unfold zZa;rw[wQD];exact hR.few
    have z:repl PP.toNat [DV.int .u16 0,DV.int .u16 0,DV.int .u16 0,DV.int .u16 0,DV.int .u16 0]=pxs (allP s 0):=by
      unfold allP repl pxs;rw[eP,wXr,wXs];rfl
    refine⟨V,λh=>absurd h (by decide),λ_=>⟨⟨P1,Int.le_refl _,by omega,by omega⟩,zHz s hR.ops,zHy s hR.hz hR.few,⟨0,wQj _,rfl,z,⟨⟨trivial,trivial⟩,rfl⟩,rfl⟩,λk hk=>⟨λhlt=>?_,λhge=>?_⟩⟩⟩
    . have k1:k<(zZa s).length:=by omega
      have rd:=zWK _ k k1;have ra:=zW3 k1;have eK:(zZa s)[k]=zXo s k:=by unfold zXo;rw[List.getElem?_eq_getElem k1];rfl
      rw[eK]at rd ra;obtain⟨a0,a1,a2,a3⟩:=ra;rw[a0,a1,a2,a3];have tk:=hR.tile k k1;have pk:=hR.part k k1;have lk:=zVe hR k (by omega);have e1:allP s (k+1)=zHB s (zXo s k) (allP s k) (zQ2 (zXo s k)):=rfl;have e2:zUw s (k+1)=zKV s (zQA s.bits) (zZj s.ops).1 (zXo s k) (zUw s k) (zQ2 (zXo s k)):=rfl;have bnd:=λj hj=>jZk hR tk (j:=j) hj;have lJ:=λj hj=>jX5 pk (j:=j) hj;have lT:=zUB hR tk pk lk;have lP:=zKy pk (zQ2 (zXo s k)) (Nat.le_refl _);generalize hr:zXo s k=r at *;obtain⟨⟨x1,x2,x3⟩,y1,y2,y3⟩:=tk;have eta:(⟨r.a,r.b,r.c,r.d⟩:Rc)=r:=rfl;simp only[eta];have wn:wrap .i64 (r.c-r.a)=r.c-r.a:=wQb _ (by omega);have en:(((r.c-r.a).toNat:Nat):Int)=r.c-r.a:=by omega
      refine⟨⟨by omega,by omega,by rw[zXT];omega⟩,rd,zKS s (zQA s.bits) (zZj s.ops).1 (zUw s k) r hu hI pk (by have:=hR.ops;omega),⟨0,wQj _,by omega,rfl⟩,λj hj=>⟨λhlt2=>?_,λhge2=>⟨k+1,by omega,by omega,?_,?_,by rw[e2],by rw[e2]⟩⟩⟩
      . have hj2:j<zQ2 r:=by unfold zQ2;omega
        have hN:zQ2 r<=1000:=by unfold zQ2;omega
        obtain⟨A,eA,A1,A2,A3,A4,A5⟩:=bnd j hj2;rw[eP]at A2 A3;have wy:wrap .i64 (r.b+(j:Int)-s.c.b)=r.b+j-s.c.b:=wQb _ (by omega);have wA:wrap .i64 A=A:=wQb _ (by omega);have wA2:wrap .i64 (A+r.a)=A+r.a:=wQb _ (by omega);have wA3:wrap .i64 (A+r.a-s.c.a)=A+r.a-s.c.a:=wQb _ (by omega);have wj:wrap .i64 (r.b+(j:Int)-r.b)=(j:Int):=by rw[wQb _ (by omega)];omega
        have wj1:wrap .i64 (r.b+(j:Int)+1)=r.b+((j+1:Nat):Int):=by rw[wQb _ (by omega)];omega
        have wE:wrap .i64 (A+r.a-s.c.a+(r.c-r.a))=A+r.a-s.c.a+(r.c-r.a):=wQb _ (by omega);have el:(A+r.a-s.c.a+(r.c-r.a)-(A+r.a-s.c.a)).toNat=(r.c-r.a).toNat:=by omega
        obtain⟨B,eB,B1,B2⟩:∃B:Nat,j*(r.c-r.a).toNat=B/\B+(r.c-r.a).toNat<=zQ2 r*(r.c-r.a).toNat/\zQ2 r*(r.c-r.a).toNat<=1000000:=⟨_,rfl,by
          have:=wQ1 (r.c-r.a).toNat (show j+1<=zQ2 r by omega)
          rwa [wQu,wXI]at this,Nat.mul_le_mul hN (show(r.c-r.a).toNat<=1000 by omega)⟩
        have eB2:(j:Int)*(r.c-r.a)=(B:Int):=by rw[<-eB,wXZ,en]
        have wB:wrap .i64 (B:Int)=(B:Int):=wQb _ (by omega);have eI:(A+r.a-s.c.a).toNat=atI s r j:=by unfold atI;rw[eA]
        have hT:=lT j hj;have hJ:=lJ j hj2;have i1:atI s r j+(r.c-r.a).toNat<=PP.toNat:=by rw[<-eI];omega
        rw[lk,eP]at hT;rw[wy,eA,wA,wA2,wA3,wn,wj,eB2,wB,wE,el,wj1,eI];have hJ2:List.take ((r.c-r.a).toNat*5) (List.take ((((zXE s (zQA s.bits) (zZj s.ops).1 r (zQ2 r)).length:Int)-(B:Int)).toNat*5) (List.drop ((B:Int).toNat*5) (pxs (zXE s (zQA s.bits) (zZj s.ops).1 r (zQ2 r)))))=pxs (rowJ s r j):=by
          rw[wQp,jJV,zHK,zHK];unfold rowJ jGk;rw[eB,wQR (l:=List.drop B _) (by rw[wQF];omega)]
        have hl5:(r.c-r.a).toNat*5<=(List.take ((((zXE s (zQA s.bits) (zZj s.ops).1 r (zQ2 r)).length:Int)-(B:Int)).toNat*5) (List.drop ((B:Int).toNat*5) (pxs (zXE s (zQA s.bits) (zZj s.ops).1 r (zQ2 r))))).length:=by
          have:=congrArg List.length hJ2;rw[wQl,zQE,hJ]at this;omega
        refine⟨by omega,⟨by omega,by omega,Int.le_refl _⟩,⟨by omega,by omega,by rw[zQE,hT];omega,hl5⟩,j+1,by omega,by omega,rfl,?_⟩;rw[hJ2,jGv (by rw[hJ,hT];exact i1)];rfl
      . rw[wQb _ (by omega)];omega
      . have:j=zQ2 r:=by unfold zQ2 at hj |-;omega
        rw[e1,this]
    . have:k=(zZa s).length:=by omega
      subst this;rw[zZN];have l:=zVe hR _ (Nat.le_refl _);rw[eP]at l;rw[<-l];exact⟨jKk _ _ _,rfl⟩
def awT:Scr:=⟨8,⟨0,0,3,2⟩,2,1,[],[zQW 1 1 ⟨200,0,0,255,255⟩],[⟨1,0,2,1,0,0,0,255,4,1,false,false⟩]⟩
theorem jY2:Neat awT where
  chk:=by decide +kernel
  ims:=⟨by decide,λi hi x y=>by
    have hi:i=zQW 1 1 ⟨200,0,0,255,255⟩:=wQr.1 hi;subst hi;unfold Im.at_;have e:(zQW 1 1 ⟨200,0,0,255,255⟩).px x y=⟨200,0,0,255,255⟩:=rfl;rw[e];split
    . exact⟨by decide,by unfold Px.nn;decide⟩
    . exact⟨by decide,by unfold Px.nn;decide⟩⟩
  dim:=λi hi=>by
    have hi:i=zQW 1 1 ⟨200,0,0,255,255⟩:=wQr.1 hi;subst hi;decide
  opac:=λo ho=>by
    have ho:o=⟨1,0,2,1,0,0,0,255,4,1,false,false⟩:=wQr.1 ho;subst ho;decide
  w:=by decide
  h:=by decide
  at_:=by decide
theorem yXz:ptV awT 2 1=⟨200,0,0,255,255⟩:=by decide +kernel
theorem yZh:ptV awT 1 1=.zero:=by decide +kernel
def yXb:Gam:=yX2.add [.p 10 (λv=>some (RV.d (dQ true)))]
def aKP(a b c e f g:Int)(h:wc):wc:=Cl.d (aB a)::Cl.d (aB b)::aH (aB c) (aB e) (aB f) (aB g) h
def zYB:Ann:=gY (Ann.cut (Inv.mk Unit (λ(d:Unit)=>True) (λ(c:Unit)=>aAB (kU 1 1 2 2 []) 1 (aAG 200 0 (aAG 0 255 [Cl.d (aF 255)])) (lB 2 (bY (aB awT.bits) (aKP awT.c.a awT.c.b awT.c.c awT.c.d awT.tw awT.th (fW 7000 (List.length awT.ord) (fW 7001 (oL awT) (fW 7002 (dG awT) []))))) 7000 3 1 (is awT.ord) (aIM 7001 (ims awT.ims) 7002 (ops awT.ops)))) (λ(b:Unit)=>(0:Nat))) Ann.leaf (λ(a:Unit)=>Ann.leaf))
theorem zVv:vcg prog yXb 35 (zKI Tryz.f10) (zYB ) kn0 (start []) (post prog Tryz.f10.results.toList (·=RV.d (DV.bool true))) =
 (let a:=zJe ⟨awT.bits,awT.c,awT.tw,awT.th,ints (is awT.ord),zQr (ims awT.ims),zQi (ops awT.ops)⟩;let b:=Im.at_ a 2 1;let f:=uL (uO (b.a==200) b.b b.c) (b.al==255) (b.f==255);let c:=Im.at_ a 1 1;let e:=imR a;let d:=awT.c;qB (True/\aK (∃h:Unit,True/\eW (dB True) (eS (cO 200 0 0 255 255)) (bX 8 awT.bits/\dM d.a/\oJ (dM d.b) (bX 3 d.c) (bX 2 d.d) (bX 2 awT.tw) (bX 1 awT.th) (nS 0 awT.ord) (1=oL awT) (1=dG awT)) (([]:List DV)=is awT.ord) (oM 1 1 true 200 0 0 255 255 0 0 0 0 [] (dH 0 0 0 0 [] 0 0 0 0 [] (dH 0 0 0 0 [] 0 0 0 0 [] []))=ims awT.ims) (mS 1 0 2 1 0 0 0 255 (kX 4 1 false (rR false))=ops awT.ops))) (∀g:Unit,bL True (bH 8 [aB awT.bits,aB d.a,aB d.b,aB d.c,aB d.d,aB awT.tw,aB awT.th,DV.sl (List.length awT.ord) (is awT.ord),DV.sl (List.length awT.ims) (ims awT.ims),cY awT] [] (RV.tup (e::lE 0 0))) (aK (qL 0 (kH (sX 13 (e::lE 2 1) (eG (Im.at_ a 2 1))) (cS f (kH (sX 13 (e::lE 1 1) (eG (Im.at_ a 1 1))) (kV (cZ (uO (uO (c.a==0) c.b c.c) c.al c.f) true))) (bP (bG f) (eS true) (gO true)))) (iL (wY 0) (eS true) (gO true)))))):=by kernel_rfl
theorem zVa:Ans prog 10 [] (rD (dQ true)):=
 zQa (Γ:=yXb) (zYB ) zQb Tryz.func10 rfl (nL rfl) λhwf=>by
  refine Eq.mpr (zVv ) ?_;delta eS aB aV aF aG cQ aK cO bG bP kX mS dB rR kV bL nS qB eG kH bH aM bX lE oJ wY dG oL qJ cS dH iL eW oM qL cZ gO dM uL uO cY sX;simp only[sS];have eS:(⟨awT.bits,awT.c,awT.tw,awT.th,ints (is awT.ord),zQr (ims awT.ims),zQi (ops awT.ops)⟩:Scr)=awT:=zQv awT;have hu:∀m∈awT.ims,m.isU:=λi hi=>by
   have hi:i=zQW 1 1 ⟨200,0,0,255,255⟩:=wQr.1 hi;subst hi;exact zKN _ _ _
  have a:=zYK awT hu (by decide) jY2.rend;have p1:=jY2.image_px (x:=2) (y:=1) (by decide);have p2:=jY2.image_px (x:=1) (y:=1) (by decide);rw[yXz]at p1;rw[yZh]at p2;have p1:(zJe awT).at_ 2 1=⟨200,0,0,255,255⟩:=p1;have p2:(zJe awT).at_ 1 1=.zero:=p2;have ri:(zJe awT).isU:=zHS _ _ _;have i1:=zWV (zJe awT) 2 1 ri;have i2:=zWV (zJe awT) 1 1 ri;simp only[eS,p1,p2]at a i1 i2 |-;exact⟨⟨(),⟨rfl,rfl,rfl,rfl,rfl,rfl,rfl,rfl,rfl,rfl⟩,rfl,rfl,rfl⟩,a,λ_=>⟨i1,λ_=>⟨i2,by decide⟩,λh=>absurd h (by decide)⟩,λh=>absurd h (by decide)⟩
end
def zXQ(P:Program)(ls:List TypeId)(n:Nat)(xs:List DV):Prop:=
 xs.length=n*ls.length/\∀(j:Nat) d,xs[j]?=some d->∃t',ls[j%ls.length]?=some t'/\∃q,zYk P q t' d
variable{xs:List DV}{t:TypeId}
theorem zXQ.at_{ls:List TypeId}(h:zXQ P ls n xs){r:Nat}(hk:k<n)(hr:ls[r]?=some t):∃d q,xs[k*ls.length+r]?=some d/\zYk P q t d:=by
 obtain⟨hn,hx⟩:=h;have hr':r<ls.length:=(wQE.1 hr).1;have hle:(k+1)*ls.length<=n*ls.length:=wQ1 _ (by omega);rw[wQu]at hle;have hj:k*ls.length+r<xs.length:=by omega
 obtain⟨t',a,q,b⟩:=hx _ _ (List.getElem?_eq_getElem hj);rw[wQS k,Nat.mul_add_mod,wZj hr',hr]at a;injection a with a
 subst a;exact⟨_,q,List.getElem?_eq_getElem hj,b⟩
theorem zXQ.int{P:Program}{ls:List TypeId}{n:Nat}{xs:List DV}(h:zXQ P ls n xs){k r:Nat}{t:TypeId}{kk:IntKind}(hk:k<n)(hr:ls[r]?=some t)(hu:P.underlying t=some (.int kk)):xs[k*ls.length+r]?=some (.int kk (nAt xs (k*ls.length+r))):=by
 obtain⟨d,q,e,b⟩:=h.at_ hk hr;obtain⟨v,rfl⟩:=b.int hu;simp only[nAt,e]
theorem zXQ.bool{P:Program}{ls:List TypeId}{n:Nat}{xs:List DV}(h:zXQ P ls n xs){k r:Nat}{t:TypeId}(hk:k<n)(hr:ls[r]?=some t)(hu:P.underlying t=some .bool):xs[k*ls.length+r]?=some (.bool (bAt xs (k*ls.length+r))):=by
 obtain⟨d,q,e,b⟩:=h.at_ hk hr;obtain⟨v,rfl⟩:=b.bool hu;simp only[bAt,e]
theorem zXQ.sl{P:Program}{ls:List TypeId}{n:Nat}{xs:List DV}(h:zXQ P ls n xs){k r:Nat}{t e:TypeId}{ms:List TypeId}(hk:k<n)(hr:ls[r]?=some t)(hu:P.underlying t=some (.slice e))(hl:lv P e=some ms) :
  xs[k*ls.length+r]?=some (.sl (lAt xs (k*ls.length+r)) (cAt xs (k*ls.length+r)))/\zXQ P ms (lAt xs (k*ls.length+r)) (cAt xs (k*ls.length+r)):=by
 obtain⟨d,q,e1,b⟩:=h.at_ hk hr;obtain⟨m,ys,rfl,_,h1,h2⟩:=b.slice hu hl;simp only[lAt,cAt,e1];exact⟨trivial,h1,h2⟩
theorem zXQ.ints{P:Program}{t:TypeId}{n:Nat}{xs:List DV}(h:zXQ P [t] n xs)(hu:P.underlying t=some (.int .i64)):xs=is (ints xs)/\n=xs.length:=
 jWR (by have:=h.1;simpa using this) λj d hj=>by obtain⟨t',a,q,b⟩:=h.2 j d hj;exact zHR hu a b
theorem zXQ.five(h:zXQ P [t,t,t,t,t] n xs)(hu:P.underlying t=some (.int .i64)):Is5 n xs:=
 yX0 h.1 λj d hj=>by obtain⟨t',a,q,b⟩:=h.2 j d hj;exact yQP hu a b
theorem zXQ.pics{ts e:TypeId}(h:zXQ P [t,t,t,t,ts] n xs)(hu:P.underlying t=some (.int .i64))(hs:P.underlying ts=some (.slice e))(hl:lv P e=some [t,t,t,t,t]):yZE n xs:=
 ⟨h.1,λk hk=>⟨h.int (r:=0) hk rfl hu,h.int (r:=1) hk rfl hu,h.int (r:=2) hk rfl hu,h.int (r:=3) hk rfl hu,(h.sl (r:=4) hk rfl hs hl).1,(h.sl (r:=4) hk rfl hs hl).2.five hu⟩⟩
theorem zXQ.raws(h:zXQ P [t,t,t,t,t,t,t,t,t,t,t] n xs)(hu:P.underlying t=some (.int .i64)):yYm n xs:=by
 refine⟨h.1,λi hi=>?_⟩;have hr:[t,t,t,t,t,t,t,t,t,t,t][i%11]?=some t:=by
  have h2:i%11<11:=wZz _ (by omega);generalize i%11=r at *
  match r,h2 with
  |0,_|1,_|2,_|3,_|4,_|5,_|6,_|7,_|8,_|9,_|10,_=>rfl
 have:=h.int (k:=i / 11) (r:=i%11) (by omega) hr hu;have e:i / 11*[t,t,t,t,t,t,t,t,t,t,t].length+i%11=i:=by show i / 11*11+i%11=i;omega
 rw[e]at this;exact this
theorem jHZ(hx:xs.length=n*m)(hy:ys.length=n*m)(h:∀k,k<n->∀j,j<m->xs[k*m+j]?=ys[k*m+j]?):xs=ys:=by
 refine wXa λi=>?_;by_cases hi:i<n*m
 .have hm:0<m:=by
   rcases wZ0 m with h0|h0
   .subst h0;simp at hi
   .exact h0
  have:=h (i / m) (Nat.div_lt_of_lt_mul (by rw[wQS];exact hi)) (i%m) (wZz _ hm);have e:i / m*m+i%m=i:=by rw[wQS];exact wZ4 i m
  rw[e]at this;exact this
 .rw[wQW (by omega),wQW (by omega)]
variable{b:TypeId}
theorem zXQ.ops{u:TypeId}(h:zXQ P [t,t,t,t,t,t,t,u,t,t,b,b] n xs)(ht:P.underlying t=some (.int .i64))(hu:P.underlying u=some (.int .u16))(hb:P.underlying b=some .bool):yYn n xs:=by
 have hl:xs.length=n*12:=h.1;have hn:(zQi xs).length=n:=by unfold zQi;rw[wQD,wZD,hl];omega
 refine⟨jHZ hl (by rw[zQc,hn]) λk hk j hj=>?_,hn.symm⟩;have e:(zQi xs)[k]'(by omega)=oqAt xs (k*12):=by simp[zQi]
 rw[jYh (by omega) j hj,e];have key:=λr (hr:r<12)=>h.at_ (k:=k) (r:=r) (t:=[t,t,t,t,t,t,t,u,t,t,b,b][r]) hk (List.getElem?_eq_getElem hr)
 match j,hj with
 |0,_=>exact h.int (r:=0) hk rfl ht
 |1,_=>exact h.int (r:=1) hk rfl ht
 |2,_=>exact h.int (r:=2) hk rfl ht
 |3,_=>exact h.int (r:=3) hk rfl ht
 |4,_=>exact h.int (r:=4) hk rfl ht
 |5,_=>exact h.int (r:=5) hk rfl ht
 |6,_=>exact h.int (r:=6) hk rfl ht
 |7,_=>exact h.int (r:=7) hk rfl hu
 |8,_=>exact h.int (r:=8) hk rfl ht
 |9,_=>exact h.int (r:=9) hk rfl ht
 |10,_=>exact h.bool (r:=10) hk rfl hb
 |11,_=>exact h.bool (r:=11) hk rfl hb
def IsBs(n:Nat)(xs:List DV):Prop:=xs.length=n/\∀i,i<n->xs[i]?=some (.bool (bAt xs i))
theorem zXQ.bools(h:zXQ P [b] n xs)(hb:P.underlying b=some .bool):IsBs n xs:=
 ⟨by have:=h.1;simpa using this,λi hi=>by
  have:=h.bool (k:=i) (r:=0) hi rfl hb
  simpa using this⟩
section
attribute [local irreducible] Ans AnsO AnsG AnsN AnsI
def vt(l:List DV):Scn:=⟨nAt l 0,nAt l 1,nAt l 2,nAt l 3,nAt l 4,nAt l 5,nAt l 6,lAt l 7,cAt l 7,lAt l 8,cAt l 8,lAt l 9,cAt l 9⟩
def zV1:Gam:=yXb.add [.p 24 (λv=>let c:=ul v 0;let e:=zKK (vm c) (ints (cAt (uj v) 1));let f:=zYj (vm c);some (RV.agg [dJ (nAt c 0),dJ (nAt c 1),dJ (nAt c 2),dJ (nAt c 3),dJ (nAt c 4),dJ (nAt c 5),dJ (nAt c 6),dS (lAt c 7) (cAt c 7),dS f.length (ims f),dS e.length (ops e)])),
 .p 25 (λv=>let c:=redL (vm (ul v 0));some (RV.d (dS c.length (rds c)))),
 .p 26 (λv=>let c:=ul v 0;let d:=zZY (zQd (vm c)) (nAt (ul v 1) 0) (nAt (ul v 1) 1).toNat;some (RV.tup [RV.agg [dJ (nAt c 0),dJ (nAt c 1),dJ (nAt c 2),dJ (nAt c 3),dJ (nAt c 4),dJ (nAt c 5),dJ (nAt c 6),dS (lAt c 7) (cAt c 7),dS (lAt c 8) (cAt c 8),dS d.length (ops d)],rJ 0])),
 .q 7 ([true],0,3) (λv b=>let e:=vt (uq v 0);some ⟨AV.agg [cJ e.bits,cJ e.c.a,cJ e.c.b,cJ e.c.c,cJ e.c.d,cJ e.gtw,cJ e.gth,Cl.ref 0 e.ord.length,Cl.ref 1 e.ims.length,Cl.ref 2 e.ops.length],[Bx.row 3 1 (is e.ord),Bx.row 43 28 (ims e.ims),Bx.row 61 12 (ops e.ops)],false⟩)]
theorem zYb(s:Scn)(ln:Nat)(lxs:List DV)(qn:Nat)(qxs:List DV)(hs:s.ok)(hl:lxs=is (ints lxs)/\ln=lxs.length)(hq:qxs=is (ints qxs)/\qn=qxs.length):Ans prog 6 [rA [dJ s.b,dJ s.x,dJ s.y,dJ s.w,dJ s.h,dJ s.tw,dJ s.th,dS s.on s.oxs,dS s.pn s.pxs,dS s.rn s.rxs],rD (dS ln lxs),rD (dS qn qxs)] (rD (dQ true)):=
 vv zV1 (qA (uh Scr (λp=>p=Scn.bscr s (ints lxs)) (λo=>aAB (oF 2 qn qxs (aIX 7 7 8 8 9 0)) 7 (sY o) (aDG 8 (Bx.cells (sY o)) [])) (λb=>let a:=zJe (aFU b);let c:=a.p4;let d:=a.p3;let e:=a.p2;let f:=a.p1;let g:=a.p0;let h:=a.c;Ann.seq (Ann.loop (Inv.mk (List Oq × Nat) (λ(j:List Oq × Nat)=>zVg b j.fst j.snd) (λ(i:List Oq × Nat)=>aIT (oF 2 qn qxs (kU 7 7 8 8 (rU 9 i.snd))) 7 (sY b) 8 (sY (zQ5 b i.fst)) []) (λ(n:List Oq × Nat)=>wtL n.fst)) (λ(t:List Oq × Nat)=>aL)) (uh (List Oq) (λm=>∃l:Nat,zVg b m l) (λk=>zQ 8 13 14 0 (sY (zQ5 b k)) (xL a.w a.h a.so (aF h.a) (aCI h.b h.c h.al h.f (qT g.w g.h g.s g.n g.xs (nE f.w f.h f.s f.n f.xs e.w e.h e.s e.n e.xs (nE d.w d.h d.s d.n d.xs c.w c.h c.s c.n c.xs []))))) []) (λq=>aL))))) Tryz.func6 (let E:=Scn.bscr s (ints lxs);let g:=Scn.ops s;let l:=Scn.ims s;let m:=Scn.ord s;let d:=Scn.c s;let n:=Scn.bits s;let F:=(⟨n,d,Scn.gtw s,Scn.gth s,ints (is m),zQr (ims l),zQi (ops g)⟩:Scr);let G:=zYj F;let H:=DV.sl (List.length m) (is m);let I:=d.d;let J:=d.c;let K:=d.b;let L:=d.a;let M:=aB n::aB L::aB K::aB J::aB I::aB (Scn.gtw s)::aB (Scn.gth s)::H::DV.sl (List.length G) (ims G)::aBS (zKK F (ints lxs));True/\True/\True/\iY 7 0 [AV.agg (aFA s.b s.x s.y s.w s.h s.tw s.th (DV.sl s.on s.oxs) (DV.sl s.pn s.pxs) (DV.sl s.rn s.rxs) [])] [] (AV.agg (qI n (aGX L K J I s (fW 0 (List.length (Scn.ord s)) (fW 1 (List.length (Scn.ims s)) (aBI 2 g [])))))) (bR 3 1 (is m)::bR 43 28 (ims l)::iK (ops g))/\aX (iG 24 (aB n::aB L::aB K::aB J::aB I::aB (Scn.gtw s)::aB (Scn.gth s)::H::DV.sl (List.length l) (ims l)::aBS g) (pM ln lxs []) M) (True/\True/\True/\(True/\(∃u:Scr,let O:=M=iZ u;pP (u=E) (oO qn qxs (iJ jG)) O (O/\True)))/\(∀a:Scr,let k:=zJe (mO a);a=E->(∃t:List Oq × Nat,aG (zVg a t.fst t.snd) (oO qn qxs (iJ (dC t.snd))) (eS (iZ a)) (iZ a=iZ (zQ5 a t.fst)))/\(∀r:List Oq × Nat,let c:=zQ5 a r.fst;let v:=redL (mO c);let e:=List.length v;let h:=(e:Int);let i:=(r.snd:Int);let j:=atS (ints qxs) i;let f:=modS j h;let w:=aW f 2;let b:=rds v;let x:=fM b w;let y:=eF b f 2;let z:=yH c (aBS (zZY (iN c) y (Int.toNat x)));let A:=iZ c;zVg a r.fst r.snd->True/\kH (bH 25 (iZ c) [] (rD (DV.sl e b))) (True/\True/\True/\(mE h->(True/\bH 8 (iZ a) [] (rT (imR k::lE 0 0))/\aK (∃q:List Oq,aG (∃Q:Nat,zVg a q Q) (cT (iJ jG)) (A=iZ (zQ5 a q)) (eS (Im.ds k))))/\(∀p:List Oq,let B:=zJe (mO (zQ5 a p));let C:=Im.same k B;let D:=imR B;(∃P:Nat,zVg a p P)->True/\aR (bH 8 (iZ (zQ5 a p)) [] (rT (D::lE 0 0))) (qO (Ans prog 10 [] (aM true)) (eS true->True/\qL 0 (qL 0 (aX (Ans prog 29 [imR k,D] (aM C)) (cZ C true)) (fY (wY 0) true)) (mG (wY 0) true)) (mI (bG true) true))))/\iL (fS (e:Int)) (tX 28 qn qxs [aV i] (aV j)) (True/\True/\yX j h/\iE f e 2 b/\eY (aT (oI b f 2) (cX b w)) (bH 26 A (gB (aAE y x)) (gA z [aV 0])) (True/\True/\True/\True/\mU (mH (fN 0) (aAF (oH i) (aU (5*(dG a:Int))) true (∃o:List Oq × Nat,zVg a o.fst o.snd/\gZ (wtL o.fst<wtL r.fst) (oO qn qxs (iJ (bQ r.snd o.snd))) (iZ a) z (iZ (zQ5 a o.fst)))) (fY (jZ 0) true))))))))) λhwf=>by
  delta eS aB aV aW aE iE oI aU aG aK aX cL gB fS mE aH cP bM bG aR bK cT eY yX fC aT gD bQ dR eF gL dC pM mU oH tX kH cX fM bH iG gZ fW aFA aGX aBI aM qI iJ iK jG lE pP wY dG cS fP iL aIO aBS qL cZ fY gO mH mG mI qO dN oO kP fN jZ cY iY mO iN gA yH iZ yM aAE aAF;simp only[sS,zVa];obtain⟨l,rfl,rfl⟩:∃l:List Int,lxs=is l/\ln=l.length:=⟨ints lxs,hl.1,hl.2.trans ((congrArg List.length hl.1).trans (zQl _))⟩
  clear hl;simp only[zZI,zZv,zQC];have eS:∀a:Scr,(⟨a.bits,a.c,a.tw,a.th,a.ord,a.ims,a.ops⟩:Scr)=a:=λ_=>rfl;have hS:(⟨s.bits,s.c,s.gtw,s.gth,s.ord,s.ims,s.ops⟩:Scr)=s.scr:=rfl;simp only[hS,eS];have CF:=s.c_facts;have FF:=s.facts;have li:=s.ims_len;have lo:=s.ops_len;have lr:=s.ord_len;have lb:=s.b_len;have BI:=jK4 s.scr l ⟨⟨by show -1000<=s.c.a;omega,by show s.c.a<=1000;omega⟩,⟨by show -1000<=s.c.b;omega,by show s.c.b<=1000;omega⟩,⟨by show -1000<=s.c.c;omega,by show s.c.c<=1000;omega⟩,by show -1000<=s.c.d;omega,by show s.c.d<=1000;omega⟩ (by show s.ims.length<=_;omega) (by show s.ops.length<=_;omega);refine⟨jK7 s hs,BI,⟨s.bscr l,rfl,⟨rfl,rfl,rfl,rfl,rfl,rfl,rfl,⟨rfl,rfl⟩,⟨rfl,rfl⟩,rfl,rfl⟩,rfl,rfl,rfl,rfl,rfl,rfl,rfl,⟨rfl,rfl⟩,⟨rfl,rfl⟩,rfl,rfl⟩,λa ha=>?_⟩;clear BI;have R0:RuOk a:=by rw[ha];exact s.b_ru l
  have N:∀p k,zVg a p k->Neat (zQ5 a p)/\Neat a/\zJe a=zJe (zQ5 a p):=λp k h=>by subst ha;exact h.same
  have hu:∀m∈a.ims,m.isU:=by subst ha;exact s.b_isU
  have ht:∀m∈a.ims,m.tiny:=by subst ha;exact s.b_tiny
  have aI:a.ims.length<=1000:=by subst ha;show(zYj s.scr).length<=_;omega
  have aL:a.ops.length<=18:=by subst ha;have:=zKJ s.scr l;show(zKK s.scr l).length<=_;rw[this];exact lo
  have aO:a.ord.length<=1000:=by subst ha;show s.ord.length<=_;omega
  have hx0:a.c.has a.c.a a.c.b=true:=by
   obtain⟨_,n2,_⟩:=N a.ops 0 (zVg.start R0);obtain⟨⟨p1,p2⟩,p3,p4⟩:=n2.at_;obtain⟨w1,w2⟩:=n2.w;obtain⟨h1,h2⟩:=n2.h;exact jKq (by omega) (by omega)
  clear ha li lo lr lb CF FF hS eS;refine⟨⟨(a.ops,0),zVg.start R0,rfl,rfl,rfl,rfl,rfl,rfl,rfl,rfl,⟨rfl,rfl⟩,⟨rfl,rfl⟩,rfl,rfl⟩,λz hz=>?_⟩;obtain⟨p,k⟩:=z;simp only at hz |-;obtain⟨n1,n2,_⟩:=N p k hz;have pL:p.length<=18:=by have:=hz.len;omega
  have tL:(zQ5 a p).ops.length<=100000:=by show p.length<=_;omega
  have tI:(zQ5 a p).ims.length<=1000000:=by show a.ims.length<=_;omega
  refine⟨zGv (zQ5 a p) hz.ok n1.run tL tI,λ_=>⟨⟨zYK a hu (by omega) n2.rend,p,⟨k,hz⟩,rfl,rfl,rfl,rfl,rfl,rfl,rfl,⟨rfl,rfl⟩,⟨rfl,rfl⟩,rfl,rfl⟩,λp' hp'=>?_⟩,λhd=>?_⟩
  .obtain⟨k',hz'⟩:=hp';obtain⟨m1,m2,e⟩:=N p' k' hz';have RR:=zYK (zQ5 a p') hu (by show a.ims.length<=_;omega) m1.rend;have SI:=zHG (zJe a) (zJe a) (zHS _ _ _) (zHS _ _ _);have sr:=Im.same_refl (zJe a);rw[<-e]at RR |-;exact⟨RR,⟨λ_=>⟨λ_=>⟨SI,sr⟩,λh=>absurd h (by decide)⟩,λh=>absurd h (by decide)⟩,λh=>absurd h (by decide)⟩
  .have HM:∀q∈redL (zQ5 a p),∃n i:Nat,q=((n:Int),(i:Int))/\canV (zQd (zQ5 a p)) n i=true/\n<10/\i<(zQ5 a p).ops.length:=λq hq=>yZT hq;have AT:=jUf qn qxs (k:Int) hq;have bd:(redL (zQ5 a p)).length<=1000000:=by
    have h:=jJT (zQd (zQ5 a p)) (zQ5 a p).ops.length 0;have h:(redL (zQ5 a p)).length<=10*(zQ5 a p).ops.length+0:=h;have e:(zQ5 a p).ops.length=p.length:=rfl;omega
   generalize redL (zQ5 a p)=d at *;generalize atS (ints qxs) (k:Int)=v at *;have hd0:0<d.length:=by
    rcases wZ0 d.length with h|h
    .rw[h]at hd;exact absurd hd (by decide)
    .exact h
   have MD:=zQj v (d.length:Int);have b:=@zZF v (d.length:Int) (by omega) (by omega);generalize modS v (d.length:Int)=j at *;have hj:j.toNat<d.length:=by omega
   have rl:=jGS d;obtain⟨r1,r2⟩:=jGT hj;obtain⟨r3,r4⟩:=yZU hj;obtain⟨n,i,e,hc,hn,hi⟩:=HM _ (List.getElem_mem hj);rw[e]at r1 r2 r3 r4;simp only at r1 r2 r3 r4;have hi:i<p.length:=hi;obtain⟨nx,nl⟩:=hz.next hi hn hc hx0;have h1:1<=n:=by
    unfold canV at hc;simp only[wQd,wQf]at hc;omega
   have AP:=jQf (zQ5 a p) n i hz.ok n1.run tL tI hc (by omega) (by show a.ord.length<=_;omega) ht;have fw:=nx.few;have w1:wrap .i64 ((k:Int)+1)=((k+1:Nat):Int):=by rw[wQb _ (by omega)];omega
   have w2:wrap .i64 (5*(a.ops.length:Int))=5*(a.ops.length:Int):=wQb _ (by omega);rw[r3,r4];simp only[r1,r2,w1,w2];exact⟨AT,MD,⟨b.1,b.2,by omega⟩,⟨True.intro,True.intro⟩,AP,λ_=>⟨λh=>by omega,λ_=>⟨(zZY (zQd (zQ5 a p)) n i,k+1),nx,nl,rfl,rfl,rfl,rfl,rfl,rfl,rfl,rfl,⟨rfl,rfl⟩,⟨rfl,rfl⟩,rfl,rfl⟩⟩,λh=>absurd h (by decide)⟩
end
end Go.Proofs.YtbnmadpcdlnleaaGreatDoor
namespace Go.Proofs.YtbnmadpcdlnleaaGreatDoor.closed
open Go
set_option linter.unusedVariables false
set_option linter.unusedSimpArgs false
def headL:List Nat:=[104,97,114,110,101,115,115,32,51,97,55,100,98,54,49,54,50,48,101,51,57,48,101,53,97,56,48,50,57,102,99,101,101,102,51,51,99,54,54,54,97,56,53,56,102,56,55,53,54,101,99,55,102,102,49,50,100,101,101,50,54,101,102,56,98,98,50,56,102,51,52,57,32,99,117,116,32,97,116,32,99,111,109,112,111,115,105,116,111,114,47,99,111,109,112,111,115,105,116,111,114,116,111,112,46,84,111,112,84,105,108,101,115,84,111,103,101,116,104,101,114,32,99,111,109,112,111,115,105,116,111,114,47,99,111,109,112,111,115,105,116,111,114,116,111,112,46,84,111,112,79,110,101,83,116,101,112,73,115,72,97,108,102,65,85,110,105,116,32,99,111,109,112,111,115,105,116,111,114,47,99,111,109,112,111,115,105,116,111,114,116,111,112,46,84,111,112,84,114,97,99,101,69,120,112,108,97,105,110,115,32,99,111,109,112,111,115,105,116,111,114,47,99,111,109,112,111,115,105,116,111,114,116,111,112,46,84,111,112,65,110,121,79,114,100,101,114,79,102,82,117,108,101,115]
set_option maxRecDepth 100000 in
theorem yQT:Tryz.prog.initOrder=String.ofList (headL.map Char.ofNat):=by kernel_rfl
set_option maxRecDepth 100000 in
theorem jQV:Tryz.prog.initOrder.toList=(headL.map Char.ofNat):=by rw[yQT,String.toList_ofList]
set_option maxRecDepth 100000 in
theorem enters:Tryz.prog.mayEnter=true:=by
 unfold Program.mayEnter Program.doorFits;rw[jQV]
 kernel_rfl
set_option maxRecDepth 100000 in
theorem liftsNot:Tryz.prog.liftsFinal=false:=by
 unfold Program.liftsFinal Program.headLifts;rw[jQV]
 kernel_rfl
set_option maxRecDepth 100000 in
theorem made:Tryz.prog.make=some .cut:=by
 unfold Program.make;rw[jQV]
 kernel_rfl
theorem own:ownKnob Tryz.prog.godebug=none:=by kernel_rfl
theorem laidOut:laidOutB Tryz.prog=true:=by kernel_rfl
theorem mapsRow:mapsRowed Tryz.prog=true:=by kernel_rfl
theorem noStops:(Tryz.prog.stops==[])=true:=by kernel_rfl
theorem noKnobs:(Tryz.prog.stopKnobs==[])=true:=by kernel_rfl
theorem plain:Tryz.prog.plainKeys=true:=by kernel_rfl
theorem heard:Tryz.prog.stopsHeard=true:=by kernel_rfl
end Go.Proofs.YtbnmadpcdlnleaaGreatDoor.closed
namespace Go.Proofs.YtbnmadpcdlnleaaGreatDoor
open Go.IntKind (wrap)
open Go.RowKit
set_option linter.unusedVariables false
set_option linter.unusedSimpArgs false
set_option maxRecDepth 20000
variable{sp:Nat->Bool}{va:Bool}{H:Type}{w:World}{laid:List (String × DataW Unit)}
section
open Go.ChangeShapes
open Go.WideShapes
def jZg{H:Type}(P:Program):Nat->TypeId->DataW H->Nat->Option DV
 |0,_,_,_=>none
 |fuel+1,t,d,i=>
  match P.underlying t,d with
  |some (.int k),.lit (.int k' n)=>if i=0/\k'=k then some (.int k n) else none
  |some .bool,.lit (.bool b)=>if i=0 then some (.bool b) else none
  |some .string,.lit (.string s)=>if i=0/\s.length<=maxLen then some (.str ⟨s.toArray⟩) else none
  |some (.struct fs),.agg ds=>(fs.toList.zip ds).findSome? λx=>if x.1.offset<=i/\i<x.1.offset+P.cellsOf x.1.type then jZg P fuel x.1.type x.2 (i-x.1.offset) else none
  |some (.array _ e),.agg ds=>if P.cellsOf e=0 then none else match ds[i / P.cellsOf e]? with
   |some d=>jZg P fuel e d (i%P.cellsOf e)
   |none=>none
  |_,_=>none
section
variable{H:Type}{enc:TypeId × Value->H}{P:Program}{w:World}
theorem jKT{V:Nat->Prop}:∀(fuel:Nat)(t:TypeId)(cs:List Value)(d:DataW H)(ps:List MemPlace)(q i:Nat)(dv:DV),
  DataW.trod enc P w 0 sp va fuel t cs=some (d,ps)->jZg P q t d i=some dv->∃u,cs[i]?=some u/\RepD w V dv u:=by
 intro fuel
 induction fuel with
 |zero=>intro t cs d ps q i dv h;simp[DataW.trod]at h
 |succ fuel ih=>
  intro t cs d ps q i dv h hq
  cases q with
  |zero=>simp[jZg]at hq
  |succ q=>
  unfold DataW.trod at h;unfold jZg at hq;split at h
  .rename_i b hu;simp only[wQa,wQc]at h;obtain⟨rfl,_⟩:=h;simp only[hu]at hq;split at hq
   .rename_i e;subst e;cases hq;exact⟨_,rfl,by simp only[RepD]⟩
   .cases hq
  .rename_i k k' n hu;split at h
   .rename_i hk;obtain⟨rfl,hwf⟩:=hk;simp only[wQa,wQc]at h;obtain⟨rfl,_⟩:=h;simp only[hu]at hq;split at hq
    .rename_i e;obtain⟨rfl,_⟩:=e;cases hq;exact⟨_,rfl,by simp only[RepD];exact⟨trivial,hwf⟩⟩
    .cases hq
   .cases h
  .rename_i hu;simp only[hu]at hq;cases hq
  .rename_i s hu;split at h
   .simp only[wQa,wQc]at h;obtain⟨rfl,_⟩:=h;simp only[hu]at hq;split at hq
    .rename_i e;obtain⟨rfl,hl⟩:=e;cases hq;exact⟨_,rfl,by simp only[RepD];exact⟨by simp,by simpa using hl⟩⟩
    .cases hq
   .cases h
  .rename_i hu;simp only[hu]at hq;cases hq
  .rename_i hu;simp only[hu]at hq;cases hq
  .rename_i hu;simp only[hu]at hq;cases hq
  .rename_i hu;simp only[hu]at hq;cases hq
  .rename_i fs hu;split at h
   .obtain⟨xs,hxs,h⟩:=wQV.1 h;simp only[wQc]at h;obtain⟨rfl,_⟩:=h;simp only[hu]at hq;obtain⟨x,hx,hx2⟩:=List.exists_of_findSome?_eq_some hq;split at hx2
    .rename_i hr;obtain⟨j,hj,e⟩:=wX2 hx;rw[List.getElem_zip]at e;simp only[List.length_zip,wQD]at hj;have h1:=wXg hxs j _ (List.getElem?_eq_getElem (by omega));rw[List.getElem?_eq_getElem (show j<xs.length by omega)]at h1;subst e;simp only[List.getElem_map]at hx2 hr;obtain⟨u,hu1,hu2⟩:=ih _ _ _ _ q _ dv h1 hx2;refine⟨u,?_,hu2⟩;rw[wQI,if_pos (by omega),wZp]at hu1;rwa [show _+(i-_)=i from Nat.add_sub_of_le hr.1]at hu1
    .cases hx2
   .cases h
  .rename_i n e hu;split at h
   .obtain⟨xs,hxs,h⟩:=wQV.1 h;simp only[wQc]at h;obtain⟨rfl,_⟩:=h;simp only[hu]at hq;split at hq
    .cases hq
    .rename_i hne;split at hq
     .rename_i d hd;rw[wQY]at hd;obtain⟨x,hx,rfl⟩:=wQV.1 hd;have hl:=wXE hxs;simp only[wZD]at hl;have hlt:i / P.cellsOf e<xs.length:=(wQE.1 hx).1;have h1:=wXg hxs (i / P.cellsOf e) (i / P.cellsOf e) (wZ3 (by omega));rw[hx]at h1;obtain⟨u,hu1,hu2⟩:=ih _ _ _ _ q _ dv h1 hq;refine⟨u,?_,hu2⟩;rw[wQI,if_pos (wZz _ (Nat.pos_of_ne_zero hne)),wZp,wQS]at hu1;rwa [wZ4]at hu1
     .cases hq
   .cases h
  all_goals first|(cases h;done)|(clear h ih;simp_all;done)|(clear h ih;split at hq<;>simp_all;done)
end
variable{P:Program}
def yZJ(P:Program)(laid:List (String × DataW Unit))(p:Nat × List DV):Prop:=
 ∃x t,x∈laid/\P.globalNamed x.1=some p.1/\(P.globals[p.1]?).map (·.type)=some t/\(List.range p.2.length).map (jZg P 6 t x.2)=p.2.map some
def jGx(P:Program)(laid:List (String × DataW Unit))(g:Nat):Prop:=∃x,x∈laid/\P.globalNamed x.1=some g/\∃nm d,x.2=.iface nm d
def yX1(P:Program)(g:Nat):Prop:=∀w:World,w.ShapedOpen P->∃m,w.cell? ⟨g,0,none⟩=some (.int .i64 m)
theorem jYC{enc:TypeId × Value->H}:∀{fuel:Nat}{t:TypeId}{cs:List Value}{nm:String}{d:DataW H}{ps:List MemPlace},DataW.trod enc P w 0 sp va fuel t cs=some (.iface nm d,ps)->∃u v,cs=[.iface u v]:=by
 intro fuel t cs nm d ps h
 cases fuel with
 |zero=>simp[DataW.trod]at h
 |succ fuel=>
  unfold DataW.trod at h;split at h
  all_goals first
   |exact⟨_,_,rfl⟩
   |(simp at h;done)
   |(split at h<;>simp at h;done)
   |(exfalso;obtain⟨x,_,h⟩:=wQV.1 h;cases h;done)
   |(exfalso;split at h;(obtain⟨x,_,h⟩:=wZy.1 h;obtain⟨y,_,h⟩:=wQV.1 h;cases h);cases h)
   |(exfalso;split at h;(split at h;(obtain⟨x,_,h⟩:=wZy.1 h;simp only at h;split at h<;>cases h);cases h);cases h)
theorem zVU{P:Program}{w:World}:∀{l:List (String × DataW Unit)}{ps:List MemPlace},DataW.LaidVars P w l ps->∀x∈l,∃g t cs fuel p,P.globalNamed x.1=some g/\(P.globals[g]?).map (·.type)=some t/\w.var? P x.1=some cs/\DataW.trod (λ_=>()) P w 0 (λ_=>true) false fuel t cs.toList=some (x.2,p)
 |[],_,_,x,hx=>by cases hx
 |(n,d)::r,ps,h,x,hx=>by
  obtain⟨g,t,cs,fuel,p,q,h1,h2,h3,h4,h5,_⟩:=h
  rcases wQm.1 hx with rfl|hx
  .exact⟨g,t,cs,fuel,p,h1,h2,h3,h4⟩
  .exact zVU h5 x hx
theorem jHA(hm:laidMetH P laid w)(hp:(laid.all λx=>x.2.handleName?.isNone)=true)(ht:∀p∈zW9,yZJ P laid p)(hs:∀g∈zUS,jGx P laid g)(hi:∀g∈zUT,∃m,w.cell? ⟨g,0,none⟩=some (.int .i64 m)):zJR w (λ_=>True):=by
 rw[MakeChecks.laidMetH_plain _ _ _ hp]at hm;obtain⟨ps,hl,_⟩:=hm;refine⟨λp hp _=>?_,λg hg=>⟨trivial,?_⟩,λg hg=>⟨trivial,hi g hg⟩⟩
 rotate_left
 .obtain⟨x,hx,h1,nm,d,hd⟩:=hs g hg;obtain⟨g',t',cs,fuel,q,g1,g2,g3,g4⟩:=zVU hl x hx;rw[g1]at h1;injection h1 with h1;subst h1
  rw[hd]at g4;obtain⟨u,v,hc⟩:=jYC g4;refine⟨u,v,?_⟩;rw[World.var?_cell g1 g3 0,<-wXQ,hc];rfl
 obtain⟨x,t,hx,h1,h2,h3⟩:=ht p hp;obtain⟨g,t',cs,fuel,q,g1,g2,g3,g4⟩:=zVU hl x hx;rw[g1]at h1;injection h1 with h1;subst h1
 rw[g2]at h2;injection h2 with h2;subst h2
 refine⟨trivial,RepCells.of_at λi d hi=>?_⟩;have hlt:i<p.2.length:=(wQE.1 hi).1;have h4:((List.range p.2.length).map (jZg P 6 t' x.2))[i]?=(p.2.map some)[i]?:=by rw[h3]
 rw[wQY,wZ3 hlt,wQY,hi]at h4;simp only[wQv,wQa]at h4;obtain⟨u,hu1,hu2⟩:=jKT (V:=λ_=>True) fuel t' cs.toList x.2 q 6 i d g4 h4;refine⟨u,?_,hu2⟩;rw[Nat.zero_add,World.var?_cell g1 g3 i,<-wXQ];exact hu1
theorem jYx{enc:TypeId × Value->H}{C:Checked}{os:Os}{f:FuncId}{fn:Func}{s:ChangeSpec}{tb:TypeId}(own:ownKnob C.prog.godebug=none)(started:os.Started)(noInit:C.prog.inits.idxOf? f=none)(hfn:C.prog.funcs[f]?=some fn)(witness:∃(w:World) (tape:Tape) (i:Input),w.os=os/\(w.forCall tape i).Shaped C.prog/\i.vars=[]/\Input.okWide C.prog (w.forCall tape i) .any w.heap.size f i /\
   ((s.pre enc C.prog fn [] false (w.forCall tape i).memory i.args/\laidMetH C.prog laid (w.forCall tape i).memory)/\sizedMet enc C.prog fn (OpenSpec.ofChange s) false (w.forCall tape i).memory i.args)/\({}:Assume).holds C.prog (lone (Frame.enter C.prog f i.args .normal) [] (w.forCall tape i)))(hspec:∀ds:List (DataW H),ds.length=fn.params.toList.length->s.fn H ds={ results:=[.lit (.bool true)],args:=ds })(hvars:s.vars=[])(hres:fn.resultTypes=#[tb])(hb:C.prog.underlying tb=some .bool)(laidO:laidOutB C.prog=true)(hread:∀t∈fn.params.toList,C.prog.readableRec t=true/\t<C.prog.types.size)(hp:(laid.all λx=>x.2.handleName?.isNone)=true)(ht:∀p∈zW9,yZJ C.prog laid p)(hsn:∀g∈zUS,jGx C.prog laid g)(hin:∀g∈zUT,yX1 C.prog g)(walk:∀(W:World) (args:Array Value),zJR W (λ_=>True)->Args C.prog W fn.params.toList args.toList->Calls C.prog f args W λe W'=>e=.returned (.bool true)/\Below W.heap.size W W') :
  ReturnsInHanded {} C os f .any (λw args=>(s.pre enc C.prog fn [] false w args/\laidMetH C.prog laid w)/\sizedMet enc C.prog fn (OpenSpec.ofChange s) false w args) (s.post enc C.prog fn false true false false):=by
 refine returnsInHanded_of_calls own started noInit witness ?_;intro w0 tape i0 _ hshape _ hok hpre _;obtain⟨_,_,_,fn',hfn',_,_,_,_,hval⟩:=hok;have efn:=wXM (hfn'.symm.trans hfn);subst efn;obtain⟨⟨⟨ds,gs,before,hW0,_⟩,hlaid0⟩,hz⟩:=hpre;have hW:=DataW.Whole.of_heap (w':=w0.forCall tape i0) (by rfl) hW0;have hsz:(DataW.weightsEach C.prog (fn'.params.toList++s.plain.varTypes C.prog) (ds++gs)).all (·<=reachBytes)=true:=hz.weights hW0;have hlaid:laidMetH C.prog laid (w0.forCall tape i0):=laidMetH.of_heap (w:=(w0.forCall tape i0).memory) (by rfl) hlaid0
 suffices h:Calls C.prog f i0.args (w0.forCall tape i0) λe W'=>∃v,e=.returned v/\s.post enc C.prog fn' false true false false (w0.forCall tape i0) i0.args v W' from
  h.mono λe W' ⟨v,he,hp⟩=>by subst he;exact ChangeSpec.post_blind hp
 generalize w0.forCall tape i0=W at *;generalize i0.args=args at *;have hW':=hW;obtain⟨p,q,hA,hV,rfl,_,_⟩:=hW;rw[hvars]at hV;obtain⟨rfl,rfl⟩:=trodVars_none hV;have hvt:s.plain.varTypes C.prog=[]:=by simp[ChangeSpec.plain,DataSpec.varTypes,hvars]
 rw[hvt,wQ8,wQ8]at hsz;obtain⟨ha,hlen⟩:=zWb hA (λn hn=>by simpa using List.all_eq_true.1 hsz n hn) (λj t v ht hv=>jZf (hval j t v (by simpa using ht) (by simpa using hv)));refine(walk W args (jHA hlaid hp ht hsn λg hg=>hin g hg W hshape) ha).mono λe W' ⟨he,bel⟩=>?_;subst he;have hs:=hspec ds hlen;refine⟨_,rfl,ds,[],p++[],[],p,[],hW',?_,?_,?_,bel.frame _,λh=>by cases h⟩
 .rw[wQ8,hs,hres];exact trodAll_mk1 (shut_bool hb _)
 .rw[wQ8,hs];exact zUn laidO bel hread hA
 .rw[wQ8,hs,hvars];rfl
end
open Go.Proofs.Tryz (prog)
abbrev jVS:List (String × DataW Unit):=[("compositor/operator.rules", Rows.laid_compositor_operator_rules),("compositor/blend.names", Rows.laid_compositor_blend_names)]
set_option maxRecDepth 100000 in
theorem yXN:∀p∈zW9,yZJ prog jVS p:=by
 intro p hp;simp only[zW9,wQm,wX6,or_false]at hp
 rcases hp with rfl|rfl
 .exact⟨("compositor/blend.names", Rows.laid_compositor_blend_names),306,(List.mem_cons_of_mem _ List.mem_cons_self),by kernel_rfl,by kernel_rfl,by kernel_rfl⟩
 .exact⟨("compositor/operator.rules", Rows.laid_compositor_operator_rules),318,List.mem_cons_self,by kernel_rfl,by kernel_rfl,by kernel_rfl⟩
set_option maxRecDepth 100000 in
theorem yZN:∀g∈zUS,jGx prog jVS g:=by
 intro g hg;simp[zUS]at hg
theorem yZ8:∀g∈zUT,yX1 prog g:=by
 intro g hg;simp only[zUT,wQm,wX6,or_false]at hg
theorem jUM:(jVS.all λx=>x.2.handleName?.isNone)=true:=by kernel_rfl
set_option maxRecDepth 100000 in
theorem yQ8(os:Os)(args:Array Value):laidMetH prog jVS ((World.doorLaid prog 400 os).forCall (λ_ _=>0) ⟨#[],args,[]⟩).memory:=
 laidMetH_of_parts3 (fuel:=8) (laidMet_of_run' 8 (by kernel_rfl) (by kernel_rfl)) (by kernel_rfl) (by kernel_rfl)
end Go.Proofs.YtbnmadpcdlnleaaGreatDoor
