/-
  Part 1 of what TopAnyOrderOfRules rests on.
-/
import Derived.WalkKit
import Derived.Deep.AppendLies
import Derived.RangeFuncFrom
import Derived.Sort.LoopGhostIn
import Derived.OpenShut
import Derived.Lib.ConvBytes
import Derived.Lib.AppendStr
import Derived.OrdersIn
namespace Go.Proofs.YtbnmadpcdlnleaaGreatDoor
open Go.RowKit
set_option linter.unusedVariables false
set_option linter.unusedSimpArgs false
set_option maxRecDepth 20000
theorem uc:IntKind.min .u64=0/\IntKind.max .u64=18446744073709551615/\IntKind.min .u16=0/\IntKind.max .u16=65535:=⟨rfl,rfl,rfl,rfl⟩
inductive DV where
  |int (k:IntKind) (n:Int)
  |bool (b:Bool)
  |str (s:ByteArray)
  |sl (len:Nat) (cells:List DV)
  |fn (f:Nat)
def zWv:List DV:=[.str ⟨#[]⟩,.str ⟨#[110,111,114,109,97,108]⟩,.str ⟨#[109,117,108,116,105,112,108,121]⟩,.str ⟨#[115,99,114,101,101,110]⟩,.str ⟨#[111,118,101,114,108,97,121]⟩,.str ⟨#[100,97,114,107,101,110]⟩,.str ⟨#[108,105,103,104,116,101,110]⟩,.str ⟨#[99,111,108,111,114,45,100,111,100,103,101]⟩,.str ⟨#[99,111,108,111,114,45,98,117,114,110]⟩,.str ⟨#[104,97,114,100,45,108,105,103,104,116]⟩,.str ⟨#[115,111,102,116,45,108,105,103,104,116]⟩,.str ⟨#[100,105,102,102,101,114,101,110,99,101]⟩,.str ⟨#[101,120,99,108,117,115,105,111,110]⟩]
def zZB:List DV:=[.str ⟨#[]⟩,.int .i64 0,.int .i64 0,.int .i64 0,.str ⟨#[99,108,101,97,114]⟩,.int .i64 0,.int .i64 0,.int .i64 0,.str ⟨#[115,114,99]⟩,.int .i64 1,.int .i64 0,.int .i64 1,.str ⟨#[100,115,116]⟩,.int .i64 0,.int .i64 1,.int .i64 2,.str ⟨#[115,114,99,45,111,118,101,114]⟩,.int .i64 1,.int .i64 3,.int .i64 3,.str ⟨#[100,115,116,45,111,118,101,114]⟩,.int .i64 3,.int .i64 1,.int .i64 3,.str ⟨#[115,114,99,45,105,110]⟩,.int .i64 2,.int .i64 0,.int .i64 4,.str ⟨#[100,115,116,45,105,110]⟩,.int .i64 0,.int .i64 2,.int .i64 4,.str ⟨#[115,114,99,45,111,117,116]⟩,.int .i64 3,.int .i64 0,.int .i64 1,.str ⟨#[100,115,116,45,111,117,116]⟩,.int .i64 0,.int .i64 3,.int .i64 2,.str ⟨#[115,114,99,45,97,116,111,112]⟩,.int .i64 2,.int .i64 3,.int .i64 2,.str ⟨#[100,115,116,45,97,116,111,112]⟩,.int .i64 3,.int .i64 2,.int .i64 1,.str ⟨#[120,111,114]⟩,.int .i64 3,.int .i64 3,.int .i64 3]
def zW9:List (Nat × List DV):=[(1,zWv),(2,zZB)]
def zUS:List Nat:=[]
def zUT:List Nat:=[]
def zUP:List Nat:=[]
inductive Cap where
  |d (v:DV)
  |ptr (b off:Nat)
inductive Cl where
  |d (v:DV)
  |lit (v:Value)
  |nil
  |ptr (b off:Nat)
  |vp (cells:List DV) (off:Nat)
  |ref (b len:Nat)
  |sub (b off len:Nat)
  |clo (f:Nat) (cs:List Cap)
  |dead
abbrev tU2(p:Prop):Prop:=True/\True/\p
abbrev tU3(p:Prop):Prop:=True/\True/\True/\p
abbrev tU4(p:Prop):Prop:=True/\True/\True/\True/\p
abbrev tU5(p:Prop):Prop:=True/\True/\True/\True/\True/\p
abbrev tU6(p:Prop):Prop:=True/\True/\True/\True/\True/\True/\p
abbrev tU7(p:Prop):Prop:=True/\True/\True/\True/\True/\True/\True/\p
abbrev tU8(p:Prop):Prop:=True/\True/\True/\True/\True/\True/\True/\True/\p
abbrev dJ(n:Int):DV:=.int .i64 n
abbrev dK(n:Int):DV:=.int .u16 n
abbrev dQ(b:Bool):DV:=.bool b
abbrev cJ(n:Int):Cl:=.d (.int .i64 n)
abbrev cK(n:Int):Cl:=.d (.int .u16 n)
def wK(n:Int):Int:=IntKind.wrap .i64 n
inductive AV where
  |one (c:Cl)
  |agg (cs:List Cl)
  |tup (vs:List AV)
inductive Bx where
  |fresh
  |gone
  |cells (cs:List Cl)
  |row (e size:Nat) (cs:List DV)
  |ice (cs:List DV)
def Bx.live:Bx->Bool
 |.cells _|.row _ _ _=>true
 |_=>false
def Bx.known:Bx->Bool
 |.fresh=>false
 |_=>true
def inK(k:IntKind)(n:Int):Prop:=(Lit.int k n).wf=true
mutual
def RepD(w:World)(V:Nat->Prop):DV->Value->Prop
 |.int k n,v=>v=.int k n/\inK k n
 |.bool b,v=>v=.bool b
 |.str s,v=>v=.string s/\s.size<=maxLen
 |.fn f,v=>v=.func (.func f) #[] #[]
 |.sl len cells,v=>∃A cap,v=.slice A len cap/\len<=cap/\cap<=maxLen/\(cells≠[]->∃g off,A=some ⟨g,off,none⟩/\V g/\RepCells w V cells g off)
def RepCells(w:World)(V:Nat->Prop):List DV->Nat->Nat->Prop
 |[],_,_=>True
 |d::ds,g,off=>(∃u,w.cell? ⟨g,off,none⟩=some u/\RepD w V d u)/\RepCells w V ds g (off+1)
end
def zZJ(w:World)(V:Nat->Prop)(w':World)(V':Nat->Prop):Prop:=
 ∀g off u,V g->w.cell? ⟨g,off,none⟩=some u->V' g/\w'.cell? ⟨g,off,none⟩=some u
variable{g off:Nat}{d:DV}{v:Value}
section
variable{w w':World}{V V':Nat->Prop}
mutual
theorem RepD.keep(h:zZJ w V w' V'):∀{d:DV}{v:Value},RepD w V d v->RepD w' V' d v
 |.int _ _,_,hd=>by simp only[RepD]at hd |-;exact hd
 |.bool _,_,hd=>by simp only[RepD]at hd |-;exact hd
 |.str _,_,hd=>by simp only[RepD]at hd |-;exact hd
 |.fn _,_,hd=>by simp only[RepD]at hd |-;exact hd
 |.sl len cells,v,hd=>by
  simp only[RepD]at hd |-;obtain⟨A,cap,h1,h2,h3,h4⟩:=hd;refine⟨A,cap,h1,h2,h3,λhne=>?_⟩;obtain⟨g,off,e,hV,hc⟩:=h4 hne;have hk:=RepCells.keep h hV hc;refine⟨g,off,e,?_,hk⟩
  cases cells with
  |nil=>exact absurd rfl hne
  |cons d ds=>
   simp only[RepCells]at hc;obtain⟨⟨u,hu,_⟩,_⟩:=hc;exact(h g off u hV hu).1
theorem RepCells.keep(h:zZJ w V w' V'):∀{cells:List DV}{g off:Nat},V g->RepCells w V cells g off->RepCells w' V' cells g off
 |[],_,_,_,_=>by simp only[RepCells]
 |d::ds,g,off,hV,hc=>by
  simp only[RepCells]at hc |-;obtain⟨⟨u,hu,hd⟩,hr⟩:=hc;exact⟨⟨u,(h g off u hV hu).2,RepD.keep h hd⟩,RepCells.keep h hV hr⟩
end
theorem zZJ.refl(w:World)(V:Nat->Prop):zZJ w V w V:=λ_ _ _ hV hu=>⟨hV,hu⟩
theorem RepCells.at_{cells:List DV}:∀{g off:Nat},RepCells w V cells g off->∀i d,cells[i]?=some d->∃u,w.cell? ⟨g,off+i,none⟩=some u/\RepD w V d u:=by
 induction cells with
 |nil=>intro g off _ i d hi;simp at hi
 |cons d ds ih=>
  intro g off hc i d' hi;simp only[RepCells]at hc
  cases i with
  |zero=>simp at hi;subst hi;exact hc.1
  |succ i=>
   obtain⟨u,hu,hd⟩:=ih hc.2 i d' (by simpa using hi);exact⟨u,by rw[<-hu];congr 2;omega,hd⟩
theorem RepCells.of_at{cells:List DV}:∀{g off:Nat},(∀i d,cells[i]?=some d->∃u,w.cell? ⟨g,off+i,none⟩=some u/\RepD w V d u)->RepCells w V cells g off:=by
 induction cells with
 |nil=>intro g off _;simp only[RepCells]
 |cons d ds ih=>
  intro g off h;simp only[RepCells];refine⟨by simpa using h 0 d rfl,ih λi d' hi=>?_⟩;obtain⟨u,hu,hd⟩:=h (i+1) d' (by simpa using hi);exact⟨u,by rw[<-hu];congr 2;omega,hd⟩
abbrev wZp:=@List.getElem?_drop
abbrev wQI:=@List.getElem?_take
theorem RepCells.part{cells:List DV}(h:RepCells w V cells g off)(a m:Nat):RepCells w V ((cells.drop a).take m) g (off+a):=
 .of_at λi d hi=>by
  rw[wQI]at hi;split at hi
  .rw[wZp]at hi;obtain⟨u,hu,hd⟩:=h.at_ _ _ hi;exact⟨u,by rw[<-hu];congr 2;omega,hd⟩
  .cases hi
theorem RepCells.drop{cells:List DV}{g off:Nat}(h:RepCells w V cells g off)(a:Nat):RepCells w V (cells.drop a) g (off+a):=
 .of_at λi d hi=>by
  rw[wZp]at hi;obtain⟨u,hu,hd⟩:=h.at_ _ _ hi;exact⟨u,by rw[<-hu];congr 2;omega,hd⟩
theorem RepD.one(h:RepD w V d v):v.oneCell'=true:=by
 cases d<;>simp only[RepD]at h
 .rw[h.1];rfl
 .rw[h];rfl
 .rw[h.1];rfl
 .obtain⟨A,cap,rfl,_⟩:=h;rfl
 .rw[h];rfl
theorem jYr(h:v.oneCell'=true):v.cells=#[v]:=by
 cases v<;>first|rfl|(simp[Value.oneCell']at h)
end
def DV.plain:DV->Option Value
 |.int k n=>some (.int k n)
 |.bool b=>some (.bool b)
 |.str s=>some (.string s)
 |.sl _ _=>none
 |.fn _=>none
theorem RepD.plain{w:World}{V:Nat->Prop}{d:DV}{v u:Value}(h:RepD w V d v)(hp:d.plain=some u):v=u:=by
 cases d<;>simp only[RepD]at h<;>simp[DV.plain]at hp
 .rw[h.1,<-hp]
 .rw[h,<-hp]
 .rw[h.1,<-hp]
inductive RV where
  |d (v:DV)
  |agg (vs:List DV)
  |tup (vs:List RV)
def zZo(w:World)(V:Nat->Prop):List DV->List Value->Prop
 |[],[]=>True
 |d::ds,v::vs=>RepD w V d v/\zZo w V ds vs
 |_,_=>False
mutual
def RepR(w:World)(V:Nat->Prop):RV->Value->Prop
 |.d x,v=>RepD w V x v
 |.agg xs,v=>∃cs:Array Value,v=.agg cs/\zZo w V xs cs.toList
 |.tup xs,v=>∃vs:Array Value,v=.tuple vs/\RepRs w V xs vs.toList
def RepRs(w:World)(V:Nat->Prop):List RV->List Value->Prop
 |[],[]=>True
 |x::xs,v::vs=>RepR w V x v/\RepRs w V xs vs
 |_,_=>False
end
section
variable{w w':World}{V V':Nat->Prop}
theorem zZo.keep(h:zZJ w V w' V'):∀{ds:List DV}{vs:List Value},zZo w V ds vs->zZo w' V' ds vs
 |[],[],_=>trivial
 |_::_,_::_,⟨h1,h2⟩=>⟨h1.keep h,zZo.keep h h2⟩
 |[],_::_,h1=>h1.elim
 |_::_,[],h1=>h1.elim
mutual
theorem RepR.keep(h:zZJ w V w' V'):∀{r:RV}{v:Value},RepR w V r v->RepR w' V' r v
 |.d _,_,hr=>by simp only[RepR]at hr |-;exact hr.keep h
 |.agg _,_,hr=>by
  simp only[RepR]at hr |-;obtain⟨cs,e,hd⟩:=hr;exact⟨cs,e,hd.keep h⟩
 |.tup xs,_,hr=>by
  simp only[RepR]at hr |-;obtain⟨vs,e,hd⟩:=hr;exact⟨vs,e,RepRs.keep h hd⟩
theorem RepRs.keep(h:zZJ w V w' V'):∀{rs:List RV}{vs:List Value},RepRs w V rs vs->RepRs w' V' rs vs
 |[],[],_=>by simp only[RepRs]
 |_::_,_::_,hr=>by
  simp only[RepRs]at hr |-;exact⟨RepR.keep h hr.1,RepRs.keep h hr.2⟩
 |[],_::_,hr=>by simp only[RepRs]at hr
 |_::_,[],hr=>by simp only[RepRs]at hr
end
end
def DV.flat:DV->Bool
 |.sl _ _=>false
 |_=>true
mutual
def RV.flat:RV->Bool
 |.d x=>x.flat
 |.agg xs=>xs.all DV.flat
 |.tup xs=>RV.flats xs
def RV.flats:List RV->Bool
 |[]=>true
 |x::xs=>x.flat&&RV.flats xs
end
section
variable{w w':World}{V V':Nat->Prop}
theorem RepD.of_flat(hf:d.flat=true)(h:RepD w V d v):RepD w' V' d v:=by
 cases d<;>simp only[RepD]at h |-
 .exact h
 .exact h
 .exact h
 .simp[DV.flat]at hf
 .exact h
abbrev wZX:=@List.all_cons
abbrev wQd:=@Bool.and_eq_true
theorem zZo.of_flat:∀{ds:List DV}{vs:List Value},ds.all DV.flat=true->zZo w V ds vs->zZo w' V' ds vs
 |[],[],_,_=>trivial
 |_::_,_::_,hf,⟨h1,h2⟩=>by
  simp only[wZX,wQd]at hf;exact⟨h1.of_flat hf.1,zZo.of_flat hf.2 h2⟩
 |[],_::_,_,h1=>h1.elim
 |_::_,[],_,h1=>h1.elim
mutual
theorem RepR.of_flat:∀{r:RV}{v:Value},r.flat=true->RepR w V r v->RepR w' V' r v
 |.d _,_,hf,hr=>by simp only[RepR]at hr |-;simp only[RV.flat]at hf;exact hr.of_flat hf
 |.agg _,_,hf,hr=>by
  simp only[RepR]at hr |-;simp only[RV.flat]at hf;obtain⟨cs,e,hd⟩:=hr;exact⟨cs,e,hd.of_flat hf⟩
 |.tup xs,_,hf,hr=>by
  simp only[RepR]at hr |-;simp only[RV.flat]at hf;obtain⟨vs,e,hd⟩:=hr;exact⟨vs,e,RepRs.of_flat hf hd⟩
theorem RepRs.of_flat:∀{rs:List RV}{vs:List Value},RV.flats rs=true->RepRs w V rs vs->RepRs w' V' rs vs
 |[],[],_,_=>by simp only[RepRs]
 |_::_,_::_,hf,hr=>by
  simp only[RepRs]at hr |-;simp only[RV.flats,wQd]at hf;exact⟨RepR.of_flat hf.1 hr.1,RepRs.of_flat hf.2 hr.2⟩
 |[],_::_,_,hr=>by simp only[RepRs]at hr
 |_::_,[],_,hr=>by simp only[RepRs]at hr
end
end
def Lies(w:World)(V:Nat->Prop)(cells:List DV)(g off:Nat):Prop:=cells≠[]->V g/\RepCells w V cells g off
theorem Lies.keep{w w':World}{V V':Nat->Prop}{cells:List DV}{g off:Nat}(hk:zZJ w V w' V')(h:Lies w V cells g off):Lies w' V' cells g off:=λhne=>by
 obtain⟨h1,h2⟩:=h hne;refine⟨?_,h2.keep hk h1⟩
 cases cells with
 |nil=>exact absurd rfl hne
 |cons d ds=>
  simp only[RepCells]at h2;obtain⟨⟨u,hu,_⟩,_⟩:=h2;exact(hk g off u h1 hu).1
theorem Lies.drop{w:World}{V:Nat->Prop}{cells:List DV}{g off:Nat}(h:Lies w V cells g off)(k:Nat):Lies w V (cells.drop k) g (off+k):=λhne=>by
 obtain⟨h1,h2⟩:=h (λe=>hne (by simp[e]));exact⟨h1,h2.drop k⟩
def zJR(w:World)(V:Nat->Prop):Prop:=(∀p∈zW9,Lies w V p.2 p.1 0)/\(∀g∈zUS,V g/\∃t v,w.cell? ⟨g,0,none⟩=some (.iface t v))/\∀g∈zUT,V g/\∃m,w.cell? ⟨g,0,none⟩=some (.int .i64 m)
theorem zJR.keep{w w':World}{V V':Nat->Prop}(hk:zZJ w V w' V')(h:zJR w V):zJR w' V':=
 ⟨λp hp=>(h.1 p hp).keep hk,λg hg=>by
  obtain⟨h1,t,v,h2⟩:=h.2.1 g hg;obtain⟨h3,h4⟩:=hk g 0 _ h1 h2;exact⟨h3,t,v,h4⟩,λg hg=>by
  obtain⟨h1,m,h2⟩:=h.2.2 g hg;obtain⟨h3,h4⟩:=hk g 0 _ h1 h2
  exact⟨h3,m,h4⟩⟩
def jKt:List (Nat × List DV)->Nat->Option (List DV)
 |[],_=>none
 |p::ps,g=>if p.1=g then some p.2 else jKt ps g
theorem jXv:∀{l:List (Nat × List DV)}{g:Nat}{cs:List DV},jKt l g=some cs->(g,cs)∈l
 |[],_,_,h=>by cases h
 |p::ps,g,cs,h=>by
  simp only[jKt]at h;split at h
  .rename_i e;injection h with h
   subst e;subst h;exact List.mem_cons_self
  .exact List.mem_cons_of_mem _ (jXv h)
def Ans(P:Program)(f:FuncId)(args:List RV)(res:RV):Prop:=
 ∀(w:World)(S:Nat->Prop)(vs:Array Value),zJR w S->RepRs w S args vs.toList ->
  Calls P f vs w λe w'=>∃v,e=.returned v/\RepR w' (λg=>S g\/w.heap.size<=g) res v/\Below w.heap.size w w'
def AnsE(P:Program)(f:FuncId)(args:List RV)(res:RV):Prop:=
 ∀(w:World)(S:Nat->Prop)(vs:Array Value),RepRs w S args vs.toList->∃v,(callFunc f vs).run P w=.ok (.value v) w/\RepR w S res v
def zWc(w:World)(g:Nat)(cur:Array Value)(e:TypeId):Prop:=∃m:Nat × Nat,w.heap[g]?=some (.cells cur e m)/\(m=(0,0)\/cur.size<=m.1)
variable{w:World}{cur:Array Value}{e:TypeId}
theorem zWc.plain(h:w.heap[g]?=some (.cells cur e (0,0))):zWc w g cur e:=⟨_,h,.inl rfl⟩
variable{w':World}
theorem zWc.keep(h:zWc w g cur e)(hk:w'.heap[g]?=w.heap[g]?):zWc w' g cur e:=by
 obtain⟨m,h1,h2⟩:=h;exact⟨m,hk.trans h1,h2⟩
abbrev wXt:=@cell_of_row
theorem zWc.cell{w:World}{g:Nat}{cur:Array Value}{e:TypeId}(h:zWc w g cur e)(j:Nat):w.cell? ⟨g,j,none⟩=cur[j]?:=by
 obtain⟨m,h1,_⟩:=h;exact wXt w g j cur e m h1
def zUi(w:World)(base:Nat)(e:TypeId)(size:Nat)(v:Value)(n:Nat)(xs:List Value):Prop:=
 xs.length=n*size /\
 ((v=.slice none 0 0/\n=0) \/
  ∃g cap cur,v=.slice (some ⟨g,0,none⟩) n cap/\base<=g/\zWc w g cur e/\n<=cap/\cap<=maxLen/\cur.size=cap*size/\cur.toList.take (n*size)=xs)
theorem zVP(w:World)(base:Nat)(e:TypeId)(size:Nat):zUi w base e size (.slice none 0 0) 0 []:=⟨by simp,.inl ⟨rfl,rfl⟩⟩
theorem zUA{base:Nat}{size:Nat}{n:Nat}{xs:List Value}(h:w.ownsRow base e size v n xs):zUi w base e size v n xs:=by
 refine⟨h.1,?_⟩
 rcases h.2 with h|⟨g,cap,cur,h1,h2,h3,h4⟩
 .exact .inl h
 .exact .inr ⟨g,cap,cur,h1,h2,.plain h3,h4⟩
def AnsO(P:Program)(f:FuncId)(args:List RV)(e size n:Nat)(ys:List DV):Prop:=
 ∀(w:World)(S:Nat->Prop)(vs:Array Value),zJR w S->RepRs w S args vs.toList ->
  Calls P f vs w λed w'=>∃v us,ed=.returned v/\zUi w' w.heap.size e size v n us/\zZo w' (λg=>(S g\/w.heap.size<=g)/\v.ownBlock≠some g) ys us/\ys.length=n*size/\Below w.heap.size w w'
def AnsN(P:Program)(f:FuncId)(args:List RV)(res:RV):Prop:=
 ∀(w:World)(S:Nat->Prop)(vs:Array Value),zJR w S->RepRs w S args vs.toList ->
  Calls P f vs w λed w'=>∃v,ed=.returned v/\RepR w' (λg=>w.heap.size<=g) res v/\Below w.heap.size w w'
structure AS where
  tm:Nat->AV
  bx:Nat->Bx
abbrev zQm:=Nat->Option (Nat × Nat)
def zWT(ι:zQm)(bx:Nat->Bx)(w:World)(V:Nat->Prop):Cap->Value->Prop
 |.d x,v=>RepD w V x v
 |.ptr b off,v=>(bx b).known=true/\∃g c,ι b=some (g,c)/\v=.pointer (some ⟨g,off,none⟩)
def zX0(ι:zQm)(bx:Nat->Bx)(w:World)(V:Nat->Prop):List Cap->List Value->Prop
 |[],[]=>True
 |c::cs,v::vs=>zWT ι bx w V c v/\zX0 ι bx w V cs vs
 |_,_=>False
def zQs(w:World)(V:Nat->Prop)(ι:zQm)(bx:Nat->Bx):Cl->Value->Prop
 |.d x,v=>RepD w V x v
 |.lit u,v=>v=u/\u.oneCell'=true
 |.nil,v=>v=.slice none 0 0
 |.ptr b off,v=>(bx b).known=true/\∃g c,ι b=some (g,c)/\v=.pointer (some ⟨g,off,none⟩)
 |.vp cells off,v=>∃g o,v=.pointer (some ⟨g,o+off,none⟩)/\Lies w V cells g o
 |.ref b len,v=>(bx b).known=true/\((ι b=none/\len=0/\v=.slice none 0 0)\/∃g cap,ι b=some (g,cap)/\v=.slice (some ⟨g,0,none⟩) len cap/\len<=cap)
 |.sub b off len,v=>(bx b).known=true/\((len=0/\∃a c,v=.slice a 0 c)\/∃g cap c,ι b=some (g,cap)/\v=.slice (some ⟨g,off,none⟩) len c)
 |.clo f cs,v=>∃lb:Array Value,v=.func (.func f) #[] lb/\zX0 ι bx w V cs lb.toList
 |.dead,_=>True
def zQO(w:World)(V:Nat->Prop)(ι:zQm)(bx:Nat->Bx):List Cl->List Value->Prop
 |[],[]=>True
 |c::cs,v::vs=>zQs w V ι bx c v/\zQO w V ι bx cs vs
 |_,_=>False
mutual
def zQg(w:World)(V:Nat->Prop)(ι:zQm)(bx:Nat->Bx):AV->Value->Prop
 |.one c,v=>zQs w V ι bx c v
 |.agg cs,v=>∃cur:Array Value,v=.agg cur/\zQO w V ι bx cs cur.toList
 |.tup vs,v=>∃cur:Array Value,v=.tuple cur/\RepAVs w V ι bx vs cur.toList
def RepAVs(w:World)(V:Nat->Prop)(ι:zQm)(bx:Nat->Bx):List AV->List Value->Prop
 |[],[]=>True
 |c::cs,v::vs=>zQg w V ι bx c v/\RepAVs w V ι bx cs vs
 |_,_=>False
end
def nilC:Cl->Bool
 |.lit (.pointer none)=>true
 |_=>false
def zVR:List Cl->Bool
 |c::_=>nilC c
 |[]=>false
abbrev wc:=List Cl
def jWT(cs:wc)(T:Nat):Prop:=zVR cs=true->zUP=[]\/T∈zUP
def zUR(cs:wc)(T:Nat):Bool:=!zVR cs || zUP.isEmpty || zUP.contains T
abbrev wZf:=@Bool.not_true
abbrev wQ0:=@Bool.or_eq_true
abbrev wYh:=@Bool.false_or
variable{cs:List Cl}{T:Nat}
theorem zW8(h:zUR cs T=true):jWT cs T:=λhn=>by
 unfold zUR at h;rw[hn]at h;simp only[wZf,wYh,wQ0,List.isEmpty_iff,List.contains_iff_mem]at h;exact h
theorem zUQ{cs':List Cl}(h:jWT cs T)(hn:zVR cs'=true->zVR cs=true):jWT cs' T:=λe=>h (hn e)
def zX1(w:World)(V:Nat->Prop)(ι:zQm)(bx:Nat->Bx)(b:Nat):Bx->Prop
 |.fresh=>True
 |.gone=>True
 |.cells cs=>∃g c cur T,ι b=some (g,c)/\w.heap[g]?=some (.cells cur T (0,0))/\jWT cs T/\zQO w V ι bx cs cur.toList
 |.row e size cs=>(ι b=none/\cs=[])\/∃g cap cur,ι b=some (g,cap)/\zWc w g cur e/\cap<=maxLen/\cur.size=cap*size/\zZo w V cs (cur.toList.take cs.length)
 |.ice cs=>(ι b=none/\cs=[])\/∃g cap,ι b=some (g,cap)/\Lies w V cs g 0/\cap<=maxLen
structure zQ3 where
  see:Nat->Prop
  lent:Nat->Prop:=λ_=>False
  ref:World
  base:Nat->Value:=λ_=>undef
  nm:zQm:=λ_=>none
def Seen(S:zQ3)(B:Nat)(bx:Nat->Bx)(ι:zQm):Nat->Prop:=
 λg=>(S.see g\/B<=g\/S.lent g)/\∀b c,(bx b).live=true->ι b≠some (g,c)
structure Bel(L:Nat->Prop)(w w':World):Prop where
  os:w'.os=w.os
  tape:w'.tape=w.tape
  output:w'.output=w.output
  size:w.heap.size<=w'.heap.size
  block:∀g,g<w.heap.size->¬L g->w'.heap[g]?=w.heap[g]?
theorem Bel.refl(L:Nat->Prop)(w:World):Bel L w w:=⟨rfl,rfl,rfl,Nat.le_refl _,λ_ _ _=>rfl⟩
abbrev wZx:=@Nat.lt_of_lt_of_le
abbrev wQJ:=@Nat.le_trans
theorem Bel.trans{L:Nat->Prop}{w w' w'':World}(h:Bel L w w')(h':Bel L w' w''):Bel L w w'':=
 ⟨h'.os.trans h.os,h'.tape.trans h.tape,h'.output.trans h.output,wQJ h.size h'.size,λg hg hl=>(h'.block g (wZx hg h.size) hl).trans (h.block g hg hl)⟩
variable{L:Nat->Prop}
theorem Bel.step{w'':World}(h:Bel L w w')(h':Below w.heap.size w' w''):Bel L w w'':=
 ⟨h'.os.trans h.os,h'.tape.trans h.tape,h'.output.trans h.output,wQJ h.size h'.size,λg hg hl=>(h'.block g hg).trans (h.block g hg hl)⟩
theorem Bel.below(h:Bel L w w')(hl:∀g,¬L g):Below w.heap.size w w':=⟨h.os,h.tape,h.output,h.size,λg hg=>h.block g hg (hl g)⟩
structure Dom where
  n:Nat
  keep:Nat->Bool:=λ_=>false
  pin:List Nat:=[]
  round:Bool:=false
instance(n:Nat):OfNat Dom n:=⟨⟨n,λ_=>false,[],false⟩⟩
instance:Coe Nat Dom:=⟨λn=>⟨n,λ_=>false,[],false⟩⟩
def jZY(w0:World)(ds:List Deferred)(w:World):Prop:=
 ds.Pairwise (·≠·)/\∀d∈ds,∃D,d={ target:=.collected D,args:=#[] }/\w0.heap.size<=D/\w.heap[D]?=some (.deferred (some []))
variable{w0:World}
theorem jZY.keep{ds:List Deferred}(h:jZY w0 ds w)(hk:KeepsOthers w w'):jZY w0 ds w':=
 ⟨h.1,λd hd=>by obtain⟨D,e,h1,h2⟩:=h.2 d hd;exact⟨D,e,h1,hk.same D _ h2 rfl⟩⟩
theorem zYR(hs:w.heap.size<=w'.heap.size)(h:∀(k:Nat) (o:Obj),w.heap[k]?=some o->o.isCells=false->w'.heap[k]?=w.heap[k]?):KeepsOthers w w':=
 ⟨hs,λk o hk ho=>by rw[h k o hk ho];exact hk⟩
abbrev wZg:=@Array.getElem?_eq_some_iff
theorem jQN(h:Below w.heap.size w w'):KeepsOthers w w':=
 zYR h.size λk o hk _=>h.block k (wZg.1 hk).1
structure RepS(w0:World)(S:zQ3)(n:Dom)(s:AS)(ι:zQm)(a:Act)(w:World):Prop where
  bel:Bel S.lent w0 w
  marks:jZY w0 a.defers w
  oth:KeepsOthers S.ref w
  size:a.tmps.size=n.n
  fix:∀t,n.keep t=true->a.tmps.getD t undef=S.base t
  pin:∀b∈n.pin,ι b=S.nm b/\(s.bx b).known=true
  tm:∀t,zQg w (Seen S w0.heap.size s.bx ι) ι s.bx (s.tm t) (a.tmps.getD t undef)
  bx:∀b,zX1 w (Seen S w0.heap.size s.bx ι) ι s.bx b (s.bx b)
  own:∀b g c,(s.bx b).live=true->ι b=some (g,c)->(w0.heap.size<=g\/S.lent g)/\g<w.heap.size
  dist:∀b b' g c c',(s.bx b).live=true->(s.bx b').live=true->b≠b'->ι b=some (g,c)->ι b'≠some (g,c')
  glob:zJR w (Seen S w0.heap.size s.bx ι)
section
variable{w w':World}{V V':Nat->Prop}{ι ι':zQm}{bx bx':Nat->Bx}
def zWD(ι:zQm)(bx:Nat->Bx)(ι':zQm)(bx':Nat->Bx):Prop:=∀b,(bx b).known=true->(bx' b).known=true/\ι' b=ι b
theorem zWT.keep(hn:zWD ι bx ι' bx')(hk:zZJ w V w' V'):∀{c:Cap}{v:Value},zWT ι bx w V c v->zWT ι' bx' w' V' c v
 |.d _,_,h=>RepD.keep hk h
 |.ptr b off,v,⟨h1,g,c,h2,h3⟩=>⟨(hn b h1).1,g,c,by rw[(hn b h1).2];exact h2,h3⟩
theorem zX0.keep(hn:zWD ι bx ι' bx')(hk:zZJ w V w' V'):∀{cs:List Cap}{vs:List Value},zX0 ι bx w V cs vs->zX0 ι' bx' w' V' cs vs
 |[],[],_=>trivial
 |_::_,_::_,h=>⟨zWT.keep hn hk h.1,zX0.keep hn hk h.2⟩
 |[],_::_,h=>h.elim
 |_::_,[],h=>h.elim
theorem zQs.keep(hn:zWD ι bx ι' bx')(hk:zZJ w V w' V'):∀{c:Cl}{v:Value},zQs w V ι bx c v->zQs w' V' ι' bx' c v
 |.d _,_,h=>RepD.keep hk h
 |.lit _,_,h=>h
 |.nil,_,h=>h
 |.ptr b off,v,⟨h1,g,c,h2,h3⟩=>⟨(hn b h1).1,g,c,by rw[(hn b h1).2];exact h2,h3⟩
 |.vp cells _,v,⟨g,off,h1,h2⟩=>⟨g,off,h1,h2.keep hk⟩
 |.ref b len,v,⟨h1,h2⟩=>⟨(hn b h1).1,by rw[(hn b h1).2];exact h2⟩
 |.sub b off len,v,⟨h1,h2⟩=>⟨(hn b h1).1,by rw[(hn b h1).2];exact h2⟩
 |.clo f cs,v,⟨lb,h1,h2⟩=>⟨lb,h1,h2.keep hn hk⟩
 |.dead,_,_=>trivial
theorem zQO.keep(hn:zWD ι bx ι' bx')(hk:zZJ w V w' V'):∀{cs:List Cl}{vs:List Value},zQO w V ι bx cs vs->zQO w' V' ι' bx' cs vs
 |[],[],_=>trivial
 |_::_,_::_,h=>⟨zQs.keep hn hk h.1,zQO.keep hn hk h.2⟩
 |[],_::_,h=>h.elim
 |_::_,[],h=>h.elim
mutual
theorem zQg.keep(hn:zWD ι bx ι' bx')(hk:zZJ w V w' V'):∀{x:AV}{v:Value},zQg w V ι bx x v->zQg w' V' ι' bx' x v
 |.one _,_,h=>by simp only[zQg]at h |-;exact h.keep hn hk
 |.agg _,_,h=>by
  simp only[zQg]at h |-;obtain⟨cur,e,hc⟩:=h;exact⟨cur,e,hc.keep hn hk⟩
 |.tup _,_,h=>by
  simp only[zQg]at h |-;obtain⟨cur,e,hc⟩:=h;exact⟨cur,e,RepAVs.keep hn hk hc⟩
theorem RepAVs.keep(hn:zWD ι bx ι' bx')(hk:zZJ w V w' V'):∀{xs:List AV}{vs:List Value},RepAVs w V ι bx xs vs->RepAVs w' V' ι' bx' xs vs
 |[],[],_=>by simp only[RepAVs]
 |_::_,_::_,h=>by simp only[RepAVs]at h |-;exact⟨zQg.keep hn hk h.1,RepAVs.keep hn hk h.2⟩
 |[],_::_,h=>by simp only[RepAVs]at h
 |_::_,[],h=>by simp only[RepAVs]at h
end
theorem zX1.keep{b:Nat}(hn:zWD ι bx ι' bx')(hk:zZJ w V w' V'):∀{B:Bx},B.known=true->(bx b).known=true->(B.live=true->∀g c,ι b=some (g,c)->w'.heap[g]?=w.heap[g]?)->zX1 w V ι bx b B->zX1 w' V' ι' bx' b B
 |.fresh,_,_,_,_=>trivial
 |.gone,_,_,_,_=>trivial
 |.cells cs,_,hb,hl,⟨g,c,cur,T,h1,h2,h0,h3⟩=>⟨g,c,cur,T,by rw[(hn b hb).2];exact h1,(hl rfl g c h1).trans h2,h0,h3.keep hn hk⟩
 |.row e size cs,_,hb,hl,h=>by
  rcases h with⟨h1,h2⟩|⟨g,cap,cur,h1,h2,h3,h4,h5⟩
  .exact .inl ⟨by rw[(hn b hb).2];exact h1,h2⟩
  .exact .inr ⟨g,cap,cur,by rw[(hn b hb).2];exact h1,h2.keep (hl rfl g cap h1),h3,h4,h5.keep hk⟩
 |.ice cs,_,hb,_,h=>by
  rcases h with⟨h1,h2⟩|⟨g,cap,h1,h2,h3⟩
  .exact .inl ⟨by rw[(hn b hb).2];exact h1,h2⟩
  .exact .inr ⟨g,cap,by rw[(hn b hb).2];exact h1,h2.keep hk,h3⟩
end
def AS.put(s:AS)(d:Option Nat)(v:AV):AS:=
 match d with
 |some d=>{ s with tm:=λt=>if t=d then v else s.tm t }
 |none=>s
def AS.setB(s:AS)(b:Nat)(B:Bx):AS:={ s with bx:=λb'=>if b'=b then B else s.bx b' }
variable{ι':zQm}{bx':Nat->Bx}{b0:Nat}{B:Bx}{p:Option (Nat × Nat)}
section
variable{w0:World}{S:zQ3}{n:Dom}{s:AS}{ι:zQm}{a:Act}{w:World}
abbrev wXu:=@Array.getElem?_setIfInBounds_ne
abbrev wZR:=@Array.getD_eq_getD_getElem?
theorem RepS.put(h:RepS w0 S n s ι a w){d:Option Nat}(hd:∀k,d=some k->k<n.n/\n.keep k=false){x:AV}{v:Value}(hv:zQg w (Seen S w0.heap.size s.bx ι) ι s.bx x v) :
  RepS w0 S n (s.put d x) ι (a.put d v) w:=by
 cases d with
 |none=>exact h
 |some d=>
  have hlt:=(hd d rfl).1;refine⟨h.bel,h.marks,h.oth,by simp[Act.put,h.size],λt ht=>?_,h.pin,λt=>?_,h.bx,h.own,h.dist,h.glob⟩
  .have:t≠d:=λe=>by subst e;rw[(hd t rfl).2]at ht;cases ht
   have e:(a.tmps.setIfInBounds d v).getD t undef=a.tmps.getD t undef:=by
    simp only[wZR,wXu (Ne.symm this)]
   exact e.trans (h.fix t ht)
  show zQg _ _ _ _ (if t=d then x else s.tm t) ((a.tmps.setIfInBounds d v).getD t undef)
  by_cases e:t=d
  .subst e;rw[if_pos rfl];have:(a.tmps.setIfInBounds t v).getD t undef=v:=by
    simp[Array.getD,h.size,hlt]
   rw[this];exact hv
  .rw[if_neg e];have:(a.tmps.setIfInBounds d v).getD t undef=a.tmps.getD t undef:=by
    simp only[wZR,wXu (Ne.symm e)]
   rw[this];exact h.tm t
theorem RepS.move(h:RepS w0 S n s ι a w)(bel:Bel S.lent w0 w')(ho:KeepsOthers w w')(hn:zWD ι s.bx ι' bx')(hk:zZJ w (Seen S w0.heap.size s.bx ι) w' (Seen S w0.heap.size bx' ι'))(hb:∀b,(bx' b=s.bx b/\((s.bx b).live=true->∀g c,ι b=some (g,c)->w'.heap[g]?=w.heap[g]?))\/zX1 w' (Seen S w0.heap.size bx' ι') ι' bx' b (bx' b))(own:∀b g c,(bx' b).live=true->ι' b=some (g,c)->(w0.heap.size<=g\/S.lent g)/\g<w'.heap.size)(dist:∀b b' g c c',(bx' b).live=true->(bx' b').live=true->b≠b'->ι' b=some (g,c)->ι' b'≠some (g,c')) :
  RepS w0 S n ⟨s.tm,bx'⟩ ι' a w':=by
 refine⟨bel,h.marks.keep ho,h.oth.trans ho,h.size,h.fix,λb hb=>⟨(hn b (h.pin b hb).2).2.trans (h.pin b hb).1,(hn b (h.pin b hb).2).1⟩,λt=>(h.tm t).keep hn hk,λb=>?_,own,dist,h.glob.keep hk⟩
 rcases hb b with⟨e,hl⟩|hb
 .show zX1 _ _ _ _ _ (bx' b)
  rw[e]
  cases hkn:(s.bx b).known with
  |true=>exact zX1.keep hn hk hkn hkn hl (h.bx b)
  |false=>
   cases hB:s.bx b<;>rw[hB]at hkn<;>first|trivial|(simp[Bx.known]at hkn)
 .exact hb
abbrev wQa:=@Option.some.injEq
abbrev wQc:=@Prod.mk.injEq
theorem RepS.live_cells(h:RepS w0 S n s ι a w){b c:Nat}(hl:(s.bx b).live=true)(hι:ι b=some (g,c)):∃cur T i,w.heap[g]?=some (.cells cur T i):=by
 have hb:=h.bx b
 cases hB:s.bx b with
 |fresh=>rw[hB]at hl;cases hl
 |gone=>rw[hB]at hl;cases hl
 |ice xs=>rw[hB]at hl;cases hl
 |cells cs=>
  rw[hB]at hb;obtain⟨g',c',cur,T,h1,h2,_⟩:=hb;rw[hι]at h1;simp only[wQa,wQc]at h1;obtain⟨rfl,rfl⟩:=h1;exact⟨cur,T,_,h2⟩
 |row e size xs=>
  rw[hB]at hb
  rcases hb with⟨h1,_⟩|⟨g',cap,cur,h1,h2,_⟩
  .rw[hι]at h1;cases h1
  .rw[hι]at h1;simp only[wQa,wQc]at h1;obtain⟨rfl,rfl⟩:=h1;exact⟨cur,e,_,h2.choose_spec.1⟩
theorem RepS.quiet(h:RepS w0 S n s ι a w)(bel:Bel S.lent w0 w')(hh:w'.heap=w.heap):RepS w0 S n s ι a w':=by
 refine h.move bel (zYR (by rw[hh];exact Nat.le_refl _) λk o _ _=>by rw[hh]) (λb hb=>⟨hb,rfl⟩) ?_ (λb=>.inl ⟨rfl,λ_ g c _=>by rw[hh]⟩) (λb g c hl e=>by rw[hh];exact h.own b g c hl e) h.dist;intro g off u hV hu;exact⟨hV,by rw[<-hu];simp[World.cell?,hh]⟩
abbrev wZI:=@World.block_lt_of_cell?
theorem RepS.later(h:RepS w0 S n s ι a w)(hb:Below w.heap.size w w'):RepS w0 S n s ι a w':=by
 have hle:w0.heap.size<=w.heap.size:=h.bel.size;refine h.move (h.bel.step (hb.mono hle)) (jQN hb) (λb hb=>⟨hb,rfl⟩) ?_ (λb=>.inl ⟨rfl,λhl g c e=>hb.block g (h.own b g c hl e).2⟩) (λb g c hl e=>⟨(h.own b g c hl e).1,wZx (h.own b g c hl e).2 hb.size⟩) h.dist;intro g off u hV hu;refine⟨hV,?_⟩;rw[<-hu];exact hb.cell (p:=⟨g,off,none⟩) (wZI w _ hu)
theorem RepS.new_(h:RepS w0 S n s ι a w)(hf:s.bx b0=.fresh)(hb:Below w.heap.size w w')(hkn:B.known=true)(hp:∀g c,p=some (g,c)->w.heap.size<=g/\g<w'.heap.size)(hB:zX1 w' (Seen S w0.heap.size (s.setB b0 B).bx (λb=>if b=b0 then p else ι b)) (λb=>if b=b0 then p else ι b) (s.setB b0 B).bx b0 B) :
  RepS w0 S n (s.setB b0 B) (λb=>if b=b0 then p else ι b) a w':=by
 have hle:w0.heap.size<=w.heap.size:=h.bel.size;have hne:∀b,(s.bx b).known=true->b≠b0:=λb hk e=>by subst e;rw[hf]at hk;simp[Bx.known]at hk
 have hlk:∀b,(s.bx b).live=true->b≠b0:=λb hk e=>by subst e;rw[hf]at hk;simp[Bx.live]at hk
 refine h.move (bx':=(s.setB b0 B).bx) (h.bel.step (hb.mono hle)) (jQN hb) (λb hk=>?_) ?_ (λb=>?_) (λb g c hl e=>?_) (λb b' g c c' hl hl' hbb e=>?_)
 .have:=hne b hk;simp only[AS.setB,if_neg this];exact⟨hk,trivial⟩
 .intro g off u hV hu;have hlt:g<w.heap.size:=wZI w _ hu;refine⟨⟨hV.1,λb c hl e=>?_⟩,by rw[<-hu];exact hb.cell (p:=⟨g,off,none⟩) hlt⟩;by_cases eb:b=b0
  .simp only[if_pos eb]at e;have:=(hp g c e).1;omega
  .simp only[if_neg eb]at e;simp only[AS.setB,if_neg eb]at hl;exact hV.2 b c hl e
 .by_cases eb:b=b0
  .subst eb;right;simpa [AS.setB]using hB
  .left;simp only[AS.setB,if_neg eb];exact⟨trivial,λhl g c e=>hb.block g (h.own b g c hl e).2⟩
 .by_cases eb:b=b0
  .simp only[if_pos eb]at e;have:=hp g c e;exact⟨.inl (by omega),this.2⟩
  .simp only[if_neg eb]at e;simp only[AS.setB,if_neg eb]at hl;have:=h.own b g c hl e;exact⟨this.1,wZx this.2 hb.size⟩
 .by_cases eb:b=b0
  .simp only[if_pos eb]at e;have h1:=hp g c e;have eb':b'≠b0:=λe'=>hbb (eb.trans e'.symm);simp only[if_neg eb'];simp only[AS.setB,if_neg eb']at hl';intro e';have:=h.own b' g c' hl' e';omega
  .simp only[if_neg eb]at e;simp only[AS.setB,if_neg eb]at hl;by_cases eb':b'=b0
   .simp only[if_pos eb'];intro e';have h1:=hp g c' e';have:=h.own b g c hl e;omega
   .simp only[if_neg eb'];simp only[AS.setB,if_neg eb']at hl';exact h.dist b b' g c c' hl hl' hbb e
theorem RepS.write(h:RepS w0 S n s ι a w){g0 c0:Nat}(hl0:(s.bx b0).live=true)(hι:ι b0=some (g0,c0))(hsz:w'.heap.size=w.heap.size)(hother:∀g,g≠g0->w'.heap[g]?=w.heap[g]?)(hos:w'.os=w.os/\w'.tape=w.tape/\w'.output=w.output){B:Bx}(hlB:B.live=true)(hB:zX1 w' (Seen S w0.heap.size (s.setB b0 B).bx ι) ι (s.setB b0 B).bx b0 B):RepS w0 S n (s.setB b0 B) ι a w':=by
 have hkl:∀X:Bx,X.live=true->X.known=true:=λX h=>by cases X<;>simp_all [Bx.live,Bx.known]
 have hlive:∀b,((s.setB b0 B).bx b).live=true↔(s.bx b).live=true:=λb=>by
  by_cases eb:b=b0
  .subst eb;simp[AS.setB,hlB,hl0]
  .simp[AS.setB,eb]
 have hg0:=h.own b0 g0 c0 hl0 hι;refine h.move (bx':=(s.setB b0 B).bx) ?_ (zYR (by omega) λk o hk ho=>hother k λe=>?_) (λb hk=>⟨?_,rfl⟩) ?_ (λb=>?_) (λb g c hl e=>?_) (λb b' g c c' hl hl' hbb e=>?_)
 .refine⟨hos.1.trans h.bel.os,hos.2.1.trans h.bel.tape,hos.2.2.trans h.bel.output,by have:=h.bel.size;omega,λk hk hl=>?_⟩;have hne:k≠g0:=λe=>by
   rcases hg0.1 with q|q
   .omega
   .exact hl (by rw[e];exact q)
  exact(hother k hne).trans (h.bel.block k hk hl)
 .obtain⟨cur,T,i,hc⟩:=h.live_cells hl0 hι;subst e;rw[hc]at hk;injection hk with hk
  subst hk;cases ho
 .by_cases eb:b=b0
  .subst eb;simpa [AS.setB]using hkl B hlB
  .simpa [AS.setB,eb]using hk
 .intro g off u hV hu;refine⟨⟨hV.1,λb c hl e=>hV.2 b c ((hlive b).1 hl) e⟩,?_⟩;have:g≠g0:=λe=>hV.2 b0 c0 hl0 (by rw[e];exact hι);rw[<-hu];simp[World.cell?,hother g this]
 .by_cases eb:b=b0
  .subst eb;right;simpa [AS.setB]using hB
  .left;simp only[AS.setB,if_neg eb];exact⟨trivial,λhl g c e=>hother g (λe'=>h.dist b b0 g c c0 hl hl0 eb e (by rw[e'];exact hι))⟩
 .have:=h.own b g c ((hlive b).1 hl) e;exact⟨this.1,by omega⟩
 .exact h.dist b b' g c c' ((hlive b).1 hl) ((hlive b').1 hl') hbb e
end
structure Ret where
  res:AV
  outs:List Bx
  fresh:Bool
structure Gam where
  pure:FuncId->List RV->Option RV
  modes:FuncId->Option (List Bool × Nat × Nat):=λ_=>none
  proc:FuncId->List AV->List Bx->Option Ret:=λ_ _ _=>none
  iter:FuncId->List (Bool × List DV)->Option (Nat × (Nat->List DV)):=λ_ _=>none
  keep:Nat->Bool:=λ_=>false
inductive GL where
 |p (f:FuncId) (h:List RV->Option RV)
 |q (f:FuncId) (m:List Bool × Nat × Nat) (h:List AV->List Bx->Option Ret)
 |r (f:FuncId) (h:List (Bool × List DV)->Option (Nat × (Nat->List DV)))
def GL.f:GL->FuncId
 |.p f _=>f
 |.q f _ _=>f
 |.r f _=>f
def glook(f:FuncId):List GL->Option GL
 |[]=>none
 |g::l=>if g.f=f then some g else glook f l
def Gam.add(g:Gam)(l:List GL):Gam where
 pure f xs:=match glook f l with
  |some (.p _ h)=>h xs
  |some _=>none
  |none=>g.pure f xs
 modes f:=match glook f l with
  |some (.q _ m _)=>some m
  |some _=>none
  |none=>g.modes f
 proc f xs bs:=match glook f l with
  |some (.q _ _ h)=>h xs bs
  |some _=>none
  |none=>g.proc f xs bs
 iter f cs:=match glook f l with
  |some (.r _ h)=>h cs
  |some _=>none
  |none=>g.iter f cs
def gam0:Gam:={pure:=λ_ _=>none}
instance:CoeFun Gam (λ_=>FuncId->List RV->Option RV):=⟨Gam.pure⟩
def Cl.ofV:Value->Cl
 |.int k n=>if(Lit.int k n).wf then .d (.int k n) else .dead
 |.bool b=>.d (.bool b)
 |.string s=>if s.size<=maxLen then .d (.str s) else .dead
 |.slice none len cap=>if len=0/\cap=0 then .nil else .dead
 |.pointer none=>.lit (.pointer none)
 |.nilFunc=>.lit .nilFunc
 |.nilIface=>.lit .nilIface
 |_=>.dead
def AV.ofV:Value->AV
 |.agg cs=>.agg (cs.toList.map Cl.ofV)
 |.tuple ⟨[]⟩=>.tup []
 |v=>.one (Cl.ofV v)
def AS.eval(s:AS):Operand->AV
 |.tmp t=>s.tm t
 |.const v=>AV.ofV v
 |.func f=>.one (.d (.fn f))
 |.global g=>match jKt zW9 g with
  |some cs=>.one (.vp cs 0)
  |none=>.one .dead
def Cl.ok:Cl->Bool
 |.dead=>false
 |_=>true
def AV.cls:AV->Option (List Cl)
 |.one c=>if c.ok then some [c] else none
 |.agg cs=>some cs
 |.tup _=>none
def AV.bool?:AV->Option Bool
 |.one (.d (.bool b))=>some b
 |.one (.lit (.bool b))=>some b
 |_=>none
def Cl.dv:Cl->Option DV
 |.d v=>some v
 |.lit (.bool b)=>some (.bool b)
 |.nil=>some (.sl 0 [])
 |_=>none
def AV.dv:AV->Option DV
 |.one c=>c.dv
 |_=>none
def dvs:List Cl->Option (List DV)
 |[]=>some []
 |c::cs=>match c.dv,dvs cs with
  |some v,some vs=>some (v::vs)
  |_,_=>none
def nAt(xs:List DV)(i:Nat):Int:=match xs[i]? with|some (.int _ n)=>n|_=>0
def bAt(xs:List DV)(i:Nat):Bool:=match xs[i]? with|some (.bool b)=>b|_=>false
def sAt(xs:List DV)(i:Nat):ByteArray:=match xs[i]? with|some (.str s)=>s|_=>ByteArray.empty
def lAt(xs:List DV)(i:Nat):Nat:=match xs[i]? with|some (.sl n _)=>n|_=>0
def cAt(xs:List DV)(i:Nat):List DV:=match xs[i]? with|some (.sl _ cs)=>cs|_=>[]
def yZy(z:Value)(xs:List DV)(i:Nat):DV:=
 match z with
 |.int k _=>.int k (nAt xs i)
 |.bool _=>.bool (bAt xs i)
 |.string _=>.str (sAt xs i)
 |_=>.sl (lAt xs i) (cAt xs i)
def zYw:List Value->List DV->Nat->List DV
 |[],_,_=>[]
 |z::zs,xs,i=>yZy z xs i::zYw zs xs (i+1)
def zK2:List Value->List DV->Nat->Prop
 |[],_,_=>True
 |z::zs,xs,i=>xs[i]?=some (yZy z xs i)/\zK2 zs xs (i+1)
structure Eff where
  rds:List Nat
  wrs:List Nat
  f:List Bx->Option (Prop × AV × List Bx)
def Eff.val(vc:Prop)(v:AV):Eff:=⟨[],[],λ_=>some (vc,v,[])⟩
def Eff.new(vc:Prop)(d:Nat)(B:Bx)(v:AV):Eff:=⟨[d],[d],λbs=>match bs with
 |[.fresh]=>some (vc,v,[B])
 |_=>none⟩
def zJ2(P:Program)(t:TypeId):Option (Bool × Nat):=
 match P.info? t,P.underlying t with
 |some i,some (.struct _)=>some (true,i.size)
 |some i,some (.array _ _)=>some (true,i.size)
 |some _,some _=>some (false,1)
 |_,_=>none
def jUL(P:Program)(t:TypeId):Option (Bool × List Value):=
 match zJ2 P t,(P.info? t).bind (·.zero) with
 |some (g,k),some z=>if z.cells.size=k then some (g,z.cells.toList) else none
 |_,_=>none
def zVw(agg:Bool)(xs:wc):Option AV:=if agg then some (.agg xs) else match xs with|[c]=>some (.one c)|_=>none
def sets{α:Type}:List α->Nat->List α->List α
 |xs,_,[]=>xs
 |xs,i,y::ys=>sets (xs.set i y) (i+1) ys
def zWC(place:Nat->Option (Nat × Nat)):List Cl->List (Nat × AV)->Option (List Cl)
 |cs,[]=>some cs
 |cs,(i,x)::rest=>match place i,x.cls with
  |some (off,size),some xs=>if xs.length≠size\/off+xs.length>cs.length then none else zWC place (sets cs off xs) rest
  |_,_=>none
section
variable(P:Program)(ρ:Operand->AV)
def jJ3(c x y:Operand):Option Eff:=
 match (ρ c).bool? with
 |some b=>some (.val True (bif b then ρ x else ρ y))
 |none=>none
def jVK(dst:Option Nat)(t:TypeId):Option Eff:=
 match dst,(P.info? t).bind (·.zero) with
 |some d,some z=>if zUR (z.cells.toList.map Cl.ofV) t=false then none else some (.new True d (.cells (z.cells.toList.map Cl.ofV)) (.one (.ptr d 0)))
 |_,_=>none
def yQF(dst:Option Nat)(t:TypeId)(x:Operand):Option Eff:=
 match dst,(ρ x).cls with
 |some d,some cs=>if zUR cs t=false then none else some (.new True d (.cells cs) (.one (.ptr d 0)))
 |_,_=>none
def jWy(fs:Array Field):Option (Array (Nat × Nat)):=
 if fs.all λf=>(P.info? f.type).isSome then some (fs.map λf=>(f.offset,P.cellsOf f.type)) else none
def jYp(t:TypeId)(parts:Array (Nat × Operand)):Option Eff:=
 match (P.info? t).bind (·.zero),P.underlying t with
 |some z,some (.struct fs)=>
  match jWy P fs with
  |some pl=>(zWC (pl[·]?) (z.cells.toList.map Cl.ofV) (parts.toList.map λp=>(p.1,ρ p.2))).map λcs=>.val True (.agg cs)
  |none=>none
 |some z,some (.array _ e)=>
  match P.info? e with
  |some i=>(zWC (λk=>some (k*i.size,i.size)) (z.cells.toList.map Cl.ofV) (parts.toList.map λp=>(p.1,ρ p.2))).map λcs=>.val True (.agg cs)
  |none=>none
 |_,_=>none
def zJD(z:Array Value)(n:Nat):wc:=(List.range n).map λk=>Cl.ofV (z.getD (k%z.size) default)
def zJ0(dst:Option Nat)(t:TypeId)(len:Nat)(parts:Array (Nat × Operand)):Option Eff:=
 match dst,P.underlying t with
 |some d,some (.slice e)=>
  match P.info? e with
  |some i=>
   match i.zero with
   |some z=>
    if len*i.size<=16777216/\0<i.size/\z.cells.size=i.size then
     match zWC (λk=>some (k*i.size,i.size)) (zJD z.cells (len*i.size)) (parts.toList.map λp=>(p.1,ρ p.2)) with
     |some cs=>match dvs cs with
      |some vs=>some (.new True d (.row e i.size vs) (.one (.ref d len)))
      |none=>if zUR cs e=true then some (.new True d (.cells cs) (.one (.ref d len))) else none
     |none=>none
    else none
   |none=>none
  |none=>none
 |_,_=>none
def jWE(t:TypeId)(x:Operand):Option Eff:=
 match ρ x with
 |.one (.ptr b off)=>some ⟨[b],[],λbs=>match bs with
  |[.cells cs]=>match zJ2 P t with
   |some (g,k)=>if off+k<=cs.length then(zVw g ((cs.drop off).take k)).map λv=>(True,v,[]) else none
   |none=>none
  |[.row _ _ xs]=>match jUL P t with
   |some (g,zs)=>(zVw g ((zYw zs xs off).map .d)).map λv=>(zK2 zs xs off,v,[])
   |none=>none
  |[.ice xs]=>match jUL P t with
   |some (g,zs)=>(zVw g ((zYw zs xs off).map .d)).map λv=>(zK2 zs xs off,v,[])
   |none=>none
  |_=>none⟩
 |.one (.vp xs off)=>match jUL P t with
  |some (g,zs)=>(zVw g ((zYw zs xs off).map .d)).map λv=>.val (zK2 zs xs off) v
  |none=>none
 |_=>none
def jYi(t:TypeId)(x y:Operand):Option Eff:=
 match P.info? t,ρ x,(ρ y).cls with
 |some i,.one (.ptr b off),some xs=>
  if xs.length=i.size/\xs.all Cl.ok then
   some ⟨[b],[b],λbs=>match bs with
    |[.cells cs]=>if off+xs.length<=cs.length/\(zVR (sets cs off xs)=false\/zVR cs=true) then some (True,.tup [],[.cells (sets cs off xs)]) else none
    |[.row e size ds]=>match dvs xs with
     |some ys=>some (off+ys.length<=ds.length,.tup [],[.row e size (sets ds off ys)])
     |none=>none
    |_=>none⟩
  else none
 |_,_,_=>none
def jH1(op:BinOp)(k:IntKind)(a b:Int):Option (Prop × DV):=
 match op with
 |.add=>some (True,.int k (k.wrap (a+b)))
 |.sub=>some (True,.int k (k.wrap (a-b)))
 |.mul=>some (True,.int k (k.wrap (a*b)))
 |.quo=>some (b≠0,.int k (k.wrap (a.tdiv b)))
 |.rem=>some (b≠0,.int k (a.tmod b))
 |.and=>some (True,.int k (k.wrap (BitVec.ofInt k.bits a &&& BitVec.ofInt k.bits b).toNat))
 |.or=>some (True,.int k (k.wrap (BitVec.ofInt k.bits a ||| BitVec.ofInt k.bits b).toNat))
 |.xor=>some (True,.int k (k.wrap (BitVec.ofInt k.bits a ^^^ BitVec.ofInt k.bits b).toNat))
 |.andNot=>some (True,.int k (k.wrap (BitVec.ofInt k.bits a &&& ~~~BitVec.ofInt k.bits b).toNat))
 |.eql=>some (True,.bool (a==b))
 |.neq=>some (True,.bool (a !=b))
 |.lss=>some (True,.bool (decide (a<b)))
 |.leq=>some (True,.bool (decide (a<=b)))
 |.gtr=>some (True,.bool (decide (a>b)))
 |.geq=>some (True,.bool (decide (a>=b)))
 |_=>none
def jXX(op:BinOp)(k:IntKind)(a b:Int):Option (Prop × DV):=
 match op with
 |.shl=>some (0<=b,.int k (k.wrap (a*2 ^ min b.toNat k.bits)))
 |.shr=>some (0<=b,.int k (a.fdiv (2 ^ min b.toNat k.bits)))
 |_=>none
def jH0(op:BinOp)(a b:ByteArray):Option (Prop × DV):=
 match op with
 |.add=>some (a.size+b.size<=maxLen,.str (a++b))
 |.eql=>some (True,.bool (a.toList==b.toList))
 |.neq=>some (True,.bool (!(a.toList==b.toList)))
 |.lss=>some (True,.bool (Op.bytesLess a.toList b.toList))
 |.leq=>some (True,.bool (Op.bytesLess a.toList b.toList || a.toList==b.toList))
 |.gtr=>some (True,.bool (!(Op.bytesLess a.toList b.toList || a.toList==b.toList)))
 |.geq=>some (True,.bool (!Op.bytesLess a.toList b.toList))
 |_=>none
def jQv:List Cl->Option (List Value)
 |[]=>some []
 |c::cs=>match c.dv.bind DV.plain,jQv cs with
  |some v,some vs=>some (v::vs)
  |_,_=>none
def jZJ(P:Program)(t:TypeId)(cs:List Value)(off:Nat):Option Value:=
 match zJ2 P t with
 |some (true,k)=>some (.agg ((cs.drop off).take k).toArray)
 |some (false,_)=>cs[off]?
 |none=>none
def eqFs(P:Program)(again:TypeId->Value->Value->Option Bool)(xs ys:List Value):List Field->Option Bool
 |[]=>some true
 |f::fs=>if f.name = "_" then eqFs P again xs ys fs else match jZJ P f.type xs f.offset,jZJ P f.type ys f.offset with
  |some a,some b=>match again f.type a b,eqFs P again xs ys fs with
   |some r,some q=>some (r&&q)
   |_,_=>none
  |_,_=>none
def eqIs(P:Program)(again:TypeId->Value->Value->Option Bool)(e:TypeId)(xs ys:List Value):List Nat->Option Bool
 |[]=>some true
 |i::is=>match jZJ P e xs (i*P.cellsOf e),jZJ P e ys (i*P.cellsOf e) with
  |some a,some b=>match again e a b,eqIs P again e xs ys is with
   |some r,some q=>some (r&&q)
   |_,_=>none
  |_,_=>none
def eqP(P:Program):Nat->TypeId->Value->Value->Option Bool
 |0,_,_,_=>none
 |d+1,t,x,y=>match P.underlying t,x,y with
  |some .bool,.bool a,.bool b=>some (a==b)
  |some (.int _),.int k a,.int k' b=>if k=k' then some (a==b) else none
  |some .string,.string a,.string b=>some (a.toList==b.toList)
  |some (.struct fs),.agg xs,.agg ys=>if P.stoodInHeld t then none else eqFs P (eqP P d) xs.toList ys.toList fs.toList
  |some (.array n e),.agg xs,.agg ys=>match P.info? e with
   |some _=>eqIs P (eqP P d) e xs.toList ys.toList (List.range n)
   |none=>none
  |_,_,_=>none
def yQ4(P:Program)(t:TypeId)(us vs:List Value):Option Bool:=
 if P.eqGuardType P.depth t then none else eqP P 20 t (.agg us.toArray) (.agg vs.toArray)
def jVU:BinOp->Bool
 |.shl|.shr=>true
 |_=>false
def yQG(op:BinOp)(t:TypeId)(x y:Operand):Option Eff:=
 match ρ x,ρ y with
 |.agg xs,.agg ys=>
  match jQv xs,jQv ys with
  |some us,some vs=>match yQ4 P t us vs,op with
   |some r,.eql=>some (.val True (.one (.d (.bool r))))
   |some r,.neq=>some (.val True (.one (.d (.bool (!r)))))
   |_,_=>none
  |_,_=>none
 |.one (.ptr _ _),.one (.lit (.pointer none))=>match P.underlying t,op with
  |some (.pointer _),.eql=>some (.val True (.one (.d (.bool false))))
  |some (.pointer _),.neq=>some (.val True (.one (.d (.bool true))))
  |_,_=>none
 |u,v=>match u.dv,v.dv with
  |some (.int k a),some (.int k' b)=>
   if jVU op then(jXX op k a b).map λr=>.val r.1 (.one (.d r.2))
   else if k=k' then(jH1 op k a b).map λr=>.val r.1 (.one (.d r.2)) else none
  |some (.str a),some (.str b)=>(jH0 op a b).map λr=>.val r.1 (.one (.d r.2))
  |some (.bool a),some (.bool b)=>match P.underlying t,op with
   |some .bool,.eql=>some (.val True (.one (.d (.bool (a==b)))))
   |some .bool,.neq=>some (.val True (.one (.d (.bool (!(a==b))))))
   |_,_=>none
  |_,_=>none
def opUn(op:UnOp)(x:Operand):Option Eff:=
 match op,ρ x with
 |.not,.one (.lit (.bool b))=>some (.val True (.one (.lit (.bool !b))))
 |.not,.one (.d (.bool b))=>some (.val True (.one (.d (.bool !b))))
 |.neg,.one (.d (.int k n))=>some (.val True (.one (.d (.int k (k.wrap (0-n))))))
 |.xor,.one (.d (.int k n))=>some (.val True (.one (.d (.int k (k.wrap (BitVec.ofInt k.bits (if k.signed then -1 else k.max) ^^^ BitVec.ofInt k.bits n).toNat)))))
 |_,_=>none
def jWF(src dst:TypeId)(x:Operand):Option Eff:=
 match P.underlying src,P.underlying dst,ρ x with
 |some _,some (.int k),.one (.d (.int _ n))=>some (.val True (.one (.d (.int k (k.wrap n)))))
 |some _,some .string,.one (.d (.str s))=>some (.val True (.one (.d (.str s))))
 |_,_,_=>none
def zJs(s:ByteArray):List DV:=s.data.toList.map λb=>.int .u8 b.toNat
def jHT:DV->UInt8
 |.int _ n=>UInt8.ofNat n.toNat
 |_=>0
def strD(xs:List DV):ByteArray:=⟨(xs.map jHT).toArray⟩
def jJf:List DV->Prop
 |[]=>True
 |d::ds=>(∃n,d=.int .u8 n)/\jJf ds
def jYn(dst:Option Nat)(src dstT:TypeId)(x:Operand):Option Eff:=
 match P.underlying src,P.underlying dstT,ρ x,dst with
 |some .string,some (.slice e),.one (.d (.str s)),some d=>match P.underlying e with
  |some (.int .u8)=>some (.new True d (.row e 1 (zJs s)) (.one (.ref d s.size)))
  |_=>none
 |some (.slice e),some .string,.one (.d (.sl n xs)),_=>match P.underlying e with
  |some (.int .u8)=>some (.val (n=xs.length/\jJf xs) (.one (.d (.str (strD xs)))))
  |_=>none
 |_,_,_,_=>none
def jYm(src dstT:TypeId)(x:Operand):Option Eff:=
 match P.underlying src,P.underlying dstT,ρ x with
 |some (.slice _),some (.slice e),.one (.ref b n)=>if src=dstT then match P.underlying e with
  |some (.int .u8)=>some ⟨[b],[b],λbs=>match bs with
    |[.row t sz xs]=>some (0<n,.one (.ref b n),[.row t sz xs])
    |_=>none⟩
  |_=>none else none
 |_,_,_=>none
def repl{α:Type}(n:Nat)(z:List α):List α:=(List.replicate n z).flatten
def zKW(dst:Option Nat)(t:TypeId)(l c:Operand):Option Eff:=
 match dst,P.underlying t with
 |some d,some (.slice e)=>
  match P.info? e,(ρ l).dv,(ρ c).dv with
  |some i,some (.int _ n),some (.int _ m)=>
   match i.zero with
   |some z=>match dvs (z.cells.toList.map Cl.ofV) with
    |some zs=>if zs.length=i.size/\0<i.size then some (.new (0<=n/\n<=m/\m<=maxLen/\i.bytes*m<=281474976710656) d (.row e i.size (if i.size=1 then List.replicate n.toNat (zs.headD (.bool false)) else repl n.toNat zs)) (.one (.ref d n.toNat))) else none
    |none=>none
   |none=>none
  |_,_,_=>none
 |_,_=>none
def zYU(o:Option Operand)(dflt:Int):Option Int:=
 match o with
 |none=>some dflt
 |some x=>match (ρ x).dv with
  |some (.int _ n)=>some n
  |_=>none
def zWq(t:TypeId)(x:Operand)(lo hi mx:Option Operand):Option Eff:=
 match mx,P.underlying t,(ρ x).dv with
 |none,some (.slice e),some (.sl n cells)=>
  match P.info? e,zYU ρ lo 0,zYU ρ hi n with
  |some i,some l,some h=>some (.val (0<=l/\l<=h/\h<=n) (.one (.d (.sl (h-l).toNat ((cells.drop (l.toNat*i.size)).take ((h-l).toNat*i.size))))))
  |_,_,_=>none
 |none,some .string,some (.str s)=>
  match zYU ρ lo 0,zYU ρ hi s.size with
  |some l,some h=>some (.val (0<=l/\l<=h/\h<=s.size) (.one (.d (.str (s.extract l.toNat h.toNat)))))
  |_,_=>none
 |_,_,_=>none
def zWn(t:TypeId)(b n:Nat)(lo hi mx:Option Operand):Option Eff:=
 match mx,lo,P.underlying t with
 |none,none,some (.slice e)=>match P.info? e,zYU ρ hi n with
  |some i,some h=>some ⟨[b],[b],λbs=>match bs with
   |[.row e' size xs]=>if size=i.size then some (0<=h/\h<=n,.one (.ref b h.toNat),[.row e' size (xs.take (h.toNat*size))]) else none
   |_=>none⟩
  |_,_=>none
 |_,_,_=>none
def zWo(t:TypeId)(b n:Nat)(lo hi mx:Option Operand):Option Eff:=
 match mx,P.underlying t with
 |none,some (.slice e)=>match P.info? e,zYU ρ lo 0,zYU ρ hi n with
  |some i,some l,some h=>some (.val (0<=l/\l<=h/\h<=n) (.one (.sub b (l.toNat*i.size) (h-l).toNat)))
  |_,_,_=>none
 |_,_=>none
def jYj(t:TypeId)(x:Operand)(lo hi mx:Option Operand):Option Eff:=
 match ρ x with
 |.one (.ref b n)=>match lo with
  |none=>zWn P ρ t b n none hi mx
  |some l=>zWo P ρ t b n (some l) hi mx
 |_=>zWq P ρ t x lo hi mx
def zWp(t:TypeId)(x:Operand)(lo hi mx:Option Operand):Option Eff:=
 match ρ x,mx,lo,P.underlying t with
 |.one (.ref b n),none,none,some (.slice e)=>match P.info? e,zYU ρ hi n with
  |some _,some h=>some (.val (0<=h/\h<=n) (.one (.ref b h.toNat)))
  |_,_=>none
 |_,_,_,_=>none
def zKY(t:TypeId)(x:Operand)(f:Nat):Option Eff:=
 match P.underlying t with
 |some (.struct fs)=>match fs[f]? with
  |some fd=>match P.info? fd.type with
   |some i=>if i.size=0 then none else match ρ x with
    |.one (.ptr b off)=>some (.val True (.one (.ptr b (off+fd.offset))))
    |.one (.vp cs off)=>some (.val True (.one (.vp cs (off+fd.offset))))
    |_=>none
   |none=>none
  |none=>none
 |_=>none
def jYl(t:TypeId)(x:Operand)(f:Nat):Option Eff:=
 match P.underlying t,ρ x with
 |some (.struct fs),.agg cs=>match fs[f]? with
  |some fd=>match zJ2 P fd.type with
   |some (g,k)=>if fd.offset+k<=cs.length then(zVw g ((cs.drop fd.offset).take k)).map λv=>.val True v else none
   |none=>none
  |none=>none
 |_,_=>none
def zKX(t:TypeId)(x y:Operand):Option Eff:=
 match P.underlying t,(ρ y).dv with
 |some (.array n e),some (.int _ i)=>match P.info? e with
  |some inf=>match ρ x with
   |.one (.ptr b off)=>some (.val (0<=i/\i<n) (.one (.ptr b (off+i.toNat*inf.size))))
   |.one (.vp cs off)=>some (.val (0<=i/\i<n) (.one (.vp cs (off+i.toNat*inf.size))))
   |_=>none
  |none=>none
 |some (.slice e),some (.int _ i)=>match P.info? e with
  |some inf=>match ρ x with
   |.one (.d (.sl n cs))=>some (.val (0<=i/\i<n/\i.toNat*inf.size<cs.length) (.one (.vp cs (i.toNat*inf.size))))
   |.one (.ref b n)=>some (.val (0<=i/\i<n) (.one (.ptr b (i.toNat*inf.size))))
   |_=>none
  |none=>none
 |_,_=>none
def jYk(t:TypeId)(x y:Operand):Option Eff:=
 match P.underlying t,ρ x,(ρ y).dv with
 |some (.array n e),.agg cs,some (.int _ i)=>match P.info? e,dvs cs,jUL P e with
  |some inf,some xs,some (g,zs)=>(zVw g ((zYw zs xs (i.toNat*inf.size)).map .d)).map λv=>.val (0<=i/\i<n/\zK2 zs xs (i.toNat*inf.size)) v
  |some inf,none,some (false,_)=>(zVw false ((cs.drop (i.toNat*inf.size)).take 1)).map λv=>.val (0<=i/\i<n) v
  |_,_,_=>none
 |some .string,.one (.d (.str s)),some (.int _ i)=>some (.val (0<=i/\i<s.size) (.one (.d (.int .u8 (s.data.toList[i.toNat]?.getD 0).toNat))))
 |_,_,_=>none
def zUE(x:Operand)(i:Nat):Option Eff:=
 match ρ x with
 |.tup vs=>(vs[i]?).map λv=>.val True v
 |_=>none
def zWr(x:Operand):Option Eff:=
 match ρ x with
 |.one (.ptr b off)=>some (.val True (.one (.ptr b off)))
 |.one (.vp cs off)=>some (.val True (.one (.vp cs off)))
 |_=>none
def yZ1(ts:Array TypeId)(x:AV):Option Eff:=
 match (ts[0]?).bind P.underlying,x with
 |some (.array n _),_=>some (.val (inK .i64 n) (.one (.d (.int .i64 n))))
 |some (.slice _),.one (.ref _ n)=>some (.val (n<=maxLen) (.one (.d (.int .i64 n))))
 |some (.slice _),u=>match u.dv with
  |some (.sl n _)=>some (.val True (.one (.d (.int .i64 n))))
  |_=>none
 |some .string,.one (.d (.str s))=>some (.val True (.one (.d (.int .i64 s.size))))
 |_,_=>none
def zHN(mx:Bool)(x y:AV):Option Eff:=
 match x,y with
 |.one (.d (.int k a)),.one (.d (.int k' b))=>if k=k' then some (.val True (.one (.d (.int k (if mx then max a b else min a b))))) else none
 |_,_=>none
def jG2(x y z:AV):Option Eff:=
 match x,y,z with
 |.one (.d (.int k a)),.one (.d (.int k' b)),.one (.d (.int k'' c))=>if k=k'/\k=k'' then some (.val True (.one (.d (.int k (max (max a b) c))))) else none
 |_,_,_=>none
def jUp(e size:Nat):Bx->Option (List DV)
 |.row e' size' xs=>if e'=e/\size'=size then some xs else none
 |_=>none
def zXJ:Bx->Option (List DV)
 |.row _ _ xs=>some xs
 |.ice xs=>some xs
 |_=>none
def zZQ(size bytes n m:Nat)(xs ys:List DV):Prop:=xs.length=n*size/\ys.length=m*size/\n+m<=maxLen/\(n+m)*bytes<=140737488355328+1099511627776*(1 / bytes)
def zWf(i:TypeInfo):Bool:=
 match i.zero with
 |some z=>decide (0<i.size)&&decide (z.cells.size=i.size)
 |none=>false
def zWz(i:TypeInfo):Bool:=
 match i.zero with
 |some (.int .u8 n)=>decide (n=0)&&decide (i.size=1)&&decide (i.bytes=1)
 |_=>false
def jQC(d:Nat)(t u:TypeId)(x y:AV):Option Eff:=
 match P.underlying t,P.underlying u,y.dv with
 |some (.slice e),some .string,some (.str s)=>match P.info? e with
  |some i=>if zWz i=false then none else match x with
   |.one .nil=>some (.new (zZQ 1 1 0 s.size [] (zJs s)) d (.row e 1 (zJs s)) (.one (.ref d s.size)))
   |.one (.ref b n)=>some ⟨[d,b],[d,b],λbs=>match bs with
    |[.fresh,B]=>(jUp e 1 B).map λxs=>(zZQ 1 1 n s.size xs (zJs s),.one (.ref d (n+s.size)),[.row e 1 (xs++zJs s),.gone])
    |_=>none⟩
   |_=>none
  |none=>none
 |_,_,_=>none
def jG3(ts:Array TypeId)(x y:AV):Option Eff:=
 match ts.toList,x,y.dv with
 |[t,_],.one (.sub b off len),some (.sl m ys)=>match P.underlying t with
  |some (.slice e)=>match P.info? e with
   |some i=>some ⟨[b],[b],λbs=>match bs with
    |[.row e' size xs]=>some (len<=m/\len<=maxLen/\off+len*i.size<=xs.length/\len*i.size<=ys.length,.one (.d (.int .i64 len)),[.row e' size (sets xs off (ys.take (len*i.size)))])
    |_=>none⟩
   |none=>none
  |_=>none
 |_,_,_=>none
def jYq(dst:Option Nat)(ts:Array TypeId)(x y:AV):Option Eff:=
 match dst,ts.toList with
 |some d,[t,t']=>
  if t≠t' then jQC P d t t' x y else
  match P.underlying t with
  |some (.slice e)=>match P.info? e with
   |some i=>if zWf i=false then none else match x,y with
    |.one .nil,.one (.ref b' m)=>some ⟨[d,b'],[d],λbs=>match bs with
     |[.fresh,B']=>(zXJ B').map λys=>(zZQ i.size i.bytes 0 m [] ys,.one (.ref d m),[.row e i.size ys])
     |_=>none⟩
    |.one (.ref b n),.one (.ref b' m)=>if b=b' then none else some ⟨[d,b,b'],[d,b],λbs=>match bs with
     |[.fresh,B,B']=>match jUp e i.size B,zXJ B' with
      |some xs,some ys=>some (zZQ i.size i.bytes n m xs ys,.one (.ref d (n+m)),[.row e i.size (xs++ys),.gone])
      |_,_=>none
     |_=>none⟩
    |.one .nil,v=>match v.dv with
     |some (.sl m ys)=>some (.new (zZQ i.size i.bytes 0 m [] ys) d (.row e i.size ys) (.one (.ref d m)))
     |_=>none
    |.one (.ref b n),v=>match v.dv with
     |some (.sl m ys)=>some ⟨[d,b],[d,b],λbs=>match bs with
      |[.fresh,B]=>(jUp e i.size B).map λxs=>(zZQ i.size i.bytes n m xs ys,.one (.ref d (n+m)),[.row e i.size (xs++ys),.gone])
      |_=>none⟩
     |_=>none
    |_,_=>none
   |none=>none
  |_=>none
 |_,_=>none
def yXu:AV->Option Cap
 |.one (.ptr b off)=>some (.ptr b off)
 |.one c=>match c.dv with
  |some v=>some (.d v)
  |none=>none
 |_=>none
def jXF:List AV->Option (List Cap)
 |[]=>some []
 |x::xs=>match yXu x,jXF xs with
  |some c,some cs=>some (c::cs)
  |_,_=>none
def zGJ(fn:Fn)(first captured:List AV):Option Eff:=
 match fn,first,jXF captured with
 |.func f,[],some []=>some (.val True (.one (.d (.fn f))))
 |.func f,[],some cs=>some (.val True (.one (.clo f cs)))
 |_,_,_=>none
def Cl.refs:Cl->List Nat
 |.ref b _=>[b]
 |_=>[]
def AV.refs:AV->List Nat
 |.one c=>c.refs
 |.agg cs=>cs.flatMap Cl.refs
 |.tup _=>[]
def Cl.rv(look:Nat->Option (List DV)):Cl->Option DV
 |.ref b n=>(look b).map λxs=>.sl n xs
 |c=>c.dv
def Cl.rvs(look:Nat->Option (List DV)):List Cl->Option (List DV)
 |[]=>some []
 |c::cs=>match c.rv look,Cl.rvs look cs with
  |some v,some vs=>some (v::vs)
  |_,_=>none
mutual
def AV.rv(look:Nat->Option (List DV)):AV->Option RV
 |.one c=>(c.rv look).map .d
 |.agg cs=>(Cl.rvs look cs).map .agg
 |.tup vs=>(AV.rvs look vs).map .tup
def AV.rvs(look:Nat->Option (List DV)):List AV->Option (List RV)
 |[]=>some []
 |x::xs=>match x.rv look,AV.rvs look xs with
  |some v,some vs=>some (v::vs)
  |_,_=>none
end
def zXy:List Nat->List Bx->Nat->Option (List DV)
 |b'::rs,B::bs,b=>if b=b' then zXJ B else zXy rs bs b
 |_,_,_=>none
mutual
def RV.av:RV->AV
 |.d v=>.one (.d v)
 |.agg vs=>.agg (vs.map .d)
 |.tup vs=>.tup (RV.avs vs)
def RV.avs:List RV->List AV
 |[]=>[]
 |x::xs=>x.av::RV.avs xs
end
def AV.flat:AV->Bool
 |.tup _=>false
 |_=>true
def Bx.freeze:Bx->Bx
 |.row _ _ xs=>.ice xs
 |B=>B
abbrev vz:=List (Nat × AV)
def zKZ(dst:Option Nat)(t:TypeId)(len:Nat)(ps:vz):Option Eff:=
 match dst,P.underlying t with
 |some d,some (.slice e)=>
  match P.info? e with
  |some i=>
   match i.zero with
   |some z=>
    if len*i.size<=16777216/\0<i.size/\z.cells.size=i.size/\((ps.map (·.2)).all AV.flat)=true then
     some ⟨(ps.map (·.2)).flatMap AV.refs++[d],(ps.map (·.2)).flatMap AV.refs++[d],λbs=>match bs.getLast? with
      |some .fresh=>match AV.rvs (zXy ((ps.map (·.2)).flatMap AV.refs) bs.dropLast) (ps.map (·.2)) with
       |some rs=>match zWC (λk=>some (k*i.size,i.size)) (zJD z.cells (len*i.size)) ((ps.map (·.1)).zip (RV.avs rs)) with
        |some cs=>match dvs cs with
         |some vs=>some (True,.one (.ref d len),bs.dropLast.map Bx.freeze++[.row e i.size vs])
         |none=>none
        |none=>none
       |none=>none
      |_=>none⟩
    else none
   |none=>none
  |none=>none
 |_,_=>none
def zJx(ρ:Operand->AV)(dst:Option Nat)(t:TypeId)(len:Nat)(parts:Array (Nat × Operand)):Option Eff:=
 match (parts.toList.map λp=>(p.1,ρ p.2)).flatMap λp=>p.2.refs with
 |[]=>zJ0 P ρ dst t len parts
 |_=>zKZ P dst t len (parts.toList.map λp=>(p.1,ρ p.2))
def enters(f:FuncId):Bool:=
 match P.funcs[f]? with
 |some fn=>fn.body.isSome && !(fn.name == "runtime.NumGoroutine")
 |none=>false
def yQz(Γ:Gam)(f:FuncId):Option (Nat × Nat):=
 match Γ f []with
 |some (.tup [.tup [.d (.int _ e),.d (.int _ size)]])=>some (e.toNat,size.toNat)
 |_=>none
def jYo(Γ:Gam)(d:Nat)(f:FuncId)(e size:Nat)(xs:List AV):Option Eff:=
 if enters P f&&xs.all AV.flat then
  some ⟨xs.flatMap AV.refs++[d],xs.flatMap AV.refs++[d],λbs=>match bs.getLast? with
   |some .fresh=>match AV.rvs (zXy (xs.flatMap AV.refs) bs.dropLast) xs with
    |some rs=>match Γ f rs with
     |some (.d (.sl n ys))=>some (AnsO P f rs e size n ys,.one (.ref d n),bs.dropLast.map Bx.freeze++[.row e size ys])
     |_=>none
    |none=>none
   |_=>none⟩
 else none
def jQA(Γ:Gam)(f:FuncId)(xs:List AV):Option Eff:=
 if enters P f&&xs.all AV.flat then
  some ⟨xs.flatMap AV.refs,xs.flatMap AV.refs,λbs=>match AV.rvs (zXy (xs.flatMap AV.refs) bs) xs with
   |some rs=>match Γ f rs with
    |some r=>some (Ans P f rs r,r.av,if r.flat then bs else bs.map Bx.freeze)
    |none=>none
   |none=>none⟩
 else match xs.all AV.flat,AV.rvs (λ_=>none) xs with
  |true,some rs=>match Γ f rs with
   |some r=>some ⟨[],[],λbs=>some (AnsE P f rs r,r.av,bs)⟩
   |none=>none
  |_,_=>none
def yQI(Γ:Gam)(f:FuncId):Bool:=
 match Γ f []with
 |some (.tup [.tup []])=>true
 |_=>false
def jQB(Γ:Gam)(f:FuncId)(xs:List AV):Option Eff:=
 if enters P f&&xs.all AV.flat then
  some ⟨xs.flatMap AV.refs,xs.flatMap AV.refs,λbs=>match AV.rvs (zXy (xs.flatMap AV.refs) bs) xs with
   |some rs=>match Γ f rs with
    |some r=>some (AnsN P f rs r,r.av,bs)
    |none=>none
   |none=>none⟩
 else none
def zUF(Γ:Gam)(dst:Option Nat)(f:FuncId)(xs:List AV):Option Eff:=
 match yQz Γ f with
 |some (e,size)=>match dst with
  |some d=>jYo P Γ d f e size xs
  |none=>none
 |none=>match yQI Γ f with
  |true=>jQB P Γ f xs
  |false=>jQA P Γ f xs
end
def prep(P:Program)(Γ:Gam)(o:Oper)(ρ:Operand->AV):Option Eff:=
 match o.op with
 |.move x|.assign x=>some (.val True (ρ x))
 |.pick c x y=>jJ3 ρ c x y
 |.alloc t=>jVK P o.dst t
 |.box t x=>yQF ρ o.dst t x
 |.build t ps=>jYp P ρ t ps
 |.buildSlice t len ps=>zJx P ρ o.dst t len ps
 |.load t x=>jWE P ρ t x
 |.store t x y=>jYi P ρ t x y
 |.nilCheck x=>zWr ρ x
 |.binOp op t x y _=>yQG P ρ op t x y
 |.unOp op _ x=>opUn ρ op x
 |.convert src dst x=>match jWF P ρ src dst x with
  |some e=>some e
  |none=>match jYn P ρ o.dst src dst x with
   |some e=>some e
   |none=>jYm P ρ src dst x
 |.makeSlice t l c=>zKW P ρ o.dst t l c
 |.slice t x lo hi mx=>match o.dst.any Γ.keep with
  |true=>zWp P ρ t x lo hi mx
  |false=>jYj P ρ t x lo hi mx
 |.fieldAddr t x f=>zKY P ρ t x f
 |.field t x f=>jYl P ρ t x f
 |.indexAddr t x y=>zKX P ρ t x y
 |.index t x y=>jYk P ρ t x y
 |.extract x i=>zUE ρ x i
 |.makeFunc fn fs cs=>zGJ fn (fs.toList.map ρ) (cs.toList.map ρ)
 |.call c=>match c.callee,c.args.toList with
  |.value (.func f),xs=>zUF P Γ o.dst f (xs.map ρ)
  |.value (.tmp t),xs=>match ρ (.tmp t) with
   |.one (.d (.fn f))=>zUF P Γ o.dst f (xs.map ρ)
   |_=>none
  |.builtin .len,[x]=>yZ1 P c.argTypes (ρ x)
  |.builtin .max,[x,y]=>zHN true (ρ x) (ρ y)
  |.builtin .max,[x,y,z]=>jG2 (ρ x) (ρ y) (ρ z)
  |.builtin .min,[x,y]=>zHN false (ρ x) (ρ y)
  |.builtin .append,[x,y]=>jYq P o.dst c.argTypes (ρ x) (ρ y)
  |.builtin .copy,[x,y]=>jG3 P c.argTypes (ρ x) (ρ y)
  |_,_=>none
 |_=>none
def AS.setBs:AS->List Nat->List Bx->AS
 |s,b::bs,B::Bs=>(s.setB b B).setBs bs Bs
 |s,_,_=>s
def jKN(n:Dom)(o:Oper):Bool:=match o.dst with|some d=>decide (d<n.n) && !n.keep d|none=>true
variable{x:AV}{u:Value}{k:IntKind}{vs:List Value}
section
variable{w:World}{V:Nat->Prop}{ι:zQm}{bx:Nat->Bx}
theorem zGB(v:Value):zQs w V ι bx (Cl.ofV v) v:=by
 unfold Cl.ofV;split
 .split
  .exact⟨rfl,‹_›⟩
  .trivial
 .exact rfl
 .split
  .exact⟨rfl,‹_›⟩
  .trivial
 .split
  .rename_i h;obtain⟨rfl,rfl⟩:=h;exact rfl
  .trivial
 .exact⟨rfl,rfl⟩
 .exact⟨rfl,rfl⟩
 .exact⟨rfl,rfl⟩
 .trivial
theorem zYJ:∀(vs:List Value),zQO w V ι bx (vs.map Cl.ofV) vs
 |[]=>trivial
 |v::vs=>⟨zGB v,zYJ vs⟩
theorem yZS(v:Value):zQg w V ι bx (AV.ofV v) v:=by
 unfold AV.ofV;split
 .simp only[zQg];exact⟨_,rfl,zYJ _⟩
 .simp only[zQg];exact⟨_,rfl,by simp only[RepAVs]⟩
 .simp only[zQg];exact zGB _
theorem zKQ{b:Bool}(h:zQg w V ι bx x u)(hb:x.bool?=some b):u=.bool b:=by
 unfold AV.bool? at hb;split at hb
 .injection hb with hb;subst hb;simp only[zQg,zQs,RepD]at h;exact h
 .injection hb with hb;subst hb;simp only[zQg,zQs]at h;exact h.1
 .cases hb
abbrev wQj:=@Nat.zero_le
theorem zYs{c:Cl}(h:zQs w V ι bx c u)(hd:c.dv=some d):RepD w V d u:=by
 unfold Cl.dv at hd;split at hd
 .injection hd with hd;subst hd;exact h
 .injection hd with hd;subst hd;simp only[RepD];exact h.1
 .injection hd with hd;subst hd
  simp only[RepD];exact⟨none,0,h,Nat.le_refl _,wQj _,λe=>absurd rfl e⟩
 .cases hd
theorem zJa(h:zQg w V ι bx x u)(hd:x.dv=some d):RepD w V d u:=by
 unfold AV.dv at hd;split at hd
 .simp only[zQg]at h;exact zYs h hd
 .cases hd
theorem zXr{n:Int}(h:zQg w V ι bx x u)(hd:x.dv=some (.int k n)):u=.int k n/\inK k n:=by
 have:=zJa h hd;simpa only[RepD]using this
theorem zZr:∀{cs:List Cl}{vs:List Value},zQO w V ι bx cs vs->cs.length=vs.length
 |[],[],_=>rfl
 |_::_,_::_,h=>by simp[zZr h.2]
 |[],_::_,h=>h.elim
 |_::_,[],h=>h.elim
theorem zQ8:∀{cs:List DV}{vs:List Value},zZo w V cs vs->cs.length=vs.length
 |[],[],_=>rfl
 |_::_,_::_,h=>by simp[zQ8 h.2]
 |[],_::_,h=>h.elim
 |_::_,[],h=>h.elim
theorem jXf:∀{cs:List Cl}{vs:List Value},zQO w V ι bx cs vs->∀(i:Nat) c,cs[i]?=some c->∃v,vs[i]?=some v/\zQs w V ι bx c v
 |c::cs,v::vs,h,0,c',hc=>by simp at hc;subst hc;exact⟨v,rfl,h.1⟩
 |c::cs,v::vs,h,i+1,c',hc=>by simpa using jXf h.2 i c' (by simpa using hc)
 |[],_,_,i,c,hc=>by simp at hc
 |_::_,[],h,_,_,_=>h.elim
theorem jXe:∀{cs:List Cl}{vs:List Value},cs.length=vs.length->(∀(i:Nat) c v,cs[i]?=some c->vs[i]?=some v->zQs w V ι bx c v)->zQO w V ι bx cs vs
 |[],[],_,_=>trivial
 |c::cs,v::vs,hl,h=>⟨h 0 c v rfl rfl,jXe (by simpa using hl) λi c' v' hc hv=>h (i+1) c' v' (by simpa using hc) (by simpa using hv)⟩
 |[],_::_,hl,_=>by simp at hl
 |_::_,[],hl,_=>by simp at hl
theorem jQn:zQO w V ι bx cs vs↔cs.length=vs.length/\∀(i:Nat) c v,cs[i]?=some c->vs[i]?=some v->zQs w V ι bx c v:=
 ⟨λh=>⟨zZr h,λi c v hc hv=>by
  obtain⟨v',h1,h2⟩:=jXf h i c hc
  rw[h1]at hv;injection hv with hv;subst hv;exact h2⟩,λh=>jXe h.1 h.2⟩
theorem zKu:∀{cs:List DV}{vs:List Value},zZo w V cs vs->∀(i:Nat) c,cs[i]?=some c->∃v,vs[i]?=some v/\RepD w V c v
 |c::cs,v::vs,h,0,c',hc=>by simp at hc;subst hc;exact⟨v,rfl,h.1⟩
 |c::cs,v::vs,h,i+1,c',hc=>by simpa using zKu h.2 i c' (by simpa using hc)
 |[],_,_,i,c,hc=>by simp at hc
 |_::_,[],h,_,_,_=>h.elim
theorem jJR:∀{cs:List DV}{vs:List Value},cs.length=vs.length->(∀(i:Nat) c v,cs[i]?=some c->vs[i]?=some v->RepD w V c v)->zZo w V cs vs
 |[],[],_,_=>trivial
 |c::cs,v::vs,hl,h=>⟨h 0 c v rfl rfl,jJR (by simpa using hl) λi c' v' hc hv=>h (i+1) c' v' (by simpa using hc) (by simpa using hv)⟩
 |[],_::_,hl,_=>by simp at hl
 |_::_,[],hl,_=>by simp at hl
theorem jXc{cs:List DV}:zZo w V cs vs↔cs.length=vs.length/\∀(i:Nat) c v,cs[i]?=some c->vs[i]?=some v->RepD w V c v:=
 ⟨λh=>⟨zQ8 h,λi c v hc hv=>by
  obtain⟨v',h1,h2⟩:=zKu h i c hc
  rw[h1]at hv;injection hv with hv;subst hv;exact h2⟩,λh=>jJR h.1 h.2⟩
theorem zVK:∀{cs:List Cl}{vs:List Value}{ds:List DV},zQO w V ι bx cs vs->dvs cs=some ds->zZo w V ds vs
 |[],[],ds,_,hd=>by simp[dvs]at hd;subst hd;trivial
 |c::cs,v::vs,ds,h,hd=>by
  simp only[dvs]at hd
  cases h1:c.dv with
  |none=>rw[h1]at hd;cases hd
  |some d=>
   cases h2:dvs cs with
   |none=>rw[h1,h2]at hd;cases hd
   |some ds'=>
    rw[h1,h2]at hd;injection hd with hd;subst hd
    exact⟨zYs h.1 h1,zVK h.2 h2⟩
 |[],_::_,_,h,_=>h.elim
 |_::_,[],_,h,_=>h.elim
theorem zKt:∀{ds:List DV}{vs:List Value},zZo w V ds vs->zQO w V ι bx (ds.map .d) vs
 |[],[],_=>trivial
 |_::_,_::_,h=>⟨h.1,zKt h.2⟩
 |[],_::_,h=>h.elim
 |_::_,[],h=>h.elim
theorem yZC{c:Cl}(h:zQs w V ι bx c v)(hc:c.ok=true):v.oneCell'=true:=by
 cases c with
 |d x=>exact RepD.one h
 |lit u=>rw[h.1];exact h.2
 |nil=>rw[show v=_ from h];rfl
 |ptr b off=>obtain⟨_,g,c,_,rfl⟩:=h;rfl
 |vp xs off=>obtain⟨g,o,rfl,_⟩:=h;rfl
 |ref b len=>
  obtain⟨_,h⟩:=h
  rcases h with⟨_,_,rfl⟩|⟨g,cap,_,rfl,_⟩<;>rfl
 |sub b off len=>
  obtain⟨_,h⟩:=h
  rcases h with⟨_,_,_,rfl⟩|⟨g,cap,c,_,rfl⟩<;>rfl
 |clo f cs=>obtain⟨lb,rfl,_⟩:=h;rfl
 |dead=>simp[Cl.ok]at hc
theorem jYb{cs:List Cl}(h:zQg w V ι bx x u)(hc:x.cls=some cs):zQO w V ι bx cs u.cells.toList:=by
 unfold AV.cls at hc;split at hc
 .split at hc
  .rename_i c hok;injection hc with hc;subst hc
   simp only[zQg]at h;rw[jYr (yZC h hok)];exact⟨h,trivial⟩
  .cases hc
 .injection hc with hc;subst hc
  simp only[zQg]at h;obtain⟨cur,rfl,h⟩:=h;exact h
 .cases hc
abbrev wQT:=@Bool.false_eq_true
theorem zJd{agg:Bool}{cs:List Cl}{v:AV}{us:List Value}(h:zQO w V ι bx cs us)(he:zVw agg cs=some v) :
  zQg w V ι bx v (if agg then .agg us.toArray else us.headD undef)/\(agg=false->us.length=1):=by
 unfold zVw at he
 cases agg with
 |true=>
  simp only[if_true]at he |-;injection he with he;subst he
  simp only[zQg];exact⟨⟨_,rfl,by simpa using h⟩,λe=>by cases e⟩
 |false=>
  simp only[wQT,if_false]at he |-
  cases cs with
  |nil=>cases he
  |cons c cs=>
   cases cs with
   |nil=>
    injection he with he;subst he
    cases us with
    |nil=>exact h.elim
    |cons u us=>
     cases us with
     |nil=>simp only[zQg,List.headD];exact⟨h.1,λ_=>rfl⟩
     |cons _ _=>exact h.2.elim
   |cons _ _=>cases he
end
section
variable{w0:World}{S:zQ3}{n:Dom}{s:AS}{ι:zQm}{a:Act}{w:World}
theorem RepS.eval(h:RepS w0 S n s ι a w)(x:Operand):zQg w (Seen S w0.heap.size s.bx ι) ι s.bx (s.eval x) (a.eval x):=by
 cases x with
 |tmp t=>exact h.tm t
 |const v=>exact yZS v
 |global g=>
  simp only[AS.eval]
  cases e:jKt zW9 g with
  |none=>simp only[zQg,zQs]
  |some cs=>
   simp only[zQg,zQs];exact⟨g,0,rfl,h.glob.1 _ (jXv e)⟩
 |func f=>simp only[AS.eval,zQg,zQs,RepD];rfl
end
def zWE(P:Program)(o:Oper)(s:AS)(vc:Prop)(v:AV)(wrs:List Nat)(bs:List Bx):Prop:=
 ∀(w0:World)(S:zQ3)(n:Dom)(ι:zQm)(a:Act)(w:World)(K:Act->World->Prop)(Q:Exit->Act->World->Prop),RepS w0 S n s ι a w->vc ->
  (∀ι' u w',RepS w0 S n (s.setBs wrs bs) ι' a w'->zQg w' (Seen S w0.heap.size (s.setBs wrs bs).bx ι') ι' (s.setBs wrs bs).bx v u->K (a.put o.dst u) w')->o.wp P a w K Q
variable{P:Program}{s:AS}{vc:Prop}
theorem zWE.val{o:Oper}{v:AV}(h:∀(w0:World) (S:zQ3) (n:Dom) (ι:zQm) (a:Act) (w:World),RepS w0 S n s ι a w->vc->∃u,(execOp a.eval o).run P w=.ok (.value u) w/\zQg w (Seen S w0.heap.size s.bx ι) ι s.bx v u) :
  zWE P o s vc v [] []:=by
 intro w0 S n ι a w K Q hr hvc hK;obtain⟨u,h1,h2⟩:=h w0 S n ι a w hr hvc;unfold Oper.wp;rw[h1];exact hK ι u w hr h2
def zZM(P:Program)(o:Oper)(s:AS)(e:Option Eff):Prop:=
 ∀e',e=some e'->∀vc v bs,e'.f (e'.rds.map s.bx)=some (vc,v,bs)->zWE P o s vc v e'.wrs bs
theorem zZM.none{P:Program}{o:Oper}{s:AS}:zZM P o s none:=λ_ h=>by cases h
theorem zZM.val{P:Program}{o:Oper}{s:AS}{vc:Prop}{v:AV}(h:∀(w0:World) (S:zQ3) (n:Dom) (ι:zQm) (a:Act) (w:World),RepS w0 S n s ι a w->vc->∃u,(execOp a.eval o).run P w=.ok (.value u) w/\zQg w (Seen S w0.heap.size s.bx ι) ι s.bx v u) :
  zZM P o s (some (.val vc v)):=by
 intro e' he vc' v' bs hf;injection he with he;subst he
 simp only[Eff.val]at hf |-;injection hf with hf
 simp only[wQc]at hf;obtain⟨rfl,rfl,rfl⟩:=hf;exact zWE.val h
variable{x y:Operand}{t src dst:TypeId}
section
variable{P:Program}{o:Oper}{s:AS}
theorem jZ8(ho:o.op=.move x\/o.op=.assign x):zZM P o s (some (.val True (s.eval x))):=
 .val λw0 S n ι a w h _=>⟨a.eval x,by rcases ho with ho|ho<;>simp[execOp,ho],h.eval x⟩
theorem jUq{c:Operand}(ho:o.op=.pick c x y):zZM P o s (jJ3 s.eval c x y):=by
 unfold jJ3;split
 .rename_i b hb;refine .val λw0 S n ι a w h _=>⟨if b then a.eval x else a.eval y,?_,?_⟩
  .have:=zKQ (h.eval c) hb;simp[execOp,ho,this,asBool]
  .cases b
   .exact h.eval y
   .exact h.eval x
 .exact .none
theorem yQm{op:UnOp}(ho:o.op=.unOp op t x):zZM P o s (opUn s.eval op x):=by
 unfold opUn;split
 .rename_i b hb;refine .val λw0 S n ι a w h _=>⟨.bool !b,?_,?_⟩
  .have:=h.eval x;rw[hb]at this;simp only[zQg,zQs]at this;simp[execOp,ho,this.1,Op.unary]
  .exact⟨rfl,rfl⟩
 .rename_i b hb;refine .val λw0 S n ι a w h _=>⟨.bool !b,?_,?_⟩
  .have:=h.eval x;rw[hb]at this;simp only[zQg,zQs,RepD]at this;simp[execOp,ho,this,Op.unary]
  .simp only[zQg,zQs,RepD]
 .rename_i k m hb;refine .val λw0 S n ι a w h _=>⟨.int k (k.wrap (0-m)),?_,?_⟩
  .have:=h.eval x;rw[hb]at this;simp only[zQg,zQs,RepD]at this;simp only[execOp,ho,this.1,Op.unary,Op.intArith,Sem.run_bind,Sem.run_pure,Result.andThen_ok]
  .simp only[zQg,zQs,RepD,true_and];exact wf_wrap _ _
 .rename_i k m hb;refine .val λw0 S n ι a w h _=>⟨.int k (k.wrap (BitVec.ofInt k.bits (if k.signed then -1 else k.max) ^^^ BitVec.ofInt k.bits m).toNat),?_,?_⟩
  .have:=h.eval x;rw[hb]at this;simp only[zQg,zQs,RepD]at this;simp only[execOp,ho,this.1,Op.unary,Op.intBits,Sem.run_bind,Sem.run_pure,Result.andThen_ok]
  .simp only[zQg,zQs,RepD,true_and];exact wf_wrap _ _
 .exact .none
abbrev wQh:=@run_underlying
theorem jUu(ho:o.op=.convert src dst x):zZM P o s (jWF P s.eval src dst x):=by
 unfold jWF;split
 .rename_i d1 k k' m h1 h2 hb;refine .val λw0 S n ι a w h _=>⟨.int k (k.wrap m),?_,?_⟩
  .have:=h.eval x;rw[hb]at this;simp only[zQg,zQs,RepD]at this;simp[execOp,ho,this.1,convert,wQh h1,wQh h2,Conv.intToInt]
  .simp only[zQg,zQs,RepD,true_and];exact wf_wrap _ _
 .rename_i d1 m h1 h2 hb;refine .val λw0 S n ι a w h _=>⟨.string m,?_,?_⟩
  .have:=h.eval x;rw[hb]at this;simp only[zQg,zQs,RepD]at this;simp[execOp,ho,this.1,convert,wQh h1,wQh h2]
  .have:=h.eval x;rw[hb]at this;simp only[zQg,zQs,RepD,true_and]at this |-;exact this.2
 .exact .none
theorem jX6{i:Nat}(ho:o.op=.extract x i):zZM P o s (zUE s.eval x i):=by
 unfold zUE;split
 .rename_i vs hb
  cases hi:vs[i]? with
  |none=>exact .none
  |some v=>
   refine .val λw0 S n ι a w h _=>?_;have:=h.eval x;rw[hb]at this;simp only[zQg]at this;obtain⟨cur,e,hr⟩:=this;have key:∀(vs:List AV)(us:List Value)(i:Nat)(v:AV),RepAVs w (Seen S w0.heap.size s.bx ι) ι s.bx vs us->vs[i]?=some v->∃u,us[i]?=some u/\zQg w (Seen S w0.heap.size s.bx ι) ι s.bx v u:=by
    intro vs
    induction vs with
    |nil=>intro us i v _ hv;simp at hv
    |cons x xs ih=>
     intro us i v hr hv
     cases us with
     |nil=>simp only[RepAVs]at hr
     |cons u us=>
      simp only[RepAVs]at hr
      cases i with
      |zero=>simp at hv;subst hv;exact⟨u,rfl,hr.1⟩
      |succ i=>simpa using ih us i v hr.2 (by simpa using hv)
   obtain⟨u,hu,hru⟩:=key _ _ _ _ hr hi;refine⟨u,?_,hru⟩;have hu':cur[i]?=some u:=by simpa using hu
   simp[execOp,ho,e,Instr.extract,hu']
 .exact .none
theorem jZH(ho:o.op=.nilCheck x):zZM P o s (zWr s.eval x):=by
 unfold zWr;split
 .rename_i b off hb;refine .val λw0 S n ι a w h _=>?_;have:=h.eval x;rw[hb]at this;have h2:=this;simp only[zQg,zQs]at this;obtain⟨_,g,c,_,e⟩:=this;exact⟨a.eval x,by simp[execOp,ho,e],h2⟩
 .rename_i cs off hb;refine .val λw0 S n ι a w h _=>?_;have:=h.eval x;rw[hb]at this;have h2:=this;simp only[zQg,zQs]at this;obtain⟨g,c,e,_⟩:=this;exact⟨a.eval x,by simp[execOp,ho,e],h2⟩
 .exact .none
end
theorem zZ6(k:IntKind)(n:Int):inK k n↔k.min<=n/\n<=k.max:=by simp[inK,Lit.wf]
abbrev wXO:=@Int.le_total
abbrev wYi:=@Int.tmod_nonneg
variable{a:Int}
theorem yXa(h:inK k a)(b:Int):inK k (a.tmod b):=by
 rw[zZ6]at h |-;have h0:k.min<=0/\0<=k.max:=by cases k<;>simp[IntKind.min,IntKind.max,IntKind.signed,IntKind.bits]
 have h1:(a.tmod b).natAbs<=a.natAbs:=by rw[Int.natAbs_tmod];exact Nat.mod_le _ _
 rcases wXO 0 a with ha|ha
 .have:=wYi b ha;omega
 .have:=wYi b (show 0 <= -a by omega);rw[Int.neg_tmod]at this;omega
abbrev wZq:=@Int.fdiv_eq_ediv_of_nonneg
abbrev wYj:=@Int.le_ediv_iff_mul_le
abbrev wQU:=@Int.ediv_nonneg
abbrev wZY:=@Int.ediv_le_self
abbrev wYk:=@Int.ediv_le_ediv
theorem yZ9(h:inK k a)(m:Nat):inK k (a.fdiv (2 ^ m)):=by
 rw[zZ6]at h |-;have h0:k.min <= -1\/k.min=0:=by cases k<;>simp[IntKind.min,IntKind.signed,IntKind.bits]
 have hp:(1:Int)<=2 ^ m:=by exact_mod_cast Nat.one_le_two_pow
 rw[wZq _ (by omega)]
 rcases wXO 0 a with ha|ha
 .have h1:=wQU ha (show(0:Int)<=2 ^ m by omega);have h2:=wZY (2 ^ m:Int) ha;have h3:k.min<=0:=by cases k<;>simp[IntKind.min,IntKind.signed,IntKind.bits]
  omega
 .have h1:a<=a / 2 ^ m:=by
   rw[wYj (by omega)];have:=Int.mul_le_mul_of_nonpos_left ha hp;omega
  have h2:a / 2 ^ m<=0:=by
   have:=wYk (c:=(2 ^ m:Int)) (by omega) ha;simpa using this
  have h3:0<=k.max:=by cases k<;>simp[IntKind.max,IntKind.signed,IntKind.bits]
  omega
theorem jQQ{n:Nat}(h:n<=maxLen):inK .i64 n:=by
 rw[zZ6];unfold maxLen at h;simp[IntKind.min,IntKind.max,IntKind.signed,IntKind.bits];omega
variable{xs:List DV}
section
variable{w:World}{V:Nat->Prop}{ι:zQm}{bx:Nat->Bx}
theorem zKs:∀{cs:List Cl}{vs us:List Value},zQO w V ι bx cs vs->jQv cs=some us->vs=us
 |[],[],us,_,hd=>by simp[jQv]at hd;exact hd.symm
 |c::cs,v::vs,us,h,hd=>by
  simp only[jQv]at hd
  cases h1:c.dv with
  |none=>rw[h1]at hd;simp at hd
  |some d=>
   cases h3:d.plain with
   |none=>rw[h1]at hd;simp[h3]at hd
   |some u=>
    cases h2:jQv cs with
    |none=>rw[h1,h2]at hd;simp[h3]at hd
    |some us'=>
     rw[h1,h2]at hd;simp[h3]at hd;subst hd;rw[(zYs h.1 h1).plain h3,zKs h.2 h2]
 |[],_::_,_,h,_=>h.elim
 |_::_,[],_,h,_=>h.elim
theorem jXr{o:Nat}(hc:RepCells w V xs g o):∀(zs:List Value)(i:Nat),zK2 zs xs i ->
  ∃us:List Value,us.length=zs.length/\(∀j u,us[j]?=some u->w.cell? ⟨g,o+i+j,none⟩=some u)/\zZo w V (zYw zs xs i) us:=by
 intro zs
 induction zs with
 |nil=>exact λi _=>⟨[],rfl,λj u h=>by simp at h,trivial⟩
 |cons z zs ih=>
  intro i h;obtain⟨h1,h2⟩:=h;obtain⟨us,e1,e2,e3⟩:=ih (i+1) h2;obtain⟨u,hu,hd⟩:=hc.at_ _ _ h1;refine⟨u::us,by simp[e1],λj v hj=>?_,hd,e3⟩
  cases j with
  |zero=>simp at hj;subst hj;exact hu
  |succ j=>rw[<-e2 j v (by simpa using hj)];congr 2;omega
theorem jKe(hc:zZo w V xs vs):∀(zs:List Value)(i:Nat),zK2 zs xs i ->
  ∃us:List Value,us.length=zs.length/\(∀j u,us[j]?=some u->vs[i+j]?=some u)/\zZo w V (zYw zs xs i) us:=by
 intro zs
 induction zs with
 |nil=>exact λi _=>⟨[],rfl,λj u h=>by simp at h,trivial⟩
 |cons z zs ih=>
  intro i h;obtain⟨h1,h2⟩:=h;obtain⟨us,e1,e2,e3⟩:=ih (i+1) h2;obtain⟨u,hu,hd⟩:=zKu hc _ _ h1;refine⟨u::us,by simp[e1],λj v hj=>?_,hd,e3⟩
  cases j with
  |zero=>simp at hj;subst hj;exact hu
  |succ j=>rw[<-e2 j v (by simpa using hj)];congr 1;omega
end
variable{g:Bool}{v:Value}{k:IntKind}{V:Nat->Prop}{ι:zQm}{bx:Nat->Bx}{t':TypeId}
section
variable{P:Program}{o:Oper}{s:AS}
theorem zWu{P:Program}{k:Nat}(h:zJ2 P t=some (g,k))(w:World):
  (isAgg t).run P w=.ok g w/\∃m,(sizeOf t).run P w=.ok m w/\(g=true->m=k)/\(g=false->k=1):=by
 unfold zJ2 at h
 cases hi:P.info? t with
 |none=>rw[hi]at h;cases h
 |some i=>
  cases hd:P.underlying t with
  |none=>rw[hi,hd]at h;cases h
  |some d=>
   rw[hi,hd]at h;cases d<;>simp only[wQa,wQc]at h<;>obtain⟨rfl,rfl⟩:=h <;>
    exact⟨by simp[isAgg,wQh hd],i.size,by simp[sizeOf,typeInfo,hi],by simp,by simp⟩
theorem zKC{P:Program}{zs:List Value}(h:jUL P t=some (g,zs)):zJ2 P t=some (g,zs.length):=by
 unfold jUL at h;split at h
 .rename_i g' k z h1 h2;split at h
  .rename_i hk;simp only[wQa,wQc]at h;obtain⟨rfl,rfl⟩:=h;rw[h1];simp[hk]
  .cases h
 .cases h
theorem zX6{P:Program}{us:List Value}(hk:zJ2 P t=some (g,us.length)){b o:Nat}(hc:∀j u,us[j]?=some u->w.cell? ⟨b,o+j,none⟩=some u):(loadVar t ⟨b,o,none⟩).run P w=.ok (if g then .agg us.toArray else us.headD undef) w:=by
 obtain⟨h1,m,h2,h3,h4⟩:=zWu hk w
 cases g with
 |true=>
  have hl:=run_loadCells_list (P:=P) w ⟨b,o,none⟩ us (λj v hv=>by
   have:(⟨b,o,none⟩:Addr).add j=⟨b,o+j,none⟩:=by unfold Addr.add;split<;>simp_all
   rw[this];exact hc j v hv)
  rw[<-h3 rfl]at hl;simp only[loadVar,Sem.run_bind,h1,Result.andThen_ok,if_true,h2,hl,Sem.run_pure]
 |false=>
  have hlen:=h4 rfl
  match us,hlen,hc with
  |[u],_,hc=>
   have:=hc 0 u rfl;rw[Nat.add_zero]at this;simp[loadVar,h1,run_load,this]
theorem zXv{n:Int}(h:inK k n):zQg w V ι bx (.one (.d (.int k n))) (.int k n):=by
 simp only[zQg,zQs,RepD];exact⟨trivial,h⟩
theorem zJb{b:Bool}:zQg w V ι bx (.one (.d (.bool b))) (.bool b):=by
 simp only[zQg,zQs,RepD]
abbrev wXv:=@Array.ext'
theorem zUz{P:Program}{cs:Array Value}(h:jZJ P t cs.toList off=some v)(w:World):(part t cs off).run P w=.ok v w:=by
 unfold jZJ at h;split at h
 .rename_i k hk;obtain⟨h1,m,h2,h3,_⟩:=zWu hk w;injection h with h
  subst h;simp only[part,Sem.run_bind,h1,Result.andThen_ok,if_true,h2,Sem.run_pure,h3 rfl];congr 2;apply wXv;simp
 .rename_i k hk;obtain⟨h1,_⟩:=zWu hk w;have h':cs[off]?=some v:=by simpa using h
  simp only[part,Sem.run_bind,h1,Result.andThen_ok,wQT,if_false,h',Sem.run_pure]
 .cases h
theorem jHL{P:Program}:∀(d:Nat){t:TypeId}{x y:Value}{r:Bool},eqP P d t x y=some r->∀(k:Nat)(w:World),(Op.equalIn (d+k) t x y).run P w=.ok r w
 |0,t,x,y,r,h,_,_=>by cases h
 |d+1,t,x,y,r,h,k,w=>by
  rw[show d+1+k=(d+k)+1 from by omega];have ih:=λ{t:TypeId}{x y:Value}{r:Bool}(h:eqP P d t x y=some r)(w:World)=>jHL d h k w;unfold eqP at h;split at h
  .rename_i hu;injection h with h;subst h;exact run_equalIn_bool' w _ _ _ _ hu
  .rename_i hu;split at h
   .rename_i hk;subst hk;injection h with h;subst h;exact run_equalIn_int w _ _ _ _ _ _ hu
   .cases h
  .rename_i hu;injection h with h;subst h;exact run_equalIn_string w _ _ _ _ hu
  .rename_i fs xs ys hu;split at h
   .cases h
   .rename_i hs;have hs:P.stoodInHeld t=false:=by simpa using hs
    have hf:P.fieldsOf t=fs:=by simp[Program.fieldsOf,hu]
    rw[run_equalIn_struct w (d+k) t xs ys (by rw[hf];exact hu) hs,hf];clear hf hu;revert r
    induction fs.toList with
    |nil=>intro r h;simp only[eqFs,wQa]at h;subst h;simp[Op.eqFields]
    |cons f fs ihf=>
     intro r h;simp only[eqFs]at h
     by_cases hn:f.name = "_"
     .rw[if_pos hn]at h;simp only[Op.eqFields,hn,ne_eq,not_true_eq_false,if_false];exact ihf _ h
     .rw[if_neg hn]at h
      cases h1:jZJ P f.type xs.toList f.offset with
      |none=>rw[h1]at h;cases h
      |some a=>
       cases h2:jZJ P f.type ys.toList f.offset with
       |none=>rw[h1,h2]at h;cases h
       |some b=>
        cases h3:eqP P d f.type a b with
        |none=>rw[h1,h2]at h;simp only[h3]at h;cases h
        |some r1=>
         cases h4:eqFs P (eqP P d) xs.toList ys.toList fs with
         |none=>rw[h1,h2]at h;simp only[h3,h4]at h;cases h
         |some r2=>
          rw[h1,h2]at h;simp only[h3,h4,wQa]at h;subst h;have e4:=ihf _ h4;simp only[Op.eqFields,hn,ne_eq,not_false_eq_true,if_true,Sem.run_bind,zUz h1,zUz h2,ih h3,Result.andThen_ok];cases r1
          .simp
          .simpa using e4
  .rename_i n e xs ys hu;split at h
   .rename_i inf hi;rw[run_equalIn_array w (d+k) xs ys hu hi];clear hu;revert r
    induction List.range n with
    |nil=>intro r h;simp only[eqIs,wQa]at h;subst h;simp[Op.eqItems]
    |cons i is ihi=>
     intro r h;simp only[eqIs]at h
     cases h1:jZJ P e xs.toList (i*P.cellsOf e) with
     |none=>rw[h1]at h;cases h
     |some a=>
      cases h2:jZJ P e ys.toList (i*P.cellsOf e) with
      |none=>rw[h1,h2]at h;cases h
      |some b=>
       cases h3:eqP P d e a b with
       |none=>rw[h1,h2]at h;simp only[h3]at h;cases h
       |some r1=>
        cases h4:eqIs P (eqP P d) e xs.toList ys.toList is with
        |none=>rw[h1,h2]at h;simp only[h3,h4]at h;cases h
        |some r2=>
         rw[h1,h2]at h;simp only[h3,h4,wQa]at h;subst h;have e4:=ihi _ h4;simp only[Op.eqItems,Sem.run_bind,zUz h1,zUz h2,ih h3,Result.andThen_ok];cases r1
         .simp
         .simpa using e4
   .cases h
  .cases h
theorem jKL{P:Program}{us:List Value}{r:Bool}(h:yQ4 P t us vs=some r):P.eqGuardType P.depth t=false/\∀w,(Op.equal t (.agg us.toArray) (.agg vs.toArray)).run P w=.ok r w:=by
 unfold yQ4 at h;split at h
 .cases h
 .rename_i hg;exact⟨by simpa using hg,λw=>jHL 20 h 9980 w⟩
theorem jZ4(hu:P.underlying t=some (.pointer e))(a:Addr)(w:World):(Op.equal t (.pointer (some a)) (.pointer none)).run P w=.ok false w:=by
 have h:∀d,(Op.equalIn (d+1) t (.pointer (some a)) (.pointer none)).run P w=.ok false w:=λd=>by simp[Op.equalIn,wQh hu]
 exact h 9999
abbrev wZh:=@Bool.not_false
abbrev wQv:=@Option.map_some
abbrev wXw:=@gt_iff_lt
theorem jGJ{op:BinOp}(ho:o.op=.binOp op t x y t'):zZM P o s (yQG P s.eval op t x y):=by
 unfold yQG;split
 .rename_i xs ys hx hy;split
  .rename_i us vs h1 h2
   cases he:yQ4 P t us vs with
   |none=>exact .none
   |some r=>
    split
    .rename_i r' he';injection he' with he';subst he'
     refine .val λw0 S n ι a w h hvc=>⟨.bool r,?_,zJb⟩
     have e1:=h.eval x;have e2:=h.eval y;rw[hx]at e1;rw[hy]at e2;simp only[zQg]at e1 e2;obtain⟨c1,e1,r1⟩:=e1;obtain⟨c2,e2,r2⟩:=e2;have f1:=zKs r1 h1;have f2:=zKs r2 h2;have g1:c1=us.toArray:=by rw[<-f1]
     have g2:c2=vs.toArray:=by rw[<-f2]
     subst g1 g2;obtain⟨q1,q2⟩:=jKL he;have:=q2 w;simp[execOp,ho,e1,e2,eqGuard,q1,binOp,this]
    .rename_i r' he';injection he' with he';subst he'
     refine .val λw0 S n ι a w h hvc=>⟨.bool (!r),?_,zJb⟩
     have e1:=h.eval x;have e2:=h.eval y;rw[hx]at e1;rw[hy]at e2;simp only[zQg]at e1 e2;obtain⟨c1,e1,r1⟩:=e1;obtain⟨c2,e2,r2⟩:=e2;have f1:=zKs r1 h1;have f2:=zKs r2 h2;have g1:c1=us.toArray:=by rw[<-f1]
     have g2:c2=vs.toArray:=by rw[<-f2]
     subst g1 g2;obtain⟨q1,q2⟩:=jKL he;have:=q2 w;simp[execOp,ho,e1,e2,eqGuard,q1,binOp,this]
    .exact .none
  .exact .none
 .rename_i b off hx hy;split
  .rename_i e hu;refine .val λw0 S n ι a w h _=>⟨.bool false,?_,zJb⟩
   have e1:=h.eval x;have e2:=h.eval y;rw[hx]at e1;rw[hy]at e2;simp only[zQg,zQs]at e1 e2;obtain⟨_,g,c,_,e1⟩:=e1;have:=jZ4 hu ⟨g,off,none⟩ w;simp[execOp,ho,e1,e2.1,eqGuard,binOp,this]
  .rename_i e hu;refine .val λw0 S n ι a w h _=>⟨.bool true,?_,zJb⟩
   have e1:=h.eval x;have e2:=h.eval y;rw[hx]at e1;rw[hy]at e2;simp only[zQg,zQs]at e1 e2;obtain⟨_,g,c,_,e1⟩:=e1;have:=jZ4 hu ⟨g,off,none⟩ w;simp[execOp,ho,e1,e2.1,eqGuard,binOp,this]
  .exact .none
 .split
  .rename_i k a' k' b' h1 h2;split
   .rename_i hsh
    cases hr:jXX op k a' b' with
    |none=>exact .none
    |some r=>
     simp only[wQv];cases op<;>simp[jVU]at hsh<;>simp only[jXX,wQa]at hr<;>subst hr
     .refine .val λw0 S n ι a w h hvc=>⟨_,?_,zXv (wf_wrap _ _)⟩
      have e1:=zXr (h.eval x) h1;have e2:=zXr (h.eval y) h2;have hneg:¬b'<0:=by have:=hvc;simp at this;omega
      simp[execOp,ho,e1.1,e2.1,eqGuard,binOp,Op.shift,hneg]
     .refine .val λw0 S n ι a w h hvc=>⟨_,?_,zXv (yZ9 (zXr (h.eval x) h1).2 _)⟩
      have e1:=zXr (h.eval x) h1;have e2:=zXr (h.eval y) h2;have hneg:¬b'<0:=by have:=hvc;simp at this;omega
      simp[execOp,ho,e1.1,e2.1,eqGuard,binOp,Op.shift,hneg]
   .rename_i hsh;split
    .rename_i hk;subst hk
     cases hr:jH1 op k a' b' with
     |none=>exact .none
     |some r=>
      simp only[wQv];cases op<;>simp[jVU]at hsh<;>simp only[jH1,wQa,reduceCtorEq]at hr<;>subst hr
      all_goals
       refine .val λw0 S n ι a w h hvc=>⟨_,?_,by first|exact zJb|exact zXv (wf_wrap _ _)|exact zXv (yXa (zXr (h.eval x) h1).2 _)⟩
       have e1:=zXr (h.eval x) h1;have e2:=zXr (h.eval y) h2;have hvc':=hvc;simp only[ne_eq]at hvc';simp[execOp,ho,e1.1,e2.1,eqGuard,binOp,Op.intArith,Op.intDiv,Op.intBits,Op.intCmp,hvc']
    .exact .none
  .rename_i a' b' h1 h2
   cases hr:jH0 op a' b' with
   |none=>exact .none
   |some r=>
    simp only[wQv];cases op<;>simp only[jH0,wQa,reduceCtorEq]at hr<;>subst hr
    all_goals
     refine .val λw0 S n ι a w h hvc=>?_;have e1:=zJa (h.eval x) h1;have e2:=zJa (h.eval y) h2;simp only[RepD]at e1 e2
     first
      |(refine⟨_,?_,zJb⟩;simp[execOp,ho,e1.1,e2.1,eqGuard,binOp,Op.stringOp];done)
      |(refine⟨.string (a'++b'),?_,by simp only[zQg,zQs,RepD,true_and,ByteArray.size_append];exact hvc⟩
        have hle:¬(IntKind.i64.max<((a'.size+b'.size:Nat):Int)):=by
         have:=hvc;simp only[maxLen]at this;simp[IntKind.max,IntKind.signed,IntKind.bits];omega
        simp only[execOp,ho,e1.1,e2.1,eqGuard,binOp,Op.stringOp,Sem.run_bind,Sem.run_pure,Result.andThen_ok,wXw,hle,if_false,wZh,if_true])
  .rename_i a' b' h1 h2;split
   .rename_i hu;refine .val λw0 S n ι a w h hvc=>⟨_,?_,zJb⟩
    have e1:=zJa (h.eval x) h1;have e2:=zJa (h.eval y) h2;simp only[RepD]at e1 e2;have hq:(Op.equal t (.bool a') (.bool b')).run P w=.ok (a'==b') w:=run_equalIn_bool w 9999 t a' b' hu;simp[execOp,ho,e1,e2,eqGuard,binOp,hq]
   .rename_i hu;refine .val λw0 S n ι a w h hvc=>⟨_,?_,zJb⟩
    have e1:=zJa (h.eval x) h1;have e2:=zJa (h.eval y) h2;simp only[RepD]at e1 e2;have hq:(Op.equal t (.bool a') (.bool b')).run P w=.ok (a'==b') w:=run_equalIn_bool w 9999 t a' b' hu;simp[execOp,ho,e1,e2,eqGuard,binOp,hq]
   .exact .none
  .exact .none
end
theorem zZp(g o k:Nat):(⟨g,o,none⟩:Addr).add k=⟨g,o+k,none⟩:=by unfold Addr.add;split<;>simp_all
theorem jHi{cells:List DV}{A:Option Addr}{a m:Nat}(h:cells≠[]->∃g off,A=some ⟨g,off,none⟩/\V g/\RepCells w V cells g off)(hne:(cells.drop a).take m≠[]):∃g off,A.map (·.add a)=some ⟨g,off,none⟩/\V g/\RepCells w V ((cells.drop a).take m) g off:=by
 obtain⟨g,off,rfl,hV,hc⟩:=h (λe=>hne (by simp[e]));exact⟨g,off+a,by simp[zZp],hV,hc.part a m⟩
abbrev wXP:=@Sem.run_ite
theorem zXj{l:Int}{y:Nat}(c:BoundsCode)(h1:0<=l)(h2:l<=y):(Instr.sliceBound (.int k l) y c).run P w=.ok l.toNat w:=by
 simp only[Instr.sliceBound,asIntOf,Sem.run_bind,Sem.run_pure,Result.andThen_ok,wXP];rw[if_pos ⟨h1,h2⟩]
theorem zZw(b:Bool){len cap:Nat}{lo hi:Option Value}{l h:Int}(hl:(lo=none/\l=0)\/∃k,lo=some (.int k l))(hh:(hi=none/\h=len)\/∃k,hi=some (.int k h))(h1:0<=l)(h2:l<=h)(h3:h<=cap):(Instr.sliceBounds b len cap lo hi none).run P w=.ok (l.toNat,h.toNat,cap) w:=by
 unfold Instr.sliceBounds;have e2:∀c,(Instr.sliceBound (.int .i64 h) cap c).run P w=.ok h.toNat w:=λc=>zXj c (by omega) h3
 rcases hh with⟨rfl,rfl⟩|⟨k,rfl⟩<;>rcases hl with⟨rfl,rfl⟩|⟨k',rfl⟩
 .simp
 .simp only[Sem.run_bind,Sem.run_pure,Result.andThen_ok,zXj (P:=P) (w:=w) (k:=k') _ h1 (show l<=(len:Int) from h2)];simp[zXj (P:=P) (w:=w) (k:=k') _ h1 (show l<=(len:Int) from h2)]
 .simp[zXj (P:=P) (w:=w) (k:=k) _ (show 0<=h by omega) h3]
 .simp[zXj (P:=P) (w:=w) (k:=k) _ (show 0<=h by omega) h3,zXj (P:=P) (w:=w) (k:=k') (y:=h.toNat) _ h1 (show l<=(h.toNat:Int) by omega)]
variable{g b:Nat}{n:Dom}{x y:Operand}{a:Act}{lo hi mx:Option Operand}{S:zQ3}{args:Array Operand}{ts:Array TypeId}
section
variable{P:Program}{o:Oper}{s:AS}
theorem zXh(h:RepS w0 S n s ι a w){x:Option Operand}{d m:Int}(hb:zYU s.eval x d=some m):
  ((x.map a.eval)=none/\m=d)\/∃k,(x.map a.eval)=some (.int k m):=by
 unfold zYU at hb
 cases x with
 |none=>left;simp at hb;exact⟨rfl,hb.symm⟩
 |some x=>
  right;simp only at hb;split at hb
  .rename_i k m' hx;injection hb with hb;subst hb
   exact⟨k,by simp[(zXr (h.eval x) hx).1]⟩
  .cases hb
abbrev wQ6:=@Option.map_none
theorem jJM(ho:o.op=.slice t x lo hi mx):zZM P o s (zWq P s.eval t x lo hi mx):=by
 unfold zWq;split
 .rename_i e m cells hu hx;split
  .rename_i i l h hinf hl hh;refine .val λw0 S n ι a w hr hvc=>?_;obtain⟨v1,v2,v3⟩:=hvc;have hd:=zJa (hr.eval x) hx;simp only[RepD]at hd;obtain⟨A,cap,e1,e2,e3,e4⟩:=hd;have hb:=zZw (P:=P) (w:=w) true (zXh hr hl) (zXh hr hh) v1 v2 (show h<=(cap:Int) by omega);have hsz:(sizeOf e).run P w=.ok i.size w:=by simp[sizeOf,typeInfo,hinf]
   refine⟨.slice (if cap=l.toNat then A else A.map (·.add (l.toNat*i.size))) (h.toNat-l.toNat) (cap-l.toNat),?_,?_⟩
   .simp only[execOp,ho,wQ6,e1,Instr.sliceAt,Sem.run_bind,wQh hu,Result.andThen_ok,Instr.slice,hb,hsz,Sem.run_pure]
   .simp only[zQg,zQs,RepD];refine⟨_,_,by rw[show(h-l).toNat=h.toNat-l.toNat from by omega],by omega,by omega,λhne=>?_⟩;have hne':h.toNat-l.toNat≠0:=λe=>hne (by rw[show(h-l).toNat=0 from by omega];simp);rw[if_neg (by omega)];exact jHi e4 hne
  .exact .none
 .rename_i str hu hx;split
  .rename_i l h hl hh;refine .val λw0 S n ι a w hr hvc=>?_;obtain⟨v1,v2,v3⟩:=hvc;have hd:=zJa (hr.eval x) hx;simp only[RepD]at hd;have hb:=zZw (P:=P) (w:=w) false (zXh hr hl) (zXh hr hh) v1 v2 v3;refine⟨.string (str.extract l.toNat h.toNat),?_,?_⟩
   .simp only[execOp,ho,wQ6,hd.1,Instr.sliceAt,Sem.run_bind,wQh hu,Result.andThen_ok,Instr.slice,hb,Sem.run_pure,Option.isSome_none,wQT,if_false]
   .simp only[zQg,zQs,RepD,true_and];have:=hd.2;rw[ByteArray.size_extract];omega
  .exact .none
 .exact .none
theorem zGD{w:World}{V:Nat->Prop}:∀{xs:List DV}{l:List Value}(k:Nat),zZo w V xs l->zZo w V (xs.take k) (l.take k)
 |_,_,0,_=>by simp only[List.take_zero];trivial
 |[],[],_+1,_=>trivial
 |_::_,_::_,k+1,⟨h1,h2⟩=>⟨h1,zGD k h2⟩
 |[],_::_,_+1,h=>h.elim
 |_::_,[],_+1,h=>h.elim
abbrev wQl:=@List.length_take
theorem RepS.trunc(h:RepS w0 S n s ι a w){e size:Nat}(hB:s.bx b=.row e size xs)(k:Nat):RepS w0 S n (s.setB b (.row e size (xs.take k))) ι a w:=by
 have hlive:∀x,((s.setB b (.row e size (xs.take k))).bx x).live=true->(s.bx x).live=true:=λx hl=>by
  by_cases e:x=b
  .subst e;rw[hB];rfl
  .simp only[AS.setB,if_neg e]at hl;exact hl
 have hkeep:zZJ w (Seen S w0.heap.size s.bx ι) w (Seen S w0.heap.size (s.setB b (.row e size (xs.take k))).bx ι):=λg off u hV hu=>⟨⟨hV.1,λx c hl e=>hV.2 x c (hlive x hl) e⟩,hu⟩
 have hstay:zWD ι s.bx ι (s.setB b (.row e size (xs.take k))).bx:=λx hk=>by
  refine⟨?_,rfl⟩;by_cases e:x=b
  .simp[AS.setB,e,Bx.known]
  .simpa [AS.setB,e]using hk
 refine h.move (bx':=(s.setB b (.row e size (xs.take k))).bx) h.bel (zYR (Nat.le_refl _) λ_ _ _ _=>rfl) hstay hkeep (λx=>?_) (λx g c hl e=>h.own x g c (hlive x hl) e) (λx x' g c c' hl hl' hxx e=>h.dist x x' g c c' (hlive x hl) (hlive x' hl') hxx e);by_cases e:x=b
 .subst e;right;have hb:=h.bx x;rw[hB]at hb;have e2:(s.setB x (.row e size (xs.take k))).bx x=.row e size (xs.take k):=by simp[AS.setB]
  rw[e2]
  rcases hb with⟨h1,h2⟩|⟨g,cap,cur,h1,h2,h3,h4,h5⟩
  .exact .inl ⟨h1,by rw[h2];simp⟩
  .refine .inr ⟨g,cap,cur,h1,h2,h3,h4,?_⟩;have:=zGD k (h5.keep hkeep);rw[List.take_take]at this;rwa [wQl]
 .left;exact⟨by simp[AS.setB,e],λ_ _ _ _=>rfl⟩
abbrev wQs:=@List.map_nil
abbrev wQi:=@List.map_cons
theorem jJJ{n:Nat}(ho:o.op=.slice t x lo hi mx)(hx:s.eval x=.one (.ref b n)):zZM P o s (zWn P s.eval t b n lo hi mx):=by
 unfold zWn;split
 .rename_i e hu;split
  .rename_i i hh hinf hh2;intro e' he vc v bs hf;injection he with he;subst he
   simp only[wQi,wQs]at hf |-
   cases hB:s.bx b with
   |row e' size xs=>
    rw[hB]at hf;simp only at hf;split at hf
    .rename_i hsz0;subst hsz0;simp only[wQa,wQc]at hf;obtain⟨rfl,rfl,rfl⟩:=hf;intro w0 S n' ι a w K Q hr hvc hK;obtain⟨v1,v2⟩:=hvc;have h:=hr.eval x;rw[hx]at h;simp only[zQg,zQs]at h;obtain⟨hkn,h⟩:=h;have hsz:(sizeOf e).run P w=.ok i.size w:=by simp[sizeOf,typeInfo,hinf]
     have ht:=hr.trunc hB (hh.toNat*i.size);unfold Oper.wp
     rcases h with⟨q1,q2,q3⟩|⟨g,cap,q1,q2,q3⟩
     .have hz:hh=0:=by omega
      subst hz;subst q2;have hb:=zZw (P:=P) (w:=w) (len:=0) (cap:=0) (lo:=none) (l:=0) true (.inl ⟨rfl,rfl⟩) (zXh hr hh2) (Int.le_refl _) (Int.le_refl _) (by omega);have hrun:(execOp a.eval o).run P w=.ok (.value (.slice none 0 0)) w:=by
       simp only[execOp,ho,wQ6,q3,Instr.sliceAt,Sem.run_bind,wQh hu,Result.andThen_ok,Instr.slice];rw[hb];simp[hsz]
      rw[hrun];exact hK ι _ w ht (by simp only[zQg,zQs];exact⟨by simp[AS.setBs,AS.setB,Bx.known],.inl ⟨q1,rfl,trivial⟩⟩)
     .have hb:=zZw (P:=P) (w:=w) (len:=n) (cap:=cap) (lo:=none) (l:=0) true (.inl ⟨rfl,rfl⟩) (zXh hr hh2) (Int.le_refl _) v1 (show hh<=(cap:Int) by omega);have hrun:(execOp a.eval o).run P w=.ok (.value (.slice (some ⟨g,0,none⟩) hh.toNat cap)) w:=by
       simp only[execOp,ho,wQ6,q2,Instr.sliceAt,Sem.run_bind,wQh hu,Result.andThen_ok,Instr.slice];rw[hb];simp[hsz,zZp]
      rw[hrun];exact hK ι _ w ht (by simp only[zQg,zQs];exact⟨by simp[AS.setBs,AS.setB,Bx.known],.inr ⟨g,cap,q1,rfl,by omega⟩⟩)
    .cases hf
   |fresh=>rw[hB]at hf;cases hf
   |gone=>rw[hB]at hf;cases hf
   |cells cs=>rw[hB]at hf;cases hf
   |ice cs=>rw[hB]at hf;cases hf
  .exact .none
 .exact .none
theorem jJK{n:Nat}(ho:o.op=.slice t x lo hi mx)(hx:s.eval x=.one (.ref b n)):zZM P o s (zWo P s.eval t b n lo hi mx):=by
 unfold zWo;split
 .rename_i e hu;split
  .rename_i i l hh hinf hl hh2;refine .val λw0 S k ι a w hr hv=>?_;obtain⟨v1,v2,v3⟩:=hv;have h:=hr.eval x;rw[hx]at h;simp only[zQg,zQs]at h;obtain⟨hkn,h⟩:=h;have hsz:(sizeOf e).run P w=.ok i.size w:=by simp[sizeOf,typeInfo,hinf]
   have el:(hh-l).toNat=hh.toNat-l.toNat:=by omega
   rcases h with⟨q1,q2,q3⟩|⟨g,cap,q1,q2,q3⟩
   .have hz:hh=0:=by omega
    have hz2:l=0:=by omega
    subst hz hz2;subst q2;have hb:=zZw (P:=P) (w:=w) (len:=0) (cap:=0) true (zXh hr hl) (zXh hr hh2) (Int.le_refl _) (Int.le_refl _) (by omega);refine⟨.slice none 0 0,?_,by simp only[zQg,zQs];exact⟨hkn,.inl ⟨rfl,_,_,rfl⟩⟩⟩;simp only[execOp,ho,wQ6,q3,Instr.sliceAt,Sem.run_bind,wQh hu,Result.andThen_ok,Instr.slice];rw[hb];simp[hsz]
   .have hb:=zZw (P:=P) (w:=w) (len:=n) (cap:=cap) true (zXh hr hl) (zXh hr hh2) v1 v2 (show hh<=(cap:Int) by omega);by_cases hc:cap=l.toNat
    .refine⟨.slice (some ⟨g,0,none⟩) (hh.toNat-l.toNat) (cap-l.toNat),?_,?_⟩
     .simp only[execOp,ho,wQ6,q2,Instr.sliceAt,Sem.run_bind,wQh hu,Result.andThen_ok,Instr.slice];rw[hb];simp[hsz,hc]
     .simp only[zQg,zQs];refine⟨hkn,.inl ⟨by omega,some ⟨g,0,none⟩,cap-l.toNat,?_⟩⟩;rw[show hh.toNat-l.toNat=0 by omega]
    .refine⟨.slice (some ⟨g,l.toNat*i.size,none⟩) (hh.toNat-l.toNat) (cap-l.toNat),?_,?_⟩
     .simp only[execOp,ho,wQ6,q2,Instr.sliceAt,Sem.run_bind,wQh hu,Result.andThen_ok,Instr.slice];rw[hb];simp[hsz,hc,zZp]
     .simp only[zQg,zQs];exact⟨hkn,.inr ⟨g,cap,cap-l.toNat,q1,by rw[el]⟩⟩
  .exact .none
 .exact .none
theorem jVq(ho:o.op=.slice t x lo hi mx):zZM P o s (jYj P s.eval t x lo hi mx):=by
 unfold jYj;split
 .rename_i b n hx;split
  .exact jJJ ho hx
  .exact jJK ho hx
 .exact jJM ho
theorem jJL(ho:o.op=.slice t x lo hi mx):zZM P o s (zWp P s.eval t x lo hi mx):=by
 unfold zWp;split
 .rename_i b n e hx hu;split
  .rename_i i hh hinf hh2;refine .val λw0 S k ι a w hr hv=>?_;obtain⟨v1,v2⟩:=hv;have h:=hr.eval x;rw[hx]at h;simp only[zQg,zQs]at h;obtain⟨hkn,h⟩:=h;have hsz:(sizeOf e).run P w=.ok i.size w:=by simp[sizeOf,typeInfo,hinf]
   rcases h with⟨q1,q2,q3⟩|⟨g,cap,q1,q2,q3⟩
   .have hz:hh=0:=by omega
    subst hz;subst q2;have hb:=zZw (P:=P) (w:=w) (len:=0) (cap:=0) (lo:=none) (l:=0) true (.inl ⟨rfl,rfl⟩) (zXh hr hh2) (Int.le_refl _) (Int.le_refl _) (by omega);refine⟨.slice none 0 0,?_,by simp only[zQg,zQs];exact⟨hkn,.inl ⟨q1,rfl,trivial⟩⟩⟩;simp only[execOp,ho,wQ6,q3,Instr.sliceAt,Sem.run_bind,wQh hu,Result.andThen_ok,Instr.slice];rw[hb];simp[hsz]
   .have hb:=zZw (P:=P) (w:=w) (len:=n) (cap:=cap) (lo:=none) (l:=0) true (.inl ⟨rfl,rfl⟩) (zXh hr hh2) (Int.le_refl _) v1 (show hh<=(cap:Int) by omega);refine⟨.slice (some ⟨g,0,none⟩) hh.toNat cap,?_,by simp only[zQg,zQs];exact⟨hkn,.inr ⟨g,cap,q1,rfl,by omega⟩⟩⟩;simp only[execOp,ho,wQ6,q2,Instr.sliceAt,Sem.run_bind,wQh hu,Result.andThen_ok,Instr.slice];rw[hb];simp[hsz,zZp]
  .exact .none
 .exact .none
theorem jQl{f:Nat}(ho:o.op=.fieldAddr t x f):zZM P o s (zKY P s.eval t x f):=by
 unfold zKY;split
 .rename_i fs hu;split
  .rename_i fd hf;split
   .rename_i i hi;split
    .exact .none
    .rename_i hne;have hsz:∀w,(sizeOf fd.type).run P w=.ok i.size w:=λw=>by simp[sizeOf,typeInfo,hi]
     split
     .rename_i b off hx;refine .val λw0 S n ι a w hr _=>?_;have h:=hr.eval x;rw[hx]at h;simp only[zQg,zQs]at h;obtain⟨hk,g,c,e,ev⟩:=h;refine⟨.pointer (some ⟨g,off+fd.offset,none⟩),?_,by simp only[zQg,zQs];exact⟨hk,g,c,e,rfl⟩⟩;simp[execOp,ho,ev,Instr.fieldAt,wQh hu,hf,Instr.sureAddr,fieldPlace,hsz,hne,zZp]
     .rename_i cs off hx;refine .val λw0 S n ι a w hr _=>?_;have h:=hr.eval x;rw[hx]at h;simp only[zQg,zQs]at h;obtain⟨g,o',ev,hl⟩:=h;refine⟨.pointer (some ⟨g,o'+(off+fd.offset),none⟩),?_,by simp only[zQg,zQs];exact⟨g,o',rfl,hl⟩⟩;simp[execOp,ho,ev,Instr.fieldAt,wQh hu,hf,Instr.sureAddr,fieldPlace,hsz,hne,zZp,Nat.add_assoc]
     .exact .none
   .exact .none
  .exact .none
 .exact .none
theorem zJW{cs:List Cl}(h:zQO w V ι bx cs vs)(i m:Nat):zQO w V ι bx ((cs.drop i).take m) ((vs.drop i).take m):=by
 rw[jQn]at h |-;refine⟨by simp[h.1],λj c v hc hv=>?_⟩;rw[wQI]at hc hv;split at hc
 .rename_i hj;rw[if_pos hj]at hv;rw[wZp]at hc hv;exact h.2 _ _ _ hc hv
 .cases hc
abbrev wZ9:=@Array.getElem?_eq_getElem
theorem jVt{f:Nat}(ho:o.op=.field t x f):zZM P o s (jYl P s.eval t x f):=by
 unfold jYl;split
 .rename_i fs cs hu hx;split
  .rename_i fd hf;split
   .rename_i g k hk;split
    .rename_i hle
     cases hag:zVw g ((cs.drop fd.offset).take k) with
     |none=>exact .none
     |some v=>
      refine .val λw0 S n ι a w hr _=>?_;have h:=hr.eval x;rw[hx]at h;simp only[zQg]at h;obtain⟨cur,e,hc⟩:=h;have hlen:=zZr hc;have hp:=zJd (zJW hc fd.offset k) hag;refine⟨_,?_,hp.1⟩;obtain⟨hA,m,hsz,hg1,hg2⟩:=zWu hk w
      cases g with
      |true=>
       simp only[execOp,ho,e,Instr.field,Sem.run_bind,wQh hu,Result.andThen_ok,hf,asAgg,Sem.run_pure,part,hA,if_true,hsz,hg1 rfl];congr 3;apply wXv;simp
      |false=>
       obtain rfl:=hg2 rfl;have hlt:fd.offset<cur.size:=by simp at hlen;omega
       simp only[execOp,ho,e,Instr.field,Sem.run_bind,wQh hu,Result.andThen_ok,hf,asAgg,Sem.run_pure,part,hA,wQT,if_false,wZ9 hlt];simp[List.take_one,List.head?_drop,hlt]
    .exact .none
   .exact .none
  .exact .none
 .exact .none
theorem Lies.cells{o:Nat}(h:Lies w V xs g o):RepCells w V xs g o:=by
 cases xs with
 |nil=>simp only[RepCells]
 |cons d ds=>exact(h (by simp)).2
theorem jQk(ho:o.op=.indexAddr t x y):zZM P o s (zKX P s.eval t x y):=by
 unfold zKX;split
 .rename_i n e k i hu hy;split
  .rename_i inf hi;have hsz:∀w,(sizeOf e).run P w=.ok inf.size w:=λw=>by simp[sizeOf,typeInfo,hi]
   split
   .rename_i b off hx;refine .val λw0 S _ ι a w hr hvc=>?_;have h:=hr.eval x;rw[hx]at h;simp only[zQg,zQs]at h;obtain⟨hk,g,c,e',ev⟩:=h;have h2:=(zXr (hr.eval y) hy).1;refine⟨.pointer (some ⟨g,off+i.toNat*inf.size,none⟩),?_,by simp only[zQg,zQs];exact⟨hk,g,c,e',rfl⟩⟩;simp[execOp,ho,ev,h2,Instr.indexAt,asIntOf,wQh hu,Instr.sureAddr,hsz,hvc.1,hvc.2,zZp]
   .rename_i cs off hx;refine .val λw0 S _ ι a w hr hvc=>?_;have h:=hr.eval x;rw[hx]at h;simp only[zQg,zQs]at h;obtain⟨g,o',ev,hl⟩:=h;have h2:=(zXr (hr.eval y) hy).1;refine⟨.pointer (some ⟨g,o'+(off+i.toNat*inf.size),none⟩),?_,by simp only[zQg,zQs];exact⟨g,o',rfl,hl⟩⟩;simp[execOp,ho,ev,h2,Instr.indexAt,asIntOf,wQh hu,Instr.sureAddr,hsz,hvc.1,hvc.2,zZp,Nat.add_assoc]
   .exact .none
  .exact .none
 .rename_i e k i hu hy;split
  .rename_i inf hi;have hsz:∀w,(sizeOf e).run P w=.ok inf.size w:=λw=>by simp[sizeOf,typeInfo,hi]
   split
   .rename_i n cs hx;refine .val λw0 S _ ι a w hr hvc=>?_;have h:=hr.eval x;rw[hx]at h;simp only[zQg,zQs,RepD]at h;obtain⟨A,cap,ev,_,_,hl⟩:=h;have h2:=(zXr (hr.eval y) hy).1;have hne:cs≠[]:=λe=>by have:=hvc.2.2;rw[e]at this;simp at this
    obtain⟨g,off,rfl,hV,hc⟩:=hl hne;refine⟨.pointer (some ⟨g,off+i.toNat*inf.size,none⟩),?_,by simp only[zQg,zQs];exact⟨g,off,rfl,λ_=>⟨hV,hc⟩⟩⟩;simp[execOp,ho,ev,h2,Instr.indexAt,asIntOf,wQh hu,hsz,hvc.1,hvc.2.1,zZp]
   .rename_i b n hx;refine .val λw0 S _ ι a w hr hvc=>?_;have h:=hr.eval x;rw[hx]at h;simp only[zQg,zQs]at h;obtain⟨hk,h⟩:=h;have h2:=(zXr (hr.eval y) hy).1
    rcases h with⟨_,h0,_⟩|⟨g,cap,e',ev,_⟩
    .have:=hvc.2;omega
    .refine⟨.pointer (some ⟨g,i.toNat*inf.size,none⟩),?_,by simp only[zQg,zQs];exact⟨hk,g,cap,e',rfl⟩⟩;simp[execOp,ho,ev,h2,Instr.indexAt,asIntOf,wQh hu,hsz,hvc.1,hvc.2,zZp]
   .exact .none
  .exact .none
 .exact .none
abbrev wXa:=@List.ext_getElem?
abbrev wXQ:=@Array.getElem?_toList
theorem jVs(ho:o.op=.index t x y):zZM P o s (jYk P s.eval t x y):=by
 unfold jYk;split
 .rename_i n e cs k i hu hx hy;split
  .rename_i inf xs g zs hi hd hz
   cases hag:zVw g ((zYw zs xs (i.toNat*inf.size)).map .d) with
   |none=>exact .none
   |some v=>
    refine .val λw0 S _ ι a w hr hvc=>?_;have h:=hr.eval x;rw[hx]at h;simp only[zQg]at h;obtain⟨cur,ev,hc⟩:=h;have h2:=(zXr (hr.eval y) hy).1;obtain⟨us,e1,e2,e3⟩:=jKe (zVK hc hd) zs _ hvc.2.2;have hp:=zJd (ι:=ι) (bx:=s.bx) (zKt e3) hag;refine⟨_,?_,hp.1⟩;have hk:=zKC hz;obtain⟨hA,m,hsz,hg1,hg2⟩:=zWu hk w;have hsz':(sizeOf e).run P w=.ok inf.size w:=by simp[sizeOf,typeInfo,hi]
    have hm:m=inf.size:=by rw[hsz]at hsz';injection hsz'
    have hcond:0<=i/\i<(n:Int):=⟨hvc.1,hvc.2.1⟩
    cases g with
    |true=>
     have hlen:zs.length=inf.size:=by rw[<-hm,hg1 rfl]
     simp only[execOp,ho,ev,h2,Instr.index,asIntOf,Sem.run_bind,Sem.run_pure,wQh hu,Result.andThen_ok,wXP,if_pos hcond,hsz',part,hA,if_true];congr 3;apply wXv;simp only[Array.toList_extract,List.extract_eq_take_drop];rw[show i.toNat*inf.size+inf.size-i.toNat*inf.size=inf.size from by omega];apply wXa;intro j;rw[wQI,wZp];by_cases hj:j<inf.size
     .rw[if_pos hj];have hj':j<us.length:=by omega
      rw[e2 j us[j] (by simp[hj'])];simp[hj']
     .rw[if_neg hj];simp;omega
    |false=>
     have hlen:=hg2 rfl
     match us,e1,e2 with
     |[u],_,e2=>
      have:=e2 0 u rfl;rw[Nat.add_zero]at this;have hcell:cur[i.toNat*inf.size]?=some u:=by simpa using this
      simp only[execOp,ho,ev,h2,Instr.index,asIntOf,Sem.run_bind,Sem.run_pure,wQh hu,Result.andThen_ok,wXP,if_pos hcond,hsz',part,hA,wQT,if_false,hcell];simp
     |[],h0,_=>simp at h0;omega
     |_::_::_,h0,_=>simp at h0;omega
  .rename_i inf zs hi hd hz
   cases hag:zVw false ((cs.drop (i.toNat*inf.size)).take 1) with
   |none=>exact .none
   |some v=>
    refine .val λw0 S _ ι a w hr hvc=>?_;have h:=hr.eval x;rw[hx]at h;simp only[zQg]at h;obtain⟨cur,ev,hc⟩:=h;have h2:=(zXr (hr.eval y) hy).1;have hlen:=zZr hc;have hp:=zJd (zJW hc (i.toNat*inf.size) 1) hag;refine⟨_,?_,hp.1⟩;obtain⟨hA,m,hsz,hg1,hg2⟩:=zWu (zKC hz) w;have hsz':(sizeOf e).run P w=.ok inf.size w:=by simp[sizeOf,typeInfo,hi]
    have hlt:i.toNat*inf.size<cur.size:=by
     apply Nat.lt_of_not_le;intro hge;rw[List.drop_of_length_le (by rw[hlen];simpa using hge)]at hag;simp[zVw]at hag
    simp only[execOp,ho,ev,h2,Instr.index,asIntOf,Sem.run_bind,Sem.run_pure,wQh hu,Result.andThen_ok,wXP,if_pos hvc,hsz',part,hA,wQT,if_false,wZ9 hlt];simp[List.take_one,List.head?_drop,hlt]
  .exact .none
 .rename_i str k i hu hx hy;refine .val λw0 S _ ι a w hr hvc=>?_;have h:=hr.eval x;rw[hx]at h;simp only[zQg,zQs,RepD]at h;have h2:=(zXr (hr.eval y) hy).1;have hlt:i.toNat<str.size:=by omega
  refine⟨.int .u8 (str[i.toNat]).toNat,?_,?_⟩
  .have hget:str[i.toNat]?=some str[i.toNat]:=by simp[hlt]
   simp only[execOp,ho,h.1,h2,Instr.index,asIntOf,Sem.run_bind,Sem.run_pure,wQh hu,Result.andThen_ok,if_pos hvc.1,hget]
  .have:str.data.toList[i.toNat]?.getD 0=str[i.toNat]:=by
    have:i.toNat<str.data.size:=hlt;rw[wXQ,wZ9 this];rfl
   rw[this];refine zXv ?_;rw[zZ6];have:=str[i.toNat].toNat_lt;simp[IntKind.min,IntKind.max,IntKind.signed,IntKind.bits];omega
 .exact .none
theorem zQT{b:Builtin}(ho:o.op=.call { callee:=.builtin b,args:=args,argTypes:=ts })(a:Act)(w:World)(w':World)(v:Value)(h:∀cs,(builtin b ts o.type cs (args.map a.eval)).run P w=.ok (.value v) w'):(execOp a.eval o).run P w=.ok (.value v) w':=by
 simp only[execOp,ho,resolve,Sem.run_bind,Sem.run_pure,Result.andThen_ok,invoke,h]
abbrev wZy:=@Option.bind_eq_some_iff
theorem jGH(ho:o.op=.call { callee:=.builtin .len,args:=#[x],argTypes:=ts }):zZM P o s (yZ1 P ts (s.eval x)):=by
 unfold yZ1;have hts:∀{d:TypeDesc},(ts[0]?).bind P.underlying=some d->∃t,ts[0]?=some t/\P.underlying t=some d:=λh=>wZy.1 h;split
 .rename_i n e hu;obtain⟨t,h1,h2⟩:=hts hu;refine .val λw0 S _ ι a w hr hvc=>⟨.int .i64 n,zQT ho a w w _ λcs=>?_,zXv hvc⟩
  simp[builtin,Builtin.len_,h1,wQh h2,goInt]
 .rename_i e b n hu hx;obtain⟨t,h1,h2⟩:=hts hu;refine .val λw0 S _ ι a w hr hvc=>⟨.int .i64 n,zQT ho a w w _ λcs=>?_,zXv (jQQ hvc)⟩
  have h:=hr.eval x;rw[hx]at h;simp only[zQg,zQs]at h;obtain⟨_,h⟩:=h
  rcases h with⟨_,rfl,ev⟩|⟨g,cap,_,ev,_⟩
  .simp[builtin,Builtin.len_,h1,wQh h2,goInt,ev]
  .simp[builtin,Builtin.len_,h1,wQh h2,goInt,ev]
 .rename_i e hu hne;split
  .rename_i n cs hx;obtain⟨t,h1,h2⟩:=hts hu;refine .val λw0 S _ ι a w hr hvc=>?_;have hd:=zJa (hr.eval x) hx;simp only[RepD]at hd;obtain⟨A,cap,ev,l1,l2,_⟩:=hd;refine⟨.int .i64 n,zQT ho a w w _ λcs=>?_,zXv (jQQ (wQJ l1 l2))⟩;simp[builtin,Builtin.len_,h1,wQh h2,goInt,ev]
  .exact .none
 .rename_i str hu hx;obtain⟨t,h1,h2⟩:=hts hu;refine .val λw0 S _ ι a w hr hvc=>?_;have h:=hr.eval x;rw[hx]at h;simp only[zQg,zQs,RepD]at h;refine⟨.int .i64 str.size,zQT ho a w w _ λcs=>?_,zXv (jQQ h.2)⟩;simp[builtin,Builtin.len_,h1,wQh h2,goInt,h.1]
 .exact .none
theorem zG6{mx:Bool}(ho:o.op=.call { callee:=.builtin (if mx then .max else .min),args:=#[x,y],argTypes:=ts }):zZM P o s (zHN mx (s.eval x) (s.eval y)):=by
 unfold zHN;split
 .rename_i k i k' j hx hy;split
  .rename_i hk;subst hk;refine .val λw0 S _ ι a w hr hvc=>?_;have h1:=hr.eval x;rw[hx]at h1;have h2:=hr.eval y;rw[hy]at h2;simp only[zQg,zQs,RepD]at h1 h2;have i1:=(zZ6 _ _).1 h1.2;have i2:=(zZ6 _ _).1 h2.2
   cases mx with
   |true=>
    refine⟨.int k (max i j),zQT ho a w w _ λcs=>?_,zXv ((zZ6 _ _).2 (by omega))⟩;have:=run_max_int2 (P:=P) w ts o.type k k i j;rw[show(if j>i then j else i)=max i j from by omega]at this;simp[builtin,h1.1,h2.1,this]
   |false=>
    refine⟨.int k (min i j),zQT ho a w w _ λcs=>?_,zXv ((zZ6 _ _).2 (by omega))⟩;have:=run_min_int2 (P:=P) w ts o.type k k i j;rw[show(if j<i then j else i)=min i j from by omega]at this;simp[builtin,h1.1,h2.1,this]
  .exact .none
 .exact .none
theorem jUr{z:Operand}(ho:o.op=.call { callee:=.builtin .max,args:=#[x,y,z],argTypes:=ts }):zZM P o s (jG2 (s.eval x) (s.eval y) (s.eval z)):=by
 unfold jG2;split
 .rename_i k i k' j k'' l hx hy hz;split
  .rename_i hk;obtain⟨e1,e2⟩:=hk;subst e1 e2;refine .val λw0 S _ ι a w hr hvc=>?_;have h1:=hr.eval x;rw[hx]at h1;have h2:=hr.eval y;rw[hy]at h2;have h3:=hr.eval z;rw[hz]at h3;simp only[zQg,zQs,RepD]at h1 h2 h3;have i1:=(zZ6 _ _).1 h1.2;have i2:=(zZ6 _ _).1 h2.2;have i3:=(zZ6 _ _).1 h3.2;refine⟨.int k (max (max i j) l),zQT ho a w w _ λcs=>?_,zXv ((zZ6 _ _).2 (by omega))⟩;have:(Builtin.max_ ts o.type #[.int k i,.int k j,.int k l]).run P w=.ok (.int k (if l>(if j>i then j else i) then l else(if j>i then j else i))) w:=by simp[Builtin.max_,Builtin.max2]
   rw[show(if l>(if j>i then j else i) then l else(if j>i then j else i))=max (max i j) l from by omega]at this;simp[builtin,h1.1,h2.1,h3.1,this]
  .exact .none
 .exact .none
end
theorem zJJ{α:Type}:∀(ys xs:List α)(i:Nat),(sets xs i ys).length=xs.length
 |[],_,_=>rfl
 |y::ys,xs,i=>by rw[sets,zJJ ys];simp
abbrev wQL:=@List.length_set
abbrev wYl:=@List.getElem?_set
abbrev wQe:=@List.length_append
abbrev wQM:=@Nat.min_eq_left
abbrev wQC:=@List.length_cons
abbrev wQt:=@List.getElem?_cons_succ
theorem zGn{α:Type}:∀(ys xs:List α)(i:Nat),i+ys.length<=xs.length->sets xs i ys=xs.take i++ys++xs.drop (i+ys.length)
 |[],xs,i,_=>by simp[sets]
 |y::ys,xs,i,h=>by
  have hi:i<xs.length:=by simp at h;omega
  rw[sets,zGn ys _ _ (by simp at h |-;omega)];apply wXa;intro j;simp only[List.getElem?_append,wQe,wQl,wQL,wQI,wZp,wYl,wQC];have h':i+(ys.length+1)<=xs.length:=by simpa using h
  by_cases h1:j<i
  .simp[h1,wQM (show i<=xs.length by omega),wQM (show i+1<=xs.length by omega),show j<i+1+ys.length by omega,show j<i+(ys.length+1) by omega,show j<i+1 by omega,show i≠j by omega]
  .by_cases h2:j=i
   .subst h2;simp[wQM (show j<=xs.length by omega),wQM (show j+1<=xs.length by omega),hi];intro hh;omega
   .by_cases h3:j<i+1+ys.length
    .simp[h1,wQM (show i<=xs.length by omega),wQM (show i+1<=xs.length by omega),h3,show ¬j<i+1 by omega,show j<i+(ys.length+1) by omega];rw[show j-i=(j-(i+1))+1 from by omega,wQt]
    .simp[h1,wQM (show i<=xs.length by omega),wQM (show i+1<=xs.length by omega),h3,show ¬j<i+(ys.length+1) by omega];rw[show i+1+ys.length+(j-(i+1+ys.length))=i+(ys.length+1)+(j-(i+(ys.length+1))) from by omega,if_neg (by omega)]
section
variable{w:World}{V:Nat->Prop}{ι:zQm}{bx:Nat->Bx}
theorem jGO:∀{cs:List Cl}{vs:List Value},zQO w V ι bx cs vs->∀(i:Nat){c:Cl}{v:Value},zQs w V ι bx c v->zQO w V ι bx (cs.set i c) (vs.set i v)
 |[],[],_,_,_,_,_=>trivial
 |_::_,_::_,h,0,_,_,hc=>⟨hc,h.2⟩
 |_::_,_::_,h,i+1,_,_,hc=>⟨h.1,jGO h.2 i hc⟩
 |[],_::_,h,_,_,_,_=>h.elim
 |_::_,[],h,_,_,_,_=>h.elim
theorem jX9:∀{xs:List Cl}{us:List Value},zQO w V ι bx xs us->∀{cs:List Cl}{vs:List Value},zQO w V ι bx cs vs->∀(i:Nat),zQO w V ι bx (sets cs i xs) (sets vs i us)
 |[],[],_,_,_,h,_=>h
 |_::_,_::_,hx,_,_,h,i=>jX9 hx.2 (jGO h i hx.1) (i+1)
 |[],_::_,hx,_,_,_,_=>hx.elim
 |_::_,[],hx,_,_,_,_=>hx.elim
theorem jWv:∀{cs:List DV}{vs:List Value},zZo w V cs vs->∀(i:Nat){c:DV}{v:Value},RepD w V c v->zZo w V (cs.set i c) (vs.set i v)
 |[],[],_,_,_,_,_=>trivial
 |_::_,_::_,h,0,_,_,hc=>⟨hc,h.2⟩
 |_::_,_::_,h,i+1,_,_,hc=>⟨h.1,jWv h.2 i hc⟩
 |[],_::_,h,_,_,_,_=>h.elim
 |_::_,[],h,_,_,_,_=>h.elim
theorem jQm:∀{xs:List DV}{us:List Value},zZo w V xs us->∀{cs:List DV}{vs:List Value},zZo w V cs vs->∀(i:Nat),zZo w V (sets cs i xs) (sets vs i us)
 |[],[],_,_,_,h,_=>h
 |_::_,_::_,hx,_,_,h,i=>jQm hx.2 (jWv h i hx.1) (i+1)
 |[],_::_,hx,_,_,_,_=>hx.elim
 |_::_,[],hx,_,_,_,_=>hx.elim
theorem jXx(off:Nat):∀(l:List Value)(k:Nat)(cur:Array Value),((l.zipIdx k).foldl (λcs (p:Value × Nat)=>cs.setIfInBounds (off+p.2) p.1) cur).toList=sets cur.toList (off+k) l
 |[],_,_=>rfl
 |v::l,k,cur=>by
  simp only[List.zipIdx_cons,List.foldl_cons,sets];rw[jXx off l (k+1)];simp[Nat.add_assoc]
def zGd(w:World)(V:Nat->Prop)(ι:zQm)(bx:Nat->Bx):List (Nat × AV)->List (Nat × Value)->Prop
 |[],[]=>True
 |p::ps,q::qs=>p.1=q.1/\zQg w V ι bx p.2 q.2/\zGd w V ι bx ps qs
 |_,_=>False
theorem zUX{place:Nat->Option (Nat × Nat)}:∀{ps:List (Nat × AV)}{qs:List (Nat × Value)},zGd w V ι bx ps qs->∀{cs cs':List Cl}{cur:Array Value},zQO w V ι bx cs cur.toList ->
  zWC place cs ps=some cs'->∃cur',Instr.fill place cur qs=some cur'/\zQO w V ι bx cs' cur'.toList
 |[],[],_,cs,cs',cur,hc,hf=>by
  simp only[zWC,wQa]at hf;subst hf;exact⟨cur,rfl,hc⟩
 |(i,x)::ps,(j,v)::qs,hp,cs,cs',cur,hc,hf=>by
  obtain⟨e,hx,hp⟩:=hp;simp only at e;subst e;simp only[zWC]at hf
  cases hpl:place i with
  |none=>rw[hpl]at hf;cases hf
  |some os=>
   obtain⟨off,size⟩:=os
   cases hcl:x.cls with
   |none=>rw[hpl,hcl]at hf;cases hf
   |some xs=>
    rw[hpl,hcl]at hf;simp only at hf;split at hf
    .cases hf
    .rename_i hcond;have hxs:=jYb hx hcl;have hl1:=zZr hxs;have hl2:=zZr hc;have hl1':xs.length=v.cells.size:=by simpa using hl1
     have hl2':cs.length=cur.size:=by simpa using hl2
     have hc':zQO w V ι bx (sets cs off xs) (v.cells.zipIdx.foldl (λcs (c,j)=>cs.setIfInBounds (off+j) c) cur).toList:=by
      have:=jXx off v.cells.toList 0 cur;rw[<-Array.foldl_toList,Array.toList_zipIdx,this];exact jX9 hxs hc _
     obtain⟨cur',h1,h2⟩:=zUX hp hc' hf;refine⟨cur',?_,h2⟩;simp only[Instr.fill,hpl];rw[if_neg (by simp;omega)];exact h1
 |[],_::_,hp,_,_,_,_,_=>hp.elim
 |_::_,[],hp,_,_,_,_,_=>hp.elim
end
section
variable{P:Program}{o:Oper}{s:AS}
theorem zVJ{w0:World}{S:zQ3}{n:Dom}{ι:zQm}{a:Act}{w:World}(h:RepS w0 S n s ι a w):∀(ps:List (Nat × Operand)),
  zGd w (Seen S w0.heap.size s.bx ι) ι s.bx (ps.map λp=>(p.1,s.eval p.2)) (ps.map λp=>(p.1,a.eval p.2))
 |[]=>trivial
 |p::ps=>⟨rfl,h.eval p.2,zVJ h ps⟩
theorem zUt{P:Program}{α β:Type}(f:α->Sem β)(g:α->β)(w:World):∀(l:List α),(∀x∈l,(f x).run P w=.ok (g x) w)->(l.mapM f).run P w=.ok (l.map g) w
 |[],_=>by simp
 |x::l,h=>by
  rw[List.mapM_cons];simp only[Sem.run_bind,h x (by simp),Result.andThen_ok,zUt f g w l (λy hy=>h y (by simp[hy])),Sem.run_pure,wQi]
abbrev wXR:=@run_program
abbrev wZZ:=@Array.toList_map
abbrev wYm:=@Option.isSome_iff_exists
abbrev wYW:=@Array.mapM_eq_mapM_toList
theorem jVz{parts:Array (Nat × Operand)}(ho:o.op=.build t parts):zZM P o s (jYp P s.eval t parts):=by
 unfold jYp;split
 .rename_i z fs hz hu;obtain⟨i,hi,hzz⟩:=wZy.1 hz;split
  .rename_i pl hpl
   cases hf:zWC (pl[·]?) (z.cells.toList.map Cl.ofV) (parts.toList.map λp=>(p.1,s.eval p.2)) with
   |none=>exact .none
   |some cs=>
    refine .val λw0 S n ι a w hr _=>?_;obtain⟨cur',h1,h2⟩:=zUX (zVJ hr parts.toList) (zYJ z.cells.toList) hf;refine⟨.agg cur',?_,by simp only[zQg];exact⟨_,rfl,h2⟩⟩;unfold jWy at hpl;split at hpl
    .rename_i hall;injection hpl with hpl
     subst hpl;have hm:(fs.mapM λf=>(do pure (f.offset,<-sizeOf f.type):Sem (Nat × Nat))).run P w=.ok (fs.map λf=>(f.offset,P.cellsOf f.type)) w:=by
      rw[wYW]
      have:=zUt (P:=P) (λf:Field=>(do pure (f.offset,<-sizeOf f.type):Sem (Nat × Nat))) (λf=>(f.offset,P.cellsOf f.type)) w fs.toList (λf hf=>by
       have:=Array.all_eq_true_iff_forall_mem.1 hall f (by simpa using hf);obtain⟨i,hi⟩:=wYm.1 this
       simp[run_sizeOf w hi])
      simp only[Sem.run_map,this,Result.andThen_ok];congr 1;apply wXv;simp
     simp only[execOp,ho,Instr.build,Sem.run_bind,zeroValue,typeInfo,wXR,Result.andThen_ok,hi,Sem.run_pure,hzz,wQh hu,hm];simp only[wZZ];rw[h1];simp
    .cases hpl
  .exact .none
 .rename_i z k e hz hu;obtain⟨i,hi,hzz⟩:=wZy.1 hz;split
  .rename_i j hj
   cases hf:zWC (λk=>some (k*j.size,j.size)) (z.cells.toList.map Cl.ofV) (parts.toList.map λp=>(p.1,s.eval p.2)) with
   |none=>exact .none
   |some cs=>
    refine .val λw0 S n ι a w hr _=>?_;obtain⟨cur',h1,h2⟩:=zUX (zVJ hr parts.toList) (zYJ z.cells.toList) hf;refine⟨.agg cur',?_,by simp only[zQg];exact⟨_,rfl,h2⟩⟩;simp only[execOp,ho,Instr.build,Sem.run_bind,zeroValue,typeInfo,wXR,Result.andThen_ok,hi,Sem.run_pure,hzz,wQh hu,sizeOf,hj];simp only[wZZ];rw[h1];simp
  .exact .none
 .exact .none
end
section
variable{w0:World}{S:zQ3}{n:Dom}{s:AS}{ι:zQm}{a:Act}{w:World}
theorem jJ7(hf:bx b0=.fresh):zWD ι bx (λb=>if b=b0 then p else ι b) (λb=>if b=b0 then B else bx b):=by
 intro b hk;have hne:b≠b0:=λe=>by subst e;rw[hf]at hk;simp[Bx.known]at hk
 simp only[if_neg hne];exact⟨hk,trivial⟩
theorem zUG{B0:Nat}(hb:Below w.heap.size w w')(hp:∀g c,p=some (g,c)->w.heap.size<=g/\g<w'.heap.size):zZJ w (Seen S B0 bx ι) w' (Seen S B0 (λb=>if b=b0 then B else bx b) (λb=>if b=b0 then p else ι b)):=by
 intro g off u hV hu;have hlt:g<w.heap.size:=wZI w _ hu;refine⟨⟨hV.1,λb c hl e=>?_⟩,by rw[<-hu];exact hb.cell (p:=⟨g,off,none⟩) hlt⟩;by_cases eb:b=b0
 .simp only[if_pos eb]at e;have:=(hp g c e).1;omega
 .simp only[if_neg eb]at e hl;exact hV.2 b c hl e
end
theorem zZM.new{P:Program}{o:Oper}{s:AS}{vc:Prop}{d:Nat}{B:Bx}{v:AV}(hkn:B.known=true)(h:∀(w0:World) (S:zQ3) (n:Dom) (ι:zQm) (a:Act) (w:World),RepS w0 S n s ι a w->vc->s.bx d=.fresh->∃(p:Option (Nat × Nat)) (w':World) (u:Value),
   (execOp a.eval o).run P w=.ok (.value u) w'/\Below w.heap.size w w'/\(∀g c,p=some (g,c)->w.heap.size<=g/\g<w'.heap.size) /\
   ∀(ι':zQm) (V':Nat->Prop),zWD ι s.bx ι' (s.setB d B).bx->zZJ w (Seen S w0.heap.size s.bx ι) w' V'->ι' d=p->((s.setB d B).bx d).known=true ->
    zX1 w' V' ι' (s.setB d B).bx d B/\zQg w' V' ι' (s.setB d B).bx v u):zZM P o s (some (.new vc d B v)):=by
 intro e' he vc' v' bs hf;injection he with he;subst he
 simp only[Eff.new,wQi,wQs]at hf |-;cases hfr:s.bx d<;>rw[hfr]at hf<;>simp only[wQa,wQc,reduceCtorEq]at hf;obtain⟨rfl,rfl,rfl⟩:=hf;intro w0 S n ι a w K Q hr hvc hK;obtain⟨p,w',u,h1,h2,h3,h4⟩:=h w0 S n ι a w hr hvc hfr;obtain⟨h5,h6⟩:=h4 (λb=>if b=d then p else ι b) _ (jJ7 hfr) (zUG (S:=S) (B0:=w0.heap.size) (b0:=d) (B:=B) h2 h3) (by simp) (by simpa [AS.setB]using hkn);unfold Oper.wp;rw[h1];exact hK _ u w' (hr.new_ hfr h2 hkn h3 h5) h6
variable{i:TypeInfo}
section
variable{P:Program}{o:Oper}{s:AS}
abbrev wQ7:=@Below.refl
theorem zYW(w:World)(ob:Obj):Below w.heap.size w (w.alloc ob):=(wQ7 _ _).alloc (Nat.le_refl _) _
abbrev wQN:=@heap_alloc_new
theorem jVA(ho:o.op=.alloc t):zZM P o s (jVK P o.dst t):=by
 unfold jVK;split
 .rename_i d z hd hz;obtain⟨i,hi,hzz⟩:=wZy.1 hz;split
  .exact .none
  rename_i hfit;have hfit:=zW8 (by simpa using hfit);refine .new rfl λw0 S n ι a w hr _ hf=>⟨some (w.heap.size,0),w.alloc (.cells z.cells t),.pointer (some ⟨w.heap.size,0,none⟩),?_,zYW w _,?_,?_⟩
  .simp[execOp,ho,Instr.alloc,zeroValue,typeInfo,hi,hzz,newVar,newRow]
  .rintro g c ⟨⟩;simp
  .intro ι' V' hn hk hp hkn;refine⟨⟨w.heap.size,0,z.cells,t,hp,wQN w _,hfit,zYJ _⟩,?_⟩;simp only[zQg,zQs];exact⟨hkn,_,_,hp,rfl⟩
 .exact .none
theorem jGI(ho:o.op=.box t x):zZM P o s (yQF s.eval o.dst t x):=by
 unfold yQF;split
 .rename_i d cs hd hx;split
  .exact .none
  rename_i hfit;have hfit:=zW8 (by simpa using hfit);refine .new rfl λw0 S n ι a w hr _ hf=>⟨some (w.heap.size,0),w.alloc (.cells (a.eval x).cells t),.pointer (some ⟨w.heap.size,0,none⟩),?_,zYW w _,?_,?_⟩
  .simp[execOp,ho,Instr.box,newVar,newRow]
  .rintro g c ⟨⟩;simp
  .intro ι' V' hn hk hp hkn;refine⟨⟨w.heap.size,0,_,t,hp,wQN w _,hfit,(jYb (hr.eval x) hx).keep hn hk⟩,?_⟩;simp only[zQg,zQs];exact⟨hkn,_,_,hp,rfl⟩
 .exact .none
abbrev wQE:=@List.getElem?_eq_some_iff
theorem jJP(z:Array Value)(n:Nat):zQO w V ι bx (zJD z n) ((Array.range n).map (z[· % z.size]!)).toList:=by
 rw[jQn];refine⟨by simp[zJD],λi c v hc hv=>?_⟩;have hi:i<n:=by
  have:=(wQE.1 hc).1;simpa [zJD]using this
 simp[zJD,hi]at hc;simp[hi]at hv;subst hc hv;have:z[i%z.size]?.getD default=z[i%z.size]!:=by simp[getElem!_def];cases z[i%z.size]?<;>rfl
 rw[this];exact zGB _
theorem jKJ{place:Nat->Option (Nat × Nat)}:∀(ps:List (Nat × AV)){cs cs':List Cl},zWC place cs ps=some cs'->cs'.length=cs.length
 |[],cs,cs',h=>by simp only[zWC,wQa]at h;rw[h]
 |(j,x)::ps,cs,cs',h=>by
  simp only[zWC]at h;split at h
  .split at h
   .cases h
   .rw[jKJ ps h,zJJ]
  .cases h
theorem zWO{e:TypeId}{len:Nat}{parts:Array (Nat × Operand)}{z:Value}(ho:o.op=.buildSlice t len parts)(hu:P.underlying t=some (.slice e))(hi:P.info? e=some i)(hz:i.zero=some z)(c1:len*i.size<=16777216)(c3:z.cells.size=i.size){ps:List (Nat × AV)}{cs:List Cl}(hp:zGd w V ι bx ps (parts.toList.map λp=>(p.1,a.eval p.2)))(hfill:zWC (λk=>some (k*i.size,i.size)) (zJD z.cells (len*i.size)) ps=some cs) :
  ∃cur':Array Value,(execOp a.eval o).run P w=.ok (.value (.slice (some ⟨w.heap.size,0,none⟩) len len)) (w.alloc (.cells cur' e))/\cur'.size=len*i.size/\zQO w V ι bx cs cur'.toList:=by
 obtain⟨cur',h1,h2⟩:=zUX hp (jJP z.cells (len*i.size)) hfill;have hsz:(sizeOf e).run P w=.ok i.size w:=by simp[sizeOf,typeInfo,hi]
 have hlen0:cur'.size=len*i.size:=by
  have h3:=zZr h2;rw[jKJ _ hfill]at h3;simpa [zJD]using h3.symm
 refine⟨cur',?_,hlen0,h2⟩;have hle:¬2 ^ 24<len*i.size:=by omega
 by_cases h0:len*i.size=0
 .have hmap:((Array.range (len*i.size)).map λk=>(#[]:Array Value)[k%(#[]:Array Value).size]!)=(Array.range (len*i.size)).map λk=>z.cells[k%z.cells.size]!:=by rw[h0];simp
  rw[<-hmap]at h1;simp only[execOp,ho,Instr.buildSlice,Sem.run_bind,wQh hu,Result.andThen_ok,hsz,wXw,if_neg hle,Sem.run_pure,if_pos h0,wZZ];rw[h1];simp[newRow]
 .simp only[execOp,ho,Instr.buildSlice,Sem.run_bind,wQh hu,Result.andThen_ok,hsz,wXw,if_neg hle,Sem.run_pure,if_neg h0,wZZ,zeroValue,typeInfo,wXR,hi,hz];rw[h1];simp[newRow]
abbrev wXb:=@List.take_length
theorem zHx{len:Nat}{parts:Array (Nat × Operand)}(ho:o.op=.buildSlice t len parts):zZM P o s (zJ0 P s.eval o.dst t len parts):=by
 unfold zJ0;split
 .rename_i d e hd hu;split
  .rename_i i hi;split
   .rename_i z hz;split
    .rename_i hcond;obtain⟨c1,c2,c3⟩:=hcond;split
     .rename_i cs hfill;split
      .rename_i vs hvs;refine .new rfl λw0 S n ι a w hr _ hf=>?_;obtain⟨cur',h1,h2⟩:=zUX (zVJ hr parts.toList) (jJP z.cells (len*i.size)) hfill;have hsz:(sizeOf e).run P w=.ok i.size w:=by simp[sizeOf,typeInfo,hi]
       have hlen0:cur'.size=len*i.size:=by
        have:=zZr h2;have h3:cs.length=(zJD z.cells (len*i.size)).length:=by
         clear h1 h2 hvs this;generalize zJD z.cells (len*i.size)=cs0 at hfill;revert cs0
         induction (parts.toList.map λp=>(p.1,s.eval p.2)) with
         |nil=>intro cs0 h;simp only[zWC,wQa]at h;rw[h]
         |cons p ps ih=>
          intro cs0 h;obtain⟨j,x⟩:=p;simp only[zWC]at h;split at h
          .split at h
           .cases h
           .rw[ih _ h,zJJ]
          .cases h
        rw[h3]at this;simpa [zJD]using this.symm
       refine⟨some (w.heap.size,len),w.alloc (.cells cur' e),.slice (some ⟨w.heap.size,0,none⟩) len len,?_,zYW w _,?_,?_⟩
       .have hle:¬2 ^ 24<len*i.size:=by omega
        by_cases h0:len*i.size=0
        .have hmap:((Array.range (len*i.size)).map λk=>(#[]:Array Value)[k%(#[]:Array Value).size]!)=(Array.range (len*i.size)).map λk=>z.cells[k%z.cells.size]!:=by rw[h0];simp
         rw[<-hmap]at h1;simp only[execOp,ho,Instr.buildSlice,Sem.run_bind,wQh hu,Result.andThen_ok,hsz,wXw,if_neg hle,Sem.run_pure,if_pos h0,wZZ];rw[h1];simp[newRow]
        .simp only[execOp,ho,Instr.buildSlice,Sem.run_bind,wQh hu,Result.andThen_ok,hsz,wXw,if_neg hle,Sem.run_pure,if_neg h0,wZZ,zeroValue,typeInfo,wXR,hi,hz];rw[h1];simp[newRow]
       .rintro g c ⟨⟩;simp
       .intro ι' V' hn hk hp hkn;have hlm:len<=maxLen:=by
         have:len*1<=len*i.size:=Nat.mul_le_mul_left _ c2;unfold maxLen;omega
        refine⟨.inr ⟨w.heap.size,len,cur',hp,.plain (wQN w _),hlm,hlen0,?_⟩,?_⟩
        .have:=zVK (h2.keep hn hk) hvs;rw[zQ8 this,wXb];exact this
        .simp only[zQg,zQs];exact⟨hkn,.inr ⟨_,_,hp,rfl,Nat.le_refl _⟩⟩
      .split
       .rename_i hh;refine .new rfl λw0 S n ι a w hr _ hf=>?_;obtain⟨cur',h1,h2,h3⟩:=zWO (ι:=ι) ho hu hi hz c1 c3 (zVJ hr parts.toList) hfill;refine⟨some (w.heap.size,len),w.alloc (.cells cur' e),.slice (some ⟨w.heap.size,0,none⟩) len len,h1,zYW w _,?_,?_⟩
        .rintro g c ⟨⟩;simp
        .intro ι' V' hn hk hp hkn;refine⟨⟨w.heap.size,len,cur',e,hp,wQN w _,zW8 hh,h3.keep hn hk⟩,?_⟩;simp only[zQg,zQs];exact⟨hkn,.inr ⟨_,_,hp,rfl,Nat.le_refl _⟩⟩
       .exact .none
     .exact .none
    .exact .none
   .exact .none
  .exact .none
 .exact .none
end
variable{T:TypeId}{b m:Nat}{α:Type}{ys:List DV}{yv:Value}
section
variable{P:Program}{o:Oper}{s:AS}
theorem zWt(h:zQg w V ι bx (.one (.ptr b off)) v):
  (bx b).known=true/\∃g c,ι b=some (g,c)/\v=.pointer (some ⟨g,off,none⟩):=by simpa only[zQg,zQs]using h
theorem jUs(ho:o.op=.load t x):zZM P o s (jWE P s.eval t x):=by
 unfold jWE;split
 .rename_i b off hx;intro e' he vc v bs hf;injection he with he;subst he
  simp only[wQi,wQs]at hf |-
  cases hB:s.bx b with
  |cells cs=>
   rw[hB]at hf;simp only at hf;split at hf
   .rename_i g k hk;split at hf
    .rename_i hle
     cases hag:zVw g ((cs.drop off).take k) with
     |none=>rw[hag]at hf;cases hf
     |some v'=>
      rw[hag]at hf;simp only[wQv,wQa,wQc]at hf;obtain⟨rfl,rfl,rfl⟩:=hf;refine zWE.val λw0 S n ι a w hr _=>?_;have h:=hr.eval x;rw[hx]at h;obtain⟨_,g',c',hι,ev⟩:=zWt h;have hb:=hr.bx b;rw[hB]at hb;obtain⟨g2,c2,cur,T,h1,h2,h0,h3⟩:=hb;rw[h1]at hι;simp only[wQa,wQc]at hι;obtain⟨rfl,rfl⟩:=hι;have hp:=zJd (zJW h3 off k) hag;have hlen:=zZr h3;have hk':zJ2 P t=some (g,((cur.toList.drop off).take k).length):=by
       rw[hk];congr 2;simp at hlen |-;omega
      refine⟨_,?_,hp.1⟩
      have hrun:=zX6 (P:=P) hk' (w:=w) (b:=g2) (o:=off) (λj u hj=>by
       rw[wXt w g2 (off+j) cur T (0,0) h2];rw[wQI]at hj;split at hj
       .simpa using hj
       .cases hj)
      simp[execOp,ho,ev,Instr.loadAt,Instr.sureAddr,hrun]
    .cases hf
   .cases hf
  |row e size xs=>
   rw[hB]at hf;simp only at hf;split at hf
   .rename_i g zs hz
    cases hag:zVw g ((zYw zs xs off).map .d) with
    |none=>rw[hag]at hf;cases hf
    |some v'=>
     rw[hag]at hf;simp only[wQv,wQa,wQc]at hf;obtain⟨rfl,rfl,rfl⟩:=hf;refine zWE.val λw0 S n ι a w hr hvc=>?_;have h:=hr.eval x;rw[hx]at h;obtain⟨_,g',c',hι,ev⟩:=zWt h;have hb:=hr.bx b;rw[hB]at hb
     rcases hb with⟨h1,_⟩|⟨g2,cap,cur,h1,h2,h3,h4,h5⟩
     .rw[h1]at hι;cases hι
     rw[h1]at hι;simp only[wQa,wQc]at hι;obtain⟨rfl,rfl⟩:=hι;obtain⟨us,e1,e2,e3⟩:=jKe h5 zs off hvc;have hp:=zJd (ι:=ι) (bx:=s.bx) (zKt e3) hag;have hk':zJ2 P t=some (g,us.length):=by rw[e1];exact zKC hz
     refine⟨_,?_,hp.1⟩
     have hrun:=zX6 (P:=P) hk' (w:=w) (b:=g2) (o:=off) (λj u hj=>by
      rw[h2.cell (off+j)];have:=e2 j u hj;rw[wQI]at this;split at this
      .simpa using this
      .cases this)
     simp[execOp,ho,ev,Instr.loadAt,Instr.sureAddr,hrun]
   .cases hf
  |fresh=>rw[hB]at hf;cases hf
  |gone=>rw[hB]at hf;cases hf
  |ice xs=>
   rw[hB]at hf;simp only at hf;split at hf
   .rename_i g zs hz
    cases hag:zVw g ((zYw zs xs off).map .d) with
    |none=>rw[hag]at hf;cases hf
    |some v'=>
     rw[hag]at hf;simp only[wQv,wQa,wQc]at hf;obtain⟨rfl,rfl,rfl⟩:=hf;refine zWE.val λw0 S n ι a w hr hvc=>?_;have h:=hr.eval x;rw[hx]at h;obtain⟨_,g',c',hι,ev⟩:=zWt h;have hb:=hr.bx b;rw[hB]at hb
     rcases hb with⟨h1,_⟩|⟨g2,cap,h1,hl,_⟩
     .rw[h1]at hι;cases hι
     rw[h1]at hι;simp only[wQa,wQc]at hι;obtain⟨rfl,rfl⟩:=hι;obtain⟨us,e1,e2,e3⟩:=jXr hl.cells zs off hvc;have hp:=zJd (ι:=ι) (bx:=s.bx) (zKt e3) hag;have hk':zJ2 P t=some (g,us.length):=by rw[e1];exact zKC hz
     refine⟨_,?_,hp.1⟩;have hrun:=zX6 (P:=P) hk' (w:=w) (b:=g2) (o:=0+off) e2;rw[Nat.zero_add]at hrun;simp[execOp,ho,ev,Instr.loadAt,Instr.sureAddr,hrun]
   .cases hf
 .rename_i xs off hx;split
  .rename_i g zs hz
   cases hag:zVw g ((zYw zs xs off).map .d) with
   |none=>exact .none
   |some v'=>
    refine .val λw0 S n ι a w hr hvc=>?_;have h:=hr.eval x;rw[hx]at h;simp only[zQg,zQs]at h;obtain⟨g',o',ev,hl⟩:=h;obtain⟨us,e1,e2,e3⟩:=jXr hl.cells zs off hvc;have hp:=zJd (ι:=ι) (bx:=s.bx) (zKt e3) hag;have hk':zJ2 P t=some (g,us.length):=by rw[e1];exact zKC hz
    refine⟨_,?_,hp.1⟩;have hrun:=zX6 (P:=P) hk' (w:=w) (b:=g') (o:=o'+off) e2;simp[execOp,ho,ev,Instr.loadAt,Instr.sureAddr,hrun]
  .exact .none
 .exact .none
abbrev wZi:=@Array.toArray_toList
abbrev wZJ:=@List.take_append_drop
abbrev wQX:=@decide_eq_false_iff_not
abbrev wXS:=@Bool.and_eq_false_iff
abbrev wQ8:=@List.append_nil
abbrev wZr:=@List.length_nil
theorem zZV{P:Program}(g o:Nat)(t:TypeId):∀(vs:List Value)(i:Nat)(cur:Array Value)(w:World),zWc w g cur t->o+i+vs.length<=cur.size->(∀v∈vs,v.oneCell'=true) ->
  (storeCells ⟨g,o,none⟩ vs i).run P w=.ok () (w.setRow g (cur.toList.take (o+i)++vs++cur.toList.drop (o+i+vs.length)).toArray)
 |[],i,cur,w,hg,_,_=>by
  obtain⟨m,hg,_⟩:=hg;simp only[storeCells,wQ8,wZr,Nat.add_zero,wZJ,wZi];rw[setRow_self w g cur t m hg];rfl
 |v::rest,i,cur,w,hg,hl,h1=>by
  obtain⟨m,hg,hm⟩:=hg;have hi:o+i<cur.size:=by simp at hl;omega
  have hadd:(⟨g,o,none⟩:Addr).add i=⟨g,o+i,none⟩:=by unfold Addr.add;split<;>simp_all
  have hcell:w.cell? ⟨g,o+i,none⟩=some cur[o+i]:=by simp[World.cell?,hg,hi]
  have hfro:w.frozen? ⟨g,o+i,none⟩=false:=by
   obtain⟨lo,hi'⟩:=m;simp only[World.frozen?,hg,wXS,wQX]
   rcases hm with hm|hm
   .simp only[wQc]at hm;right;omega
   .simp only at hm;left;omega
  have hst:(store ((⟨g,o,none⟩:Addr).add i) v).run P w=.ok () (w.setRow g (cur.setIfInBounds (o+i) v)):=by
   rw[hadd,run_store P w _ v _ (h1 v (by simp)),hcell];simp[hfro,setCell_eq_setRow w g (o+i) cur t m v hg]
  have ih:=zZV (P:=P) g o t rest (i+1) (cur.setIfInBounds (o+i) v) (w.setRow g (cur.setIfInBounds (o+i) v)) ⟨m,setRow_heap w g cur _ t _ hg,by simpa using hm⟩ (by simp at hl |-;omega) (λx hx=>h1 x (by simp[hx]));simp only[storeCells,Sem.run_bind,hst,Result.andThen_ok,ih,setRow_setRow];congr 3;have e:=list_seg_step cur.toList (o+i) v rest (by simp at hl |-;omega);simpa [Array.toList_setIfInBounds,Nat.add_assoc]using e
theorem zWc.setRow{w:World}{g:Nat}{cur cs:Array Value}{e:TypeId}(h:zWc w g cur e)(hs:cs.size=cur.size):zWc (w.setRow g cs) g cs e:=by
 obtain⟨m,h1,h2⟩:=h;exact⟨m,setRow_heap w g cur cs e m h1,by rw[hs];exact h2⟩
abbrev wXc:=@Array.length_toList
theorem zHu{P:Program}(hi:P.info? t=some i)(hl:v.cells.size=i.size)(hg:zWc w g cur T)(hle:off+v.cells.size<=cur.size)(h1:∀u∈v.cells.toList,u.oneCell'=true) :
  (storeVar t ⟨g,off,none⟩ v).run P w=.ok () (w.setRow g (cur.toList.take off++v.cells.toList++cur.toList.drop (off+v.cells.size)).toArray):=by
 have h:=zZV (P:=P) g off T v.cells.toList 0 cur w hg (by simpa using hle) h1;simp only[Nat.add_zero,wXc]at h;simp[storeVar,sizeOf,typeInfo,hi,hl];rw[h,hl,List.append_assoc]
theorem jQb{P:Program}(hi:P.info? t=some i)(hl:v.cells.size=i.size)(hg:w.heap[g]?=some (.cells cur T (0,0)))(hle:off+v.cells.size<=cur.size)(h1:∀u∈v.cells.toList,u.oneCell'=true) :
  (storeVar t ⟨g,off,none⟩ v).run P w=.ok () (w.setRow g (cur.toList.take off++v.cells.toList++cur.toList.drop (off+v.cells.size)).toArray):=by
 have h:=run_storeCells_at P g off T v.cells.toList 0 cur w hg (by simpa using hle) h1;simp only[Nat.add_zero,wXc]at h;simp[storeVar,sizeOf,typeInfo,hi,hl];rw[h,hl,List.append_assoc]
abbrev wQm:=@List.mem_cons
theorem jWa{w:World}{V:Nat->Prop}{ι:zQm}{bx:Nat->Bx}:∀{cs:List Cl}{vs:List Value},zQO w V ι bx cs vs->cs.all Cl.ok=true->∀u∈vs,u.oneCell'=true
 |[],[],_,_,u,hu=>by simp at hu
 |c::cs,v::vs,h,ha,u,hu=>by
  simp only[wZX,wQd]at ha
  rcases wQm.1 hu with rfl|hu
  .exact yZC h.1 ha.1
  .exact jWa h.2 ha.2 u hu
 |[],_::_,h,_,_,_=>h.elim
 |_::_,[],h,_,_,_=>h.elim
abbrev wZS:=@setRow_other
theorem jVp(ho:o.op=.store t x y):zZM P o s (jYi P s.eval t x y):=by
 unfold jYi;split
 .rename_i i b off xs hi hx hy;split
  .rename_i hcond;obtain⟨hl,hok⟩:=hcond;intro e' he vc v bs hf;injection he with he;subst he
   simp only[wQi,wQs]at hf |-
   cases hB:s.bx b with
   |cells cs=>
    rw[hB]at hf;simp only at hf;split at hf
    .rename_i hle0;obtain⟨hle,hnh⟩:=hle0;simp only[wQa,wQc]at hf;obtain⟨rfl,rfl,rfl⟩:=hf;intro w0 S n ι a w K Q hr _ hK;have h:=hr.eval x;rw[hx]at h;obtain⟨_,g',c',hι,ev⟩:=zWt h;have hb:=hr.bx b;rw[hB]at hb;obtain⟨g2,c2,cur,T,h1,h2,h0,h3⟩:=hb;rw[h1]at hι;simp only[wQa,wQc]at hι;obtain⟨rfl,rfl⟩:=hι;have hyv:=jYb (hr.eval y) hy;have l1:=zZr hyv;have l2:=zZr h3;have l1':xs.length=(a.eval y).cells.size:=by simpa using l1
     have l2':cs.length=cur.size:=by simpa using l2
     have hrun:=jQb (P:=P) hi (w:=w) (g:=g2) (off:=off) (v:=a.eval y) (by omega) h2 (by omega) (jWa hyv hok);unfold Oper.wp;have:(execOp a.eval o).run P w=.ok .skip (w.setRow g2 (cur.toList.take off++(a.eval y).cells.toList++cur.toList.drop (off+(a.eval y).cells.size)).toArray):=by
      simp only[execOp,ho,ev,Instr.storeAt,Instr.sureAddr,Sem.run_bind,Sem.run_pure,Result.andThen_ok,hrun]
     rw[this];have hlive:(s.bx b).live=true:=by rw[hB];rfl
     have hstay:zWD ι s.bx ι (s.setB b (.cells (sets cs off xs))).bx:=λb' hk=>by
      refine⟨?_,rfl⟩;by_cases e:b'=b
      .simp[AS.setB,e,Bx.known]
      .simpa [AS.setB,e]using hk
     have hseen:Seen S w0.heap.size (s.setB b (.cells (sets cs off xs))).bx ι=Seen S w0.heap.size s.bx ι:=by
      funext g;unfold Seen;have:∀b',((s.setB b (.cells (sets cs off xs))).bx b').live=(s.bx b').live:=λb'=>by
       by_cases e:b'=b
       .subst e;simp[AS.setB,hB,Bx.live]
       .simp[AS.setB,e]
      simp only[this]
     have hkeep:zZJ w (Seen S w0.heap.size s.bx ι) (w.setRow g2 (cur.toList.take off++(a.eval y).cells.toList++cur.toList.drop (off+(a.eval y).cells.size)).toArray) (Seen S w0.heap.size s.bx ι):=by
      intro g off' u hV hu;refine⟨hV,?_⟩;have:g≠g2:=λe=>hV.2 b c2 hlive (by rw[e];exact h1);rw[<-hu];simp[World.cell?,wZS w g2 g _ this]
     have hnew:=hr.write (B:=.cells (sets cs off xs)) (w':=w.setRow g2 (cur.toList.take off++(a.eval y).cells.toList++cur.toList.drop (off+(a.eval y).cells.size)).toArray) hlive h1 (by simp[World.setRow]) (λg hg=>wZS w g2 g _ hg) ⟨rfl,rfl,rfl⟩ rfl (by
      rw[hseen];refine⟨g2,c2,_,T,h1,setRow_heap w g2 cur _ T (0,0) h2,zUQ h0 (λe=>hnh.resolve_left (by rw[e];decide)),?_⟩;have hss:=jX9 hyv h3 off;rw[zGn _ cur.toList _ (by simp;omega)]at hss;have:=hss.keep hstay hkeep
      simpa using this)
     exact hK ι undef _ hnew (by simp only[zQg];exact⟨_,rfl,by simp only[RepAVs]⟩)
    .cases hf
   |row e size ds=>
    rw[hB]at hf;simp only at hf;split at hf
    .rename_i ys hys;simp only[wQa,wQc]at hf;obtain⟨rfl,rfl,rfl⟩:=hf;intro w0 S n ι a w K Q hr hle hK;have h:=hr.eval x;rw[hx]at h;obtain⟨_,g',c',hι,ev⟩:=zWt h;have hb:=hr.bx b;rw[hB]at hb
     rcases hb with⟨h1,_⟩|⟨g2,cap,cur,h1,h2,h3,h4,h5⟩
     .rw[h1]at hι;cases hι
     rw[h1]at hι;simp only[wQa,wQc]at hι;obtain⟨rfl,rfl⟩:=hι;have hyv:=jYb (hr.eval y) hy;have hyd:=zVK hyv hys;have l1:=zZr hyv;have l3:=zQ8 hyd;have l2:=zQ8 h5;have l1':xs.length=(a.eval y).cells.size:=by simpa using l1
     have l3':ys.length=(a.eval y).cells.size:=by simpa using l3
     have l2':ds.length<=cur.size:=by simp at l2;omega
     have hrun:=zHu (P:=P) hi (w:=w) (g:=g2) (off:=off) (v:=a.eval y) (by omega) h2 (by omega) (jWa hyv hok);unfold Oper.wp;have:(execOp a.eval o).run P w=.ok .skip (w.setRow g2 (cur.toList.take off++(a.eval y).cells.toList++cur.toList.drop (off+(a.eval y).cells.size)).toArray):=by
      simp only[execOp,ho,ev,Instr.storeAt,Instr.sureAddr,Sem.run_bind,Sem.run_pure,Result.andThen_ok,hrun]
     rw[this];have hlive:(s.bx b).live=true:=by rw[hB];rfl
     have hseen:Seen S w0.heap.size (s.setB b (.row e size (sets ds off ys))).bx ι=Seen S w0.heap.size s.bx ι:=by
      funext g;unfold Seen;have:∀b',((s.setB b (.row e size (sets ds off ys))).bx b').live=(s.bx b').live:=λb'=>by
       by_cases e:b'=b
       .subst e;simp[AS.setB,hB,Bx.live]
       .simp[AS.setB,e]
      simp only[this]
     have hkeep:zZJ w (Seen S w0.heap.size s.bx ι) (w.setRow g2 (cur.toList.take off++(a.eval y).cells.toList++cur.toList.drop (off+(a.eval y).cells.size)).toArray) (Seen S w0.heap.size s.bx ι):=by
      intro g off' u hV hu;refine⟨hV,?_⟩;have:g≠g2:=λe=>hV.2 b cap hlive (by rw[e];exact h1);rw[<-hu];simp[World.cell?,wZS w g2 g _ this]
     have hnew:=hr.write (B:=.row e size (sets ds off ys)) (w':=w.setRow g2 (cur.toList.take off++(a.eval y).cells.toList++cur.toList.drop (off+(a.eval y).cells.size)).toArray) hlive h1 (by simp[World.setRow]) (λg hg=>wZS w g2 g _ hg) ⟨rfl,rfl,rfl⟩ rfl (by
      rw[hseen];refine .inr ⟨g2,cap,_,h1,h2.setRow (by simp;omega),h3,by simp;omega,?_⟩;have hss:=(jQm hyd h5 off).keep hkeep;rw[zJJ];have e1:sets (cur.toList.take ds.length) off (a.eval y).cells.toList=(sets cur.toList off (a.eval y).cells.toList).take ds.length:=by
       have key:∀(us vs:List Value)(i m:Nat),sets (vs.take m) i us=(sets vs i us).take m:=by
        intro us
        induction us with
        |nil=>intro vs i m;rfl
        |cons u us ih=>
         intro vs i m;simp only[sets];rw[<-ih,List.take_set]
       exact key _ _ _ _
      rw[e1,zGn _ cur.toList _ (by simp;omega)]at hss
      simpa using hss)
     exact hK ι undef _ hnew (by simp only[zQg];exact⟨_,rfl,by simp only[RepAVs]⟩)
    .cases hf
   |fresh=>rw[hB]at hf;cases hf
   |gone=>rw[hB]at hf;cases hf
   |ice _=>rw[hB]at hf;cases hf
  .exact .none
 .exact .none
theorem zW1(n:Nat)(z:List α):(repl n z).length=n*z.length:=by simp[repl]
abbrev wQq:=@List.getElem?_append_right
abbrev wQO:=@List.getElem?_append_left
abbrev wQu:=@Nat.add_mul
abbrev wZj:=@Nat.mod_eq_of_lt
theorem jGM{α:Type}(z:List α)(hz:0<z.length):∀(n k:Nat),k<n*z.length->(repl n z)[k]?=z[k%z.length]?
 |0,k,h=>by simp at h
 |n+1,k,h=>by
  have e:repl (n+1) z=z++repl n z:=by simp[repl,List.replicate_succ]
  rw[e];by_cases hk:k<z.length
  .rw[wQO hk,wZj hk]
  .rw[wQq (by omega),jGM z hz n (k-z.length) (by rw[wQu]at h;omega)];congr 1;rw[Nat.mod_eq_sub_mod (show k>=z.length by omega)]
theorem yQo(n:Nat)(z:List α)(x:α)(hz:z.length=1):repl n z=List.replicate n (z.headD x):=by
 match z,hz with
 |[y],_=>simp[repl,List.flatten_replicate_singleton]
abbrev wZz:=@Nat.mod_lt
abbrev wQb:=@IntWalk.i64_in
abbrev wQ1:=@Nat.mul_le_mul_right
theorem jQj{l c:Operand}(ho:o.op=.makeSlice t l c):zZM P o s (zKW P s.eval o.dst t l c):=by
 unfold zKW;split
 .rename_i d e hd hu;split
  .rename_i i k n k' m hi hl hc;split
   .rename_i z hz;split
    .rename_i zs hzs;split
     .rename_i hcond;obtain⟨c1,c2⟩:=hcond;refine .new rfl λw0 S _ ι a w hr hvc hf=>?_;obtain⟨v1,v2,v3,v4⟩:=hvc;have hL:=(zXr (hr.eval l) hl)
      have hC:=(zXr (hr.eval c) hc)
      have hm1:m<=9223372036854775807:=by simpa [maxLen]using v3
      have wL:IntKind.i64.wrap n=n:=wQb _ (by omega);have wC:IntKind.i64.wrap m=m:=wQb _ (by omega);have hz':=zVK (w:=w) (V:=Seen S w0.heap.size s.bx ι) (ι:=ι) (bx:=s.bx) (zYJ z.cells.toList) hzs;have hzl:z.cells.size=i.size:=by have:=zQ8 hz';simp at this;omega
      have hcells:∀V:Nat->Prop,zZo w V zs z.cells.toList->zZo w V (if i.size=1 then List.replicate n.toNat (zs.headD (.bool false)) else repl n.toNat zs) ((madeCells z.cells (m.toNat*i.size)).toList.take (if i.size=1 then List.replicate n.toNat (zs.headD (.bool false)) else repl n.toNat zs).length):=by
       intro V hzV;have e0:(if i.size=1 then List.replicate n.toNat (zs.headD (.bool false)) else repl n.toNat zs)=repl n.toNat zs:=by
        split
        .rw[yQo n.toNat zs (.bool false) (by omega)]
        .rfl
       rw[e0];have hnm:n.toNat*zs.length<=m.toNat*i.size:=by rw[c1];exact wQ1 _ (by omega)
       rw[jXc];refine⟨by simp[zW1,size_madeCells];omega,λj d v hj hv=>?_⟩;have hjlt:j<n.toNat*zs.length:=by
        have:=(wQE.1 hj).1;rwa [zW1]at this
       rw[jGM zs (by omega) _ _ hjlt]at hj;rw[wQI,zW1,if_pos hjlt]at hv;have hv':(madeCells z.cells (m.toNat*i.size))[j]?=some v:=by simpa using hv
       have hmod:j%i.size<z.cells.size:=by rw[hzl];exact wZz _ c2
       simp[madeCells,show j<m.toNat*i.size by omega]at hv';rw[hzl]at hv';rw[c1]at hj;obtain⟨v',h1,h2⟩:=zKu hzV _ _ hj;have:v'=v:=by
        rw[<-hv'];rw[getElem!_pos z.cells (j%i.size) hmod];have h1':z.cells[j%i.size]?=some v':=by simpa using h1
        rw[wZ9 hmod]at h1';injection h1' with h1'
        exact h1'.symm
       rw[<-this];exact h2
      refine⟨some (w.heap.size,m.toNat),w.alloc (.cells (madeCells z.cells (m.toNat*i.size)) e),.slice (some ⟨w.heap.size,0,none⟩) n.toNat m.toNat,?_,zYW w _,?_,?_⟩
      .have hr':=run_make (P:=P) w t e i z hu hi hz k k' n m v1 v2 v4 hm1;simp[execOp,ho,hL.1,hC.1,hr']
      .rintro g c ⟨⟩;simp
      .intro ι' V' hn hk hp hkn;refine⟨.inr ⟨w.heap.size,m.toNat,_,hp,.plain (wQN w _),by omega,by simp[size_madeCells],(hcells _ hz').keep hk⟩,?_⟩
       .simp only[zQg,zQs];exact⟨hkn,.inr ⟨_,_,hp,rfl,by omega⟩⟩
     .exact .none
    .exact .none
   .exact .none
  .exact .none
 .exact .none
theorem zWG{w:World}{V:Nat->Prop}{g:Nat}:∀{ys:List DV}{off:Nat},RepCells w V ys g off->∃us,zZo w V ys us/\∀(j:Nat) u,us[j]?=some u->w.cell? ⟨g,off+j,none⟩=some u
 |[],_,_=>⟨[],trivial,λj u h=>by simp at h⟩
 |d::ds,off,h=>by
  simp only[RepCells]at h;obtain⟨⟨u,hu,hd⟩,hr⟩:=h;obtain⟨us,h1,h2⟩:=zWG hr;refine⟨u::us,⟨hd,h1⟩,λj v hj=>?_⟩
  cases j with
  |zero=>simp at hj;subst hj;exact hu
  |succ j=>
   have:=h2 j v (by simpa using hj);rw[<-this];congr 2;omega
theorem yZK(h:RepD w V (.sl m ys) yv):∃us,zZo w V ys us/\((∃c,yv=.slice none m c/\us=[])\/∃ad c,yv=.slice (some ad) m c/\∀(j:Nat) u,us[j]?=some u->w.cell? (ad.add j)=some u):=by
 simp only[RepD]at h;obtain⟨A,cap,e,_,_,hl⟩:=h
 cases ys with
 |nil=>
  refine⟨[],trivial,?_⟩
  cases A with
  |none=>exact .inl ⟨cap,e,rfl⟩
  |some ad=>exact .inr ⟨ad,cap,e,λj u h=>by simp at h⟩
 |cons d ds=>
  obtain⟨g,off,rfl,_,hc⟩:=hl (by simp);obtain⟨us,h1,h2⟩:=zWG hc;exact⟨us,h1,.inr ⟨_,cap,e,λj u h=>by rw[zZp];exact h2 j u h⟩⟩
theorem jJS{w:World}{V:Nat->Prop}:∀l:List UInt8,zZo w V (l.map λb=>DV.int .u8 b.toNat) (l.map λb=>Value.int .u8 b.toNat)
 |[]=>trivial
 |b::l=>by
  refine⟨?_,jJS l⟩;simp only[RepD,true_and];rw[zZ6];have:=b.toNat_lt
  show(0:Int)<=_/\_<=(255:Int)
  omega
theorem zUM{w:World}{V:Nat->Prop}:∀{xs:List DV}{us:List Value},zZo w V xs us->jJf xs->∃ns:List Int,us=ns.map (Value.int .u8)/\xs.map jHT=ns.map λn=>UInt8.ofNat n.toNat
 |[],[],_,_=>⟨[],rfl,rfl⟩
 |d::ds,u::us,h,ha=>by
  obtain⟨⟨n,rfl⟩,ha⟩:=ha;obtain⟨ns,e1,e2⟩:=zUM h.2 ha;have h1:=h.1;simp only[RepD]at h1;exact⟨n::ns,by rw[wQi,<-e1,h1.1],by simp only[wQi,e2,jHT]⟩
 |[],_::_,h,_=>h.elim
 |_::_,[],h,_=>h.elim
theorem jKB:∀(ns:List Int)(b:ByteArray),ns.foldl (λr n=>r.push (UInt8.ofNat n.toNat)) b=⟨(b.data.toList++ns.map λn=>UInt8.ofNat n.toNat).toArray⟩
 |[],b=>by simp
 |n::ns,b=>by
  rw[List.foldl_cons,jKB ns];simp[ByteArray.push]
theorem zHv{P:Program}(a:Addr)(us:List Value)(h:∀(j:Nat) u,us[j]?=some u->w.cell? (a.add j)=some u):(loadCells a us.length).run P w=.ok us.toArray w:=run_loadCells_list (P:=P) w a us h
abbrev wQD:=@List.length_map
abbrev wXz:=@Array.size_append
abbrev wQR:=@List.take_of_length_le
abbrev wXx:=@grownCap_ge
abbrev wYX:=@run_convert_bytes_string
abbrev wXA:=@Array.toList_append
abbrev wQg:=@Nat.mul_one
abbrev wXy:=@grownCap_le_maxLen
theorem jVv(ho:o.op=.convert src dst x):zZM P o s (jYn P s.eval o.dst src dst x):=by
 unfold jYn;split
 .rename_i e str d hs hd hx hdst;split
  .rename_i he;refine .new rfl λw0 S n ι a w hr _ hf=>?_;have hv:=zJa (hr.eval x) (d:=.str str) (by rw[hx];rfl);simp only[RepD]at hv;have hge:=wXx w str.size 0 e;have hcm:grownCap w str.size 0 e<=maxLen:=wXy w str.size 0 e hv.2;have hsz:str.data.size=str.size:=rfl;have hcs:(Lib.bytesCells w e str).size=grownCap w str.size 0 e:=by
    simp only[Lib.bytesCells,wXz,Array.size_map,Array.size_replicate,hsz];omega
   refine⟨some (w.heap.size,grownCap w str.size 0 e),Lib.bytesWorld w e str,.slice (some ⟨w.heap.size,0,none⟩) str.size (grownCap w str.size 0 e),?_,⟨rfl,rfl,rfl,by rw[Lib.bytesWorld_size];omega,λg hg=>Lib.bytesWorld_at_old w e str g hg⟩,?_,?_⟩
   .have:=Lib.run_convert_string_bytes (P:=P) w src dst e str hs hd he;simp only[execOp,ho,hv.1,Sem.run_bind,this,Result.andThen_ok,Sem.run_pure]
   .rintro g c ⟨⟩;rw[Lib.bytesWorld_size];omega
   .intro ι' V' hn hk hp hkn;refine⟨.inr ⟨w.heap.size,grownCap w str.size 0 e,Lib.bytesCells w e str,hp,⟨_,Lib.bytesWorld_at_new w e str,.inr (Nat.le_refl _)⟩,hcm,by rw[hcs,wQg],?_⟩,?_⟩
    .have e1:(Lib.bytesCells w e str).toList.take (zJs str).length=str.data.toList.map λb=>Value.int .u8 b.toNat:=by
      simp only[Lib.bytesCells,zJs,wXA,wZZ,wQD];rw[List.take_append_of_le_length (by simp)];rw[wQR (by simp)]
     rw[e1];exact jJS _
    .simp only[zQg,zQs];exact⟨hkn,.inr ⟨_,_,hp,rfl,hge⟩⟩
  .exact .none
 .rename_i e n xs hs hd hx;split
  .rename_i he;refine .val λw0 S k ι a w hr hvc=>?_;obtain⟨h1,h2⟩:=hvc;have hv:=zJa (hr.eval x) (d:=.sl n xs) (by rw[hx];rfl);obtain⟨us,q1,q2⟩:=yZK hv;obtain⟨ns,e1,e2⟩:=zUM q1 h2;have hl:=zQ8 q1;have hn:n<=maxLen:=by
    simp only[RepD]at hv;obtain⟨A,cap,_,c1,c2,_⟩:=hv;omega
   refine⟨.string (strD xs),?_,?_⟩
   .rcases q2 with⟨c,e3,e4⟩|⟨ad,c,e3,e4⟩
    .have:xs=[]:=by rw[e4]at hl;exact List.length_eq_zero_iff.1 (by simpa using hl)
     subst this;have:=wYX (P:=P) w src dst e none n c hs he hd;simp only[execOp,ho,e3,Sem.run_bind,this,Conv.bytesToString,Sem.run_pure,Result.andThen_ok];rfl
    .have h3:=wYX (P:=P) w src dst e (some ad) n c hs he hd;have hnu:n=us.length:=by rw[h1,hl]
     have h4:=run_bytesToString (P:=P) w ad n c ns (by rw[hnu,<-e1];exact zHv ad us e4);simp only[execOp,ho,e3,Sem.run_bind,h3,h4,Result.andThen_ok,Sem.run_pure,jKB];unfold strD;rw[e2];rfl
   .simp only[zQg,zQs,RepD,true_and];have:(strD xs).size=xs.length:=by simp[strD,ByteArray.size]
    omega
  .exact .none
 .exact .none
theorem jVu(ho:o.op=.convert src dst x):zZM P o s (jYm P s.eval src dst x):=by
 unfold jYm;split
 .rename_i e0 e b n hs hd hx;split
  .rename_i hsd;split
   rotate_left
   .exact .none
   rename_i he;intro e' he' vc v bs hf;injection he' with he';subst he'
   simp only[wQi,wQs]at hf |-
   cases hB:s.bx b with
   |row t sz xs=>
    rw[hB]at hf;simp only[wQa,wQc]at hf;obtain⟨rfl,rfl,rfl⟩:=hf;intro w0 S m ι a w K Q hr hn hK;have h:=hr.eval x;rw[hx]at h;simp only[zQg,zQs]at h;obtain⟨hkn,⟨_,h0,_⟩|⟨g,cap,hι,ev,hle⟩⟩:=h
    .omega
    have hb:=hr.bx b;rw[hB]at hb
    rcases hb with⟨h1,_⟩|⟨g2,cap2,cur,h1,h2,h3,h4,h5⟩
    .rw[h1]at hι;cases hι
    rw[h1]at hι;simp only[wQa,wQc]at hι;obtain⟨rfl,rfl⟩:=hι;obtain⟨mk,q1,q2⟩:=h2;have hlt:=(wZg.1 q1).1;have hsh:w.shape? g2=some (t,cur.size):=by simp[World.shape?,q1]
    have hw1:∀g,g≠g2->(w.freeze ⟨g2,cur.size,none⟩ 1).heap[g]?=w.heap[g]?:=λg hg=>by
     simp[World.freeze,Array.getElem?_modify,Ne.symm hg]
    have hw2:zWc (w.freeze ⟨g2,cur.size,none⟩ 1) g2 cur t:=by
     obtain⟨lo,hi⟩:=mk;refine⟨if lo==hi then(cur.size,cur.size+1) else(min lo cur.size,max hi (cur.size+1)),?_,.inr ?_⟩
     .simp only[World.freeze,if_neg (show ¬(1=0) by decide)];rw[Array.getElem?_modify,if_pos rfl,q1];rfl
     .split
      .exact Nat.le_refl _
      .rcases q2 with q2|q2
       .simp only[wQc]at q2;rename_i hne;exact absurd (by rw[q2.1,q2.2];rfl) hne
       .simp only at q2 |-;omega
    have hcell:∀g off u,w.cell? ⟨g,off,none⟩=some u->(w.freeze ⟨g2,cur.size,none⟩ 1).cell? ⟨g,off,none⟩=some u:=λg off u hu=>by
     by_cases hg:g=g2
     .subst hg;rw[hw2.cell off];rw[wXt w g off cur t mk q1]at hu;exact hu
     .rw[<-hu];simp only[World.cell?,hw1 g hg]
    have hrun:(execOp a.eval o).run P w=.ok (.value (a.eval x)) (w.freeze ⟨g2,cur.size,none⟩ 1):=by
     subst hsd;simp[execOp,ho,ev,convert,wQh hd,wQh he,markStringish,hsh]
    have hlive:(s.bx b).live=true:=by rw[hB];rfl
    have hlv:∀b',((s.setB b (.row t sz xs)).bx b').live=(s.bx b').live:=λb'=>by
     by_cases e:b'=b
     .subst e;simp[AS.setB,hB,Bx.live]
     .simp[AS.setB,e]
    have hseen:Seen S w0.heap.size (s.setB b (.row t sz xs)).bx ι=Seen S w0.heap.size s.bx ι:=by
     funext g;unfold Seen;simp only[hlv]
    have hkeep:zZJ w (Seen S w0.heap.size s.bx ι) (w.freeze ⟨g2,cur.size,none⟩ 1) (Seen S w0.heap.size s.bx ι):=λg off u hV hu=>⟨hV,hcell g off u hu⟩
    have hnew:=hr.write (B:=.row t sz xs) (w':=w.freeze ⟨g2,cur.size,none⟩ 1) hlive h1 (by simp[World.freeze]) hw1 ⟨rfl,rfl,rfl⟩ rfl (by
     rw[hseen]
     exact .inr ⟨g2,cap2,cur,h1,hw2,h3,h4,h5.keep hkeep⟩)
    unfold Oper.wp;rw[hrun];refine hK ι (a.eval x) _ hnew ?_;simp only[zQg,zQs];exact⟨by simp[AS.setBs,AS.setB,Bx.known],.inr ⟨g2,cap2,h1,ev,hle⟩⟩
   |fresh=>rw[hB]at hf;cases hf
   |gone=>rw[hB]at hf;cases hf
   |cells _=>rw[hB]at hf;cases hf
   |ice _=>rw[hB]at hf;cases hf
  .exact .none
 .exact .none
end
theorem zGC{w:World}{V:Nat->Prop}:∀{xs ys:List DV}{us vs:List Value},zZo w V xs us->zZo w V ys vs->zZo w V (xs++ys) (us++vs)
 |[],_,[],_,_,h=>h
 |_::_,_,_::_,_,h,h'=>⟨h.1,zGC h.2 h'⟩
 |[],_,_::_,_,h,_=>h.elim
 |_::_,_,[],_,h,_=>h.elim
theorem zYm{w:World}{V:Nat->Prop}:∀{xs:List DV}{us:List Value},zZo w V xs us->∀u∈us,u.oneCell'=true
 |[],[],_,_,h=>by simp at h
 |_::_,_::_,h,u,hu=>by
  rcases wQm.1 hu with rfl|hu
  .exact h.1.one
  .exact zYm h.2 u hu
 |[],_::_,h,_,_=>h.elim
 |_::_,[],h,_,_=>h.elim
theorem zXd{w:World}{V:Nat->Prop}{g:Nat}:∀{ys:List DV}{off:Nat},RepCells w V ys g off->∃us,zZo w V ys us/\∀(j:Nat) u,us[j]?=some u->w.cell? ⟨g,off+j,none⟩=some u
 |[],_,_=>⟨[],trivial,λj u h=>by simp at h⟩
 |d::ds,off,h=>by
  simp only[RepCells]at h;obtain⟨⟨u,hu,hd⟩,hr⟩:=h;obtain⟨us,h1,h2⟩:=zXd hr;refine⟨u::us,⟨hd,h1⟩,λj v hj=>?_⟩
  cases j with
  |zero=>simp at hj;subst hj;exact hu
  |succ j=>
   have:=h2 j v (by simpa using hj);rw[<-this];congr 2;omega
def Src(w:World)(yv:Value)(m:Nat)(us:List Value):Prop:=
 (∃c,yv=.slice none m c/\us=[])\/∃ad c,yv=.slice (some ad) m c/\∀(j:Nat) u,us[j]?=some u->w.cell? (ad.add j)=some u
theorem jGq(h:RepD w V (.sl m ys) yv):∃us,zZo w V ys us/\Src w yv m us:=by
 simp only[RepD]at h;obtain⟨A,cap,e,_,_,hl⟩:=h
 cases ys with
 |nil=>
  refine⟨[],trivial,?_⟩
  cases A with
  |none=>exact .inl ⟨cap,e,rfl⟩
  |some ad=>exact .inr ⟨ad,cap,e,λj u h=>by simp at h⟩
 |cons d ds=>
  obtain⟨g,off,rfl,_,hc⟩:=hl (by simp);obtain⟨us,h1,h2⟩:=zXd hc;exact⟨us,h1,.inr ⟨_,cap,e,λj u h=>by rw[zZp];exact h2 j u h⟩⟩
theorem jGr(h:zQg w V ι bx (.one (.ref b m)) yv)(hB:zX1 w V ι bx b B)(hi:zXJ B=some ys):
  ∃us,zZo w V ys us/\Src w yv m us:=by
 simp only[zQg,zQs]at h;obtain⟨_,h⟩:=h
 cases B with
 |row e size xs=>
  simp only[zXJ,wQa]at hi;subst hi
  rcases hB with⟨h1,h2⟩|⟨g,cap,cur,h1,h2,h3,h4,h5⟩
  .subst h2
   rcases h with⟨_,rfl,rfl⟩|⟨g,cap,e,_⟩
   .exact⟨[],trivial,.inl ⟨0,rfl,rfl⟩⟩
   .rw[h1]at e;cases e
  .rcases h with⟨e,_⟩|⟨g',cap',e,rfl,_⟩
   .rw[h1]at e;cases e
   .rw[h1]at e;simp only[wQa,wQc]at e;obtain⟨rfl,rfl⟩:=e;refine⟨_,h5,.inr ⟨_,_,rfl,λj u hj=>?_⟩⟩;rw[zZp,Nat.zero_add,h2.cell j];rw[wQI]at hj;split at hj
    .simpa using hj
    .cases hj
 |ice xs=>
  simp only[zXJ,wQa]at hi;subst hi
  rcases hB with⟨h1,h2⟩|⟨g,cap,h1,h2,_⟩
  .subst h2
   rcases h with⟨_,rfl,rfl⟩|⟨g,cap,e,_⟩
   .exact⟨[],trivial,.inl ⟨0,rfl,rfl⟩⟩
   .rw[h1]at e;cases e
  .rcases h with⟨e,_⟩|⟨g',cap',e,rfl,_⟩
   .rw[h1]at e;cases e
   .rw[h1]at e;simp only[wQa,wQc]at e;obtain⟨rfl,rfl⟩:=e;obtain⟨us,u1,u2⟩:=zXd h2.cells;exact⟨us,u1,.inr ⟨_,_,rfl,λj u hj=>by rw[zZp];exact u2 j u hj⟩⟩
 |fresh=>cases hi
 |gone=>cases hi
 |cells _=>cases hi
abbrev wXT:=@Nat.div_eq_of_lt
theorem zVn{need old bytes:Nat}(h:old<need)(hb:need*bytes<=140737488355328+1099511627776*(1 / bytes)):Builtin.nextslicecap need old*bytes<=281474976710656:=by
 match bytes with
 |0=>simp
 |1=>
  have:Builtin.nextslicecap need old<=need+need / 4+512:=by
   unfold Builtin.nextslicecap;split
   .omega
   .split
    .omega
    .rw[growBy_four]
     repeat' split
     all_goals omega
  omega
 |b+2=>
  have:1 / (b+2)=0:=wXT (by omega);rw[this]at hb;exact growslice_fits h (by omega)
abbrev wZK:=@List.take_left
abbrev wZ0:=@Nat.eq_zero_or_pos
abbrev wQF:=@List.length_drop
abbrev wXV:=@size_zeroCells
abbrev wZA:=@List.size_toArray
abbrev wXU:=@heap_alloc_old
theorem zHw(w:World)(base:Nat)(t ty e:TypeId)(i:TypeInfo)(z:Value)(ht:P.underlying t=some (.slice e))(hi:P.info? e=some i)(hz:i.zero=some z)(hzs:z.cells.size=i.size)(hsz:0<i.size)(v:Value)(n:Nat)(xs:List Value)(hown:zUi w base e i.size v n xs)(a:Addr)(m c:Nat)(news:List Value)(hl:news.length=m*i.size)(hnews:∀j u,news[j]?=some u->w.cell? (a.add j)=some u)(h1:∀u∈news,u.oneCell'=true)(h63:n+m<=maxLen)(hbytes:(n+m)*i.bytes<=140737488355328+1099511627776*(1 / i.bytes))(hbase:base<=w.heap.size) :
  ∃v' w',(Builtin.append_ #[t,t] ty #[v,.slice (some a) m c]).run P w=.ok v' w'/\zUi w' base e i.size v' (n+m) (xs++news)/\w.grownBy w' v.ownBlock/\(v'.ownBlock=v.ownBlock\/v'.ownBlock=some w.heap.size):=by
 rcases hown.2 with⟨hv,hn⟩|⟨g,cap,cur,rfl,hbg,hrow,hnc,hcm,hcs,htake⟩
 .have hx:xs=[]:=List.eq_nil_of_length_eq_zero (by rw[hown.1,hn];simp);subst hv;subst hn;subst hx;by_cases hb2:(0+m)*i.bytes<=140737488355328
  .obtain⟨v',w',r1,r2,r3,_,r5⟩:=run_append_own_at (P:=P) w base t ty e i z i.size i.bytes ht hi hz rfl rfl hzs hsz _ 0 [] (World.ownsRow_nil _ _ _ _) a m c news hl hnews h1 h63 hb2 hbase;exact⟨v',w',r1,zUA r2,r3,r5⟩
  .simp only[Nat.zero_add,List.nil_append]at *;have hm:0<m:=by
    rcases wZ0 m with h|h
    .subst h;simp at hb2
    .exact h
   have h48:m*i.bytes<=281474976710656:=by
    have:1 / i.bytes<=1:=Nat.div_le_self 1 _;omega
   have hsmall:m<=9223372036854775807:=by simp only[maxLen]at h63;omega
   have hr:=run_append_nil (P:=P) w t ty e i z ht hi hz a m c news hl hnews hm (by omega) h48;have hge:=wXx w m 0 e;have hcm2:grownCap w m 0 e<=maxLen:=wXy w m 0 e h63;refine⟨_,_,hr,⟨hl,.inr ⟨w.heap.size,_,_,rfl,hbase,.plain (wQN w.drew _),hge,hcm2,?_,?_⟩⟩,⟨rfl,rfl,rfl,by simp,λk hk _=>wXU w.drew _ hk⟩,.inr rfl⟩
   .simp only[wXz,wZA,wXV,hzs,hl,<-wQu];congr 1;omega
   .simp only[wXA];rw[<-hl];exact wZK
 .have hsmall:n+m<=9223372036854775807:=by simp only[maxLen]at h63;omega
  have hlen:(xs++news).length=(n+m)*i.size:=by rw[wQe,hown.1,hl,wQu]
  by_cases hroom:n+m<=cap
  .have hfit:n*i.size+news.length<=cur.size:=by rw[hl,hcs,<-wQu];exact wQ1 _ hroom
   have hf:=run_firstCells_some (P:=P) w i.size m a m c news hl hnews;have hst:=zZV (P:=P) g (n*i.size) e news 0 cur w hrow (by simpa using hfit) h1;simp only[Nat.add_zero]at hst;have hr:(Builtin.append_ #[t,t] ty #[.slice (some ⟨g,0,none⟩) n cap,.slice (some a) m c]).run P w =
     .ok (.slice (some ⟨g,0,none⟩) (n+m) cap) (w.setRow g (cur.toList.take (n*i.size)++news++cur.toList.drop (n*i.size+news.length)).toArray):=by
    simp[Builtin.append_,wQh ht,sizeOf,typeInfo,hi,Builtin.lenOf,hroom,hf,Addr.add_lit,hst]
   have hs2:(cur.toList.take (n*i.size)++news++cur.toList.drop (n*i.size+news.length)).toArray.size=cur.size:=by
    simp only[wZA,wQe,wQl,wQF,wXc];omega
   refine⟨_,_,hr,⟨hlen,.inr ⟨g,cap,_,rfl,hbg,hrow.setRow hs2,hroom,hcm,by rw[hs2];exact hcs,?_⟩⟩,⟨rfl,rfl,rfl,by simp,λk _ hk=>wZS w g k _ (λe=>hk (by simp[Value.ownBlock,e]))⟩,.inl rfl⟩;rw[htake,<-hlen];exact wZK
  .have holds:∀j u,xs[j]?=some u->w.cell? ((⟨g,0,none⟩:Addr).add j)=some u:=λj u hj=>by
    rw[zZp,Nat.zero_add,hrow.cell j];rw[<-htake,wQI]at hj;split at hj
    .simpa using hj
    .cases hj
   have hr:=run_append_grow (P:=P) w t ty e i z ht hi hz ⟨g,0,none⟩ n cap xs hown.1 holds a m c news hl hnews (by omega) (by omega) (zVn (by omega) hbytes);have hge:=wXx w (n+m) cap e;have hcm2:grownCap w (n+m) cap e<=maxLen:=wXy w (n+m) cap e h63;refine⟨_,_,hr,⟨hlen,.inr ⟨w.heap.size,_,_,rfl,hbase,.plain (wQN w.drew _),hge,hcm2,?_,?_⟩⟩,⟨rfl,rfl,rfl,by simp,λk hk _=>wXU w.drew _ hk⟩,.inr rfl⟩
   .simp only[wXz,wZA,wXV,hzs,hown.1,hl,<-wQu];congr 1;omega
   .simp only[wXA,List.append_assoc];rw[<-List.append_assoc,<-hlen];exact wZK
theorem zWJ(w:World)(base:Nat)(t ty e:TypeId)(i:TypeInfo)(ht:P.underlying t=some (.slice e))(hi:P.info? e=some i)(hz:zWf i=true)(v:Value)(n:Nat)(xs:List Value)(hown:zUi w base e i.size v n xs)(yv:Value)(m:Nat)(news:List Value)(hsrc:Src w yv m news)(hl:news.length=m*i.size)(h1:∀u∈news,u.oneCell'=true)(h63:n+m<=maxLen)(hbytes:(n+m)*i.bytes<=140737488355328+1099511627776*(1 / i.bytes))(hbase:base<=w.heap.size) :
  ∃v' w',(Builtin.append_ #[t,t] ty #[v,yv]).run P w=.ok v' w'/\zUi w' base e i.size v' (n+m) (xs++news)/\w.grownBy w' v.ownBlock/\(v'.ownBlock=v.ownBlock\/v'.ownBlock=some w.heap.size):=by
 obtain⟨z,hz,hz1,hz2⟩:∃z,i.zero=some z/\0<i.size/\z.cells.size=i.size:=by
  unfold zWf at hz;split at hz
  .rename_i z hz';simp at hz;exact⟨z,hz',hz.1,hz.2⟩
  .cases hz
 rcases hsrc with⟨c,rfl,rfl⟩|⟨ad,c,rfl,hc⟩
 .have hm:m=0:=by
   have h0:m*i.size=0:=by rw[<-hl];rfl
   rcases Nat.mul_eq_zero.1 h0 with h|h<;>omega
  subst hm;refine⟨v,w,?_,by simpa using hown,⟨rfl,rfl,rfl,Nat.le_refl _,λ_ _ _=>rfl⟩,.inl rfl⟩
  rcases hown.2 with⟨rfl,rfl⟩|⟨g,cap,cur,rfl,_,hg,hn,_⟩
  .simp[Builtin.append_,wQh ht,sizeOf,typeInfo,hi,Builtin.lenOf,Builtin.firstCells]
  .simp[Builtin.append_,wQh ht,sizeOf,typeInfo,hi,Builtin.lenOf,Builtin.firstCells,hn,storeCells]
 .exact zHw (P:=P) w base t ty e i z ht hi hz hz2 hz1 v n xs hown ad m c news hl hc h1 h63 hbytes hbase
abbrev wQf:=@decide_eq_true_eq
theorem jXG(h:zWz i=true):i.zero=some (.int .u8 0)/\i.size=1/\i.bytes=1:=by
 unfold zWz at h;split at h
 .rename_i n hz;simp only[wQd,wQf]at h;obtain⟨⟨rfl,h2⟩,h3⟩:=h;exact⟨hz,h2,h3⟩
 .cases h
theorem jXg(w:World)(V:Nat->Prop)(s:ByteArray):zZo w V (zJs s) (Lib.strCells s):=by
 unfold zJs Lib.strCells;generalize s.data.toList=l
 induction l with
 |nil=>trivial
 |cons b l ih=>
  refine⟨?_,ih⟩;simp only[RepD,true_and];have:=b.toNat_lt;refine(zZ6 _ _).2 ?_;simp[IntKind.min,IntKind.max,IntKind.signed,IntKind.bits];omega
abbrev wYY:=@Lib.run_firstCells_string
theorem zWI(w:World)(base:Nat)(t u ty e:TypeId)(i:TypeInfo)(ht:P.underlying t=some (.slice e))(hu:P.underlying u=some .string)(hi:P.info? e=some i)(hz:i.zero=some (.int .u8 0))(hs1:i.size=1)(hb1:i.bytes=1)(v:Value)(n:Nat)(xs:List Value)(hown:zUi w base e 1 v n xs)(s:ByteArray)(h63:n+s.size<=maxLen)(hbytes:(n+s.size)*1<=140737488355328+1099511627776*(1 / 1))(hbase:base<=w.heap.size) :
  ∃v' w',(Builtin.append_ #[t,u] ty #[v,.string s]).run P w=.ok v' w'/\zUi w' base e 1 v' (n+s.size) (xs++Lib.strCells s)/\w.grownBy w' v.ownBlock/\(v'.ownBlock=v.ownBlock\/v'.ownBlock=some w.heap.size):=by
 have hsc:=Lib.strCells_length s;have hxl:xs.length=n:=by simpa using hown.1
 have hsmall:n+s.size<=9223372036854775807:=by simp only[maxLen]at h63;omega
 have hlen:(xs++Lib.strCells s).length=(n+s.size)*1:=by rw[wQe,hxl,hsc,wQg]
 rcases hown.2 with⟨hv,hn⟩|⟨g,cap,cur,rfl,hbg,hrow,hnc,hcm,hcs,htake⟩
 .have hx:xs=[]:=List.eq_nil_of_length_eq_zero (by rw[hxl,hn]);subst hv;subst hn;subst hx;by_cases hm:s.size=0
  .have hn:Lib.strCells s=[]:=List.eq_nil_of_length_eq_zero (by rw[hsc];exact hm);refine⟨.slice none 0 0,w,?_,by rw[hm,hn];exact zVP w base e 1,⟨rfl,rfl,rfl,Nat.le_refl _,λ_ _ _=>rfl⟩,.inl rfl⟩;have hf:=wYY (P:=P) w 1 s;rw[hm]at hf;simp[Builtin.append_,wQh ht,wQh hu,sizeOf,typeInfo,hi,hs1,Builtin.lenOf,hm,hf]
  .have hr:=run_append_nil_string (P:=P) w t u ty e i (.int .u8 0) ht hu hi hz s (by omega) (by omega) (by rw[hb1];omega);have e1:(s.data.map λb=>Value.int .u8 b.toNat)=(Lib.strCells s).toArray:=by
    apply wXv;simp[Lib.strCells]
   rw[e1]at hr;simp only[Nat.zero_add,List.nil_append]at *;have hge:=wXx w s.size 0 e;have hcm2:grownCap w s.size 0 e<=maxLen:=wXy w s.size 0 e h63;refine⟨_,_,hr,⟨hlen,.inr ⟨w.heap.size,_,_,rfl,hbase,.plain (wQN w.drew _),hge,hcm2,?_,?_⟩⟩,⟨rfl,rfl,rfl,by simp,λk hk _=>wXU w.drew _ hk⟩,.inr rfl⟩
   .have hz1:(Value.int IntKind.u8 0).cells.size=1:=rfl;simp only[wXz,wZA,wXV,hz1,hsc];omega
   .simp only[wXA];rw[<-hlen];exact wZK
 .by_cases hroom:n+s.size<=cap
  .have hfit:n+(Lib.strCells s).length<=cur.size:=by rw[hsc,hcs];omega
   have hf:=wYY (P:=P) w 1 s;have hst:=zZV (P:=P) g n e (Lib.strCells s) 0 cur w hrow (by simpa using hfit) (Lib.strCells_oneCell s);simp only[Nat.add_zero,hsc]at hst;have hr:(Builtin.append_ #[t,u] ty #[.slice (some ⟨g,0,none⟩) n cap,.string s]).run P w =
     .ok (.slice (some ⟨g,0,none⟩) (n+s.size) cap) (w.setRow g (cur.toList.take n++Lib.strCells s++cur.toList.drop (n+s.size)).toArray):=by
    simp[Builtin.append_,wQh ht,wQh hu,sizeOf,typeInfo,hi,hs1,Builtin.lenOf,hroom,hf,Addr.add_lit,hst]
   have hs2:(cur.toList.take n++Lib.strCells s++cur.toList.drop (n+s.size)).toArray.size=cur.size:=by
    simp only[wZA,wQe,wQl,wQF,wXc,hsc];omega
   refine⟨_,_,hr,⟨hlen,.inr ⟨g,cap,_,rfl,hbg,hrow.setRow hs2,hroom,hcm,by rw[hs2];exact hcs,?_⟩⟩,⟨rfl,rfl,rfl,by simp,λk _ hk=>wZS w g k _ (λe=>hk (by simp[Value.ownBlock,e]))⟩,.inl rfl⟩;have ht':cur.toList.take n=xs:=by simpa using htake
   rw[ht',<-hlen];exact wZK
  .have holds:∀j u,xs[j]?=some u->w.cell? ((⟨g,0,none⟩:Addr).add j)=some u:=λj u hj=>by
    rw[zZp,Nat.zero_add,hrow.cell j];rw[<-htake,wQI]at hj;split at hj
    .simpa using hj
    .cases hj
   have hr:=Lib.run_append_grow_string (P:=P) w t u ty e i (.int .u8 0) ht hu hi hz ⟨g,0,none⟩ n cap xs (by rw[hs1];simpa using hxl) holds s (by omega) (by omega) (by rw[hb1];exact zVn (by omega) hbytes);have hge:=wXx w (n+s.size) cap e;have hcm2:grownCap w (n+s.size) cap e<=maxLen:=wXy w (n+s.size) cap e h63;refine⟨_,_,hr,⟨hlen,.inr ⟨w.heap.size,_,_,rfl,hbase,.plain (wQN w.drew _),hge,hcm2,?_,?_⟩⟩,⟨rfl,rfl,rfl,by simp,λk hk _=>wXU w.drew _ hk⟩,.inr rfl⟩
   .have hz1:(Value.int IntKind.u8 0).cells.size=1:=rfl;simp only[wXz,wZA,wXV,hz1,hxl,hsc];omega
   .simp only[wXA,List.append_assoc];rw[<-List.append_assoc,<-hlen];exact wZK
variable{d:Nat}
theorem RepS.append{n:Dom}(h:RepS w0 S n s ι a w)(hf:s.bx d=.fresh)(hlb:(s.bx b).live=true){row:Option Nat}(hgrow:w.grownBy w' row)(hrow:∀g,row=some g->∃c,ι b=some (g,c)){B:Bx}(hlB:B.live=true){p:Option (Nat × Nat)}(hp:∀g c,p=some (g,c)->((∃c',ι b=some (g,c'))\/w.heap.size<=g)/\g<w'.heap.size) :
  let bx':=((s.setB d B).setB b .gone).bx
  let ι':zQm:=λx=>if x=d then p else ι x
  zWD ι s.bx ι' bx'/\zZJ w (Seen S w0.heap.size s.bx ι) w' (Seen S w0.heap.size bx' ι')/\(bx' d).known=true /\
  (zX1 w' (Seen S w0.heap.size bx' ι') ι' bx' d B->RepS w0 S n ((s.setB d B).setB b .gone) ι' a w'):=by
 intro bx' ι';have hkl:∀X:Bx,X.live=true->X.known=true:=λX h=>by cases X<;>simp_all [Bx.live,Bx.known]
 have hbd:b≠d:=λe=>by subst e;rw[hf]at hlb;simp[Bx.live]at hlb
 have ed:bx' d=B:=by simp[bx',AS.setB,Ne.symm hbd]
 have eb:bx' b=.gone:=by simp[bx',AS.setB]
 have eo:∀x,x≠d->x≠b->bx' x=s.bx x:=λx h1 h2=>by simp[bx',AS.setB,h1,h2]
 have hne:∀x,(s.bx x).known=true->x≠d:=λx hk e=>by subst e;rw[hf]at hk;simp[Bx.known]at hk
 have hstay:zWD ι s.bx ι' bx':=λx hk=>by
  have h1:=hne x hk;refine⟨?_,by simp[ι',h1]⟩;by_cases h2:x=b
  .subst h2;rw[eb];rfl
  .rw[eo x h1 h2];exact hk
 have hkeep:zZJ w (Seen S w0.heap.size s.bx ι) w' (Seen S w0.heap.size bx' ι'):=by
  intro g off u hV hu;have hlt:g<w.heap.size:=wZI w _ hu;have hgr:some g≠row:=λe=>by
   obtain⟨c,hc⟩:=hrow g e.symm;exact hV.2 b c hlb hc
  refine⟨⟨hV.1,λx c hl e=>?_⟩,by rw[<-hu];simp[World.cell?,hgrow.block g hlt hgr]⟩;by_cases h1:x=d
  .subst h1;simp only[ι',if_true]at e
   rcases (hp g c e).1 with⟨c',h2⟩|h2
   .exact hV.2 b c' hlb h2
   .omega
  .simp only[ι',if_neg h1]at e;by_cases h2:x=b
   .subst h2;rw[eb]at hl;simp[Bx.live]at hl
   .rw[eo x h1 h2]at hl;exact hV.2 x c hl e
 refine⟨hstay,hkeep,by rw[ed];exact hkl B hlB,λhB=>?_⟩;have hle:w0.heap.size<=w.heap.size:=h.bel.size;refine h.move (bx':=bx') ⟨hgrow.os.trans h.bel.os,hgrow.tape.trans h.bel.tape,hgrow.output.trans h.bel.output,wQJ h.bel.size hgrow.size,λk hk hl=>(hgrow.block k (by omega) λe=>?_).trans (h.bel.block k hk hl)⟩ (.of_grownBy hgrow λj o ej hj=>?_) hstay hkeep (λx=>?_) (λx g c hl e=>?_) (λx x' g c c' hl hl' hxx e=>?_)
 .obtain⟨c,hc⟩:=hrow k e.symm
  rcases (h.own b k c hlb hc).1 with q|q
  .omega
  .exact hl q
 .obtain⟨c,hc⟩:=hrow j ej;obtain⟨cur,T,i,hcur⟩:=h.live_cells hlb hc;rw[hcur]at hj;injection hj with hj
  subst hj;rfl
 .by_cases h1:x=d
  .subst h1;right;rw[ed];exact hB
  .by_cases h2:x=b
   .subst h2;right;rw[eb];trivial
   .left;refine⟨eo x h1 h2,λhl g c e=>hgrow.block g (h.own x g c hl e).2 λe'=>?_⟩;obtain⟨c',hc'⟩:=hrow g e'.symm;exact h.dist x b g c c' hl hlb h2 e hc'
 .by_cases h1:x=d
  .subst h1;simp only[ι',if_true]at e;have h3:=hp g c e
   rcases h3.1 with⟨c',h2⟩|h2
   .exact⟨(h.own b g c' hlb h2).1,h3.2⟩
   .exact⟨.inl (by omega),h3.2⟩
  .simp only[ι',if_neg h1]at e;by_cases h2:x=b
   .subst h2;rw[eb]at hl;simp[Bx.live]at hl
   .rw[eo x h1 h2]at hl;have:=h.own x g c hl e;exact⟨this.1,wZx this.2 hgrow.size⟩
 .have key:∀y gg cc,y≠d->(bx' y).live=true->ι y=some (gg,cc)->∀c1,p≠some (gg,c1):=by
   intro y gg cc h1 hly ey c1 ep;by_cases h2:y=b
   .subst h2;rw[eb]at hly;simp[Bx.live]at hly
   .rw[eo y h1 h2]at hly
    rcases (hp gg c1 ep).1 with⟨c2,h3⟩|h3
    .exact h.dist y b gg cc c2 hly hlb h2 ey h3
    .have:=h.own y gg cc hly ey;omega
  by_cases h1:x=d
  .have h1':x'≠d:=λe'=>hxx (h1.trans e'.symm);simp only[ι',if_pos h1]at e;simp only[ι',if_neg h1'];intro e';exact key x' g c' h1' hl' e' c e
  .simp only[ι',if_neg h1]at e;by_cases h1':x'=d
   .simp only[ι',if_pos h1'];exact key x g c h1 hl e c'
   .simp only[ι',if_neg h1'];have g1:x≠b:=λe2=>by rw[e2,eb]at hl;simp[Bx.live]at hl
    have g2:x'≠b:=λe2=>by rw[e2,eb]at hl';simp[Bx.live]at hl'
    rw[eo x h1 g1]at hl;rw[eo x' h1' g2]at hl';exact h.dist x x' g c c' hl hl' hxx e
def zJh:Value->Option (Nat × Nat)
 |.slice (some a) _ cap=>some (a.block,cap)
 |_=>none
variable{e n:Nat}{V':Nat->Prop}
theorem zJc{base size:Nat}{v':Value}{us:List Value}{zs:List DV}(hk:(bx' d).known=true)(hown:zUi w' base e size v' n us)(hz:zZo w' V' zs us)(hzl:zs.length=n*size){p:Option (Nat × Nat)}(hp:p=zJh v')(hd:ι' d=p):zX1 w' V' ι' bx' d (.row e size zs)/\zQg w' V' ι' bx' (.one (.ref d n)) v':=by
 simp only[zQg,zQs]
 rcases hown.2 with⟨rfl,rfl⟩|⟨g,cap,cur,rfl,h1,h2,h3,h4,h5,h6⟩
 .simp only[zJh]at hp;subst hp;exact⟨.inl ⟨hd,List.eq_nil_of_length_eq_zero (by simpa using hzl)⟩,hk,.inl ⟨hd,rfl,rfl⟩⟩
 .simp only[zJh]at hp;subst hp;refine⟨.inr ⟨g,cap,cur,hd,h2,h4,h5,?_⟩,hk,.inr ⟨g,cap,hd,rfl,h3⟩⟩;rw[hzl,h6];exact hz
theorem zKA{base size:Nat}{us:List Value}(h:zUi w base e size v n us):∀g c,zJh v=some (g,c)->v.ownBlock=some g/\g<w.heap.size:=by
 intro g c e
 rcases h.2 with⟨rfl,rfl⟩|⟨g',cap,cur,rfl,h1,h2,h3,h4,h5,h6⟩
 .cases e
 .simp only[zJh,wQa,wQc]at e;obtain⟨rfl,rfl⟩:=e;exact⟨rfl,(wZg.1 h2.choose_spec.1).1⟩
theorem zGI{m:Dom}(h:RepS w0 S m s ι a w){size:Nat}(hB:s.bx b=.row e size xs)(hn:xs.length=n*size)(hv:zQg w (Seen S w0.heap.size s.bx ι) ι s.bx (.one (.ref b n)) v):
  ∃us,zUi w 0 e size v n us/\zZo w (Seen S w0.heap.size s.bx ι) xs us/\(∀g,v.ownBlock=some g->∃c,ι b=some (g,c)):=by
 simp only[zQg,zQs]at hv;obtain⟨_,hv⟩:=hv;have hb:=h.bx b;rw[hB]at hb
 rcases hb with⟨h1,rfl⟩|⟨g,cap,cur,h1,h2,h3,h4,h5⟩
 .rcases hv with⟨_,rfl,rfl⟩|⟨g,cap,e',_⟩
  .exact⟨[],zVP _ _ _ _,trivial,λg h=>by simp[Value.ownBlock]at h⟩
  .rw[h1]at e';cases e'
 .rcases hv with⟨e',_⟩|⟨g',cap',e',rfl,hle⟩
  .rw[h1]at e';cases e'
  .rw[h1]at e';simp only[wQa,wQc]at e';obtain⟨rfl,rfl⟩:=e';have ho:=h.own b g cap (by rw[hB];rfl) h1;rw[hn]at h5;refine⟨_,⟨?_,.inr ⟨g,cap,cur,rfl,wQj _,h2,hle,h3,h4,rfl⟩⟩,h5,λg' hg'=>?_⟩
   .rw[<-zQ8 h5,hn]
   .simp only[Value.ownBlock,wQa]at hg';subst hg';exact⟨cap,h1⟩
variable{u t m:Nat}{st:ByteArray}
section
variable{P:Program}{o:Oper}{s:AS}
theorem zVk(ho:o.op=.call { callee:=.builtin .append,args:=#[x,y],argTypes:=#[t,t] })(hu:P.underlying t=some (.slice e))(hi:P.info? e=some i)(hz:zWf i=true)(hf:s.bx d=.fresh)(hB:s.bx b=.row e i.size xs)(hx:s.eval x=.one (.ref b n))(hsrc:∀(w0:World) (S:zQ3) (k:Dom) (ι:zQm) (a:Act) (w:World),RepS w0 S k s ι a w->∃us,zZo w (Seen S w0.heap.size s.bx ι) ys us/\Src w (a.eval y) m us) :
  zWE P o s (zZQ i.size i.bytes n m xs ys) (.one (.ref d (n+m))) [d,b] [.row e i.size (xs++ys),.gone]:=by
 intro w0 S k ι a w K Q hr hvc hK;obtain⟨c1,c2,c3,c4⟩:=hvc;have hv:=hr.eval x;rw[hx]at hv;obtain⟨us,hown,hus,hblk⟩:=zGI hr hB c1 hv;obtain⟨news,hnews,hs⟩:=hsrc w0 S k ι a w hr;obtain⟨v',w',r1,r2,r3,r4⟩:=zWJ w 0 t o.type e i hu hi hz (a.eval x) n us hown (a.eval y) m news hs (by rw[<-zQ8 hnews,c2]) (zYm hnews) c3 c4 (wQj _);have hlb:(s.bx b).live=true:=by rw[hB];rfl
 have hval:=zKA r2
 obtain⟨g1,g2,g3,g4⟩:=hr.append hf hlb r3 hblk (B:=.row e i.size (xs++ys)) rfl (p:=zJh v') (λg c hp=>by
  have h1:=hval g c hp;refine⟨?_,h1.2⟩
  rcases r4 with h2|h2
  .left;exact hblk g (by rw[<-h2];exact h1.1)
  .right;rw[h2]at h1;have:=h1.1;simp only[wQa]at this
   omega)
 have hrep:=zJc (d:=d) (ι':=λz=>if z=d then zJh v' else ι z) g3 r2 (zGC (hus.keep g2) (hnews.keep g2)) (by rw[wQe,c1,c2,wQu]) rfl (by simp);unfold Oper.wp;rw[zQT ho a w w' v' (λcs=>by simp[builtin,r1])];exact hK _ v' w' (g4 hrep.1) hrep.2
theorem zVl(ho:o.op=.call { callee:=.builtin .append,args:=#[x,y],argTypes:=#[t,t] })(hu:P.underlying t=some (.slice e))(hi:P.info? e=some i)(hz:zWf i=true)(hf:s.bx d=.fresh)(hx:s.eval x=.one .nil)(hsrc:∀(w0:World) (S:zQ3) (k:Dom) (ι:zQm) (a:Act) (w:World),RepS w0 S k s ι a w->∃us,zZo w (Seen S w0.heap.size s.bx ι) ys us/\Src w (a.eval y) m us) :
  zWE P o s (zZQ i.size i.bytes 0 m [] ys) (.one (.ref d m)) [d] [.row e i.size ys]:=by
 intro w0 S k ι a w K Q hr hvc hK;obtain⟨c1,c2,c3,c4⟩:=hvc;have hv:=hr.eval x;rw[hx]at hv;simp only[zQg,zQs]at hv;obtain⟨news,hnews,hs⟩:=hsrc w0 S k ι a w hr;obtain⟨v',w',r1,r2,r3,r4⟩:=zWJ w w0.heap.size t o.type e i hu hi hz (a.eval x) 0 [] (by rw[hv];exact zVP _ _ _ _) (a.eval y) m news hs (by rw[<-zQ8 hnews,c2]) (zYm hnews) c3 c4 hr.bel.size;rw[hv]at r3 r4;simp only[Nat.zero_add,List.nil_append]at r2;have hval:=zKA r2;have hbel:Below w.heap.size w w':=⟨r3.os,r3.tape,r3.output,r3.size,λk hk=>r3.block k hk (by simp[Value.ownBlock])⟩
 have hp:∀g c,zJh v'=some (g,c)->w.heap.size<=g/\g<w'.heap.size:=λg c hp=>by
  have h1:=hval g c hp;refine⟨?_,h1.2⟩
  rcases r4 with h2|h2
  .rw[h2]at h1;simp[Value.ownBlock]at h1
  .rw[h2]at h1;have:=h1.1;simp only[wQa]at this;omega
 have g2:=zUG (S:=S) (B0:=w0.heap.size) (bx:=s.bx) (ι:=ι) (b0:=d) (B:=.row e i.size ys) hbel hp;have hrep:=zJc (d:=d) (ι':=λz=>if z=d then zJh v' else ι z) (bx':=(s.setB d (.row e i.size ys)).bx) (by simp[AS.setB,Bx.known]) r2 (hnews.keep g2) c2 rfl (by simp);unfold Oper.wp;rw[zQT ho a w w' v' (λcs=>by simp[builtin,r1])];exact hK _ v' w' (hr.new_ hf hbel rfl hp hrep.1) hrep.2
theorem zGk(ho:o.op=.call { callee:=.builtin .append,args:=#[x,y],argTypes:=#[t,u] })(hu:P.underlying t=some (.slice e))(hus:P.underlying u=some .string)(hi:P.info? e=some i)(hz:zWz i=true)(hf:s.bx d=.fresh)(hB:s.bx b=.row e 1 xs)(hx:s.eval x=.one (.ref b n))(hy:(s.eval y).dv=some (.str st)) :
  zWE P o s (zZQ 1 1 n st.size xs (zJs st)) (.one (.ref d (n+st.size))) [d,b] [.row e 1 (xs++zJs st),.gone]:=by
 intro w0 S k ι a w K Q hr hvc hK;obtain⟨c1,c2,c3,c4⟩:=hvc;have hv:=hr.eval x;rw[hx]at hv;obtain⟨us,hown,husr,hblk⟩:=zGI hr hB c1 hv;have hyv:a.eval y=.string st:=by
  have:=zJa (hr.eval y) hy;simp only[RepD]at this;exact this.1
 have hnews:=jXg w (Seen S w0.heap.size s.bx ι) st;obtain⟨z1,z2,z3⟩:=jXG hz;obtain⟨v',w',r1,r2,r3,r4⟩:=zWI w 0 t u o.type e i hu hus hi z1 z2 z3 (a.eval x) n us hown st c3 c4 (wQj _);have hlb:(s.bx b).live=true:=by rw[hB];rfl
 have hval:=zKA r2
 obtain⟨g1,g2,g3,g4⟩:=hr.append hf hlb r3 hblk (B:=.row e 1 (xs++zJs st)) rfl (p:=zJh v') (λg c hp=>by
  have h1:=hval g c hp;refine⟨?_,h1.2⟩
  rcases r4 with h2|h2
  .left;exact hblk g (by rw[<-h2];exact h1.1)
  .right;rw[h2]at h1;have:=h1.1;simp only[wQa]at this
   omega)
 have hrep:=zJc (d:=d) (ι':=λz=>if z=d then zJh v' else ι z) g3 r2 (zGC (husr.keep g2) (hnews.keep g2)) (by rw[wQe,c1,c2,wQu]) rfl (by simp);unfold Oper.wp;rw[zQT ho a w w' v' (λcs=>by simp[builtin,hyv,r1])];exact hK _ v' w' (g4 hrep.1) hrep.2
theorem zGl(ho:o.op=.call { callee:=.builtin .append,args:=#[x,y],argTypes:=#[t,u] })(hu:P.underlying t=some (.slice e))(hus:P.underlying u=some .string)(hi:P.info? e=some i)(hz:zWz i=true)(hf:s.bx d=.fresh)(hx:s.eval x=.one .nil)(hy:(s.eval y).dv=some (.str st)) :
  zWE P o s (zZQ 1 1 0 st.size [] (zJs st)) (.one (.ref d st.size)) [d] [.row e 1 (zJs st)]:=by
 intro w0 S k ι a w K Q hr hvc hK;obtain⟨c1,c2,c3,c4⟩:=hvc;have hv:=hr.eval x;rw[hx]at hv;simp only[zQg,zQs]at hv;have hyv:a.eval y=.string st:=by
  have:=zJa (hr.eval y) hy;simp only[RepD]at this;exact this.1
 have hnews:=jXg w (Seen S w0.heap.size s.bx ι) st;obtain⟨z1,z2,z3⟩:=jXG hz;obtain⟨v',w',r1,r2,r3,r4⟩:=zWI w w0.heap.size t u o.type e i hu hus hi z1 z2 z3 (a.eval x) 0 [] (by rw[hv];exact zVP _ _ _ _) st c3 c4 hr.bel.size;rw[hv]at r3 r4;simp only[Nat.zero_add,List.nil_append]at r2;have hval:=zKA r2;have hbel:Below w.heap.size w w':=⟨r3.os,r3.tape,r3.output,r3.size,λk hk=>r3.block k hk (by simp[Value.ownBlock])⟩
 have hp:∀g c,zJh v'=some (g,c)->w.heap.size<=g/\g<w'.heap.size:=λg c hp=>by
  have h1:=hval g c hp;refine⟨?_,h1.2⟩
  rcases r4 with h2|h2
  .rw[h2]at h1;simp[Value.ownBlock]at h1
  .rw[h2]at h1;have:=h1.1;simp only[wQa]at this;omega
 have g2:=zUG (S:=S) (B0:=w0.heap.size) (bx:=s.bx) (ι:=ι) (b0:=d) (B:=.row e 1 (zJs st)) hbel hp;have hrep:=zJc (d:=d) (ι':=λz=>if z=d then zJh v' else ι z) (bx':=(s.setB d (.row e 1 (zJs st))).bx) (by simp[AS.setB,Bx.known]) r2 (hnews.keep g2) c2 rfl (by simp);unfold Oper.wp;rw[zQT ho a w w' v' (λcs=>by simp[builtin,hyv,r1])];exact hK _ v' w' (hr.new_ hf hbel rfl hp hrep.1) hrep.2
theorem jX7{t u:TypeId}(ho:o.op=.call { callee:=.builtin .append,args:=#[x,y],argTypes:=#[t,u] }):zZM P o s (jQC P d t u (s.eval x) (s.eval y)):=by
 unfold jQC;split
 .rename_i e st hu hus hy;split
  .rename_i i hi;split
   .exact .none
   .rename_i hz;have hz:zWz i=true:=by simpa using hz
    split
    .rename_i hx;intro e' he vc v bs hf;injection he with he;subst he
     simp only[Eff.new,wQi,wQs]at hf |-;cases hfr:s.bx d<;>rw[hfr]at hf<;>simp only[wQa,wQc,reduceCtorEq]at hf;obtain⟨rfl,rfl,rfl⟩:=hf;exact zGl ho hu hus hi hz hfr hx hy
    .rename_i b n hx;intro e' he vc v bs hf;injection he with he;subst he
     simp only[wQi,wQs]at hf |-;cases hfr:s.bx d<;>rw[hfr]at hf<;>simp only[reduceCtorEq]at hf;cases hB:s.bx b<;>rw[hB]at hf<;>simp only[jUp,wQ6,reduceCtorEq]at hf;rename_i e2 size2 xs;by_cases hc:e2=e/\size2=1
     .obtain⟨rfl,rfl⟩:=hc;simp only[and_self,if_true,wQv,wQa,wQc]at hf;obtain⟨rfl,rfl,rfl⟩:=hf;exact zGk ho hu hus hi hz hfr hB hx hy
     .simp only[if_neg hc,wQ6,reduceCtorEq]at hf
    .exact .none
  .exact .none
 .exact .none
theorem jZ5{t ty e:TypeId}(hu:P.underlying t=some (.slice e))(hi:P.info? e=some i){base:Option Addr}{len c:Nat}{us:List Value}(hs:Src w yv m us)(hm:len<=m)(hl:len*i.size<=us.length)(hst:∀a,base=some a->(storeCells a (us.take (len*i.size))).run P w=.ok () w')(hn:base=none->w'=w) :
  (Builtin.copy_ #[t,t'] ty #[.slice base len c,yv]).run P w=.ok (goInt len) w':=by
 have hmin:Nat.min m len=len:=Nat.min_eq_right hm
 rcases hs with⟨c',rfl,rfl⟩|⟨ad,c',rfl,hc⟩
 .have hz:len*i.size=0:=by simpa using hl
  cases base with
  |none=>obtain rfl:=hn rfl;simp[Builtin.copy_,wQh hu,sizeOf,typeInfo,hi,Builtin.lenOf,Builtin.firstCells,hmin]
  |some a=>
   have:=hst a rfl;simp only[List.take_nil]at this;simp[Builtin.copy_,wQh hu,sizeOf,typeInfo,hi,Builtin.lenOf,Builtin.firstCells,hmin,this]
 .have hf:=run_firstCells_some (P:=P) w i.size len ad m c' (us.take (len*i.size)) (by rw[wQl,wQM hl]) (λj v hj=>by
   rw[wQI]at hj;split at hj
   .exact hc j v hj
   .cases hj)
  cases base with
  |none=>obtain rfl:=hn rfl;simp[Builtin.copy_,wQh hu,sizeOf,typeInfo,hi,Builtin.lenOf,hf,hmin]
  |some a=>
   have:=hst a rfl;simp[Builtin.copy_,wQh hu,sizeOf,typeInfo,hi,Builtin.lenOf,hf,hmin,this]
theorem jJB{α:Type}:∀(us vs:List α)(i m:Nat),sets (vs.take m) i us=(sets vs i us).take m
 |[],vs,i,m=>rfl
 |u::us,vs,i,m=>by
  simp only[sets];rw[<-jJB us,List.take_set]
theorem jUt(ho:o.op=.call { callee:=.builtin .copy,args:=#[x,y],argTypes:=ts }):zZM P o s (jG3 P ts (s.eval x) (s.eval y)):=by
 unfold jG3;split
 .rename_i t t' b off len m ys hts hx hy;have hts:ts=#[t,t']:=by rw[<-wZi (xs:=ts),hts]
  subst hts;split
  .rename_i e hu;split
   .rename_i i hi;intro e' he vc v bs hf;injection he with he;subst he
    simp only[wQi,wQs]at hf |-
    cases hB:s.bx b with
    |row e' size xs=>
     rw[hB]at hf;simp only[wQa,wQc]at hf;obtain⟨rfl,rfl,rfl⟩:=hf;intro w0 S k ι a w K Q hr hvc hK;obtain⟨c1,c0,c2,c3⟩:=hvc;have h:=hr.eval x;rw[hx]at h;simp only[zQg,zQs]at h;obtain⟨hkn,h⟩:=h;obtain⟨us,hus,hsrc⟩:=jGq (zJa (hr.eval y) hy);have lus:=zQ8 hus;have one:=zYm hus;unfold Oper.wp
     rcases h with⟨rfl,A,c,hv⟩|⟨g,cap,c,q1,hv⟩
     .have r1:=jZ5 (P:=P) (w:=w) (w':=w) (t':=t') (ty:=o.type) hu hi (base:=A) (len:=0) (c:=c) hsrc (by omega) (by omega) (λa _=>by simp[storeCells]) (λ_=>rfl);rw[zQT ho a w w (goInt 0) (λcs=>by simp[builtin,hv,r1])];have ht:=hr.trunc hB xs.length;rw[wXb]at ht;refine hK ι _ w ?_ (zXv (jQQ c0));simp only[Nat.zero_mul,List.take_zero,sets];exact ht
     .have hb:=hr.bx b;rw[hB]at hb
      rcases hb with⟨h1,_⟩|⟨g2,cap',cur,h1,h2,h3,h4,h5⟩
      .rw[h1]at q1;cases q1
      rw[h1]at q1;simp only[wQa,wQc]at q1;obtain⟨rfl,rfl⟩:=q1;have l2:=zQ8 h5;have l2':xs.length<=cur.size:=by simp at l2;omega
      have lz:(us.take (len*i.size)).length=len*i.size:=by rw[wQl,wQM (by omega)]
      have hst:=zZV (P:=P) g2 off e' (us.take (len*i.size)) 0 cur w h2 (by rw[lz];omega) (λu hu=>one u (List.mem_of_mem_take hu));simp only[Nat.add_zero]at hst;have r1:=jZ5 (P:=P) (w:=w) (t':=t') (ty:=o.type) hu hi (base:=some ⟨g2,off,none⟩) (len:=len) (c:=c) hsrc c1 (by omega) (λa ha=>by cases ha;exact hst) (λh=>by cases h);have r2:∀cs,(builtin .copy #[t,t'] o.type cs (#[x,y].map a.eval)).run P w=.ok (.value (goInt len)) (w.setRow g2 (cur.toList.take off++us.take (len*i.size)++cur.toList.drop (off+(us.take (len*i.size)).length)).toArray):=λcs=>by
       have:#[x,y].map a.eval=#[.slice (some ⟨g2,off,none⟩) len c,a.eval y]:=by simp[hv]
       rw[this]
       show(do let v <-Builtin.copy_ #[t,t'] o.type _;pure (Next.value v):Sem Next).run P w=_
       rw[Sem.run_bind,r1];rfl
      rw[zQT ho a w _ (goInt len) r2];have hyd:=zGD (len*i.size) hus;have hlive:(s.bx b).live=true:=by rw[hB];rfl
      have hseen:Seen S w0.heap.size (s.setB b (.row e' size (sets xs off (ys.take (len*i.size))))).bx ι=Seen S w0.heap.size s.bx ι:=by
       funext g;unfold Seen;have:∀b',((s.setB b (.row e' size (sets xs off (ys.take (len*i.size))))).bx b').live=(s.bx b').live:=λb'=>by
        by_cases e:b'=b
        .subst e;simp[AS.setB,hB,Bx.live]
        .simp[AS.setB,e]
       simp only[this]
      have hkeep:zZJ w (Seen S w0.heap.size s.bx ι) (w.setRow g2 (cur.toList.take off++us.take (len*i.size)++cur.toList.drop (off+(us.take (len*i.size)).length)).toArray) (Seen S w0.heap.size s.bx ι):=by
       intro g off' u hV hu;refine⟨hV,?_⟩;have:g≠g2:=λe=>hV.2 b cap' hlive (by rw[e];exact h1);rw[<-hu];simp[World.cell?,wZS w g2 g _ this]
      have hnew:=hr.write (B:=.row e' size (sets xs off (ys.take (len*i.size)))) (w':=w.setRow g2 (cur.toList.take off++us.take (len*i.size)++cur.toList.drop (off+(us.take (len*i.size)).length)).toArray) hlive h1 (by simp[World.setRow]) (λg hg=>wZS w g2 g _ hg) ⟨rfl,rfl,rfl⟩ rfl (by
       rw[hseen];refine .inr ⟨g2,cap',_,h1,h2.setRow (by simp;omega),h3,by simp;omega,?_⟩;have hss:=(jQm hyd h5 off).keep hkeep;rw[zJJ];rw[jJB,zGn _ cur.toList _ (by rw[lz,wXc];omega)]at hss
       simpa using hss)
      exact hK ι _ _ hnew (zXv (jQQ c0))
    |fresh=>rw[hB]at hf;cases hf
    |gone=>rw[hB]at hf;cases hf
    |cells cs=>rw[hB]at hf;cases hf
    |ice _=>rw[hB]at hf;cases hf
   .exact .none
  .exact .none
 .exact .none
theorem jJN(ho:o.op=.call { callee:=.builtin .append,args:=#[x,y],argTypes:=ts }):zZM P o s (jYq P o.dst ts (s.eval x) (s.eval y)):=by
 unfold jYq;split
 .rename_i d t t' hd hts;split
  .have hts':ts=#[t,t']:=by rw[<-wZi (xs:=ts),hts]
   rw[hts']at ho;exact jX7 ho
  .rename_i htt;have htt:t=t':=by simpa using htt
   subst htt;have hts':ts=#[t,t]:=by rw[<-wZi (xs:=ts),hts]
   rw[hts']at ho;split
   .rename_i e hu;split
    .rename_i i hi;split
     .exact .none
     .rename_i hz;have hz:zWf i=true:=by simpa using hz
      split
      .rename_i b' m hx hy;intro e' he vc v bs hf;injection he with he;subst he
       simp only[wQi,wQs]at hf |-;cases hfr:s.bx d<;>rw[hfr]at hf<;>simp only[reduceCtorEq]at hf
       cases hin:zXJ (s.bx b') with
       |none=>rw[hin]at hf;cases hf
       |some ys=>
        rw[hin]at hf;simp only[wQv,wQa,wQc]at hf;obtain⟨rfl,rfl,rfl⟩:=hf;exact zVl ho hu hi hz hfr hx λw0 S k ι a w hr=>jGr (by have:=hr.eval y;rwa [hy]at this) (hr.bx b') hin
      .rename_i b n b' m hx hy;split
       .exact .none
       .intro e' he vc v bs hf;injection he with he;subst he
        simp only[wQi,wQs]at hf |-;cases hfr:s.bx d<;>rw[hfr]at hf<;>simp only[reduceCtorEq]at hf;cases hB:s.bx b<;>rw[hB]at hf<;>simp only[jUp,reduceCtorEq]at hf;rename_i e2 size2 xs;by_cases hc:e2=e/\size2=i.size
        .obtain⟨rfl,rfl⟩:=hc;simp only[and_self,if_true]at hf
         cases hin:zXJ (s.bx b') with
         |none=>rw[hin]at hf;cases hf
         |some ys=>
          rw[hin]at hf;simp only[wQa,wQc]at hf;obtain⟨rfl,rfl,rfl⟩:=hf;exact zVk ho hu hi hz hfr hB hx λw0 S k ι a w hr=>jGr (by have:=hr.eval y;rwa [hy]at this) (hr.bx b') hin
        .simp only[if_neg hc,reduceCtorEq]at hf
      .rename_i hx _;split
       .rename_i m ys hy;intro e' he vc v bs hf;injection he with he;subst he
        simp only[Eff.new,wQi,wQs]at hf |-;cases hfr:s.bx d<;>rw[hfr]at hf<;>simp only[wQa,wQc,reduceCtorEq]at hf;obtain⟨rfl,rfl,rfl⟩:=hf;exact zVl ho hu hi hz hfr hx λw0 S k ι a w hr=>jGq (zJa (hr.eval y) hy)
       .exact .none
      .rename_i b n hx hne;split
       .rename_i m ys hy;intro e' he vc v bs hf;injection he with he;subst he
        simp only[wQi,wQs]at hf |-;cases hfr:s.bx d<;>rw[hfr]at hf<;>simp only[reduceCtorEq]at hf;cases hB:s.bx b<;>rw[hB]at hf<;>simp only[jUp,wQ6,reduceCtorEq]at hf;rename_i e2 size2 xs;by_cases hc:e2=e/\size2=i.size
        .obtain⟨rfl,rfl⟩:=hc;simp only[and_self,if_true,wQv,wQa,wQc]at hf;obtain⟨rfl,rfl,rfl⟩:=hf;exact zVk ho hu hi hz hfr hB hx λw0 S k ι a w hr=>jGq (zJa (hr.eval y) hy)
        .simp only[if_neg hc,wQ6,reduceCtorEq]at hf
       .exact .none
      .exact .none
    .exact .none
   .exact .none
 .exact .none
end
def ices(s:AS):List Nat->AS
 |[]=>s
 |b::bs=>ices (s.setB b (s.bx b).freeze) bs
theorem RepCells.of_row{e:TypeId}(hg:zWc w g cur e)(h:zZo w V xs (cur.toList.take xs.length)):RepCells w V xs g 0:=by
 refine .of_at λi d hi=>?_;obtain⟨u,hu,hd⟩:=zKu h i d hi;refine⟨u,?_,hd⟩;rw[Nat.zero_add,hg.cell i];rw[wQI]at hu;split at hu
 .simpa using hu
 .cases hu
theorem RepS.freeze{w0:World}{S:zQ3}{n:Dom}{s:AS}{ι:zQm}{a:Act}{w:World}(h:RepS w0 S n s ι a w)(b:Nat):RepS w0 S n (s.setB b (s.bx b).freeze) ι a w:=by
 cases hB:s.bx b with
 |row e size xs=>
  simp only[Bx.freeze];have hlive:∀x,((s.setB b (.ice xs)).bx x).live=true->(s.bx x).live=true/\x≠b:=λx hl=>by
   by_cases e:x=b
   .subst e;simp[AS.setB,Bx.live]at hl
   .simp only[AS.setB,if_neg e]at hl;exact⟨hl,e⟩
  have hkeep:zZJ w (Seen S w0.heap.size s.bx ι) w (Seen S w0.heap.size (s.setB b (.ice xs)).bx ι):=λg off u hV hu=>⟨⟨hV.1,λx c hl e=>hV.2 x c (hlive x hl).1 e⟩,hu⟩
  have hstay:zWD ι s.bx ι (s.setB b (.ice xs)).bx:=λx hk=>by
   refine⟨?_,rfl⟩;by_cases e:x=b
   .simp[AS.setB,e,Bx.known]
   .simpa [AS.setB,e]using hk
  refine h.move (bx':=(s.setB b (.ice xs)).bx) h.bel (zYR (Nat.le_refl _) λ_ _ _ _=>rfl) hstay hkeep (λx=>?_) (λx g c hl e=>h.own x g c (hlive x hl).1 e) (λx x' g c c' hl hl' hxx e=>h.dist x x' g c c' (hlive x hl).1 (hlive x' hl').1 hxx e);by_cases e:x=b
  .subst e;right;have hb:=h.bx x;rw[hB]at hb;have:(s.setB x (.ice xs)).bx x=.ice xs:=by simp[AS.setB]
   rw[this]
   rcases hb with⟨h1,h2⟩|⟨g,cap,cur,h1,h2,h3,h4,h5⟩
   .exact .inl ⟨h1,h2⟩
   .refine .inr ⟨g,cap,h1,λ_=>⟨⟨.inr (h.own x g cap (by rw[hB];rfl) h1).1,λy c hl e'=>?_⟩,(RepCells.of_row h2 (h5.keep hkeep))⟩,h3⟩;have hy:=hlive y hl;exact h.dist x y g cap c (by rw[hB];rfl) hy.1 (Ne.symm hy.2) h1 e'
  .left;exact⟨by simp[AS.setB,e],λ_ _ _ _=>rfl⟩
 |fresh=>simp only[Bx.freeze];rw[show s.setB b .fresh=s from by unfold AS.setB;congr 1;funext x;split<;>simp_all];exact h
 |gone=>simp only[Bx.freeze];rw[show s.setB b .gone=s from by unfold AS.setB;congr 1;funext x;split<;>simp_all];exact h
 |cells cs=>simp only[Bx.freeze];rw[show s.setB b (.cells cs)=s from by unfold AS.setB;congr 1;funext x;split<;>simp_all];exact h
 |ice cs=>simp only[Bx.freeze];rw[show s.setB b (.ice cs)=s from by unfold AS.setB;congr 1;funext x;split<;>simp_all];exact h
variable{look:Nat->Option (List DV)}
section
variable{w:World}{V V':Nat->Prop}{ι:zQm}{bx:Nat->Bx}
def jZt(w:World)(V':Nat->Prop)(ι:zQm)(b:Nat)(xs:List DV):Prop:=
 ∀g c,ι b=some (g,c)->c<=maxLen/\Lies w V' xs g 0
theorem jGu(h:zQs w V ι bx (.ref b n) v)(hs:jZt w V' ι b xs)(hn:ι b=none->xs=[]):RepD w V' (.sl n xs) v:=by
 obtain⟨_,h⟩:=h;simp only[RepD]
 rcases h with⟨h1,rfl,rfl⟩|⟨g,cap,h1,rfl,hle⟩
 .exact⟨none,0,rfl,Nat.le_refl _,wQj _,λe=>absurd (hn h1) e⟩
 .obtain⟨h2,h3⟩:=hs g cap h1;exact⟨_,cap,rfl,hle,h2,λhne=>⟨g,0,rfl,h3 hne⟩⟩
theorem yXP(hk:zZJ w V w V'){c:Cl}{d:DV}(h:zQs w V ι bx c v)(hl:∀b∈c.refs,∀xs,look b=some xs->jZt w V' ι b xs/\(ι b=none->xs=[]))(hc:c.rv look=some d):RepD w V' d v:=by
 cases c with
 |ref b n=>
  simp only[Cl.rv]at hc
  cases hb:look b with
  |none=>rw[hb]at hc;cases hc
  |some xs=>
   rw[hb]at hc;simp only[wQv,wQa]at hc;subst hc;obtain⟨h1,h2⟩:=hl b (by simp[Cl.refs]) xs hb;exact jGu h h1 h2
 |d x=>exact(zYs h hc).keep hk
 |lit u=>exact(zYs h hc).keep hk
 |nil=>exact(zYs h hc).keep hk
 |ptr b off=>cases hc
 |vp xs off=>cases hc
 |sub b o n=>cases hc
 |clo f cs=>cases hc
 |dead=>cases hc
theorem yZv(hk:zZJ w V w V'){look:Nat->Option (List DV)}:∀{cs:List Cl}{vs:List Value}{ds:List DV},zQO w V ι bx cs vs->(∀c∈cs,∀b∈c.refs,∀xs,look b=some xs->jZt w V' ι b xs/\(ι b=none->xs=[]))->Cl.rvs look cs=some ds->zZo w V' ds vs
 |[],[],ds,_,_,hc=>by simp only[Cl.rvs,wQa]at hc;subst hc;trivial
 |c::cs,v::vs,ds,h,hl,hc=>by
  simp only[Cl.rvs]at hc
  cases h1:c.rv look with
  |none=>rw[h1]at hc;cases hc
  |some d=>
   cases h2:Cl.rvs look cs with
   |none=>rw[h1,h2]at hc;cases hc
   |some ds'=>
    rw[h1,h2]at hc;simp only[wQa]at hc;subst hc;exact⟨yXP hk h.1 (hl c (by simp)) h1,yZv hk h.2 (λc' hc'=>hl c' (by simp[hc'])) h2⟩
 |[],_::_,_,h,_,_=>h.elim
 |_::_,[],_,h,_,_=>h.elim
end
theorem yXQ(hk:zZJ w V w V'){x:AV}{r:RV}(hf:x.flat=true)(h:zQg w V ι bx x v)(hl:∀b∈x.refs,∀xs,look b=some xs->jZt w V' ι b xs/\(ι b=none->xs=[]))(hx:x.rv look=some r):RepR w V' r v:=by
 cases x with
 |one c=>
  simp only[AV.rv]at hx
  cases h1:c.rv look with
  |none=>rw[h1]at hx;cases hx
  |some d=>
   rw[h1]at hx;simp only[wQv,wQa]at hx;subst hx;simp only[zQg]at h;simp only[RepR];exact yXP hk h hl h1
 |agg cs=>
  simp only[AV.rv]at hx
  cases h1:Cl.rvs look cs with
  |none=>rw[h1]at hx;cases hx
  |some ds=>
   rw[h1]at hx;simp only[wQv,wQa]at hx;subst hx;simp only[zQg]at h;obtain⟨cur,e,hc⟩:=h;simp only[RepR];exact⟨cur,e,yZv hk hc (λc hc b hb=>hl b (by simp only[AV.refs,List.mem_flatMap];exact⟨c,hc,hb⟩)) h1⟩
 |tup vs=>cases hf
theorem jQa{w:World}{V V':Nat->Prop}{ι:zQm}{bx:Nat->Bx}(hk:zZJ w V w V'){look:Nat->Option (List DV)}:∀{xs:List AV}{vs:List Value}{rs:List RV},xs.all AV.flat=true->RepAVs w V ι bx xs vs ->
  (∀x∈xs,∀b∈x.refs,∀ys,look b=some ys->jZt w V' ι b ys/\(ι b=none->ys=[]))->AV.rvs look xs=some rs->RepRs w V' rs vs
 |[],[],rs,_,_,_,hx=>by simp only[AV.rvs,wQa]at hx;subst hx;simp only[RepRs]
 |x::xs,v::vs,rs,hf,h,hl,hx=>by
  simp only[wZX,wQd]at hf;simp only[RepAVs]at h;simp only[AV.rvs]at hx
  cases h1:x.rv look with
  |none=>rw[h1]at hx;cases hx
  |some r=>
   cases h2:AV.rvs look xs with
   |none=>rw[h1,h2]at hx;cases hx
   |some rs'=>
    rw[h1,h2]at hx;simp only[wQa]at hx;subst hx;simp only[RepRs];exact⟨yXQ hk hf.1 h.1 (hl x (by simp)) h1,jQa hk hf.2 h.2 (λy hy=>hl y (by simp[hy])) h2⟩
 |[],_::_,_,_,h,_,_=>by simp only[RepAVs]at h
 |_::_,[],_,_,h,_,_=>by simp only[RepAVs]at h
mutual
theorem jXh{w:World}{V:Nat->Prop}{ι:zQm}{bx:Nat->Bx}:∀{r:RV}{v:Value},RepR w V r v->zQg w V ι bx r.av v
 |.d x,v,h=>by simp only[RepR]at h;simp only[RV.av,zQg,zQs];exact h
 |.agg xs,v,h=>by
  simp only[RepR]at h;obtain⟨cs,e,h⟩:=h;simp only[RV.av,zQg];exact⟨cs,e,zKt h⟩
 |.tup xs,v,h=>by
  simp only[RepR]at h;obtain⟨vs,e,h⟩:=h;simp only[RV.av,zQg];exact⟨vs,e,rep_avs h⟩
theorem rep_avs{w:World}{V:Nat->Prop}{ι:zQm}{bx:Nat->Bx}:∀{rs:List RV}{vs:List Value},RepRs w V rs vs->RepAVs w V ι bx (RV.avs rs) vs
 |[],[],_=>by simp only[RV.avs,RepAVs]
 |_::_,_::_,h=>by simp only[RepRs]at h;simp only[RV.avs,RepAVs];exact⟨jXh h.1,rep_avs h.2⟩
 |[],_::_,h=>by simp only[RepRs]at h
 |_::_,[],h=>by simp only[RepRs]at h
end
theorem zYQ{f:Nat->Bx}:∀{rs:List Nat}{b:Nat}{ys:List DV},zXy rs (rs.map f) b=some ys->b∈rs/\zXJ (f b)=some ys
 |[],b,ys,h=>by simp[zXy]at h
 |r::rs,b,ys,h=>by
  simp only[wQi,zXy]at h;split at h
  .rename_i e;subst e;exact⟨by simp,h⟩
  .obtain⟨h1,h2⟩:=zYQ h;exact⟨by simp[h1],h2⟩
theorem zZG:∀(bs:List Nat)(Bs:List Bx)(s:AS),(s.setBs bs Bs).tm=s.tm
 |[],_,_=>by simp[AS.setBs]
 |_::_,[],_=>by simp[AS.setBs]
 |b::bs,B::Bs,s=>by rw[AS.setBs,zZG bs Bs];rfl
theorem zX5(f:Nat->Bx):∀(rs:List Nat)(s:AS)(b:Nat),(s.setBs rs (rs.map f)).bx b=if b∈rs then f b else s.bx b
 |[],s,b=>by simp[AS.setBs]
 |r::rs,s,b=>by
  simp only[wQi,AS.setBs];rw[zX5 f rs];by_cases h:b∈rs
  .simp[h]
  .by_cases e:b=r
   .subst e;simp[h,AS.setB]
   .simp[h,e,AS.setB]
theorem AS.ext'{s':AS}(h1:s.tm=s'.tm)(h2:s.bx=s'.bx):s=s':=by cases s;cases s';simp_all
theorem zKo(rs:List Nat)(s:AS):s.setBs rs (rs.map s.bx)=s:=AS.ext' (zZG _ _ _) (by funext b;rw[zX5];split<;>rfl)
theorem jYJ(B:Bx):B.freeze.freeze=B.freeze:=by cases B<;>rfl
theorem RepS.freezes{w0:World}{S:zQ3}{n:Dom}{s:AS}{ι:zQm}{a:Act}{w:World}(h:RepS w0 S n s ι a w):∀(rs:List Nat)(s2:AS),(∀b,s2.bx b=s.bx b\/s2.bx b=(s.bx b).freeze)->RepS w0 S n s2 ι a w ->
  RepS w0 S n (s2.setBs rs (rs.map λb=>(s.bx b).freeze)) ι a w
 |[],s2,_,h2=>by simpa [AS.setBs]using h2
 |r::rs,s2,hs,h2=>by
  simp only[wQi,AS.setBs];have e:s2.setB r (s.bx r).freeze=s2.setB r (s2.bx r).freeze:=by
   rcases hs r with h3|h3
   .rw[h3]
   .rw[h3,jYJ]
  refine RepS.freezes h rs _ (λb=>?_) (by rw[e];exact h2.freeze r);by_cases e':b=r
  .subst e';right;simp[AS.setB]
  .simp only[AS.setB,if_neg e'];exact hs b
variable{x:Operand}{t:TypeId}{Γ:Gam}
section
variable{P:Program}{o:Oper}{s:AS}
abbrev wXW:=@Oper.upon_enter
abbrev wZk:=@List.map_map
abbrev wZB:=@Function.comp_def
theorem jVw{f:FuncId}(ho:enters P f=true->∀(w0:World) (S:zQ3) (n:Dom) (ι:zQm) (a:Act) (w:World),RepS w0 S n s ι a w->(execOp a.eval o).run P w=.ok (.enter f (args.map a.eval)) w)(hX:∀(w0:World) (S:zQ3) (n:Dom) (ι:zQm) (a:Act) (w:World) (u:Value),RepS w0 S n s ι a w->(callFunc f (args.map a.eval)).run P w=.ok (.value u) w->(execOp a.eval o).run P w=.ok (.value u) w):zZM P o s (jQA P Γ f (args.toList.map s.eval)):=by
 unfold jQA;split
 .rename_i hen;simp only[wQd]at hen;obtain⟨hen,hflat⟩:=hen;intro e' he vc v bs hf;injection he with he;subst he
  simp only at hf |-;generalize hrs:(args.toList.map s.eval).flatMap AV.refs=rs at hf |-
  cases h1:AV.rvs (zXy rs (rs.map s.bx)) (args.toList.map s.eval) with
  |none=>rw[h1]at hf;cases hf
  |some rvs=>
   rw[h1]at hf;simp only at hf
   cases h2:Γ f rvs with
   |none=>rw[h2]at hf;cases hf
   |some r=>
    rw[h2]at hf;simp only[wQa,wQc]at hf;obtain⟨rfl,rfl,rfl⟩:=hf;intro w0 S n ι a w K Q hr hans hK;have hr':=RepS.freezes hr rs s (λb=>.inl rfl) hr;generalize hs':s.setBs rs (rs.map λb=>(s.bx b).freeze)=s' at hr';have htm:s'.tm=s.tm:=by rw[<-hs'];exact zZG _ _ _
    have heval:s'.eval=s.eval:=by funext x;cases x<;>simp[AS.eval,htm]
    have hargs:RepAVs w (Seen S w0.heap.size s'.bx ι) ι s'.bx (args.toList.map s.eval) (args.toList.map a.eval):=by
     clear h1 hrs hflat
     induction args.toList with
     |nil=>simp only[wQs,RepAVs]
     |cons x xs ih=>
      simp only[wQi,RepAVs];exact⟨by rw[<-heval];exact hr'.eval x,ih⟩
    have hlook:∀x∈args.toList.map s.eval,∀b∈x.refs,∀ys,zXy rs (rs.map s.bx) b=some ys->jZt w (Seen S w0.heap.size s'.bx ι) ι b ys/\(ι b=none->ys=[]):=by
     intro x hx b hb ys hys;obtain⟨hbr,hin⟩:=zYQ hys;have hb':=hr'.bx b;have e1:s'.bx b=(s.bx b).freeze:=by rw[<-hs',zX5,if_pos hbr]
     have e2:s'.bx b=.ice ys:=by
      rw[e1];revert hin;cases s.bx b<;>intro hin<;>simp only[zXJ,wQa,reduceCtorEq]at hin<;>subst hin<;>rfl
     rw[e2]at hb'
     rcases hb' with⟨g1,g2⟩|⟨g,cap,g1,g2,g3⟩
     .exact⟨λg c e=>(by rw[g1]at e;cases e),λ_=>g2⟩
     .refine⟨λg' c e=>?_,λe=>(by rw[g1]at e;cases e)⟩;rw[g1]at e;simp only[wQa,wQc]at e;obtain⟨rfl,rfl⟩:=e;exact⟨g3,g2⟩
    have hrep:=jQa (zZJ.refl _ _) hflat hargs hlook h1;have hcall:=hans w (Seen S w0.heap.size s'.bx ι) (args.map a.eval) hr'.glob (by simpa using hrep);have hrun:=ho hen w0 S _ ι a w hr;unfold Oper.wp;rw[hrun,wXW];refine hcall.mono λe w' hq=>?_;obtain⟨u,rfl,hu,hbel⟩:=hq
    show K (a.put o.dst u) w'
    cases hfl:r.flat with
    |true=>
     simp only[hfl,if_true]at hK;rw[zKo]at hK;exact hK ι u w' (hr.later hbel) (jXh (hu.of_flat hfl))
    |false=>
     simp only[hfl,wQT,if_false]at hK;have e3:((rs.map s.bx).map Bx.freeze)=rs.map λb=>(s.bx b).freeze:=by simp[wZk,wZB]
     rw[e3,hs']at hK;refine hK ι u w' (hr'.later hbel) (jXh (hu.keep λg off x hV hx=>⟨?_,hx⟩))
     rcases hV with hV|hV
     .exact hV
     .refine⟨.inr (.inl (wQJ hr'.bel.size hV)),λb c hl e=>?_⟩;have:=hr'.own b g c hl e;omega
 .split
  .rename_i rs hflat hrs;split
   .rename_i r hr2;intro e' he vc v bs hf;injection he with he;subst he
    simp only[wQs,wQa,wQc]at hf;obtain⟨rfl,rfl,rfl⟩:=hf;refine zWE.val λw0 S n ι a w hr hans=>?_;have hargs:RepAVs w (Seen S w0.heap.size s.bx ι) ι s.bx (args.toList.map s.eval) (args.toList.map a.eval):=by
     clear hrs hflat
     induction args.toList with
     |nil=>simp only[wQs,RepAVs]
     |cons x xs ih=>
      simp only[wQi,RepAVs];exact⟨hr.eval x,ih⟩
    have hrep:=jQa (zZJ.refl _ _) hflat hargs (λ_ _ _ _ _ h=>by cases h) hrs;obtain⟨v,h1,h2⟩:=hans w _ (args.map a.eval) (by simpa using hrep);exact⟨v,hX w0 S n ι a w v hr h1,jXh h2⟩
   .exact .none
  .exact .none
theorem jVy{f:FuncId}(ho:enters P f=true->∀(w0:World) (S:zQ3) (n:Dom) (ι:zQm) (a:Act) (w:World),RepS w0 S n s ι a w->(execOp a.eval o).run P w=.ok (.enter f (args.map a.eval)) w):zZM P o s (jQB P Γ f (args.toList.map s.eval)):=by
 unfold jQB;split
 .rename_i hen;simp only[wQd]at hen;obtain⟨hen,hflat⟩:=hen;intro e' he vc v bs hf;injection he with he;subst he
  simp only at hf |-;generalize hrs:(args.toList.map s.eval).flatMap AV.refs=rs at hf |-
  cases h1:AV.rvs (zXy rs (rs.map s.bx)) (args.toList.map s.eval) with
  |none=>rw[h1]at hf;cases hf
  |some rvs=>
   rw[h1]at hf;simp only at hf
   cases h2:Γ f rvs with
   |none=>rw[h2]at hf;cases hf
   |some r=>
    rw[h2]at hf;simp only[wQa,wQc]at hf;obtain⟨rfl,rfl,rfl⟩:=hf;intro w0 S n ι a w K Q hr hans hK;have hr':=RepS.freezes hr rs s (λb=>.inl rfl) hr;generalize hs':s.setBs rs (rs.map λb=>(s.bx b).freeze)=s' at hr';have htm:s'.tm=s.tm:=by rw[<-hs'];exact zZG _ _ _
    have heval:s'.eval=s.eval:=by funext x;cases x<;>simp[AS.eval,htm]
    have hargs:RepAVs w (Seen S w0.heap.size s'.bx ι) ι s'.bx (args.toList.map s.eval) (args.toList.map a.eval):=by
     clear h1 hrs hflat
     induction args.toList with
     |nil=>simp only[wQs,RepAVs]
     |cons x xs ih=>
      simp only[wQi,RepAVs];exact⟨by rw[<-heval];exact hr'.eval x,ih⟩
    have hlook:∀x∈args.toList.map s.eval,∀b∈x.refs,∀ys,zXy rs (rs.map s.bx) b=some ys->jZt w (Seen S w0.heap.size s'.bx ι) ι b ys/\(ι b=none->ys=[]):=by
     intro x hx b hb ys hys;obtain⟨hbr,hin⟩:=zYQ hys;have hb':=hr'.bx b;have e1:s'.bx b=(s.bx b).freeze:=by rw[<-hs',zX5,if_pos hbr]
     have e2:s'.bx b=.ice ys:=by
      rw[e1];revert hin;cases s.bx b<;>intro hin<;>simp only[zXJ,wQa,reduceCtorEq]at hin<;>subst hin<;>rfl
     rw[e2]at hb'
     rcases hb' with⟨g1,g2⟩|⟨g,cap,g1,g2,g3⟩
     .exact⟨λg c e=>(by rw[g1]at e;cases e),λ_=>g2⟩
     .refine⟨λg' c e=>?_,λe=>(by rw[g1]at e;cases e)⟩;rw[g1]at e;simp only[wQa,wQc]at e;obtain⟨rfl,rfl⟩:=e;exact⟨g3,g2⟩
    have hrep:=jQa (zZJ.refl _ _) hflat hargs hlook h1;have hcall:=hans w (Seen S w0.heap.size s'.bx ι) (args.map a.eval) hr'.glob (by simpa using hrep);have hrun:=ho hen w0 S _ ι a w hr;unfold Oper.wp;rw[hrun,wXW];refine hcall.mono λe w' hq=>?_;obtain⟨u,rfl,hu,hbel⟩:=hq
    show K (a.put o.dst u) w'
    rw[zKo]at hK;refine hK ι u w' (hr.later hbel) (jXh (hu.keep λg off x hV hx=>⟨⟨.inr (.inl (wQJ hr.bel.size hV)),λb c hl e=>?_⟩,hx⟩));have:=hr.own b g c hl e;omega
 .exact .none
theorem zGo(d:Nat)(B:Bx):∀(rs:List Nat)(Bs:List Bx)(s:AS),rs.length=Bs.length->s.setBs (rs++[d]) (Bs++[B])=(s.setBs rs Bs).setB d B
 |[],[],s,_=>by simp[AS.setBs]
 |r::rs,b::Bs,s,h=>by
  simp only[List.cons_append,AS.setBs];exact zGo d B rs Bs _ (by simpa using h)
 |[],_::_,_,h=>by simp at h
 |_::_,[],_,h=>by simp at h
theorem jGN{w:World}{V:Nat->Prop}{ι:zQm}{bx:Nat->Bx}(a:Act):∀(ps:List (Nat × Operand))(xs:List AV),RepAVs w V ι bx xs (ps.map λp=>a.eval p.2)->zGd w V ι bx ((ps.map (·.1)).zip xs) (ps.map λp=>(p.1,a.eval p.2))
 |[],[],_=>trivial
 |p::ps,x::xs,h=>by
  simp only[wQi,RepAVs]at h;exact⟨rfl,h.1,jGN a ps xs h.2⟩
 |[],_::_,h=>by simp only[wQs,RepAVs]at h
 |_::_,[],h=>by simp only[wQi,RepAVs]at h
theorem zGz{len:Nat}{parts:Array (Nat × Operand)}(ho:o.op=.buildSlice t len parts):zZM P o s (zKZ P o.dst t len (parts.toList.map λp=>(p.1,s.eval p.2))):=by
 unfold zKZ;split
 .rename_i d e hd hu;split
  .rename_i i hi;split
   .rename_i z hz;split
    .rename_i hcond;obtain⟨c1,c2,c3,hflat⟩:=hcond;have e2:(parts.toList.map λp=>(p.1,s.eval p.2)).map (·.2)=(parts.toList.map (·.2)).map s.eval:=by simp[wZk,wZB]
     have e1:(parts.toList.map λp=>(p.1,s.eval p.2)).map (·.1)=parts.toList.map (·.1):=by simp[wZk,wZB]
     rw[e2]at hflat;rw[e1,e2];intro e' he vc v bs hf;injection he with he;subst he
     simp only at hf |-;generalize hrs:((parts.toList.map (·.2)).map s.eval).flatMap AV.refs=rs at hf |-;have eL:((rs++[d]).map s.bx).getLast?=some (s.bx d):=by simp
     have eD:((rs++[d]).map s.bx).dropLast=rs.map s.bx:=by simp
     rw[eL,eD]at hf;cases hfr:s.bx d<;>rw[hfr]at hf<;>simp only[reduceCtorEq]at hf
     cases h1:AV.rvs (zXy rs (rs.map s.bx)) ((parts.toList.map (·.2)).map s.eval) with
     |none=>rw[h1]at hf;cases hf
     |some rvs=>
      rw[h1]at hf;simp only at hf;split at hf
      .rename_i cs hfill;split at hf
       .rename_i vs hvs;simp only[wQa,wQc]at hf;obtain⟨rfl,rfl,rfl⟩:=hf;intro w0 S k ι a w K Q hr _ hK;have hr':=RepS.freezes hr rs s (λb=>.inl rfl) hr;generalize hs':s.setBs rs (rs.map λb=>(s.bx b).freeze)=s' at hr';have htm:s'.tm=s.tm:=by rw[<-hs'];exact zZG _ _ _
        have heval:s'.eval=s.eval:=by funext x;cases x<;>simp[AS.eval,htm]
        have hargs:RepAVs w (Seen S w0.heap.size s'.bx ι) ι s'.bx ((parts.toList.map (·.2)).map s.eval) ((parts.toList.map (·.2)).map a.eval):=by
         clear h1 hrs hflat e1 e2 hfill ho
         induction parts.toList.map (·.2) with
         |nil=>simp only[wQs,RepAVs]
         |cons x xs ih=>
          simp only[wQi,RepAVs];exact⟨by rw[<-heval];exact hr'.eval x,ih⟩
        have hlook:∀x∈(parts.toList.map (·.2)).map s.eval,∀b∈x.refs,∀ys,zXy rs (rs.map s.bx) b=some ys->jZt w (Seen S w0.heap.size s'.bx ι) ι b ys/\(ι b=none->ys=[]):=by
         intro x hx b hb ys hys;obtain⟨hbr,hin⟩:=zYQ hys;have hb':=hr'.bx b;have e1:s'.bx b=(s.bx b).freeze:=by rw[<-hs',zX5,if_pos hbr]
         have e2:s'.bx b=.ice ys:=by
          rw[e1];revert hin;cases s.bx b<;>intro hin<;>simp only[zXJ,wQa,reduceCtorEq]at hin<;>subst hin<;>rfl
         rw[e2]at hb'
         rcases hb' with⟨g1,g2⟩|⟨g,cap,g1,g2,g3⟩
         .exact⟨λg c e=>(by rw[g1]at e;cases e),λ_=>g2⟩
         .refine⟨λg' c e=>?_,λe=>(by rw[g1]at e;cases e)⟩;rw[g1]at e;simp only[wQa,wQc]at e;obtain⟨rfl,rfl⟩:=e;exact⟨g3,g2⟩
        have hrep:=rep_avs (ι:=ι) (bx:=s'.bx) (jQa (zZJ.refl _ _) hflat hargs hlook h1);rw[wZk]at hrep;have hparts:=jGN a parts.toList _ hrep;obtain⟨cur',q1,q2,q3⟩:=zWO (P:=P) (o:=o) ho hu hi hz c1 c3 hparts hfill;have e3:((rs.map s.bx).map Bx.freeze)=rs.map λb=>(s.bx b).freeze:=by simp[wZk,wZB]
        rw[e3,zGo _ _ _ _ _ (by simp),hs']at hK;have hf':s'.bx d=.fresh:=by
         rw[<-hs',zX5];split
         .rw[hfr];rfl
         .exact hfr
        have h2:=zYW w (.cells cur' e);have h3:∀g c,(some (w.heap.size,len):Option (Nat × Nat))=some (g,c)->w.heap.size<=g/\g<(w.alloc (.cells cur' e)).heap.size:=by
         rintro g c ⟨⟩;simp
        have hk:=zUG (S:=S) (B0:=w0.heap.size) (bx:=s'.bx) (ι:=ι) (b0:=d) (B:=.row e i.size vs) h2 h3;have hn:=jJ7 (ι:=ι) hf' (B:=.row e i.size vs) (p:=some (w.heap.size,len));have hlm:len<=maxLen:=by
         have:len*1<=len*i.size:=Nat.mul_le_mul_left _ c2;unfold maxLen;omega
        have hrow:zX1 (w.alloc (.cells cur' e)) (Seen S w0.heap.size (s'.setB d (.row e i.size vs)).bx (λb=>if b=d then some (w.heap.size,len) else ι b)) (λb=>if b=d then some (w.heap.size,len) else ι b) (s'.setB d (.row e i.size vs)).bx d (.row e i.size vs):=by
         refine .inr ⟨w.heap.size,len,cur',by simp,.plain (wQN w _),hlm,q2,?_⟩;have:=zVK (q3.keep hn hk) hvs;rw[zQ8 this,wXb];exact this
        unfold Oper.wp;rw[q1];refine hK _ _ _ (hr'.new_ hf' h2 rfl h3 hrow) ?_;simp only[zQg,zQs];exact⟨by simp[AS.setB,Bx.known],.inr ⟨_,_,by simp,rfl,Nat.le_refl _⟩⟩
       .cases hf
      .cases hf
    .exact .none
   .exact .none
  .exact .none
 .exact .none
theorem zGA{len:Nat}{parts:Array (Nat × Operand)}(ho:o.op=.buildSlice t len parts):zZM P o s (zJx P s.eval o.dst t len parts):=by
 unfold zJx;split
 .exact zHx ho
 .exact zGz ho
theorem jVx{d f e size:Nat}(ho:enters P f=true->∀(w0:World) (S:zQ3) (n:Dom) (ι:zQm) (a:Act) (w:World),RepS w0 S n s ι a w->(execOp a.eval o).run P w=.ok (.enter f (args.map a.eval)) w)(hd:o.dst=some d):zZM P o s (jYo P Γ d f e size (args.toList.map s.eval)):=by
 unfold jYo;split
 .rename_i hen;simp only[wQd]at hen;obtain⟨hen,hflat⟩:=hen;intro e' he vc v bs hf;injection he with he;subst he
  simp only at hf |-;generalize hrs:(args.toList.map s.eval).flatMap AV.refs=rs at hf |-;have eL:((rs++[d]).map s.bx).getLast?=some (s.bx d):=by simp
  have eD:((rs++[d]).map s.bx).dropLast=rs.map s.bx:=by simp
  rw[eL,eD]at hf;cases hfr:s.bx d<;>rw[hfr]at hf<;>simp only[reduceCtorEq]at hf
  cases h1:AV.rvs (zXy rs (rs.map s.bx)) (args.toList.map s.eval) with
  |none=>rw[h1]at hf;cases hf
  |some rvs=>
   rw[h1]at hf;simp only at hf;split at hf
   .rename_i n ys h2;simp only[wQa,wQc]at hf;obtain⟨rfl,rfl,rfl⟩:=hf;intro w0 S k ι a w K Q hr hans hK;have hr':=RepS.freezes hr rs s (λb=>.inl rfl) hr;generalize hs':s.setBs rs (rs.map λb=>(s.bx b).freeze)=s' at hr';have htm:s'.tm=s.tm:=by rw[<-hs'];exact zZG _ _ _
    have heval:s'.eval=s.eval:=by funext x;cases x<;>simp[AS.eval,htm]
    have hargs:RepAVs w (Seen S w0.heap.size s'.bx ι) ι s'.bx (args.toList.map s.eval) (args.toList.map a.eval):=by
     clear h1 hrs hflat
     induction args.toList with
     |nil=>simp only[wQs,RepAVs]
     |cons x xs ih=>
      simp only[wQi,RepAVs];exact⟨by rw[<-heval];exact hr'.eval x,ih⟩
    have hlook:∀x∈args.toList.map s.eval,∀b∈x.refs,∀ys,zXy rs (rs.map s.bx) b=some ys->jZt w (Seen S w0.heap.size s'.bx ι) ι b ys/\(ι b=none->ys=[]):=by
     intro x hx b hb ys hys;obtain⟨hbr,hin⟩:=zYQ hys;have hb':=hr'.bx b;have e1:s'.bx b=(s.bx b).freeze:=by rw[<-hs',zX5,if_pos hbr]
     have e2:s'.bx b=.ice ys:=by
      rw[e1];revert hin;cases s.bx b<;>intro hin<;>simp only[zXJ,wQa,reduceCtorEq]at hin<;>subst hin<;>rfl
     rw[e2]at hb'
     rcases hb' with⟨g1,g2⟩|⟨g,cap,g1,g2,g3⟩
     .exact⟨λg c e=>(by rw[g1]at e;cases e),λ_=>g2⟩
     .refine⟨λg' c e=>?_,λe=>(by rw[g1]at e;cases e)⟩;rw[g1]at e;simp only[wQa,wQc]at e;obtain⟨rfl,rfl⟩:=e;exact⟨g3,g2⟩
    have hrep:=jQa (zZJ.refl _ _) hflat hargs hlook h1;have hcall:=hans w (Seen S w0.heap.size s'.bx ι) (args.map a.eval) hr'.glob (by simpa using hrep);have hrun:=ho hen w0 S _ ι a w hr;have e3:((rs.map s.bx).map Bx.freeze)=rs.map λb=>(s.bx b).freeze:=by simp[wZk,wZB]
    rw[e3,zGo _ _ _ _ _ (by simp),hs']at hK;have hf':s'.bx d=.fresh:=by
     rw[<-hs',zX5];split
     .rw[hfr];rfl
     .exact hfr
    unfold Oper.wp;rw[hrun,wXW];refine hcall.mono λed w' hq=>?_;obtain⟨u,us,rfl,hown,hus,hlen,hbel⟩:=hq
    show K (a.put o.dst u) w'
    have hp:∀g c,zJh u=some (g,c)->w.heap.size<=g/\g<w'.heap.size:=λg c hp=>by
     refine⟨?_,(zKA hown g c hp).2⟩
     rcases hown.2 with⟨rfl,rfl⟩|⟨g',cap,cur,rfl,q1,q2,q3,q4,q5,q6⟩
     .cases hp
     .simp only[zJh,wQa,wQc]at hp;obtain⟨rfl,rfl⟩:=hp;exact q1
    have hk:zZJ w' (λg=>(Seen S w0.heap.size s'.bx ι g\/w.heap.size<=g)/\u.ownBlock≠some g) w' (Seen S w0.heap.size (s'.setB d (.row e size ys)).bx (λz=>if z=d then zJh u else ι z)):=by
     intro g off x hV hx;obtain⟨hV,hne⟩:=hV;refine⟨⟨?_,λb c hl hb=>?_⟩,hx⟩
     .rcases hV with hV|hV
      .exact hV.1
      .exact .inr (.inl (wQJ hr'.bel.size hV))
     .by_cases hbd:b=d
      .subst hbd;simp only[if_true]at hb;exact hne (zKA hown g c hb).1
      .simp only[if_neg hbd]at hb;simp only[AS.setB,if_neg hbd]at hl
       rcases hV with hV|hV
       .exact hV.2 b c hl hb
       .have:=hr'.own b g c hl hb;omega
    have hrep:=zJc (d:=d) (ι':=λz=>if z=d then zJh u else ι z) (bx':=(s'.setB d (.row e size ys)).bx) (by simp[AS.setB,Bx.known]) hown (hus.keep hk) hlen rfl (by simp);exact hK _ u w' (hr'.new_ hf' hbel rfl hp hrep.1) hrep.2
   .cases hf
 .exact .none
theorem jYc{w:World}{V:Nat->Prop}{ι:zQm}{bx:Nat->Bx}:∀{xs:List AV}{vs:List Value}{cs:List Cap},RepAVs w V ι bx xs vs->jXF xs=some cs->zX0 ι bx w V cs vs
 |[],[],cs,_,hc=>by simp only[jXF,wQa]at hc;subst hc;trivial
 |x::xs,v::vs,cs,h,hc=>by
  simp only[RepAVs]at h;simp only[jXF]at hc
  cases h1:yXu x with
  |none=>rw[h1]at hc;cases hc
  |some c=>
   cases h2:jXF xs with
   |none=>rw[h1,h2]at hc;cases hc
   |some cs'=>
    rw[h1,h2]at hc;simp only[wQa]at hc;subst hc;refine⟨?_,jYc h.2 h2⟩;have hx:=h.1;unfold yXu at h1;split at h1
    .simp only[wQa]at h1;subst h1;simp only[zQg]at hx;exact hx
    .rename_i c' _;split at h1
     .rename_i d hd;simp only[wQa]at h1;subst h1;simp only[zQg]at hx;exact zYs hx hd
     .cases h1
    .cases h1
 |[],_::_,_,h,_=>by simp only[RepAVs]at h
 |_::_,[],_,h,_=>by simp only[RepAVs]at h
theorem jZI{fn:Fn}{first captured:Array Operand}(ho:o.op=.makeFunc fn first captured):zZM P o s (zGJ fn (first.toList.map s.eval) (captured.toList.map s.eval)):=by
 have hreps:∀(w0:World)(S:zQ3)(n:Dom)(ι:zQm)(a:Act)(w:World),RepS w0 S n s ι a w->RepAVs w (Seen S w0.heap.size s.bx ι) ι s.bx (captured.toList.map s.eval) (captured.toList.map a.eval):=by
  intro w0 S n ι a w hr
  induction captured.toList with
  |nil=>simp only[wQs,RepAVs]
  |cons x xs ih=>
   simp only[wQi,RepAVs];exact⟨hr.eval x,ih⟩
 have hfirst:first.toList.map s.eval=[]->∀a:Act,first.map a.eval=#[]:=λh a=>by
  have:first.toList=[]:=by simpa using h
  have:first=#[]:=by rw[<-wZi (xs:=first),this]
  subst this;simp
 unfold zGJ;split
 .rename_i f h1 h2;refine .val λw0 S n ι a w hr _=>⟨.func (.func f) #[] #[],?_,by simp only[zQg,zQs,RepD]⟩
  have hc:=jYc (hreps w0 S n ι a w hr) h2;have hc0:captured.toList.map a.eval=[]:=by
   cases hl:captured.toList.map a.eval with
   |nil=>rfl
   |cons v vs=>rw[hl]at hc;exact hc.elim
  have:captured.toList=[]:=by simpa using hc0
  have:captured=#[]:=by rw[<-wZi (xs:=captured),this]
  subst this;simp[execOp,ho,hfirst h1 a,Instr.makeFunc]
 .rename_i f cs h0 h1 h2;refine .val λw0 S n ι a w hr _=>⟨.func (.func f) #[] (captured.map a.eval),?_,?_⟩
  .simp[execOp,ho,hfirst h1 a,Instr.makeFunc]
  .simp only[zQg,zQs];exact⟨_,rfl,by simpa using jYc (hreps w0 S n ι a w hr) h2⟩
 .exact .none
abbrev wQn:=@Bool.not_eq_true'
theorem zUu{f:FuncId}(hen:enters P f=true)(args:Array Value)(w:World):(callFunc f args).run P w=.ok (.enter f args) w:=by
 unfold enters at hen;split at hen
 .rename_i fn hfn;simp only[wQd,wQn]at hen
  have hne:¬fn.name = "runtime.NumGoroutine" := by have:=hen.2;simpa using this
  have hb:¬fn.body=none:=by
   intro e;have:=hen.1;rw[e]at this;cases this
  simp[callFunc,hfn,hne,hb]
 .cases hen
theorem jZ3{f:FuncId}(ho:o.op=.call { callee:=.value (.func f),args:=args,argTypes:=ts })(hen:enters P f=true)(w0:World)(S:zQ3)(n:Dom)(ι:zQm)(a:Act)(w:World)(_:RepS w0 S n s ι a w):(execOp a.eval o).run P w=.ok (.enter f (args.map a.eval)) w:=by
 simp[execOp,ho,resolve,Act.eval,Deferred.ofValue,invoke,zUu hen]
theorem jQd{f:FuncId}(ho:o.op=.call { callee:=.value x,args:=args,argTypes:=ts })(hx:s.eval x=.one (.d (.fn f)))(hen:enters P f=true)(w0:World)(S:zQ3)(n:Dom)(ι:zQm)(a:Act)(w:World)(h:RepS w0 S n s ι a w):(execOp a.eval o).run P w=.ok (.enter f (args.map a.eval)) w:=by
 have hv:=h.eval x;rw[hx]at hv;simp only[zQg,zQs,RepD]at hv;simp[execOp,ho,resolve,hv,Deferred.ofValue,invoke,zUu hen]
theorem jVl{f:FuncId}(ho:o.op=.call { callee:=.value (.func f),args:=args,argTypes:=ts })(w0:World)(S:zQ3)(n:Dom)(ι:zQm)(a:Act)(w:World)(u:Value)(_:RepS w0 S n s ι a w)(h:(callFunc f (args.map a.eval)).run P w=.ok (.value u) w):(execOp a.eval o).run P w=.ok (.value u) w:=by
 simp[execOp,ho,resolve,Act.eval,Deferred.ofValue,invoke,h]
theorem jJE{f:FuncId}(ho:o.op=.call { callee:=.value x,args:=args,argTypes:=ts })(hx:s.eval x=.one (.d (.fn f)))(w0:World)(S:zQ3)(n:Dom)(ι:zQm)(a:Act)(w:World)(u:Value)(h:RepS w0 S n s ι a w)(hc:(callFunc f (args.map a.eval)).run P w=.ok (.value u) w):(execOp a.eval o).run P w=.ok (.value u) w:=by
 have hv:=h.eval x;rw[hx]at hv;simp only[zQg,zQs,RepD]at hv;simp[execOp,ho,resolve,hv,Deferred.ofValue,invoke,hc]
theorem jZ9{f:FuncId}(ho:enters P f=true->∀(w0:World) (S:zQ3) (n:Dom) (ι:zQm) (a:Act) (w:World),RepS w0 S n s ι a w->(execOp a.eval o).run P w=.ok (.enter f (args.map a.eval)) w)(hX:∀(w0:World) (S:zQ3) (n:Dom) (ι:zQm) (a:Act) (w:World) (u:Value),RepS w0 S n s ι a w->(callFunc f (args.map a.eval)).run P w=.ok (.value u) w->(execOp a.eval o).run P w=.ok (.value u) w):zZM P o s (zUF P Γ o.dst f (args.toList.map s.eval)):=by
 unfold zUF;split
 .split
  .rename_i d hd;exact jVx ho hd
  .exact .none
 .split
  .exact jVy ho
  .exact jVw ho hX
theorem zWl(o:Oper)(s:AS):zZM P o s (prep P Γ o s.eval):=by
 unfold prep;split
 .rename_i h;exact jZ8 (.inl h)
 .rename_i h;exact jZ8 (.inr h)
 .rename_i h;exact jUq h
 .rename_i h;exact jVA h
 .rename_i h;exact jGI h
 .rename_i h;exact jVz h
 .rename_i h;exact zGA h
 .rename_i h;exact jUs h
 .rename_i h;exact jVp h
 .rename_i h;exact jZH h
 .rename_i h;exact jGJ h
 .rename_i h;exact yQm h
 .rename_i h;split
  .rename_i e he;rw[<-he];exact jUu h
  .split
   .rename_i e he;rw[<-he];exact jVv h
   .exact jVu h
 .rename_i h;exact jQj h
 .rename_i h;split
  .exact jJL h
  .exact jVq h
 .rename_i h;exact jQl h
 .rename_i h;exact jVt h
 .rename_i h;exact jQk h
 .rename_i h;exact jVs h
 .rename_i h;exact jX6 h
 .rename_i h;exact jZI h
 .rename_i c h;obtain⟨callee,args,ts⟩:=c;split
  .rename_i f h1;have h1:callee=.value (.func f):=h1;subst h1;exact jZ9 (jZ3 h) (jVl h)
  .rename_i t h1;have h1:callee=.value (.tmp t):=h1;subst h1;split
   .rename_i f hx;exact jZ9 (jQd h hx) (jJE h hx)
   .exact .none
  .rename_i x h1 h2;have h1:callee=_:=h1;have h2:args.toList=_:=h2;have:args=#[x]:=by rw[<-wZi (xs:=args),h2]
   subst h1 this;exact jGH h
  .rename_i x y h1 h2;have h1:callee=_:=h1;have h2:args.toList=_:=h2;have:args=#[x,y]:=by rw[<-wZi (xs:=args),h2]
   subst h1 this;exact zG6 (mx:=true) (by simpa using h)
  .rename_i x y z h1 h2;have h1:callee=_:=h1;have h2:args.toList=_:=h2;have:args=#[x,y,z]:=by rw[<-wZi (xs:=args),h2]
   subst h1 this;exact jUr h
  .rename_i x y h1 h2;have h1:callee=_:=h1;have h2:args.toList=_:=h2;have:args=#[x,y]:=by rw[<-wZi (xs:=args),h2]
   subst h1 this;exact zG6 (mx:=false) (by simpa using h)
  .rename_i x y h1 h2;have h1:callee=_:=h1;have h2:args.toList=_:=h2;have:args=#[x,y]:=by rw[<-wZi (xs:=args),h2]
   subst h1 this;exact jJN h
  .rename_i x y h1 h2;have h1:callee=_:=h1;have h2:args.toList=_:=h2;have:args=#[x,y]:=by rw[<-wZi (xs:=args),h2]
   subst h1 this;exact jUt h
  .exact .none
 .exact .none
end
def Cap.names:Cap->List Nat
 |.ptr b _=>[b]
 |.d _=>[]
def Cap.ren(ρ:Nat->Nat):Cap->Cap
 |.ptr b off=>.ptr (ρ b) off
 |.d v=>.d v
def Cl.names:Cl->List Nat
 |.ptr b _=>[b]
 |.ref b _=>[b]
 |.sub b _ _=>[b]
 |.clo _ cs=>cs.flatMap Cap.names
 |_=>[]
def Cl.ren(ρ:Nat->Nat):Cl->Cl
 |.ptr b off=>.ptr (ρ b) off
 |.ref b n=>.ref (ρ b) n
 |.sub b o n=>.sub (ρ b) o n
 |.clo f cs=>.clo f (cs.map (Cap.ren ρ))
 |.d v=>.d v
 |.lit v=>.lit v
 |.nil=>.nil
 |.vp cs off=>.vp cs off
 |.dead=>.dead
mutual
def AV.names:AV->List Nat
 |.one c=>c.names
 |.agg cs=>cs.flatMap Cl.names
 |.tup vs=>AV.namesL vs
def AV.namesL:List AV->List Nat
 |[]=>[]
 |x::xs=>x.names++AV.namesL xs
end
mutual
def AV.ren(ρ:Nat->Nat):AV->AV
 |.one c=>.one (c.ren ρ)
 |.agg cs=>.agg (cs.map (Cl.ren ρ))
 |.tup vs=>.tup (AV.renL ρ vs)
def AV.renL(ρ:Nat->Nat):List AV->List AV
 |[]=>[]
 |x::xs=>x.ren ρ::AV.renL ρ xs
end
def Bx.names:Bx->List Nat
 |.cells cs=>cs.flatMap Cl.names
 |_=>[]
def Bx.ren(ρ:Nat->Nat):Bx->Bx
 |.cells cs=>.cells (cs.map (Cl.ren ρ))
 |B=>B
section
variable{w:World}{V:Nat->Prop}{ι ι':zQm}{bx bx':Nat->Bx}{ρ:Nat->Nat}
def jJg(ι:zQm)(bx:Nat->Bx)(ι':zQm)(bx':Nat->Bx)(ρ:Nat->Nat)(b:Nat):Prop:=(bx b).known=true->ι' (ρ b)=ι b/\(bx' (ρ b)).known=true
theorem zWT.turn{c:Cap}(h:zWT ι bx w V c v)(hn:∀b∈c.names,jJg ι bx ι' bx' ρ b):zWT ι' bx' w V (c.ren ρ) v:=by
 cases c with
 |d x=>exact h
 |ptr b off=>
  obtain⟨h1,g,c,h2,h3⟩:=h;obtain⟨e1,e2⟩:=hn b (by simp[Cap.names]) h1;exact⟨e2,g,c,by rw[e1];exact h2,h3⟩
abbrev wQ2:=@List.flatMap_cons
theorem zX0.turn:∀{cs:List Cap}{vs:List Value},zX0 ι bx w V cs vs->(∀b∈cs.flatMap Cap.names,jJg ι bx ι' bx' ρ b)->zX0 ι' bx' w V (cs.map (Cap.ren ρ)) vs
 |[],[],_,_=>trivial
 |_::_,_::_,h,hn=>⟨h.1.turn λb hb=>hn b (by simp[hb]),zX0.turn h.2 λb hb=>hn b (by rw[wQ2,List.mem_append];exact .inr hb)⟩
 |[],_::_,h,_=>h.elim
 |_::_,[],h,_=>h.elim
theorem zQs.turn{c:Cl}{v:Value}(h:zQs w V ι bx c v)(hn:∀b∈c.names,jJg ι bx ι' bx' ρ b):zQs w V ι' bx' (c.ren ρ) v:=by
 cases c with
 |ptr b off=>
  obtain⟨h1,g,c,h2,h3⟩:=h;obtain⟨e1,e2⟩:=hn b (by simp[Cl.names]) h1;exact⟨e2,g,c,by rw[e1];exact h2,h3⟩
 |ref b n=>
  obtain⟨h1,h2⟩:=h;obtain⟨e1,e2⟩:=hn b (by simp[Cl.names]) h1;exact⟨e2,by rw[e1];exact h2⟩
 |sub b o n=>
  obtain⟨h1,h2⟩:=h;obtain⟨e1,e2⟩:=hn b (by simp[Cl.names]) h1;exact⟨e2,by rw[e1];exact h2⟩
 |clo f cs=>
  obtain⟨lb,h1,h2⟩:=h;exact⟨lb,h1,h2.turn hn⟩
 |d x=>exact h
 |lit u=>exact h
 |nil=>exact h
 |vp cs off=>exact h
 |dead=>trivial
theorem zQO.turn:∀{cs:List Cl}{vs:List Value},zQO w V ι bx cs vs->(∀b∈cs.flatMap Cl.names,jJg ι bx ι' bx' ρ b)->zQO w V ι' bx' (cs.map (Cl.ren ρ)) vs
 |[],[],_,_=>trivial
 |_::_,_::_,h,hn=>⟨h.1.turn λb hb=>hn b (by simp[hb]),zQO.turn h.2 λb hb=>hn b (by rw[wQ2,List.mem_append];exact .inr hb)⟩
 |[],_::_,h,_=>h.elim
 |_::_,[],h,_=>h.elim
mutual
theorem zQg.turn:∀{x:AV}{v:Value},zQg w V ι bx x v->(∀b∈x.names,jJg ι bx ι' bx' ρ b)->zQg w V ι' bx' (x.ren ρ) v
 |.one c,v,h,hn=>by simp only[zQg,AV.ren]at h |-;simp only[AV.names]at hn;exact h.turn hn
 |.agg cs,v,h,hn=>by
  simp only[zQg,AV.ren]at h |-;simp only[AV.names]at hn;obtain⟨cur,e,hc⟩:=h;exact⟨cur,e,hc.turn hn⟩
 |.tup vs,v,h,hn=>by
  simp only[zQg,AV.ren]at h |-;simp only[AV.names]at hn;obtain⟨cur,e,hc⟩:=h;exact⟨cur,e,RepAVs.turn hc hn⟩
theorem RepAVs.turn:∀{xs:List AV}{vs:List Value},RepAVs w V ι bx xs vs->(∀b∈AV.namesL xs,jJg ι bx ι' bx' ρ b)->RepAVs w V ι' bx' (AV.renL ρ xs) vs
 |[],[],_,_=>by simp only[AV.renL,RepAVs]
 |x::xs,v::vs,h,hn=>by
  simp only[RepAVs,AV.renL,AV.namesL]at h hn |-;exact⟨zQg.turn h.1 λb hb=>hn b (by simp[hb]),RepAVs.turn h.2 λb hb=>hn b (by simp[hb])⟩
 |[],_::_,h,_=>by simp only[RepAVs]at h
 |_::_,[],h,_=>by simp only[RepAVs]at h
end
theorem zX1.turn{b b':Nat}{B:Bx}(h:zX1 w V ι bx b B)(hb:ι' b'=ι b)(hn:∀x∈B.names,jJg ι bx ι' bx' ρ x):zX1 w V ι' bx' b' (B.ren ρ):=by
 cases B with
 |fresh=>trivial
 |gone=>trivial
 |cells cs=>
  obtain⟨g,c,cur,T,h1,h2,h0,h3⟩:=h
  exact⟨g,c,cur,T,by rw[hb];exact h1,h2,zUQ h0 (λe=>by
   cases cs with
   |nil=>exact e
   |cons c cs=>cases c<;>exact e),h3.turn hn⟩
 |row e size xs=>
  rcases h with⟨h1,h2⟩|⟨g,cap,cur,h1,h2,h3,h4,h5⟩
  .exact .inl ⟨by rw[hb];exact h1,h2⟩
  .exact .inr ⟨g,cap,cur,by rw[hb];exact h1,h2,h3,h4,h5⟩
 |ice xs=>
  rcases h with⟨h1,h2⟩|⟨g,cap,h1,h2,h3⟩
  .exact .inl ⟨by rw[hb];exact h1,h2⟩
  .exact .inr ⟨g,cap,by rw[hb];exact h1,h2,h3⟩
theorem Bx.ren_live(B:Bx)(ρ:Nat->Nat):(B.ren ρ).live=B.live:=by cases B<;>rfl
theorem Bx.ren_known(B:Bx)(ρ:Nat->Nat):(B.ren ρ).known=B.known:=by cases B<;>rfl
theorem zX1.seen(hk:zZJ w V w V')(h:zX1 w V ι bx b B):zX1 w V' ι bx b B:=by
 cases B with
 |fresh=>trivial
 |gone=>trivial
 |cells cs=>
  obtain⟨g,c,cur,T,h1,h2,h0,h3⟩:=h;exact⟨g,c,cur,T,h1,h2,h0,h3.keep (λb hb=>⟨hb,rfl⟩) hk⟩
 |row e size xs=>
  rcases h with h1|⟨g,cap,cur,h1,h2,h3,h4,h5⟩
  .exact .inl h1
  .exact .inr ⟨g,cap,cur,h1,h2,h3,h4,h5.keep hk⟩
 |ice xs=>
  rcases h with h1|⟨g,cap,h1,h2,h3⟩
  .exact .inl h1
  .exact .inr ⟨g,cap,h1,h2.keep hk,h3⟩
end
def zQP(l:List Bx):Nat->Bx:=λb=>l.getD b .fresh
def OwnB(bx:Nat->Bx)(ι:zQm)(g:Nat):Prop:=∃b c,(bx b).live=true/\ι b=some (g,c)
def jUg(w:World)(S:Nat->Prop)(ι:zQm)(ins:List Bx)(r:Ret)(ι':zQm):Nat->Prop:=
 λg=>((r.fresh=false/\S g)\/w.heap.size<=g\/OwnB (zQP ins) ι g)/\¬OwnB (zQP r.outs) ι' g
structure yXH(w:World)(S:Nat->Prop)(ι:zQm)(pin:Nat)(ins:List Bx)(r:Ret)(w':World)(ι':zQm)(v:Value):Prop where
  rep:zQg w' (jUg w S ι ins r ι') ι' (zQP r.outs) r.res v
  bx:∀b,zX1 w' (jUg w S ι ins r ι') ι' (zQP r.outs) b (zQP r.outs b)
  own:∀b g c,(zQP r.outs b).live=true->ι' b=some (g,c)->(w.heap.size<=g\/OwnB (zQP ins) ι g)/\g<w'.heap.size
  dist:∀b b' g c c',(zQP r.outs b).live=true->(zQP r.outs b').live=true->b≠b'->ι' b=some (g,c)->ι' b'≠some (g,c')
  pin:∀b,b<pin->ι' b=ι b
  bel:Bel (OwnB (zQP ins) ι) w w'
structure jZy(w:World)(S:Nat->Prop)(ι:zQm)(args:List AV)(ins:List Bx)(vs:List Value):Prop where
  own:∀b g c,(zQP ins b).live=true->ι b=some (g,c)->¬S g/\g<w.heap.size
  dist:∀b b' g c c',(zQP ins b).live=true->(zQP ins b').live=true->b≠b'->ι b=some (g,c)->ι b'≠some (g,c')
  bx:∀b,zX1 w S ι (zQP ins) b (zQP ins b)
  args:RepAVs w S ι (zQP ins) args vs
abbrev wQK:=@List.cons.injEq
abbrev wQp:=@Int.toNat_natCast
abbrev wZl:=@Bool.not_eq_false'
abbrev wQ3:=@forall_const
def AnsG(P:Program)(f:FuncId)(pin:Nat)(args:List AV)(ins:List Bx)(r:Ret):Prop:=
 ∀(w:World)(S:Nat->Prop)(ι:zQm)(vs:Array Value),zJR w S->jZy w S ι args ins vs.toList ->
  Calls P f vs w λed w'=>∃v ι',ed=.returned v/\yXH w S ι pin ins r w' ι' v
def eS{α:Type}(a:α):Prop:=a=a
abbrev dS(n:Nat)(l:List DV):DV:=.sl n l
abbrev rJ(n:Int):RV:=.d (.int .i64 n)
abbrev aJ(n:Int):AV:=.one (.d (.int .i64 n))
abbrev aPz:AV:=.one (.ptr 0 0)
abbrev bC(l:List Cl):Bx:=.cells l
theorem sS:(∀p:Prop,(True/\p)=p)/\(∀p:Prop,(p/\True)=p)/\(∀a b,(RV.d a=RV.d b)=(a=b))/\(∀a b,(RV.agg a=RV.agg b)=(a=b))/\(∀a b,(RV.tup a=RV.tup b)=(a=b))/\(∀a b,(DV.bool a=DV.bool b)=(a=b))/\(∀k a l b,(DV.int k a=DV.int l b)=(k=l/\a=b))/\(∀n a m b,(DV.sl n a=DV.sl m b)=(n=m/\a=b))/\(∀(α:Type)(a:α)(l:List α)(b:α)(m:List α),(a::l=b::m)=(a=b/\l=m))/\(∀(α:Prop)(b:Prop)[Nonempty α],(α->b)↔b)/\(∀(α:Type)(b:Prop)[Nonempty α],(α->b)↔b)/\((!false)=true)/\((!true)=false)/\(∀b:Bool,((!b)=true)=(b=false))/\(∀b:Bool,((!b)=false)=(b=true))/\(∀(p:Prop)[Decidable p],(decide p=true)=p)/\(∀(p:Prop)[Decidable p],(decide p=false)↔¬p)/\(∀n:Nat,(n:Int).toNat=n):=⟨true_and,and_true,λa b=>RV.d.injEq a b,λa b=>RV.agg.injEq a b,λa b=>RV.tup.injEq a b,λa b=>DV.bool.injEq a b,λk a l b=>DV.int.injEq k a l b,λn a m b=>DV.sl.injEq n a m b,λα a l b m=>wQK a l b m,λα b _=>wQ3 α,λα b _=>wQ3 α,rfl,rfl,λb=>wQn b,λb=>wZl b,λp _=>wQf,λp _=>wQX,wQp⟩
theorem nL{a:Nat}(h:Nat.ble a b=true):a<=b:=Nat.le_of_ble_eq_true h
abbrev rD(d:DV):RV:=.d d
abbrev rA(l:List DV):RV:=.agg l
abbrev rT(l:List RV):RV:=.tup l
abbrev aO(c:Cl):AV:=.one c
abbrev cD(d:DV):Cl:=.d d
abbrev bR(e s:Nat)(l:List DV):Bx:=.row e s l
structure Eff2 where
  rds:List Nat
  more:List Bx->List Nat
  f:List Bx->List Bx->Option (Prop × AV × List (Nat × Bx))
  third:List Bx->List Bx->List Nat
def Eff2.all(e:Eff2)(bx:Nat->Bx):List Nat:=let l:=e.more (e.rds.map bx);l++e.third (e.rds.map bx) (l.map bx)
def Eff.up(e:Eff):Eff2:=⟨e.rds,λ_=>[],λbs _=>(e.f bs).map λr=>(r.1,r.2.1,e.wrs.zip r.2.2),λ_ _=>[]⟩
def AS.setL(s:AS)(ws:List (Nat × Bx)):AS:=s.setBs (ws.map (·.1)) (ws.map (·.2))
def Eff2.touch(e:Eff2)(bx:Nat->Bx):List Nat × List Nat:=
 (e.rds++e.all bx,match e.f (e.rds.map bx) ((e.all bx).map bx) with
  |some (_,_,ws)=>ws.map (·.1)
  |none=>[])
theorem Eff2.agree(e:Eff2)(h:∀b∈(e.touch bx).1,bx b=bx' b):e.rds.map bx=e.rds.map bx'/\e.all bx=e.all bx'/\(e.all bx).map bx=(e.all bx').map bx':=by
 have h1:e.rds.map bx=e.rds.map bx':=List.map_congr_left λb hb=>h b (by simp[Eff2.touch,hb]);have hm:(e.more (e.rds.map bx)).map bx=(e.more (e.rds.map bx)).map bx':=List.map_congr_left λb hb=>h b (by simp only[Eff2.touch,Eff2.all,List.mem_append];exact .inr (.inl hb));have h2:e.all bx=e.all bx':=by simp only[Eff2.all];rw[<-h1,hm]
 refine⟨h1,h2,?_⟩;rw[<-h2];exact List.map_congr_left λb hb=>h b (by simp only[Eff2.touch,List.mem_append];exact .inr hb)
theorem Eff2.touch_congr(e:Eff2)(h:∀b∈(e.touch bx).1,bx b=bx' b):e.touch bx=e.touch bx':=by
 obtain⟨h1,h2,h3⟩:=e.agree h;unfold Eff2.touch;rw[h3,h2,h1]
theorem zH7:∀(bs:List Nat)(Bs:List Bx)(s:AS),s.setBs ((bs.zip Bs).map (·.1)) ((bs.zip Bs).map (·.2))=s.setBs bs Bs
 |[],_,_=>by simp[AS.setBs]
 |_::_,[],_=>by simp[AS.setBs]
 |b::bs,B::Bs,s=>by simp only[List.zip_cons_cons,wQi,AS.setBs];exact zH7 bs Bs _
def jXO(P:Program)(o:Oper)(s:AS)(e:Option Eff2):Prop:=
 ∀e',e=some e'->∀vc v ws,e'.f (e'.rds.map s.bx) ((e'.all s.bx).map s.bx)=some (vc,v,ws)->zWE P o s vc v (ws.map (·.1)) (ws.map (·.2))
theorem jXO.none{P:Program}{o:Oper}{s:AS}:jXO P o s none:=λ_ h=>by cases h
abbrev wQV:=@Option.map_eq_some_iff
theorem zZM.up{P:Program}{o:Oper}{s:AS}{e:Option Eff}(h:zZM P o s e):jXO P o s (e.map Eff.up):=by
 intro e' he vc v ws hf;obtain⟨e0,he0,rfl⟩:=wQV.1 he;simp only[Eff.up]at hf;obtain⟨⟨vc0,v0,bs0⟩,hf1,hf'⟩:=wQV.1 hf;simp only[wQc]at hf';obtain⟨rfl,rfl,rfl⟩:=hf';have hs:=h e0 he0 vc0 v0 bs0 hf1;intro w0 S n ι a w K Q hr hvc hK;refine hs w0 S n ι a w K Q hr hvc λι' u w' h1 h2=>hK ι' u w' ?_ ?_
 .rw[zH7];exact h1
 .rw[zH7];exact h2
theorem jQZ(l:List α)(d:α){j:Nat}(h:j<l.length):l.getD j d=l[j]:=by simp[List.getD_eq_getElem?_getD,List.getElem?_eq_getElem h]
def zQY:List Nat->Nat->Nat
 |[],_=>0
 |x::l,b=>if b=x then 0 else zQY l b+1
theorem zUx:∀{l:List Nat}{b:Nat},b∈l->zQY l b<l.length
 |x::l,b,h=>by
  simp only[zQY,wQC];split
  .omega
  .rename_i hne;have:b∈l:=by rcases wQm.1 h with e|h;exact absurd e hne;exact h
   have:=zUx this;omega
theorem jQt:∀{l:List Nat}{b:Nat},zQY l b<l.length->b∈l
 |[],b,h=>by simp[zQY]at h
 |x::l,b,h=>by
  simp only[zQY,wQC]at h;split at h
  .rename_i e;simp[e]
  .exact List.mem_cons_of_mem _ (jQt (by omega))
theorem zJw:∀{l:List Nat}{b:Nat},b∈l->l.getD (zQY l b) 0=b
 |x::l,b,h=>by
  simp only[zQY];split
  .rename_i e;simp[e]
  .rename_i hne;have:b∈l:=by rcases wQm.1 h with e|h;exact absurd e hne;exact h
   simpa using zJw this
abbrev wXB:=@List.nodup_cons
theorem zGb:∀{l:List Nat}{j:Nat},l.Nodup->j<l.length->zQY l (l.getD j 0)=j
 |x::l,0,_,_=>by simp[zQY]
 |x::l,j+1,hn,h=>by
  rw[wXB]at hn;have hj:j<l.length:=by simpa using h
  have hm:l.getD j 0∈l:=by rw[jQZ _ _ hj];exact List.getElem_mem hj
  have hne:¬l.getD j 0=x:=λe=>hn.1 (by rw[<-e];exact hm);have:=zGb hn.2 hj;simp only[List.getD_cons_succ,zQY,if_neg hne,this]
def nubN:List Nat->List Nat
 |[]=>[]
 |b::l=>b::(nubN l).filter λx=>decide (x≠b)
abbrev wZT:=@List.mem_filter
theorem jWJ:∀{l:List Nat}{b:Nat},b∈nubN l↔b∈l
 |[],b=>by simp[nubN]
 |x::l,b=>by
  simp only[nubN,wQm,wZT,jWJ (l:=l),wQf];constructor
  .rintro(h|⟨h,_⟩)
   .exact .inl h
   .exact .inr h
  .rintro(h|h)
   .exact .inl h
   .by_cases e:b=x
    .exact .inl e
    .exact .inr ⟨h,e⟩
def maxL:List Nat->Nat
 |[]=>0
 |b::l=>Nat.max b (maxL l)
def jWd(look:Nat->Option (List DV))(ρ:Nat->Nat):List Bool->List AV->Option (List AV)
 |[],[]=>some []
 |m::ms,x::xs=>match jWd look ρ ms xs with
  |some ys=>match m with
   |true=>match x.flat with
    |true=>(x.rv look).map λr=>r.av::ys
    |false=>none
   |false=>some (x.ren ρ::ys)
  |none=>none
 |_,_=>none
def zXw:List Bool->List AV->List Nat
 |m::ms,x::xs=>(bif m then[] else x.names)++zXw ms xs
 |_,_=>[]
def zJz:List Bool->List AV->List Nat
 |m::ms,x::xs=>(bif m then x.refs else[])++zJz ms xs
 |_,_=>[]
def jVM(l0 bs news:List Nat)(B BN:List Bx):Bool:=
 (B.all λb=>b.names.all λx=>bs.contains x)&&(l0.all λb=>!bs.contains b && !news.contains b)&&decide (bs.Nodup)&&decide (news.Nodup)&&(news.all λb=>!bs.contains b) &&
 BN.all λb=>!b.known
def jG4(pin nnew:Nat)(bs news:List Nat)(r:Ret):Bool:=
 decide (r.outs.length=pin+nnew)&&decide (news.length=nnew)&&decide (pin<=bs.length)&&(r.outs.take pin).all Bx.known
def zHt(pin:Nat)(bs news:List Nat)(j:Nat):Nat:=if j<pin then bs.getD j 0 else news.getD (j-pin) 0
def zYX(pin:Nat)(l0 bs news:List Nat)(B0:List Bx)(r:Ret)(b:Nat):Bx:=
 if zQY bs b<pin then(zQP r.outs (zQY bs b)).ren (zHt pin bs news)
 else if bs.contains b then .gone
 else if news.contains b then(zQP r.outs (pin+zQY news b)).ren (zHt pin bs news)
 else(B0.getD (zQY l0 b) .gone).freeze
def jVE(P:Program)(Γ:Gam)(f:FuncId)(ms:List Bool)(pin nnew:Nat)(xs:List AV)(l0 bs news:List Nat)(B0 B BN:List Bx):Option (Prop × AV × List (Nat × Bx)):=
 match jVM l0 bs news B BN with
 |true=>match jWd (zXy l0 B0) (zQY bs) ms xs with
  |some ys=>match Γ.proc f ys (B.map (Bx.ren (zQY bs))) with
   |some r=>match jG4 pin nnew bs news r with
    |true=>some (AnsG P f pin ys (B.map (Bx.ren (zQY bs))) r,r.res.ren (zHt pin bs news),
      (bs++news++(bif r.fresh then[] else l0)).map λb=>(b,zYX pin l0 bs news B0 r b))
    |false=>none
   |none=>none
  |none=>none
 |false=>none
variable{xs:List AV}{ms:List Bool}{pin nnew:Nat}{l0 news:List Nat}
section
variable{P:Program}{o:Oper}{s:AS}
abbrev wXd:=@List.contains_eq_mem
abbrev wQY:=@List.getElem?_map
abbrev wQW:=@List.getElem?_eq_none
abbrev wQx:=@Nat.lt_or_ge
abbrev wQw:=@List.mem_map
theorem jGX{f:FuncId}{ys:List AV}{bs:List Nat}{r:Ret}{Ed:Value->Ending}(hex:∀(w0:World) (S:zQ3) (n:Dom) (ι:zQm) (a:Act) (w:World),RepS w0 S n s ι a w->∃vs:Array Value,(execOp a.eval o).run P w=.ok (.enter f vs) w /\
   ∀ι2 s2,s2.tm=s.tm->RepS w0 S n s2 ι2 a w->RepAVs w (Seen S w0.heap.size s2.bx ι2) ι2 s2.bx xs vs.toList)(hl0:∀b∈zJz ms xs,b∈l0)(hbs:∀b∈zXw ms xs,b∈bs)(hok:jVM l0 bs news (bs.map s.bx) (news.map s.bx)=true)(hys:jWd (zXy l0 (l0.map s.bx)) (zQY bs) ms xs=some ys)(hoo:jG4 pin nnew bs news r=true)(hans:∀(w:World) (S:Nat->Prop) (ι:zQm) (vs:Array Value),zJR w S->jZy w S ι ys ((bs.map s.bx).map (Bx.ren (zQY bs))) vs.toList->Calls P f vs w λed w'=>∃v ι',ed=Ed v/\yXH w S ι pin ((bs.map s.bx).map (Bx.ren (zQY bs))) r w' ι' v) :
  ∀(w0:World)(S:zQ3)(n:Dom)(ι:zQm)(a:Act)(w:World),RepS w0 S n s ι a w->∃vs:Array Value,(execOp a.eval o).run P w=.ok (.enter f vs) w /\
   Calls P f vs w λed w'=>∃u ι2,ed=Ed u/\RepS w0 S n (s.setBs (((bs++news++(bif r.fresh then[] else l0)).map λb=>(b,zYX pin l0 bs news (l0.map s.bx) r b)).map (·.1)) (((bs++news++(bif r.fresh then[] else l0)).map λb=>(b,zYX pin l0 bs news (l0.map s.bx) r b)).map (·.2))) ι2 a w' /\
    zQg w' (Seen S w0.heap.size (s.setBs (((bs++news++(bif r.fresh then[] else l0)).map λb=>(b,zYX pin l0 bs news (l0.map s.bx) r b)).map (·.1)) (((bs++news++(bif r.fresh then[] else l0)).map λb=>(b,zYX pin l0 bs news (l0.map s.bx) r b)).map (·.2))).bx ι2) ι2 (s.setBs (((bs++news++(bif r.fresh then[] else l0)).map λb=>(b,zYX pin l0 bs news (l0.map s.bx) r b)).map (·.1)) (((bs++news++(bif r.fresh then[] else l0)).map λb=>(b,zYX pin l0 bs news (l0.map s.bx) r b)).map (·.2))).bx (r.res.ren (zHt pin bs news)) u:=by
 simp only[jVM,wQd,List.all_eq_true,wQf,wQn,wXd,wQX]at hok;obtain⟨⟨⟨⟨⟨k1,k2⟩,k3⟩,k4⟩,k5⟩,k6⟩:=hok;simp only[jG4,wQd,wQf,List.all_eq_true]at hoo;obtain⟨⟨⟨q1,q2⟩,q3⟩,q4⟩:=hoo;intro w0 S n ι a w hr;have knames:∀b∈bs,∀x∈(s.bx b).names,x∈bs:=λb hb x hx=>k1 (s.bx b) (wQw.2 ⟨b,hb,rfl⟩) x hx;have kfresh:∀b∈news,(s.bx b).known=false:=λb hb=>k6 (s.bx b) (wQw.2 ⟨b,hb,rfl⟩);have hr':=RepS.freezes hr l0 s (λb=>.inl rfl) hr;generalize hs1:s.setBs l0 (l0.map λb=>(s.bx b).freeze)=s1 at hr';have htm1:s1.tm=s.tm:=by rw[<-hs1];exact zZG _ _ _
 have hbx1:∀b,s1.bx b=if b∈l0 then(s.bx b).freeze else s.bx b:=λb=>by rw[<-hs1,zX5]
 have hbs1:∀b∈bs,s1.bx b=s.bx b:=λb hb=>by rw[hbx1,if_neg (λh=>(k2 b h).1 hb)]
 obtain⟨vs,hrun,hvs⟩:=hex w0 S n ι a w hr;have hargs:=hvs ι s1 htm1 hr';obtain⟨ιc,hιc⟩:∃ιc:zQm,ιc=λj=>if j<bs.length then ι (bs.getD j 0) else none:=⟨_,rfl⟩
 have hins:∀j,j<bs.length->zQP ((bs.map s.bx).map (Bx.ren (zQY bs))) j=(s.bx (bs.getD j 0)).ren (zQY bs):=λj hj=>by
  simp[zQP,List.getD_eq_getElem?_getD,wQY,List.getElem?_eq_getElem hj]
 have hins':∀j,¬j<bs.length->zQP ((bs.map s.bx).map (Bx.ren (zQY bs))) j=.fresh:=λj hj=>by
  simp[zQP,List.getD_eq_getElem?_getD,wQW (Nat.le_of_not_lt hj)]
 have hmem:∀j,j<bs.length->bs.getD j 0∈bs:=λj hj=>by rw[jQZ _ _ hj];exact List.getElem_mem hj
 generalize hIns:(bs.map s.bx).map (Bx.ren (zQY bs))=ins at *;have hturn:∀b∈bs,jJg ι s1.bx ιc (zQP ins) (zQY bs) b:=λb hb hk=>by
  have hlt:=zUx hb;refine⟨by rw[hιc];simp only[if_pos hlt,zJw hb],?_⟩;rw[hins _ hlt,Bx.ren_known,zJw hb,<-hbs1 b hb];exact hk
 have hrow:∀b∈l0,∀zs,zXy l0 (l0.map s.bx) b=some zs->jZt w (Seen S w0.heap.size s1.bx ι) ι b zs/\(ι b=none->zs=[]):=by
  intro b hb zs hzs;obtain⟨hbr,hin⟩:=zYQ hzs;have hb':=hr'.bx b;have e1:s1.bx b=(s.bx b).freeze:=by rw[hbx1,if_pos hbr]
  have e2:s1.bx b=.ice zs:=by
   rw[e1];revert hin;cases s.bx b<;>intro hin<;>simp only[zXJ,wQa,reduceCtorEq]at hin<;>subst hin<;>rfl
  rw[e2]at hb'
  rcases hb' with⟨g1,g2⟩|⟨g,cap,g1,g2,g3⟩
  .exact⟨λg c e=>(by rw[g1]at e;cases e),λ_=>g2⟩
  .refine⟨λg' c e=>?_,λe=>(by rw[g1]at e;cases e)⟩;rw[g1]at e;simp only[wQa,wQc]at e;obtain⟨rfl,rfl⟩:=e;exact⟨g3,g2⟩
 have hlook:∀b zs,zXy l0 (l0.map s.bx) b=some zs->b∈l0:=λb zs hzs=>(zYQ hzs).1;have hargs2:RepAVs w (Seen S w0.heap.size s1.bx ι) ιc (zQP ins) ys vs.toList:=by
  have key:∀(ms:List Bool)(xs:List AV)(us:List Value)(ys:List AV),(∀b∈zXw ms xs,b∈bs)->jWd (zXy l0 (l0.map s.bx)) (zQY bs) ms xs=some ys->RepAVs w (Seen S w0.heap.size s1.bx ι) ι s1.bx xs us->RepAVs w (Seen S w0.heap.size s1.bx ι) ιc (zQP ins) ys us:=by
   intro ms
   induction ms with
   |nil=>
    intro xs us ys _ hy hu
    cases xs with
    |nil=>simp only[jWd,wQa]at hy;subst hy;cases us<;>simp only[RepAVs]at hu |-
    |cons x xs=>cases hy
   |cons m ms ih=>
    intro xs us ys hb hy hu
    cases xs with
    |nil=>cases hy
    |cons x xs=>
     cases us with
     |nil=>simp only[RepAVs]at hu
     |cons u us=>
      simp only[RepAVs]at hu;simp only[jWd]at hy
      cases h1:jWd (zXy l0 (l0.map s.bx)) (zQY bs) ms xs with
      |none=>rw[h1]at hy;cases hy
      |some zs=>
       rw[h1]at hy;have ih':=ih xs us zs (λb hb'=>hb b (by simp only[zXw,List.mem_append];exact .inr hb')) h1 hu.2
       cases m with
       |true=>
        simp only at hy;split at hy
        .rename_i hfl
         cases h2:x.rv (zXy l0 (l0.map s.bx)) with
         |none=>rw[h2]at hy;cases hy
         |some q=>
          rw[h2]at hy;simp only[wQv,wQa]at hy;subst hy;simp only[RepAVs];exact⟨jXh (yXQ (zZJ.refl _ _) hfl hu.1 (λb hb' zs hzs=>hrow b (hlook b zs hzs) zs hzs) h2),ih'⟩
        .cases hy
       |false=>
        simp only[wQa]at hy;subst hy;simp only[RepAVs];refine⟨hu.1.turn λb hb'=>hturn b (hb b ?_),ih'⟩;simp only[zXw,cond_false,List.mem_append];exact .inl hb'
  exact key ms xs vs.toList ys hbs hys hargs
 have hhanded:jZy w (Seen S w0.heap.size s1.bx ι) ιc ys ins vs.toList:=by
  refine⟨λj g c hl e=>?_,λj j' g c c' hl hl' hne e=>?_,λj=>?_,hargs2⟩
  .by_cases hj:j<bs.length
   .rw[hins j hj,Bx.ren_live]at hl;rw[hιc]at e;simp only[if_pos hj]at e;rw[<-hbs1 _ (hmem j hj)]at hl;exact⟨λhV=>hV.2 _ _ hl e,(hr'.own _ g c hl e).2⟩
   .rw[hins' j hj]at hl;cases hl
  .by_cases hj:j<bs.length
   .by_cases hj':j'<bs.length
    .rw[hins j hj,Bx.ren_live,<-hbs1 _ (hmem j hj)]at hl;rw[hins j' hj',Bx.ren_live,<-hbs1 _ (hmem j' hj')]at hl';rw[hιc]at e |-;simp only[if_pos hj,if_pos hj']at e |-;refine hr'.dist _ _ g c c' hl hl' (λeq=>hne ?_) e;have h1:=zGb k3 hj;have h2:=zGb k3 hj';rw[<-h1,<-h2,eq]
    .rw[hins' j' hj']at hl';cases hl'
   .rw[hins' j hj]at hl;cases hl
  .by_cases hj:j<bs.length
   .rw[hins j hj];have hb:=hr'.bx (bs.getD j 0);rw[hbs1 _ (hmem j hj)]at hb;exact hb.turn (by rw[hιc];simp only[if_pos hj]) λx hx=>hturn x (knames _ (hmem j hj) x hx)
   .rw[hins' j hj];trivial
 have hcall:=hans w (Seen S w0.heap.size s1.bx ι) ιc vs hr'.glob hhanded;refine⟨vs,hrun,hcall.mono λed w' hq=>?_⟩;obtain⟨u,ι',rfl,ha⟩:=hq;refine⟨u,?_⟩;obtain⟨sB,hsB⟩:∃sB:AS,sB=bif r.fresh then s else s1:=⟨_,rfl⟩
 have hrB:RepS w0 S n sB ι a w:=by rw[hsB];cases r.fresh;exact hr';exact hr
 have hBbs:∀b∈bs,sB.bx b=s.bx b:=λb hb=>by rw[hsB];cases r.fresh;exact hbs1 b hb;rfl
 have hBnews:∀b∈news,(sB.bx b).known=false:=λb hb=>by
  rw[hsB];cases r.fresh
  .simp only[cond_false];rw[hbx1,if_neg (λh=>(k2 b h).2 hb)];exact kfresh b hb
  .exact kfresh b hb
 have hBtm:sB.tm=s.tm:=by rw[hsB];cases r.fresh;exact htm1;rfl
 obtain⟨bx2,hbx2⟩:∃bx2:Nat->Bx,bx2=λb=>if zQY bs b<pin then(zQP r.outs (zQY bs b)).ren (zHt pin bs news) else if b∈bs then .gone else if b∈news then(zQP r.outs (pin+zQY news b)).ren (zHt pin bs news) else sB.bx b:=⟨_,rfl⟩
 have hset:s.setBs ((((bs++news++(bif r.fresh then[] else l0)).map λb=>(b,zYX pin l0 bs news (l0.map s.bx) r b))).map (·.1)) ((((bs++news++(bif r.fresh then[] else l0)).map λb=>(b,zYX pin l0 bs news (l0.map s.bx) r b))).map (·.2))=⟨sB.tm,bx2⟩:=by
  have e1:(((bs++news++(bif r.fresh then[] else l0)).map λb=>(b,zYX pin l0 bs news (l0.map s.bx) r b))).map (·.1)=bs++news++(bif r.fresh then[] else l0):=by simp[wZk,wZB]
  have e2:(((bs++news++(bif r.fresh then[] else l0)).map λb=>(b,zYX pin l0 bs news (l0.map s.bx) r b))).map (·.2)=(bs++news++(bif r.fresh then[] else l0)).map (zYX pin l0 bs news (l0.map s.bx) r):=by simp[wZk,wZB]
  rw[e1,e2];refine AS.ext' (by rw[zZG,hBtm]) ?_;funext b;rw[zX5,hbx2];simp only[zYX,wXd,wQf,List.mem_append];by_cases g1:zQY bs b<pin
  .have:b∈bs:=jQt (by omega);simp[g1,this]
  .by_cases g2:b∈bs
   .simp[g1,g2]
   .by_cases g3:b∈news
    .simp[g1,g2,g3]
    .simp only[g1,g2,g3,false_or,if_false];rw[hsB]
     cases hfr:r.fresh with
     |true=>simp
     |false=>
      simp only[cond_false];rw[hbx1];by_cases g4:b∈l0
      .simp only[g4,if_true];congr 1;have hlt:=zUx g4;have hat:=zJw g4;rw[jQZ _ _ hlt]at hat;rw[jQZ _ _ (by simpa using hlt),List.getElem_map,hat]
      .simp only[g4,if_false]
 rw[hset];obtain⟨ι2,hι2⟩:∃ι2:zQm,ι2=λb=>if b∈news then ι' (pin+zQY news b) else ι b:=⟨_,rfl⟩
 obtain⟨J,hJ⟩:∃J:Nat->Nat,J=λb=>if zQY bs b<pin then zQY bs b else pin+zQY news b:=⟨_,rfl⟩
 have hpin:∀b,zQY bs b<pin->b∈bs/\b ∉ news/\ι b=ι' (zQY bs b):=λb hb=>by
  have hm:b∈bs:=jQt (by omega);refine⟨hm,λhn=>k5 b hn hm,?_⟩;have:=ha.pin _ hb;rw[this,hιc];simp only[if_pos (zUx hm),zJw hm]
 have hT:∀b,(zQY bs b<pin\/b∈news)->bx2 b=(zQP r.outs (J b)).ren (zHt pin bs news)/\ι2 b=ι' (J b)/\J b<pin+nnew:=λb hb=>by
  by_cases g1:zQY bs b<pin
  .obtain⟨m1,m2,m3⟩:=hpin b g1;rw[hbx2,hJ,hι2];simp only[if_pos g1,if_neg m2];exact⟨trivial,m3,by omega⟩
  .have hn:b∈news:=hb.resolve_left g1;have m2:b ∉ bs:=λh=>k5 b hn h;rw[hbx2,hJ,hι2];simp only[if_neg g1,if_neg m2,if_pos hn];have:=zUx hn;exact⟨trivial,trivial,by omega⟩
 have hU:∀b,¬(zQY bs b<pin\/b∈news)->ι2 b=ι b/\(bx2 b=.gone\/(b ∉ bs/\bx2 b=sB.bx b)):=λb hb=>by
  have h1:¬zQY bs b<pin:=λh=>hb (.inl h);have h2:b ∉ news:=λh=>hb (.inr h);rw[hι2,hbx2];simp only[if_neg h1,if_neg h2];refine⟨trivial,?_⟩;by_cases h3:b∈bs
  .left;rw[if_pos h3]
  .right;exact⟨h3,by rw[if_neg h3]⟩
 have hJinj:∀b b',(zQY bs b<pin\/b∈news)->(zQY bs b'<pin\/b'∈news)->J b=J b'->b=b':=λb b' hb hb' e=>by
  rw[hJ]at e;by_cases g1:zQY bs b<pin
  .by_cases g1':zQY bs b'<pin
   .simp only[if_pos g1,if_pos g1']at e;have e1:=zJw (hpin b g1).1;have e2:=zJw (hpin b' g1').1;rw[<-e1,<-e2,e]
   .simp only[if_pos g1,if_neg g1']at e;omega
  .by_cases g1':zQY bs b'<pin
   .simp only[if_neg g1,if_pos g1']at e;omega
   .simp only[if_neg g1,if_neg g1']at e;have e1:=zJw (hb.resolve_left g1);have e2:=zJw (hb'.resolve_left g1');rw[<-e1,<-e2];congr 1;omega
 have hOwnIns:∀g,OwnB (zQP ins) ιc g->∃b c,b∈bs/\(s.bx b).live=true/\ι b=some (g,c):=λg ⟨j,c,hl,e⟩=>by
  by_cases hj:j<bs.length
  .rw[hins j hj,Bx.ren_live]at hl;rw[hιc]at e;simp only[if_pos hj]at e;exact⟨_,c,hmem j hj,hl,e⟩
  .rw[hins' j hj]at hl;cases hl
 have hout:∀b,¬(zQY bs b<pin\/b∈news)->(bx2 b).live=true->b ∉ bs/\bx2 b=sB.bx b/\(sB.bx b).live=true/\ι2 b=ι b:=λb hb hl=>by
  obtain⟨h1,h2⟩:=hU b hb
  rcases h2 with h2|⟨h2,h3⟩
  .rw[h2]at hl;cases hl
  .exact⟨h2,h3,by rw[<-h3];exact hl,h1⟩
 have hout2:∀b g c,b ∉ bs->(sB.bx b).live=true->ι b=some (g,c)->¬OwnB (zQP ins) ιc g:=λb g c hb hl e hO=>by
  obtain⟨b',c',m,hl',e'⟩:=hOwnIns g hO;exact hrB.dist b b' g c c' hl (by rw[hBbs b' m];exact hl') (λh=>hb (by rw[h];exact m)) e e'
 have hliveT:∀b,(zQY bs b<pin\/b∈news)->(bx2 b).live=true->(zQP r.outs (J b)).live=true:=λb hb hl=>by
  rw[(hT b hb).1,Bx.ren_live]at hl;exact hl
 have hK1:zZJ w' (jUg w (Seen S w0.heap.size s1.bx ι) ιc ins r ι') w' (Seen S w0.heap.size bx2 ι2):=by
  intro g off x hV hx;obtain⟨hV1,hV2⟩:=hV;refine⟨⟨?_,λb c hl e=>?_⟩,hx⟩
  .rcases hV1 with⟨_,hV1⟩|hV1|hV1
   .exact hV1.1
   .exact .inr (.inl (wQJ hr.bel.size hV1))
   .obtain⟨b',c',m,hl',e'⟩:=hOwnIns g hV1;exact .inr (hr.own b' g c' hl' e').1
  .by_cases hb:zQY bs b<pin\/b∈news
   .exact hV2 ⟨J b,c,hliveT b hb hl,by rw[<-(hT b hb).2.1];exact e⟩
   .obtain⟨o1,o2,o3,o4⟩:=hout b hb hl;rw[o4]at e
    rcases hV1 with⟨hfr,hV1⟩|hV1|hV1
    .have:sB=s1:=by rw[hsB,hfr];rfl
     rw[this]at o3;exact hV1.2 b c o3 e
    .have:=(hrB.own b g c o3 e).2;omega
    .exact hout2 b g c o1 o3 e hV1
 have hK2:zZJ w (Seen S w0.heap.size sB.bx ι) w' (Seen S w0.heap.size bx2 ι2):=by
  intro g off x hV hx;have hlt:g<w.heap.size:=wZI w _ hx;have hno:¬OwnB (zQP ins) ιc g:=λhO=>by
   obtain⟨b',c',m,hl',e'⟩:=hOwnIns g hO;exact hV.2 b' c' (by rw[hBbs b' m];exact hl') e'
  refine⟨⟨hV.1,λb c hl e=>?_⟩,by rw[<-hx];simp[World.cell?,ha.bel.block g hlt hno]⟩;by_cases hb:zQY bs b<pin\/b∈news
  .rw[(hT b hb).2.1]at e
   rcases (ha.own _ g c (hliveT b hb hl) e).1 with h1|h1
   .omega
   .exact hno h1
  .obtain⟨o1,o2,o3,o4⟩:=hout b hb hl;rw[o4]at e;exact hV.2 b c o3 e
 have hsig:∀x,x<pin+nnew->(zQY bs (zHt pin bs news x)<pin\/zHt pin bs news x∈news)/\J (zHt pin bs news x)=x:=λx hx=>by
  unfold zHt;by_cases hxp:x<pin
  .simp only[if_pos hxp];have h1:=zGb k3 (show x<bs.length by omega);refine⟨.inl (by rw[h1];exact hxp),?_⟩;rw[hJ];simp only[h1,if_pos hxp]
  .simp only[if_neg hxp];have hlt:x-pin<news.length:=by omega
   have hm:news.getD (x-pin) 0∈news:=by rw[jQZ _ _ hlt];exact List.getElem_mem hlt
   have h1:=zGb k4 hlt;refine⟨.inr hm,?_⟩;rw[hJ];have h2:¬zQY bs (news.getD (x-pin) 0)<pin:=λh=>(hpin _ h).2.1 hm;simp only[if_neg h2,h1];omega
 have hkn:∀x,(zQP r.outs x).known=true->x<pin+nnew:=λx hx=>by
  rcases wQx x (pin+nnew) with h|h
  .exact h
  .have:zQP r.outs x=.fresh:=by
    simp[zQP,List.getD_eq_getElem?_getD,wQW (show r.outs.length<=x by omega)]
   rw[this]at hx;cases hx
 have hturn2:∀x,jJg ι' (zQP r.outs) ι2 bx2 (zHt pin bs news) x:=λx hx=>by
  obtain⟨h1,h2⟩:=hsig x (hkn x hx);obtain⟨t1,t2,_⟩:=hT _ h1;rw[h2]at t1 t2;exact⟨t2,by rw[t1,Bx.ren_known];exact hx⟩
 have hR:RepS w0 S n ⟨sB.tm,bx2⟩ ι2 a w':=by
  refine hrB.move (bx':=bx2) ⟨ha.bel.os.trans hr.bel.os,ha.bel.tape.trans hr.bel.tape,ha.bel.output.trans hr.bel.output,wQJ hr.bel.size ha.bel.size,λg hg hl=>?_⟩ (zYR ha.bel.size λk o hk ho=>ha.bel.block k (wZg.1 hk).1 λhO=>?_) (λb hb=>?_) hK2 (λb=>?_) (λb g c hl e=>?_) (λb b' g c c' hl hl' hbb e=>?_)
  .have hlt:=wZx hg hr.bel.size;refine(ha.bel.block g hlt λhO=>?_).trans (hr.bel.block g hg hl);obtain⟨b',c',m,hl',e'⟩:=hOwnIns g hO
   rcases (hr.own b' g c' hl' e').1 with h1|h1
   .omega
   .exact hl h1
  .obtain⟨b',c',m,hl',e'⟩:=hOwnIns k hO;obtain⟨cur,T,i,hc⟩:=hr.live_cells hl' e';rw[hc]at hk;injection hk with hk
   subst hk;cases ho
  .by_cases h1:zQY bs b<pin\/b∈news
   .rcases h1 with h1|h1
    .obtain⟨m1,m2,m3⟩:=hpin b h1;obtain⟨t1,t2,t3⟩:=hT b (.inl h1);refine⟨?_,?_⟩
     .rw[t1,Bx.ren_known,hJ];simp only[if_pos h1];have hlt:zQY bs b<r.outs.length:=by omega
      have:=q4 (r.outs[zQY bs b]) (by rw[List.mem_take_iff_getElem];exact⟨zQY bs b,by omega,rfl⟩);simpa [zQP,List.getD_eq_getElem?_getD,List.getElem?_eq_getElem hlt]using this
     .rw[hι2];simp only[if_neg m2]
    .rw[hBnews b h1]at hb;cases hb
   .obtain⟨h2,h3⟩:=hU b h1;refine⟨?_,h2⟩
    rcases h3 with h3|⟨_,h3⟩
    .rw[h3];rfl
    .rw[h3];exact hb
  .by_cases h1:zQY bs b<pin\/b∈news
   .right;obtain⟨t1,t2,t3⟩:=hT b h1;rw[t1];exact((ha.bx (J b)).turn t2 λx hx=>hturn2 x).seen hK1
   .obtain⟨h2,h3⟩:=hU b h1
    rcases h3 with h3|⟨h4,h3⟩
    .right;rw[h3];trivial
    .left;exact⟨h3,λhl g c e=>ha.bel.block g (hrB.own b g c hl e).2 (hout2 b g c h4 hl e)⟩
  .by_cases h1:zQY bs b<pin\/b∈news
   .have:=ha.own _ g c (hliveT b h1 hl) (by rw[<-(hT b h1).2.1];exact e);refine⟨?_,this.2⟩
    rcases this.1 with h2|h2
    .exact .inl (wQJ hr.bel.size h2)
    .obtain⟨b',c',m,hl',e'⟩:=hOwnIns g h2;exact(hr.own b' g c' hl' e').1
   .obtain⟨o1,o2,o3,o4⟩:=hout b h1 hl;rw[o4]at e;have:=hrB.own b g c o3 e;exact⟨this.1,wZx this.2 ha.bel.size⟩
  .have cross:∀x y gg cx cy,(zQY bs x<pin\/x∈news)->¬(zQY bs y<pin\/y∈news)->(bx2 x).live=true->(bx2 y).live=true->ι2 x=some (gg,cx)->ι2 y≠some (gg,cy):=by
    intro x y gg cx cy hx hy hlx hly ex ey;obtain⟨o1,o2,o3,o4⟩:=hout y hy hly;rw[o4]at ey
    rcases (ha.own _ gg cx (hliveT x hx hlx) (by rw[<-(hT x hx).2.1];exact ex)).1 with h2|h2
    .have:=(hrB.own y gg cy o3 ey).2;omega
    .exact hout2 y gg cy o1 o3 ey h2
   by_cases h1:zQY bs b<pin\/b∈news
   .by_cases h1':zQY bs b'<pin\/b'∈news
    .rw[(hT b h1).2.1]at e;rw[(hT b' h1').2.1];exact ha.dist _ _ g c c' (hliveT b h1 hl) (hliveT b' h1' hl') (λeq=>hbb (hJinj b b' h1 h1' eq)) e
    .exact cross b b' g c c' h1 h1' hl hl' e
   .by_cases h1':zQY bs b'<pin\/b'∈news
    .exact λe'=>cross b' b g c' c h1' h1 hl' hl e' e
    .obtain⟨o1,o2,o3,o4⟩:=hout b h1 hl;obtain⟨p1,p2,p3,p4⟩:=hout b' h1' hl';rw[o4]at e;rw[p4];exact hrB.dist b b' g c c' o3 p3 hbb e
 exact⟨ι2,rfl,hR,(ha.rep.turn λx _=>hturn2 x).keep (λb hb=>⟨hb,rfl⟩) hK1⟩
theorem jUm{f:FuncId}{bs:List Nat}{v:AV}{ws:List (Nat × Bx)}(hex:∀(w0:World) (S:zQ3) (n:Dom) (ι:zQm) (a:Act) (w:World),RepS w0 S n s ι a w->∃vs:Array Value,(execOp a.eval o).run P w=.ok (.enter f vs) w /\
   ∀ι2 s2,s2.tm=s.tm->RepS w0 S n s2 ι2 a w->RepAVs w (Seen S w0.heap.size s2.bx ι2) ι2 s2.bx xs vs.toList)(hl0:∀b∈zJz ms xs,b∈l0)(hbs:∀b∈zXw ms xs,b∈bs)(hf:jVE P Γ f ms pin nnew xs l0 bs news (l0.map s.bx) (bs.map s.bx) (news.map s.bx)=some (vc,v,ws)):zWE P o s vc v (ws.map (·.1)) (ws.map (·.2)):=by
 unfold jVE at hf;split at hf
 .rename_i hok;split at hf
  .rename_i ys hys;split at hf
   .rename_i r hr0;split at hf
    .rename_i hoo;simp only[wQa,wQc]at hf;obtain⟨rfl,rfl,rfl⟩:=hf;intro w0 S n ι a w K Q hr hans hK;obtain⟨vs,hrun,hcall⟩:=jGX (Ed:=Ending.returned) hex hl0 hbs hok hys hoo hans w0 S n ι a w hr;unfold Oper.wp;rw[hrun,wXW];refine hcall.mono λed w' hq=>?_;obtain⟨u,ι2,rfl,h1,h2⟩:=hq;exact hK ι2 u w' h1 h2
    .cases hf
   .cases hf
  .cases hf
 .cases hf
end
end Go.Proofs.YtbnmadpcdlnleaaGreatDoor
