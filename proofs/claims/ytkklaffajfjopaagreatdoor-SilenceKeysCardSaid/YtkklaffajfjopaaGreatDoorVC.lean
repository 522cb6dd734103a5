/-
  A part of the proof of SilenceKeys.
-/
import Derived.Test.YtkklaffajfjopaaGreatDoorVB
import Derived.Test.YtkklaffajfjopaaGreatDoorProg
import Derived.KernelRfl
import Derived.Lib.LaidTab
import Derived.Stop.LaidErr
import Derived.Laws.Strings
set_option linter.unusedVariables false
set_option linter.unusedSimpArgs false
set_option linter.defProp false
set_option linter.unusedSectionVars false
namespace Go.Ds
variable {P:Program}
structure CallsOk(P:Program)(C:Calls')(H0:Heap):Prop where
 fn:∀p f args H v H1,LK H0 H→(C.fn p f args H).Is v H1→p=kS f→(FnS P f args H (fun v' H'=>v'=v∧H'=H1)∨qF P f args H=some (v,H1))∧LK H H1
 rd:∀L args H v H1,LK H0 H→(C.rd L args H).Is v H1→xR P L args H v H1∧LK H H1
noncomputable def iY (x:Operand):LArg:=match x with
 | .tmp t=>.t (kS t)
 | .const v=>.c v
 | .global g=>.c (.pointer (some ⟨g,0,none⟩))
 | .func k=>.c (.func (.func k) #[] #[])
theorem kY{α:Type}(x:Operand)(K:LArg→α):lS x K=K (iY x):=by
 cases x with
 | tmp t=>exact lL _ _
 | _=>rfl
theorem jV{f:Fr}{l:List Value}(h:FAg f l)(x:Operand):mP f (iY x)=ev l x:=by
 cases x with
 | tmp t=>exact h t
 | _=>rfl
theorem a3H{α:Type}(l:List Operand)(K:List LArg→α):a4y l K=K (l.map iY):=by
 induction l generalizing K with
 | nil=>rfl
 | cons x l ih=>
   show lS x (fun x=>a4y l fun l=>K (x::l))=_
   rw[kY,ih];rfl
theorem a6I{α:Type}{f:Fr}{l:List Value}(h:FAg f l)(xs:List Operand)(K:List Value→α):a3V f (xs.map iY) K=K (xs.map (ev l)):=by
 induction xs generalizing K with
 | nil=>rfl
 | cons x xs ih=>
   show oJ (mP f (iY x)) (fun v=>a3V f (xs.map iY) fun l=>K (v::l))=_
   rw[mS,ih,jV h];rfl
theorem c1T{f:Fr}{l:List Value}(h:FAg f l):evF f=ev l:=by
 funext x
 cases x with
 | tmp t=>exact h t
 | _=>rfl
def wA(P:Program)(o:Oper)(lo:LOp):Prop:=∀C H0 f l H v H1,CallsOk P C H0→LK H0 H→FAg f l→(opF P C lo f H).Is v H1→StepR P o l H v H1∧LK H H1
def LowPl(P:Program)(o:Oper)(lo:LOp):Prop:=∀C f l H v H1,FAg f l→(opF P C lo f H).Is v H1→opD P o l H=some (v,H1)
theorem LowPl.low{o:Oper}{lo:LOp}(hok:o.op.operands.toList.all iU=true)(h:LowPl P o lo):wA P o lo:=
 fun C _ f l H v H1 _ _ hf hr=>by have:=h C f l H v H1 hf hr;exact⟨.op hok this,b3R this⟩
theorem b8w(o:Oper):wA P o .bad:=fun _ _ _ _ _ _ _ _ _ _ h=>absurd h Rs.ar
theorem b8n(o:Oper):LowPl P o (.gen o):=fun C f l H v H1 hf hr=>by
 have hr:(match c1Y P o (evF f) H with|some (v,H1)=>Rs.th v H1|none=>.no).Is v H1:=hr
 rw[c1T hf]at hr
 have e:c1Y P o (ev l) H=opD P o l H:=rfl
 rw[e]at hr
 split at hr
 ·rename_i v2 H2 h2
  obtain⟨rfl,rfl⟩:=Rs.aT hr
  exact h2
 ·exact absurd hr Rs.ar
section
variable {dst:Option Tmp} {type:TypeId} {pos:String} {after:Array Edge} {guard:Option (Nat×Bool)}
theorem c1f(x:Operand):LowPl P ⟨dst,.move x,type,pos,after,guard⟩ (.mv (iY x)):=fun C f l H v H1 hf hr=>by
 have hr:(oJ (mP f (iY x)) fun v=>Rs.ok v H).Is v H1:=hr
 rw[mS,jV hf]at hr
 obtain⟨rfl,rfl⟩:=Rs.aP hr
 rfl
theorem c0r(x:Operand):LowPl P ⟨dst,.assign x,type,pos,after,guard⟩ (.mv (iY x)):=fun C f l H v H1 hf hr=>by
 have hr:(oJ (mP f (iY x)) fun v=>Rs.ok v H).Is v H1:=hr
 rw[mS,jV hf]at hr
 obtain⟨rfl,rfl⟩:=Rs.aP hr
 rfl
theorem b6n(c a b:Operand):LowPl P ⟨dst,.pick c a b,type,pos,after,guard⟩ (.pick (iY c) (iY a) (iY b)):=fun C f l H v H1 hf hr=>by
 have hr:(b3E (iY c) (iY a) (iY b) f H).Is v H1:=hr
 unfold b3E at hr
 rw[jV hf]at hr
 split at hr
 ·rename_i t ht
  rw[mS]at hr
  simp only[opD,ht]
  cases t
  ·have hr:(Rs.ok (mP f (iY b)) H).Is v H1:=hr
   rw[jV hf]at hr
   obtain⟨rfl,rfl⟩:=Rs.aP hr;rfl
  ·have hr:(Rs.ok (mP f (iY a)) H).Is v H1:=hr
   rw[jV hf]at hr
   obtain⟨rfl,rfl⟩:=Rs.aP hr;rfl
 ·exact absurd hr Rs.ar
theorem b8c(a b:Int):c2z a b=a*b:=by cases a<;>cases b<;>rfl
theorem a5v(a b:Int):c3a a b=a.tdiv b:=by cases a<;>cases b<;>rfl
theorem a5z(a b:Int):c3K a b=a.tmod b:=by cases a<;>cases b<;>rfl
theorem b8b{op:BinOp}{g:IntKind→Int→Int→Option Value}(h:b9i op=some g)(k:IntKind)(a b:Int):mR op k a b=g k a b:=by
 cases op<;>simp only[b9i]at h<;>first|(cases h;done)|(injection h with h;subst h)
 all_goals first
  | rfl
  | (simp only[mR,c3V,b8c];done)
  | (simp only[mR,b8J,a5v];done)
  | (simp only[mR,b8v,a5z];done)
  | (simp only[mR,b8J,a5v];rfl)
  | (simp only[mR,b8v,a5z];rfl)
  | (simp only[mR,b8J,a5v];cases eqI b 0<;>rfl)
  | (simp only[mR,b8v,a5z];cases eqI b 0<;>rfl)
theorem c3Y{o:Option Value}{H H1:Heap}{v:Value}(h:(oV o H).Is v H1):o=some v∧H1=H:=by
 cases o with
 | none=>exact absurd h Rs.ar
 | some w=>obtain⟨rfl,rfl⟩:=Rs.aT h;exact⟨rfl,rfl⟩
theorem b4N{o:Option Value}{H H1:Heap}{v:Value}(h:(okV o H).Is v H1):o=some v∧H1=H:=by
 cases o with
 | none=>exact absurd h Rs.ar
 | some w=>
   have h:(oJ w fun v=>Rs.ok v H).Is v H1:=h
   rw[mS]at h
   obtain⟨rfl,rfl⟩:=Rs.aP h;exact⟨rfl,rfl⟩
theorem b7g{op:BinOp}{g:IntKind→Int→Int→Option Value}(hg:b9i op=some g)(t yt:TypeId)(x y:Operand):LowPl P ⟨dst,.binOp op t x y yt,type,pos,after,guard⟩ (.bin g (iY x) (iY y)):=fun C f l H v H1 hf hr=>by
 have hr:(c0B g (iY x) (iY y) f H).Is v H1:=hr
 unfold c0B at hr
 rw[jV hf]at hr
 split at hr
 ·rename_i k a hx
  unfold b9N at hr
  rw[jV hf]at hr
  split at hr
  ·rename_i k' b hy
   obtain⟨hk,hq⟩:=lG hr
   obtain rfl:=b8f hk
   obtain⟨hv,rfl⟩:=c3Y hq
   rw[←b8b hg]at hv
   have:opD P ⟨dst,.binOp op t x y yt,type,pos,after,guard⟩ l H1=if k=k then(match mR op k a b with|some v=>some (v,H1)|none=>kK P ⟨dst,.binOp op t x y yt,type,pos,after,guard⟩ l H1)else kK P ⟨dst,.binOp op t x y yt,type,pos,after,guard⟩ l H1:=by
    simp only[opD,hx,hy]
    cases op<;>rfl
   rw[this,if_pos rfl,hv]
  ·exact absurd hr Rs.ar
 ·exact absurd hr Rs.ar
theorem b7J{b:Option Blk}{i e:Nat}{H H1:Heap}{v:Value}(h:(b9j b i e H).Is v H1):H1=H∧∃cs ty rw lo ver,b=some (.cells cs ty rw lo ver)∧lo≤e∧e≤cs.length∧i+1≤e∧cs[i]? =some v:=by
 unfold b9j at h
 split at h
 ·rename_i cs ty rw lo ver
  obtain⟨h1,h⟩:=lG h
  obtain⟨h2,h⟩:=lG h
  obtain⟨h3,h⟩:=lG h
  have h:(okV (a0S cs i) H).Is v H1:=h
  obtain⟨h4,h5⟩:=b4N h
  rw[yH]at h2
  rw[yD]at h4
  exact⟨h5,cs,ty,rw,lo,ver,rfl,ez h1,by simpa using h2,ez h3,h4⟩
 ·exact absurd h Rs.ar
theorem b7l{b:Option Blk}{n i e:Nat}{H H1:Heap}{v:Value}(h:(b8x b n i e H).Is v H1):H1=H∧∃cs ty rw lo ver,b=some (.cells cs ty rw lo ver)∧lo≤e∧e≤cs.length∧i+n≤e∧v=.agg ((cs.drop i).take n).toArray:=by
 unfold b8x at h
 split at h
 ·rename_i cs ty rw lo ver
  obtain⟨h1,h⟩:=lG h
  obtain⟨h2,h⟩:=lG h
  obtain⟨h3,h⟩:=lG h
  obtain⟨h4,h⟩:=a6i h
  obtain⟨rfl,rfl⟩:=Rs.aP h
  rw[yH]at h2
  exact⟨rfl,cs,ty,rw,lo,ver,rfl,ez h1,by simpa using h2,ez h3,by rw[a7J]⟩
 ·exact absurd h Rs.ar
theorem b0Q{X:LArg}{f:Fr}{H H1:Heap}{v w:Value}{t:TypeId}(ht:jQ P t=some false)(hw:mP f X=w)(h:(b1s X f H).Is v H1):H1=H∧lP P H t w=some v:=by
 unfold b1s at h
 rw[hw]at h
 split at h
 ·rename_i A i e
  obtain⟨h1,cs,ty,rw',lo,ver,h2,h3,h4,h5,h6⟩:=b7J h
  refine⟨h1,?_⟩
  simp only[lP,ht,jF,h2]
  rw[if_pos (by simp;omega)]
  simp[h6]
 ·rename_i A i
  unfold c2g at h
  split at h
  ·rename_i cs ty lo hg
   obtain⟨h1,h⟩:=lG h
   rw[yH]at h1
   have h1:lo≤cs.length:=by simpa using h1
   cases hn:a0S cs i with
   | none=>rw[hn]at h;exact absurd h Rs.ar
   | some c=>
     rw[hn]at h
     have h:(oJ c fun v=>Rs.ok v H).Is v H1:=h
     rw[mS]at h
     obtain⟨rfl,rfl⟩:=Rs.aP h
     rw[yD]at hn
     have hi:=(dy.1 hn).1
     refine⟨rfl,?_⟩
     simp only[lP,ht,jF,hg]
     rw[if_pos (by simp;omega)]
     simp[hn]
  ·exact absurd h Rs.ar
 ·exact absurd h Rs.ar
theorem b0C{X:LArg}{f:Fr}{H H1:Heap}{v w:Value}{t:TypeId}{n:Nat}(ht:jQ P t=some true)(hn:iF P t=some n)(hw:mP f X=w)(h:(b3o n X f H).Is v H1):H1=H∧lP P H t w=some v:=by
 unfold b3o at h
 rw[hw]at h
 split at h
 ·rename_i A i e
  obtain⟨h1,cs,ty,rw',lo,ver,h2,h3,h4,h5,h6⟩:=b7l h
  refine⟨h1,?_⟩
  simp only[lP,ht,hn,dc,jF,h2]
  rw[if_pos (by simp;omega),h6]
  rfl
 ·exact absurd h Rs.ar
theorem b7Y{t:TypeId}(ht:jQ P t=some false)(x:Operand):LowPl P ⟨dst,.load t x,type,pos,after,guard⟩ (.ld1 (iY x)):=fun C f l H v H1 hf hr=>by
 obtain⟨rfl,h⟩:=b0Q (P:=P) ht (jV hf x) hr
 simp only[opD,h,dS]
theorem b9f{t:TypeId}{n:Nat}(ht:jQ P t=some true)(hn:iF P t=some n)(x:Operand):LowPl P ⟨dst,.load t x,type,pos,after,guard⟩ (.ldn n (iY x)):=fun C f l H v H1 hf hr=>by
 obtain⟨rfl,h⟩:=b0C (P:=P) ht hn (jV hf x) hr
 simp only[opD,h,dS]
theorem c1c{t:TypeId}{n:Nat}(hn:iF P t=some n)(x y:Operand):LowPl P ⟨dst,.store t x y,type,pos,after,guard⟩ (.st n (iY x) (iY y)):=fun C f l H v H1 hf hr=>by
 have hr:(hSt n (iY x) (iY y) f H).Is v H1:=hr
 unfold hSt at hr
 rw[jV hf,jV hf]at hr
 split at hr
 ·rename_i A i e hx
  unfold stB at hr
  split at hr
  ·rename_i cs ty lo ver hg
   obtain⟨h1,hr⟩:=lG hr
   obtain⟨h2,hr⟩:=lG hr
   obtain⟨h3,hr⟩:=lG hr
   obtain⟨h4,hr⟩:=lG hr
   obtain⟨h5,hr⟩:=lG hr
   obtain⟨rfl,rfl⟩:=Rs.aT hr
   rw[yM]at h1 h3
   have h1:n=(ev l y).cells.toList.length:=by simpa only[decide_eq_true_eq]using h1
   have h3:e=cs.length:=by simpa only[decide_eq_true_eq]using h3
   have h4:i+n≤e:=ez h4
   have h5:lo≤e:=ez h5
   simp only[opD,qT,hx,hg]
   rw[if_pos ⟨by rw[hn,h1],h2,h3,by omega,h5⟩]
   simp only[dS]
   rw[h3]
  ·exact absurd hr Rs.ar
 ·exact absurd hr Rs.ar
theorem c0u{s:TypeId}{k n:Nat}{fd:Field}(hf':oO P s k=some fd)(hn:iF P fd.type=some n)(hn0:n≠0)(x:Operand):LowPl P ⟨dst,.fieldAddr s x k,type,pos,after,guard⟩ (.fa fd.offset (iY x)):=fun C f l H v H1 hf hr=>by
 have hr:(hFa fd.offset (iY x) f H).Is v H1:=hr
 unfold hFa at hr
 rw[jV hf]at hr
 split at hr
 ·rename_i A i e hx
  rw[kA]at hr
  obtain⟨rfl,rfl⟩:=Rs.aP hr
  simp only[opD,hx,hf',dc,hn]
  rw[if_neg (by simpa using hn0)];rfl
 ·exact absurd hr Rs.ar
theorem b3J{A i e size n:Nat}{H H1:Heap}{j v:Value}(h:(ixP A i e size n H j).Is v H1):H1=H∧∃k m,j=.int k (.ofNat m)∧m<n∧v=.pointer (some ⟨A,i+m*size,some e⟩):=by
 unfold ixP at h
 split at h
 ·rename_i k m
  obtain⟨h1,h⟩:=lG h
  rw[kA]at h
  obtain⟨rfl,rfl⟩:=Rs.aP h
  rw[blt_eq]at h1
  exact⟨rfl,k,m,rfl,by simpa using h1,rfl⟩
 ·exact absurd h Rs.ar
theorem b9e{t elem:TypeId}{size:Nat}(ht:P.underlying t=some (.slice elem))(hs:iF P elem=some size)(x i:Operand):LowPl P ⟨dst,.indexAddr t x i,type,pos,after,guard⟩ (.ixs size (iY x) (iY i)):=fun C f l H v H1 hf hr=>by
 have hr:(c1N size (iY x) (iY i) f H).Is v H1:=hr
 unfold c1N at hr
 rw[jV hf,jV hf]at hr
 split at hr
 ·rename_i A a e n c hx
  obtain⟨rfl,k,m,hj,hm,rfl⟩:=b3J hr
  simp only[opD,ht,hx,hj,hs,dc]
  rw[if_pos (by simp;omega)]
  rfl
 ·exact absurd hr Rs.ar
theorem c2U(a b:Nat):Nat.beq a b=(a==b):=by
 cases h:Nat.beq a b with
 | true=>rw[dV h];simp
 | false=>have:=Nat.ne_of_beq_eq_false h;simp[this]
theorem c2f{A i size n:Nat}{H H1:Heap}{j v:Value}(h:(ixG A i size n H j).Is v H1):H1=H∧∃k m,j=.int k (.ofNat m)∧m<n∧v=.pointer (some ⟨A,i+m*size,none⟩):=by
 unfold ixG at h
 split at h
 ·rename_i k m
  obtain⟨h1,h⟩:=lG h
  rw[kA]at h
  obtain⟨rfl,rfl⟩:=Rs.aP h
  exact⟨rfl,k,m,rfl,by simpa [iz]using h1,rfl⟩
 ·exact absurd h Rs.ar
theorem b7h{t elem:TypeId}{n size:Nat}(ht:P.underlying t=some (.array n elem))(hs:iF P elem=some size)(x i:Operand):LowPl P ⟨dst,.indexAddr t x i,type,pos,after,guard⟩ (.ixa n size (iY x) (iY i)):=fun C f l H v H1 hf hr=>by
 have hr:(c0i n size (iY x) (iY i) f H).Is v H1:=hr
 unfold c0i at hr
 rw[jV hf,jV hf]at hr
 split at hr
 ·rename_i A a e hx
  obtain⟨rfl,k,m,hj,hm,rfl⟩:=b3J hr
  simp only[opD,ht,hx,hj,hs,dc]
  rw[if_pos (by simp;omega)]
  rfl
 ·rename_i A a hx
  obtain⟨rfl,k,m,hj,hm,rfl⟩:=c2f hr
  simp only[opD,ht,hx,hj,hs,dc]
  rw[if_pos (by simp;omega)]
  rfl
 ·exact absurd hr Rs.ar
theorem b8A(i:Nat)(x:Operand):LowPl P ⟨dst,.extract x i,type,pos,after,guard⟩ (.ext i (iY x)):=fun C f l H v H1 hf hr=>by
 have hr:(c1V i (iY x) f H).Is v H1:=hr
 unfold c1V at hr
 rw[jV hf]at hr
 split at hr
 ·rename_i vs hx
  obtain⟨h1,rfl⟩:=b4N hr
  rw[yD]at h1
  simp only[opD,hx]
  simp[h1]
 ·exact absurd hr Rs.ar
theorem b8e{c:Call}{elem:TypeId}(hc:c.callee=.builtin .len)(h1:c.args.size=1)(h2:c.argTypes.size=1)(ht:P.underlying (c.argTypes.getD 0 0)=some (.slice elem)):LowPl P ⟨dst,.call c,type,pos,after,guard⟩ (.len (iY (c.args.getD 0 (.tmp 0)))):=fun C f l H v H1 hf hr=>by
 have hr:(c1C (iY (c.args.getD 0 (.tmp 0))) f H).Is v H1:=hr
 unfold c1C at hr
 rw[jV hf]at hr
 split at hr
 ·rename_i a n k hx
  obtain⟨rfl,rfl⟩:=Rs.aT hr
  simp only[opD,hc,h1,h2,ht,hx,xD];rfl
 ·exact absurd hr Rs.ar
theorem b5E{c:Call}(hc:c.callee=.builtin .len)(h1:c.args.size=1)(h2:c.argTypes.size=1)(ht:P.underlying (c.argTypes.getD 0 0)=some .string):LowPl P ⟨dst,.call c,type,pos,after,guard⟩ (.slen (iY (c.args.getD 0 (.tmp 0)))):=fun C f l H v H1 hf hr=>by
 have hr:(b4g (iY (c.args.getD 0 (.tmp 0))) f H).Is v H1:=hr
 unfold b4g at hr
 rw[jV hf]at hr
 split at hr
 ·rename_i s hx
  obtain⟨rfl,rfl⟩:=Rs.aT hr
  simp only[opD,hc,h1,h2,ht,hx,xD];rfl
 ·exact absurd hr Rs.ar
theorem b8G{c:Call}{elem:TypeId}{size bytes:Nat}{z:Value}(hc:c.callee=.builtin .append)(h1:c.args.size=2)(h2:c.argTypes.size=2)(hi:((P.underlying (c.argTypes.getD 1 0)).map pY)=some true)
 (he:iJ P (c.argTypes.getD 0 0)=some elem) (hs:iF P elem=some size) (hb:nP P elem=some bytes) (hz:jA P elem=some z) (hzs:z.cells.size=size) (hs0:size≠0):
 LowPl P ⟨dst,.call c,type,pos,after,guard⟩ (.app elem size bytes (iY (c.args.getD 0 (.tmp 0))) (iY (c.args.getD 1 (.tmp 0)))):=fun C f l H v H1 hf hr=>by
 have hr:(c2h P elem size bytes (iY (c.args.getD 0 (.tmp 0))) (iY (c.args.getD 1 (.tmp 0))) f H).Is v H1:=hr
 unfold c2h at hr
 rw[jV hf,jV hf]at hr
 have hD:opD P ⟨dst,.call c,type,pos,after,guard⟩ l H=nO P H (c.argTypes.getD 0 0) (ev l (c.args.getD 0 (.tmp 0))) (ev l (c.args.getD 1 (.tmp 0))):=by
  simp only[opD,hc,h1,h2,hi];rfl
 rw[hD]
 unfold nO
 rw[he,dc,hs,dc,hb,dc,hz,dc]
 split at hr
 ·rename_i n m hsrc
  rw[hsrc,dc]
  unfold c4j at hr
  split at hr
  ·rename_i k cc hx
   obtain⟨g1,hq1⟩:=lG hr
   obtain⟨g2,hq2⟩:=lG hq1
   obtain⟨g3,hq⟩:=lG hq2
   clear hr hq1 hq2
   obtain rfl:k=0:=dV g1
   obtain rfl:cc=0:=dV g2
   have g3:n*(bytes+1)≤oX:=ez g3
   simp only[hx]
   rw[if_pos (by simp[hs0,hzs,g3])]
   rw[kM]at hq
   by_cases hn:n=0
   ·subst hn
    rw[if_pos (by rfl)]at hq
    obtain⟨rfl,rfl⟩:=Rs.aP hq
    simp
   ·rw[if_neg (fun e=>hn (dV e))]at hq
    obtain⟨rfl,rfl⟩:=Rs.aT hq
    simp[hn]
  ·rename_i A i e k cc hx
   unfold c3G at hr
   split at hr
   ·rename_i cs ty lo ver hg
    obtain⟨g2,hr⟩:=lG hr
    obtain⟨g4,hr⟩:=lG hr
    obtain⟨g5,hr⟩:=lG hr
    have g2:(ty==elem||iF P ty==some size)=true:=by
     rw[c2U]at g2
     cases hh:(ty==elem)with
     | true=>rfl
     | false=>rw[hh]at g2;exact g2
    rw[yM]at g4
    have g4:e=cs.length:=by simpa only[decide_eq_true_eq]using g4
    have g5:lo≤e:=ez g5
    simp only[hx,hg]
    rw[kM]at hr
    by_cases g3:i+k*size=e
    ·rw[if_pos (by simpa using g3)]at hr
     obtain⟨g1,hr⟩:=lG hr
     obtain⟨rfl,rfl⟩:=Rs.aT hr
     have g1:(k+n)*(bytes+1)≤oX:=ez g1
     have et:(Bool.rec (motive:=fun _=>Nat) 2 ver (Nat.beq ty elem))=(if(ty==elem)=true then ver else 2):=by
      rw[c2U]
      cases hh:(ty==elem)with
      | true=>rfl
      | false=>rfl
     rw[et,if_pos (by simp only[g2,fg,de,bne_iff_ne,beq_iff_eq,decide_eq_true_eq];exact⟨⟨⟨⟨⟨hs0,g1⟩,by simpa using hzs⟩,g3⟩,g4⟩,g5⟩)]
    ·rw[if_neg (by simpa using g3)]at hr
     rw[kM]at hr
     by_cases hn:n=0
     ·rw[if_pos (by simpa using hn)]at hr
      exact absurd hr Rs.ar
     ·rw[if_neg (by simpa using hn)]at hr
      obtain⟨g6,hr⟩:=lG hr
      obtain⟨rfl,rfl⟩:=Rs.aT hr
      have g6:i+(k+n)*size≤e:=ez g6
      rw[if_neg (by simp[g3]),if_pos (by simp only[g2,fg,de,bne_iff_ne,beq_iff_eq,decide_eq_true_eq];exact⟨⟨⟨⟨⟨hs0,hn⟩,by simpa using hzs⟩,g6⟩,g4⟩,g5⟩),g4]
   ·exact absurd hr Rs.ar
  ·exact absurd hr Rs.ar
 ·exact absurd hr Rs.ar
theorem b2X{c:Call}{k:FuncId}(hc:c.callee=.value (.func k))(hok:(Op.call c).operands.toList.all iU=true):wA P ⟨dst,.call c,type,pos,after,guard⟩ (.callF k (kS k) (c.args.toList.map iY)):=fun C H0 f l H v H1 hC hk hf hr=>by
 have hr:(a3V f (c.args.toList.map iY) fun l=>C.fn (kS k) k l H).Is v H1:=hr
 rw[a6I hf]at hr
 obtain⟨h1|hx,h2⟩:=hC.fn _ _ _ _ _ _ hk hr rfl
 case inr=>exact⟨.ext hok c (.func k) k #[] #[] rfl hc rfl (by simpa using hx),h2⟩
 obtain⟨he,v',H',hcall,rfl,rfl⟩:=h1.fn
 exact⟨.call hok c (.func k) k #[] #[] rfl hc rfl he (by simpa using hcall),h2⟩
theorem b1V{c:Call}{g:Operand}(hc:c.callee=.value g)(hok:(Op.call c).operands.toList.all iU=true):wA P ⟨dst,.call c,type,pos,after,guard⟩ (.callV (iY g) (c.args.toList.map iY)):=fun C H0 f l H v H1 hC hk hf hr=>by
 have hr:(a3V f (c.args.toList.map iY) fun l=>a8m C l H (mP f (iY g))).Is v H1:=hr
 rw[a6I hf,jV hf]at hr
 unfold a8m at hr
 split at hr
 ·rename_i k a b hg
  rw[kA,lL]at hr
  obtain⟨h1|hx,h2⟩:=hC.fn _ _ _ _ _ _ hk hr rfl
  case inr=>exact⟨.ext hok c g k ⟨a⟩ ⟨b⟩ rfl hc hg (by simpa [yP]using hx),h2⟩
  obtain⟨he,v',H',hcall,rfl,rfl⟩:=h1.fn
  exact⟨.call hok c g k ⟨a⟩ ⟨b⟩ rfl hc hg he (by simpa [yP]using hcall),h2⟩
 ·rename_i L a b hg
  obtain⟨h1,h2⟩:=hC.rd _ _ _ _ _ hk hr
  exact⟨.round hok c g L _ _ rfl hc hg h1,h2⟩
 ·exact absurd hr Rs.ar
end
set_option maxHeartbeats 1000000 in
theorem b1k{α:Type}(o:Oper)(K:LOp→α):∃lo,wA P o lo∧xL P o K=K lo:=by
 unfold xL
 rw[kM]
 by_cases hok:o.op.operands.toList.all iU=true
 case neg=>rw[if_neg hok];exact⟨_,b8w o,rfl⟩
 rw[if_pos hok]
 have gen:∃lo,wA P o lo∧K (.gen o)=K lo:=⟨_,(b8n o).low hok,rfl⟩
 obtain⟨dst,op,type,pos,after,guard⟩:=o
 unfold c3R
 cases op with
 | move x=>simp only[kY];exact⟨_,(c1f x).low hok,rfl⟩
 | assign x=>simp only[kY];exact⟨_,(c0r x).low hok,rfl⟩
 | pick c a b=>simp only[kY];exact⟨_,(b6n c a b).low hok,rfl⟩
 | binOp op t x y yt=>
   simp only[kY,kM]
   split
   ·split
    ·rename_i g hg;exact⟨_,(b7g hg t yt x y).low hok,rfl⟩
    ·exact gen
   ·exact gen
 | load t x=>
   simp only[kY]
   split
   ·rename_i ht
    cases hn:iF P t with
    | none=>exact gen
    | some n=>rw[pH];exact⟨_,(b9f ht hn x).low hok,rfl⟩
   ·rename_i ht;exact⟨_,(b7Y ht x).low hok,rfl⟩
   ·exact gen
 | store t x y=>
   simp only[kY]
   cases hn:iF P t with
   | none=>exact gen
   | some n=>rw[pH];exact⟨_,(c1c hn x y).low hok,rfl⟩
 | fieldAddr s x k=>
   simp only[kY]
   split
   ·rename_i fd hfd
    split
    ·exact gen
    ·rename_i n hn0 hn
     rw[kA]
     exact⟨_,(c0u hfd hn (fun e=>hn0 e) x).low hok,rfl⟩
    ·exact gen
   ·exact gen
 | indexAddr t x i=>
   simp only[kY]
   split
   ·rename_i elem ht
    cases hs:iF P elem with
    | none=>exact gen
    | some n=>rw[pH];exact⟨_,(b9e ht hs x i).low hok,rfl⟩
   ·rename_i n elem ht
    cases hs:iF P elem with
    | none=>exact gen
    | some m=>rw[pH];exact⟨_,(b7h ht hs x i).low hok,rfl⟩
   ·exact gen
 | extract t i=>simp only[kY];rw[kA];exact⟨_,(b8A i t).low hok,rfl⟩
 | call c=>
   simp only
   unfold b5W
   split
   ·rename_i k hc
    rw[lL,a3H]
    exact⟨_,b2X hc hok,rfl⟩
   ·rename_i g _ hc
    rw[kY,a3H]
    exact⟨_,b1V hc hok,rfl⟩
   ·rename_i hc
    rw[kM]
    split
    ·rename_i h1
     simp only[de,beq_iff_eq]at h1
     split
     ·rename_i elem ht;rw[kY];exact⟨_,(b8e hc h1.1 h1.2 ht).low hok,rfl⟩
     ·rename_i ht;rw[kY];exact⟨_,(b5E hc h1.1 h1.2 ht).low hok,rfl⟩
     ·exact gen
    ·exact gen
   ·rename_i hc
    rw[kM]
    split
    ·rename_i h1
     simp only[de,beq_iff_eq]at h1
     split
     ·rename_i elem he
      cases hs:iF P elem with
      | none=>exact gen
      | some size=>
        rw[pH]
        cases hb:nP P elem with
        | none=>exact gen
        | some bytes=>
          rw[pH]
          split
          ·rename_i z hz
           rw[kM]
           split
           ·rename_i h2
            simp only[de,beq_iff_eq,bne_iff_ne]at h2
            rw[kA,kY,kY]
            exact⟨_,(b8G hc h1.1.1 h1.1.2 h1.2 he hs hb hz h2.1 h2.2).low hok,rfl⟩
           ·exact gen
          ·exact gen
     ·exact gen
    ·exact gen
   ·exact gen
 | _=>exact gen
def DOk(k:Nat)(dst:Option Tmp)(d:Option Pth):Prop:=(dst=none∧d=none)∨∃t,dst=some t∧t<k∧d=some (kS t)
inductive LowOps(P:Program)(k:Nat)(ops:Array Oper):List Oper→LOps→Prop
 | nil:LowOps P k ops [] .nil
 | cons {o:Oper} {os:List Oper} {d:Option Pth} {lo:LOp} {r:LOps} (hd:DOk k o.dst d) (ho:wA P o lo) (hg:o.guard=none) (hr:LowOps P k ops os r):LowOps P k ops (o::os) (.cons d lo r)
 | gcons {o:Oper} {os:List Oper} {d:Option Pth} {lo:LOp} {r:LOps} {j t:Nat} {w:Bool} (hd:DOk k o.dst d) (ho:wA P o lo) (hg:o.guard=some (j,w)) (ht:(ops[j]?).bind (·.dst)=some t) (htk:t<k) (hr:LowOps P k ops os r):LowOps P k ops (o::os) (.gcons (kS t) w d lo r)
def GOk(ops:Array Oper)(o:Oper)(g:Option (Pth×Bool)):Prop:=(o.guard=none∧g=none)∨∃j w t,o.guard=some (j,w)∧(ops[j]?).bind (·.dst)=some t∧g=some (kS t,w)
theorem GOk.runs{ops:Array Oper}{o:Oper}{g:Option (Pth×Bool)}(h:GOk ops o g){f:Fr}{l:List Value}(hf:FAg f l)(hw:Region.wanted o (iX ops l)=true):b4i f g=true:=by
 rcases h with⟨_,rfl⟩|⟨j,w,t,hg,ht,rfl⟩
 ·rfl
 ·simp only[Region.wanted,hg,iX,ht]at hw
  show isB (oB (kS t) f) w=true
  rw[hf t,oL,dh]
  cases hl:l[t]? with
  | none=>rw[hl]at hw;simp at hw
  | some v=>
    rw[hl]at hw
    cases v<;>simp at hw
    subst hw
    rename_i b
    cases b<;>rfl
inductive LowTab(P:Program)(ops:Array Oper):List (Nat×Nat)→List (Nat×Option Nat×Option (Pth×Bool)×LOp)→Prop
 | nil:LowTab P ops [] []
 | cons {i m:Nat} {o:Oper} {lo:LOp} {tab:List (Nat×Nat)} {t:List (Nat×Option Nat×Option (Pth×Bool)×LOp)} {g:Option (Pth×Bool)} (ho:ops[i]? =some o) (hgd:GOk ops o g) (hl:wA P o lo) (hr:LowTab P ops tab t):
    LowTab P ops ((i,m)::tab) ((ops.size-1-i,if m<ops.size then some (ops.size-1-m)else none,g,lo)::t)
inductive Low(P:Program)(k:Nat):Code→LCode→Prop
 | bad (c:Code):Low P k c .bad
 | skip:Low P k .skip .skip
 | label (t:Nat):Low P k (.label t) .skip
 | reg {id:Nat} {ops:Array Oper} {d:Bool} {lo:LOps} (h:LowOps P k ops ops.toList lo) (hd:d=true→mX P ops=some []):Low P k (.region id ops d) (.reg lo)
 | drw {id:Nat} {ops:Array Oper} {lo:LOps} {tab:List (Nat×Nat)} {t:List (Nat×Option Nat×Option (Pth×Bool)×LOp)} (h:LowOps P k ops ops.toList lo) (ht:mX P ops=some tab) (hl:LowTab P ops tab t):Low P k (.region id ops true) (.drw lo t)
 | seq {a b:Code} {A B:LCode} (ha:Low P k a A) (hb:Low P k b B):Low P k (.seq a b) (.seq A B)
 | cond {c:Operand} {x y:Code} {X Y:LCode} (hc:iU c=true) (hx:Low P k x X) (hy:Low P k y Y):Low P k (.cond c x y) (.cond (iY c) X Y)
 | block {id:Nat} {b:Code} {B:LCode} (hb:Low P k b B):Low P k (.block id b) (.block id B)
 | loop {b:Code} {B:LCode} (hb:Low P k b B):Low P k (.loop b) (.loop B)
 | exit (id:Nat):Low P k (.exit id) (.exit id)
 | ret:Low P k .ret .ret
 | range {g:Operand} {ps:Array Tmp} {assign body:Code} {A B:LCode} (hg:iU g=true) (hps:∀t∈ps.toList,t<k) (ha:Low P k assign A) (hb:Low P k body B):
    Low P k (.rangeFunc g ps assign body) (.range (iY g) ((List.range k).map kS) (ps.toList.map kS) ps assign body A B)
section
variable {α:Type}
theorem b5c(k:Nat)(dst:Option Tmp)(no:α)(K:Option Pth→α):(∃d,DOk k dst d∧a6Y k dst no K=K d)∨a6Y k dst no K=no:=by
 cases dst with
 | none=>exact .inl ⟨none,.inl ⟨rfl,rfl⟩,rfl⟩
 | some t=>
   simp only[a6Y,kM]
   split
   ·rename_i h
    rw[lL]
    rw[blt_eq]at h
    exact .inl ⟨_,.inr ⟨t,rfl,by simpa using h,rfl⟩,rfl⟩
   ·exact .inr rfl
theorem a2E(k:Nat)(ops:Array Oper)(l:List Oper)(K:LOps→α)(no:α):(∃L,LowOps P k ops l L∧uJ P k ops l K no=K L)∨uJ P k ops l K no=no:=by
 induction l generalizing K with
 | nil=>exact .inl ⟨_,.nil,rfl⟩
 | cons o l ih=>
   let K2:Option Pth→LOp→α:=fun d o'=>match o.guard with
    | none=>uJ P k ops l (fun r=>K (.cons d o' r)) no
    | some (j,w)=>match (ops[j]?).bind (·.dst)with
      | some t=>nX (Nat.blt t k) no (lQ (kS t) fun p=>a0b w fun w=>uJ P k ops l (fun r=>K (.gcons p w d o' r)) no)
      | none=>no
   have e:uJ P k ops (o::l) K no=a6Y k o.dst no fun d=>xL P o fun o'=>K2 d o':=rfl
   rw[e]
   rcases b5c k o.dst no (fun d=>xL P o fun o'=>K2 d o')with⟨d,hd,h1⟩|h1
   ·rw[h1]
    obtain⟨lo,hlo,h2⟩:=b1k (P:=P) o (fun o'=>K2 d o')
    rw[h2]
    simp only[K2]
    split
    ·rename_i hg
     rcases ih (fun r=>K (.cons d lo r))with⟨L,hL,h3⟩|h3
     ·exact .inl ⟨_,.cons hd hlo hg hL,h3⟩
     ·exact .inr h3
    ·rename_i j w hg
     split
     ·rename_i t ht
      rw[kM]
      split
      ·rename_i htk
       rw[lL,vL]
       rw[blt_eq]at htk
       rcases ih (fun r=>K (.gcons (kS t) w d lo r))with⟨L,hL,h3⟩|h3
       ·exact .inl ⟨_,.gcons hd hlo hg ht (by simpa using htk) hL,h3⟩
       ·exact .inr h3
      ·exact .inr rfl
     ·exact .inr rfl
   ·exact .inr h1
theorem c1M(k:Nat)(ops:Array Oper)(o:Oper)(no:α)(K:Option (Pth×Bool)→α):(∃g,GOk ops o g∧loG k ops o.guard no K=K g)∨loG k ops o.guard no K=no:=by
 cases hg:o.guard with
 | none=>exact .inl ⟨none,.inl ⟨hg,rfl⟩,rfl⟩
 | some x=>
   obtain⟨j,w⟩:=x
   unfold loG
   cases ht:(ops[j]?).bind (·.dst)with
   | none=>exact .inr (by simp only[ht])
   | some t=>
     simp only[ht,kM]
     split
     ·refine .inl ⟨some (kS t,w),.inr ⟨j,w,t,hg,ht,rfl⟩,?_⟩
      rw[lL,vL]
     ·exact .inr rfl
theorem b5S(k:Nat)(ops:Array Oper)(tab:List (Nat×Nat))(K:List (Nat×Option Nat×Option (Pth×Bool)×LOp)→α)(no:α):(∃t,LowTab P ops tab t∧tL P k ops ops.size tab K no=K t)∨tL P k ops ops.size tab K no=no:=by
 induction tab generalizing K with
 | nil=>exact .inl ⟨_,.nil,rfl⟩
 | cons x tab ih=>
   obtain⟨i,m⟩:=x
   cases ho:ops[i]? with
   | none=>
     refine .inr ?_
     show(match ops[i]? with
      | some o=>_
      | none=>no)=no
     rw[ho]
   | some o=>
     let K2:Option (Pth×Bool)→LOp→α:=fun g o'=>kF (ops.size-1-i) fun i=>nX (Nat.blt m ops.size) (tL P k ops ops.size tab (fun l=>K ((i,none,g,o')::l)) no) (kF (ops.size-1-m) fun m=>tL P k ops ops.size tab (fun l=>K ((i,some m,g,o')::l)) no)
     have e:tL P k ops ops.size ((i,m)::tab) K no=loG k ops o.guard no fun g=>xL P o fun o'=>K2 g o':=by
      show(match ops[i]? with
       | some o=>loG k ops o.guard no fun g=>xL P o fun o'=>K2 g o'
       | none=>no)=_
      rw[ho]
     rw[e]
     rcases c1M k ops o no (fun g=>xL P o fun o'=>K2 g o')with⟨g,hgd,h1⟩|h1
     ·rw[h1]
      obtain⟨lo,hlo,h2⟩:=b1k (P:=P) o (fun o'=>K2 g o')
      rw[h2]
      show(∃t,_∧kF (ops.size-1-i) (fun i=>nX (Nat.blt m ops.size) (tL P k ops ops.size tab (fun l=>K ((i,none,g,lo)::l)) no) (kF (ops.size-1-m) fun m=>tL P k ops ops.size tab (fun l=>K ((i,some m,g,lo)::l)) no))=K t)∨kF (ops.size-1-i) (fun i=>nX (Nat.blt m ops.size) (tL P k ops ops.size tab (fun l=>K ((i,none,g,lo)::l)) no) (kF (ops.size-1-m) fun m=>tL P k ops ops.size tab (fun l=>K ((i,some m,g,lo)::l)) no))=no
      rw[kA,kM,kA,blt_eq]
      by_cases hm:m<ops.size
      ·rw[if_pos (by simpa using hm)]
       rcases ih (fun l=>K ((ops.size-1-i,some (ops.size-1-m),g,lo)::l))with⟨t,ht,h3⟩|h3
       ·have:=LowTab.cons (m:=m) ho hgd hlo ht
        rw[if_pos hm]at this
        exact .inl ⟨_,this,h3⟩
       ·exact .inr h3
      ·rw[if_neg (by simpa using hm)]
       rcases ih (fun l=>K ((ops.size-1-i,none,g,lo)::l))with⟨t,ht,h3⟩|h3
       ·have:=LowTab.cons (m:=m) ho hgd hlo ht
        rw[if_neg hm]at this
        exact .inl ⟨_,this,h3⟩
       ·exact .inr h3
     ·exact .inr h1
theorem b1y(k:Nat)(l:List Tmp)(K:List Pth→α)(no:α):((∀t∈l,t<k)∧wV k l K no=K (l.map kS))∨wV k l K no=no:=by
 induction l generalizing K with
 | nil=>exact .inl ⟨by simp,rfl⟩
 | cons t l ih=>
   show _∨nX (Nat.blt t k) no (lQ (kS t) fun p=>wV k l (fun l=>K (p::l)) no)=no
   have e:wV k (t::l) K no=nX (Nat.blt t k) no (lQ (kS t) fun p=>wV k l (fun l=>K (p::l)) no):=rfl
   rw[e,kM,lL,blt_eq]
   by_cases h:t<k
   ·rw[if_pos (by simpa using h)]
    rcases ih (fun l=>K (kS t::l))with⟨h1,h2⟩|h2
    ·exact .inl ⟨by simpa using⟨h,h1⟩,h2⟩
    ·exact .inr h2
   ·rw[if_neg (by simpa using h)];exact .inr rfl
theorem b1o(k:Nat)(c:Code)(K:LCode→α):∃C,Low P k c C∧nB P k c K=K C:=by
 induction c generalizing K with
 | skip=>exact⟨_,.skip,rfl⟩
 | region id ops d=>
   cases d with
   | false=>
     show ∃C,_∧uJ P k ops ops.toList (fun l=>K (.reg l)) (K .bad)=K C
     rcases a2E (P:=P) k ops ops.toList (fun l=>K (.reg l)) (K .bad)with⟨L,hL,h⟩|h
     ·exact⟨_,.reg hL (fun h=>by cases h),h⟩
     ·exact⟨_,.bad _,h⟩
   | true=>
     show ∃C,_∧(match mX P ops with
      | some []=>uJ P k ops ops.toList (fun l=>K (.reg l)) (K .bad)
      | some tab=>uJ P k ops ops.toList (fun l=>tL P k ops ops.size tab (fun t=>K (.drw l t)) (K .bad)) (K .bad)
      | none=>K .bad)=K C
     split
     ·rename_i hd
      rcases a2E (P:=P) k ops ops.toList (fun l=>K (.reg l)) (K .bad)with⟨L,hL,h⟩|h
      ·exact⟨_,.reg hL (fun _=>hd),h⟩
      ·exact⟨_,.bad _,h⟩
     ·rename_i tab _ hd
      rcases a2E (P:=P) k ops ops.toList (fun l=>tL P k ops ops.size tab (fun t=>K (.drw l t)) (K .bad)) (K .bad)with⟨L,hL,h⟩|h
      ·rw[h]
       rcases b5S (P:=P) k ops tab (fun t=>K (.drw L t)) (K .bad)with⟨t,ht,h2⟩|h2
       ·exact⟨_,.drw hL hd ht,h2⟩
       ·exact⟨_,.bad _,h2⟩
      ·exact⟨_,.bad _,h⟩
     ·exact⟨_,.bad _,rfl⟩
 | seq a b iha ihb=>
   show ∃C,_∧nB P k a (fun a=>nB P k b fun b=>K (.seq a b))=K C
   obtain⟨A,hA,h1⟩:=iha (fun a=>nB P k b fun b=>K (.seq a b))
   obtain⟨B,hB,h2⟩:=ihb (fun b=>K (.seq A b))
   exact⟨_,.seq hA hB,h1.trans h2⟩
 | cond c x y ihx ihy=>
   show ∃C,_∧nX (iU c) (K .bad) (lS c fun c=>nB P k x fun x=>nB P k y fun y=>K (.cond c x y))=K C
   rw[kM]
   split
   ·rename_i hc
    rw[kY]
    obtain⟨X,hX,h1⟩:=ihx (fun x=>nB P k y fun y=>K (.cond (iY c) x y))
    obtain⟨Y,hY,h2⟩:=ihy (fun y=>K (.cond (iY c) X y))
    exact⟨_,.cond hc hX hY,h1.trans h2⟩
   ·exact⟨_,.bad _,rfl⟩
 | block id b ih=>
   show ∃C,_∧kF id (fun id=>nB P k b fun b=>K (.block id b))=K C
   rw[kA]
   obtain⟨B,hB,h1⟩:=ih (fun b=>K (.block id b))
   exact⟨_,.block hB,h1⟩
 | loop b ih=>
   show ∃C,_∧nB P k b (fun b=>K (.loop b))=K C
   obtain⟨B,hB,h1⟩:=ih (fun b=>K (.loop b))
   exact⟨_,.loop hB,h1⟩
 | rangeFunc g ps assign body iha ihb=>
   show ∃C,_∧nX (iU g) (K .bad) (lS g fun g'=>b2e k fun pp=>wV k ps.toList (fun q=>nB P k assign fun a=>nB P k body fun b=>K (.range g' pp q ps assign body a b)) (K .bad))=K C
   rw[kM]
   split
   ·rename_i hg
    rw[kY,b0v]
    rcases b1y k ps.toList (fun q=>nB P k assign fun a=>nB P k body fun b=>K (.range (iY g) ((List.range k).map kS) q ps assign body a b)) (K .bad)with⟨hps,h⟩|h
    ·obtain⟨A,hA,h1⟩:=iha (fun a=>nB P k body fun b=>K (.range (iY g) ((List.range k).map kS) (ps.toList.map kS) ps assign body a b))
     obtain⟨B,hB,h2⟩:=ihb (fun b=>K (.range (iY g) ((List.range k).map kS) (ps.toList.map kS) ps assign body A b))
     exact⟨_,.range hg hps hA hB,h.trans (h1.trans h2)⟩
    ·exact⟨_,.bad _,h⟩
   ·exact⟨_,.bad _,rfl⟩
 | exit id=>
   show ∃C,_∧kF id (fun id=>K (.exit id))=K C
   rw[kA]
   exact⟨_,.exit id,rfl⟩
 | label t=>exact⟨_,.label t,rfl⟩
 | ret=>exact⟨_,.ret,rfl⟩
 | scope b _=>exact⟨_,.bad _,rfl⟩
 | goto t=>exact⟨_,.bad _,rfl⟩
 | refuse w=>exact⟨_,.bad _,rfl⟩
end
theorem vE{α:Type}{k:Nat}{f:Fr}{l:List Value}(h:FRel k f l){dst:Option Tmp}{d:Option Pth}(hd:DOk k dst d)(v:Value)(K:Fr→α):∃f',uK d v f K=K f'∧FRel k f' (put l dst v):=by
 rcases hd with⟨rfl,rfl⟩|⟨t,rfl,ht,rfl⟩
 ·exact⟨f,rfl,h⟩
 ·exact⟨b5a f t v,sX v (kS t) f K,h.put ht v⟩
theorem xQ{ops:Array Oper}{l:List Value}{j t:Nat}(ht:(ops[j]?).bind (·.dst)=some t)(htl:t<l.length)(w:Bool):(iX ops l j==some w)=isB (get l t) w:=by
 have hg:get l t=l[t]:=by rw[oL];simp[htl]
 unfold iX
 rw[ht,hg]
 simp only[dA htl]
 cases hv:l[t]<;>simp[isB]
 rename_i b
 cases b<;>cases w<;>rfl
theorem b8q{k:Nat}{ops:Array Oper}{C:Calls'}{H0:Heap}(hC:CallsOk P C H0){os:List Oper}{lo:LOps}(hlo:LowOps P k ops os lo):∀{i:Nat},ops.toList.drop i=os→∀{f:Fr}{l:List Value}{H:Heap}{f1:Fr}{H1:Heap},
 FRel k f l→LK H0 H→yJ P C lo f H=.ok f1 H1→∃l1,FRel k f1 l1∧OpsR P ops (List.range' i os.length) l H l1 H1∧LK H H1:=by
 induction hlo with
 | nil=>
   intro i _ f l H f1 H1 hf _ h
   injection h with h1 h2
   subst h1 h2
   exact⟨l,hf,.nil l H,.refl H⟩
 | @cons o os d lo r hd ho hg hr ih=>
   intro i hi f l H f1 H1 hf hk h
   have hio:ops[i]? =some o:=by
    have:(ops.toList.drop i)[0]? =some o:=by rw[hi];rfl
    rw[dI]at this
    simpa using this
   have hi':ops.toList.drop (i+1)=os:=by rw[←fC,hi];rfl
   have hw:Region.wanted o (iX ops l)=true:=by simp[Region.wanted,hg]
   have h:b0S Rf.no d f (yJ P C r) (opF P C lo f H)=.ok f1 H1:=h
   have key:∀v H2,(opF P C lo f H).Is v H2→(uK d v f fun f=>yJ P C r f H2)=.ok f1 H1→∃l1,FRel k f1 l1∧OpsR P ops (List.range' i (o::os).length) l H l1 H1∧LK H H1:=by
    intro v H2 hop hrest
    obtain⟨hs,hk2⟩:=ho C H0 f l H v H2 hC hk hf.2 hop
    obtain⟨f',e,hf'⟩:=vE hf hd v (fun f=>yJ P C r f H2)
    rw[e]at hrest
    obtain⟨l1,h1,h2,h3⟩:=ih hi' hf' (hk.trans hk2) hrest
    exact⟨l1,h1,.step hio hw hs h2,hk2.trans h3⟩
   cases hop:opF P C lo f H with
   | no=>rw[hop]at h;cases h
   | ok v H2=>rw[hop]at h;exact key v H2 (.inl hop) h
   | th v H2=>
     rw[hop]at h
     have h:xS v (fun v=>nW H2 fun H2=>uK d v f fun f=>yJ P C r f H2)=.ok f1 H1:=h
     rw[xN,lX]at h
     exact key v H2 (.inr hop) h
 | @gcons o os d lo r j t w hd ho hg ht htk hr ih=>
   intro i hi f l H f1 H1 hf hk h
   have hio:ops[i]? =some o:=by
    have:(ops.toList.drop i)[0]? =some o:=by rw[hi];rfl
    rw[dI]at this
    simpa using this
   have hi':ops.toList.drop (i+1)=os:=by rw[←fC,hi];rfl
   have hwi:Region.wanted o (iX ops l)=isB (oB (kS t) f) w:=by
    simp only[Region.wanted,hg]
    rw[xQ ht (by rw[hf.1];exact htk) w,hf.2 t]
   have h:nX (isB (oB (kS t) f) w) (uK d undef f fun f=>yJ P C r f H) (b0S Rf.no d f (yJ P C r) (opF P C lo f H))=.ok f1 H1:=h
   rw[kM]at h
   split at h
   ·rename_i hb
    have key:∀v H2,(opF P C lo f H).Is v H2→(uK d v f fun f=>yJ P C r f H2)=.ok f1 H1→∃l1,FRel k f1 l1∧OpsR P ops (List.range' i (o::os).length) l H l1 H1∧LK H H1:=by
     intro v H2 hop hrest
     obtain⟨hs,hk2⟩:=ho C H0 f l H v H2 hC hk hf.2 hop
     obtain⟨f',e,hf'⟩:=vE hf hd v (fun f=>yJ P C r f H2)
     rw[e]at hrest
     obtain⟨l1,h1,h2,h3⟩:=ih hi' hf' (hk.trans hk2) hrest
     exact⟨l1,h1,.step hio (by rw[hwi,hb]) hs h2,hk2.trans h3⟩
    cases hop:opF P C lo f H with
    | no=>rw[hop]at h;cases h
    | ok v H2=>rw[hop]at h;exact key v H2 (.inl hop) h
    | th v H2=>
      rw[hop]at h
      have h:xS v (fun v=>nW H2 fun H2=>uK d v f fun f=>yJ P C r f H2)=.ok f1 H1:=h
      rw[xN,lX]at h
      exact key v H2 (.inr hop) h
   ·rename_i hb
    obtain⟨f',e,hf'⟩:=vE hf hd undef (fun f=>yJ P C r f H)
    rw[e]at h
    obtain⟨l1,h1,h2,h3⟩:=ih hi' hf' hk h
    exact⟨l1,h1,.past hio (by rw[hwi];simpa using hb) h2,h3⟩
structure Noted(P:Program)(k:Nat)(ops:Array Oper)(H:Heap)(i n:Nat)(T:Nat→List Value×Heap)(val:Nat→Value)(tr0 tr:List (Fr×Heap×Value)):Prop where
 step:∀j,i≤j→j<i+n→wJ P ops j (T j) (T (j+1)) (val j)
 new:∀j,i≤j→j<i+n→∃g,tr[i+n-1-j]? =some (g,(T j).2,val j)∧FAg g (T j).1
 old:∀m,tr[n+m]? =tr0[m]?
 lk:∀j,i≤j→j≤i+n→LK H (T j).2
theorem b4w{k:Nat}{ops:Array Oper}{C:Calls'}{H0:Heap}(hC:CallsOk P C H0){os:List Oper}{lo:LOps}(hlo:LowOps P k ops os lo):∀{i:Nat},ops.toList.drop i=os→∀{tr0 tr:List (Fr×Heap×Value)}{f:Fr}{l:List Value}{H:Heap}{f1:Fr}{H1:Heap},
 FRel k f l→LK H0 H→rM P C lo tr0 f H=.ok tr f1 H1→∃T val l1,T i=(l,H)∧T (i+os.length)=(l1,H1)∧FRel k f1 l1∧Noted P k ops H i os.length T val tr0 tr:=by
 have more:∀{i n:Nat}{o:Oper}{tr0 tr:List (Fr×Heap×Value)}{f:Fr}{l:List Value}{H:Heap}{v:Value}{l2:List Value}{H2:Heap}{l1:List Value}{H1:Heap}{f1:Fr},FRel k f l→wJ P ops i (l,H) (l2,H2) v→LK H H2→
  (∃T val l1,T (i+1)=(l2,H2)∧T (i+1+n)=(l1,H1)∧FRel k f1 l1∧Noted P k ops H2 (i+1) n T val ((f,H,v)::tr0) tr)→
  ∃T val l1,T i=(l,H)∧T (i+(n+1))=(l1,H1)∧FRel k f1 l1∧Noted P k ops H i (n+1) T val tr0 tr:=by
  intro i n o tr0 tr f l H v l2 H2 _ H1 f1 hf hst hk ⟨T,val,l1,h1,h2,h3,hN⟩
  refine⟨fun j=>if j≤i then(l,H)else T j,fun j=>if j≤i then v else val j,l1,by simp,?_,h3,?_⟩
  ·show(if i+(n+1)≤i then(l,H)else T (i+(n+1)))=_
   rw[if_neg (by omega),←h2];congr 1;omega
  ·refine⟨fun j hj hn=> ?_,fun j hj hn=> ?_,fun m=> ?_,fun j hj hn=> ?_⟩
   ·by_cases he:j=i
    ·subst he
     simp only[dj,if_true]
     rw[if_neg (by omega),h1]
     exact hst
    ·rw[if_neg (by omega),if_neg (by omega),if_neg (by omega)]
     exact hN.step j (by omega) (by omega)
   ·by_cases he:j=i
    ·subst he
     simp only[dj,if_true]
     refine⟨f,?_,hf.2⟩
     have:=hN.old 0
     rw[show j+(n+1)-1-j=n+0 by omega,this];rfl
    ·rw[if_neg (by omega),if_neg (by omega)]
     obtain⟨g,hg,hag⟩:=hN.new j (by omega) (by omega)
     exact⟨g,by rw[←hg];congr 1;omega,hag⟩
   ·have:=hN.old (m+1)
    rw[show n+1+m=n+(m+1) by omega,this];rfl
   ·by_cases he:j=i
    ·subst he;simp only[dj,if_true];exact .refl H
    ·rw[if_neg (by omega)];exact hk.trans (hN.lk j (by omega) (by omega))
 induction hlo with
 | nil=>
   intro i _ tr0 tr f l H f1 H1 hf _ h
   injection h with h1 h2 h3
   subst h1 h2 h3
   exact⟨fun _=>(l,H),fun _=>undef,l,rfl,rfl,hf,fun j _ h=>absurd h (by simp;omega),fun j _ h=>absurd h (by simp;omega),fun m=>by simp,fun _ _ _=>.refl H⟩
 | @cons o os d lo r hd ho hg hr ih=>
   intro i hi tr0 tr f l H f1 H1 hf hk h
   have hio:ops[i]? =some o:=by
    have:(ops.toList.drop i)[0]? =some o:=by rw[hi];rfl
    rw[dI]at this
    simpa using this
   have hi':ops.toList.drop (i+1)=os:=by rw[←fC,hi];rfl
   have hw:Region.wanted o (iX ops l)=true:=by simp[Region.wanted,hg]
   have h:b0D tr0 f H d (rM P C r) (opF P C lo f H)=.ok tr f1 H1:=h
   have key:∀v H2,(opF P C lo f H).Is v H2→(uK d v f fun f2=>rM P C r ((f,H,v)::tr0) f2 H2)=.ok tr f1 H1→∃T val l1,T i=(l,H)∧T (i+(o::os).length)=(l1,H1)∧FRel k f1 l1∧Noted P k ops H i (o::os).length T val tr0 tr:=by
    intro v H2 hop hrest
    obtain⟨hs,hk2⟩:=ho C H0 f l H v H2 hC hk hf.2 hop
    obtain⟨f',e,hf'⟩:=vE hf hd v (fun f2=>rM P C r ((f,H,v)::tr0) f2 H2)
    rw[e]at hrest
    have:=ih hi' hf' (hk.trans hk2) hrest
    exact more (o:=o) (l1:=l) hf ⟨o,hio,rfl,.inl ⟨hw,hs⟩⟩ hk2 this
   cases hop:opF P C lo f H with
   | no=>rw[hop]at h;cases h
   | ok v H2=>rw[hop]at h;exact key v H2 (.inl hop) h
   | th v H2=>
     rw[hop]at h
     have h:xS v (fun v=>nW H2 fun H2=>uK d v f fun f2=>rM P C r ((f,H,v)::tr0) f2 H2)=.ok tr f1 H1:=h
     rw[xN,lX]at h
     exact key v H2 (.inr hop) h
 | @gcons o os d lo r j t w hd ho hg ht htk hr ih=>
   intro i hi tr0 tr f l H f1 H1 hf hk h
   have hio:ops[i]? =some o:=by
    have:(ops.toList.drop i)[0]? =some o:=by rw[hi];rfl
    rw[dI]at this
    simpa using this
   have hi':ops.toList.drop (i+1)=os:=by rw[←fC,hi];rfl
   have hwi:Region.wanted o (iX ops l)=isB (oB (kS t) f) w:=by
    simp only[Region.wanted,hg]
    rw[xQ ht (by rw[hf.1];exact htk) w,hf.2 t]
   have h:nX (isB (oB (kS t) f) w) (uK d undef f fun f2=>rM P C r ((f,H,undef)::tr0) f2 H) (b0D tr0 f H d (rM P C r) (opF P C lo f H))=.ok tr f1 H1:=h
   rw[kM]at h
   split at h
   ·rename_i hb
    have key:∀v H2,(opF P C lo f H).Is v H2→(uK d v f fun f2=>rM P C r ((f,H,v)::tr0) f2 H2)=.ok tr f1 H1→∃T val l1,T i=(l,H)∧T (i+(o::os).length)=(l1,H1)∧FRel k f1 l1∧Noted P k ops H i (o::os).length T val tr0 tr:=by
     intro v H2 hop hrest
     obtain⟨hs,hk2⟩:=ho C H0 f l H v H2 hC hk hf.2 hop
     obtain⟨f',e,hf'⟩:=vE hf hd v (fun f2=>rM P C r ((f,H,v)::tr0) f2 H2)
     rw[e]at hrest
     exact more (o:=o) (l1:=l) hf ⟨o,hio,rfl,.inl ⟨by rw[hwi,hb],hs⟩⟩ hk2 (ih hi' hf' (hk.trans hk2) hrest)
    cases hop:opF P C lo f H with
    | no=>rw[hop]at h;cases h
    | ok v H2=>rw[hop]at h;exact key v H2 (.inl hop) h
    | th v H2=>
      rw[hop]at h
      have h:xS v (fun v=>nW H2 fun H2=>uK d v f fun f2=>rM P C r ((f,H,v)::tr0) f2 H2)=.ok tr f1 H1:=h
      rw[xN,lX]at h
      exact key v H2 (.inr hop) h
   ·rename_i hb
    obtain⟨f',e,hf'⟩:=vE hf hd undef (fun f2=>rM P C r ((f,H,undef)::tr0) f2 H)
    rw[e]at h
    exact more (o:=o) (l1:=l) hf ⟨o,hio,rfl,.inr ⟨by rw[hwi];simpa using hb,rfl,rfl⟩⟩ (.refl H) (ih hi' hf' hk h)
theorem b1m{α:Type}(p:α→Bool)(l:List α):b3N p l=l.all p:=by
 induction l with
 | nil=>rfl
 | cons x l ih=>
   show nX (p x) false (b3N p l)=_
   rw[kM,ih,fz]
   cases p x<;>rfl
theorem b7p{v:Value}{r:Rs}(h:b7M v r=true):∃H,r.Is v H:=by
 cases r with
 | no=>cases h
 | ok w H=>exact⟨H,.inl (by rw[b6k (show veq w v=true from h)])⟩
 | th w H=>exact⟨H,.inr (by rw[b6k (show veq w v=true from h)])⟩
theorem LowTab.get{ops:Array Oper}{tab:List (Nat×Nat)}{t:List (Nat×Option Nat×Option (Pth×Bool)×LOp)}(h:LowTab P ops tab t){i m:Nat}(hm:(i,m)∈tab):∃o lo g,ops[i]? =some o∧GOk ops o g∧wA P o lo∧(ops.size-1-i,(if m<ops.size then some (ops.size-1-m)else none),g,lo)∈t:=by
 induction h with
 | nil=>cases hm
 | @cons i2 m2 o lo tab t g ho hgd hl hr ih=>
   rcases eM.1 hm with he|hm
   ·injection he with h1 h2
    subst h1 h2
    exact⟨o,lo,g,ho,hgd,hl,by simp⟩
   ·obtain⟨o',lo',g',h1,h0,h2,h3⟩:=ih hm
    exact⟨o',lo',g',h1,h0,h2,eC _ h3⟩
theorem a8l{fl:Fl}{ops:Array Oper}{i m:Nat}(h:(i,m)∈mM fl ops){o:Oper}(ho:ops[i]? =some o):nT o.op=true:=by
 unfold mM at h
 simp only[eD]at h
 obtain⟨⟨x,j⟩,hx,h⟩:=h
 dsimp only at h
 split at h
 ·rename_i hr
  simp only[dD]at h
  obtain⟨m',_,e⟩:=h
  injection e with e1 e2
  subst e1
  have:=gx.1 hx
  have:ops[j]? =some x:=by simpa using this
  rw[this]at ho
  injection ho with ho
  subst ho
  exact hr
 ·cases h
theorem b8M(kG:P.follows .mixedOrders=true){k id:Nat}{ops:Array Oper}{C:Calls'}{H:Heap}(hC:CallsOk P C H){lo:LOps}{tab:List (Nat×Nat)}{t:List (Nat×Option Nat×Option (Pth×Bool)×LOp)}(hlo:LowOps P k ops ops.toList lo)(htab:mX P ops=some tab)(hl:LowTab P ops tab t)
 {f:Fr} {l:List Value} {e:Ex} {f1:Fr} {H1:Heap} (hf:FRel k f l) (h:b9V P C t (rM P C lo [] f H)=.ok e f1 H1):∃l1,e=.normal∧FRel k f1 l1∧Sim P (.region id ops true) l H .normal l1 H1∧LK H H1:=by
 cases hr:rM P C lo [] f H with
 | no=>rw[hr]at h;cases h
 | ok tr f2 H2=>
   rw[hr]at h
   have h:nX (b3N (b5t P C tr H2) t) Rc.no (.ok .normal f2 H2)=.ok e f1 H1:=h
   rw[kM]at h
   split at h
   case isFalse=>cases h
   rename_i hall
   injection h with h1 h2 h3
   subst h1 h2 h3
   obtain⟨T,val,l1,hT0,hTn,hf1,hN⟩:=b4w hC hlo (i:=0) rfl hf (.refl H) hr
   rw[fE,fh]at hTn
   rw[fE]at hN
   have hlk:LK H H2:=by have:=hN.lk ops.size (eX _) (by omega);rwa [hTn]at this
   refine⟨l1,rfl,hf1,?_,hlk⟩
   have:=Sim.draw kG (id:=id) htab (T:=T) (val:=val) ⟨fun j hj=>hN.step j (eX _) (by omega)⟩ ?_
   ·rw[hT0,hTn]at this;exact this
   ·intro i m o hm ho hw
    obtain⟨o',lo',gd,ho',hgd,hlow,hmem⟩:=hl.get hm
    rw[ho]at ho'
    obtain rfl:=da ho'
    rw[b1m,dx]at hall
    have hrd:=hall _ hmem
    have hi:i<ops.size:=(dp.1 ho).1
    obtain⟨g,hg,hag⟩:=hN.new i (eX _) (by omega)
    have hg:tr[ops.size-1-i]? =some (g,(T i).2,val i):=by rw[←hg];congr 1;omega
    have hread:nT o.op=true:=by
     obtain⟨fl,_,rfl⟩:=qD htab
     exact a8l hm ho
    have fin:∀H3,LK H H3→b7M (val i) (opF P C lo' g H3)=true→∃H4,opD P o (T i).1 H3=some (val i,H4):=by
     intro H3 hk3 hq
     obtain⟨H4,h4⟩:=b7p hq
     obtain⟨hs,_⟩:=hlow C H g (T i).1 H3 (val i) H4 hC hk3 hag h4
     refine⟨H4,hs.opD fun c fv hc hv=> ?_⟩
     rw[hc]at hread
     simp[nT,hv]at hread
    unfold b5t at hrd
    simp only[yD,hg,hgd.runs hag hw]at hrd
    rw[kM,if_pos rfl]at hrd
    by_cases hms:m<ops.size
    ·rw[if_pos hms]at hrd
     obtain⟨g2,hg2,_⟩:=hN.new m (eX _) (by omega)
     have hg2:tr[ops.size-1-m]? =some (g2,(T m).2,val m):=by rw[←hg2];congr 1;omega
     simp only[hg2]at hrd
     exact fin _ (hN.lk m (eX _) (by omega)) hrd
    ·rw[if_neg hms]at hrd
     have hle:m=ops.size:=by
      obtain⟨fl,_,rfl⟩:=qD htab
      have:=a1Y hm
      omega
     subst hle
     have:=fin H2 hlk hrd
     rw[hTn];exact this
def uC(P:Program):List ResultVar→List LRes→Prop
 | [],[]=>True
 | r::rs,l::ls=>(match r,l with
   | .tmp t,.t p=>p=kS t
   | .cell a t,.c1 p=>p=kS a∧jQ P t=some false
   | .cell a t,.cn n p=>p=kS a∧jQ P t=some true∧iF P t=some n
   | _,_=>False)∧uC P rs ls
 | _,_=>False
theorem b5h{α:Type}(l:List ResultVar)(K:List LRes→α)(no:α):(∃r,uC P l r∧a0C P l K no=K r)∨a0C P l K no=no:=by
 induction l generalizing K with
 | nil=>exact .inl ⟨[],trivial,rfl⟩
 | cons r l ih=>
   cases r with
   | tmp t=>
     have e:a0C P (.tmp t::l) K no=lQ (kS t) fun p=>a0C P l (fun l=>K (.t p::l)) no:=rfl
     rw[e,lL]
     rcases ih (fun l=>K (.t (kS t)::l))with⟨q,h1,h2⟩|h2
     ·exact .inl ⟨.t (kS t)::q,⟨rfl,h1⟩,h2⟩
     ·exact .inr h2
   | cell a t=>
     have e:a0C P (.cell a t::l) K no=match jQ P t with
      | some true=>a3c (iF P t) no fun n=>lQ (kS a) fun p=>a0C P l (fun l=>K (.cn n p::l)) no
      | some false=>lQ (kS a) fun p=>a0C P l (fun l=>K (.c1 p::l)) no
      | none=>no:=rfl
     rw[e]
     split
     ·rename_i ha
      cases hn:iF P t with
      | none=>exact .inr rfl
      | some n=>
        rw[pH,lL]
        rcases ih (fun l=>K (.cn n (kS a)::l))with⟨q,h1,h2⟩|h2
        ·exact .inl ⟨.cn n (kS a)::q,⟨⟨rfl,ha,hn⟩,h1⟩,h2⟩
        ·exact .inr h2
     ·rename_i ha
      rw[lL]
      rcases ih (fun l=>K (.c1 (kS a)::l))with⟨q,h1,h2⟩|h2
      ·exact .inl ⟨.c1 (kS a)::q,⟨⟨rfl,ha⟩,h1⟩,h2⟩
      ·exact .inr h2
     ·exact .inr rfl
theorem b1c{H H1:Heap}{f:Fr}{l:List Value}(hf:FAg f l){r:ResultVar}{q:LRes}{rs:List ResultVar}{qs:List LRes}(h:uC P (r::rs) (q::qs)){v:Value}(hv:(a3s H f q).Is v H1):H1=H∧a1f P l H r=some v∧uC P rs qs:=by
 obtain⟨h,hr⟩:=h
 cases r with
 | tmp t=>cases q with
   | t p=>
     have h:p=kS t:=h
     subst h
     have hv:(oJ (oB (kS t) f) fun v=>Rs.ok v H).Is v H1:=hv
     rw[mS]at hv
     obtain⟨rfl,rfl⟩:=Rs.aP hv
     exact⟨rfl,by rw[hf t];rfl,hr⟩
   | c1 p=>exact h.elim
   | cn n p=>exact h.elim
 | cell a t=>cases q with
   | t p=>exact h.elim
   | c1 p=>
     obtain⟨rfl,ha⟩:=h
     obtain⟨e,h1⟩:=b0Q (P:=P) (X:=.t (kS a)) (w:=get l a) ha (hf a) hv
     exact⟨e,h1,hr⟩
   | cn n p=>
     obtain⟨rfl,ha,hn⟩:=h
     obtain⟨e,h1⟩:=b0C (P:=P) (X:=.t (kS a)) (w:=get l a) ha hn (hf a) hv
     exact⟨e,h1,hr⟩
theorem b8K{H:Heap}{f:Fr}{q:LRes}{v:Value}{H1:Heap}:¬(a3s H f q=.th v H1):=by
 intro h
 cases q with
 | t p=>
   have h:(oJ (oB p f) fun v=>Rs.ok v H)=.th v H1:=h
   rw[mS]at h;cases h
 | c1 p=>
   have h:b1s (.t p) f H=.th v H1:=h
   unfold b1s at h
   split at h
   ·unfold b9j at h
    split at h
    ·rw[kM,kM,kM]at h
     split at h
     ·split at h
      ·split at h
       ·rename_i cs _ _ _ _ _ _ _ _
        cases hn:a0S cs _ with
        | none=>rw[hn]at h;cases h
        | some w=>rw[hn]at h;have h:(oJ w fun v=>Rs.ok v H)=.th v H1:=h;rw[mS]at h;cases h
       ·cases h
      ·cases h
     ·cases h
    ·cases h
   ·unfold c2g at h
    split at h
    ·rw[kM]at h
     split at h
     ·rename_i cs _ _ _ _
      cases hn:a0S cs _ with
      | none=>rw[hn]at h;cases h
      | some w=>rw[hn]at h;have h:(oJ w fun v=>Rs.ok v H)=.th v H1:=h;rw[mS]at h;cases h
     ·cases h
    ·cases h
   ·cases h
 | cn n p=>
   have hh:b3o n (.t p) f H=.th v H1:=h
   unfold b3o at hh
   split at hh
   ·unfold b8x at hh
    split at hh
    ·rw[kM,kM,kM]at hh
     split at hh
     ·split at hh
      ·split at hh
       ·have key:∀{cs:List Value}{n:Nat}{pre:List Value},¬(a2r cs n fun l=>Rs.ok (.agg ⟨pre++l⟩) H)=.th v H1:=by
         intro cs
         induction cs with
         | nil=>intro n pre h;cases n<;>cases h
         | cons c cs ih=>
           intro n pre h
           cases n with
           | zero=>cases h
           | succ n=>
             have h:(a2r cs n fun l=>Rs.ok (.agg ⟨pre++(c::l)⟩) H)=.th v H1:=h
             have e:∀l:List Value,pre++(c::l)=(pre++[c])++l:=by intro l;simp
             have h2:(a2r cs n fun l=>Rs.ok (.agg ⟨(pre++[c])++l⟩) H)=.th v H1:=by
              rw[←h];congr 1;funext l;rw[e l]
             exact ih h2
        exact key (pre:=[]) hh
       ·cases hh
      ·cases hh
     ·cases hh
    ·cases hh
   ·cases hh
theorem a8a{H H1:Heap}{f:Fr}{l:List Value}(hf:FAg f l){v:Value}:∀{rs:List ResultVar}{qs:List LRes}{K:List Value→Rs},uC P rs qs→(b5I H f qs K).Is v H1→∃vs,nF P l H rs=some vs∧(K vs).Is v H1
 | [],[],K,_,h=>⟨[],rfl,h⟩
 | [],_::_,_,h,_=>h.elim
 | _::_,[],_,h,_=>h.elim
 | r::rs,q::qs,K,hl,h=>by
   have h:(Rs.rec (motive:=fun _=>Rs) .no (fun v _=>b5I H f qs fun l=>K (v::l)) (fun _ _=>.no) (a3s H f q)).Is v H1:=h
   cases hq:a3s H f q with
   | no=>rw[hq]at h;exact absurd h Rs.ar
   | th w H2=>exact absurd hq b8K
   | ok w H2=>
     rw[hq]at h
     obtain⟨e,h1,h2⟩:=b1c hf hl (.inl hq)
     obtain⟨vs,h3,h4⟩:=a8a hf h2 h
     exact⟨w::vs,by simp[nF,h1,h3],h4⟩
theorem b4y{fn:Func}{H H1:Heap}{f:Fr}{l:List Value}(hf:FAg f l){qs:List LRes}(hl:uC P fn.results.toList qs){v:Value}(h:(a5V qs f H).Is v H1):H1=H∧iE P fn l H=some v:=by
 unfold a5V at h
 split at h
 ·rename_i q
  cases hr:fn.results.toList with
  | nil=>rw[hr]at hl;exact hl.elim
  | cons r rs=>
    rw[hr]at hl
    obtain⟨e,h1,h2⟩:=b1c hf hl h
    cases rs with
    | cons _ _=>exact h2.elim
    | nil=>exact⟨e,by simp[iE,hr,nF,h1]⟩
 ·rename_i hne
  obtain⟨vs,h1,h2⟩:=a8a hf hl h
  obtain⟨h3,h4⟩:=lG h2
  obtain⟨rfl,rfl⟩:=Rs.aP h4
  refine⟨rfl,?_⟩
  have hlen:∀{rs:List ResultVar}{qs:List LRes},uC P rs qs→rs.length=qs.length:=by
   intro rs
   induction rs with
   | nil=>intro qs h;cases qs with|nil=>rfl|cons=>exact h.elim
   | cons r rs ih=>intro qs h;cases qs with|nil=>exact h.elim|cons q qs=>simp[ih h.2]
  have hvl:∀{rs:List ResultVar}{vs:List Value},nF P l H1 rs=some vs→vs.length=rs.length:=by
   intro rs
   induction rs with
   | nil=>intro vs h;injection h with h;subst h;rfl
   | cons r rs ih=>
     intro vs h
     simp only[nF,db,dq]at h
     obtain⟨w,_,ws,h1,h2⟩:=h
     subst h2
     simp[ih h1]
  have hn1:vs.length≠1:=by
   rw[hvl h1,hlen hl]
   intro h1
   match qs,h1 with
   | [q],_=>exact hne q rfl
  unfold iE
  rw[h1,dc]
  rw[b1m]at h3
  have h3:vs.all jW=true:=by rw[←h3];congr 1
  split
  ·exact absurd rfl hn1
  ·rw[if_pos h3]
structure FuncOk(P:Program)(f:FuncId)(g:LFunc):Prop where
 ex:∃fn c,P.funcs[f]? =some fn∧fn.body=some c∧(fn.name== "runtime.NumGoroutine")=false∧g.ps=(List.range fn.ntmps).map kS∧Low P fn.ntmps c g.body∧uC P fn.results.toList g.res
def TOk(P:Program)(T:LT):Prop:=∀f g,a1X (kS f) T=some g→FuncOk P f g
def EOk(P:Program)(E:List LEnv)(H:Heap):Prop:=∀en∈E,en.L<H.length∧∀r,iR H en.L=some (.loop r)→
 ∃k,en.ps=(List.range k).map kS∧r.tmps.size=k∧en.pp=r.params.toList.map kS∧(∀t∈r.params.toList,t<k)∧Low P k r.assign en.a∧Low P k r.body en.b
theorem EOk.ae{E:List LEnv}{H H':Heap}(h:EOk P E H)(hk:LK H H'):EOk P E H':=fun en hen=>by
 obtain⟨h1,h2⟩:=h en hen
 refine⟨dQ h1 hk.1,fun r' hr'=> ?_⟩
 obtain⟨r,hr,ea,eb,ep,et⟩:=hk.2 en.L r' h1 hr'
 obtain⟨k,a,b,c,d,e,f⟩:=h2 r hr
 exact⟨k,a,by rw[et];exact b,by rw[ep];exact c,by rw[ep];exact d,by rw[ea];exact e,by rw[eb];exact f⟩
def a3t(P:Program)(ih:qH):Prop:=∀(E:List LEnv)(C:LCode)(k:Nat)(c:Code)(f:Fr)(l:List Value)(H:Heap)(e:Ex)(f1:Fr)(H1:Heap),Low P k c C→FRel k f l→EOk P E H→ih E C f H=.ok e f1 H1→
 ∃l1,FRel k f1 l1∧Sim P c l H e l1 H1∧LK H H1∧∀b,c=.loop b→∃n,Rounds P b n l H e l1 H1
theorem a0n{α:Type}{no:α}:∀{l:List Value}{i m:Nat}{f:Fr}{K:Fr→α},(pC no l ((List.range' i m).map kS) f K=no)∨(l.length≤m∧∃f',pC no l ((List.range' i m).map kS) f K=K f'∧∀t,oB (kS t) f'=if i≤t∧t<i+l.length then get l (t-i)else oB (kS t) f)
 | [],i,m,f,K=>.inr ⟨eX _,f,rfl,fun t=>by rw[if_neg (by simp only[eP];omega)]⟩
 | v::l,i,0,f,K=>.inl rfl
 | v::l,i,m+1,f,K=>by
   have e:pC no (v::l) ((List.range' i (m+1)).map kS) f K=pW v (kS i) f fun f=>pC no l ((List.range' (i+1) m).map kS) f K:=by
    rw[gK];rfl
   rw[e,sX]
   rcases a0n (l:=l) (i:=i+1) (m:=m) (f:=b5a f i v) (K:=K)with h|⟨h1,f',h2,h3⟩
   ·exact .inl h
   ·refine .inr ⟨by simp;omega,f',h2,fun t=> ?_⟩
    rw[h3 t,a4q]
    by_cases ht:t=i
    ·subst ht
     rw[if_neg (by omega),if_pos rfl,if_pos (by simp),il];rfl
    ·rw[if_neg ht]
     by_cases h4:i+1≤t∧t<i+1+l.length
     ·rw[if_pos h4,if_pos (by simp;omega)]
      rw[show t-i=(t-(i+1))+1 by omega];rfl
     ·rw[if_neg h4,if_neg (by simp;omega)]
theorem wG{α:Type}{no:α}{k:Nat}:∀{args:List Value}{ps:List Tmp}{f:Fr}{l:List Value}{K:Fr→α},FRel k f l→(∀t∈ps,t<k)→args.length=ps.length→
 ∃f',pC no args (ps.map kS) f K=K f'∧FRel k f' ((ps.zip args).foldl (fun t(p,v)=>t.set p v) l)
 | [],[],f,l,K,hf,_,_=>⟨f,rfl,hf⟩
 | v::args,p::ps,f,l,K,hf,hp,he=>by
   have e:pC no (v::args) ((p::ps).map kS) f K=pW v (kS p) f fun f=>pC no args (ps.map kS) f K:=rfl
   rw[e,sX]
   exact wG (hf.set (hp p (by simp)) v) (fun t ht=>hp t (by simp[ht])) (by simpa using he)
 | [],_::_,_,_,_,_,_,he=>by simp at he
 | _::_,[],_,_,_,_,_,he=>by simp at he
theorem a0r(l:List Value)(n t:Nat):get (l++List.replicate n undef) t=get l t:=by
 rw[oL,oL]
 simp only[dh]
 by_cases h:t<l.length
 ·rw[eJ h]
 ·rw[ek (by omega),ew (l:=l) (by omega),ia]
  split<;>rfl
theorem zX{T:LT}(hT:TOk P T){ih:qH}(hih:a3t P ih){E:List LEnv}{p:Pth}{f:FuncId}{args:List Value}{H H1:Heap}{v:Value}(hE:EOk P E H)(hp:p=kS f)(h:(oM T ih E p args H).Is v H1):
 FnS P f args H (fun v' H'=>v'=v∧H'=H1)∧LK H H1:=by
 unfold oM at h
 split at h
 case h_2=>exact absurd h Rs.ar
 rename_i g hg
 subst hp
 obtain⟨fn,c,hfn,hb,hn,hps,hlow,hres⟩:=(hT f g hg).ex
 rw[hps]at h
 rw[fO]at h
 rcases a0n (no:=Rs.no) (l:=args) (i:=0) (m:=fn.ntmps) (f:=.e) (K:=fun f=>c1S g.res (ih E g.body f H))with h1|⟨h1,f0,h2,h3⟩
 ·rw[h1]at h;exact absurd h Rs.ar
 ·rw[h2]at h
  have hf0:FRel fn.ntmps f0 (args++List.replicate (fn.ntmps-args.length) undef):=by
   refine⟨by simp;omega,fun t=> ?_⟩
   rw[h3 t,a0r]
   by_cases ht:t<args.length
   ·rw[if_pos (by omega)];rfl
   ·rw[if_neg (by omega),uY,oL,dh,ew (by omega)];try rfl
  cases hr:ih E g.body f0 H with
  | no=>rw[hr]at h;exact absurd h Rs.ar
  | ok e f1 H2=>
    rw[hr]at h
    obtain⟨l1,hf1,hs,hk,_⟩:=hih E g.body fn.ntmps c f0 _ H e f1 H2 hlow hf0 hE hr
    have key:(e=.normal∨e=.ret)→(a5V g.res f1 H2).Is v H1→FnS P f args H (fun v' H'=>v'=v∧H'=H1)∧LK H H1:=by
     intro he hv
     obtain⟨rfl,hv⟩:=b4y hf1.2 hres hv
     exact⟨⟨fn,c,e,l1,H1,v,hfn,hb,hn,hs,he,hv,rfl,rfl⟩,hk⟩
    cases e with
    | normal=>exact key (.inl rfl) h
    | ret=>exact key (.inr rfl) h
    | exit id=>exact absurd h Rs.ar
theorem b5V{T:LT}(hT:TOk P T){ih:qH}(hih:a3t P ih){E:List LEnv}{p:Pth}{f:FuncId}{args:List Value}{H H1:Heap}{v:Value}(hE:EOk P E H)(hp:p=kS f)(h:(b4B P T ih E p f args H).Is v H1):
 (FnS P f args H (fun v' H'=>v'=v∧H'=H1)∨qF P f args H=some (v,H1))∧LK H H1:=by
 unfold b4B at h
 cases hg:a1X p T with
 | some g=>
   rw[hg]at h
   obtain⟨a,b⟩:=zX (H1:=H1) (v:=v) hT hih hE hp (by unfold oM;rw[hg];exact h)
   exact⟨.inl a,b⟩
 | none=>
   rw[hg]at h
   have h:(c0C P f args H).Is v H1:=h
   unfold c0C at h
   split at h
   ·rename_i v2 H2 hx
    obtain⟨rfl,rfl⟩:=Rs.aT h
    exact⟨.inr hx,a4E hx⟩
   ·exact absurd h Rs.ar
theorem a8Y{E:List LEnv}{L:Nat}{en:LEnv}(h:b5T E L=some en):en∈E∧en.L=L:=by
 induction E with
 | nil=>cases h
 | cons e E ih=>
   have h:nX (Nat.beq e.L L) (b5T E L) (some e)=some en:=h
   rw[kM]at h
   split at h
   ·rename_i hh
    injection h with h
    subst h
    exact⟨by simp,dV hh⟩
   ·obtain⟨h1,h2⟩:=ih h
    exact⟨eC _ h1,h2⟩
theorem a7m(e:Ex):c0d e=rO e:=by cases e<;>rfl
theorem b1I{ih:qH}(hih:a3t P ih){E:List LEnv}{L:Nat}{args:List Value}{H H1:Heap}{v:Value}(hE:EOk P E H)(h:(a9x ih E L args H).Is v H1):xR P L args H v H1∧LK H H1:=by
 unfold a9x at h
 split at h
 case h_2=>exact absurd h Rs.ar
 rename_i en hen
 obtain⟨hmem,rfl⟩:=a8Y hen
 split at h
 case h_2=>exact absurd h Rs.ar
 rename_i p fn tmps ps a b d hg
 obtain⟨hlen,h⟩:=lG h
 rw[yM]at hlen
 have hlen:ps.size=args.length:=by simpa only[decide_eq_true_eq]using hlen
 obtain⟨k,hps,hsz,hpp,hpk,hla,hlb⟩:=(hE en hmem).2 _ hg
 have hsz:tmps.length=k:=by simpa using hsz
 rw[hps,fO]at h
 rcases a0n (no:=Rs.no) (l:=tmps) (i:=0) (m:=k) (f:=.e) (K:=fun f=>pC .no args en.pp f fun f=>sU ih E en (ih E en.a f H))with h1|⟨h1,f0,h2,h3⟩
 ·rw[h1]at h;exact absurd h Rs.ar
 rw[h2]at h
 have hf0:FRel k f0 tmps:=by
  refine⟨hsz,fun t=> ?_⟩
  rw[h3 t]
  by_cases ht:t<tmps.length
  ·rw[if_pos (by omega)];rfl
  ·rw[if_neg (by omega),uY,oL,dh,ew (by omega)];try rfl
 rw[hpp]at h
 obtain⟨f2,h4,hf2⟩:=wG (no:=Rs.no) (args:=args) (ps:=ps.toList) (K:=fun f=>sU ih E en (ih E en.a f H)) hf0 hpk (by simpa using hlen.symm)
 have h:(pC Rs.no args (List.map kS ps.toList) f0 fun f=>sU ih E en (ih E en.a f H)).Is v H1:=h
 rw[h4]at h
 cases hr1:ih E en.a f2 H with
 | no=>rw[hr1]at h;exact absurd h Rs.ar
 | ok e f3 H2=>
   rw[hr1]at h
   obtain⟨l3,hf3,hs1,hk1,_⟩:=hih E en.a k a f2 _ H e f3 H2 hla hf2 hE hr1
   cases e with
   | ret=>exact absurd h Rs.ar
   | exit id=>exact absurd h Rs.ar
   | normal=>
     have h:(zI ih E en f3 H2).Is v H1:=h
     unfold zI at h
     split at h
     case h_2=>exact absurd h Rs.ar
     rename_i p2 fn2 tmps2 ps2 a2 b2 d2 hg2
     rw[lX]at h
     obtain⟨r0,hr0,ea,eb,ep,et⟩:=hk1.2 en.L _ (hE en hmem).1 hg2
     rw[hg]at hr0
     injection hr0 with hr0
     injection hr0 with hr0
     subst hr0
     have ea':a2=a:=ea
     have eb':b2=b:=eb
     have ep':ps2=ps:=ep
     have et':tmps2=⟨tmps⟩:=et
     clear ea eb ep et
     subst ea' eb' ep' et'
     have hk2:LK H2 (hset H2 en.L (.loop ⟨.busy,p2,fn2,⟨tmps⟩,ps2,a2,b2,d2⟩)):=.loop hg2 ⟨rfl,rfl,rfl,rfl⟩
     cases hr2:ih E en.b f3 (hset H2 en.L (.loop ⟨.busy,p2,fn2,⟨tmps⟩,ps2,a2,b2,d2⟩))with
     | no=>rw[hr2]at h;exact absurd h Rs.ar
     | ok e f4 H3=>
       rw[hr2]at h
       obtain⟨l4,_,hs2,hk3,_⟩:=hih E en.b k b2 f3 _ _ e f4 H3 hlb hf3 (hE.ae (hk1.trans hk2)) hr2
       have h:(a2v en.L e H3).Is v H1:=h
       unfold a2v at h
       split at h
       case h_2=>exact absurd h Rs.ar
       rename_i st3 p3 fn3 tmps3 ps3 a3 b3 d3 hg3
       have fin:∀r',H1=hset H3 en.L (.loop r')→(r'={(⟨st3,p3,fn3,tmps3,ps3,a3,b3,d3⟩:Loop)with state:=if(rO e).isNone then .ready else .done,pending:=rO e})→v=.bool (rO e).isNone→xR P en.L args H v H1∧LK H H1:=by
        intro r' hH hr' hv
        refine⟨?_,hk1.trans (hk2.trans (hk3.trans (by rw[hH];exact .loop hg3 (by rw[hr'];exact⟨rfl,rfl,rfl,rfl⟩))))⟩
        have hW:=mT (P:=P) (args:=args) (K:=fun v' H'=>v'=v∧H'=H1) hg hlen rfl
         ⟨.normal,l3,H2,hs1,rfl,_,hg2,rfl,e,l4,H3,hs2,_,hg3,hv.symm,by rw[hH,hr']⟩
        obtain⟨v',H',h1,rfl,rfl⟩:=hW
        exact h1
       split at h
       ·rename_i hj
        obtain⟨rfl,rfl⟩:=Rs.aT h
        rw[a7m]at hj
        exact fin _ rfl (by rw[hj];rfl) (by rw[hj];rfl)
       ·rename_i c hj
        obtain⟨rfl,rfl⟩:=Rs.aT h
        rw[a7m]at hj
        exact fin _ rfl (by rw[hj];rfl) (by rw[hj];rfl)
theorem a3Z{T:LT}(hT:TOk P T){ih:qH}(hih:a3t P ih){E:List LEnv}{H0:Heap}(hE:EOk P E H0):CallsOk P (zW P T ih E) H0 where
 fn p f args H v H1 hk h hp:=b5V hT hih (hE.ae hk) hp h
 rd L args H v H1 hk h:=b1I hih (hE.ae hk) h
theorem c0W{α:Type}{f:Fr}{l:List Value}(hf:FAg f l)(i m:Nat)(K:List Value→α):frL f ((List.range' i m).map kS) K=K ((List.range' i m).map (get l)):=by
 induction m generalizing i K with
 | zero=>rfl
 | succ m ih=>
   have e:frL f ((List.range' i (m+1)).map kS) K=oJ (oB (kS i) f) fun v=>frL f ((List.range' (i+1) m).map kS) fun l=>K (v::l):=by
    rw[gK];rfl
   rw[e,mS,ih,hf i,gK];rfl
theorem b7H{α:Type}{k:Nat}{f:Fr}{l:List Value}(hf:FRel k f l)(K:List Value→α):frL f ((List.range k).map kS) K=K l:=by
 rw[fO,c0W hf.2,←fO]
 congr 1
 apply gC
 intro i
 rw[eS]
 by_cases hi:i<k
 ·rw[List.getElem?_range hi,dS,oL,dh]
  have:i<l.length:=by rw[hf.1];exact hi
  simp[dA this]
 ·rw[ew (by simp;omega),ew (by rw[hf.1];omega)];rfl
theorem b3g{T:LT}(hT:TOk P T){ih:qH}(hih:a3t P ih){E:List LEnv}{k:Nat}{g:Operand}{ps:Array Tmp}{assign body:Code}{A B:LCode}(hg:iU g=true)(hps:∀t∈ps.toList,t<k)(ha:Low P k assign A)(hb:Low P k body B)
 {x1 x2:Fr→Heap→Rc} {f:Fr} {l:List Value} {H:Heap} {e:Ex} {f1:Fr} {H1:Heap} (hf:FRel k f l) (hE:EOk P E H) (h:a9b T ih E (iY g) ((List.range k).map kS) (ps.toList.map kS) ps assign body A B x1 x2 f H=.ok e f1 H1):
 f1=f∧Sim P (.rangeFunc g ps assign body) l H e l H1∧LK H H1:=by
 unfold a9b at h
 rw[jV hf.2]at h
 split at h
 case h_2=>cases h
 rename_i j xa xb hgv
 rw[kA,b7H hf,lX,kA]at h
 unfold b1l at h
 rw[lL]at h
 generalize hH0:H.cons (.loop ⟨.ready,none,0,⟨l⟩,ps,assign,body,0⟩)=H0 at h
 have hl0:(⟨.ready,none,0,⟨l⟩,ps,assign,body,0⟩:Loop)=b0P l ps assign body:=rfl
 have hE0:EOk P (⟨H.length,(List.range k).map kS,ps.toList.map kS,A,B⟩::E) H0:=by
  intro en hen
  rcases eM.1 hen with rfl|hen
  ·refine⟨by rw[←hH0,length_cons];exact Nat.lt_succ_self _,fun r hr=> ?_⟩
   rw[←hH0,iS]at hr
   injection hr with hr
   injection hr with hr
   subst hr
   exact⟨k,rfl,by simpa using hf.1,rfl,hps,ha,hb⟩
  ·exact(hE.ae (by rw[←hH0];exact .cons _ _)) en hen
 have key:∀v H2,(oM T ih (⟨H.length,(List.range k).map kS,ps.toList.map kS,A,B⟩::E) (kS j) (a4Q xa (.func (.yield H.length) #[] #[]::xb)) H0).Is v H2→uG H.length f H2=.ok e f1 H1→f1=f∧Sim P (.rangeFunc g ps assign body) l H e l H1∧LK H H1:=by
  intro v H2 hc hr
  obtain⟨hfn,hk⟩:=zX hT hih hE0 rfl hc
  have hargs:a4Q xa (.func (.yield H.length) #[] #[]::xb)=xa++[.func (.yield H.length) #[] #[]]++xb:=by rw[yP];simp
  rw[hargs,←hH0,hl0]at hfn
  have fin:∀(r:Loop)(H3:Heap),iR H2 H.length=some (.loop r)→r.state≠.busy→H3=hset H2 H.length (.loop {r with state:=.exhausted})→(r.pending=none→e=.normal)→(∀c,r.pending=some c→(c=.ret∧e=.ret)∨∃id,c=.exit id∧e=.exit id)→f1=f→H1=H3→
   f1=f∧Sim P (.rangeFunc g ps assign body) l H e l H1∧LK H H1:=by
   intro r H3 hrl hnb hH3 hp0 hp1 he1 he2
   have hw:Wp P (.rangeFunc g ps assign body) l H (fun e' l' H'=>e'=e∧l'=l∧H'=H3):=by
    refine Wp.range (first:=xa) (captured:=xb) hg (by rw[hgv]) (hfn.mono ?_)
    rintro v' H'⟨rfl,rfl⟩
    refine⟨r,hrl,hnb,fun hp=>⟨(hp0 hp).symm,rfl,hH3.symm⟩,fun c hc=> ?_⟩
    rcases hp1 c hc with⟨rfl,he⟩|⟨id,rfl,he⟩
    ·exact Wp.ret ⟨he.symm,rfl,hH3.symm⟩
    ·exact Wp.exit ⟨he.symm,rfl,hH3.symm⟩
   obtain⟨e',l',H',hs,rfl,rfl,rfl⟩:=hw
   refine⟨he1,by rw[he2];exact hs,?_⟩
   rw[he2,hH3]
   have h1:LK H H0:=by rw[←hH0];exact .cons _ _
   exact h1.trans (hk.trans (.loop hrl ⟨rfl,rfl,rfl,rfl⟩))
  unfold uG at hr
  split at hr
  ·rename_i hg2
   rw[lX]at hr
   injection hr with h1 h2 h3
   exact fin _ _ hg2 (by simp) rfl (fun _=>h1.symm) (fun c hc=>by cases hc) h2.symm h3.symm
  ·rename_i hg2
   rw[lX]at hr
   injection hr with h1 h2 h3
   exact fin _ _ hg2 (by simp) rfl (fun _=>h1.symm) (fun c hc=>by cases hc) h2.symm h3.symm
  ·rename_i hg2
   rw[lX]at hr
   injection hr with h1 h2 h3
   exact fin _ _ hg2 (by simp) rfl (fun hc=>by cases hc) (fun c hc=>by injection hc with hc;subst hc;exact .inl ⟨rfl,h1.symm⟩) h2.symm h3.symm
  ·rename_i hg2
   rw[lX]at hr
   injection hr with h1 h2 h3
   exact fin _ _ hg2 (by simp) rfl (fun hc=>by cases hc) (fun c hc=>by injection hc with hc;subst hc;exact .inr ⟨_,rfl,h1.symm⟩) h2.symm h3.symm
  ·cases hr
 cases hc:oM T ih (⟨H.length,(List.range k).map kS,ps.toList.map kS,A,B⟩::E) (kS j) (a4Q xa (.func (.yield H.length) #[] #[]::xb)) H0 with
 | no=>rw[hc]at h;cases h
 | ok v H2=>rw[hc]at h;exact key v H2 (.inl hc) h
 | th v H2=>
   rw[hc]at h
   have h:nW H2 (fun H=>uG _ f H)=.ok e f1 H1:=h
   rw[lX]at h
   exact key v H2 (.inr hc) h
theorem c1t(kG:P.follows .mixedOrders=true){T:LT}(hT:TOk P T):∀n,a3t P (exF P T n):=by
 intro n
 induction n with
 | zero=>intro E C k c f l H e f1 H1 _ _ _ h;cases h
 | succ n ih=>
   intro E C k c f l H e f1 H1 hlow hf hE h
   have h:b1e P T (exF P T n) E C f H=.ok e f1 H1:=h
   have noloop:∀{c:Code},(∀b,c≠.loop b)→∀{l1:List Value},∀b,c=.loop b→∃n,Rounds P b n l H e l1 H1:=fun hne _ b hb=>absurd hb (hne b)
   cases hlow with
   | bad=>cases h
   | skip=>
     injection h with h1 h2 h3;subst h1 h2 h3
     exact⟨l,hf,.skip l H,.refl H,noloop (by intro b h;cases h)⟩
   | label t=>
     injection h with h1 h2 h3;subst h1 h2 h3
     exact⟨l,hf,.label t l H,.refl H,noloop (by intro b h;cases h)⟩
   | exit id=>
     injection h with h1 h2 h3;subst h1 h2 h3
     exact⟨l,hf,.exit id l H,.refl H,noloop (by intro b h;cases h)⟩
   | ret=>
     injection h with h1 h2 h3;subst h1 h2 h3
     exact⟨l,hf,.ret l H,.refl H,noloop (by intro b h;cases h)⟩
   | @reg id ops d lo hlo hd=>
     have h:c2A (yJ P (zW P T (exF P T n) E) lo f H)=.ok e f1 H1:=h
     cases hr:yJ P (zW P T (exF P T n) E) lo f H with
     | no=>rw[hr]at h;cases h
     | ok f2 H2=>
       rw[hr]at h
       injection h with h1 h2 h3;subst h1 h2 h3
       obtain⟨l1,hf1,hops,hk⟩:=b8q (a3Z hT ih hE) hlo (i:=0) rfl hf (.refl H) hr
       have hops:OpsR P ops (List.range ops.size) l H l1 H2:=by rw[fO];simpa using hops
       refine⟨l1,hf1,?_,hk,noloop (by intro b h;cases h)⟩
       cases d with
       | false=>exact .region hops
       | true=>exact .ca kG (hd rfl) hops
   | drw hlo ht hl=>
     obtain⟨l1,rfl,hf1,hs,hk⟩:=b8M kG (a3Z hT ih hE) hlo ht hl hf h
     exact⟨l1,hf1,hs,hk,noloop (by intro b h;cases h)⟩
   | @seq a b A B ha hb=>
     have h:b7u (exF P T n) E B (exF P T n E A f H)=.ok e f1 H1:=h
     cases hr:exF P T n E A f H with
     | no=>rw[hr]at h;cases h
     | ok e2 f2 H2=>
       rw[hr]at h
       obtain⟨l2,hf2,hs,hk,_⟩:=ih E A k a f l H e2 f2 H2 ha hf hE hr
       cases e2 with
       | normal=>
         obtain⟨l1,hf1,hs1,hk1,_⟩:=ih E B k b f2 l2 H2 e f1 H1 hb hf2 (hE.ae hk) h
         exact⟨l1,hf1,.seq hs hs1,hk.trans hk1,noloop (by intro b h;cases h)⟩
       | ret=>
         injection h with h1 h2 h3;subst h1 h2 h3
         exact⟨l2,hf2,.seq' hs (by intro h;cases h),hk,noloop (by intro b h;cases h)⟩
       | exit id=>
         injection h with h1 h2 h3;subst h1 h2 h3
         exact⟨l2,hf2,.seq' hs (by intro h;cases h),hk,noloop (by intro b h;cases h)⟩
   | @cond c x y X Y hc hx hy=>
     have h:b4Y (exF P T n) E (iY c) X Y (b1e P T (exF P T n) E X) (b1e P T (exF P T n) E Y) f H=.ok e f1 H1:=h
     unfold b4Y at h
     rw[jV hf.2]at h
     split at h
     ·rename_i t ht
      cases t with
      | true=>
        obtain⟨l1,hf1,hs,hk,_⟩:=ih E X k x f l H e f1 H1 hx hf hE h
        exact⟨l1,hf1,.cond ht hc hs,hk,noloop (by intro b h;cases h)⟩
      | false=>
        obtain⟨l1,hf1,hs,hk,_⟩:=ih E Y k y f l H e f1 H1 hy hf hE h
        exact⟨l1,hf1,.cond ht hc hs,hk,noloop (by intro b h;cases h)⟩
     ·cases h
   | @block id b B hb=>
     have h:c2p id (exF P T n E B f H)=.ok e f1 H1:=h
     cases hr:exF P T n E B f H with
     | no=>rw[hr]at h;cases h
     | ok e2 f2 H2=>
       rw[hr]at h
       obtain⟨l2,hf2,hs,hk,_⟩:=ih E B k b f l H e2 f2 H2 hb hf hE hr
       have hs':Sim P (.block id b) l H (e2.out id) l2 H2:=.block hs
       cases e2 with
       | normal=>injection h with h1 h2 h3;subst h1 h2 h3;exact⟨l2,hf2,hs',hk,noloop (by intro b h;cases h)⟩
       | ret=>injection h with h1 h2 h3;subst h1 h2 h3;exact⟨l2,hf2,hs',hk,noloop (by intro b h;cases h)⟩
       | exit i=>
         have h:Rc.ok (Bool.rec (motive:=fun _=>Ex) (.exit i) .normal (Nat.beq i id)) f2 H2=.ok e f1 H1:=h
         injection h with h1 h2 h3;subst h2 h3
         have:(Ex.exit i).out id=e:=by
          rw[←h1]
          by_cases hi:i=id
          ·subst hi;simp[Ex.out]
          ·have:Nat.beq i id=false:=gb.2 fun e=>hi (dV e)
           simp[Ex.out,hi,this]
         rw[this]at hs'
         exact⟨l2,hf2,hs',hk,noloop (by intro b h;cases h)⟩
   | @loop b B hb=>
     have h:b7u (exF P T n) E (.loop B) (exF P T n E B f H)=.ok e f1 H1:=h
     cases hr:exF P T n E B f H with
     | no=>rw[hr]at h;cases h
     | ok e2 f2 H2=>
       rw[hr]at h
       obtain⟨l2,hf2,hs,hk,_⟩:=ih E B k b f l H e2 f2 H2 hb hf hE hr
       have last:e2≠.normal→e2=e→f2=f1→H2=H1→∃l1,FRel k f1 l1∧Sim P (.loop b) l H e l1 H1∧LK H H1∧∀b',Code.loop b=.loop b'→∃n,Rounds P b' n l H e l1 H1:=by
        intro hne h1 h2 h3
        subst h1 h2 h3
        have hr:Rounds P b 1 l H e2 l2 H2:=.last hs hne
        exact⟨l2,hf2,.loop hr,hk,fun b' hb'=>by injection hb' with hb';subst hb';exact⟨1,hr⟩⟩
       cases e2 with
       | normal=>
         obtain⟨l1,hf1,hs1,hk1,hro⟩:=ih E (.loop B) k (.loop b) f2 l2 H2 e f1 H1 (.loop hb) hf2 (hE.ae hk) h
         obtain⟨m,hm⟩:=hro b rfl
         have hr:Rounds P b (m+1) l H e l1 H1:=.more hs hm
         exact⟨l1,hf1,.loop hr,hk.trans hk1,fun b' hb'=>by injection hb' with hb';subst hb';exact⟨_,hr⟩⟩
       | ret=>injection h with h1 h2 h3;exact last (by intro h;cases h) h1 h2 h3
       | exit id=>injection h with h1 h2 h3;exact last (by intro h;cases h) h1 h2 h3
   | range hg hps ha hb=>
     obtain⟨rfl,hs,hk⟩:=b3g (x1:=fun _ _=>.no) (x2:=fun _ _=>.no) hT ih hg hps ha hb hf hE h
     exact⟨l,hf,hs,hk,noloop (by intro b h;cases h)⟩
theorem xY{α:Type}(v:LFunc)(p:Pth)(f:LT)(K:LT→α):sC v p f K=K (sC v p f fun f=>f):=by
 induction p generalizing f α with
 | z=>cases f<;>rfl
 | l p ih=>
   cases f with
   | e=>
     show sC v p .e (fun l=>K (.n none l .e))=K (sC v p .e fun l=>.n none l .e)
     rw[ih,ih (K:=fun l=>LT.n none l .e)]
   | n w l r=>
     show sC v p l (fun l=>K (.n w l r))=K (sC v p l fun l=>.n w l r)
     rw[ih,ih (K:=fun l=>LT.n w l r)]
 | r p ih=>
   cases f with
   | e=>
     show sC v p .e (fun l=>K (.n none .e l))=K (sC v p .e fun l=>.n none .e l)
     rw[ih,ih (K:=fun l=>LT.n none .e l)]
   | n w l r=>
     show sC v p r (fun r=>K (.n w l r))=K (sC v p r fun r=>.n w l r)
     rw[ih,ih (K:=fun r=>LT.n w l r)]
theorem wR(p:Pth):a1X p .e=none:=by cases p<;>rfl
theorem b2D(v:LFunc)(p q:Pth)(f:LT){g:LFunc}(h:a1X q (sC v p f fun f=>f)=some g):(q=p∧g=v)∨a1X q f=some g:=by
 induction p generalizing f q with
 | z=>
   cases q with
   | z=>left;refine⟨rfl,?_⟩;cases f<;>(injection h with h;exact h.symm)
   | l q=>right;cases f with
     | e=>have h:a1X q .e=some g:=h
          rw[wR]at h;cases h
     | n=>exact h
   | r q=>right;cases f with
     | e=>have h:a1X q .e=some g:=h
          rw[wR]at h;cases h
     | n=>exact h
 | l p ih=>
   have h1:∀f,sC v (.l p) f (fun f=>f)=match f with|.e=>.n none (sC v p .e fun f=>f) .e|.n w l r=>.n w (sC v p l fun f=>f) r:=fun f=>by
    cases f with
    | e=>exact xY v p .e fun l=>LT.n none l .e
    | n w l r=>exact xY v p l fun l=>LT.n w l r
   rw[h1]at h
   cases q with
   | z=>right;cases f with
     | e=>exact h
     | n=>exact h
   | r q=>right;cases f with
     | e=>have h:a1X q .e=some g:=h
          rw[wR]at h;cases h
     | n=>exact h
   | l q=>
     cases f with
     | e=>
       rcases ih q .e h with⟨rfl,hq⟩|h
       ·exact .inl ⟨rfl,hq⟩
       ·rw[wR]at h;cases h
     | n w l r=>
       rcases ih q l h with⟨rfl,hq⟩|h
       ·exact .inl ⟨rfl,hq⟩
       ·exact .inr h
 | r p ih=>
   have h1:∀f,sC v (.r p) f (fun f=>f)=match f with|.e=>.n none .e (sC v p .e fun f=>f)|.n w l r=>.n w l (sC v p r fun f=>f):=fun f=>by
    cases f with
    | e=>exact xY v p .e fun l=>LT.n none .e l
    | n w l r=>exact xY v p r fun r=>LT.n w l r
   rw[h1]at h
   cases q with
   | z=>right;cases f with
     | e=>exact h
     | n=>exact h
   | l q=>right;cases f with
     | e=>have h:a1X q .e=some g:=h
          rw[wR]at h;cases h
     | n=>exact h
   | r q=>
     cases f with
     | e=>
       rcases ih q .e h with⟨rfl,hq⟩|h
       ·exact .inl ⟨rfl,hq⟩
       ·rw[wR]at h;cases h
     | n w l r=>
       rcases ih q r h with⟨rfl,hq⟩|h
       ·exact .inl ⟨rfl,hq⟩
       ·exact .inr h
theorem b2w{α:Type}(f:FuncId)(no:α)(K:LFunc→α):(∃g,FuncOk P f g∧a1t P f no K=K g)∨a1t P f no K=no:=by
 unfold a1t
 split
 ·rename_i fn hfn
  split
  ·rename_i c hb
   rw[kM]
   split
   ·exact .inr rfl
   ·rename_i hn
    rcases b5h (P:=P) fn.results.toList (fun res=>b2e fn.ntmps fun ps=>nB P fn.ntmps c fun b=>K ⟨ps,b,res⟩) no with⟨res,hres,h1⟩|h1
    ·rw[h1,b0v]
     obtain⟨C,hC,h2⟩:=b1o (P:=P) fn.ntmps c (fun b=>K ⟨(List.range fn.ntmps).map kS,b,res⟩)
     exact .inl ⟨⟨_,C,res⟩,⟨fn,c,hfn,hb,by simpa using hn,rfl,hC,hres⟩,h2⟩
    ·exact .inr h1
  ·exact .inr rfl
 ·exact .inr rfl
theorem b6s{α:Type}(fs:List FuncId)(T:LT)(hT:TOk P T)(K:LT→α):∃T',TOk P T'∧uB P fs T K=K T':=by
 induction fs generalizing T with
 | nil=>exact⟨T,hT,rfl⟩
 | cons f fs ih=>
   have e:uB P (f::fs) T K=a1t P f (uB P fs T K) fun g=>lQ (kS f) fun p=>sC g p T fun T=>uB P fs T K:=rfl
   rw[e]
   rcases b2w (P:=P) f (uB P fs T K) (fun g=>lQ (kS f) fun p=>sC g p T fun T=>uB P fs T K)with⟨g,hg,h⟩|h
   ·rw[h,lL,xY]
    refine ih _ fun f' g' h'=> ?_
    rcases b2D g (kS f) (kS f') T h' with⟨he,rfl⟩|h'
    ·rw[b0W he];exact hg
    ·exact hT f' g' h'
   ·rw[h];exact ih T hT
end Go.Ds
namespace Go.Ds
open Go.Proofs Go.Proofs.Tryz
def t64:List Nat:=[0,1,56,2,57,49,28,3,61,58,42,50,38,29,17,4,62,47,59,36,45,43,51,22,53,39,33,30,24,18,12,5,63,55,48,27,60,41,37,16,46,35,44,21,52,32,23,11,54,26,40,15,34,20,31,10,25,14,19,9,13,8,7,6]
def t32:List Nat:=[0,1,28,2,29,14,24,3,30,22,20,15,25,17,4,8,31,27,13,23,21,19,16,7,26,12,18,6,11,5,10,9]
noncomputable def gH:Heap:=((((((Heap.nil.cons (.cells (t64.map fun(n:Nat)=>Value.int .u8 (.ofNat n)) 5 false 0 1)).cons (.cells [] 3 false 0 1)).cons (.cells [] 282 false 0 1)).cons (.cells [] 282 false 0 1)).cons (.cells ([1,10,100,1000,10000,100000,1000000,10000000,100000000,1000000000,10000000000,100000000000,1000000000000,10000000000000,100000000000000,1000000000000000,10000000000000000,100000000000000000,1000000000000000000,10000000000000000000].map fun(n:Nat)=>Value.int .u64 (.ofNat n)) 39 false 0 1)).cons (.cells (t32.map fun(n:Nat)=>Value.int .u8 (.ofNat n)) 5 false 0 1))
theorem c4b:prog.follows .mixedOrders=true:=by kernel_rfl
def b2y:Nat→Nat→List UInt8→List UInt8
 | 0,_,acc=>acc
 | f+1,n,acc=>if n<10 then(48+n).toUInt8::acc else b2y f (n/10) ((48+n%10).toUInt8::acc)
def pB(n:Nat):ByteArray:=⟨(b2y 100 n []).toArray⟩
theorem a4H{b:ByteArray}{n:Nat}(h:b.data.toList=b2y 100 n []):b=pB n:=by
 cases b with|mk d=>cases d with|mk l=>simp only at h;subst h;rfl
def b0x(r:Rs)(n:Nat):Bool:=match r with
 | .ok (.string b) _=>decide (b.data.toList=b2y 100 n [])
 | .th (.string b) _=>decide (b.data.toList=b2y 100 n [])
 | _=>false
def b8o(v:Value)(n:Nat):Bool:=match v with
 | .tuple vs=>match vs.toList with
   | [.string b,.int .i64 m]=>decide (m=0)&&decide (b.data.toList=b2y 100 n [])
   | _=>false
 | _=>false
def b3Z(r:Rs)(n:Nat):Bool:=match r with
 | .ok v _=>b8o v n
 | .th v _=>b8o v n
 | _=>false
def b6J(r:Rs)(n:Int):Bool:=match r with
 | .ok (.int .i64 m) _=>decide (m=n)
 | .th (.int .i64 m) _=>decide (m=n)
 | _=>false
noncomputable def b9T (ps:List Nat):Bool:=uB prog [141,125,167,173,219,237,246,247,248,249,255,256,257,258,262] .e fun T=>ps.all fun x=>b0x (oM T (exF prog T 4000) [] (kS 125) [.int .i64 x] gH) x
def fsP:List Nat:=[141,235,215,217,160,124,167,234,251,205,206,169,170,171,172,176,250,259,212,213,214,216,218,194,220,232,233,236,227,246,247,248,249,255,256,257,258,262]
noncomputable def uH (ps:List Nat):Bool:=uB prog fsP .e fun T=>ps.all fun x=>b3Z (oM T (exF prog T 4000) [] (kS 124) [.string (pB x),.int .i64 24] gH) (x^24)
def fsM:List Nat:=[141,235,215,217,160,125,126,167,173,234,251,205,206,169,170,171,172,174,176,219,250,259,212,213,214,216,218,194,220,237,232,233,236,227,246,247,248,249,255,256,257,258,262]
noncomputable def mA (ps:List (Nat×Nat)):Bool:=uB prog fsM .e fun T=>ps.all fun x=>b0x (oM T (exF prog T 4000) [] (kS 126) [.string (pB x.1),.string (pB x.2)] gH) (x.1*x.2)
def sD(t:Nat×Nat):List (Nat×Nat):=(t.1^24,2)::(List.range t.2).map fun k=>(2*t.1^24*4^k,4)
def a6E(t:Nat×Nat×Nat):List (Nat×Nat):=(List.range (t.2.2+1)).map fun k=>(t.1^24,2*t.2.1^24*4^k)
def b5v(a b:Nat):Int:=if a<b then -1 else if b<a then 1 else 0
noncomputable def uL (ps:List (Nat×Nat)):Bool:=uB prog [127,175,176,177,194,220,221,227,238] .e fun T=>ps.all fun x=>b6J (oM T (exF prog T 4000) [] (kS 127) [.string (pB x.1),.string (pB x.2)] gH) (b5v x.1 x.2)
end Go.Ds
namespace Go.Ds
open Go.RowKit Go.Proofs
section
variable {P:Program} {ρ:Rho} {H:Heap} {w:World}
theorem a3B{name:String}{g:Nat}{k:IntKind}{zs:List Int}(hg:P.globalNamed name=some g)(ht:Lib.TabIs P w name k zs):∃t fr,w.heap[g]? =some (.cells (zs.map fun z=>Value.int k z).toArray t fr):=by
 unfold Lib.TabIs World.var? at ht
 rw[hg,dc]at ht
 split at ht
 ·rename_i cs t fr hb
  obtain rfl:=da ht
  exact⟨t,fr,hb⟩
 ·cases ht
theorem InW.cO(h:InW P ρ H w){name:String}{g:Nat}{k:IntKind}{zs:List Int}{ty:TypeId}(hg:P.globalNamed name=some g)(ht:Lib.TabIs P w name k zs)(hgH:g=H.length)(hty:iF P ty=some 1):
 InW P (ρ.put H.length (zs.map fun z=>Value.int k z).length ⟨g,0,zs.length,1⟩) (H.cons (.cells (zs.map fun z=>Value.int k z) ty false 0 1)) w:=by
 obtain⟨t,fr,hb⟩:=a3B hg ht
 refine(h.row ⟨g,0,zs.length,1⟩ hb (ty:=ty) hty (by simp) (zs.map fun z=>Value.int k z) 1 (fun _=>⟨hgH,rfl⟩) (by simp) fun i c hi _ hc=>⟨c,?_,?_⟩).1
 ·have:(⟨g,0,zs.length,1⟩:Place).at i=i:=by simp[Place.at]
  rw[this]
  simpa using hc
 ·rw[eS]at hc
  obtain⟨z,_,rfl⟩:=dq.1 hc
  exact .c0 (.flat rfl)
end
theorem c3y:∀A b,iR gH A=some b→∃cs ty lo,b=.cells cs ty false lo 1∧kH cs=true:=by
 intro A b h
 unfold gH at h
 have hn:∀(H:Heap)(c:Blk),iR (H.cons c) A=some b→(A=H.length∧b=c)∨iR H A=some b:=fun H c h=>by
  by_cases he:A=H.length
  ·subst he;rw[iS]at h;exact .inl ⟨rfl,(da h).symm⟩
  ·have hA:A<(H.cons c).length:=jI h
   rw[length_cons]at hA
   rw[jS _ (by omega)]at h
   exact .inr h
 rcases hn _ _ h with⟨_,rfl⟩|h
 ·exact⟨_,_,_,rfl,by kernel_rfl⟩
 rcases hn _ _ h with⟨_,rfl⟩|h
 ·exact⟨_,_,_,rfl,by kernel_rfl⟩
 rcases hn _ _ h with⟨_,rfl⟩|h
 ·exact⟨_,_,_,rfl,by kernel_rfl⟩
 rcases hn _ _ h with⟨_,rfl⟩|h
 ·exact⟨_,_,_,rfl,by kernel_rfl⟩
 rcases hn _ _ h with⟨_,rfl⟩|h
 ·exact⟨_,_,_,rfl,by kernel_rfl⟩
 rcases hn _ _ h with⟨_,rfl⟩|h
 ·exact⟨_,_,_,rfl,by kernel_rfl⟩
 ·have:A<0:=jI h
  omega
theorem ExtW.glob{ρ ρ':Rho}{H':Heap}(h:ExtW ρ gH ρ' H'):Glob gH H':=⟨h.len,fun A hA=>h.old A hA,c3y⟩
def p10:List Int:=[1,10,100,1000,10000,100000,1000000,10000000,100000000,1000000000,10000000000,100000000000,1000000000000,10000000000000,100000000000000,1000000000000000,10000000000000000,100000000000000000,1000000000000000000,10000000000000000000]
theorem g64:Tryz.prog.globalNamed "math/bits.deBruijn64tab" =some 0:=by kernel_rfl
theorem g10:Tryz.prog.globalNamed "internal/strconv.uint64pow10" =some 4:=by kernel_rfl
theorem g32:Tryz.prog.globalNamed "math/bits.deBruijn32tab" =some 5:=by kernel_rfl
theorem b6U{w:World}(h64:Lib.TabIs Tryz.prog w "math/bits.deBruijn64tab" .u8 (t64.map Int.ofNat))(h10:Lib.TabIs Tryz.prog w "internal/strconv.uint64pow10" .u64 p10)
 (h32:Lib.TabIs Tryz.prog w "math/bits.deBruijn32tab" .u8 (t32.map Int.ofNat)) (h1001:∃cs t fr,w.heap[1]? =some (.cells cs t fr)) (h1002:∃cs t fr,w.heap[2]? =some (.cells cs t fr)) (h1003:∃cs t fr,w.heap[3]? =some (.cells cs t fr)):∃ρ,InW Tryz.prog ρ gH w:=by
 have a0:=(InW.none (P:=Tryz.prog) w).cO g64 h64 (ty:=5) rfl (by kernel_rfl)
 obtain⟨cs1,t1,fr1,hb1⟩:=h1001
 have a1:=(a0.row ⟨1,0,cs1.size,1⟩ hb1 (ty:=3) (by kernel_rfl) rfl [] 1 (fun _=>⟨rfl,rfl⟩) (by simp) (fun i c hi=>by simp at hi)).1
 obtain⟨cs2,t2,fr2,hb2⟩:=h1002
 have a2:=(a1.row ⟨2,0,cs2.size,1⟩ hb2 (ty:=282) (by kernel_rfl) rfl [] 1 (fun _=>⟨rfl,rfl⟩) (by simp) (fun i c hi=>by simp at hi)).1
 obtain⟨cs3,t3,fr3,hb3⟩:=h1003
 have a3:=(a2.row ⟨3,0,cs3.size,1⟩ hb3 (ty:=282) (by kernel_rfl) rfl [] 1 (fun _=>⟨rfl,rfl⟩) (by simp) (fun i c hi=>by simp at hi)).1
 have a4:=a3.cO g10 h10 (ty:=39) rfl (by kernel_rfl)
 have a5:=a4.cO g32 h32 (ty:=5) rfl (by kernel_rfl)
 exact⟨_,a5⟩
end Go.Ds
namespace Go.Ds
noncomputable section
variable {P:Program} {H0:Base} {H:Heap} {os:List Ob} {κ β:Type} [DecidableEq κ] {enc:κ→Value} {f:β→Value} {t:TypeId} {z:Value}
structure MapK(P:Program)(t:TypeId){κ:Type}[DecidableEq κ](enc:κ→Value)(z:Value):Prop where
 ex:∃kt et,xT P t=some (kt,et)∧jA P et=some z∧jD z=true∧(∀b k,xW P b kt (enc k)=true)∧
  (∀k(es:List MapEntry)(ks:List κ),es.map (·.key)=ks.map enc→rN P kt (enc k) es=some (ks.findIdx? fun x=>decide (x=k)))∧∀k,Instr.sameBits 10000 (enc k) (enc k)=true
def kcs(enc:κ→Value)(f:β→Value)(kvs:List (κ×β)):List Value:=kvs.flatMap fun p=>[enc p.1,f p.2]
def a1I(kvs:List (κ×β))(k:κ):Option β:=(kvs.find? fun p=>decide (p.1=k)).map (·.2)
def a5a(kvs:List (κ×β))(k:κ)(v:β):List (κ×β):=match kvs.findIdx? (fun p=>decide (p.1=k))with
 | some j=>kvs.set j (k,v)
 | none=>kvs++[(k,v)]
theorem a5e:∀(es:List MapEntry)(kvs:List (κ×β)),kcs enc f kvs=mcs es→es.map (·.key)=kvs.map (fun p=>enc p.1)∧es.map (·.val)=kvs.map (fun p=>f p.2)
 | [],[],_=>⟨rfl,rfl⟩
 | [],p::kvs,h=>by simp[kcs,mcs]at h
 | e::es,[],h=>by simp[kcs,mcs]at h
 | e::es,p::kvs,h=>by
   simp only[kcs,mcs,dM,gn,fp,fZ]at h
   obtain⟨h1,h2,h3⟩:=h
   obtain⟨h4,h5⟩:=a5e es kvs h3
   simp only[dU]
   exact⟨by rw[h4,h1],by rw[h5,h2]⟩
theorem a8v:∀(es:List MapEntry)(kvs:List (κ×β)),es.map (·.key)=kvs.map (fun p=>enc p.1)→es.map (·.val)=kvs.map (fun p=>f p.2)→kcs enc f kvs=mcs es
 | [],[],_,_=>rfl
 | [],p::kvs,h,_=>by simp at h
 | e::es,[],h,_=>by simp at h
 | e::es,p::kvs,h,h'=>by
   simp only[dU,fZ]at h h'
   have:=a8v es kvs h.2 h'.2
   simp only[kcs,mcs,dM]at this ⊢
   rw[this,h.1,h'.1]
theorem St.cb(hS:St P H0 H os)(i:Nat){A:Nat}{cs:List Value}(ho:os[i]? =some ⟨.map (some A),0,cs⟩):∃es ck ver,iR H A=some (.map es ck ver)∧cs=mcs es∧Stamps es ck:=by
 have:=hS.own _ (dW ho)
 unfold OwnAt at this
 rw[if_pos rfl]at this
 rcases this with⟨_,_,_,_,_,_,h⟩|⟨A',es,ck,ver,h1,h2,h3,h4⟩
 ·cases h
 ·simp only[Value.map.injEq,dF]at h3
  subst h3
  exact⟨es,ck,ver,h1,h2,h4⟩
theorem b0I(kvs:List (κ×β))(k:κ):(∃j x,(kvs.map (·.1)).findIdx? (fun x=>decide (x=k))=some j∧kvs[j]? =some x∧kvs.find? (fun p=>decide (p.1=k))=some x)∨((kvs.map (·.1)).findIdx? (fun x=>decide (x=k))=none∧kvs.find? (fun p=>decide (p.1=k))=none):=by
 induction kvs with
 | nil=>exact .inr ⟨rfl,rfl⟩
 | cons p kvs ih=>
   by_cases h:p.1=k
   ·exact .inl ⟨0,p,by simp[ff,h],rfl,by simp[h]⟩
   ·rcases ih with⟨j,x,h1,h2,h3⟩|⟨h1,h2⟩
    ·exact .inl ⟨j+1,x,by simp[ff,h,h1],by simpa using h2,by simp[h,h3]⟩
    ·exact .inr ⟨by simp[ff,h,h1],by simp[h,h2]⟩
theorem St.cX(hS:St P H0 H os)(i:Nat){A:Nat}{kvs:List (κ×β)}(ho:os[i]? =some ⟨.map (some A),0,kcs enc f kvs⟩)(hk:MapK P t enc z)(hf:∀b,mY (f b)=true)(c:Bool)(k:κ):
 pL P H t (.map (some A)) (enc k) c=some (pairV c (((a1I kvs k).map f).getD z) (a1I kvs k).isSome):=by
 obtain⟨kt,et,h1,h2,h3,h4,h5,h6⟩:=hk.ex
 obtain⟨es,ck,ver,h7,h8,_⟩:=hS.cb i ho
 obtain⟨h9,h10⟩:=a5e es kvs h8
 have hi:=h5 k es (kvs.map (·.1)) (by rw[h9];simp[ik])
 simp only[pL,h1,dc,a2M,h7,h4,if_true,hi,a1I]
 rcases b0I kvs k with⟨j,x,e1,e2,e3⟩|⟨e1,e3⟩
 ·have hj:es[j]?.map (·.val)=some (f x.2):=by
   rw[←eS,h10,eS,e2];rfl
  cases he:es[j]? with
  | none=>rw[he]at hj;simp at hj
  | some e=>
    rw[he]at hj
    simp only[dS,dF]at hj
    simp only[e1,he,dc,hj,hf,if_true,e3,dS,fi,Option.isSome_some]
 ·simp only[e1,e3,Option.map_none,Option.getD_none,Option.isSome_none,h2,dc,h3,if_true]
def a6L(P:Program)(H:Heap)(t:TypeId)(x k:Value)(c:Bool)(K:Value→Prop)(_k:Keep K:=⟨⟩):Prop:=∃v,pL P H t x k c=some v∧K v
theorem a5M{t:TypeId}{x x' k k':Value}{c:Bool}{K:Value→Prop}(h:x=x')(h2:k=k'):a6L P H t x k c K=a6L P H t x' k' c K:=by rw[h,h2]
attribute [congr] a5M
theorem a8O(d ty pos af g)(t:TypeId)(x k:Operand)(c:Bool)(l:List Value)(K:Value→Heap→Prop):
 lW P ⟨d,.lookup t x k c,ty,pos,af,g⟩ l H K=jN x l fun x=>jN k l fun k=>a6L P H t x k c fun v=>K v H:=by
 have h2:jZ ((pL P H t (ev l x) (ev l k) c).map fun v=>(v,H)) K=∃v,pL P H t (ev l x) (ev l k) c=some v∧K v H:=by
  cases pL P H t (ev l x) (ev l k) c<;>simp[jZ]
 simp only[lW,opD,jN,Op.operands,a6L,h2]
 simp[and_assoc]
theorem St.bP(hS:St P H0 H os)(i:Nat){A:Nat}{kvs:List (κ×β)}(ho:os[i]? =some ⟨.map (some A),0,kcs enc f kvs⟩)(hk:MapK P t enc z)(hf:∀b,mY (f b)=true){c:Bool}{k:κ}{K:Value→Prop}
 (h:K (pairV c (((a1I kvs k).map f).getD z) (a1I kvs k).isSome)):a6L P H t (.map (some A)) (enc k) c K:=⟨_,hS.cX i ho hk hf c k,h⟩
def a4Z(P:Program)(H:Heap)(t:TypeId)(K:Value→Heap→Prop)(_k:Keep K:=⟨⟩):Prop:=∃v H1,pS P H t none=some (v,H1)∧K v H1
theorem a6X(d ty pos af g)(t:TypeId)(l:List Value)(K:Value→Heap→Prop):lW P ⟨d,.makeMap t none,ty,pos,af,g⟩ l H K=a4Z P H t K:=by
 simp only[lW,opD,Op.operands,a4Z,mU]
 simp
theorem St.bV(hS:St P H0 H os)(hk:MapK P t enc z){K:Value→Heap→Prop}(h:∀A H1,St P H0 H1 (os++[⟨.map (some A),0,[]⟩])→K (.map (some A)) H1):a4Z P H t K:=by
 obtain⟨kt,et,h1,_⟩:=hk.ex
 refine⟨.map (some H.length),H.cons (.map [] 0 0),by simp[pS,h1],h _ _ (hS.add ?_ ?_ ?_ ?_)⟩
 ·unfold OwnAt
  rw[if_pos rfl]
  exact .inr ⟨_,[],0,0,iS H _,rfl,rfl,.nil 0⟩
 ·simp[pJ]
 ·exact fun B hB=>jS _ hB
 ·intro B hB
  simp[kJ]at hB
  omega
def b6d(P:Program)(H:Heap)(t:TypeId)(m k v:Value)(K:Heap→Prop)(_k:Keep K:=⟨⟩):Prop:=∃H1,a0V P H t m k v=some H1∧K H1
theorem a8k{t:TypeId}{m m' k k' v v':Value}{K:Heap→Prop}(h:m=m')(h2:k=k')(h3:v=v'):b6d P H t m k v K=b6d P H t m' k' v' K:=by rw[h,h2,h3]
attribute [congr] a8k
theorem a2P(d ty pos af g)(t:TypeId)(m k v:Operand)(l:List Value)(K:Value→Heap→Prop):
 lW P ⟨d,.mapUpdate t m k v,ty,pos,af,g⟩ l H K=jN m l fun m=>jN k l fun k=>jN v l fun v=>b6d P H t m k v fun H1=>K undef H1:=by
 have h2:jZ ((a0V P H t (ev l m) (ev l k) (ev l v)).map fun H=>(undef,H)) K=∃H1,a0V P H t (ev l m) (ev l k) (ev l v)=some H1∧K undef H1:=by
  cases a0V P H t (ev l m) (ev l k) (ev l v)<;>simp[jZ]
 simp only[lW,opD,jN,Op.operands,b6d,h2]
 simp[and_assoc]
theorem b1a(kvs:List (κ×β))(k:κ)(v:β):a5a kvs k v=match (kvs.map (·.1)).findIdx? (fun x=>decide (x=k))with|some j=>kvs.set j (k,v)|none=>kvs++[(k,v)]:=by
 unfold a5a
 rw[List.findIdx?_map]
 rfl
theorem St.cm(hS:St P H0 H os)(i:Nat){A:Nat}{kvs:List (κ×β)}(ho:os[i]? =some ⟨.map (some A),0,kcs enc f kvs⟩)(hk:MapK P t enc z){k:κ}{v:β}{K:Heap→Prop}
 (h:∀H1,St P H0 H1 (os.set i ⟨.map (some A),0,kcs enc f (a5a kvs k v)⟩)→K H1):b6d P H t (.map (some A)) (enc k) (f v) K:=by
 obtain⟨kt,et,h1,h2,h3,h4,h5,h6⟩:=hk.ex
 obtain⟨es,ck,ver,h7,h8,hst⟩:=hS.cb i ho
 obtain⟨h9,h10⟩:=a5e es kvs h8
 have hi:=h5 k es (kvs.map (·.1)) (by rw[h9];simp[ik])
 have fin:∀es' ck',mcs es'=kcs enc f (a5a kvs k v)→Stamps es' ck'→St P H0 (hset H A (.map es' ck' (ver+1))) (os.set i ⟨.map (some A),0,kcs enc f (a5a kvs k v)⟩):=by
  intro es' ck' he hst'
  refine hS.put i ho ?_ ?_ ?_ ?_
  ·unfold OwnAt
   rw[if_pos rfl]
   exact .inr ⟨A,es',ck',_,iW _ (jI h7),he.symm,rfl,hst'⟩
  ·rw[jE];exact dj _
  ·intro B hB hne
   exact sK fun hh=>hne (by simp[kJ,hh])
  ·exact fun B hB=>.inl hB
 rcases b0I kvs k with⟨j,x,e1,e2,_⟩|⟨e1,_⟩
 ·have hj:es[j]?.map (·.key)=some (enc x.1):=by
   rw[←eS,h9,eS,e2];rfl
  have hx:x.1=k:=by
   have:=List.findIdx?_eq_some_iff_getElem.1 e1
   obtain⟨hlt,hd,_⟩:=this
   have hlt':j<kvs.length:=by simpa using hlt
   have:kvs[j]=x:=by
    rw[dA hlt']at e2
    exact da e2
   simp[this]at hd
   exact hd
  cases he:es[j]? with
  | none=>rw[he]at hj;simp at hj
  | some e=>
    rw[he]at hj
    simp only[dS,dF]at hj
    refine⟨hset H A (.map (es.set j {e with key:=enc k,val:=f v}) ck (ver+1)),?_,h _ (fin _ _ ?_ (hst.set he _ rfl))⟩
    ·have hsb:Instr.sameBits 10000 e.key (enc k)=true:=by rw[hj,hx];exact h6 k
     simp only[a0V,h1,dc,h7,h4,if_true,hi,e1,he,hsb]
    ·symm
     rw[b1a,e1]
     refine a8v _ _ ?_ ?_
     ·rw[gq,gq,h9]
     ·rw[gq,gq,h10]
 ·refine⟨hset H A (.map (es++[{key:=enc k,val:=f v,born:=ck}]) (ck+1) (ver+1)),?_,h _ (fin _ _ ?_ (hst.push _ rfl))⟩
  ·simp only[a0V,h1,dc,h7,h4,if_true,hi,e1]
  ·symm
   rw[b1a,e1]
   refine a8v _ _ ?_ ?_
   ·rw[dO,dO,h9];rfl
   ·rw[dO,dO,h10];rfl
def b8O(P:Program)(H:Heap)(t:TypeId)(m k:Value)(K:Value→Heap→Prop)(_k:Keep K:=⟨⟩):Prop:=∃v H1,tB P H t m k=some (v,H1)∧K v H1
theorem a9u{t:TypeId}{m m' k k':Value}{K:Value→Heap→Prop}(h:m=m')(h2:k=k'):b8O P H t m k K=b8O P H t m' k' K:=by rw[h,h2]
attribute [congr] a9u
def b0K(H:Heap)(m b v:Value)(K:Heap→Prop)(_k:Keep K:=⟨⟩):Prop:=∃H1,rQ H m b v=some H1∧K H1
theorem a7A{m m' b b' v v':Value}{K:Heap→Prop}(h:m=m')(h2:b=b')(h3:v=v'):b0K H m b v K=b0K H m' b' v' K:=by rw[h,h2,h3]
attribute [congr] a7A
theorem a5q(d ty pos af g)(t:TypeId)(m k:Operand)(l:List Value)(K:Value→Heap→Prop):
 lW P ⟨d,.mapEntry t m k,ty,pos,af,g⟩ l H K=jN m l fun m=>jN k l fun k=>b8O P H t m k K:=by
 have h2:jZ (tB P H t (ev l m) (ev l k)) K=∃v H1,tB P H t (ev l m) (ev l k)=some (v,H1)∧K v H1:=mU ..
 simp only[lW,opD,jN,Op.operands,b8O,h2]
 simp[and_assoc]
theorem a1A(d ty pos af g)(t:TypeId)(m b v:Operand)(l:List Value)(K:Value→Heap→Prop):
 lW P ⟨d,.entryStore t m b v,ty,pos,af,g⟩ l H K=jN m l fun m=>jN b l fun b=>jN v l fun v=>b0K H m b v fun H1=>K undef H1:=by
 have h2:jZ ((rQ H (ev l m) (ev l b) (ev l v)).map fun H=>(undef,H)) K=∃H1,rQ H (ev l m) (ev l b) (ev l v)=some H1∧K undef H1:=by
  cases rQ H (ev l m) (ev l b) (ev l v)<;>simp[jZ]
 simp only[lW,opD,jN,Op.operands,b0K,h2]
 simp[and_assoc]
theorem a2j(kvs:List (κ×β))(k k':κ)(v:β):a1I (a5a kvs k v) k'=if k'=k then some v else a1I kvs k':=by
 unfold a1I a5a
 induction kvs with
 | nil=>
   by_cases h:k'=k
   ·simp[h]
   ·simp[h,eG h]
 | cons p kvs ih=>
   by_cases hp:p.1=k
   ·simp only[ff,hp,decide_true,if_true,fw,List.find?_cons]
    by_cases h:k'=k
    ·simp[h]
    ·simp[h,eG h]
   ·have hd:decide (p.1=k)=false:=by simp[hp]
    simp only[ff,hd,dR,if_false]
    by_cases hq:p.1=k'
    ·have hne:¬k'=k:=fun e=>hp (hq.trans e)
     cases hh:kvs.findIdx? (fun p=>decide (p.1=k))with
     | none=>simp[hq,hne]
     | some j=>simp[hq,hne]
    ·cases hh:kvs.findIdx? (fun p=>decide (p.1=k))with
     | none=>
       rw[hh]at ih
       simpa [hq,List.find?_cons]using ih
     | some j=>
       rw[hh]at ih
       simpa [hq,List.find?_cons]using ih
end
end Go.Ds
namespace Go.Ds
noncomputable section
variable {P:Program} {H:Heap}
theorem kL{α:Type}(P:Program)(x:α):iQ P (pure x)=some x:=rfl
theorem jX{t:TypeId}{d:TypeDesc}(h:P.underlying t=some d):iQ P (underlying t)=some d:=by
 unfold underlying
 rw[iN]
 have:iQ P program=some P:=rfl
 rw[this,dc,h]
 rfl
def lH:Operand→Bool
 | .const _=>true
 | _=>false
def oT(c:Bool)(i:Nat)(v:Value):Operand:=if c then .const v else .tmp i
def kR(P:Program)(op:BinOp)(t t2:TypeId)(cx cy:Bool)(x y:Value):Option Value:=(opD P ⟨none,.binOp op t (oT cx 0 x) (oT cy 1 y) t2,t,"",#[],none⟩ [x,y] .nil).map (·.1)
def lE(P:Program)(op:BinOp)(t t2:TypeId)(cx cy:Bool)(x y:Value)(K:Value→Prop)(_k:Keep K:=⟨⟩):Prop:=match x,y with
 | .int k a,.int k' b=>(match (if k=k' then mR op k a b else none)with|some v=>K v|none=>jY (kR P op t t2 cx cy (.int k a) (.int k' b)) K)
 | x,y=>jY (kR P op t t2 cx cy x y) K
theorem a6F{op:BinOp}{t t2:TypeId}{cx cy:Bool}{x x' y y':Value}{K:Value→Prop}(h:x=x')(h2:y=y'):lE P op t t2 cx cy x y K=lE P op t t2 cx cy x' y' K:=by rw[h,h2]
attribute [congr] a6F
theorem a8U(x:Operand)(l m:List Value):ev (ev l x::m) (oT (lH x) 0 (ev l x))=ev l x:=by cases x<;>rfl
theorem a9V(x:Operand)(l m:List Value)(a:Value):ev (a::ev l x::m) (oT (lH x) 1 (ev l x))=ev l x:=by cases x<;>rfl
theorem b4j(op:BinOp)(t:TypeId)(x y:Operand)(l:List Value):eqGuard op t x y (ev l x) (ev l y)=eqGuard op t (oT (lH x) 0 (ev l x)) (oT (lH y) 1 (ev l y)) (ev l x) (ev l y):=by
 generalize hx:ev l x=vx
 generalize hy:ev l y=vy
 cases x<;>cases y<;>rfl
theorem b7W(d ty pos af g)(op:BinOp)(t:TypeId)(x y:Operand)(t2:TypeId)(l:List Value)(H:Heap):
 opD P ⟨d,.binOp op t x y t2,ty,pos,af,g⟩ l H=(kR P op t t2 (lH x) (lH y) (ev l x) (ev l y)).map fun v=>(v,H):=by
 have hp:kK P ⟨d,.binOp op t x y t2,ty,pos,af,g⟩ l H=_:=mZ (P:=P) ⟨d,.binOp op t x y t2,ty,pos,af,g⟩ ⟨none,.binOp op t (oT (lH x) 0 (ev l x)) (oT (lH y) 1 (ev l y)) t2,t,"",#[],none⟩ l [ev l x,ev l y] H
  (by simp only[Op.operands,dU,fq,a8U,a9V]) (by
    simp only[execOp]
    rw[a8U,a9V,←b4j])
 simp only[opD,kR,hp,a8U,a9V]
 generalize kK P _ _ _=r
 generalize ev l x=vx
 generalize ev l y=vy
 split
 all_goals first
  | (split<;>first|rfl|(split<;>first|rfl|(cases r<;>rfl))|(cases r<;>rfl))
  | (cases r<;>rfl)
theorem b4t(d ty pos af g)(op:BinOp)(t:TypeId)(x y:Operand)(t2:TypeId)(l:List Value)(K:Value→Heap→Prop):
 lW P ⟨d,.binOp op t x y t2,ty,pos,af,g⟩ l H K=jN x l fun x'=>jN y l fun y'=>lE P op t t2 (lH x) (lH y) x' y' fun v=>K v H:=by
 have h:jZ (opD P ⟨d,.binOp op t x y t2,ty,pos,af,g⟩ l H) K=lE P op t t2 (lH x) (lH y) (ev l x) (ev l y) fun v=>K v H:=by
  have key:jZ ((kR P op t t2 (lH x) (lH y) (ev l x) (ev l y)).map fun v=>(v,H)) K=jY (kR P op t t2 (lH x) (lH y) (ev l x) (ev l y)) fun v=>K v H:=by
   cases kR P op t t2 (lH x) (lH y) (ev l x) (ev l y)<;>rfl
  rw[b7W,key]
  unfold lE
  split
  ·rename_i k a k' b hx hy
   split
   ·rename_i v hv
    split at hv
    ·rename_i hk
     subst hk
     have:kR P op t t2 (lH x) (lH y) (.int k a) (.int k b)=some v:=by
      have h1:∀m,ev ((.int k a:Value)::m) (oT (lH x) 0 (.int k a))=.int k a:=fun m=>by cases lH x<;>rfl
      have h2:∀m c,ev (c::(.int k b:Value)::m) (oT (lH y) 1 (.int k b))=.int k b:=fun m c=>by cases lH y<;>rfl
      cases op<;>simp only[mR]at hv<;>first|(cases hv;done)|(simp only[kR,opD,h1,h2,mR,if_true,hv];rfl)
     rw[hx,hy,this]
     rfl
    ·cases hv
   ·rw[hx,hy]
  ·rfl
 simp only[lW,h,jN,Op.operands]
 simp[and_assoc]
theorem mC(op:BinOp)(t t2:TypeId)(cx cy:Bool)(k:IntKind)(a b:Int){v:Value}(K:Value→Prop)(h:mR op k a b=some v):lE P op t t2 cx cy (.int k a) (.int k b) K=oI v K:=by
 simp[lE,h,oI]
section
theorem b2j(t t2:TypeId)(cx cy:Bool)(k:IntKind)(a b:Int)(K:Value→Prop):lE P .add t t2 cx cy (.int k a) (.int k b) K=oI (.int k (k.wrap (a+b))) K:=mC _ _ _ _ _ _ _ _ _ (by simp[mR,b0q,uZ])
theorem b1v(t t2:TypeId)(cx cy:Bool)(k:IntKind)(a b:Int)(K:Value→Prop):lE P .sub t t2 cx cy (.int k a) (.int k b) K=oI (.int k (k.wrap (a-b))) K:=mC _ _ _ _ _ _ _ _ _ (by simp[mR,b0L,uZ])
theorem b2B(t t2:TypeId)(cx cy:Bool)(k:IntKind)(a b:Int)(K:Value→Prop):lE P .mul t t2 cx cy (.int k a) (.int k b) K=oI (.int k (k.wrap (a*b))) K:=mC _ _ _ _ _ _ _ _ _ (by simp[mR,uZ])
theorem b2k(t t2:TypeId)(cx cy:Bool)(k:IntKind)(a b:Int)(K:Value→Prop):lE P .eql t t2 cx cy (.int k a) (.int k b) K=oI (.bool (decide (a=b))) K:=mC _ _ _ _ _ _ _ _ _ (by simp[mR,a2b];rfl)
theorem b2p(t t2:TypeId)(cx cy:Bool)(k:IntKind)(a b:Int)(K:Value→Prop):lE P .neq t t2 cx cy (.int k a) (.int k b) K=oI (.bool (decide (¬a=b))) K:=mC _ _ _ _ _ _ _ _ _ (by simp[mR,a2b];rfl)
theorem b1M(t t2:TypeId)(cx cy:Bool)(k:IntKind)(a b:Int)(K:Value→Prop):lE P .lss t t2 cx cy (.int k a) (.int k b) K=oI (.bool (decide (a<b))) K:=mC _ _ _ _ _ _ _ _ _ (by simp[mR,zT])
theorem b1T(t t2:TypeId)(cx cy:Bool)(k:IntKind)(a b:Int)(K:Value→Prop):lE P .leq t t2 cx cy (.int k a) (.int k b) K=oI (.bool (decide (a≤b))) K:=mC _ _ _ _ _ _ _ _ _ (by simp[mR,zT,←Int.not_lt])
theorem b1F(t t2:TypeId)(cx cy:Bool)(k:IntKind)(a b:Int)(K:Value→Prop):lE P .gtr t t2 cx cy (.int k a) (.int k b) K=oI (.bool (decide (b<a))) K:=mC _ _ _ _ _ _ _ _ _ (by simp[mR,zT])
theorem b3e(t t2:TypeId)(cx cy:Bool)(k:IntKind)(a b:Int)(K:Value→Prop):lE P .geq t t2 cx cy (.int k a) (.int k b) K=oI (.bool (decide (b≤a))) K:=mC _ _ _ _ _ _ _ _ _ (by simp[mR,zT,←Int.not_lt])
theorem b2Q(t t2:TypeId)(cx cy:Bool)(k:IntKind)(a b:Int)(K:Value→Prop)(hb:b≠0):lE P .rem t t2 cx cy (.int k a) (.int k b) K=oI (.int k (a.tmod b)) K:=mC _ _ _ _ _ _ _ _ _ (by
 have:(b==0)=false:=by simp[hb]
 simp[mR,a2b,this])
theorem b3f(t t2:TypeId)(cx cy:Bool)(k:IntKind)(a b:Int)(K:Value→Prop)(hb:b≠0):lE P .quo t t2 cx cy (.int k a) (.int k b) K=oI (.int k (k.wrap (a.tdiv b))) K:=mC _ _ _ _ _ _ _ _ _ (by
 have:(b==0)=false:=by simp[hb]
 simp[mR,a2b,uZ,this])
end
theorem lN{op:BinOp}{t t2:TypeId}{cx cy:Bool}{x y v:Value}(hx:flat x=true)(hy:flat y=true)(hg:iQ P (eqGuard op t (oT cx 0 x) (oT cy 1 y) x y)=some ())
 (hv:iQ P (binOp op t x y)=some v) (hf:flat v=true) (hs:∀a n c,x≠.slice (some a) n c) (hp:∀a,x≠.pointer (some a)) (hi:∀k a b,x=.int k a→y=.int k b→mR op k a b=none):kR P op t t2 cx cy x y=some v:=by
 have h1:∀m,ev (x::m) (oT cx 0 x)=x:=fun m=>by cases cx<;>rfl
 have h2:∀m c,ev (c::y::m) (oT cy 1 y)=y:=fun m c=>by cases cy<;>rfl
 have hpl:kK P ⟨none,.binOp op t (oT cx 0 x) (oT cy 1 y) t2,t,"",#[],none⟩ [x,y] .nil=some (v,.nil):=by
  unfold kK
  rw[if_pos (by simp[Op.operands,h1,h2,hx,hy])]
  have:execOp (ev [x,y]) ⟨none,.binOp op t (oT cx 0 x) (oT cy 1 y) t2,t,"",#[],none⟩=(do let v ←(do eqGuard op t (oT cx 0 x) (oT cy 1 y) x y;binOp op t x y);pure (.value v)):=by
   simp only[execOp,h1,h2]
  rw[this,iN,iN,hg,dc,hv,dc,kL]
  simp only[hf,if_true]
 simp only[kR,opD,h1,h2,hpl]
 split
 ·exact absurd rfl (hs _ _ _)
 ·exact absurd rfl (hs _ _ _)
 ·rename_i k a k' b
  split
  ·rename_i hk
   subst hk
   rw[hi _ _ _ rfl rfl]
   rfl
  ·rfl
 ·exact absurd rfl (hp _)
 ·exact absurd rfl (hp _)
 ·exact absurd rfl (hp _)
 ·exact absurd rfl (hp _)
 ·rfl
theorem qN{op:BinOp}{t:TypeId}{x y:Operand}{k k':IntKind}{a b:Int}:iQ P (eqGuard op t x y (.int k a) (.int k' b))=some ():=by
 unfold eqGuard
 split<;>rfl
section
theorem b5H(t t2:TypeId)(cx cy:Bool)(a b:Int){k k':IntKind}(hb:0≤b):kR P .shr t t2 cx cy (.int k a) (.int k' b)=some (.int k (a.fdiv (2^(min b.toNat k.bits)))):=
 lN rfl rfl qN (by simp only[binOp,Op.shift];rw[if_neg (by omega)];rfl) rfl (by simp) (by simp) (by intros;rfl)
theorem b4b(t t2:TypeId)(cx cy:Bool)(a b:Int){k k':IntKind}(hb:0≤b):kR P .shl t t2 cx cy (.int k a) (.int k' b)=some (.int k (k.wrap (a*2^(min b.toNat k.bits)))):=
 lN rfl rfl qN (by simp only[binOp,Op.shift];rw[if_neg (by omega)];rfl) rfl (by simp) (by simp) (by intros;rfl)
theorem b6r(t t2:TypeId)(cx cy:Bool)(a b:Int)(k:IntKind):kR P .and t t2 cx cy (.int k a) (.int k b)=some (.int k (k.wrap (BitVec.ofInt k.bits a&&&BitVec.ofInt k.bits b).toNat)):=
 lN rfl rfl qN (by simp only[binOp];rw[if_neg (by simp)];rfl) rfl (by simp) (by simp) (by intros;rfl)
theorem b8E(t t2:TypeId)(cx cy:Bool)(a b:Int)(k:IntKind):kR P .or t t2 cx cy (.int k a) (.int k b)=some (.int k (k.wrap (BitVec.ofInt k.bits a|||BitVec.ofInt k.bits b).toNat)):=
 lN rfl rfl qN (by simp only[binOp];rw[if_neg (by simp)];rfl) rfl (by simp) (by simp) (by intros;rfl)
theorem b5f(t t2:TypeId)(cx cy:Bool)(a b:Int)(k:IntKind):kR P .xor t t2 cx cy (.int k a) (.int k b)=some (.int k (k.wrap (BitVec.ofInt k.bits a^^^BitVec.ofInt k.bits b).toNat)):=
 lN rfl rfl qN (by simp only[binOp];rw[if_neg (by simp)];rfl) rfl (by simp) (by simp) (by intros;rfl)
theorem a7R(t t2:TypeId)(cx cy:Bool)(a b:Int)(k:IntKind):kR P .andNot t t2 cx cy (.int k a) (.int k b)=some (.int k (k.wrap (BitVec.ofInt k.bits a&&&~~~ BitVec.ofInt k.bits b).toNat)):=
 lN rfl rfl qN (by simp only[binOp];rw[if_neg (by simp)];rfl) rfl (by simp) (by simp) (by intros;rfl)
end
section
variable (a b:ByteArray)
theorem a0j{op:BinOp}{t:TypeId}{x y:Operand}:iQ P (eqGuard op t x y (.string a) (.string b))=some ():=by
 unfold eqGuard
 split<;>rfl
theorem a0O(h:a.data.toList=b.data.toList):a=b:=by
 cases a;cases b
 simp only[ByteArray.mk.injEq]
 exact Array.toList_inj.1 h
theorem a2G:(a.toList==b.toList)=decide (a=b):=by
 rw[ByteArray.toList_eq,ByteArray.toList_eq,eH,beq_iff_eq,decide_eq_true_iff]
 exact⟨a0O a b,fun h=>by rw[h]⟩
theorem a9c(t t2:TypeId)(cx cy:Bool)(a b:ByteArray):kR P .eql t t2 cx cy (.string a) (.string b)=some (.bool (decide (a=b))):=
 lN rfl rfl (a0j a b) (by rw[←a2G];rfl) rfl (by simp) (by simp) (by intro _ _ _ h;cases h)
theorem a9p(t t2:TypeId)(cx cy:Bool)(a b:ByteArray):kR P .neq t t2 cx cy (.string a) (.string b)=some (.bool (decide (¬a=b))):=
 lN rfl rfl (a0j a b) (by
  have:decide (¬a=b)= !(a.toList==b.toList):=by rw[a2G];simp
  rw[this];rfl) rfl (by simp) (by simp) (by intro _ _ _ h;cases h)
theorem a7f(t t2:TypeId)(cx cy:Bool)(a b:ByteArray)(h:a.size+b.size<9223372036854775808):kR P .add t t2 cx cy (.string a) (.string b)=some (.string (a++b)):=
 lN rfl rfl (a0j a b) (by
  simp only[binOp,Op.stringOp]
  rw[if_neg]
  ·rfl
  ·have:IntKind.i64.max=9223372036854775807:=by decide
   rw[this];omega) rfl (by simp) (by simp) (by intro _ _ _ h;cases h)
end
theorem b6p{t:TypeId}(s:ByteArray)(ht:oW P t=true):zR P H t (.string s)=some (.int .i64 s.size):=by
 unfold oW at ht
 unfold zR
 split at ht
 ·rename_i h;rw[h];simp[xD,goInt]
 ·cases ht
def qR(P:Program)(t:TypeId)(x i:Value):Option Value:=(opD P ⟨none,.index t (.const x) (.const i),t,"",#[],none⟩ [] .nil).map (·.1)
theorem b3x(d ty pos af g)(t:TypeId)(x i:Operand)(l:List Value)(K:Value→Heap→Prop):
 lW P ⟨d,.index t x i,ty,pos,af,g⟩ l H K=jN x l fun x=>jN i l fun i=>jY (qR P t x i) fun v=>K v H:=by
 have h:opD P ⟨d,.index t x i,ty,pos,af,g⟩ l H=(qR P t (ev l x) (ev l i)).map fun v=>(v,H):=by
  have hp:=mZ (P:=P) ⟨d,.index t x i,ty,pos,af,g⟩ ⟨none,.index t (.const (ev l x)) (.const (ev l i)),t,"",#[],none⟩ l [] H rfl rfl
  simp only[opD,qR]
  exact hp
 have h2:jZ ((qR P t (ev l x) (ev l i)).map fun v=>(v,H)) K=jY (qR P t (ev l x) (ev l i)) fun v=>K v H:=by cases qR P t (ev l x) (ev l i)<;>rfl
 simp only[lW,h,jN,Op.operands,h2]
 simp[and_assoc]
def oP(s:ByteArray)(i:Nat):Nat:=(s.data.toList.getD i 0).toNat
theorem a8j{t:TypeId}(s:ByteArray)(k:IntKind)(i:Int)(ht:oW P t=true)(h0:0≤i)(h1:i<s.size):qR P t (.string s) (.int k i)=some (.int .u8 (oP s i.toNat)):=by
 have hu:P.underlying t=some .string:=by
  unfold oW at ht
  split at ht
  ·rename_i h;exact h
  ·cases ht
 have hr:iQ P (Instr.index t (.string s) (.int k i))=some (.int .u8 (oP s i.toNat)):=by
  unfold Instr.index
  rw[iN]
  have e1:iQ P (asIntOf (.int k i))=some (k,i):=rfl
  rw[e1,dc]
  simp only[iN,jX hu,dc]
  rw[if_pos h0]
  have hlt:i.toNat<s.size:=by omega
  have hb:s[i.toNat]? =some s[i.toNat]:=by simp[getElem?_pos,hlt]
  simp only[hb]
  rw[kL]
  congr 3
  unfold oP
  rw[dh]
  have hl:i.toNat<s.data.toList.length:=by simpa using hlt
  rw[dA hl]
  rfl
 have hpl:kK P ⟨none,.index t (.const (.string s)) (.const (.int k i)),t,"",#[],none⟩ [] .nil=some (.int .u8 (oP s i.toNat),.nil):=by
  unfold kK
  rw[if_pos (by rfl)]
  have:execOp (ev []) ⟨none,.index t (.const (.string s)) (.const (.int k i)),t,"",#[],none⟩=(do let v ←Instr.index t (.string s) (.int k i);pure (.value v)):=rfl
  rw[this,iN,hr,dc,kL]
  rfl
 simp only[qR,opD,hpl]
 rfl
def a0Y(P:Program)(t:TypeId):Option IntKind:=match P.underlying t with|some (.int k)=>some k|_=>none
theorem a0c{t:TypeId}{k:IntKind}(h:a0Y P t=some k):P.underlying t=some (.int k):=by
 unfold a0Y at h
 split at h
 ·rename_i h2;rw[h2];injection h with h;rw[h]
 ·cases h
theorem b2V{s t:TypeId}{k k':IntKind}(a:Int)(hs:a0Y P s=some k)(ht:a0Y P t=some k'):a1l P s t (.int k a)=some (.int k' (k'.wrap a)):=by
 have hr:iQ P (convert s t (.int k a))=some (.int k' (k'.wrap a)):=by
  unfold convert
  simp only[iN,jX (a0c hs),jX (a0c ht),dc]
  rfl
 have hpl:kK P ⟨none,.convert s t (.const (.int k a)),t,"",#[],none⟩ [] .nil=some (.int k' (k'.wrap a),.nil):=by
  unfold kK
  rw[if_pos (by rfl)]
  have:execOp (ev []) ⟨none,.convert s t (.const (.int k a)),t,"",#[],none⟩=(do let v ←convert s t (.int k a);pure (.value v)):=rfl
  rw[this,iN,hr,dc,kL]
  rfl
 simp only[a1l,hpl]
 rfl
def a5h(P:Program)(d:Nat)(xs ys:Array Value)(fs:List Field):Option Bool:=
 (iQ P (forIn fs ((none,()):Option Bool×Unit) fun f _=>
   if f.name≠ "_" then do
    let a ←part f.type xs f.offset
    let b ←part f.type ys f.offset
    let c ←Op.equalIn d f.type a b
    if(!c)=true then pure (ForInStep.done (some false,()))else pure (ForInStep.yield (none,()))
   else pure (ForInStep.yield (none,())))).bind fun x=>iQ P (match x.fst with|some r=>pure r|none=>pure true)
theorem a2a{d:Nat}{xs ys:Array Value}(g:Field→Bool):∀(fs:List Field),(∀f∈fs,f.name≠ "_" ∧iQ P (part f.type xs f.offset>>=fun x=>part f.type ys f.offset>>=fun y=>Op.equalIn d f.type x y)=some (g f))→
 a5h P d xs ys fs=some (fs.all g)
 | [],_=>rfl
 | f::fs,hg=>by
   obtain⟨h1,h2⟩:=hg f (dY ..)
   have ih:=a2a g fs fun f' h=>hg f' (eC _ h)
   unfold a5h at ih ⊢
   rw[iN]at h2
   simp only[List.forIn_cons,h1,ne_eq,not_false_eq_true,if_true,iN]
   cases hx:iQ P (part f.type xs f.offset)with
   | none=>rw[hx]at h2;cases h2
   | some x=>
     rw[hx,dc,iN]at h2
     cases hy:iQ P (part f.type ys f.offset)with
     | none=>rw[hy]at h2;cases h2
     | some y=>
       rw[hy,dc]at h2
       simp only[dc,h2]
       cases hgf:g f with
       | false=>
         simp only[Bool.not_false,if_true,kL,dc,fz,hgf,fP]
       | true=>
         simp only[Bool.not_true,dR,if_false,kL,dc,fz,hgf,gy]
         exact ih
theorem b5l{d:Nat}{t:TypeId}{fs:List Field}{xs ys:Array Value}(hu:P.underlying t=some (.struct fs.toArray))(hst:P.stoodInHeld t=false)(g:Field→Bool)
 (hg:∀f∈fs,f.name≠ "_" ∧iQ P (part f.type xs f.offset>>=fun x=>part f.type ys f.offset>>=fun y=>Op.equalIn d f.type x y)=some (g f)):iQ P (Op.equalIn (d+1) t (.agg xs) (.agg ys))=some (fs.all g):=by
 rw[Op.equalIn,iN,jX hu,dc]
 have hp:iQ P program=some P:=rfl
 simp only[iN,hp,dc,hst,dR,if_false,List.forIn_toArray]
 refine Eq.trans ?_ (a2a g fs hg)
 unfold a5h
 congr 1
 funext x
 cases x.fst<;>rfl
theorem a4g{op:BinOp}{t:TypeId}(ht:P.eqGuardType P.depth t=false){x y:Operand}{a b:Array Value}:iQ P (eqGuard op t x y (.agg a) (.agg b))=some ():=by
 have hp:iQ P program=some P:=rfl
 unfold eqGuard
 cases op<;>simp[iN,hp,ht,kL]
theorem b4u{t t2:TypeId}{cx cy:Bool}{xs ys:List Value}(b:Bool)(ht:P.eqGuardType P.depth t=false)(hx:xs.all jC=true)(hy:ys.all jC=true)(h:iQ P (Op.equalIn (9999+1) t (.agg xs.toArray) (.agg ys.toArray))=some b):
 kR P .eql t t2 cx cy (.agg xs.toArray) (.agg ys.toArray)=some (.bool b):=
 lN (by simp[flat,jD,kH,hx]) (by simp[flat,jD,kH,hy]) (a4g ht) (by
  have hmd:Op.maxDepth=9999+1:=by decide
  simp only[binOp,iN,Op.equal]
  rw[hmd,h,dc,kL]) rfl (by simp) (by simp) (by intro _ _ _ h;cases h)
theorem b5x{t t2:TypeId}{cx cy:Bool}{xs ys:List Value}(b:Bool)(ht:P.eqGuardType P.depth t=false)(hx:xs.all jC=true)(hy:ys.all jC=true)(h:iQ P (Op.equalIn (9999+1) t (.agg xs.toArray) (.agg ys.toArray))=some b):
 kR P .neq t t2 cx cy (.agg xs.toArray) (.agg ys.toArray)=some (.bool (!b)):=
 lN (by simp[flat,jD,kH,hx]) (by simp[flat,jD,kH,hy]) (a4g ht) (by
  have hmd:Op.maxDepth=9999+1:=by decide
  simp only[binOp,iN,Op.equal]
  rw[hmd,h,dc,kL]) rfl (by simp) (by simp) (by intro _ _ _ h;cases h)
end
end Go.Ds
namespace Go.Ds
noncomputable section
variable {P:Program} {H:Heap}
theorem a1V(a b:ByteArray):(a==b)=decide (b=a):=by
 obtain⟨x⟩:=a
 obtain⟨y⟩:=b
 rw[eH,decide_eq_true_iff]
 constructor
 ·intro h
  have e:x=y:=by simpa using(show(x==y)=true from h)
  rw[e]
 ·intro h
  cases h
  show(x==x)=true
  simp
theorem a3C(o:Option Nat)(i:Nat):o.map (i+1+·)=(o.map (·+1)).map (i+·):=by
 cases o with
 | none=>rfl
 | some j=>simp only[dS];congr 1;omega
theorem a0z(k:ByteArray):∀(es:List MapEntry)(ks:List ByteArray)(i:Nat),es.map (·.key)=ks.map Value.string→
 (Instr.findNow .string (.string k) (es.map xG) i).map (·.map (·.1))=some ((ks.findIdx? fun x=>decide (x=k)).map (i+·))
 | [],[],i,_=>rfl
 | [],_::_,_,h=>by simp at h
 | _::_,[],_,h=>by simp at h
 | e::es,s::ks,i,h=>by
   simp only[dU,fZ]at h
   have hs:Instr.sameNow .string (.string k) e.key=some (decide (s=k)):=by
    rw[h.1]
    show some (k==s)=_
    rw[a1V]
   simp only[dU,Instr.findNow,xG,hs,ff]
   by_cases hd:s=k
   ·simp[hd]
   ·simp only[hd,decide_false,dR,if_false]
    have:=a0z k es ks (i+1) h.2
    rw[a3C]at this
    exact this
theorem b0p{κ:Type}[DecidableEq κ]{enc:κ→Value}{kt:TypeId}(heq:∀a b,iQ P (Op.equal kt (enc a) (enc b))=some (decide (b=a)))(k:κ):∀(es:List MapEntry)(ks:List κ)(i:Nat),es.map (·.key)=ks.map enc→
 (iQ P (Instr.findAsking kt (enc k) (es.map xG) i)).map (·.map (·.1))=some ((ks.findIdx? fun x=>decide (x=k)).map (i+·))
 | [],[],i,_=>rfl
 | [],_::_,_,h=>by simp at h
 | _::_,[],_,h=>by simp at h
 | e::es,s::ks,i,h=>by
   simp only[dU,fZ]at h
   simp only[dU,Instr.findAsking,xG,iN,ff]
   rw[h.1,heq,dc]
   by_cases hd:s=k
   ·simp[hd,kL]
   ·simp only[hd,decide_false,dR,if_false]
    have:=b0p heq k es ks (i+1) h.2
    rw[a3C]at this
    exact this
theorem MapK.str{t kt et:TypeId}{z:Value}(hm:xT P t=some (kt,et))(hu:P.underlying kt=some .string)(hz:jA P et=some z)(hf:jD z=true):MapK P t Value.string z where
 ex:=by
  refine⟨kt,et,hm,hz,hf,?_,?_,?_⟩
  ·intro b k
   have:iQ P (Instr.checkKey b 10000 kt (.string k))=some ():=by
    show iQ P (Instr.checkKey b (9999+1) kt (.string k))=some ()
    unfold Instr.checkKey
    rw[iN,jX hu,dc]
    rfl
   simp only[xW,this]
   rfl
  ·intro k es ks h
   have h1:=a0z k es ks 0 h
   unfold rN Instr.findKey
   rw[iN,jX hu,dc]
   cases hn:Instr.findNow .string (.string k) (es.map xG) 0 with
   | none=>rw[hn]at h1;cases h1
   | some r=>
     rw[hn]at h1
     simp only[kL]
     simpa using h1
  ·intro k
   show(k==k)=true
   rw[a1V]
   simp
theorem MapK.struct{κ:Type}[DecidableEq κ]{enc:κ→Value}{t kt et:TypeId}{z:Value}{fs:Array Field}(hm:xT P t=some (kt,et))(hu:P.underlying kt=some (.struct fs))(hz:jA P et=some z)(hf:jD z=true)
 (hk:∀b k,xW P b kt (enc k)=true) (heq:∀a b,iQ P (Op.equal kt (enc a) (enc b))=some (decide (b=a))) (hsb:∀k,Instr.sameBits 10000 (enc k) (enc k)=true):MapK P t enc z where
 ex:=by
  refine⟨kt,et,hm,hz,hf,hk,?_,hsb⟩
  intro k es ks h
  have h1:=b0p heq k es ks 0 h
  unfold rN Instr.findKey
  rw[iN,jX hu,dc]
  have key:∀(l:List MapEntry),Instr.findNow (.struct fs) (enc k) l 0=none∨l=[]:=by
   intro l
   cases l with
   | nil=>exact .inr rfl
   | cons e l=>exact .inl rfl
  rcases key (es.map xG)with hn|hn
  ·rw[hn]
   simpa using h1
  ·rw[hn]
   have:es=[]:=by simpa using hn
   subst this
   have:ks=[]:=by cases ks with|nil=>rfl|cons a ks=>simp at h
   subst this
   rfl
end
end Go.Ds
namespace Go.Ds
noncomputable section
variable {P:Program} {H:Heap}
def a1R(o:Option (Nat×TypeId))(P:Program)(H:Heap)(t:TypeId)(z:Value)(K:Value→Heap→Prop)(_k:Keep K:=⟨⟩):Prop:=match o with
 | none=>uV (jD z) (a5B P H t z K)
 | some _=>uV (jD z) (a8E P H t z K)
theorem a4A{o o':Option (Nat×TypeId)}{t:TypeId}{z:Value}{K:Value→Heap→Prop}(h:o=o'):a1R o P H t z K=a1R o' P H t z K:=by rw[h]
attribute [congr] a4A
theorem b6I{t:TypeId}(z:Value)(K:Value→Heap→Prop):uT P H t (some z) K=a1R (jM P t) P H t z K:=by
 cases h:jM P t with
 | none=>exact a7N z K h
 | some n=>exact a9P z K h
theorem a6s{t:TypeId}(z:Value)(K:Value→Heap→Prop):a1R none P H t z K=uV (jD z) (a5B P H t z K):=rfl
theorem a6V{t:TypeId}(n:Nat×TypeId)(z:Value)(K:Value→Heap→Prop):a1R (some n) P H t z K=uV (jD z) (a8E P H t z K):=rfl
theorem a6K{t:TypeId}{k:IntKind}(h:a0Y P t=some k):lF P t=false:=by
 simp[lF,a0c h]
def a3M(ks kt:Option IntKind)(P:Program)(s t:TypeId)(H:Heap)(k:IntKind)(a:Int)(K:Value→Heap→Prop)(_k:Keep K:=⟨⟩):Prop:=match ks,kt with
 | some k0,some k'=>if k0=k then K (.int k' (k'.wrap a)) H else tS P s t H (.int k a) K
 | _,_=>tS P s t H (.int k a) K
theorem a6j{ks ks' kt kt':Option IntKind}{s t:TypeId}{k:IntKind}{a:Int}{K:Value→Heap→Prop}(h:ks=ks')(h2:kt=kt'):a3M ks kt P s t H k a K=a3M ks' kt' P s t H k a K:=by rw[h,h2]
attribute [congr] a6j
theorem b9l{s t:TypeId}(k:IntKind)(a:Int)(K:Value→Heap→Prop):tS P s t H (.int k a) K=a3M (a0Y P s) (a0Y P t) P s t H k a K:=by
 unfold a3M
 split
 ·rename_i k0 k' hs ht
  split
  ·rename_i hk
   subst hk
   rw[b2A k0 a K (a6K ht),b2V a hs ht]
   rfl
  ·rfl
 ·rfl
theorem b2x{s t:TypeId}(k k':IntKind)(a:Int)(K:Value→Heap→Prop):a3M (some k) (some k') P s t H k a K=oI (.int k' (k'.wrap a)) fun v=>K v H:=by simp[a3M,oI]
def c0Q(b:Bool)(P:Program)(H:Heap)(t:TypeId)(v:Value):Option Value:=match b with
 | true=>(match v with|.string s=>some (.int .i64 s.size)|_=>zR P H t v)
 | false=>zR P H t v
theorem c0I(t:TypeId)(v:Value):a7i none P H t v=c0Q (oW P t) P H t v:=by
 unfold c0Q
 split
 ·rename_i h
  split
  ·exact b6p _ h
  ·rfl
 ·rfl
theorem b4V(t:TypeId)(s:ByteArray):c0Q true P H t (.string s)=some (.int .i64 s.size):=rfl
def a4M(b:Bool)(P:Program)(t:TypeId)(x i:Value):Option Value:=match b,x,i with
 | true,.string s,.int k i=>if 0≤i∧i<s.size then some (.int .u8 (oP s i.toNat))else qR P t (.string s) (.int k i)
 | _,x,i=>qR P t x i
theorem b3H(t:TypeId)(x i:Value):qR P t x i=a4M (oW P t) P t x i:=by
 unfold a4M
 split
 ·rename_i h
  split
  ·rename_i h2;exact a8j _ _ _ h h2.1 h2.2
  ·rfl
 ·rfl
theorem a8D(t:TypeId)(s:ByteArray)(k:IntKind)(i:Int)(h0:0≤i)(h1:i<s.size):a4M true P t (.string s) (.int k i)=some (.int .u8 (oP s i.toNat)):=by
 simp[a4M,h0,h1]
theorem OC:(∀k n,oneCell (.int k n)=true)∧(∀b,oneCell (.bool b)=true)∧(∀s,oneCell (.string s)=true)∧(∀a,oneCell (.pointer a)=true)∧(∀a n c,oneCell (.slice a n c)=true)∧(∀r,oneCell (.map r)=true)∧(∀f a b,oneCell (.func f a b)=true)∧oneCell .nilFunc=true:=
 ⟨fun _ _=>rfl,fun _=>rfl,fun _=>rfl,fun _=>rfl,fun _ _ _=>rfl,fun _=>rfl,fun _ _ _=>rfl,rfl⟩
theorem c3J(o:Option Bool):(o.map Value.bool).getD (.bool false)=.bool (o.getD false):=by cases o<;>rfl
theorem c2R(k:IntKind)(o:Option Int):(o.map (Value.int k)).getD (.int k 0)=.int k (o.getD 0):=by cases o<;>rfl
theorem b8r(v:Value)(b:Bool):pairV false v b=v:=rfl
theorem b8s(v:Value)(b:Bool):pairV true v b=.tuple #[v,.bool b]:=rfl
theorem b4E(t:Tmp):lH (.tmp t)=false:=rfl
theorem b0f(v:Value):lH (.const v)=true:=rfl
theorem b4C(s:ByteArray):flat (.string s)=true:=rfl
theorem b2K(s:ByteArray):jD (.string s)=true:=rfl
theorem a9K(s:ByteArray):jC (.string s)=true:=rfl
theorem a7c(s:ByteArray):jW (.string s)=true:=rfl
theorem b4f(k:IntKind)(n:Int):oG (.int k n)=true:=rfl
theorem b1x(b:Bool):oG (.bool b)=true:=rfl
theorem b3F(s:ByteArray):oG (.string s)=true:=rfl
theorem vP{c b:Bool}{p q:Prop}(h1:c=true→sA (.bool true) b p q)(h2:c=false→sA (.bool false) b p q):sA (.bool c) b p q:=by
 cases c
 ·exact h2 rfl
 ·exact h1 rfl
theorem St.pick{H0:Base}{os os':List Ob}(hS:St P H0 H os)(idx:List Nat)(hn:idx.Nodup)(h:idx.map (os[·]?)=os'.map some):St P H0 H os':=by
 have hmem:∀o∈os',o∈os:=by
  intro o ho
  have:some o∈idx.map (os[·]?):=by rw[h];exact eO ho
  obtain⟨i,_,hi⟩:=dD.1 this
  exact dW hi
 refine⟨hS.len,hS.old,fun o ho=>hS.own o (hmem o ho),fun o ho=>hS.new o (hmem o ho),?_⟩
 have hpw:=ec.1 hS.sep
 rw[ec]
 intro i j hi hj hij
 have hl:idx.length=os'.length:=by simpa using congrArg List.length h
 have key:∀i(hi:i<os'.length),∃hk:idx[i]'(by omega)<os.length,os[idx[i]'(by omega)]=os'[i]:=by
  intro i hi
  have h1:(idx.map (os[·]?))[i]? =(os'.map some)[i]?:=by rw[h]
  rw[eS,eS,dA (by omega),dA hi]at h1
  simp only[dS,dF]at h1
  exact dy.1 h1
 obtain⟨h1,e1⟩:=key i hi
 obtain⟨h2,e2⟩:=key j hj
 have hne:idx[i]'(by omega)≠idx[j]'(by omega):=by
  have:=ec.1 hn i j (by omega) (by omega) hij
  exact this
 rcases fJ hne with hh|hh
 ·have:=hpw _ _ h1 h2 hh
  rw[e1,e2]at this
  exact this
 ·have:=hpw _ _ h2 h1 hh
  rw[e1,e2]at this
  intro B hb hb'
  exact this B hb' hb
theorem St.frame{H1:Heap}{H0:Base}{ls rest ls':List Ob}(hS:St P H0 H (ls++rest))(h1:St P ⟨H,pX ls⟩ H1 ls'):St P H0 H1 (ls'++rest):=by
 have hls:St P H0 H ls:=hS.sub (fM ..)
 have h2:=hls.bD h1
 have hsep:=eT.1 hS.sep
 have hkeep:∀o∈rest,∀B,kJ o.v=some B→iR H1 B=iR H B:=by
  intro o ho B hB
  have hlt:=(hS.own o (ef _ ho)).lt hB
  exact h1.old B hlt fun⟨x,hx,hxb⟩=>hsep.2.2 x hx o ho B hxb hB
 refine⟨h2.len,h2.old,?_,?_,?_⟩
 ·intro o ho
  rcases dH.1 ho with ho|ho
  ·exact h2.own o ho
  ·exact(hS.own o (ef _ ho)).ae (hkeep o ho)
 ·intro o ho B hB
  rcases dH.1 ho with ho|ho
  ·exact h2.new o ho B hB
  ·exact hS.new o (ef _ ho) B hB
 ·rw[eT]
  refine⟨h2.sep,hsep.2.1,?_⟩
  intro x hx y hy B hb hb'
  rcases h1.new x hx B hb with hh|⟨z,hz,hzb⟩
  ·have:=(hS.own y (ef _ hy)).lt hb'
   have hh:H.length≤B:=hh
   omega
  ·exact hsep.2.2 z hz y hy B hzb hb'
theorem b8C(t:TypeId)(k:IntKind)(n:Int):unV P .neg t (.int k n)=some (.int k (k.wrap (0-n))):=rfl
theorem b1P(ops:Array Oper)(d:Option Tmp)(op:Op)(ty:TypeId)(pos:String)(af:Array Edge)(j:Nat)(b:Bool)(l:List Value)(H':Heap)(v:Value):
 rdW P ops (some ⟨d,op,ty,pos,af,some (j,b)⟩) (some (l,H',v)) H=uM (xU ops j) l b (lW P ⟨d,op,ty,pos,af,some (j,b)⟩ l H fun v' _=>v'=v) True:=by
 rw[←sV ops l d op ty pos af]
 unfold rdW
 split
 ·rename_i h1 h2
  cases h1;cases h2
  split
  ·rename_i h;simp[h]
  ·rename_i h;simp[h]
 ·rename_i h
  exact(h _ _ _ _ rfl rfl).elim
theorem b2Z(t t2:TypeId)(cx cy:Bool)(k:IntKind)(a b:Int)(K:Value→Prop):lE P .and t t2 cx cy (.int k a) (.int k b) K=jY (kR P .and t t2 cx cy (.int k a) (.int k b)) K:=by
 have h:(if k=k then mR .and k a b else none)=none:=by split<;>rfl
 unfold lE;dsimp only
 rw[h]
theorem b6E(t t2:TypeId)(cx cy:Bool)(k:IntKind)(a b:Int)(K:Value→Prop):lE P .or t t2 cx cy (.int k a) (.int k b) K=jY (kR P .or t t2 cx cy (.int k a) (.int k b)) K:=by
 have h:(if k=k then mR .or k a b else none)=none:=by split<;>rfl
 unfold lE;dsimp only
 rw[h]
theorem b2P(t t2:TypeId)(cx cy:Bool)(k:IntKind)(a b:Int)(K:Value→Prop):lE P .xor t t2 cx cy (.int k a) (.int k b) K=jY (kR P .xor t t2 cx cy (.int k a) (.int k b)) K:=by
 have h:(if k=k then mR .xor k a b else none)=none:=by split<;>rfl
 unfold lE;dsimp only
 rw[h]
theorem a5b(t t2:TypeId)(cx cy:Bool)(k:IntKind)(a b:Int)(K:Value→Prop):lE P .andNot t t2 cx cy (.int k a) (.int k b) K=jY (kR P .andNot t t2 cx cy (.int k a) (.int k b)) K:=by
 have h:(if k=k then mR .andNot k a b else none)=none:=by split<;>rfl
 unfold lE;dsimp only
 rw[h]
theorem b2O(t t2:TypeId)(cx cy:Bool)(k k':IntKind)(a b:Int)(K:Value→Prop):lE P .shl t t2 cx cy (.int k a) (.int k' b) K=jY (kR P .shl t t2 cx cy (.int k a) (.int k' b)) K:=by
 have h:(if k=k' then mR .shl k a b else none)=none:=by split<;>rfl
 unfold lE;dsimp only
 rw[h]
theorem b2g(t t2:TypeId)(cx cy:Bool)(k k':IntKind)(a b:Int)(K:Value→Prop):lE P .shr t t2 cx cy (.int k a) (.int k' b) K=jY (kR P .shr t t2 cx cy (.int k a) (.int k' b)) K:=by
 have h:(if k=k' then mR .shr k a b else none)=none:=by split<;>rfl
 unfold lE;dsimp only
 rw[h]
theorem b1H(op:BinOp)(t t2:TypeId)(cx cy:Bool)(a b:ByteArray)(K:Value→Prop):lE P op t t2 cx cy (.string a) (.string b) K=jY (kR P op t t2 cx cy (.string a) (.string b)) K:=rfl
theorem b2H(op:BinOp)(t t2:TypeId)(cx cy:Bool)(a b:Array Value)(K:Value→Prop):lE P op t t2 cx cy (.agg a) (.agg b) K=jY (kR P op t t2 cx cy (.agg a) (.agg b)) K:=rfl
theorem b1z(op:BinOp)(t t2:TypeId)(cx cy:Bool)(a b:Bool)(K:Value→Prop):lE P op t t2 cx cy (.bool a) (.bool b) K=jY (kR P op t t2 cx cy (.bool a) (.bool b)) K:=rfl
theorem b5q(n:Int)(h1: -9223372036854775808≤n)(h2:n<9223372036854775808):IntKind.wrap .i64 n=n:=by
 show(if(true&&decide (n%18446744073709551616≥9223372036854775808))=true then n%18446744073709551616-18446744073709551616 else n%18446744073709551616)=n
 simp only[gy,decide_eq_true_eq]
 omega
theorem b7d(n:Int)(h1: -128≤n)(h2:n<128):IntKind.wrap .i8 n=n:=by
 show(if(true&&decide (n%256≥128))=true then n%256-256 else n%256)=n
 simp only[gy,decide_eq_true_eq]
 omega
theorem rU(n:Int)(h1:0≤n)(h2:n<18446744073709551616):IntKind.wrap .u64 n=n:=by
 show(if(false&&decide (n%18446744073709551616≥9223372036854775808))=true then n%18446744073709551616-18446744073709551616 else n%18446744073709551616)=n
 simp only[fP]
 rw[if_neg (by simp)]
 omega
theorem b6a(n:Int)(h1:0≤n)(h2:n<4294967296):IntKind.wrap .u32 n=n:=by
 show(if(false&&decide (n%4294967296≥2147483648))=true then n%4294967296-4294967296 else n%4294967296)=n
 simp only[fP]
 rw[if_neg (by simp)]
 omega
theorem b5z(n:Int)(h1:0≤n)(h2:n<65536):IntKind.wrap .u16 n=n:=by
 show(if(false&&decide (n%65536≥32768))=true then n%65536-65536 else n%65536)=n
 simp only[fP]
 rw[if_neg (by simp)]
 omega
theorem b6W(n:Int)(h1:0≤n)(h2:n<256):IntKind.wrap .u8 n=n:=by
 show(if(false&&decide (n%256≥128))=true then n%256-256 else n%256)=n
 simp only[fP]
 rw[if_neg (by simp)]
 omega
end
end Go.Ds
namespace Go.Ds
noncomputable section
variable {P:Program}
def a0o(P:Program)(t:TypeId):List Field:=match P.underlying t with|some (.struct fs)=>fs.toList|_=>[]
def zH:Value→Value→Bool
 | .int _ a,.int _ b=>a==b
 | .bool a,.bool b=>a==b
 | .string a,.string b=>decide (a=b)
 | _,_=>false
def okC(P:Program)(t:TypeId)(x y:Value):Bool:=match P.underlying t with
 | some (.int _)=>(match x,y with|.int k _,.int k' _=>decide (k=k')|_,_=>false)
 | some .bool=>(match x,y with|.bool _,.bool _=>true|_,_=>false)
 | some .string=>(match x,y with|.string _,.string _=>true|_,_=>false)
 | _=>false
theorem eq1{t:TypeId}{x y:Value}(d:Nat)(h:okC P t x y=true):iQ P (Op.equalIn (d+1) t x y)=some (zH x y):=by
 unfold okC at h
 split at h
 ·rename_i k0 hu
  split at h
  ·rename_i k a k' b
   have hk:k=k':=by simpa using h
   subst hk
   rw[Op.equalIn,iN,jX hu,dc]
   simp only[if_true]
   rfl
  ·cases h
 ·rename_i hu
  split at h
  ·rw[Op.equalIn,iN,jX hu,dc];rfl
  ·cases h
 ·rename_i hu
  split at h
  ·rename_i a b
   rw[Op.equalIn,iN,jX hu,dc]
   show some (a==b)=some (decide (a=b))
   rw[a1V]
   congr 1
   simp[eq_comm]
  ·cases h
 ·cases h
theorem b9S{t:TypeId}{x y v:Value}{cs:Array Value}{off:Nat}(h:okC P t x y=true)(hc:cs[off]? =some v):iQ P (part t cs off)=some v:=by
 have ha:iQ P (isAgg t)=some false:=by
  unfold isAgg
  unfold okC at h
  split at h
  ·rename_i hu;rw[iN,jX hu,dc];rfl
  ·rename_i hu;rw[iN,jX hu,dc];rfl
  ·rename_i hu;rw[iN,jX hu,dc];rfl
  ·cases h
 unfold part
 rw[iN,ha,dc]
 simp only[dR,if_false,hc]
 rfl
theorem a2C{t:TypeId}{xs ys:List Value}(d:Nat)(hu:P.underlying t=some (.struct (a0o P t).toArray))(hst:P.stoodInHeld t=false)
 (hf:((a0o P t).map fun f=>(f.name != "_",f.offset))=(List.range xs.length).map fun j=>(true,j)) (hy:ys.length=xs.length)
 (hok:((a0o P t).all fun f=>okC P f.type (xs.getD f.offset undef) (ys.getD f.offset undef))=true):
 iQ P (Op.equalIn (d+2) t (.agg xs.toArray) (.agg ys.toArray))=some ((List.range xs.length).all fun j=>zH (xs.getD j undef) (ys.getD j undef)):=by
 rw[dx]at hok
 have hmem:∀f∈a0o P t,(f.name != "_")=true∧f.offset<xs.length:=fun f hf'=>by
  have:(f.name != "_",f.offset)∈(List.range xs.length).map fun j=>(true,j):=by rw[←hf];exact eO hf'
  obtain⟨j,hj,he⟩:=dD.1 this
  simp only[gT]at he
  exact⟨he.1.symm,by rw[←he.2];exact dz.1 hj⟩
 rw[b5l hu hst (fun f=>zH (xs.getD f.offset undef) (ys.getD f.offset undef)) ?_]
 ·congr 1
  have h1:(a0o P t).all (fun f=>zH (xs.getD f.offset undef) (ys.getD f.offset undef))=((a0o P t).map fun f=>(f.name != "_",f.offset)).all fun p=>zH (xs.getD p.2 undef) (ys.getD p.2 undef):=by
   rw[List.all_map];rfl
  rw[h1,hf,List.all_map]
  rfl
 ·intro f hf'
  obtain⟨h1,h2⟩:=hmem f hf'
  refine⟨by simpa using h1,?_⟩
  have hx:xs.toArray[f.offset]? =some (xs.getD f.offset undef):=by
   rw[fo,dh,dA h2];rfl
  have hy':ys.toArray[f.offset]? =some (ys.getD f.offset undef):=by
   rw[fo,dh,dA (by omega)];rfl
  rw[iN,b9S (hok f hf') hx,dc,iN,b9S (hok f hf') hy',dc]
  exact eq1 d (hok f hf')
theorem uF{t t2:TypeId}{cx cy:Bool}{xs ys:List Value}(hu:P.underlying t=some (.struct (a0o P t).toArray))(hst:P.stoodInHeld t=false)(hg:P.eqGuardType P.depth t=false)
 (hf:((a0o P t).map fun f=>(f.name != "_",f.offset))=(List.range xs.length).map fun j=>(true,j)) (hy:ys.length=xs.length)
 (hok:((a0o P t).all fun f=>okC P f.type (xs.getD f.offset undef) (ys.getD f.offset undef))=true) (hx:xs.all jC=true) (hys:ys.all jC=true):
 kR P .eql t t2 cx cy (.agg xs.toArray) (.agg ys.toArray)=some (.bool ((List.range xs.length).all fun j=>zH (xs.getD j undef) (ys.getD j undef)))∧
 kR P .neq t t2 cx cy (.agg xs.toArray) (.agg ys.toArray)=some (.bool (!((List.range xs.length).all fun j=>zH (xs.getD j undef) (ys.getD j undef)))):=
 ⟨b4u _ hg hx hys (a2C 9998 hu hst hf hy hok),b5x _ hg hx hys (a2C 9998 hu hst hf hy hok)⟩
theorem c2c{t:TypeId}{k:IntKind}(hu:P.underlying t=some (.struct (a0o P t).toArray))(hst:P.stoodInHeld t=false)
 (hf:((a0o P t).map fun f=>(f.name != "_",f.offset))=(List.range 2).map fun j=>(true,j))
 (hok:∀a b c d:Int,((a0o P t).all fun f=>okC P f.type ([Value.int k a,.int k b].getD f.offset undef) ([Value.int k c,.int k d].getD f.offset undef))=true) (a b:Int×Int):
 iQ P (Op.equal t (.agg #[.int k a.1,.int k a.2]) (.agg #[.int k b.1,.int k b.2]))=some (decide (b=a)):=by
 have hmd:Op.maxDepth=9998+2:=by decide
 unfold Op.equal
 rw[hmd,a2C (xs:=[.int k a.1,.int k a.2]) (ys:=[.int k b.1,.int k b.2]) 9998 hu hst hf rfl (hok _ _ _ _)]
 congr 1
 show((a.1==b.1)&&((a.2==b.2)&&true))=_
 rw[eH]
 simp only[fg,de,beq_iff_eq,decide_eq_true_eq,Prod.ext_iff]
 constructor
 ·rintro⟨h1,h2⟩;exact⟨h1.symm,h2.symm⟩
 ·rintro⟨h1,h2⟩;exact⟨h1.symm,h2.symm⟩
theorem c1u{k:IntKind}(a:Int×Int):Instr.sameBits 10000 (.agg #[.int k a.1,.int k a.2]) (.agg #[.int k a.1,.int k a.2])=true:=by
 show((2:Nat)==2&&([(Value.int k a.1,Value.int k a.1),(Value.int k a.2,Value.int k a.2)]).all fun(x,y)=>Instr.sameBits 9999 x y)=true
 have h:∀n,Instr.sameBits 9999 (.int k n) (.int k n)=true:=fun n=>by
  show(k==k&&n==n)=true
  cases k<;>simp<;>rfl
 simp[h]
section
variable {H:Heap} {α:Type} {n:Nat} {cel:α→List Value} {v:Value} {xs:List α}
theorem Sl.aN(h:Sl n cel H v xs)(o:Oper)(l:List Value)(H':Heap)(k:IntKind)(a:Int)(K:Value→Heap→Prop)(h0:0<xs.length)(h1:0≤a)(h2:a≤xs.length):
 nQ P o l H' (some n) v none (some (.int k a)) K=oI (lB v n 0 a.toNat) fun v=>K v H':=by
 obtain⟨m,rfl⟩:∃m,n=m+1:=⟨n-1,by have:=h.pos;omega⟩
 exact h.rd.aN (iI h.hc xs) o l H' k a K h0 h1 h2
theorem Sl.aM(h:Sl n cel H v xs)(o:Oper)(l:List Value)(H':Heap)(k:IntKind)(a:Int)(K:Value→Heap→Prop)(h0:0<xs.length)(h1:0≤a)(h2:a≤xs.length):
 nQ P o l H' (some n) v (some (.int k a)) none K=oI (lB v n a.toNat (xs.length-a).toNat) fun v=>K v H':=by
 obtain⟨m,rfl⟩:∃m,n=m+1:=⟨n-1,by have:=h.pos;omega⟩
 rw[h.rd.aM (iI h.hc xs) o l H' k a K h0 h1 h2]
 congr 2
 omega
theorem Sl.sub(h:Sl n cel H v xs)(lo k:Nat)(hk:lo+k≤xs.length)(h0:0<xs.length):Sl n cel H (lB v n lo k) ((xs.drop lo).take k):=by
 refine⟨?_,h.hc,h.pos⟩
 have hne:xs.flatMap cel≠[]:=fun e=>by
  have:=iI h.hc xs
  rw[e,eP]at this
  have hp:=hP h0 h.pos
  omega
 have:=h.rd.sub lo k (by rw[iI h.hc,←fc];exact dP _ hk) hne
 rw[sN h.hc,a2L h.hc]at this
 exact this
theorem Sl.cE(h:Sl n cel H v xs)(k:Nat)(hk:k≤xs.length)(h0:0<xs.length):Sl n cel H (lB v n 0 k) (xs.take k):=by
 simpa using h.sub 0 k (by omega) h0
theorem Sl.cG(h:Sl n cel H v xs)(lo:Nat)(hk:lo≤xs.length)(h0:0<xs.length):Sl n cel H (lB v n lo (xs.length-lo)) (xs.drop lo):=by
 have:=h.sub lo (xs.length-lo) (by omega) h0
 rwa [List.take_of_length_le (by simp)]at this
end
def a8o(P:Program)(ts:Array TypeId)(ty:TypeId)(cx cy:Bool)(x y:Value):Option Value:=(kK P ⟨none,.call {callee:=.builtin .max,args:=#[oT cx 0 x,oT cy 1 y],argTypes:=ts},ty,"",#[],none⟩ [x,y] .nil).map (·.1)
theorem b7D(d:Option Tmp)(ty:TypeId)(pos:String)(af:Array Edge)(g:Option (Nat×Bool))(ts:Array TypeId)(x y:Operand)(l:List Value)(H:Heap)(K:Value→Heap→Prop):
 lW P ⟨d,.call {callee:=.builtin .max,args:=#[x,y],argTypes:=ts},ty,pos,af,g⟩ l H K=jN x l fun x'=>jN y l fun y'=>jY (a8o P ts ty (lH x) (lH y) x' y') fun v=>K v H:=by
 have h:opD P ⟨d,.call {callee:=.builtin .max,args:=#[x,y],argTypes:=ts},ty,pos,af,g⟩ l H=(a8o P ts ty (lH x) (lH y) (ev l x) (ev l y)).map fun v=>(v,H):=
  mZ (P:=P) ⟨d,.call {callee:=.builtin .max,args:=#[x,y],argTypes:=ts},ty,pos,af,g⟩ ⟨none,.call {callee:=.builtin .max,args:=#[oT (lH x) 0 (ev l x),oT (lH y) 1 (ev l y)],argTypes:=ts},ty,"",#[],none⟩ l [ev l x,ev l y] H
   (by cases x<;>cases y<;>rfl) (by cases x<;>cases y<;>kernel_rfl)
 have h2:jZ ((a8o P ts ty (lH x) (lH y) (ev l x) (ev l y)).map fun v=>(v,H)) K=jY (a8o P ts ty (lH x) (lH y) (ev l x) (ev l y)) fun v=>K v H:=by cases a8o P ts ty (lH x) (lH y) (ev l x) (ev l y)<;>rfl
 simp only[lW,h,jN,Op.operands,Call.operands,h2]
 simp[and_assoc]
theorem b5b(ts:Array TypeId)(ty:TypeId)(cx cy:Bool)(a b:Int):a8o P ts ty cx cy (.int .i64 a) (.int .i64 b)=some (.int .i64 (max a b)):=by
 have h:a8o P ts ty cx cy (.int .i64 a) (.int .i64 b)=some (.int .i64 (if b>a then b else a)):=by cases cx<;>cases cy<;>kernel_rfl
 rw[h]
 congr 2
 split<;>omega
def a9R(P:Program)(ts:Array TypeId)(ty:TypeId)(cx cy:Bool)(x y:Value):Option Value:=(kK P ⟨none,.call {callee:=.builtin .min,args:=#[oT cx 0 x,oT cy 1 y],argTypes:=ts},ty,"",#[],none⟩ [x,y] .nil).map (·.1)
theorem b9b(d:Option Tmp)(ty:TypeId)(pos:String)(af:Array Edge)(g:Option (Nat×Bool))(ts:Array TypeId)(x y:Operand)(l:List Value)(H:Heap)(K:Value→Heap→Prop):
 lW P ⟨d,.call {callee:=.builtin .min,args:=#[x,y],argTypes:=ts},ty,pos,af,g⟩ l H K=jN x l fun x'=>jN y l fun y'=>jY (a9R P ts ty (lH x) (lH y) x' y') fun v=>K v H:=by
 have h:opD P ⟨d,.call {callee:=.builtin .min,args:=#[x,y],argTypes:=ts},ty,pos,af,g⟩ l H=(a9R P ts ty (lH x) (lH y) (ev l x) (ev l y)).map fun v=>(v,H):=
  mZ (P:=P) ⟨d,.call {callee:=.builtin .min,args:=#[x,y],argTypes:=ts},ty,pos,af,g⟩ ⟨none,.call {callee:=.builtin .min,args:=#[oT (lH x) 0 (ev l x),oT (lH y) 1 (ev l y)],argTypes:=ts},ty,"",#[],none⟩ l [ev l x,ev l y] H
   (by cases x<;>cases y<;>rfl) (by cases x<;>cases y<;>kernel_rfl)
 have h2:jZ ((a9R P ts ty (lH x) (lH y) (ev l x) (ev l y)).map fun v=>(v,H)) K=jY (a9R P ts ty (lH x) (lH y) (ev l x) (ev l y)) fun v=>K v H:=by cases a9R P ts ty (lH x) (lH y) (ev l x) (ev l y)<;>rfl
 simp only[lW,h,jN,Op.operands,Call.operands,h2]
 simp[and_assoc]
theorem b4o(ts:Array TypeId)(ty:TypeId)(cx cy:Bool)(a b:Int):a9R P ts ty cx cy (.int .i64 a) (.int .i64 b)=some (.int .i64 (min a b)):=by
 have h:a9R P ts ty cx cy (.int .i64 a) (.int .i64 b)=some (.int .i64 (if b<a then b else a)):=by cases cx<;>cases cy<;>kernel_rfl
 rw[h]
 congr 2
 split<;>omega
section
variable {H:Heap}
def Var(H:Heap)(A n:Nat)(cs:List Value):Prop:=n=cs.length∧∃ty rw lo ver,iR H A=some (.cells cs ty rw lo ver)∧lo≤cs.length
theorem Var.ae{H':Heap}{A n:Nat}{cs:List Value}(h:Var H A n cs)(hk:∀B,B<H.length→iR H' B=iR H B):Var H' A n cs:=by
 obtain⟨h1,ty,rw,lo,ver,h2,h3⟩:=h
 exact⟨h1,ty,rw,lo,ver,by rw[hk A (jI h2),h2],h3⟩
theorem Var.ld{A n:Nat}{cs:List Value}(h:Var H A n cs)(s:Option Nat)(off:Nat):pA (some false) s H (ptr A off n)=cs[off]?:=by
 obtain⟨rfl,ty,rw,lo,ver,h1,h2⟩:=h
 simp only[pA,jF,h1]
 by_cases h:off<cs.length
 ·rw[if_pos (by simp;omega)]
  simp only[dc]
  rw[dX (by omega),dI]
  simp
 ·rw[if_neg (by simp;omega),ew (by omega)]
  rfl
theorem Var.aj{A n:Nat}{cs:List Value}(h:Var H A n cs)(m off:Nat):pA (some true) (some m) H (ptr A off n)=if off+m≤cs.length then some (.agg ((cs.drop off).take m).toArray)else none:=by
 obtain⟨rfl,ty,rw,lo,ver,h1,h2⟩:=h
 simp only[pA,jF,h1,dc]
 by_cases h:off+m≤cs.length
 ·rw[if_pos (by simp;omega),if_pos h]
  rfl
 ·rw[if_neg (by simp;omega),if_neg h]
  rfl
theorem St.var{P:Program}{H0:Base}{os:List Ob}(hS:St P H0 H os)(i:Nat){A n:Nat}{cs:List Value}(ho:os[i]? =some ⟨ptr A 0 n,0,cs⟩):Var H A n cs:=by
 obtain⟨h1,ty,lo,ver,h2,h3⟩:=hS.cell i ho
 exact⟨h1,ty,true,lo,ver,h2,h3⟩
theorem St.va{H0:Heap}{os:List Ob}(hS:St P H0 H os){A n:Nat}{cs:List Value}(h:Var H0 A n cs):Var H A n cs:=h.ae hS.ae
end
theorem sP{P:Program}(t t2:TypeId)(cx cy:Bool)(u x:UInt8):kR P .add t t2 cx cy (.string ⟨#[u]⟩) (.string ⟨#[x]⟩)=some (.string ⟨#[u,x]⟩):=by
 rw[a7f _ _ _ _ _ _ (by show 1+1<9223372036854775808;decide)]
 rfl
theorem vU{P:Program}{H:Heap}{s t:TypeId}{v:Value}{n:Int}(h:RdAt H v 1 [.int .u8 n])(hs:lF P s=true)(ht:oW P t=true)(hbt:lF P t=false)(h0:0≤n)(h1:n<256)(K:Value→Heap→Prop):
 tS P s t H v K=K (.string ⟨#[UInt8.ofNat n.toNat]⟩) H:=by
 obtain⟨m,rfl⟩:∃m:Nat,n=Int.ofNat m:=⟨n.toNat,by simp[fj h0]⟩
 have hm:m<256:=by have:(m:Int)<256:=h1;omega
 rcases h with⟨_,h⟩|⟨A,i,e,row,ty,rw,lo,ver,k,g1,g2,g3,g4,g5,g6,rfl⟩
 ·cases h
 have hk:k=1:=by simp at g6;omega
 subst hk
 have hc:jF H A i e 1=some [.int .u8 (Int.ofNat m)]:=by
  simp only[jF,g1]
  rw[if_pos (by simp at g4 ⊢;omega)]
  exact congrArg some g5
 have hb:nG [.int .u8 (Int.ofNat m)]=some ⟨#[UInt8.ofNat m]⟩:=by simp[nG,a1G,a0Z,hm]
 have hd:opD P ⟨none,.convert s t (.const (.slice (some ⟨A,i,some e⟩) 1 1)),t,"",#[],none⟩ [] H=some (.string ⟨#[UInt8.ofNat m]⟩,H):=by
  have hf:flat (.slice (some ⟨A,i,some e⟩) 1 1)=false:=rfl
  simp only[opD,ev,hf,hs,ht,hc,hb,fP,dR,if_false,Bool.and_self,if_true,dc,dS]
 unfold tS
 rw[hd]
 apply propext
 constructor
 ·rintro⟨v,H1,h2,h3⟩
  injection (da h2)with e1 e2
  subst e1 e2
  exact h3
 ·intro h3
  exact⟨_,_,rfl,h3⟩
theorem b8k{P:Program}{t:TypeId}{n:Nat}{elem:TypeId}{size:Nat}(ha:P.underlying t=some (.array n elem))(hs:iF P elem=some size)(A i e:Nat)(k:IntKind)(j:Int)(h0:0≤j)(h1:j<n):
 a1s (jB P t) P t (ptr A i e) (.int k j)=some (ptr A (i+j.toNat*size) e):=by
 have hn:jB P t=none:=by simp[jB,iJ,ha]
 rw[hn]
 simp only[a1s,a2X,ha,ptr,hs,dc]
 rw[if_pos (by simp[h0,h1])]
end
end Go.Ds
namespace Go.Ds
section
variable {P:Program}
def c0S(inv:List Nat)(e:Edge):Edge:={e with on:=inv.getD e.on 0}
def zD(inv:List Nat)(o:Oper):Oper:={o with after:=o.after.map (c0S inv),guard:=o.guard.map fun g=>(inv.getD g.1 0,g.2)}
def kE(π inv:List Nat)(ops:Array Oper):Array Oper:=(π.map fun i=>zD inv (ops.getD i default)).toArray
def b0g(π inv:List Nat)(ops:Array Oper):Bool:=
 decide (π.length=ops.size)&&decide (inv.length=ops.size)&&(List.range ops.size).all (fun i=>decide (π.getD i 0<ops.size)&&decide (inv.getD i 0<ops.size)&&decide (inv.getD (π.getD i 0) 0=i)&&decide (π.getD (inv.getD i 0) 0=i))&&
 ops.toList.all fun o=>o.after.toList.all (fun e=>decide (e.on<ops.size))&&(match o.guard with|some g=>decide (g.1<ops.size)|none=>true)
structure Perm(π inv:List Nat)(ops:Array Oper):Prop where
 len:π.length=ops.size
 pi:∀i,i<ops.size→π.getD i 0<ops.size
 iv:∀i,i<ops.size→inv.getD i 0<ops.size
 ip:∀i,i<ops.size→inv.getD (π.getD i 0) 0=i
 pv:∀i,i<ops.size→π.getD (inv.getD i 0) 0=i
 edge:∀(i:Nat)(o:Oper),ops[i]? =some o→∀e∈o.after,e.on<ops.size
 guard:∀(i:Nat)(o:Oper)(g:Nat×Bool),ops[i]? =some o→o.guard=some g→g.1<ops.size
theorem b8d{π inv:List Nat}{ops:Array Oper}(h:b0g π inv ops=true):Perm π inv ops:=by
 unfold b0g at h
 simp only[de,decide_eq_true_eq,dx,dz]at h
 obtain⟨⟨⟨h1,h2⟩,h3⟩,h4⟩:=h
 refine⟨h1,fun i hi=>(h3 i hi).1.1.1,fun i hi=>(h3 i hi).1.1.2,fun i hi=>(h3 i hi).1.2,fun i hi=>(h3 i hi).2,fun i o ho e he=> ?_,fun i o g ho hg=> ?_⟩
 ·exact(h4 o (dW (i:=i) (by simpa using ho))).1 e (by simpa using he)
 ·have:=(h4 o (dW (i:=i) (by simpa using ho))).2
  rw[hg]at this
  simpa using this
variable {π inv:List Nat} {ops:Array Oper}
theorem a5S(p:Nat):(kE π inv ops)[p]? =(π[p]?).map fun i=>zD inv (ops.getD i default):=by
 simp[kE]
theorem qS(D:Perm π inv ops){p i:Nat}{o:Oper}(hp:p<ops.size)(hi:π.getD p 0=i)(ho:ops[i]? =some o):(kE π inv ops)[p]? =some (zD inv o):=by
 rw[a5S]
 have h1:π[p]? =some i:=by
  rw[dh]at hi
  rw[dA (by rw[D.len];exact hp)]at hi ⊢
  simpa using hi
 rw[h1]
 simp only[dS]
 rw[ed,ho]
 rfl
theorem qG(D:Perm π inv ops):(kE π inv ops).size=ops.size:=by simp[kE,D.len]
theorem a5x(D:Perm π inv ops)(tmps:Array Value){j:Nat}(hj:j<ops.size):yielded (kE π inv ops) tmps (inv.getD j 0)=yielded ops tmps j:=by
 have ho:ops[j]? =some ops[j]:=dp.2 ⟨hj,rfl⟩
 unfold yielded
 rw[qS D (D.iv j hj) (D.pv j hj) ho,ho]
 rfl
theorem a6b(D:Perm π inv ops)(tmps:Array Value){i:Nat}{o:Oper}(ho:ops[i]? =some o):Region.wanted (zD inv o) (yielded (kE π inv ops) tmps)=Region.wanted o (yielded ops tmps):=by
 unfold Region.wanted
 have e:(zD inv o).guard=o.guard.map fun g=>(inv.getD g.1 0,g.2):=rfl
 rw[e]
 cases hg:o.guard with
 | none=>rfl
 | some g=>
   simp only[dS]
   rw[a5x D tmps (D.guard i o g ho hg)]
theorem b8S(ro:Option Nat)(ρ:Operand→Value)(o:Oper):(zD inv o).semAt ro ρ=o.semAt ro ρ:=by
 obtain⟨dst,op,type,pos,after,guard⟩:=o
 rfl
theorem b3u(w:World)(ρ:Operand→Value)(o:Oper):(zD inv o).about P w ρ=o.about P w ρ:=by
 obtain⟨dst,op,type,pos,after,guard⟩:=o
 rfl
theorem b6x(F:Fence)(n:Nat)(o:Oper)(a:Act)(next:Act→World→Prop)(Q:Exit→Act→World→Prop)(r:Result Next):(zD inv o).uponIn F n P a next Q r=o.uponIn F n P a next Q r:=by
 obtain⟨dst,op,type,pos,after,guard⟩:=o
 cases r with
 | ok x w=>cases x<;>rfl
 | halt x w=>cases x<;>rfl
theorem b3h(D:Perm π inv ops)(F:Fence)(n:Nat)(Q:Exit→Act→World→Prop){i:Nat}(hi:i<ops.size)(K:Act→World→Prop)(a:Act)(w:World):
 wpOpIn F n P (kE π inv ops) Q (inv.getD i 0) K a w=wpOpIn F n P ops Q i K a w:=by
 have ho:ops[i]? =some ops[i]:=dp.2 ⟨hi,rfl⟩
 unfold wpOpIn
 rw[qS D (D.iv i hi) (D.pv i hi) ho,ho]
 simp only[a6b D a.tmps ho,Oper.wpIn,b3u,b6x,b8S]
 rfl
def c0A(inv:List Nat)(n:Nat)(listed listed':Array Bool):Prop:=listed.size=n∧listed'.size=n∧∀i,i<n→listed.getD i false=listed'.getD (inv.getD i 0) false
theorem wN(D:Perm π inv ops){listed listed':Array Bool}(hc:c0A inv ops.size listed listed'){i:Nat}(hi:i<ops.size):
 i∈Region.ready .any ops listed↔inv.getD i 0∈Region.ready .any (kE π inv ops) listed':=by
 have ho:ops[i]? =some ops[i]:=dp.2 ⟨hi,rfl⟩
 have ho':=qS D (D.iv i hi) (D.pv i hi) ho
 have hsz:=qG D
 obtain⟨c1,c2,c3⟩:=hc
 constructor
 ·intro h
  obtain⟨o,h1,h2,h3⟩:=pF c1 h
  rw[ho]at h1
  obtain rfl:=da h1
  refine zN (by rw[hsz];exact c2) ho' (by rw[←c3 i hi];exact h2) ?_
  intro e he hb
  have he':e∈(ops[i]).after.map (c0S inv):=he
  obtain⟨e0,he0,rfl⟩:=Array.mem_map.1 he'
  have:=h3 e0 he0 hb
  show listed'.getD (inv.getD e0.on 0) false=true
  rw[←c3 _ (D.edge i _ ho e0 he0)]
  exact this
 ·intro h
  obtain⟨o,h1,h2,h3⟩:=pF (by rw[hsz];exact c2) h
  rw[ho']at h1
  obtain rfl:=da h1
  refine zN c1 ho (by rw[c3 i hi];exact h2) ?_
  intro e he hb
  have:=h3 (c0S inv e) (Array.mem_map.2 ⟨e,he,rfl⟩) hb
  rw[c3 _ (D.edge i _ ho e he)]
  exact this
theorem b4h(D:Perm π inv ops)(F:Fence)(k:Nat){Q:Exit→Act→World→Prop}:∀(fuel:Nat)(listed listed':Array Bool)(a:Act)(w:World),c0A inv ops.size listed listed'→
 wpAnyIn F k P .any (kE π inv ops) Q fuel listed' a w→wpAnyIn F k P .any ops Q fuel listed a w:=by
 have hsz:=qG D
 have nil1:∀{listed listed':Array Bool},c0A inv ops.size listed listed'→(Region.ready .any ops listed=[]↔Region.ready .any (kE π inv ops) listed'=[]):=by
  intro listed listed' hc
  constructor
  ·intro h
   cases hr:Region.ready .any (kE π inv ops) listed' with
   | nil=>rfl
   | cons p r=>
     exfalso
     have hp:p∈Region.ready .any (kE π inv ops) listed':=by rw[hr];exact dY ..
     obtain⟨o,h1,_,_⟩:=pF (by rw[hsz];exact hc.2.1) hp
     have hpn:p<ops.size:=by rw[←hsz];exact(dp.1 h1).1
     have:=(wN D hc (D.pi p hpn)).2 (by rw[D.ip p hpn];exact hp)
     rw[h]at this
     cases this
  ·intro h
   cases hr:Region.ready .any ops listed with
   | nil=>rfl
   | cons i r=>
     exfalso
     have hi:i∈Region.ready .any ops listed:=by rw[hr];exact dY ..
     obtain⟨o,h1,_,_⟩:=pF hc.1 hi
     have:=(wN D hc (dp.1 h1).1).1 hi
     rw[h]at this
     cases this
 intro fuel
 induction fuel with
 | zero=>
   intro listed listed' a w hc h
   exact⟨(nil1 hc).2 h.1,h.2⟩
 | succ fuel ih=>
   intro listed listed' a w hc h
   refine⟨fun hn=>h.1 ((nil1 hc).1 hn),fun i hi=> ?_⟩
   obtain⟨o,h1,_,_⟩:=pF hc.1 hi
   have hin:=(dp.1 h1).1
   have h2:=h.2 _ ((wN D hc hin).1 hi)
   rw[b3h D F k Q hin]at h2
   refine wpOpIn_mono (fun a' w' h3=>ih _ _ a' w' ⟨by simpa using hc.1,by simpa using hc.2.1,fun j hj=> ?_⟩ h3) h2
   have e1:=sY (listed:=listed) (i:=i) (by rw[hc.1];exact hin) j
   have e2:=sY (listed:=listed') (i:=inv.getD i 0) (by rw[hc.2.1];exact D.iv i hin) (inv.getD j 0)
   have e3:(inv.getD j 0=inv.getD i 0)↔j=i:=⟨fun h=>by rw[←D.pv j hj,h,D.pv i hin],fun h=>by rw[h]⟩
   rw[eH,e1,e2,e3,hc.2.2 j hj]
end
section
variable {P:Program} {H:Heap} {π inv:List Nat} {ops:Array Oper}
theorem Sim.cH(kG:P.follows .mixedOrders=true){id:Nat}(Dp:Perm π inv ops){fl:Fl}(D:Draw P fl (kE π inv ops)){T:Nat→List Value×Heap}{val:Nat→Value}(X:Text P (kE π inv ops) T val)
 (hread:∀i m o,(i,m)∈mM fl (kE π inv ops)→(kE π inv ops)[i]? =some o→Region.wanted o (iX (kE π inv ops) (T i).1)=true→∃H2,opD P o (T i).1 (T m).2=some (val i,H2)):
 Sim P (.region id ops true) (T 0).1 (T 0).2 .normal (T ops.size).1 (T ops.size).2:=by
 intro ro k B ρ w a hr hE hl hM hB
 have hsz:=qG Dp
 have:=a3l D X hread ro k B hr hE hM
 rw[hsz]at this
 exact wpIn_region_any kG (b4h Dp (fe ro) k ops.size _ _ a _ ⟨by simp,by simp,fun i hi=>by
  have:=Dp.iv i hi
  simp only[ed,Array.getElem?_replicate,hi,this,if_true]⟩ this)
theorem a2Z(D:Perm π inv ops)(l:List Value){j:Nat}(hj:j<ops.size):iX (kE π inv ops) l (inv.getD j 0)=iX ops l j:=by
 have ho:ops[j]? =some ops[j]:=dp.2 ⟨hj,rfl⟩
 unfold iX
 rw[qS D (D.iv j hj) (D.pv j hj) ho,ho]
 rfl
theorem zG(D:Perm π inv ops)(l:List Value){i:Nat}{o:Oper}(ho:ops[i]? =some o):Region.wanted (zD inv o) (iX (kE π inv ops) l)=Region.wanted o (iX ops l):=by
 unfold Region.wanted
 have e:(zD inv o).guard=o.guard.map fun g=>(inv.getD g.1 0,g.2):=rfl
 rw[e]
 cases hg:o.guard with
 | none=>rfl
 | some g=>
   simp only[dS]
   rw[a2Z D l (D.guard i o g ho hg)]
theorem b1b(o:Oper)(l:List Value)(K:Value→Heap→Prop):lW P (zD inv o) l H K=lW P o l H K:=by
 obtain⟨dst,op,type,pos,after,guard⟩:=o
 rfl
theorem a4a(D:Perm π inv ops):∀(os:List Oper)(tr:List (List Value×Heap×Value))(l:List Value)(H:Heap)(K:List (List Value×Heap×Value)→List Value→Heap→Prop),(∀o∈os,∃i:Nat,ops[i]? =some o)→
 mL P (kE π inv ops) (os.map (zD inv)) tr l H K=mL P ops os tr l H K
 | [],_,_,_,_,_=>rfl
 | o::os,tr,l,H,K,h=>by
   obtain⟨i,ho⟩:=h o (by simp)
   have ih:=fun tr l H=>a4a D os tr l H K fun o ho=>h o (by simp[ho])
   rw[dU,mL,mL,zG D l ho]
   have e:(zD inv o).dst=o.dst:=rfl
   simp only[b1b,e,ih]
def c1i(o:Option Oper)(os:List Oper):List Oper:=match o with|some o=>o::os|none=>os
def sel(os:List Oper):List Nat→List Oper
 | []=>[]
 | i::π=>c1i os[i]? (sel os π)
theorem b7k(os:List Oper):sel os []=[]:=rfl
theorem a6f(os:List Oper)(i:Nat)(π:List Nat):sel os (i::π)=c1i os[i]? (sel os π):=rfl
theorem a3L(o:Oper)(os:List Oper):c1i (some o) os=o::os:=rfl
theorem a9X(os:List Oper):∀(π:List Nat),(∀i∈π,i<os.length)→sel os π=π.map fun i=>os.toArray.getD i default
 | [],_=>rfl
 | i::π,h=>by
   have hi:=h i (by simp)
   rw[a6f,a9X os π fun j hj=>h j (by simp[hj]),dA hi,a3L,dU]
   congr 1
   simp[ed,hi]
def zQ(P:Program)(os:List Oper)(tr:List (List Value×Heap×Value))(H1:Heap)(π:List Nat):List (Nat×Nat)→Prop
 | []=>True
 | (p,m)::r=>rdW P os.toArray (os[π.getD p 0]?) tr[p]? (trH tr[m]? H1)∧zQ P os tr H1 π r
theorem a8r(os:List Oper)(tr)(H1:Heap)(π:List Nat):zQ P os tr H1 π []=True:=rfl
theorem a6B(os:List Oper)(tr)(H1:Heap)(π:List Nat)(p m:Nat)(r:List (Nat×Nat)):zQ P os tr H1 π ((p,m)::r)=(rdW P os.toArray (os[π.getD p 0]?) tr[p]? (trH tr[m]? H1)∧zQ P os tr H1 π r):=rfl
theorem a2B{os:List Oper}{tr}{H1:Heap}{π:List Nat}:∀{tab:List (Nat×Nat)},zQ P os tr H1 π tab→∀x∈tab,rdW P os.toArray (os[π.getD x.1 0]?) tr[x.1]? (trH tr[x.2]? H1)
 | [],_,x,hx=>by cases hx
 | (i,m)::r,h,x,hx=>by
   rcases eM.1 hx with rfl|hx
   ·exact h.1
   ·exact a2B h.2 x hx
theorem Wp.bW(kG:P.follows .mixedOrders=true){id:Nat}{os:List Oper}{l:List Value}{Q:nN}(π inv:List Nat)(fl:Fl)(tab:List (Nat×Nat))(hp:b0g π inv os.toArray=true)
 (htab:a1v P fl (kE π inv os.toArray)=some tab) (hn:tZ (kE π inv os.toArray) tab=true)
 (h:mL P os.toArray (sel os π) [] l H fun tr l1 H1=>Q .normal l1 H1∧zQ P os tr H1 π tab):Wp P (.region id os.toArray true) l H Q:=by
 have Dp:=b8d hp
 obtain⟨D,htb⟩:=a2W htab
 have hsz:=qG Dp
 have hmem:∀i∈π,i<os.length:=fun i hi=>by
  obtain⟨p,hpl,hpe⟩:=dT.1 hi
  have:=Dp.pi p (by rw[←Dp.len];exact hpl)
  rw[dh,dA hpl,fi,hpe]at this
  simpa using this
 have hsel:(sel os π).map (zD inv)=(kE π inv os.toArray).toList:=by
  rw[a9X os π hmem]
  simp[kE]
 rw[←a4a Dp (sel os π) [] l H _ (fun o ho=>by
  rw[a9X os π hmem,dD]at ho
  obtain⟨i,hi,rfl⟩:=ho
  have:=hmem i hi
  exact⟨i,by simp[ed,this]⟩),hsel]at h
 obtain⟨T,val,l',H',ext,h0,h1,h2,h3,h4,h5,h6⟩:=uI (kE π inv os.toArray).toList 0 rfl [] l H h
 have hlen:(kE π inv os.toArray).toList.length=os.toArray.size:=by rw[fE,hsz]
 rw[hlen]at h1 h2 h3 h4
 have:=Sim.cH kG (id:=id) Dp D (T:=T) (val:=val) ⟨fun k hk=>by rw[hsz]at hk;simpa using h4 k hk⟩ fun i m o hm ho hw=>by
  rw[←htb]at hm
  have hr:=a2B h6 (i,m) hm
  have hi:i<os.toArray.size:=by rw[←hsz];exact(dp.1 ho).1
  have hpi:=Dp.pi i hi
  have hoo:os.toArray[π.getD i 0]? =some (os.toArray[π.getD i 0]):=dp.2 ⟨hpi,rfl⟩
  have hat:=qS (inv:=inv) Dp hi rfl hoo
  rw[ho]at hat
  have hat:=da hat
  have hoo':os[π.getD i 0]? =some (os.toArray[π.getD i 0]):=by rw[←hoo];simp
  simp only[fp]at hr
  rw[hoo',h3 i hi]at hr
  unfold rdW at hr
  rw[hat,zG Dp _ hoo]at hw
  have hr:=hr hw
  have hno:zF o=true:=by
   unfold tZ at hn
   have:=dx.1 hn (i,m) hm
   simpa [ho]using this
  have hTm:trH ext[m]? H'=(T m).2∨os.toArray.size<m:=by
   unfold trH
   by_cases hm2:m<os.toArray.size
   ·left;rw[h3 m hm2]
   ·by_cases hm3:m=os.toArray.size
    ·left
     rw[ew (by omega),hm3,h1]
    ·right;omega
  rcases hTm with hTm|hTm
  ·rw[hTm,←b1b (inv:=inv),←hat]at hr
   obtain⟨v,H2,h7,h8⟩:=b0w hno hr
   exact⟨H2,by rw[h7,h8]⟩
  ·exfalso
   rw[htb]at hm
   have:=a1Y hm
   rw[hsz]at this
   omega
 rw[h0,h1]at this
 exact⟨_,_,_,this,h5⟩
end
def RA:=
 And.intro @b7X<|And.intro @b4s<|And.intro @b8W<|And.intro @c1j<|And.intro @c1I<|And.intro @b6m<|And.intro @b8m<|And.intro @c1e<|And.intro @b7v<|And.intro @b7t<|And.intro @b6j<|And.intro @a7M<|And.intro @b1X<|And.intro @b5n<|And.intro @b2v<|And.intro @a8S<|And.intro @a8I<|And.intro @a6m<|And.intro @b6C<|And.intro @a8z<|And.intro @b6t<|And.intro @b5w<|And.intro @b2M<|And.intro @b1Z<|And.intro @b9g<|And.intro @b1Q<|And.intro @a1M<|And.intro @a3d<|And.intro @a8g<|And.intro @b4Q<|And.intro @b2S<|And.intro @b7A<|And.intro @a2V<|And.intro @a3j<|And.intro @b4t<|And.intro @c1d<|And.intro @a6h<|And.intro @a5X<|And.intro @b3j<|And.intro @b5p<|And.intro @a4w<|And.intro @a8N<|And.intro @a8R<|And.intro @a9d<|And.intro @a8O<|And.intro @a6X<|And.intro @a2P<|And.intro @a5q<|And.intro @a1A<|And.intro @b3x<|And.intro @b7D<|And.intro @b9b<|And.intro @b5m<|And.intro @a9W<|And.intro @b3k<|And.intro @b1u<|And.intro @a9v<|And.intro @a9o<|And.intro @a7q<|And.intro @a6c<|And.intro @b6u<|And.intro @b1q<|And.intro @a3f<|And.intro @a9A<|And.intro @a7t<|And.intro @a2R<|And.intro @a7Y<|And.intro @a9S<|And.intro @a6a<| @b3S
def RB:=
 And.intro @b7q<|And.intro @a8Z<|And.intro @a8u<|And.intro @b2L<|And.intro @a8C<|And.intro @a7k<|And.intro @a7w<|And.intro @b6I<|And.intro @a6s<|And.intro @a6V<|And.intro @b9l<|And.intro @b2x<|And.intro @a9q<|And.intro @b8u<|And.intro @b9k<|And.intro @b7w<|And.intro @b6S<|And.intro @a8J<|And.intro @a6U<|And.intro @b7j<|And.intro @c0I<|And.intro @b4V<|And.intro @b3H<|And.intro @a8D<|And.intro @b8h<|And.intro @b7R<|And.intro @b6q<|And.intro @b2j<|And.intro @b1v<|And.intro @b2B<|And.intro @b2k<|And.intro @b2p<|And.intro @b1M<|And.intro @b1T<|And.intro @b1F<|And.intro @b3e<|And.intro @b2Q<|And.intro @b3f<|And.intro @b2Z<|And.intro @b6E<|And.intro @b2P<|And.intro @a5b<|And.intro @b2O<|And.intro @b2g<|And.intro @b1H<|And.intro @b2H<|And.intro @b1z<|And.intro @b5H<|And.intro @b4b<|And.intro @b6r<|And.intro @b8E<|And.intro @b5f<|And.intro @a7R<|And.intro @a9c<|And.intro @a9p<|And.intro @b9q<|And.intro @b4I<|And.intro @a7I<|And.intro @b3X<|And.intro @b4F<|And.intro @b2n<|And.intro @a8A<|And.intro @b4C<|And.intro @b2q<|And.intro @a9r<|And.intro @b2K<|And.intro @b5Y<|And.intro @b0e<|And.intro @b1B<|And.intro @b2W<|And.intro @a9N<|And.intro @b2f<|And.intro @a9e<|And.intro @b7k<|And.intro @a6f<|And.intro @a3L<|And.intro @a8r<|And.intro @a6B<|And.intro @b7x<|And.intro @b6h<|And.intro @b1P<|And.intro @b6A<|And.intro @b6M<|And.intro @b3w<|And.intro @b4l<|And.intro @b1p<|And.intro @a5t<|And.intro @a8y<|And.intro @a7B<|And.intro @a9a<|And.intro @a9K<|And.intro @b3T<|And.intro @b4f<|And.intro @b1x<|And.intro @b3F<|And.intro @a6O<|And.intro @a4K<|And.intro @a7p<|And.intro @a6k<|And.intro @a7c<|And.intro @c3J<|And.intro @c2R<|And.intro @b8r<|And.intro @b8s<|And.intro @b5b<|And.intro @b4o<|And.intro @b4E<|And.intro @b0f<|And.intro @b8C<|And.intro @b5q<|And.intro @b7d<|And.intro @rU<|And.intro @b6a<|And.intro @b5z<| @b6W
theorem RT:
 (∀{α:Type}(l:List α),[]++l=l)∧
 (∀{α:Type}(l:List α),l++[]=l)∧
 (∀{α:Type}{a:α}{l m:List α},a::l++m=a::(l++m))∧
 (∀(cs:List Value)(i:Nat)(v:Value)(vs:List Value),iZ cs i (v::vs)=iZ (cs.set i v) (i+1) vs)∧
 (∀(cs:List Value)(i:Nat),iZ cs i []=cs)∧
 (∀{α:Type}{x:α}{xs:List α}{a:α},(x::xs).set 0 a=a::xs)∧
 (∀{α:Type}{x:α}{xs:List α}{i:Nat}{a:α},(x::xs).set (i+1) a=x::xs.set i a)∧
 (∀(n:Nat),0+n=n)∧
 (∀(n:Nat),n*1=n)∧
 (∀(n:Nat),n+0=n):=
 ⟨@List.nil_append, @List.append_nil, @List.cons_append, @kW, @oA, @List.set_cons_zero, @List.set_cons_succ, @Nat.zero_add, @Nat.mul_one, @Nat.add_zero⟩
end Go.Ds
namespace Go.Ds
open Go.Proofs Go.Proofs.Tryz
abbrev I(n:Int):Value:=.int .i64 n
theorem sR(H:Heap):St prog H H []:=.refl ..
theorem kG:prog.follows .mixedOrders=true:=by kernel_rfl
theorem tS3:iF prog 3=some 1:=by kernel_rfl
theorem tS9:iF prog 9=some 1:=by kernel_rfl
theorem b7e:iF prog 26=some 3:=by kernel_rfl
theorem c1y:iF prog 27=some 5:=by kernel_rfl
theorem c2v:iF prog 32=some 1:=by kernel_rfl
theorem c3s:iF prog 33=some 1:=by kernel_rfl
theorem b6V:iF prog 34=some 1:=by kernel_rfl
theorem nJ:iF prog 36=some 4:=by kernel_rfl
theorem b7P:iF prog 38=some 1:=by kernel_rfl
theorem a4L:iF prog 39=some 1:=by kernel_rfl
theorem mQ:iF prog 41=some 3:=by kernel_rfl
theorem c1F:iF prog 44=some 1:=by kernel_rfl
theorem b3c:iF prog 50=some 1:=by kernel_rfl
theorem qC:iF prog 53=some 2:=by kernel_rfl
theorem pT:iF prog 56=some 2:=by kernel_rfl
theorem zJ:iF prog 60=some 2:=by kernel_rfl
theorem zY:iF prog 73=some 2:=by kernel_rfl
theorem c3b:iF prog 74=some 1:=by kernel_rfl
theorem a2U:iF prog 76=some 6:=by kernel_rfl
theorem b7I:iF prog 85=some 1:=by kernel_rfl
theorem a9D:iF prog 90=some 2:=by kernel_rfl
theorem c2X:iF prog 91=some 1:=by kernel_rfl
theorem a3h:iF prog 93=some 5:=by kernel_rfl
theorem b4D:iF prog 97=some 1:=by kernel_rfl
theorem a0D:iF prog 104=some 3:=by kernel_rfl
theorem b0n:iF prog 107=some 4:=by kernel_rfl
theorem b3P:iF prog 111=some 9:=by kernel_rfl
theorem vZ:iF prog 113=some 1:=by kernel_rfl
theorem nA:iF prog 115=some 4:=by kernel_rfl
theorem b4c:iF prog 118=some 4:=by kernel_rfl
theorem b0z:iF prog 120=some 4:=by kernel_rfl
theorem wI:iF prog 122=some 5:=by kernel_rfl
theorem a0J:iF prog 150=some 1:=by kernel_rfl
theorem a0L:iF prog 155=some 2:=by kernel_rfl
theorem a1x:iF prog 158=some 3:=by kernel_rfl
theorem b6o:iF prog 205=some 1:=by kernel_rfl
theorem b0U:iF prog 244=some 3:=by kernel_rfl
theorem nM:lF prog 112=true∧oW prog 9=true∧lF prog 9=false:=⟨by kernel_rfl,by kernel_rfl,by kernel_rfl⟩
theorem c5H(A i e:Nat)(k:IntKind)(j:Int)(h0:0≤j)(h1:j<5):a1s (jB prog 27) prog 27 (ptr A i e) (.int k j)=some (ptr A (i+j.toNat*1) e):=b8k (n:=5) (elem:=5) (size:=1) (by kernel_rfl) (by kernel_rfl) A i e k j h0 h1
theorem c2b:mN prog 32=some (6,80):=by kernel_rfl
theorem c2u:((iJ prog 32).bind (jA prog)).any jD=true:=by kernel_rfl
theorem c0U:mN prog 33=some (5,64):=by kernel_rfl
theorem c3g:((iJ prog 33).bind (jA prog)).any jD=true:=by kernel_rfl
theorem a8X:mN prog 34=some (5,48):=by kernel_rfl
theorem b8T:((iJ prog 34).bind (jA prog)).any jD=true:=by kernel_rfl
theorem a9Z:mN prog 38=some (1,8):=by kernel_rfl
theorem b7i:((iJ prog 38).bind (jA prog)).any jD=true:=by kernel_rfl
theorem tG:mN prog 50=some (2,16):=by kernel_rfl
theorem a1y:((iJ prog 50).bind (jA prog)).any jD=true:=by kernel_rfl
theorem c0t:mN prog 57=some (2,16):=by kernel_rfl
theorem c5l:((iJ prog 57).bind (jA prog)).any jD=true:=by kernel_rfl
theorem a2O:mN prog 74=some (1,8):=by kernel_rfl
theorem a6u:((iJ prog 74).bind (jA prog)).any jD=true:=by kernel_rfl
theorem b2h:mN prog 85=some (1,24):=by kernel_rfl
theorem c2i:((iJ prog 85).bind (jA prog)).any jD=true:=by kernel_rfl
theorem c0y:mN prog 91=some (4,56):=by kernel_rfl
theorem c3z:((iJ prog 91).bind (jA prog)).any jD=true:=by kernel_rfl
theorem a7n:mN prog 97=some (3,24):=by kernel_rfl
theorem b8X:((iJ prog 97).bind (jA prog)).any jD=true:=by kernel_rfl
theorem b1d:mN prog 112=some (1,1):=by kernel_rfl
theorem b1j:((iJ prog 112).bind (jA prog)).any jD=true:=by kernel_rfl
theorem pZ:mN prog 113=some (3,40):=by kernel_rfl
theorem wF:((iJ prog 113).bind (jA prog)).any jD=true:=by kernel_rfl
theorem c3T:mN prog 138=some (3,40):=by kernel_rfl
theorem c4n:((iJ prog 138).bind (jA prog)).any jD=true:=by kernel_rfl
theorem a4d:mN prog 150=some (1,24):=by kernel_rfl
theorem b6i:((iJ prog 150).bind (jA prog)).any jD=true:=by kernel_rfl
theorem a3F:mN prog 156=some (2,16):=by kernel_rfl
theorem a3r:((iJ prog 156).bind (jA prog)).any jD=true:=by kernel_rfl
theorem c3k:mN prog 163=some (1,16):=by kernel_rfl
theorem c4p:((iJ prog 163).bind (jA prog)).any jD=true:=by kernel_rfl
theorem b9x:mN prog 194=some (2,16):=by kernel_rfl
theorem b9K:((iJ prog 194).bind (jA prog)).any jD=true:=by kernel_rfl
theorem b9M:mN prog 199=some (2,16):=by kernel_rfl
theorem c3C:((iJ prog 199).bind (jA prog)).any jD=true:=by kernel_rfl
theorem c3B(t2:TypeId)(cx cy:Bool)(a0:Int)(a1:Int)(b0:Int)(b1:Int):kR prog .eql 53 t2 cx cy (.agg #[.int .i64 a0,.int .i64 a1]) (.agg #[.int .i64 b0,.int .i64 b1])=some (.bool (decide (a0=b0∧a1=b1)))∧kR prog .neq 53 t2 cx cy (.agg #[.int .i64 a0,.int .i64 a1]) (.agg #[.int .i64 b0,.int .i64 b1])=some (.bool (decide (¬(a0=b0∧a1=b1)))):=by
 have h:=uF (P:=prog) (t:=53) (t2:=t2) (cx:=cx) (cy:=cy) (xs:=[.int .i64 a0,.int .i64 a1]) (ys:=[.int .i64 b0,.int .i64 b1]) (by kernel_rfl) (by kernel_rfl) (by kernel_rfl) (by kernel_rfl) rfl (by kernel_rfl) rfl rfl
 have e:((List.range [Value.int .i64 a0,.int .i64 a1].length).all fun j=>zH ([Value.int .i64 a0,.int .i64 a1].getD j undef) ([Value.int .i64 b0,.int .i64 b1].getD j undef))=decide (a0=b0∧a1=b1):=by
  show(zH (Value.int .i64 a0) (.int .i64 b0)&&(zH (Value.int .i64 a1) (.int .i64 b1)&&true))=_
  rw[eH]
  simp[zH]
 rw[e]at h
 exact⟨h.1,by rw[h.2];simp⟩
theorem c2Z(t2:TypeId)(cx cy:Bool)(a0:Int)(a1:Int)(b0:Int)(b1:Int):kR prog .eql 53 t2 cx cy (.agg #[.int .i64 a0,.int .i64 a1]) (.agg #[.int .i64 b0,.int .i64 b1])=some (.bool (decide (a0=b0∧a1=b1))):=(c3B t2 cx cy a0 a1 b0 b1).1
theorem c4u(t2:TypeId)(cx cy:Bool)(a0:Int)(a1:Int)(b0:Int)(b1:Int):kR prog .neq 53 t2 cx cy (.agg #[.int .i64 a0,.int .i64 a1]) (.agg #[.int .i64 b0,.int .i64 b1])=some (.bool (decide (¬(a0=b0∧a1=b1)))):=(c3B t2 cx cy a0 a1 b0 b1).2
theorem c2O(t2:TypeId)(cx cy:Bool)(a0:Int)(a1:Int)(b0:Int)(b1:Int):kR prog .eql 56 t2 cx cy (.agg #[.int .u64 a0,.int .u64 a1]) (.agg #[.int .u64 b0,.int .u64 b1])=some (.bool (decide (a0=b0∧a1=b1)))∧kR prog .neq 56 t2 cx cy (.agg #[.int .u64 a0,.int .u64 a1]) (.agg #[.int .u64 b0,.int .u64 b1])=some (.bool (decide (¬(a0=b0∧a1=b1)))):=by
 have h:=uF (P:=prog) (t:=56) (t2:=t2) (cx:=cx) (cy:=cy) (xs:=[.int .u64 a0,.int .u64 a1]) (ys:=[.int .u64 b0,.int .u64 b1]) (by kernel_rfl) (by kernel_rfl) (by kernel_rfl) (by kernel_rfl) rfl (by kernel_rfl) rfl rfl
 have e:((List.range [Value.int .u64 a0,.int .u64 a1].length).all fun j=>zH ([Value.int .u64 a0,.int .u64 a1].getD j undef) ([Value.int .u64 b0,.int .u64 b1].getD j undef))=decide (a0=b0∧a1=b1):=by
  show(zH (Value.int .u64 a0) (.int .u64 b0)&&(zH (Value.int .u64 a1) (.int .u64 b1)&&true))=_
  rw[eH]
  simp[zH]
 rw[e]at h
 exact⟨h.1,by rw[h.2];simp⟩
theorem c3Z(t2:TypeId)(cx cy:Bool)(a0:Int)(a1:Int)(b0:Int)(b1:Int):kR prog .eql 56 t2 cx cy (.agg #[.int .u64 a0,.int .u64 a1]) (.agg #[.int .u64 b0,.int .u64 b1])=some (.bool (decide (a0=b0∧a1=b1))):=(c2O t2 cx cy a0 a1 b0 b1).1
theorem c4q(t2:TypeId)(cx cy:Bool)(a0:Int)(a1:Int)(b0:Int)(b1:Int):kR prog .neq 56 t2 cx cy (.agg #[.int .u64 a0,.int .u64 a1]) (.agg #[.int .u64 b0,.int .u64 b1])=some (.bool (decide (¬(a0=b0∧a1=b1)))):=(c2O t2 cx cy a0 a1 b0 b1).2
theorem c2N(t2:TypeId)(cx cy:Bool)(a0:Int)(a1:Int)(b0:Int)(b1:Int):kR prog .eql 60 t2 cx cy (.agg #[.int .i64 a0,.int .i64 a1]) (.agg #[.int .i64 b0,.int .i64 b1])=some (.bool (decide (a0=b0∧a1=b1)))∧kR prog .neq 60 t2 cx cy (.agg #[.int .i64 a0,.int .i64 a1]) (.agg #[.int .i64 b0,.int .i64 b1])=some (.bool (decide (¬(a0=b0∧a1=b1)))):=by
 have h:=uF (P:=prog) (t:=60) (t2:=t2) (cx:=cx) (cy:=cy) (xs:=[.int .i64 a0,.int .i64 a1]) (ys:=[.int .i64 b0,.int .i64 b1]) (by kernel_rfl) (by kernel_rfl) (by kernel_rfl) (by kernel_rfl) rfl (by kernel_rfl) rfl rfl
 have e:((List.range [Value.int .i64 a0,.int .i64 a1].length).all fun j=>zH ([Value.int .i64 a0,.int .i64 a1].getD j undef) ([Value.int .i64 b0,.int .i64 b1].getD j undef))=decide (a0=b0∧a1=b1):=by
  show(zH (Value.int .i64 a0) (.int .i64 b0)&&(zH (Value.int .i64 a1) (.int .i64 b1)&&true))=_
  rw[eH]
  simp[zH]
 rw[e]at h
 exact⟨h.1,by rw[h.2];simp⟩
theorem c2s(t2:TypeId)(cx cy:Bool)(a0:Int)(a1:Int)(b0:Int)(b1:Int):kR prog .eql 60 t2 cx cy (.agg #[.int .i64 a0,.int .i64 a1]) (.agg #[.int .i64 b0,.int .i64 b1])=some (.bool (decide (a0=b0∧a1=b1))):=(c2N t2 cx cy a0 a1 b0 b1).1
theorem c3v(t2:TypeId)(cx cy:Bool)(a0:Int)(a1:Int)(b0:Int)(b1:Int):kR prog .neq 60 t2 cx cy (.agg #[.int .i64 a0,.int .i64 a1]) (.agg #[.int .i64 b0,.int .i64 b1])=some (.bool (decide (¬(a0=b0∧a1=b1)))):=(c2N t2 cx cy a0 a1 b0 b1).2
theorem b9Z(t2:TypeId)(cx cy:Bool)(a0:Int)(a1:Int)(a2:Int)(b0:Int)(b1:Int)(b2:Int):kR prog .eql 104 t2 cx cy (.agg #[.int .i64 a0,.int .i64 a1,.int .i64 a2]) (.agg #[.int .i64 b0,.int .i64 b1,.int .i64 b2])=some (.bool (decide (a0=b0∧a1=b1∧a2=b2)))∧kR prog .neq 104 t2 cx cy (.agg #[.int .i64 a0,.int .i64 a1,.int .i64 a2]) (.agg #[.int .i64 b0,.int .i64 b1,.int .i64 b2])=some (.bool (decide (¬(a0=b0∧a1=b1∧a2=b2)))):=by
 have h:=uF (P:=prog) (t:=104) (t2:=t2) (cx:=cx) (cy:=cy) (xs:=[.int .i64 a0,.int .i64 a1,.int .i64 a2]) (ys:=[.int .i64 b0,.int .i64 b1,.int .i64 b2]) (by kernel_rfl) (by kernel_rfl) (by kernel_rfl) (by kernel_rfl) rfl (by kernel_rfl) rfl rfl
 have e:((List.range [Value.int .i64 a0,.int .i64 a1,.int .i64 a2].length).all fun j=>zH ([Value.int .i64 a0,.int .i64 a1,.int .i64 a2].getD j undef) ([Value.int .i64 b0,.int .i64 b1,.int .i64 b2].getD j undef))=decide (a0=b0∧a1=b1∧a2=b2):=by
  show(zH (Value.int .i64 a0) (.int .i64 b0)&&(zH (Value.int .i64 a1) (.int .i64 b1)&&(zH (Value.int .i64 a2) (.int .i64 b2)&&true)))=_
  rw[eH]
  simp[zH]
 rw[e]at h
 exact⟨h.1,by rw[h.2];simp⟩
theorem c0T(t2:TypeId)(cx cy:Bool)(a0:Int)(a1:Int)(a2:Int)(b0:Int)(b1:Int)(b2:Int):kR prog .eql 104 t2 cx cy (.agg #[.int .i64 a0,.int .i64 a1,.int .i64 a2]) (.agg #[.int .i64 b0,.int .i64 b1,.int .i64 b2])=some (.bool (decide (a0=b0∧a1=b1∧a2=b2))):=(b9Z t2 cx cy a0 a1 a2 b0 b1 b2).1
theorem c0q(t2:TypeId)(cx cy:Bool)(a0:Int)(a1:Int)(a2:Int)(b0:Int)(b1:Int)(b2:Int):kR prog .neq 104 t2 cx cy (.agg #[.int .i64 a0,.int .i64 a1,.int .i64 a2]) (.agg #[.int .i64 b0,.int .i64 b1,.int .i64 b2])=some (.bool (decide (¬(a0=b0∧a1=b1∧a2=b2)))):=(b9Z t2 cx cy a0 a1 a2 b0 b1 b2).2
theorem c0b(t2:TypeId)(cx cy:Bool)(a0:Int)(a1:Int)(b0:Int)(b1:Int):kR prog .eql 155 t2 cx cy (.agg #[.int .i64 a0,.int .i64 a1]) (.agg #[.int .i64 b0,.int .i64 b1])=some (.bool (decide (a0=b0∧a1=b1)))∧kR prog .neq 155 t2 cx cy (.agg #[.int .i64 a0,.int .i64 a1]) (.agg #[.int .i64 b0,.int .i64 b1])=some (.bool (decide (¬(a0=b0∧a1=b1)))):=by
 have h:=uF (P:=prog) (t:=155) (t2:=t2) (cx:=cx) (cy:=cy) (xs:=[.int .i64 a0,.int .i64 a1]) (ys:=[.int .i64 b0,.int .i64 b1]) (by kernel_rfl) (by kernel_rfl) (by kernel_rfl) (by kernel_rfl) rfl (by kernel_rfl) rfl rfl
 have e:((List.range [Value.int .i64 a0,.int .i64 a1].length).all fun j=>zH ([Value.int .i64 a0,.int .i64 a1].getD j undef) ([Value.int .i64 b0,.int .i64 b1].getD j undef))=decide (a0=b0∧a1=b1):=by
  show(zH (Value.int .i64 a0) (.int .i64 b0)&&(zH (Value.int .i64 a1) (.int .i64 b1)&&true))=_
  rw[eH]
  simp[zH]
 rw[e]at h
 exact⟨h.1,by rw[h.2];simp⟩
theorem c1x(t2:TypeId)(cx cy:Bool)(a0:Int)(a1:Int)(b0:Int)(b1:Int):kR prog .eql 155 t2 cx cy (.agg #[.int .i64 a0,.int .i64 a1]) (.agg #[.int .i64 b0,.int .i64 b1])=some (.bool (decide (a0=b0∧a1=b1))):=(c0b t2 cx cy a0 a1 b0 b1).1
theorem c1D(t2:TypeId)(cx cy:Bool)(a0:Int)(a1:Int)(b0:Int)(b1:Int):kR prog .neq 155 t2 cx cy (.agg #[.int .i64 a0,.int .i64 a1]) (.agg #[.int .i64 b0,.int .i64 b1])=some (.bool (decide (¬(a0=b0∧a1=b1)))):=(c0b t2 cx cy a0 a1 b0 b1).2
theorem c0M{a1:ByteArray}:kI prog 36 [(0,.string a1)]=some (.agg #[.string a1,.slice none 0 0,.slice none 0 0,.slice none 0 0]):=by kernel_rfl
theorem a5k{a1:ByteArray}{a2:Value}{a3:Value}{a4:Value}(h2:a2.cells=#[a2]∧oneCell a2=true∧oG a2=true)(h3:a3.cells=#[a3]∧oneCell a3=true∧oG a3=true)(h4:a4.cells=#[a4]∧oneCell a4=true∧oG a4=true):kI prog 36 [(0,.string a1),(1,a2),(2,a3),(3,a4)]=some (.agg #[.string a1,a2,a3,a4]):=by cases a2<;>cases a3<;>cases a4<;>first|(exfalso;simp[oneCell]at h2;done)|(exfalso;simp[oneCell]at h3;done)|(exfalso;simp[oneCell]at h4;done)|kernel_rfl
theorem c4y:kI prog 41 []=some (.agg #[.slice none 0 0,.int .u64 0,.int .u64 0]):=by kernel_rfl
theorem b6w{a1:Value}(h1:a1.cells=#[a1]∧oneCell a1=true∧oG a1=true):kI prog 41 [(0,a1)]=some (.agg #[a1,.int .u64 0,.int .u64 0]):=by cases a1<;>first|(exfalso;simp[oneCell]at h1;done)|kernel_rfl
theorem b5G{a1:Value}{a2:Int}(h1:a1.cells=#[a1]∧oneCell a1=true∧oG a1=true):kI prog 41 [(0,a1),(1,.int .u64 a2)]=some (.agg #[a1,.int .u64 a2,.int .u64 0]):=by cases a1<;>first|(exfalso;simp[oneCell]at h1;done)|kernel_rfl
theorem b4S{a1:Int}{a2:Int}:kI prog 41 [(1,.int .u64 a1),(2,.int .u64 a2)]=some (.agg #[.slice none 0 0,.int .u64 a1,.int .u64 a2]):=by kernel_rfl
theorem zB{a1:Int}{a2:Int}:kI prog 53 [(0,.int .i64 a1),(1,.int .i64 a2)]=some (.agg #[.int .i64 a1,.int .i64 a2]):=by kernel_rfl
theorem b3K{a1:Int}{a2:Int}:kI prog 56 [(0,.int .u64 a1),(1,.int .u64 a2)]=some (.agg #[.int .u64 a1,.int .u64 a2]):=by kernel_rfl
theorem b9Y:kI prog 60 []=some (.agg #[.int .i64 0,.int .i64 0]):=by kernel_rfl
theorem b4n{a1:Int}{a2:Int}:kI prog 60 [(0,.int .i64 a1),(1,.int .i64 a2)]=some (.agg #[.int .i64 a1,.int .i64 a2]):=by kernel_rfl
theorem yA{a1:Int}{a2:Int}:kI prog 73 [(0,.int .i64 a1),(1,.int .i64 a2)]=some (.agg #[.int .i64 a1,.int .i64 a2]):=by kernel_rfl
theorem a5p{a1:ByteArray}{a2:ByteArray}{a3:Int}{a4:Int}{a5:Int}:kI prog 76 [(0,.string a1),(1,.string a2),(2,.agg #[.int .i64 a3,.int .i64 a4]),(3,.int .i64 a5)]=some (.agg #[.string a1,.string a2,.int .i64 a3,.int .i64 a4,.int .i64 a5,.slice none 0 0]):=by kernel_rfl
theorem a1B{a1:ByteArray}{a2:ByteArray}{a3:Int}{a4:Int}{a5:Int}{a6:Value}(h6:a6.cells=#[a6]∧oneCell a6=true∧oG a6=true):kI prog 76 [(0,.string a1),(1,.string a2),(2,.agg #[.int .i64 a3,.int .i64 a4]),(3,.int .i64 a5),(4,a6)]=some (.agg #[.string a1,.string a2,.int .i64 a3,.int .i64 a4,.int .i64 a5,a6]):=by cases a6<;>first|(exfalso;simp[oneCell]at h6;done)|kernel_rfl
theorem a7K{a1:Int}{a2:Int}:kI prog 90 [(0,.int .i64 a1),(1,.int .i64 a2)]=some (.agg #[.int .i64 a1,.int .i64 a2]):=by kernel_rfl
theorem a9L{a1:ByteArray}{a2:Bool}{a3:Int}{a4:Int}:kI prog 93 [(0,.string a1),(1,.bool a2),(2,.agg #[.int .i64 a3,.int .i64 a4])]=some (.agg #[.string a1,.bool a2,.int .i64 a3,.int .i64 a4,.slice none 0 0]):=by kernel_rfl
theorem a8p{a1:ByteArray}{a2:Int}{a3:Int}{a4:Value}(h4:a4.cells=#[a4]∧oneCell a4=true∧oG a4=true):kI prog 93 [(0,.string a1),(2,.agg #[.int .i64 a2,.int .i64 a3]),(3,a4)]=some (.agg #[.string a1,.bool false,.int .i64 a2,.int .i64 a3,a4]):=by cases a4<;>first|(exfalso;simp[oneCell]at h4;done)|kernel_rfl
theorem b2G{a1:Int}{a2:Int}:kI prog 104 [(0,.int .i64 a1),(1,.int .i64 a2)]=some (.agg #[.int .i64 a1,.int .i64 a2,.int .i64 0]):=by kernel_rfl
theorem a6G{a1:Int}{a2:Int}{a3:Int}:kI prog 104 [(0,.int .i64 a1),(1,.int .i64 a2),(2,.int .i64 a3)]=some (.agg #[.int .i64 a1,.int .i64 a2,.int .i64 a3]):=by kernel_rfl
theorem a4b{a1:Int}{a2:Int}:kI prog 104 [(0,.int .i64 a1),(2,.int .i64 a2)]=some (.agg #[.int .i64 a1,.int .i64 0,.int .i64 a2]):=by kernel_rfl
theorem b2C{a1:ByteArray}{a2:Int}{a3:Int}:kI prog 115 [(0,.string a1),(1,.agg #[.int .i64 a2,.int .i64 a3])]=some (.agg #[.string a1,.int .i64 a2,.int .i64 a3,.slice none 0 0]):=by kernel_rfl
theorem a5R{a1:ByteArray}{a2:Int}{a3:Int}{a4:Value}(h4:a4.cells=#[a4]∧oneCell a4=true∧oG a4=true):kI prog 115 [(0,.string a1),(1,.agg #[.int .i64 a2,.int .i64 a3]),(2,a4)]=some (.agg #[.string a1,.int .i64 a2,.int .i64 a3,a4]):=by cases a4<;>first|(exfalso;simp[oneCell]at h4;done)|kernel_rfl
theorem a0R{a1:ByteArray}{a2:Int}{a3:Int}{a4:Int}{a5:Bool}:kI prog 122 [(0,.string a1),(1,.int .i64 a2),(2,.int .i64 a3),(3,.int .i64 a4),(4,.bool a5)]=some (.agg #[.string a1,.int .i64 a2,.int .i64 a3,.int .i64 a4,.bool a5]):=by kernel_rfl
theorem b2I{a1:ByteArray}{a2:Int}:kI prog 122 [(0,.string a1),(3,.int .i64 a2)]=some (.agg #[.string a1,.int .i64 0,.int .i64 0,.int .i64 a2,.bool false]):=by kernel_rfl
theorem c1w:kI prog 155 []=some (.agg #[.int .i64 0,.int .i64 0]):=by kernel_rfl
theorem sB{a1:Int}{a2:Int}:kI prog 155 [(0,.int .i64 a1),(1,.int .i64 a2)]=some (.agg #[.int .i64 a1,.int .i64 a2]):=by kernel_rfl
theorem c1X:kI prog 158 []=some (.agg #[.int .i64 0,.int .i64 0,.slice none 0 0]):=by kernel_rfl
theorem lK{a1:Int}{a2:Int}{a3:Value}(h3:a3.cells=#[a3]∧oneCell a3=true∧oG a3=true):kI prog 158 [(0,.int .i64 a1),(1,.int .i64 a2),(2,a3)]=some (.agg #[.int .i64 a1,.int .i64 a2,a3]):=by cases a3<;>first|(exfalso;simp[oneCell]at h3;done)|kernel_rfl
theorem b2m{a1:Value}{a2:Int}{a3:Int}(h1:a1.cells=#[a1]∧oneCell a1=true∧oG a1=true):kI prog 244 [(0,a1),(1,.agg #[.int .i64 a2,.int .i64 a3])]=some (.agg #[a1,.int .i64 a2,.int .i64 a3]):=by cases a1<;>first|(exfalso;simp[oneCell]at h1;done)|kernel_rfl
theorem tR5(l:List Value)(H:Heap):iE prog Tryz.f5 l H=some (get l 4):=rfl
theorem tR6(l:List Value)(H:Heap):iE prog Tryz.f6 l H=some (get l 0):=rfl
theorem tR7(l:List Value)(H:Heap):iE prog Tryz.f7 l H=some (get l 2):=rfl
theorem tR8(l:List Value)(H:Heap):iE prog Tryz.f8 l H=pA (jQ prog 36) (iF prog 36) H (get l 2):=by
 show(Option.bind (Option.bind (lP prog H 36 (get l 2)) fun v=>some [v]) fun vs=>_)=_
 rw[lC]
 cases pA _ _ H (get l 2)<;>rfl
theorem tR9(l:List Value)(H:Heap):iE prog Tryz.f9 l H=pA (jQ prog 41) (iF prog 41) H (get l 4):=by
 show(Option.bind (Option.bind (lP prog H 41 (get l 4)) fun v=>some [v]) fun vs=>_)=_
 rw[lC]
 cases pA _ _ H (get l 4)<;>rfl
theorem c5T(l:List Value)(H:Heap):iE prog Tryz.f12 l H=some (get l 2):=rfl
theorem c3m(l:List Value)(H:Heap):iE prog Tryz.f13 l H=some (get l 4):=rfl
theorem c5r(l:List Value)(H:Heap):iE prog Tryz.f14 l H=some (get l 6):=rfl
theorem c1L(l:List Value)(H:Heap):iE prog Tryz.f16 l H=some (get l 4):=rfl
theorem c0K(l:List Value)(H:Heap):iE prog Tryz.f21 l H=some (get l 4):=rfl
theorem c3f(l:List Value)(H:Heap):iE prog Tryz.f26 l H=if(jW (get l 4)&&(jW (get l 5)&&true))=true then some (.tuple #[get l 4,get l 5])else none:=rfl
theorem c4h(l:List Value)(H:Heap):iE prog Tryz.f27 l H=if(jW (get l 4)&&(jW (get l 5)&&true))=true then some (.tuple #[get l 4,get l 5])else none:=rfl
theorem c5C(l:List Value)(H:Heap):iE prog Tryz.f28 l H=some (get l 2):=rfl
theorem c5D(l:List Value)(H:Heap):iE prog Tryz.f29 l H=some (get l 4):=rfl
theorem c5q(l:List Value)(H:Heap):iE prog Tryz.f30 l H=pA (jQ prog 36) (iF prog 36) H (get l 0):=by
 show(Option.bind (Option.bind (lP prog H 36 (get l 0)) fun v=>some [v]) fun vs=>_)=_
 rw[lC]
 cases pA _ _ H (get l 0)<;>rfl
theorem c3X(l:List Value)(H:Heap):iE prog Tryz.f32 l H=if(jW (get l 4)&&(jW (get l 5)&&true))=true then some (.tuple #[get l 4,get l 5])else none:=rfl
theorem c5k(l:List Value)(H:Heap):iE prog Tryz.f33 l H=pA (jQ prog 56) (iF prog 56) H (get l 2):=by
 show(Option.bind (Option.bind (lP prog H 56 (get l 2)) fun v=>some [v]) fun vs=>_)=_
 rw[lC]
 cases pA _ _ H (get l 2)<;>rfl
theorem c4O(l:List Value)(H:Heap):iE prog Tryz.f34 l H=pA (jQ prog 76) (iF prog 76) H (get l 4):=by
 show(Option.bind (Option.bind (lP prog H 76 (get l 4)) fun v=>some [v]) fun vs=>_)=_
 rw[lC]
 cases pA _ _ H (get l 4)<;>rfl
theorem a8q(l:List Value)(H:Heap):iE prog Tryz.f35 l H=pA (jQ prog 115) (iF prog 115) H (get l 8):=by
 show(Option.bind (Option.bind (lP prog H 115 (get l 8)) fun v=>some [v]) fun vs=>_)=_
 rw[lC]
 cases pA _ _ H (get l 8)<;>rfl
theorem c5V(l:List Value)(H:Heap):iE prog Tryz.f36 l H=(pA (jQ prog 56) (iF prog 56) H (get l 2)).bind fun v=>if(jW v&&(jW (get l 3)&&true))=true then some (.tuple #[v,get l 3])else none:=by
 show(Option.bind (Option.bind (lP prog H 56 (get l 2)) fun v=>some [v,get l 3]) fun vs=>_)=_
 rw[lC]
 cases pA _ _ H (get l 2)<;>rfl
theorem c3j(l:List Value)(H:Heap):iE prog Tryz.f37 l H=some (get l 4):=rfl
theorem c5E(l:List Value)(H:Heap):iE prog Tryz.f39 l H=some (get l 4):=rfl
theorem c2B(l:List Value)(H:Heap):iE prog Tryz.f43 l H=if(jW (get l 6)&&(jW (get l 7)&&true))=true then some (.tuple #[get l 6,get l 7])else none:=rfl
theorem c5M(l:List Value)(H:Heap):iE prog Tryz.f48 l H=some (get l 6):=rfl
theorem c4T(l:List Value)(H:Heap):iE prog Tryz.f50 l H=if(jW (get l 4)&&(jW (get l 5)&&true))=true then some (.tuple #[get l 4,get l 5])else none:=rfl
theorem c1o(l:List Value)(H:Heap):iE prog Tryz.f52 l H=some (get l 4):=rfl
theorem c0w(l:List Value)(H:Heap):iE prog Tryz.f57 l H=some (get l 2):=rfl
theorem c4S(l:List Value)(H:Heap):iE prog Tryz.f60 l H=pA (jQ prog 56) (iF prog 56) H (get l 4):=by
 show(Option.bind (Option.bind (lP prog H 56 (get l 4)) fun v=>some [v]) fun vs=>_)=_
 rw[lC]
 cases pA _ _ H (get l 4)<;>rfl
theorem c3h(l:List Value)(H:Heap):iE prog Tryz.f61 l H=some (get l 4):=rfl
theorem c5n(l:List Value)(H:Heap):iE prog Tryz.f62 l H=some (get l 3):=rfl
theorem c2W(l:List Value)(H:Heap):iE prog Tryz.f63 l H=some (get l 4):=rfl
theorem c5s(l:List Value)(H:Heap):iE prog Tryz.f64 l H=some (get l 2):=rfl
theorem c5d(l:List Value)(H:Heap):iE prog Tryz.f65 l H=some (get l 2):=rfl
theorem c5J(l:List Value)(H:Heap):iE prog Tryz.f66 l H=some (get l 4):=rfl
theorem c1v(l:List Value)(H:Heap):iE prog Tryz.f67 l H=pA (jQ prog 41) (iF prog 41) H (get l 4):=by
 show(Option.bind (Option.bind (lP prog H 41 (get l 4)) fun v=>some [v]) fun vs=>_)=_
 rw[lC]
 cases pA _ _ H (get l 4)<;>rfl
theorem c2Q(l:List Value)(H:Heap):iE prog Tryz.f68 l H=pA (jQ prog 56) (iF prog 56) H (get l 4):=by
 show(Option.bind (Option.bind (lP prog H 56 (get l 4)) fun v=>some [v]) fun vs=>_)=_
 rw[lC]
 cases pA _ _ H (get l 4)<;>rfl
theorem c5N(l:List Value)(H:Heap):iE prog Tryz.f69 l H=pA (jQ prog 73) (iF prog 73) H (get l 2):=by
 show(Option.bind (Option.bind (lP prog H 73 (get l 2)) fun v=>some [v]) fun vs=>_)=_
 rw[lC]
 cases pA _ _ H (get l 2)<;>rfl
theorem c5I(l:List Value)(H:Heap):iE prog Tryz.f70 l H=pA (jQ prog 73) (iF prog 73) H (get l 2):=by
 show(Option.bind (Option.bind (lP prog H 73 (get l 2)) fun v=>some [v]) fun vs=>_)=_
 rw[lC]
 cases pA _ _ H (get l 2)<;>rfl
theorem c5h(l:List Value)(H:Heap):iE prog Tryz.f71 l H=some (get l 2):=rfl
theorem c2m(l:List Value)(H:Heap):iE prog Tryz.f72 l H=pA (jQ prog 56) (iF prog 56) H (get l 4):=by
 show(Option.bind (Option.bind (lP prog H 56 (get l 4)) fun v=>some [v]) fun vs=>_)=_
 rw[lC]
 cases pA _ _ H (get l 4)<;>rfl
theorem a3b(l:List Value)(H:Heap):iE prog Tryz.f73 l H=some (get l 2):=rfl
theorem b2a(l:List Value)(H:Heap):iE prog Tryz.f74 l H=some (get l 4):=rfl
theorem c4Y(l:List Value)(H:Heap):iE prog Tryz.f77 l H=some (.tuple #[]):=rfl
theorem c2n(l:List Value)(H:Heap):iE prog Tryz.f79 l H=some (get l 6):=rfl
theorem c5c(l:List Value)(H:Heap):iE prog Tryz.f82 l H=some (get l 6):=rfl
theorem c1a(l:List Value)(H:Heap):iE prog Tryz.f83 l H=some (get l 4):=rfl
theorem c5v(l:List Value)(H:Heap):iE prog Tryz.f84 l H=some (get l 6):=rfl
theorem c2T(l:List Value)(H:Heap):iE prog Tryz.f86 l H=some (get l 4):=rfl
theorem c5o(l:List Value)(H:Heap):iE prog Tryz.f87 l H=some (get l 4):=rfl
theorem c5Q(l:List Value)(H:Heap):iE prog Tryz.f88 l H=some (get l 2):=rfl
theorem c2D(l:List Value)(H:Heap):iE prog Tryz.f101 l H=some (get l 4):=rfl
theorem c0h(l:List Value)(H:Heap):iE prog Tryz.f102 l H=some (get l 4):=rfl
theorem c2y(l:List Value)(H:Heap):iE prog Tryz.f103 l H=some (get l 2):=rfl
theorem c2o(l:List Value)(H:Heap):iE prog Tryz.f104 l H=some (get l 5):=rfl
theorem b6B(l:List Value)(H:Heap):iE prog Tryz.f105 l H=some (get l 6):=rfl
theorem c4l(l:List Value)(H:Heap):iE prog Tryz.f106 l H=some (get l 4):=rfl
theorem a3N(l:List Value)(H:Heap):iE prog Tryz.f107 l H=some (get l 2):=rfl
theorem a2c(l:List Value)(H:Heap):iE prog Tryz.f108 l H=some (get l 2):=rfl
theorem b9D(l:List Value)(H:Heap):iE prog Tryz.f109 l H=some (get l 4):=rfl
theorem a7s(l:List Value)(H:Heap):iE prog Tryz.f110 l H=some (get l 4):=rfl
theorem rV(l:List Value)(H:Heap):iE prog Tryz.f111 l H=some (get l 4):=rfl
theorem b0Z(l:List Value)(H:Heap):iE prog Tryz.f112 l H=some (get l 2):=rfl
theorem a6P(l:List Value)(H:Heap):iE prog Tryz.f114 l H=some (get l 4):=rfl
theorem b9E(l:List Value)(H:Heap):iE prog Tryz.f116 l H=some (.tuple #[]):=rfl
theorem c2Y(l:List Value)(H:Heap):iE prog Tryz.f117 l H=some (get l 4):=rfl
theorem b3L(l:List Value)(H:Heap):iE prog Tryz.f118 l H=some (get l 2):=rfl
theorem c4E(l:List Value)(H:Heap):iE prog Tryz.f119 l H=some (get l 6):=rfl
theorem c2x(l:List Value)(H:Heap):iE prog Tryz.f120 l H=some (get l 4):=rfl
theorem a8c(l:List Value)(H:Heap):iE prog Tryz.f123 l H=some (get l 2):=rfl
theorem b9J(l:List Value)(H:Heap):iE prog Tryz.f152 l H=some (get l 4):=rfl
theorem c4k(l:List Value)(H:Heap):iE prog Tryz.f153 l H=some (get l 2):=rfl
theorem a6y(l:List Value)(H:Heap):iE prog Tryz.f154 l H=some (get l 2):=rfl
theorem b9C(l:List Value)(H:Heap):iE prog Tryz.f155 l H=some (get l 2):=rfl
theorem b9R(l:List Value)(H:Heap):iE prog Tryz.f156 l H=some (get l 2):=rfl
theorem tN(l:List Value)(H:Heap):iE prog Tryz.f157 l H=some (get l 4):=rfl
theorem c4o(l:List Value)(H:Heap):iE prog Tryz.f158 l H=some (get l 4):=rfl
theorem c2V(l:List Value)(H:Heap):iE prog Tryz.f159 l H=some (get l 3):=rfl
theorem b9y(l:List Value)(H:Heap):iE prog Tryz.f161 l H=some (get l 2):=rfl
theorem c0e(l:List Value)(H:Heap):iE prog Tryz.f162 l H=pA (jQ prog 158) (iF prog 158) H (get l 4):=by
 show(Option.bind (Option.bind (lP prog H 158 (get l 4)) fun v=>some [v]) fun vs=>_)=_
 rw[lC]
 cases pA _ _ H (get l 4)<;>rfl
theorem b0A(l:List Value)(H:Heap):iE prog Tryz.f163 l H=(pA (jQ prog 60) (iF prog 60) H (get l 6)).bind fun v=>if(jW v&&(jW (get l 7)&&true))=true then some (.tuple #[v,get l 7])else none:=by
 show(Option.bind (Option.bind (lP prog H 60 (get l 6)) fun v=>some [v,get l 7]) fun vs=>_)=_
 rw[lC]
 cases pA _ _ H (get l 6)<;>rfl
theorem c3E(l:List Value)(H:Heap):iE prog Tryz.f164 l H=some (get l 2):=rfl
theorem a3P(l:List Value)(H:Heap):iE prog Tryz.f168 l H=some (get l 2):=rfl
theorem c3e(l:List Value)(H:Heap):iE prog Tryz.f199 l H=some (.tuple #[]):=rfl
theorem c3D(l:List Value)(H:Heap):iE prog Tryz.f200 l H=some (get l 4):=rfl
theorem c0a(l:List Value)(H:Heap):iE prog Tryz.f201 l H=some (get l 2):=rfl
theorem b5C(l:List Value)(H:Heap):iE prog Tryz.f202 l H=some (get l 2):=rfl
theorem a1F(l:List Value)(H:Heap):iE prog Tryz.f203 l H=some (get l 4):=rfl
theorem c0c(l:List Value)(H:Heap):iE prog Tryz.f204 l H=some (get l 4):=rfl
theorem b9A(l:List Value)(H:Heap):iE prog Tryz.f207 l H=some (get l 4):=rfl
theorem b9z(l:List Value)(H:Heap):iE prog Tryz.f208 l H=some (get l 3):=rfl
theorem c2M(l:List Value)(H:Heap):iE prog Tryz.f209 l H=some (get l 4):=rfl
theorem c2S(l:List Value)(H:Heap):iE prog Tryz.f210 l H=some (get l 4):=rfl
theorem b9X(l:List Value)(H:Heap):iE prog Tryz.f211 l H=some (get l 2):=rfl
theorem b9I(l:List Value)(H:Heap):iE prog Tryz.f230 l H=some (get l 4):=rfl
theorem c4c(l:List Value)(H:Heap):iE prog Tryz.f231 l H=some (get l 4):=rfl
theorem b9w(l:List Value)(H:Heap):iE prog Tryz.f245 l H=some (get l 4):=rfl
theorem a5T:MapK prog 196 Value.string (.bool false):=MapK.str (kt:=9) (et:=4) (by kernel_rfl) (by kernel_rfl) (by kernel_rfl) rfl
theorem a7r:MapK prog 205 (fun p:Int×Int=>.agg #[I p.1,I p.2]) (.bool false):=MapK.struct (kt:=53) (et:=4) (fs:=(a0o prog 53).toArray) (by kernel_rfl) (by kernel_rfl) (by kernel_rfl) rfl (fun b k=>by cases b<;>kernel_rfl) (fun a b=>c2c (by kernel_rfl) (by kernel_rfl) (by kernel_rfl) (fun _ _ _ _=>by kernel_rfl) a b) (fun k=>c1u k)
theorem tt0:jQ prog 3=some false∧jQ prog 4=some false∧iF prog 4=some 1∧jQ prog 5=some false∧iF prog 5=some 1∧jQ prog 9=some false∧jQ prog 22=some false∧iF prog 22=some 1∧jQ prog 23=some false∧iF prog 23=some 1∧jQ prog 24=some false∧iF prog 24=some 1∧jQ prog 26=some true∧jQ prog 27=some true∧jQ prog 32=some false∧jQ prog 33=some false∧jQ prog 34=some false∧jQ prog 36=some true∧jQ prog 38=some false∧jQ prog 39=some false∧jQ prog 41=some true∧jQ prog 44=some false∧jQ prog 50=some false∧jQ prog 53=some true∧jQ prog 56=some true∧jQ prog 57=some false∧iF prog 57=some 1∧jQ prog 60=some true∧jQ prog 73=some true∧jQ prog 74=some false∧jQ prog 76=some true∧jQ prog 85=some false∧jQ prog 90=some true∧jQ prog 91=some false∧jQ prog 93=some true∧jQ prog 97=some false∧jQ prog 104=some true∧jQ prog 105=some false∧iF prog 105=some 1∧jQ prog 107=some true:=by and_intros<;>kernel_rfl
theorem tt1:jQ prog 109=some false∧iF prog 109=some 1∧jQ prog 111=some true∧jQ prog 113=some false∧jQ prog 115=some true∧jQ prog 118=some true∧jQ prog 120=some true∧jQ prog 122=some true∧jQ prog 150=some false∧jQ prog 155=some true∧jQ prog 156=some false∧iF prog 156=some 1∧jQ prog 158=some true∧jQ prog 205=some false∧jQ prog 244=some true∧jB prog 22=some 9∧jB prog 23=some 4∧jB prog 24=some 4∧jB prog 32=some 6∧jB prog 33=some 5∧jB prog 34=some 5∧jB prog 38=some 1∧jB prog 44=some 2∧jB prog 50=some 2∧jB prog 57=some 2∧jB prog 74=some 1∧jB prog 85=some 1∧jB prog 91=some 4∧jB prog 97=some 3∧jB prog 105=some 4∧jB prog 112=some 1∧jB prog 113=some 3∧jB prog 138=some 3∧jB prog 150=some 1∧jB prog 156=some 2∧jB prog 163=some 1∧jB prog 194=some 2∧jB prog 199=some 2∧kV prog 32=true∧kV prog 33=true:=by and_intros<;>kernel_rfl
theorem tt2:kV prog 34=true∧kV prog 38=true∧kV prog 44=true∧kV prog 50=true∧kV prog 57=true∧kV prog 74=true∧kV prog 85=true∧kV prog 91=true∧kV prog 97=true∧kV prog 112=true∧kV prog 113=true∧kV prog 138=true∧kV prog 150=true∧kV prog 156=true∧kV prog 163=true∧kV prog 194=true∧kV prog 199=true∧jB prog 9=none∧oW prog 9=true∧iV prog 26 0=some 0∧iV prog 26 1=some 1∧iV prog 26 2=some 2∧iV prog 36 0=some 0∧iV prog 36 1=some 1∧iV prog 36 2=some 2∧iV prog 36 3=some 3∧iV prog 41 0=some 0∧iV prog 41 1=some 1∧iV prog 41 2=some 2∧iV prog 53 0=some 0∧iV prog 53 1=some 1∧iV prog 56 0=some 0∧iV prog 56 1=some 1∧iV prog 60 0=some 0∧iV prog 60 1=some 1∧iV prog 73 0=some 0∧iV prog 73 1=some 1∧iV prog 76 0=some 0∧iV prog 76 1=some 1∧iV prog 76 2=some 2:=by and_intros<;>kernel_rfl
theorem tt3:iV prog 76 3=some 4∧iV prog 76 4=some 5∧iV prog 90 0=some 0∧iV prog 90 1=some 1∧iV prog 93 0=some 0∧iV prog 93 2=some 2∧iV prog 93 3=some 4∧iV prog 104 0=some 0∧iV prog 104 1=some 1∧iV prog 104 2=some 2∧iV prog 107 0=some 0∧iV prog 107 1=some 1∧iV prog 107 2=some 2∧iV prog 107 3=some 3∧iV prog 111 0=some 0∧iV prog 111 1=some 1∧iV prog 111 2=some 2∧iV prog 111 3=some 3∧iV prog 111 4=some 4∧iV prog 115 0=some 0∧iV prog 115 1=some 1∧iV prog 115 2=some 3∧iV prog 118 0=some 0∧iV prog 118 1=some 1∧iV prog 118 2=some 2∧iV prog 118 3=some 3∧iV prog 120 0=some 0∧iV prog 120 1=some 1∧iV prog 120 2=some 2∧iV prog 120 3=some 3∧iV prog 122 0=some 0∧iV prog 122 1=some 1∧iV prog 122 2=some 2∧iV prog 122 3=some 3∧iV prog 122 4=some 4∧iV prog 155 0=some 0∧iV prog 155 1=some 1∧iV prog 158 0=some 0∧iV prog 158 1=some 1∧iV prog 158 2=some 2:=by and_intros<;>kernel_rfl
theorem tt4:iV prog 244 0=some 0∧iV prog 244 1=some 1∧jA prog 3=some (.int .i64 0)∧jM prog 3=none∧jA prog 36=some (.agg #[.string ⟨#[]⟩,.slice none 0 0,.slice none 0 0,.slice none 0 0])∧jM prog 36=none∧jA prog 41=some (.agg #[.slice none 0 0,.int .u64 0,.int .u64 0])∧jM prog 41=none∧jA prog 44=some (.slice none 0 0)∧jM prog 44=none∧jA prog 50=some (.slice none 0 0)∧jM prog 50=none∧jA prog 53=some (.agg #[.int .i64 0,.int .i64 0])∧jM prog 53=none∧jA prog 56=some (.agg #[.int .u64 0,.int .u64 0])∧jM prog 56=none∧jA prog 60=some (.agg #[.int .i64 0,.int .i64 0])∧jM prog 60=none∧jA prog 73=some (.agg #[.int .i64 0,.int .i64 0])∧jM prog 73=none∧jA prog 76=some (.agg #[.string ⟨#[]⟩,.string ⟨#[]⟩,.int .i64 0,.int .i64 0,.int .i64 0,.slice none 0 0])∧jM prog 76=none∧jA prog 85=some (.slice none 0 0)∧jM prog 85=none∧jA prog 90=some (.agg #[.int .i64 0,.int .i64 0])∧jM prog 90=none∧jA prog 93=some (.agg #[.string ⟨#[]⟩,.bool false,.int .i64 0,.int .i64 0,.slice none 0 0])∧jM prog 93=none∧jA prog 97=some (.slice none 0 0)∧jM prog 97=none∧jA prog 104=some (.agg #[.int .i64 0,.int .i64 0,.int .i64 0])∧jM prog 104=none∧jA prog 107=some (.agg #[.int .u8 0,.int .u8 0,.bool false,.slice none 0 0])∧jM prog 107=none∧jA prog 115=some (.agg #[.string ⟨#[]⟩,.int .i64 0,.int .i64 0,.slice none 0 0])∧jM prog 115=none∧jA prog 120=some (.agg #[.int .u8 0,.int .u8 0,.int .i8 0,.bool false])∧jM prog 120=none∧jA prog 122=some (.agg #[.string ⟨#[]⟩,.int .i64 0,.int .i64 0,.int .i64 0,.bool false])∧jM prog 122=none:=by and_intros<;>kernel_rfl
theorem tt5:jA prog 150=some (.slice none 0 0)∧jM prog 150=none∧jA prog 155=some (.agg #[.int .i64 0,.int .i64 0])∧jM prog 155=none∧jA prog 158=some (.agg #[.int .i64 0,.int .i64 0,.slice none 0 0])∧jM prog 158=none∧jA prog 205=some (.map none)∧jM prog 205=none∧a0Y prog 3=some .i64∧a0Y prog 5=some .u8∧a0Y prog 39=some .u64∧a0Y prog 109=some .i8∧a0Y prog 123=some .u64:=by and_intros<;>kernel_rfl
def TS:=(And.intro (And.intro (And.intro (And.intro (And.intro @tt0 (And.intro @tt1 @tt2)) (And.intro @tt3 (And.intro @tt4 @tt5))) (And.intro (And.intro @tS3 (And.intro @tS9 @b7e)) (And.intro (And.intro @c1y @c2v) (And.intro @c3s @b6V)))) (And.intro (And.intro (And.intro @nJ (And.intro @b7P @a4L)) (And.intro (And.intro @mQ @c1F) (And.intro @b3c @qC))) (And.intro (And.intro @pT (And.intro @zJ @zY)) (And.intro (And.intro @c3b @a2U) (And.intro @b7I @a9D))))) (And.intro (And.intro (And.intro (And.intro @c2X (And.intro @a3h @b4D)) (And.intro @a0D (And.intro @b0n @b3P))) (And.intro (And.intro @vZ (And.intro @nA @b4c)) (And.intro (And.intro @b0z @wI) (And.intro @a0J @a0L)))) (And.intro (And.intro (And.intro @a1x (And.intro @b6o @b0U)) (And.intro (And.intro @c5H @c2Z) (And.intro @c4u @c3Z))) (And.intro (And.intro @c4q (And.intro @c2s @c3v)) (And.intro (And.intro @c0T @c0q) (And.intro @c1x @c1D))))))
def RZ:=And.intro @RB (And.intro @RC @TS)
end Go.Ds
namespace Go.Ds
open Go.Proofs
variable {P:Program} {H:Heap}
structure Drw where
 rank:Int
 shift:Int
 deriving DecidableEq,Inhabited
structure Seg where
 lo:Int
 hi:Int
 dv:Value
 draws:List Drw
 deriving Inhabited
structure Stp where
 name:ByteArray
 num:Int
 den:Int
 gv:Value
 segs:List Seg
 deriving Inhabited
structure Dvn where
 name:ByteArray
 pedal:Bool
 lo:Int
 hi:Int
 sv:Value
 stops:List Stp
 deriving Inhabited
structure Rk where
 name:ByteArray
 tone:ByteArray
 num:Int
 den:Int
 first:Int
 wv:Value
 wind:List Int
 deriving Inhabited
structure Cpl where
 name:ByteArray
 src:Int
 dst:Int
 shift:Int
 thr:Bool
 deriving Inhabited
structure Org where
 name:ByteArray
 rv:Value
 ranks:List Rk
 dv:Value
 dvs:List Dvn
 cv:Value
 cpls:List Cpl
 deriving Inhabited
def Drw.cells(d:Drw):List Value:=[I d.rank,I d.shift]
def Seg.cells(s:Seg):List Value:=[I s.lo,I s.hi,s.dv]
def Stp.cells(s:Stp):List Value:=[.string s.name,I s.num,I s.den,s.gv]
def Dvn.cells(d:Dvn):List Value:=[.string d.name,.bool d.pedal,I d.lo,I d.hi,d.sv]
def Rk.cells(r:Rk):List Value:=[.string r.name,.string r.tone,I r.num,I r.den,I r.first,r.wv]
def Cpl.cells(c:Cpl):List Value:=[.string c.name,I c.src,I c.dst,I c.shift,.bool c.thr]
def Org.cells(o:Org):List Value:=[.string o.name,o.rv,o.dv,o.cv]
def Seg.In(H:Heap)(s:Seg):Prop:=Sl 2 Drw.cells H s.dv s.draws∧s.draws.length<1000000000
def Stp.In(H:Heap)(s:Stp):Prop:=Sl 3 Seg.cells H s.gv s.segs∧(∀g∈s.segs,g.In H)∧s.segs.length<1000000000
def Dvn.In(H:Heap)(d:Dvn):Prop:=Sl 4 Stp.cells H d.sv d.stops∧(∀s∈d.stops,s.In H)∧d.stops.length<1000000000
def Rk.In(H:Heap)(r:Rk):Prop:=Sl 1 (one I) H r.wv r.wind∧r.wind.length<1000000000
def Org.In(H:Heap)(o:Org):Prop:=Sl 6 Rk.cells H o.rv o.ranks∧(∀r∈o.ranks,r.In H)∧Sl 5 Dvn.cells H o.dv o.dvs∧(∀d∈o.dvs,d.In H)∧Sl 5 Cpl.cells H o.cv o.cpls∧o.ranks.length<1000000000∧o.dvs.length<1000000000∧o.cpls.length<1000000000
section
variable {H0:Heap} {os:List Ob}
theorem Seg.In.ae{s:Seg}(h:s.In H0)(hS:St P H0 H os):s.In H:=⟨hS.sl h.1,h.2⟩
theorem Stp.In.ae{s:Stp}(h:s.In H0)(hS:St P H0 H os):s.In H:=⟨hS.sl h.1,fun g hg=>(h.2.1 g hg).ae hS,h.2.2⟩
theorem Dvn.In.ae{d:Dvn}(h:d.In H0)(hS:St P H0 H os):d.In H:=⟨hS.sl h.1,fun g hg=>(h.2.1 g hg).ae hS,h.2.2⟩
theorem Rk.In.ae{r:Rk}(h:r.In H0)(hS:St P H0 H os):r.In H:=⟨hS.sl h.1,h.2⟩
theorem Org.In.ae{o:Org}(h:o.In H0)(hS:St P H0 H os):o.In H:=⟨hS.sl h.1,fun r hr=>(h.2.1 r hr).ae hS,hS.sl h.2.2.1,fun d hd=>(h.2.2.2.1 d hd).ae hS,hS.sl h.2.2.2.2.1,h.2.2.2.2.2⟩
end
def c3L(n:Int):Prop:=-9223372036854775808≤n∧n<9223372036854775808
end Go.Ds
namespace Go.Ds
open Go.Proofs Go.Proofs.Tryz
variable {H:Heap}
def qE(b:Int):Bool:=(decide (65≤b)&&decide (b≤90))||(decide (97≤b)&&decide (b≤122))
theorem a3G(b:Int):Fn prog 154 [.int .u8 b] H fun r H'=>r=.bool (qE b)∧St prog H H' []:=by
 refine .aW func154 rfl (by kernel_rfl) (m:=17) rfl fun l hn g0=> ?_
 simp(disch:=omega) only[↓RA,RZ,simprocAttr,hn,g0]
 refine jU (fun h1=> ?_) (fun h1=> ?_)
 ·simp(disch:=omega) only[↓RA,RZ,simprocAttr,hn,g0,h1]
  refine iO (fun h2=> ?_) (fun h2=> ?_)
  ·simp(disch:=omega) only[↓RA,RZ,simprocAttr,hn,a6y,h1,h2]
   first|exact(sR H)|exact⟨by simp[qE,h1,h2],(sR H)⟩
  simp(disch:=omega) only[↓RA,RZ,simprocAttr,hn,g0,h1,h2]
  refine jU (fun h3=> ?_) (fun h3=> ?_)
  ·simp(disch:=omega) only[↓RA,RZ,simprocAttr,hn,g0,a6y,h1,h2,h3]
   first|exact(sR H)|exact⟨by simp[qE,h1,h2,h3],(sR H)⟩
  simp(disch:=omega) only[↓RA,RZ,simprocAttr,hn,a6y,h1,h2,h3]
  first|exact(sR H)|exact⟨by simp[qE,h1,h2,h3],(sR H)⟩
 simp(disch:=omega) only[↓RA,RZ,simprocAttr,hn,g0,h1]
 refine jU (fun h4=> ?_) (fun h4=> ?_)
 ·simp(disch:=omega) only[↓RA,RZ,simprocAttr,hn,g0,a6y,h1,h4]
  first|exact(sR H)|exact⟨by simp[qE,h1,h4],(sR H)⟩
 simp(disch:=omega) only[↓RA,RZ,simprocAttr,hn,a6y,h1,h4]
 first|exact(sR H)|exact⟨by simp[qE,h1,h4],(sR H)⟩
theorem b3Q(b:Int):Fn prog 155 [I b] H fun r H'=>r=.bool (decide (-256≤b)&&decide (b≤256))∧St prog H H' []:=by
 refine .aW func155 rfl (by kernel_rfl) (m:=9) rfl fun l hn g0=> ?_
 simp(disch:=omega) only[↓RA,RZ,simprocAttr,hn,g0]
 refine jU (fun h1=> ?_) (fun h1=> ?_)
 ·simp(disch:=omega) only[↓RA,RZ,simprocAttr,hn,g0,b9C,h1]
  first|exact(sR H)|exact⟨by simp[h1],(sR H)⟩
 simp(disch:=omega) only[↓RA,RZ,simprocAttr,hn,b9C,h1]
 first|exact(sR H)|exact⟨by simp[],(sR H)⟩
theorem b4q(b:Int):Fn prog 201 [I b] H fun r H'=>r=.bool (decide (b<0)||decide (1000000<b))∧St prog H H' []:=by
 refine .aW func201 rfl (by kernel_rfl) (m:=9) rfl fun l hn g0=> ?_
 simp(disch:=omega) only[↓RA,RZ,simprocAttr,hn,g0]
 refine iO (fun h1=> ?_) (fun h1=> ?_)
 ·simp(disch:=omega) only[↓RA,RZ,simprocAttr,hn,c0a,h1]
  first|exact(sR H)|exact⟨by simp[],(sR H)⟩
 simp(disch:=omega) only[↓RA,RZ,simprocAttr,hn,g0,c0a,h1]
 first|exact(sR H)|exact⟨by simp[],(sR H)⟩
theorem a4u(n:Int)(h: -9223372036854775808≤n)(h0:n<0):IntKind.wrap .u64 (0-IntKind.wrap .u64 n)=n.natAbs:=by
 have e:∀m:Int,IntKind.wrap .u64 m=m%18446744073709551616:=fun m=>by
  show(if(false&&decide (m%18446744073709551616≥9223372036854775808))=true then m%18446744073709551616-18446744073709551616 else m%18446744073709551616)=_
  simp
 rw[e,e]
 omega
theorem a5u(n:Int)(hn0:c3L n):Fn prog 211 [I n] H fun r H'=>r=.int .u64 n.natAbs∧St prog H H' []:=by
 refine .aW func211 rfl (by kernel_rfl) (m:=10) rfl fun l hn g0=> ?_
 simp(disch:=omega) only[↓RA,RB,simprocAttr,hn,g0]
 refine iC (fun h=> ?_) (fun h=> ?_)
 ·simp(disch:=omega) only[↓RA,RZ,simprocAttr,hn,g0,b9X,h]
  exact⟨by rw[a4u n hn0.1 h],(sR H)⟩
 simp(disch:=omega) only[↓RA,RZ,simprocAttr,hn,g0,b9X,h]
 refine⟨?_,(sR H)⟩
 have:=hn0.2
 rw[rU n (by omega) (by omega)]
 congr 1
 omega
theorem c0R(a b:Nat)(ha:a<18446744073709551616)(hb:b<18446744073709551616):Fn prog 210 [.int .u64 a,.int .u64 b] H fun r H'=>r=.int .u64 (Nat.gcd a b)∧St prog H H' []:=by
 refine .aD func210 rfl (by kernel_rfl) (m:=12) rfl fun l hn g0 g1=> ?_
 simp(disch:=omega) only[↓RA,RB,simprocAttr]
 refine Wp.aq (fun n l H'=>l.length=12∧get l 4=(.int .u64 0)∧∃(x y:Nat),(n=y∧x<18446744073709551616∧y<18446744073709551616∧Nat.gcd a b=Nat.gcd x y)∧get l 0=(.int .u64 x)∧get l 1=(.int .u64 y)∧St prog H H' []) b ?_ ?_
 ·simp(disch:=omega) only[RB,RC,simprocAttr,hn,g0,g1]
  exact⟨a,b,⟨rfl,ha,hb,rfl⟩,rfl,rfl,(sR H)⟩
 rintro n l H1⟨hn,g4,x,y,⟨hy,hx1,hy1,hg⟩,g0,g1,hS1⟩
 simp(disch:=omega) only[↓RA,RB,simprocAttr,hn,g1]
 refine iC (fun h=> ?_) (fun h=> ?_)
 ·simp(disch:=omega) only[↓RA,RC,simprocAttr,h]
  refine Wp.drw kG (by kernel_rfl) ?_
  simp(disch:=omega) only[↓RA,RZ,simprocAttr,hn,g4,g0,g1]
  refine⟨x%y,?_,y,x%y,⟨rfl,hy1,?_,?_⟩,rfl,?_,hS1⟩
  ·rw[hy];exact eY _ (by omega)
  ·exact dQ (eY _ (by omega)) (by omega)
  ·rw[hg,Nat.gcd_comm x y,Nat.gcd_rec]
   exact Nat.gcd_comm _ _
  ·rw[eL]
 simp(disch:=omega) only[↓RA,RZ,simprocAttr,hn,g0,c2S,h]
 have h0:y=0:=by omega
 subst h0
 exact⟨by rw[hg,Nat.gcd_zero_right],hS1⟩
theorem b8D(a b:Int)(ha0:0≤a)(ha:a<18446744073709551616)(hb0:0≤b)(hb:b<18446744073709551616):Fn prog 210 [.int .u64 a,.int .u64 b] H fun r H'=>r=.int .u64 (Nat.gcd a.toNat b.toNat)∧St prog H H' []:=by
 have:=c0R (H:=H) a.toNat b.toNat (by omega) (by omega)
 rwa [fj ha0,fj hb0]at this
def wD(num den:Int):Int:=if 0<den∧den≤1000000∧-1000000≤num∧num≤1000000∧Nat.gcd num.natAbs den.toNat=1 then 0 else 2
theorem b9v(num den:Int):Fn prog 168 [.agg #[I num,I den]] H fun r H'=>r=I (wD num den)∧St prog H H' []:=by
 refine .aW func168 rfl (by kernel_rfl) (m:=31) rfl fun l hn g0=> ?_
 simp(disch:=omega) only[↓RA,RB,simprocAttr,g0]
 refine(sR H).eNew 2 [I num,I den] rfl rfl rfl zY fun A1 H1 hS1=> ?_
 simp only[RT]at hS1
 simp(disch:=omega) only[↓RA,RB,simprocAttr]
 refine Wp.aS kG [(23,0),(24,0)] (by kernel_rfl) (by kernel_rfl) ?_
 simp(disch:=omega) only[↓RA,RZ,simprocAttr,hn,hS1.ld 0 rfl]
 refine iO (fun h1=> ?_) (fun h1=> ?_)
 ·simp(disch:=omega) only[↓RA,RZ,simprocAttr,hn,a3P,h1]
  refine⟨?_,hS1.forget⟩;unfold wD;(repeat' split);all_goals first|rfl|omega
 simp(disch:=omega) only[↓RA,RZ,simprocAttr,hn,hS1.ld 0 rfl,h1]
 refine iO (fun h2=> ?_) (fun h2=> ?_)
 ·simp(disch:=omega) only[↓RA,RZ,simprocAttr,hn,a3P,h1,h2]
  refine⟨?_,hS1.forget⟩;unfold wD;(repeat' split);all_goals first|rfl|omega
 simp(disch:=omega) only[↓RA,RZ,simprocAttr,hn,hS1.ld 0 rfl,h1,h2]
 refine iO (fun h3=> ?_) (fun h3=> ?_)
 ·simp(disch:=omega) only[↓RA,RZ,simprocAttr,hn,a3P,h1,h2,h3]
  refine⟨?_,hS1.forget⟩;unfold wD;(repeat' split);all_goals first|rfl|omega
 simp(disch:=omega) only[↓RA,RZ,simprocAttr,hn,hS1.ld 0 rfl,h1,h2,h3]
 refine iO (fun h4=> ?_) (fun h4=> ?_)
 ·simp(disch:=omega) only[↓RA,RZ,simprocAttr,hn,a3P,h1,h2,h3,h4]
  refine⟨?_,hS1.forget⟩;unfold wD;(repeat' split);all_goals first|rfl|omega
 simp(disch:=omega) only[↓RA,RZ,simprocAttr,hn,hS1.ld 0 rfl,h1,h2,h3,h4]
 refine hS1.cF (a5u num ⟨by omega,by omega⟩) fun H2 hS2=> ?_
 simp(disch:=omega) only[↓RA,RZ,simprocAttr,hn,hS2.ld 0 rfl,h1,h2,h3,h4]
 refine hS2.cF (b8D _ _ (by omega) (by omega) (by omega) (by omega)) fun H3 hS3=> ?_
 simp(disch:=omega) only[↓RA,RZ,simprocAttr,hn,hS1.ld 0 rfl,h1,h2,h3,h4]
 refine iC (fun h5=> ?_) (fun h5=> ?_)
 ·simp(disch:=omega) only[↓RA,RZ,simprocAttr,hn,a3P,h1,h2,h3,h4,h5]
  refine⟨?_,hS3.forget⟩;unfold wD;(repeat' split);all_goals first|rfl|omega
 simp(disch:=omega) only[↓RA,RZ,simprocAttr,hn,a3P,h1,h2,h3,h4,h5]
 refine⟨?_,hS3.forget⟩;unfold wD;(repeat' split);all_goals first|rfl|omega
def nE(num den:Int):Int:=if wD num den≠0 then 2 else if num≤0∨128*den<num then 3 else if 128<den then 4 else 0
theorem b6G{num den:Int}(h:wD num den=0):0<den∧den≤1000000∧-1000000≤num∧num≤1000000∧Nat.gcd num.natAbs den.toNat=1:=by
 unfold wD at h
 split at h
 ·assumption
 ·cases h
theorem a1g(num den:Int):Fn prog 123 [.agg #[I num,I den]] H fun r H'=>r=I (nE num den)∧St prog H H' []:=by
 refine .aW func123 rfl (by kernel_rfl) (m:=23) rfl fun l hn g0=> ?_
 simp(disch:=omega) only[↓RA,RB,simprocAttr,g0]
 refine(sR H).eNew 2 [I num,I den] rfl rfl rfl zY fun A1 H1 hS1=> ?_
 simp only[RT]at hS1
 simp(disch:=omega) only[↓RA,RZ,simprocAttr,hn,hS1.aj 0 rfl]
 refine hS1.cF (b9v num den) fun H2 hS2=> ?_
 simp(disch:=omega) only[↓RA,RB,simprocAttr,hn]
 refine iC (fun h=> ?_) (fun h=> ?_)
 ·simp(disch:=omega) only[↓RA,RZ,simprocAttr,hn,a8c,h]
  exact⟨by rw[nE,if_pos h],hS2.forget⟩
 have hf:=b6G (dN.1 h)
 simp(disch:=omega) only[↓RA,RZ,simprocAttr,hn,hS2.ld 0 rfl,h]
 refine iO (fun h1=> ?_) (fun h1=> ?_)
 ·simp(disch:=omega) only[↓RA,RZ,simprocAttr,hn,a8c,h,h1]
  refine⟨?_,hS2.forget⟩;unfold nE;(repeat' split);all_goals first|rfl|omega
 simp(disch:=omega) only[↓RA,RZ,simprocAttr,hn,hS2.ld 0 rfl,h,h1]
 refine iC (fun h2=> ?_) (fun h2=> ?_)
 ·simp(disch:=omega) only[↓RA,RZ,simprocAttr,hn,a8c,h,h1,h2]
  refine⟨?_,hS2.forget⟩;unfold nE;(repeat' split);all_goals first|rfl|omega
 simp(disch:=omega) only[↓RA,RZ,simprocAttr,hn,hS2.ld 0 rfl,h,h1,h2]
 refine iC (fun h3=> ?_) (fun h3=> ?_)
 ·simp(disch:=omega) only[↓RA,RZ,simprocAttr,hn,a8c,h,h1,h2,h3]
  refine⟨?_,hS2.forget⟩;unfold nE;(repeat' split);all_goals first|rfl|omega
 simp(disch:=omega) only[↓RA,RZ,simprocAttr,hn,a8c,h,h1,h2,h3]
 refine⟨?_,hS2.forget⟩;unfold nE;(repeat' split);all_goals first|rfl|omega
def lT(p:Nat→Bool)(n:Nat):Int:=match (List.range n).find? p with|some j=>j|none=>-1
theorem wK(p:Nat→Bool)(n i:Nat)(hi:i<n)(hp:p i=true)(h0:∀j,j<i→p j=false):(List.range n).find? p=some i:=by
 rw[List.find?_eq_some_iff_getElem]
 refine⟨hp,i,by simpa using hi,by simp,fun j hj=>by simp[h0 j hj]⟩
theorem vV(p:Nat→Bool)(n i:Nat)(hi:i<n)(hp:p i=true)(h0:∀j,j<i→p j=false):lT p n=i:=by
 unfold lT
 rw[wK p n i hi hp h0]
theorem vK(p:Nat→Bool)(n:Nat)(h0:∀j,j<n→p j=false):lT p n=-1:=by
 unfold lT
 have:(List.range n).find? p=none:=by
  rw[gr]
  intro j hj
  simp[h0 j (dz.1 hj)]
 rw[this]
theorem vH(p:Nat→Bool)(n:Nat):(0≤lT p n)↔∃j,j<n∧p j=true:=by
 unfold lT
 cases h:(List.range n).find? p with
 | none=>
   rw[gr]at h
   simp only[dz]at h
   constructor
   ·intro hh;exact absurd hh (by decide)
   ·rintro⟨j,hj,hp⟩;exact absurd hp (h j hj)
 | some j=>
   constructor
   ·intro _
    exact⟨j,dz.1 (gP h),List.find?_some h⟩
   ·intro _;show(0:Int)≤(j:Int);omega
theorem b7C(v:Value)(xs:List Int)(hv:Sl 1 (one I) H v xs)(hl:xs.length<1000000000)(k:FuncId)(caps:List Value)(p:Nat→Bool)
 (hf:∀j H1,j<xs.length→St prog H H1 []→Fn prog k (I (iD xs j)::caps) H1 fun r H2=>r=.bool (p j)∧St prog H1 H2 []):
 Fn prog 230 [v,.func (.func k) #[] caps.toArray] H fun r H'=>r=I (lT p xs.length)∧St prog H H' []:=by
 refine .aD func230 rfl (by kernel_rfl) (m:=19) rfl fun l hn g0 g1=> ?_
 simp(disch:=omega) only[↓RA,RZ,simprocAttr,hn,g0,((sR H).sl hv).len]
 refine Wp.aq (fun n l H'=>l.length=19∧get l 0=v∧get l 1=.func (.func k) #[] caps.toArray∧get l 7=I xs.length∧∃(j:Nat),(n+j=xs.length∧∀q,q<j→p q=false)∧get l 8=I j∧St prog H H' []) xs.length ?_ ?_
 ·simp(disch:=omega) only[RB,RC,simprocAttr,hn,g0,g1]
  exact⟨0,⟨by omega,fun q hq=>absurd hq (dJ _)⟩,rfl,(sR H)⟩
 rintro n l H1⟨hn,g0,g1,g7,j,⟨hi,h0⟩,g8,hS1⟩
 simp(disch:=omega) only[↓RA,RB,simprocAttr,hn,g7,g8]
 refine iC (fun h=> ?_) (fun h=> ?_)
 ·simp(disch:=omega) only[↓RA,RZ,simprocAttr,hn,g0,g1,g8,(hS1.sl hv).idx,(hS1.sl hv).ld,one,h]
  refine hS1.cF (hf j _ (by omega) hS1) fun H2 hS2=> ?_
  simp(disch:=omega) only[↓RA,RZ,simprocAttr,hn,h]
  refine jJ (fun hp=> ?_) (fun hp=> ?_)
  ·simp(disch:=omega) only[↓RA,RZ,simprocAttr,hn,b9I,h,hp]
   exact⟨by rw[vV p xs.length j (by omega) hp h0],hS2⟩
  simp(disch:=omega) only[↓RA,RZ,simprocAttr,hn,g0,g1,g7,g8,h,hp]
  exact⟨n-1,by omega,j+1,⟨by omega,fun q hq=>by rcases dw.1 hq with e|e;(· exact h0 q e);(· rw[e];exact hp)⟩,by simp,hS2⟩
 simp(disch:=omega) only[↓RA,RZ,simprocAttr,hn,b9I,h]
 exact⟨by rw[vK p xs.length fun q hq=>h0 q (by omega)],hS1⟩
theorem b9c(v:Value)(xs:List Int)(hv:Sl 1 (one I) H v xs)(hl:xs.length<1000000000)(k:FuncId)(caps:List Value)(p:Nat→Bool)
 (hf:∀j H1,j<xs.length→St prog H H1 []→Fn prog k (I (iD xs j)::caps) H1 fun r H2=>r=.bool (p j)∧St prog H1 H2 []):
 Fn prog 200 [v,.func (.func k) #[] caps.toArray] H fun r H'=>r=.bool (decide (0≤lT p xs.length))∧St prog H H' []:=by
 refine .aD func200 rfl (by kernel_rfl) (m:=9) rfl fun l hn g0 g1=> ?_
 simp(disch:=omega) only[↓RA,RZ,simprocAttr,hn,g0,g1]
 refine(sR H).cF (b7C v xs hv hl k caps p hf) fun H1 hS1=> ?_
 simp(disch:=omega) only[↓RA,RZ,simprocAttr,hn,c3D]
 first|exact hS1|exact⟨rfl,hS1⟩
def a0m(xs:List Int):Int:=if xs.any fun w=>decide (w<0)||decide (1000000<w)then 3 else 0
theorem b5d(v:Value)(xs:List Int)(hv:Sl 1 (one I) H v xs)(hl:xs.length<1000000000):Fn prog 156 [v] H fun r H'=>r=I (a0m xs)∧St prog H H' []:=by
 have key:(0≤lT (fun j=>decide (iD xs j<0)||decide (1000000<iD xs j)) xs.length)↔(xs.any fun w=>decide (w<0)||decide (1000000<w))=true:=by
  rw[vH,gI]
  constructor
  ·rintro⟨j,hj,hp⟩;exact⟨_,iG hj,hp⟩
  ·rintro⟨x,hx,hp⟩
   obtain⟨j,hj,rfl⟩:=dT.1 hx
   exact⟨j,hj,by rw[jP xs j hj];exact hp⟩
 refine .aW func156 rfl (by kernel_rfl) (m:=5) rfl fun l hn g0=> ?_
 simp(disch:=omega) only[↓RA,RZ,simprocAttr,hn,g0]
 refine(sR H).cF (b9c v xs hv hl 201 [] _ (fun j H1 hj hS=>b4q (iD xs j))) fun H1 hS1=> ?_
 simp(disch:=omega) only[↓RA,RB,simprocAttr,hn]
 refine iC (fun h=> ?_) (fun h=> ?_)
 ·simp(disch:=omega) only[↓RA,RZ,simprocAttr,hn,b9R,h]
  exact⟨by rw[a0m,if_pos (key.1 h)],hS1⟩
 simp(disch:=omega) only[↓RA,RZ,simprocAttr,hn,b9R,h]
 exact⟨by rw[a0m,if_neg (fun hh=>h (key.2 hh))],hS1⟩
def ncF(b:Int):Bool:=qE b||(decide (48≤b)&&decide (b≤57))||decide (b=95)
def kX(s:ByteArray):Bool:=decide (0<s.size)&&decide (s.size≤32)&&qE (oP s 0)&&(List.range (s.size-1)).all fun j=>ncF (oP s (j+1))
theorem c2q(s z:ByteArray)(hz:z.size=0):s=z↔s.size=0:=⟨fun h=>by rw[h,hz],fun h=>by
 apply a0O
 have h1:s.data.toList=[]:=fm (by simpa using h)
 have h2:z.data.toList=[]:=fm (by simpa using hz)
 rw[h1,h2]⟩
theorem qL(s:ByteArray):Fn prog 107 [.string s] H fun r H'=>r=.bool (kX s)∧St prog H H' []:=by
 have hz:=c2q s {data:=#[]} rfl
 refine .aW func107 rfl (by kernel_rfl) (m:=42) rfl fun l hn g0=> ?_
 simp(disch:=omega) only[↓RA,RZ,simprocAttr,hn,g0,hz]
 refine iO (fun h1=> ?_) (fun h1=> ?_)
 ·simp(disch:=omega) only[↓RA,RZ,simprocAttr,hn,a3N,h1]
  first|exact(sR H)|exact⟨by simp[kX,h1],(sR H)⟩
 simp(disch:=omega) only[↓RA,RZ,simprocAttr,hn,g0,h1]
 refine iO (fun h2=> ?_) (fun h2=> ?_)
 ·simp(disch:=omega) only[↓RA,RZ,simprocAttr,hn,a3N,h1,h2]
  first|exact(sR H)|exact⟨by simp[kX,show¬s.size≤32 by omega],(sR H)⟩
 simp(disch:=omega) only[↓RA,RZ,simprocAttr,hn,g0,h1,h2]
 refine(sR H).cF (a3G _) fun H1 hS1=> ?_
 simp(disch:=omega) only[↓RA,RZ,simprocAttr,hn,h1,h2]
 refine jJ (fun h3=> ?_) (fun h3=> ?_)
 ·simp(disch:=omega) only[↓RA,RZ,simprocAttr,hn,a3N,h1,h2,h3]
  first|exact hS1|exact⟨by simp at h3;simp[kX,h3],hS1⟩
 simp(disch:=omega) only[↓RA,RZ,simprocAttr,h1,h2,h3]
 have h4:qE (oP s 0)=true:=by simpa using h3
 have hA:kX s=(List.range (s.size-1)).all fun j=>ncF (oP s (j+1)):=by simp[kX,h4,show 0<s.size by omega,show s.size≤32 by omega]
 refine Wp.aq (fun n l H'=>l.length=42∧get l 0=(.string s)∧∃(i:Nat),(n+i=s.size∧1≤i∧∀j,1≤j→j<i→ncF (oP s j)=true)∧get l 3=I i∧St prog H H' []) (s.size-1) ?_ ?_
 ·simp(disch:=omega) only[RB,RC,simprocAttr,hn,g0]
  exact⟨1,⟨by omega,by omega,fun j h1 h2=>by omega⟩,rfl,hS1⟩
 rintro n l H2⟨hn,g0,i,⟨hi,hi1,h0⟩,g3,hS2⟩
 simp(disch:=omega) only[↓RA,RZ,simprocAttr,hn,g0,g3]
 refine iC (fun h5=> ?_) (fun h5=> ?_)
 ·simp(disch:=omega) only[↓RA,RZ,simprocAttr,hn,g0,g3,h5]
  refine hS2.cF (a3G _) fun H3 hS3=> ?_
  have hF:ncF (oP s i)=false→kX s=false:=fun hh=>by
   rw[hA,List.all_eq_false]
   exact⟨i-1,dz.2 (by omega),by rw[show i-1+1=i by omega,hh];simp⟩
  have hT:ncF (oP s i)=true→∀j,1≤j→j<i+1→ncF (oP s j)=true:=fun hh j h1 h2=>by
   by_cases e:j=i
   ·rw[e];exact hh
   ·exact h0 j h1 (by omega)
  simp(disch:=omega) only[↓RA,RZ,simprocAttr,hn,h5]
  refine vP (fun h1=> ?_) (fun h1=> ?_)
  ·simp(disch:=omega) only[↓RA,RZ,simprocAttr,hn,h5,h1]
   refine iO (fun h2=> ?_) (fun h2=> ?_)
   ·simp(disch:=omega) only[↓RA,RZ,simprocAttr,hn,h5,h1,h2]
    refine iC (fun h3=> ?_) (fun h3=> ?_)
    ·simp(disch:=omega) only[↓RA,RZ,simprocAttr,hn,a3N,h5,h1,h2,h3]
     exact⟨by rw[hF (by simp_all [ncF]<;>omega)],hS3⟩
    simp(disch:=omega) only[↓RA,RZ,simprocAttr,hn,g0,g3,h5,h1,h2,h3]
    exact⟨n-1,by omega,i+1,⟨by omega,by omega,hT (by simp_all [ncF]<;>omega)⟩,by simp,hS3⟩
   simp(disch:=omega) only[↓RA,RZ,simprocAttr,hn,h5,h1,h2]
   refine jU (fun h4=> ?_) (fun h4=> ?_)
   ·simp(disch:=omega) only[↓RA,RZ,simprocAttr,hn,h5,h1,h2,h4]
    refine iC (fun h5=> ?_) (fun h5=> ?_)
    ·simp(disch:=omega) only[↓RA,RZ,simprocAttr,hn,a3N,h1,h2,h4,h5]
     exact⟨by rw[hF (by simp_all [ncF]<;>omega)],hS3⟩
    simp(disch:=omega) only[↓RA,RZ,simprocAttr,hn,g0,g3,h1,h2,h4,h5]
    exact⟨n-1,by omega,i+1,⟨by omega,by omega,hT (by simp_all [ncF]<;>omega)⟩,by simp,hS3⟩
   simp(disch:=omega) only[↓RA,RZ,simprocAttr,hn,g0,g3,h5,h1,h2,h4]
   exact⟨n-1,by omega,i+1,⟨by omega,by omega,hT (by simp_all [ncF]<;>omega)⟩,by simp,hS3⟩
  simp(disch:=omega) only[↓RA,RZ,simprocAttr,hn,g0,g3,h5,h1]
  exact⟨n-1,by omega,i+1,⟨by omega,by omega,hT (by simp_all [ncF]<;>omega)⟩,by simp,hS3⟩
 simp(disch:=omega) only[↓RA,RZ,simprocAttr,hn,a3N,h5]
 refine⟨?_,hS2⟩
 rw[hA]
 congr 1
 symm
 rw[dx]
 intro j hj
 exact h0 (j+1) (by omega) (by have:=dz.1 hj;omega)
def rankE(r:Rk):Int:=if kX r.name=false∨kX r.tone=false then 8 else if nE r.num r.den≠0 then nE r.num r.den else if¬(-256≤r.first∧r.first≤256)then 3 else if r.wind.length=0 then 13 else if 128<r.wind.length then 4 else a0m r.wind
theorem b0H(r:Rk)(hr:r.In H):Fn prog 108 [.agg #[.string r.name,.string r.tone,I r.num,I r.den,I r.first,r.wv]] H fun v H'=>v=I (rankE r)∧St prog H H' []:=by
 have hl:=hr.2
 refine .aW func108 rfl (by kernel_rfl) (m:=38) rfl fun l hn g0=> ?_
 simp(disch:=omega) only[↓RA,RB,simprocAttr,g0]
 refine(sR H).eNew 6 [(.string r.name),(.string r.tone),I r.num,I r.den,I r.first,r.wv] rfl rfl (by simp[OC,((sR H).sl hr.1).cells.2.1]) a2U fun A1 H1 hS1=> ?_
 simp only[RT]at hS1
 simp(disch:=omega) only[↓RA,RZ,simprocAttr,hn,hS1.ld 0 rfl]
 refine hS1.cF (qL _) fun H2 hS2=> ?_
 simp(disch:=omega) only[↓RA,RZ,simprocAttr,hn]
 refine vP (fun h1=> ?_) (fun h1=> ?_)
 ·simp(disch:=omega) only[↓RA,RZ,simprocAttr,hn,a2c,h1]
  refine⟨?_,hS2.forget⟩;clear hS1;unfold rankE;(try simp only[dK]at*);(repeat' split);all_goals first|rfl|omega|simp_all
 simp(disch:=omega) only[↓RA,RZ,simprocAttr,hn,hS2.ld 0 rfl,h1]
 refine hS2.cF (qL _) fun H3 hS3=> ?_
 simp(disch:=omega) only[↓RA,RZ,simprocAttr,hn,h1]
 refine jJ (fun h2=> ?_) (fun h2=> ?_)
 ·simp(disch:=omega) only[↓RA,RB,simprocAttr,hn,a2c,h1,h2]
  refine⟨?_,hS3.forget⟩;clear hS1;unfold rankE;(try simp only[dK]at*);(repeat' split);all_goals first|rfl|omega|simp_all
 simp(disch:=omega) only[↓RA,RZ,simprocAttr,hn,hS3.aj 0 rfl,h1,h2]
 refine hS3.cF (a1g _ _) fun H4 hS4=> ?_
 simp(disch:=omega) only[↓RA,RB,simprocAttr,hn,h1,h2]
 refine iC (fun h3=> ?_) (fun h3=> ?_)
 ·simp(disch:=omega) only[↓RA,RZ,simprocAttr,hn,a2c,h1,h2,h3]
  refine⟨?_,hS4.forget⟩;clear hS1;unfold rankE;(try simp only[ey,dK,de,decide_eq_true_eq,iq,fH,decide_eq_false_iff_not]at*);(repeat' split);all_goals first|rfl|omega|simp_all
 simp(disch:=omega) only[↓RA,RZ,simprocAttr,hn,hS4.ld 0 rfl,h1,h2,h3]
 refine hS4.cF (b3Q _) fun H5 hS5=> ?_
 simp(disch:=omega) only[↓RA,RZ,simprocAttr,hn,h1,h2,h3]
 refine jJ (fun h4=> ?_) (fun h4=> ?_)
 ·simp(disch:=omega) only[↓RA,RZ,simprocAttr,hn,a2c,h1,h2,h3,h4]
  refine⟨?_,hS5.forget⟩;clear hS1;unfold rankE;(try simp only[dK,fH,decide_eq_false_iff_not]at*);(repeat' split);all_goals first|rfl|omega|simp_all
 simp(disch:=omega) only[↓RA,RZ,simprocAttr,hn,hS5.ld 0 rfl,(hS5.sl hr.1).len,h1,h2,h3,h4]
 refine iC (fun h5=> ?_) (fun h5=> ?_)
 ·simp(disch:=omega) only[↓RA,RZ,simprocAttr,hn,a2c,h1,h2,h3,h4,h5]
  refine⟨?_,hS5.forget⟩;clear hS1;unfold rankE;(try simp only[ey,dK,de,decide_eq_true_eq,iq,fH,decide_eq_false_iff_not]at*);(repeat' split);all_goals first|rfl|omega|simp_all
 simp(disch:=omega) only[↓RA,RZ,simprocAttr,hn,hS5.ld 0 rfl,(hS5.sl hr.1).len,h1,h2,h3,h4,h5]
 refine iC (fun h6=> ?_) (fun h6=> ?_)
 ·simp(disch:=omega) only[↓RA,RZ,simprocAttr,hn,a2c,h1,h2,h3,h4,h5,h6]
  refine⟨?_,hS5.forget⟩;clear hS1;unfold rankE;(try simp only[ey,dK,de,decide_eq_true_eq,iq,fH,decide_eq_false_iff_not]at*);(repeat' split);all_goals first|rfl|omega|simp_all
 simp(disch:=omega) only[↓RA,RZ,simprocAttr,hn,hS5.ld 0 rfl,h1,h2,h3,h4,h5,h6]
 refine hS5.cF (b5d r.wv r.wind (hS5.sl hr.1) (by have:=hr.2;omega)) fun H6 hS6=> ?_
 simp(disch:=omega) only[↓RA,RZ,simprocAttr,hn,a2c,h1,h2,h3,h4,h5,h6]
 refine⟨?_,hS6.forget⟩;clear hS1;unfold rankE;(try simp only[ey,dK,de,decide_eq_true_eq,iq,fH,decide_eq_false_iff_not]at*);(repeat' split);all_goals first|rfl|omega|simp_all
abbrev KS(kvs:List (ByteArray×Bool)):List Value:=kcs Value.string Value.bool kvs
def qI(kvs:List (ByteArray×Bool))(s:ByteArray):Bool:=(a1I kvs s).getD false
theorem a1p(B:Base)(A:Nat)(kvs:List (ByteArray×Bool))(s:ByteArray)(hS:St prog B H [⟨.map (some A),0,KS kvs⟩]):
 Fn prog 109 [.map (some A),.string s] H fun r H'=>r=I (if qI kvs s=true then 9 else 0)∧∃kvs',(∀t,qI kvs' t=(qI kvs t||decide (t=s)))∧St prog B H' [⟨.map (some A),0,KS kvs'⟩]:=by
 refine .aD func109 rfl (by kernel_rfl) (m:=10) rfl fun l hn g0 g1=> ?_
 simp(disch:=omega) only[↓RA,RB,simprocAttr,hn,g0,g1]
 refine hS.bP 0 rfl a5T (fun _=>rfl) ?_
 simp(disch:=omega) only[↓RA,RB,simprocAttr,hn]
 refine jJ (fun h=> ?_) (fun h=> ?_)
 ·simp(disch:=omega) only[↓RA,RB,simprocAttr,hn,b9D,h]
  refine⟨by simp[qI,h],kvs,fun t=> ?_,hS⟩
  by_cases e:t=s
  ·subst e;simp[qI,h]
  ·simp[e]
 simp(disch:=omega) only[↓RA,RB,simprocAttr,hn,g0,g1,h]
 refine hS.cm 0 rfl a5T fun H1 hS1=> ?_
 simp only[RT]at hS1
 simp(disch:=omega) only[↓RA,RB,simprocAttr,hn,b9D,h]
 refine⟨by simp[qI,h],_,fun t=> ?_,hS1⟩
 unfold qI
 rw[a2j]
 by_cases e:t=s
 ·simp[e]
 ·simp[e]
def sE(lo hi:Int):Int:=if lo<0∨127<hi then 3 else if hi<lo then 23 else 0
theorem a4B(lo hi:Int):Fn prog 112 [.agg #[I lo,I hi]] H fun r H'=>r=I (sE lo hi)∧St prog H H' []:=by
 refine .aW func112 rfl (by kernel_rfl) (m:=18) rfl fun l hn g0=> ?_
 simp(disch:=omega) only[↓RA,RB,simprocAttr,g0]
 refine(sR H).eNew 2 [I lo,I hi] rfl rfl rfl a9D fun A1 H1 hS1=> ?_
 simp only[RT]at hS1
 simp(disch:=omega) only[↓RA,RZ,simprocAttr,hn,hS1.ld 0 rfl]
 refine iO (fun h1=> ?_) (fun h1=> ?_)
 ·simp(disch:=omega) only[↓RA,RZ,simprocAttr,hn,b0Z,h1]
  refine⟨?_,hS1.forget⟩;unfold sE;(repeat' split);all_goals first|rfl|omega
 simp(disch:=omega) only[↓RA,RZ,simprocAttr,hn,hS1.ld 0 rfl,h1]
 refine iC (fun h2=> ?_) (fun h2=> ?_)
 ·simp(disch:=omega) only[↓RA,RZ,simprocAttr,hn,b0Z,h1,h2]
  refine⟨?_,hS1.forget⟩;unfold sE;(repeat' split);all_goals first|rfl|omega
 simp(disch:=omega) only[↓RA,RZ,simprocAttr,hn,hS1.ld 0 rfl,h1,h2]
 refine iC (fun h3=> ?_) (fun h3=> ?_)
 ·simp(disch:=omega) only[↓RA,RZ,simprocAttr,hn,b0Z,h1,h2,h3]
  refine⟨?_,hS1.forget⟩;unfold sE;(repeat' split);all_goals first|rfl|omega
 simp(disch:=omega) only[↓RA,RZ,simprocAttr,hn,b0Z,h1,h2,h3]
 refine⟨?_,hS1.forget⟩;unfold sE;(repeat' split);all_goals first|rfl|omega
def lO(f:Nat→Int)(n:Nat):Int:=match (List.range n).find? (fun j=>decide (f j≠0))with|some j=>f j|none=>0
theorem oS(f:Nat→Int)(n i:Nat)(hi:i<n)(hp:f i≠0)(h0:∀j,j<i→f j=0):lO f n=f i:=by
 unfold lO
 rw[wK _ n i hi (by simpa using hp) (fun j hj=>by simpa using h0 j hj)]
theorem kT(f:Nat→Int)(n:Nat)(h0:∀j,j<n→f j=0):lO f n=0:=by
 unfold lO
 have:(List.range n).find? (fun j=>decide (f j≠0))=none:=by
  rw[gr]
  intro j hj
  simpa using h0 j (dz.1 hj)
 rw[this]
def tD(rs:List Rk)(lo hi:Int):Int:=if 60<rs.length then 4 else if lO (fun j=>rankE (iD rs j)) rs.length≠0 then lO (fun j=>rankE (iD rs j)) rs.length else sE lo hi
theorem b6y(rv:Value)(rs:List Rk)(lo hi:Int)(hr:Sl 6 Rk.cells H rv rs)(hrk:∀r∈rs,r.In H)(hl:rs.length<1000000000):
 Fn prog 202 [.agg #[rv,I lo,I hi]] H fun v H'=>v=I (tD rs lo hi)∧St prog H H' []:=by
 refine .aW func202 rfl (by kernel_rfl) (m:=26) rfl fun l hn g0=> ?_
 simp(disch:=omega) only[↓RA,RB,simprocAttr,g0]
 refine(sR H).eNew 3 [rv,I lo,I hi] rfl rfl (by simp[OC,((sR H).sl hr).cells.2.1]) b0U fun A1 H1 hS1=> ?_
 simp only[RT]at hS1
 simp(disch:=omega) only[↓RA,RZ,simprocAttr,hn,hS1.ld 0 rfl,(hS1.sl hr).len]
 refine iC (fun h=> ?_) (fun h=> ?_)
 ·simp(disch:=omega) only[↓RA,RZ,simprocAttr,hn,b5C,h]
  exact⟨by rw[tD,if_pos (by omega)],hS1.forget⟩
 simp(disch:=omega) only[↓RA,RZ,simprocAttr,hn,hS1.ld 0 rfl,(hS1.sl hr).len,h]
 refine Wp.aq (fun n l H'=>l.length=26∧get l 1=(ptr A1 0 3)∧get l 11=rv∧get l 12=I rs.length∧∃(i:Nat),(n+i=rs.length∧∀j,j<i→rankE (iD rs j)=0)∧get l 13=I i∧St prog H H' [⟨ptr A1 0 3,0,[rv,I lo,I hi]⟩]) rs.length ?_ ?_
 ·simp(disch:=omega) only[RB,RC,simprocAttr,hn]
  exact⟨0,⟨by omega,by simp⟩,rfl,hS1⟩
 rintro n l H2⟨hn,g1,g11,g12,i,⟨hi1,h0⟩,g13,hS2⟩
 simp(disch:=omega) only[↓RA,RB,simprocAttr,hn,g12,g13]
 refine iC (fun h1=> ?_) (fun h1=> ?_)
 ·simp(disch:=omega) only[↓RA,RZ,simprocAttr,hn,g11,g13,(hS2.sl hr).idx,(hS2.sl hr).aj,Rk.cells,h1]
  refine hS2.eNew 6 [(.string ⟨#[]⟩),(.string ⟨#[]⟩),I 0,I 0,I 0,(.slice none 0 0)] rfl rfl rfl a2U fun A2 H3 hS3=> ?_
  simp only[RT]at hS3
  simp(disch:=omega) only[↓RA,RZ,simprocAttr,hn,h1]
  refine hS3.aa 1 rfl [(.string (iD rs i).name),(.string (iD rs i).tone),I (iD rs i).num,I (iD rs i).den,I (iD rs i).first,(iD rs i).wv] rfl (by simp[OC,(hS3.sl (hrk (iD rs i) (iG (by omega))).1).cells.2.1]) a2U (by simp) fun H4 hS4=> ?_
  simp only[RT]at hS4
  simp(disch:=omega) only[↓RA,RZ,simprocAttr,hn,hS4.aj 1 rfl,h1]
  refine hS4.cF (b0H (iD rs i) ((hrk _ (iG (by omega))).ae hS4)) fun H5 hS5=> ?_
  simp(disch:=omega) only[↓RA,RZ,simprocAttr,hn,h1]
  refine iC (fun h2=> ?_) (fun h2=> ?_)
  ·simp(disch:=omega) only[↓RA,RZ,simprocAttr,hn,b5C,h1,h2]
   refine⟨?_,hS5.forget⟩
   rw[tD,if_neg (by omega),oS _ rs.length i (by omega) h2 h0,if_pos h2]
  simp(disch:=omega) only[↓RA,RZ,simprocAttr,hn,g1,g11,g12,g13,h1,h2]
  exact⟨n-1,by omega,i+1,⟨by omega,fun j hj=>by rcases dw.1 hj with e|e;(· exact h0 j e);(· rw[e];exact dN.1 h2)⟩,by simp,hS5.sub (by simp)⟩
 simp(disch:=omega) only[↓RA,RZ,simprocAttr,hn,g1,hS2.aj 0 rfl,h1]
 refine hS2.cF (a4B lo hi) fun H6 hS6=> ?_
 simp(disch:=omega) only[↓RA,RZ,simprocAttr,hn,b5C,h1]
 refine⟨?_,hS6.forget⟩
 have e:=kT (fun j=>rankE (iD rs j)) rs.length fun j hj=>h0 j (by omega)
 rw[tD,if_neg (by omega),if_neg (by rw[e];simp)]
theorem Drw.eq(a b:Drw):(a.rank=b.rank∧a.shift=b.shift)↔b=a:=by
 cases a;cases b;simp[eq_comm]
theorem b2t(v:Value)(xs:List Drw)(hv:Sl 2 Drw.cells H v xs)(hl:xs.length<1000000000)(d:Drw):
 Fn prog 245 [v,.agg #[I d.rank,I d.shift]] H fun r H'=>r=I (lT (fun j=>decide (iD xs j=d)) xs.length)∧St prog H H' []:=by
 refine .aD func245 rfl (by kernel_rfl) (m:=19) rfl fun l hn g0 g1=> ?_
 simp(disch:=omega) only[↓RA,RB,simprocAttr,g1]
 refine(sR H).eNew 2 [I d.rank,I d.shift] rfl rfl rfl a0L fun A1 H1 hS1=> ?_
 simp only[RT]at hS1
 simp(disch:=omega) only[↓RA,RZ,simprocAttr,hn,g0,(hS1.sl hv).len]
 refine Wp.aq (fun n l H'=>l.length=19∧get l 0=v∧get l 3=(ptr A1 0 2)∧get l 7=I xs.length∧∃(j:Nat),(n+j=xs.length∧∀q,q<j→decide (iD xs q=d)=false)∧get l 8=I j∧St prog H H' [⟨ptr A1 0 2,0,[I d.rank,I d.shift]⟩]) xs.length ?_ ?_
 ·simp(disch:=omega) only[RB,RC,simprocAttr,hn,g0]
  exact⟨0,⟨by omega,fun q hq=>absurd hq (dJ _)⟩,rfl,hS1⟩
 rintro n l H2⟨hn,g0,g3,g7,j,⟨hi,h0⟩,g8,hS2⟩
 simp(disch:=omega) only[↓RA,RB,simprocAttr,hn,g7,g8]
 refine iC (fun h=> ?_) (fun h=> ?_)
 ·simp(disch:=omega) only[↓RA,RZ,simprocAttr,hn,g8,h]
  refine Wp.drw kG (by kernel_rfl) ?_
  simp(disch:=omega) only[↓RA,RZ,simprocAttr,hn,g0,g3,hS2.aj 0 rfl,(hS2.sl hv).idx,(hS2.sl hv).aj,Drw.cells]
  refine iC (fun hp=> ?_) (fun hp=> ?_)
  ·simp(disch:=omega) only[↓RA,RZ,simprocAttr,hn,b9w,hp]
   exact⟨by rw[vV _ xs.length j (by omega) (by simpa using(Drw.eq _ _).1 hp) h0],hS2.forget⟩
  simp(disch:=omega) only[↓RA,RZ,simprocAttr,hn,g0,g3,g7,g8,hp]
  exact⟨n-1,by omega,j+1,⟨by omega,fun q hq=>by rcases dw.1 hq with e|e;(· exact h0 q e);(· rw[e];simpa using fun hh=>hp ((Drw.eq _ _).2 hh))⟩,by simp,hS2⟩
 simp(disch:=omega) only[↓RA,RZ,simprocAttr,hn,b9w,h]
 exact⟨by rw[vK _ xs.length fun q hq=>h0 q (by omega)],hS2.forget⟩
theorem b7y(v:Value)(xs:List Drw)(hv:Sl 2 Drw.cells H v xs)(hl:xs.length<1000000000)(d:Drw):
 Fn prog 231 [v,.agg #[I d.rank,I d.shift]] H fun r H'=>r=.bool (decide (d∈xs))∧St prog H H' []:=by
 have e:decide (0≤lT (fun j=>decide (iD xs j=d)) xs.length)=decide (d∈xs):=by
  rw[eH,decide_eq_true_iff,decide_eq_true_iff,vH]
  constructor
  ·rintro⟨j,hj,hp⟩
   rw[←of_decide_eq_true hp];exact iG hj
  ·intro hx
   obtain⟨j,hj,rfl⟩:=dT.1 hx
   exact⟨j,hj,by rw[jP xs j hj];simp⟩
 refine .aD func231 rfl (by kernel_rfl) (m:=9) rfl fun l hn g0 g1=> ?_
 simp(disch:=omega) only[↓RA,RB,simprocAttr,g1]
 refine(sR H).eNew 2 [I d.rank,I d.shift] rfl rfl rfl a0L fun A1 H1 hS1=> ?_
 simp only[RT]at hS1
 simp(disch:=omega) only[↓RA,RZ,simprocAttr,hn,g0,hS1.aj 0 rfl]
 refine hS1.cF (b2t v xs (hS1.sl hv) hl d) fun H2 hS2=> ?_
 simp(disch:=omega) only[↓RA,RB,simprocAttr,hn,c4c]
 rw[←e]
 first|exact hS2.forget|exact⟨rfl,hS2.forget⟩
def kO(m:Nat)(l:List Drw)(j:Nat):Int:=if(iD l j).rank<0∨m≤(iD l j).rank then 10 else if(iD l j).shift< -127∨127<(iD l j).shift then 3 else if iD l j∈l.take j then 9 else 0
def lJ(m:Nat)(l:List Drw):Int:=if 8<l.length then 4 else lO (kO m l) l.length
theorem a7O(rv:Value)(rs:List Rk)(lo hi:Int)(hr:Sl 6 Rk.cells H rv rs)(hl:rs.length<1000000000)(dv:Value)(ds:List Drw)(hd:Sl 2 Drw.cells H dv ds)(hl2:ds.length<1000000000):
 Fn prog 203 [.agg #[rv,I lo,I hi],dv] H fun v H'=>v=I (lJ rs.length ds)∧St prog H H' []:=by
 refine .aD func203 rfl (by kernel_rfl) (m:=45) rfl fun l hn g0 g1=> ?_
 simp(disch:=omega) only[↓RA,RB,simprocAttr,g0]
 refine(sR H).eNew 3 [rv,I lo,I hi] rfl rfl (by simp[OC,((sR H).sl hr).cells.2.1]) b0U fun A1 H1 hS1=> ?_
 simp only[RT]at hS1
 simp(disch:=omega) only[↓RA,RZ,simprocAttr,hn,g1,(hS1.sl hd).len]
 refine iC (fun h=> ?_) (fun h=> ?_)
 ·simp(disch:=omega) only[↓RA,RZ,simprocAttr,hn,a1F,h]
  exact⟨by rw[lJ,if_pos (by omega)],hS1.forget⟩
 simp(disch:=omega) only[↓RA,RZ,simprocAttr,hn,g1,(hS1.sl hd).len,h]
 refine Wp.aq (fun n l H'=>l.length=45∧get l 1=dv∧get l 2=(ptr A1 0 3)∧get l 10=dv∧get l 11=I ds.length∧∃(i:Nat),(n+i=ds.length∧∀j,j<i→kO rs.length ds j=0)∧get l 12=I i∧St prog H H' [⟨ptr A1 0 3,0,[rv,I lo,I hi]⟩]) ds.length ?_ ?_
 ·simp(disch:=omega) only[RB,RC,simprocAttr,hn,g1]
  exact⟨0,⟨by omega,by simp⟩,rfl,hS1⟩
 rintro n l H2⟨hn,g1,g2,g10,g11,i,⟨hi1,h0⟩,g12,hS2⟩
 simp(disch:=omega) only[↓RA,RB,simprocAttr,hn,g11,g12]
 refine iC (fun h1=> ?_) (fun h1=> ?_)
 ·have key:kO rs.length ds i≠0→lJ rs.length ds=kO rs.length ds i:=fun hne=>by rw[lJ,if_neg (by omega),oS _ ds.length i (by omega) hne h0]
  simp(disch:=omega) only[↓RA,RZ,simprocAttr,hn,g10,g12,(hS2.sl hd).idx,(hS2.sl hd).aj,Drw.cells,h1]
  refine hS2.eNew 2 [I 0,I 0] rfl rfl rfl a0L fun A2 H3 hS3=> ?_
  simp only[RT]at hS3
  simp(disch:=omega) only[↓RA,RZ,simprocAttr,hn,h1]
  refine hS3.aa 1 rfl [I (iD ds i).rank,I (iD ds i).shift] rfl rfl a0L (by simp) fun H4 hS4=> ?_
  simp only[RT]at hS4
  simp(disch:=omega) only[↓RA,RZ,simprocAttr,hn,hS4.ld 1 rfl,h1]
  refine iO (fun h1=> ?_) (fun h1=> ?_)
  ·simp(disch:=omega) only[↓RA,RZ,simprocAttr,hn,a1F,h1]
   (first|(have e1:kO rs.length ds i=10:=by rw[kO,if_pos (by omega)]);exact⟨by rw[key (by rw[e1];decide),e1],hS4.forget⟩|(have e1:kO rs.length ds i=3:=by rw[kO,if_neg (by omega),if_pos (by omega)]);exact⟨by rw[key (by rw[e1];decide),e1],hS4.forget⟩|(have e1:kO rs.length ds i=9:=by rw[kO,if_neg (by omega),if_neg (by omega),if_pos (by simp_all)]);exact⟨by rw[key (by rw[e1];decide),e1],hS4.forget⟩)
  simp(disch:=omega) only[↓RA,RZ,simprocAttr,hn,g2,hS4.ld 1 rfl,hS4.ld 0 rfl,(hS4.sl hr).len,h1]
  refine iC (fun h2=> ?_) (fun h2=> ?_)
  ·simp(disch:=omega) only[↓RA,RZ,simprocAttr,hn,a1F,h1,h2]
   (first|(have e1:kO rs.length ds i=10:=by rw[kO,if_pos (by omega)]);exact⟨by rw[key (by rw[e1];decide),e1],hS4.forget⟩|(have e1:kO rs.length ds i=3:=by rw[kO,if_neg (by omega),if_pos (by omega)]);exact⟨by rw[key (by rw[e1];decide),e1],hS4.forget⟩|(have e1:kO rs.length ds i=9:=by rw[kO,if_neg (by omega),if_neg (by omega),if_pos (by simp_all)]);exact⟨by rw[key (by rw[e1];decide),e1],hS4.forget⟩)
  simp(disch:=omega) only[↓RA,RZ,simprocAttr,hn,hS4.ld 1 rfl,h1,h2]
  refine iO (fun h3=> ?_) (fun h3=> ?_)
  ·simp(disch:=omega) only[↓RA,RZ,simprocAttr,hn,a1F,h1,h2,h3]
   (first|(have e1:kO rs.length ds i=10:=by rw[kO,if_pos (by omega)]);exact⟨by rw[key (by rw[e1];decide),e1],hS4.forget⟩|(have e1:kO rs.length ds i=3:=by rw[kO,if_neg (by omega),if_pos (by omega)]);exact⟨by rw[key (by rw[e1];decide),e1],hS4.forget⟩|(have e1:kO rs.length ds i=9:=by rw[kO,if_neg (by omega),if_neg (by omega),if_pos (by simp_all)]);exact⟨by rw[key (by rw[e1];decide),e1],hS4.forget⟩)
  simp(disch:=omega) only[↓RA,RZ,simprocAttr,hn,hS4.ld 1 rfl,h1,h2,h3]
  refine iC (fun h4=> ?_) (fun h4=> ?_)
  ·simp(disch:=omega) only[↓RA,RZ,simprocAttr,hn,a1F,h1,h2,h3,h4]
   (first|(have e1:kO rs.length ds i=10:=by rw[kO,if_pos (by omega)]);exact⟨by rw[key (by rw[e1];decide),e1],hS4.forget⟩|(have e1:kO rs.length ds i=3:=by rw[kO,if_neg (by omega),if_pos (by omega)]);exact⟨by rw[key (by rw[e1];decide),e1],hS4.forget⟩|(have e1:kO rs.length ds i=9:=by rw[kO,if_neg (by omega),if_neg (by omega),if_pos (by simp_all)]);exact⟨by rw[key (by rw[e1];decide),e1],hS4.forget⟩)
  simp(disch:=omega) only[↓RA,RZ,simprocAttr,h1,h2,h3,h4]
  refine Wp.drw kG (by kernel_rfl) ?_
  simp(disch:=omega) only[↓RA,RZ,simprocAttr,hn,g1,(hS4.sl hd).aN,hS4.aj 1 rfl]
  refine hS4.cF (b7y _ (ds.take i) ((hS4.sl hd).cE i (by omega) (by omega)) (by simp;omega) (iD ds i)) fun H5 hS5=> ?_
  simp(disch:=omega) only[↓RA,RB,simprocAttr,hn]
  refine iC (fun h5=> ?_) (fun h5=> ?_)
  ·simp(disch:=omega) only[↓RA,RZ,simprocAttr,hn,a1F,h5]
   (first|(have e1:kO rs.length ds i=10:=by rw[kO,if_pos (by omega)]);exact⟨by rw[key (by rw[e1];decide),e1],hS5.forget⟩|(have e1:kO rs.length ds i=3:=by rw[kO,if_neg (by omega),if_pos (by omega)]);exact⟨by rw[key (by rw[e1];decide),e1],hS5.forget⟩|(have e1:kO rs.length ds i=9:=by rw[kO,if_neg (by omega),if_neg (by omega),if_pos (by simp_all)]);exact⟨by rw[key (by rw[e1];decide),e1],hS5.forget⟩)
  simp(disch:=omega) only[↓RA,RZ,simprocAttr,hn,g1,g2,g10,g11,g12,h5]
  have e0:kO rs.length ds i=0:=by rw[kO,if_neg (by omega),if_neg (by omega),if_neg (by simp_all)]
  exact⟨n-1,by omega,i+1,⟨by omega,fun j hj=>by rcases dw.1 hj with e|e;(· exact h0 j e);(· rw[e];exact e0)⟩,by simp,hS5.sub (by simp)⟩
 simp(disch:=omega) only[↓RA,RZ,simprocAttr,hn,a1F,h1]
 exact⟨by rw[lJ,if_neg (by omega),kT _ _ fun j hj=>h0 j (by omega)],hS2.forget⟩
def lA(lo hi:Int)(m:Nat)(gs:List Seg)(j:Nat):Int:=if min (iD gs j).lo (iD gs j).hi<lo∨hi<max (iD gs j).lo (iD gs j).hi then 23 else if(iD gs j).hi<(iD gs j).lo∨(0<j∧(iD gs j).lo≤(iD gs (j-1)).hi)then 6 else lJ m (iD gs j).draws
def stopE(rs:List Rk)(lo hi:Int)(s:Stp):Int:=if tD rs lo hi≠0 then tD rs lo hi else if kX s.name=false then 8 else if nE s.num s.den≠0 then nE s.num s.den else if s.segs.length=0 then 13 else if 12<s.segs.length then 4 else lO (lA lo hi rs.length s.segs) s.segs.length
theorem b8Z(rv:Value)(rs:List Rk)(lo hi:Int)(hr:Sl 6 Rk.cells H rv rs)(hrk:∀r∈rs,r.In H)(hl:rs.length<1000000000)(s:Stp)(hs:s.In H):
 Fn prog 157 [.agg #[rv,I lo,I hi],.agg #[.string s.name,I s.num,I s.den,s.gv]] H fun v H'=>v=I (stopE rs lo hi s)∧St prog H H' []:=by
 have hl2:=hs.2.2
 refine .aD func157 rfl (by kernel_rfl) (m:=94) rfl fun l hn g0 g1=> ?_
 simp(disch:=omega) only[↓RA,RB,simprocAttr,g0]
 refine(sR H).eNew 3 [rv,I lo,I hi] rfl rfl (by simp[OC,((sR H).sl hr).cells.2.1]) b0U fun A1 H1 hS1=> ?_
 simp only[RT]at hS1
 simp(disch:=omega) only[↓RA,RB,simprocAttr,g1]
 refine hS1.eNew 4 [(.string s.name),I s.num,I s.den,s.gv] rfl rfl (by simp[OC,(hS1.sl hs.1).cells.2.1]) nA fun A2 H2 hS2=> ?_
 simp only[RT]at hS2
 simp(disch:=omega) only[↓RA,RZ,simprocAttr,hn,hS2.aj 0 rfl]
 refine hS2.cF (b6y rv rs lo hi (hS2.sl hr) (fun r h=>(hrk r h).ae hS2) hl) fun H3 hS3=> ?_
 simp(disch:=omega) only[↓RA,RB,simprocAttr,hn]
 refine iC (fun p1=> ?_) (fun p1=> ?_)
 ·simp(disch:=omega) only[↓RA,RZ,simprocAttr,hn,tN,p1]
  exact⟨by rw[stopE,if_pos p1],hS3.forget⟩
 simp(disch:=omega) only[↓RA,RZ,simprocAttr,hn,hS3.ld 1 rfl,p1]
 refine hS3.cF (qL s.name) fun H4 hS4=> ?_
 simp(disch:=omega) only[↓RA,RZ,simprocAttr,hn,p1]
 refine jJ (fun p2=> ?_) (fun p2=> ?_)
 ·simp(disch:=omega) only[↓RA,RZ,simprocAttr,hn,tN,p1,p2]
  exact⟨by rw[stopE,if_neg p1,if_pos (by simpa using p2)],hS4.forget⟩
 have p2':¬kX s.name=false:=by simpa using p2
 simp(disch:=omega) only[↓RA,RZ,simprocAttr,hn,hS4.aj 1 rfl,p1,p2]
 refine hS4.cF (a1g s.num s.den) fun H5 hS5=> ?_
 simp(disch:=omega) only[↓RA,RZ,simprocAttr,hn,p1,p2]
 refine iC (fun p3=> ?_) (fun p3=> ?_)
 ·simp(disch:=omega) only[↓RA,RZ,simprocAttr,hn,tN,p1,p2,p3]
  exact⟨by rw[stopE,if_neg p1,if_neg p2',if_pos p3],hS5.forget⟩
 simp(disch:=omega) only[↓RA,RZ,simprocAttr,hn,hS5.ld 1 rfl,(hS5.sl hs.1).len,p1,p2,p3]
 refine iC (fun p4=> ?_) (fun p4=> ?_)
 ·simp(disch:=omega) only[↓RA,RZ,simprocAttr,hn,tN,p1,p2,p3,p4]
  exact⟨by rw[stopE,if_neg p1,if_neg p2',if_neg p3,if_pos (by omega)],hS5.forget⟩
 simp(disch:=omega) only[↓RA,RZ,simprocAttr,hn,hS5.ld 1 rfl,(hS5.sl hs.1).len,p1,p2,p3,p4]
 refine iC (fun p5=> ?_) (fun p5=> ?_)
 ·simp(disch:=omega) only[↓RA,RZ,simprocAttr,hn,tN,p1,p2,p3,p4,p5]
  exact⟨by rw[stopE,if_neg p1,if_neg p2',if_neg p3,if_neg (by omega),if_pos (by omega)],hS5.forget⟩
 have hE:stopE rs lo hi s=lO (lA lo hi rs.length s.segs) s.segs.length:=by rw[stopE,if_neg p1,if_neg p2',if_neg p3,if_neg (by omega),if_neg (by omega)]
 simp(disch:=omega) only[↓RA,RZ,simprocAttr,hn,hS5.ld 1 rfl,(hS5.sl hs.1).len,p1,p2,p3,p4,p5]
 refine Wp.aq (fun n l H'=>l.length=94∧get l 2=(ptr A1 0 3)∧get l 3=(ptr A2 0 4)∧get l 36=s.gv∧get l 37=I s.segs.length∧∃(i:Nat),(n+i=s.segs.length∧∀j,j<i→lA lo hi rs.length s.segs j=0)∧get l 38=I i∧St prog H H' [⟨ptr A1 0 3,0,[rv,I lo,I hi]⟩,⟨ptr A2 0 4,0,[(.string s.name),I s.num,I s.den,s.gv]⟩]) s.segs.length ?_ ?_
 ·simp(disch:=omega) only[RB,RC,simprocAttr,hn]
  exact⟨0,⟨by omega,by simp⟩,rfl,hS5⟩
 rintro n l H6⟨hn,g2,g3,g36,g37,i,⟨hi1,h0⟩,g38,hS6⟩
 simp(disch:=omega) only[↓RA,RB,simprocAttr,hn,g37,g38]
 refine iC (fun q1=> ?_) (fun q1=> ?_)
 ·have key:lA lo hi rs.length s.segs i≠0→stopE rs lo hi s=lA lo hi rs.length s.segs i:=fun hne=>by rw[hE,oS _ _ i (by omega) hne h0]
  have ei:((i:Int)-1).toNat=i-1:=by omega
  simp(disch:=omega) only[↓RA,RZ,simprocAttr,hn,g36,g38,(hS6.sl hs.1).idx,(hS6.sl hs.1).aj,Seg.cells,q1]
  refine hS6.eNew 3 [I 0,I 0,(.slice none 0 0)] rfl rfl rfl a1x fun A3 H7 hS7=> ?_
  simp only[RT]at hS7
  simp(disch:=omega) only[↓RA,RZ,simprocAttr,hn,q1]
  refine hS7.aa 2 rfl [I (iD s.segs i).lo,I (iD s.segs i).hi,(iD s.segs i).dv] rfl (by simp[OC,(hS7.sl (hs.2.1 (iD s.segs i) (iG (by omega))).1).cells.2.1]) a1x (by simp) fun H8 hS8=> ?_
  simp only[RT]at hS8
  simp(disch:=omega) only[↓RA,RZ,simprocAttr,hn,g2,hS8.ld 2 rfl,hS8.ld 0 rfl,q1]
  refine iO (fun h1=> ?_) (fun h1=> ?_)
  ·simp(disch:=omega) only[↓RA,RZ,simprocAttr,hn,tN,q1,h1]
   (first|(have e1:lA lo hi rs.length s.segs i=23:=by rw[lA,if_pos (by omega)]);exact⟨by rw[key (by rw[e1];decide),e1],hS8.forget⟩|(have e1:lA lo hi rs.length s.segs i=6:=by rw[lA,if_neg (by omega),if_pos (by omega)]);exact⟨by rw[key (by rw[e1];decide),e1],hS8.forget⟩|(have e1:lA lo hi rs.length s.segs i=lJ rs.length (iD s.segs i).draws:=by rw[lA,if_neg (by omega),if_neg (by omega)]);exact⟨by rw[key (by rw[e1];assumption),e1],hS8.forget⟩)
  simp(disch:=omega) only[↓RA,RZ,simprocAttr,hn,g2,hS8.ld 2 rfl,hS8.ld 0 rfl,q1,h1]
  refine iC (fun h2=> ?_) (fun h2=> ?_)
  ·simp(disch:=omega) only[↓RA,RZ,simprocAttr,hn,tN,q1,h1,h2]
   (first|(have e1:lA lo hi rs.length s.segs i=23:=by rw[lA,if_pos (by omega)]);exact⟨by rw[key (by rw[e1];decide),e1],hS8.forget⟩|(have e1:lA lo hi rs.length s.segs i=6:=by rw[lA,if_neg (by omega),if_pos (by omega)]);exact⟨by rw[key (by rw[e1];decide),e1],hS8.forget⟩|(have e1:lA lo hi rs.length s.segs i=lJ rs.length (iD s.segs i).draws:=by rw[lA,if_neg (by omega),if_neg (by omega)]);exact⟨by rw[key (by rw[e1];assumption),e1],hS8.forget⟩)
  simp(disch:=omega) only[↓RA,RZ,simprocAttr,q1,h1,h2]
  refine Wp.drw kG (by kernel_rfl) ?_
  simp(disch:=omega) only[↓RA,RZ,simprocAttr,hn,hS8.ld 2 rfl]
  refine iO (fun h3=> ?_) (fun h3=> ?_)
  ·simp(disch:=omega) only[↓RA,RZ,simprocAttr,hn,tN,h3]
   (first|(have e1:lA lo hi rs.length s.segs i=23:=by rw[lA,if_pos (by omega)]);exact⟨by rw[key (by rw[e1];decide),e1],hS8.forget⟩|(have e1:lA lo hi rs.length s.segs i=6:=by rw[lA,if_neg (by omega),if_pos (by omega)]);exact⟨by rw[key (by rw[e1];decide),e1],hS8.forget⟩|(have e1:lA lo hi rs.length s.segs i=lJ rs.length (iD s.segs i).draws:=by rw[lA,if_neg (by omega),if_neg (by omega)]);exact⟨by rw[key (by rw[e1];assumption),e1],hS8.forget⟩)
  simp(disch:=omega) only[↓RA,RZ,simprocAttr,hn,h3]
  refine jU (fun h4=> ?_) (fun h4=> ?_)
  ·simp(disch:=omega) only[↓RA,RZ,simprocAttr,hn,g3,hS8.ld 2 rfl,hS8.ld 1 rfl,(hS8.sl hs.1).idx,(hS8.sl hs.1).bd,(hS8.sl hs.1).ld,Seg.cells,ei,h3,h4]
   refine iC (fun h5=> ?_) (fun h5=> ?_)
   ·simp(disch:=omega) only[↓RA,RZ,simprocAttr,hn,tN,h3,h4,h5]
    (first|(have e1:lA lo hi rs.length s.segs i=23:=by rw[lA,if_pos (by omega)]);exact⟨by rw[key (by rw[e1];decide),e1],hS8.forget⟩|(have e1:lA lo hi rs.length s.segs i=6:=by rw[lA,if_neg (by omega),if_pos (by omega)]);exact⟨by rw[key (by rw[e1];decide),e1],hS8.forget⟩|(have e1:lA lo hi rs.length s.segs i=lJ rs.length (iD s.segs i).draws:=by rw[lA,if_neg (by omega),if_neg (by omega)]);exact⟨by rw[key (by rw[e1];assumption),e1],hS8.forget⟩)
   simp(disch:=omega) only[↓RA,RZ,simprocAttr,hn,g2,hS8.aj 0 rfl,hS8.ld 2 rfl,h3,h4,h5]
   refine hS8.cF (a7O rv rs lo hi (hS8.sl hr) hl _ _ (hS8.sl (hs.2.1 _ (iG (by omega))).1) (hs.2.1 _ (iG (by omega))).2) fun H9 hS9=> ?_
   simp(disch:=omega) only[↓RA,RZ,simprocAttr,hn,h3,h4,h5]
   refine iC (fun h6=> ?_) (fun h6=> ?_)
   ·simp(disch:=omega) only[↓RA,RZ,simprocAttr,hn,tN,h3,h4,h5,h6]
    (first|(have e1:lA lo hi rs.length s.segs i=23:=by rw[lA,if_pos (by omega)]);exact⟨by rw[key (by rw[e1];decide),e1],hS9.forget⟩|(have e1:lA lo hi rs.length s.segs i=6:=by rw[lA,if_neg (by omega),if_pos (by omega)]);exact⟨by rw[key (by rw[e1];decide),e1],hS9.forget⟩|(have e1:lA lo hi rs.length s.segs i=lJ rs.length (iD s.segs i).draws:=by rw[lA,if_neg (by omega),if_neg (by omega)]);exact⟨by rw[key (by rw[e1];assumption),e1],hS9.forget⟩)
   simp(disch:=omega) only[↓RA,RZ,simprocAttr,hn,g2,g3,g36,g37,g38,h3,h4,h5,h6]
   have e0:lA lo hi rs.length s.segs i=0:=by rw[lA,if_neg (by omega),if_neg (by omega)];omega
   exact⟨n-1,by omega,i+1,⟨by omega,fun j hj=>by rcases dw.1 hj with e|e;(· exact h0 j e);(· rw[e];exact e0)⟩,by simp,hS9.sub (by simp)⟩
  simp(disch:=omega) only[↓RA,RZ,simprocAttr,hn,g2,hS8.aj 0 rfl,hS8.ld 2 rfl,h3,h4]
  refine hS8.cF (a7O rv rs lo hi (hS8.sl hr) hl _ _ (hS8.sl (hs.2.1 _ (iG (by omega))).1) (hs.2.1 _ (iG (by omega))).2) fun H10 hS10=> ?_
  simp(disch:=omega) only[↓RA,RZ,simprocAttr,hn,h3,h4]
  refine iC (fun h7=> ?_) (fun h7=> ?_)
  ·simp(disch:=omega) only[↓RA,RZ,simprocAttr,hn,tN,h3,h4,h7]
   (first|(have e1:lA lo hi rs.length s.segs i=23:=by rw[lA,if_pos (by omega)]);exact⟨by rw[key (by rw[e1];decide),e1],hS10.forget⟩|(have e1:lA lo hi rs.length s.segs i=6:=by rw[lA,if_neg (by omega),if_pos (by omega)]);exact⟨by rw[key (by rw[e1];decide),e1],hS10.forget⟩|(have e1:lA lo hi rs.length s.segs i=lJ rs.length (iD s.segs i).draws:=by rw[lA,if_neg (by omega),if_neg (by omega)]);exact⟨by rw[key (by rw[e1];assumption),e1],hS10.forget⟩)
  simp(disch:=omega) only[↓RA,RZ,simprocAttr,hn,g2,g3,g36,g37,g38,h3,h4,h7]
  have e0:lA lo hi rs.length s.segs i=0:=by rw[lA,if_neg (by omega),if_neg (by omega)];omega
  exact⟨n-1,by omega,i+1,⟨by omega,fun j hj=>by rcases dw.1 hj with e|e;(· exact h0 j e);(· rw[e];exact e0)⟩,by simp,hS10.sub (by simp)⟩
 simp(disch:=omega) only[↓RA,RZ,simprocAttr,hn,tN,q1]
 exact⟨by rw[hE,kT _ _ fun j hj=>h0 j (by omega)],hS6.forget⟩
theorem b8V(v:Value)(xs:List Cpl)(hv:Sl 5 Cpl.cells H v xs)(hl:xs.length<1000000000)(k:FuncId)(caps:List Value)(p:Nat→Bool)
 (hf:∀j H1,j<xs.length→St prog H H1 []→Fn prog k (.agg #[.string (iD xs j).name,I (iD xs j).src,I (iD xs j).dst,I (iD xs j).shift,.bool (iD xs j).thr]::caps) H1 fun r H2=>r=.bool (p j)∧St prog H1 H2 []):
 Fn prog 204 [v,.func (.func k) #[] caps.toArray] H fun r H'=>r=I (lT p xs.length)∧St prog H H' []:=by
 refine .aD func204 rfl (by kernel_rfl) (m:=19) rfl fun l hn g0 g1=> ?_
 simp(disch:=omega) only[↓RA,RZ,simprocAttr,hn,g0,((sR H).sl hv).len]
 refine Wp.aq (fun n l H'=>l.length=19∧get l 0=v∧get l 1=.func (.func k) #[] caps.toArray∧get l 7=I xs.length∧∃(j:Nat),(n+j=xs.length∧∀q,q<j→p q=false)∧get l 8=I j∧St prog H H' []) xs.length ?_ ?_
 ·simp(disch:=omega) only[RB,RC,simprocAttr,hn,g0,g1]
  exact⟨0,⟨by omega,fun q hq=>absurd hq (dJ _)⟩,rfl,(sR H)⟩
 rintro n l H1⟨hn,g0,g1,g7,j,⟨hi,h0⟩,g8,hS1⟩
 simp(disch:=omega) only[↓RA,RB,simprocAttr,hn,g7,g8]
 refine iC (fun h=> ?_) (fun h=> ?_)
 ·simp(disch:=omega) only[↓RA,RZ,simprocAttr,hn,g0,g1,g8,(hS1.sl hv).idx,(hS1.sl hv).aj,Cpl.cells,h]
  refine hS1.cF (hf j _ (by omega) hS1) fun H2 hS2=> ?_
  simp(disch:=omega) only[↓RA,RZ,simprocAttr,hn,h]
  refine jJ (fun hp=> ?_) (fun hp=> ?_)
  ·simp(disch:=omega) only[↓RA,RZ,simprocAttr,hn,c0c,h,hp]
   exact⟨by rw[vV p xs.length j (by omega) hp h0],hS2⟩
  simp(disch:=omega) only[↓RA,RZ,simprocAttr,hn,g0,g1,g7,g8,h,hp]
  exact⟨n-1,by omega,j+1,⟨by omega,fun q hq=>by rcases dw.1 hq with e|e;(· exact h0 q e);(· rw[e];exact hp)⟩,by simp,hS2⟩
 simp(disch:=omega) only[↓RA,RZ,simprocAttr,hn,c0c,h]
 exact⟨by rw[vK p xs.length fun q hq=>h0 q (by omega)],hS1⟩
theorem b7K(v:Value)(xs:List Cpl)(hv:Sl 5 Cpl.cells H v xs)(hl:xs.length<1000000000)(k:FuncId)(caps:List Value)(p:Nat→Bool)
 (hf:∀j H1,j<xs.length→St prog H H1 []→Fn prog k (.agg #[.string (iD xs j).name,I (iD xs j).src,I (iD xs j).dst,I (iD xs j).shift,.bool (iD xs j).thr]::caps) H1 fun r H2=>r=.bool (p j)∧St prog H1 H2 []):
 Fn prog 158 [v,.func (.func k) #[] caps.toArray] H fun r H'=>r=.bool (decide (0≤lT p xs.length))∧St prog H H' []:=by
 refine .aD func158 rfl (by kernel_rfl) (m:=9) rfl fun l hn g0 g1=> ?_
 simp(disch:=omega) only[↓RA,RZ,simprocAttr,hn,g0,g1]
 refine(sR H).cF (b8V v xs hv hl k caps p hf) fun H1 hS1=> ?_
 simp(disch:=omega) only[↓RA,RZ,simprocAttr,hn,c4o]
 first|exact hS1|exact⟨rfl,hS1⟩
theorem b0h(c:Cpl)(A:Nat)(d:Cpl)(hA:Var H A 5 d.cells):Fn prog 159 [.agg #[.string c.name,I c.src,I c.dst,I c.shift,.bool c.thr],ptr A 0 5] H fun r H'=>r=.bool (decide (c.name=d.name))∧St prog H H' []:=by
 refine .aD func159 rfl (by kernel_rfl) (m:=9) rfl fun l hn g0 g1=> ?_
 simp(disch:=omega) only[↓RA,RB,simprocAttr,g0]
 refine(sR H).eNew 5 [(.string c.name),I c.src,I c.dst,I c.shift,(.bool c.thr)] rfl rfl rfl wI fun A1 H1 hS1=> ?_
 simp only[RT]at hS1
 simp(disch:=omega) only[↓RA,RZ,simprocAttr,hn,g1,hS1.ld 0 rfl,(hS1.va hA).ld,c2V,Cpl.cells]
 first|exact hS1.forget|exact⟨rfl,hS1.forget⟩
def mV(m:Nat)(cs:List Cpl)(j:Nat):Int:=
 let c:=iD cs j
 if kX c.name=false then 8 else if ∃q,q<j∧(iD cs q).name=c.name then 9 else if c.src<0∨m≤c.src∨c.dst<0∨m≤c.dst then 10 else if c.shift< -127∨127<c.shift then 3 else if c.src=c.dst∧c.shift=0 then 7 else 0
def tK(ks:List (Int×Int))(cs:List Cpl):Int:=if 8<ks.length∨40<cs.length then 4 else if ∃k∈ks,sE k.1 k.2≠0 then 23 else lO (mV ks.length cs) cs.length
def kpc(k:Int×Int):List Value:=[I k.1,I k.2]
theorem a7g{α:Type}[Inhabited α](xs:List α)(i j:Nat)(h:j<i):iD (xs.take i) j=iD xs j:=by
 unfold iD
 rw[dh,dh,dX h]
theorem a7E(kv cv:Value)(ks:List (Int×Int))(cs:List Cpl)(hk:Sl 2 kpc H kv ks)(hc:Sl 5 Cpl.cells H cv cs)(hl:ks.length<1000000000)(hl2:cs.length<1000000000):
 Fn prog 111 [kv,cv] H fun v H'=>v=I (tK ks cs)∧St prog H H' []:=by
 refine .aD func111 rfl (by kernel_rfl) (m:=89) rfl fun l hn g0 g1=> ?_
 simp(disch:=omega) only[↓RA,RZ,simprocAttr,hn,g0,((sR H).sl hk).len]
 refine iO (fun p1=> ?_) (fun p1=> ?_)
 ·simp(disch:=omega) only[↓RA,RZ,simprocAttr,hn,rV,p1]
  exact⟨by rw[tK,if_pos (by omega)],(sR H)⟩
 simp(disch:=omega) only[↓RA,RZ,simprocAttr,hn,g1,((sR H).sl hc).len,p1]
 refine iC (fun p2=> ?_) (fun p2=> ?_)
 ·simp(disch:=omega) only[↓RA,RZ,simprocAttr,hn,rV,p1,p2]
  exact⟨by rw[tK,if_pos (by omega)],(sR H)⟩
 simp(disch:=omega) only[↓RA,RZ,simprocAttr,hn,g0,((sR H).sl hk).len,p1,p2]
 refine Wp.aq (fun n l H'=>l.length=89∧get l 0=kv∧get l 1=cv∧get l 17=kv∧get l 18=I ks.length∧∃(i:Nat),(n+i=ks.length∧∀j,j<i→sE (iD ks j).1 (iD ks j).2=0)∧get l 19=I i∧St prog H H' []) ks.length ?_ ?_
 ·simp(disch:=omega) only[RB,RC,simprocAttr,hn,g0,g1]
  exact⟨0,⟨by omega,by simp⟩,rfl,(sR H)⟩
 rintro n l H1⟨hn,g0,g1,g17,g18,i,⟨hi1,h0⟩,g19,hS1⟩
 simp(disch:=omega) only[↓RA,RB,simprocAttr,hn,g18,g19]
 refine iC (fun p3=> ?_) (fun p3=> ?_)
 ·simp(disch:=omega) only[↓RA,RZ,simprocAttr,hn,g17,g19,(hS1.sl hk).idx,(hS1.sl hk).aj,kpc,p3]
  refine hS1.eNew 2 [I 0,I 0] rfl rfl rfl a9D fun A1 H2 hS2=> ?_
  simp only[RT]at hS2
  simp(disch:=omega) only[↓RA,RZ,simprocAttr,hn,p3]
  refine hS2.aa 0 rfl [I (iD ks i).1,I (iD ks i).2] rfl rfl a9D (by simp) fun H3 hS3=> ?_
  simp only[RT]at hS3
  simp(disch:=omega) only[↓RA,RZ,simprocAttr,hn,hS3.aj 0 rfl,p3]
  refine hS3.cF (a4B _ _) fun H4 hS4=> ?_
  simp(disch:=omega) only[↓RA,RZ,simprocAttr,hn,p3]
  refine iC (fun p4=> ?_) (fun p4=> ?_)
  ·simp(disch:=omega) only[↓RA,RZ,simprocAttr,hn,rV,p3,p4]
   exact⟨by rw[tK,if_neg (by omega),if_pos ⟨_,iG (by omega),p4⟩],hS4.forget⟩
  simp(disch:=omega) only[↓RA,RZ,simprocAttr,hn,g0,g1,g17,g18,g19,p3,p4]
  exact⟨n-1,by omega,i+1,⟨by omega,fun j hj=>by rcases dw.1 hj with e|e;(· exact h0 j e);(· rw[e];exact dN.1 p4)⟩,by simp,hS4.sub (by simp)⟩
 have hE:tK ks cs=lO (mV ks.length cs) cs.length:=by
  rw[tK,if_neg (by omega),if_neg]
  rintro⟨k,hk,hne⟩
  obtain⟨j,hj,rfl⟩:=dT.1 hk
  rw[←jP ks j hj]at hne
  exact hne (h0 j (by omega))
 simp(disch:=omega) only[↓RA,RZ,simprocAttr,hn,g1,(hS1.sl hc).len,p3]
 refine Wp.aq (fun n l H'=>l.length=89∧get l 0=kv∧get l 1=cv∧get l 27=cv∧get l 28=I cs.length∧∃(i:Nat),(n+i=cs.length∧∀j,j<i→mV ks.length cs j=0)∧get l 29=I i∧St prog H H' []) cs.length ?_ ?_
 ·simp(disch:=omega) only[RB,RC,simprocAttr,hn,g0,g1]
  exact⟨0,⟨by omega,by simp⟩,rfl,hS1⟩
 rintro n l H5⟨hn,g0,g1,g27,g28,i,⟨hi2,hz⟩,g29,hS5⟩
 simp(disch:=omega) only[↓RA,RB,simprocAttr,hn,g28,g29]
 refine iC (fun q1=> ?_) (fun q1=> ?_)
 ·have key:mV ks.length cs i≠0→tK ks cs=mV ks.length cs i:=fun hne=>by rw[hE,oS _ _ i (by omega) hne hz]
  simp(disch:=omega) only[↓RA,RZ,simprocAttr,hn,g27,g29,(hS5.sl hc).idx,(hS5.sl hc).aj,Cpl.cells,q1]
  refine hS5.eNew 5 [(.string ⟨#[]⟩),I 0,I 0,I 0,(.bool false)] rfl rfl rfl wI fun A2 H6 hS6=> ?_
  simp only[RT]at hS6
  simp(disch:=omega) only[↓RA,RZ,simprocAttr,hn,q1]
  refine hS6.aa 0 rfl [(.string (iD cs i).name),I (iD cs i).src,I (iD cs i).dst,I (iD cs i).shift,(.bool (iD cs i).thr)] rfl rfl wI (by simp) fun H7 hS7=> ?_
  simp only[RT]at hS7
  simp(disch:=omega) only[↓RA,RZ,simprocAttr,hn,hS7.ld 0 rfl,q1]
  refine hS7.cF (qL _) fun H8 hS8=> ?_
  simp(disch:=omega) only[↓RA,RZ,simprocAttr,hn,q1]
  refine jJ (fun q2=> ?_) (fun q2=> ?_)
  ·have e1:mV ks.length cs i=8:=by unfold mV;simp only;rw[if_pos (by simpa using q2)]
   simp(disch:=omega) only[↓RA,RZ,simprocAttr,hn,rV,q1,q2]
   exact⟨by rw[key (by rw[e1];decide),e1],hS8.forget⟩
  have q2':¬kX (iD cs i).name=false:=by simpa using q2
  simp(disch:=omega) only[↓RA,RZ,simprocAttr,hn,g1,(hS8.sl hc).aN,q1,q2]
  have hA:=hS8.var 0 rfl
  refine hS8.cF (b7K _ (cs.take i) ((hS8.sl hc).cE i (by omega) (by omega)) (by simp;omega) 159 [ptr A2 0 5] (fun j=>decide ((iD (cs.take i) j).name=(iD cs i).name)) (fun j H1 hj hS'=>b0h _ A2 (iD cs i) (hS'.va hA))) fun H9 hS9=> ?_
  have hx:0≤lT (fun j=>decide ((iD (cs.take i) j).name=(iD cs i).name)) (cs.take i).length↔∃q,q<i∧(iD cs q).name=(iD cs i).name:=by
   rw[vH]
   constructor
   ·rintro⟨j,hj,hp⟩
    have hj':j<i:=by simp at hj;omega
    exact⟨j,hj',by rw[←a7g cs i j hj'];exact of_decide_eq_true hp⟩
   ·rintro⟨j,hj,hp⟩
    exact⟨j,by simp;omega,decide_eq_true (by rw[a7g cs i j hj];exact hp)⟩
  simp(disch:=omega) only[↓RA,RZ,simprocAttr,hn,q1,q2]
  refine iC (fun q3=> ?_) (fun q3=> ?_)
  ·have e1:mV ks.length cs i=9:=by unfold mV;simp only;rw[if_neg q2',if_pos (hx.1 q3)]
   simp(disch:=omega) only[↓RA,RZ,simprocAttr,hn,rV,q1,q2,q3]
   exact⟨by rw[key (by rw[e1];decide),e1],hS9.forget⟩
  have q3':¬∃q,q<i∧(iD cs q).name=(iD cs i).name:=fun hh=>q3 (hx.2 hh)
  have hC:mV ks.length cs i=if(iD cs i).src<0∨ks.length≤(iD cs i).src∨(iD cs i).dst<0∨ks.length≤(iD cs i).dst then 10 else if(iD cs i).shift< -127∨127<(iD cs i).shift then 3 else if(iD cs i).src=(iD cs i).dst∧(iD cs i).shift=0 then 7 else 0:=by
   unfold mV;simp only;rw[if_neg q2',if_neg q3']
  clear hx
  simp(disch:=omega) only[↓RA,RZ,simprocAttr,hn,hS9.ld 0 rfl,q1,q2,q3]
  refine iO (fun h1=> ?_) (fun h1=> ?_)
  ·simp(disch:=omega) only[↓RA,RZ,simprocAttr,hn,rV,q1,q2,q3,h1]
   (first|(have e1:mV ks.length cs i=10:=by rw[hC,if_pos (by omega)]);exact⟨by rw[key (by rw[e1];decide),e1],hS9.forget⟩|(have e1:mV ks.length cs i=3:=by rw[hC,if_neg (by omega),if_pos (by omega)]);exact⟨by rw[key (by rw[e1];decide),e1],hS9.forget⟩|(have e1:mV ks.length cs i=7:=by rw[hC,if_neg (by omega),if_neg (by omega),if_pos (by omega)]);exact⟨by rw[key (by rw[e1];decide),e1],hS9.forget⟩)
  simp(disch:=omega) only[↓RA,RZ,simprocAttr,hn,g0,hS9.ld 0 rfl,(hS9.sl hk).len,q1,q2,q3,h1]
  refine iO (fun h2=> ?_) (fun h2=> ?_)
  ·simp(disch:=omega) only[↓RA,RZ,simprocAttr,hn,rV,q1,q2,q3,h1,h2]
   (first|(have e1:mV ks.length cs i=10:=by rw[hC,if_pos (by omega)]);exact⟨by rw[key (by rw[e1];decide),e1],hS9.forget⟩|(have e1:mV ks.length cs i=3:=by rw[hC,if_neg (by omega),if_pos (by omega)]);exact⟨by rw[key (by rw[e1];decide),e1],hS9.forget⟩|(have e1:mV ks.length cs i=7:=by rw[hC,if_neg (by omega),if_neg (by omega),if_pos (by omega)]);exact⟨by rw[key (by rw[e1];decide),e1],hS9.forget⟩)
  simp(disch:=omega) only[↓RA,RZ,simprocAttr,hn,hS9.ld 0 rfl,q1,q2,q3,h1,h2]
  refine iO (fun h3=> ?_) (fun h3=> ?_)
  ·simp(disch:=omega) only[↓RA,RZ,simprocAttr,hn,rV,q1,q2,q3,h1,h2,h3]
   (first|(have e1:mV ks.length cs i=10:=by rw[hC,if_pos (by omega)]);exact⟨by rw[key (by rw[e1];decide),e1],hS9.forget⟩|(have e1:mV ks.length cs i=3:=by rw[hC,if_neg (by omega),if_pos (by omega)]);exact⟨by rw[key (by rw[e1];decide),e1],hS9.forget⟩|(have e1:mV ks.length cs i=7:=by rw[hC,if_neg (by omega),if_neg (by omega),if_pos (by omega)]);exact⟨by rw[key (by rw[e1];decide),e1],hS9.forget⟩)
  simp(disch:=omega) only[↓RA,RZ,simprocAttr,hn,g0,hS9.ld 0 rfl,(hS9.sl hk).len,q1,q2,q3,h1,h2,h3]
  refine iC (fun h4=> ?_) (fun h4=> ?_)
  ·simp(disch:=omega) only[↓RA,RZ,simprocAttr,hn,rV,q1,q2,q3,h1,h2,h3,h4]
   (first|(have e1:mV ks.length cs i=10:=by rw[hC,if_pos (by omega)]);exact⟨by rw[key (by rw[e1];decide),e1],hS9.forget⟩|(have e1:mV ks.length cs i=3:=by rw[hC,if_neg (by omega),if_pos (by omega)]);exact⟨by rw[key (by rw[e1];decide),e1],hS9.forget⟩|(have e1:mV ks.length cs i=7:=by rw[hC,if_neg (by omega),if_neg (by omega),if_pos (by omega)]);exact⟨by rw[key (by rw[e1];decide),e1],hS9.forget⟩)
  simp(disch:=omega) only[↓RA,RZ,simprocAttr,hn,hS9.ld 0 rfl,q1,q2,q3,h1,h2,h3,h4]
  refine iO (fun h5=> ?_) (fun h5=> ?_)
  ·simp(disch:=omega) only[↓RA,RZ,simprocAttr,hn,rV,q1,q2,q3,h1,h2,h3,h4,h5]
   (first|(have e1:mV ks.length cs i=10:=by rw[hC,if_pos (by omega)]);exact⟨by rw[key (by rw[e1];decide),e1],hS9.forget⟩|(have e1:mV ks.length cs i=3:=by rw[hC,if_neg (by omega),if_pos (by omega)]);exact⟨by rw[key (by rw[e1];decide),e1],hS9.forget⟩|(have e1:mV ks.length cs i=7:=by rw[hC,if_neg (by omega),if_neg (by omega),if_pos (by omega)]);exact⟨by rw[key (by rw[e1];decide),e1],hS9.forget⟩)
  simp(disch:=omega) only[↓RA,RZ,simprocAttr,hn,hS9.ld 0 rfl,q1,q2,q3,h1,h2,h3,h4,h5]
  refine iC (fun h6=> ?_) (fun h6=> ?_)
  ·simp(disch:=omega) only[↓RA,RZ,simprocAttr,hn,rV,q1,q2,q3,h1,h2,h3,h4,h5,h6]
   (first|(have e1:mV ks.length cs i=10:=by rw[hC,if_pos (by omega)]);exact⟨by rw[key (by rw[e1];decide),e1],hS9.forget⟩|(have e1:mV ks.length cs i=3:=by rw[hC,if_neg (by omega),if_pos (by omega)]);exact⟨by rw[key (by rw[e1];decide),e1],hS9.forget⟩|(have e1:mV ks.length cs i=7:=by rw[hC,if_neg (by omega),if_neg (by omega),if_pos (by omega)]);exact⟨by rw[key (by rw[e1];decide),e1],hS9.forget⟩)
  simp(disch:=omega) only[↓RA,RZ,simprocAttr,hn,hS9.ld 0 rfl,q1,q2,q3,h1,h2,h3,h4,h5,h6]
  refine jU (fun h7=> ?_) (fun h7=> ?_)
  ·simp(disch:=omega) only[↓RA,RZ,simprocAttr,hn,hS9.ld 0 rfl,q1,q2,q3,h3,h4,h5,h6,h7]
   refine iC (fun h8=> ?_) (fun h8=> ?_)
   ·simp(disch:=omega) only[↓RA,RZ,simprocAttr,hn,rV,q1,q2,q3,h3,h4,h7,h8]
    (first|(have e1:mV ks.length cs i=10:=by rw[hC,if_pos (by omega)]);exact⟨by rw[key (by rw[e1];decide),e1],hS9.forget⟩|(have e1:mV ks.length cs i=3:=by rw[hC,if_neg (by omega),if_pos (by omega)]);exact⟨by rw[key (by rw[e1];decide),e1],hS9.forget⟩|(have e1:mV ks.length cs i=7:=by rw[hC,if_neg (by omega),if_neg (by omega),if_pos (by omega)]);exact⟨by rw[key (by rw[e1];decide),e1],hS9.forget⟩)
   simp(disch:=omega) only[↓RA,RZ,simprocAttr,hn,g0,g1,g27,g28,g29,q1,q2,q3,h3,h4,h5,h6,h7,h8]
   have e0:mV ks.length cs i=0:=by rw[hC,if_neg (by omega),if_neg (by omega),if_neg (by omega)]
   exact⟨n-1,by omega,i+1,⟨by omega,fun j hj=>by rcases dw.1 hj with e|e;(· exact hz j e);(· rw[e];exact e0)⟩,by simp,hS9.sub (by simp)⟩
  simp(disch:=omega) only[↓RA,RZ,simprocAttr,hn,g0,g1,g27,g28,g29,q1,q2,q3,h1,h2,h3,h4,h5,h6,h7]
  have e0:mV ks.length cs i=0:=by rw[hC,if_neg (by omega),if_neg (by omega),if_neg (by omega)]
  exact⟨n-1,by omega,i+1,⟨by omega,fun j hj=>by rcases dw.1 hj with e|e;(· exact hz j e);(· rw[e];exact e0)⟩,by simp,hS9.sub (by simp)⟩
 simp(disch:=omega) only[↓RA,RZ,simprocAttr,hn,rV,q1]
 exact⟨by rw[hE,kT _ _ fun j hj=>hz j (by omega)],hS5.forget⟩
def pI(rs:List Rk)(lo hi:Int)(l:List Stp)(j:Nat):Int:=if stopE rs lo hi (iD l j)≠0 then stopE rs lo hi (iD l j)else if ∃q,q<j∧(iD l q).name=(iD l j).name then 9 else 0
def divE(rs:List Rk)(d:Dvn):Int:=if sE d.lo d.hi≠0 then sE d.lo d.hi else if 60<d.stops.length then 4 else lO (pI rs d.lo d.hi d.stops) d.stops.length
theorem a0q{kvs kvs':List (ByteArray×Bool)}{f:Nat→ByteArray}{i:Nat}(h:∀t,qI kvs t=true↔∃q,q<i∧f q=t)(h':∀t,qI kvs' t=(qI kvs t||decide (t=f i))):∀t,qI kvs' t=true↔∃q,q<i+1∧f q=t:=by
 intro t
 rw[h',eB,h,decide_eq_true_iff]
 constructor
 ·rintro(⟨q,hq,e⟩|e)
  ·exact⟨q,by omega,e⟩
  ·exact⟨i,by omega,e.symm⟩
 ·rintro⟨q,hq,e⟩
  rcases dw.1 hq with hh|hh
  ·exact .inl ⟨q,hh,e⟩
  ·right;rw[←e,hh]
theorem a1Z(t:ByteArray):qI [] t=false:=rfl
theorem c0o(o:Org)(ho:o.In H)(d:Dvn)(hd:d.In H):
 Fn prog 110 [.agg #[.string o.name,o.rv,o.dv,o.cv],.agg #[.string d.name,.bool d.pedal,I d.lo,I d.hi,d.sv]] H fun v H'=>v=I (divE o.ranks d)∧St prog H H' []:=by
 have hl:=hd.2.2
 refine .aD func110 rfl (by kernel_rfl) (m:=47) rfl fun l hn g0 g1=> ?_
 simp(disch:=omega) only[↓RA,RB,simprocAttr,g0]
 refine(sR H).eNew 4 [(.string o.name),o.rv,o.dv,o.cv] rfl rfl (by simp[OC,((sR H).sl ho.1).cells.2.1,((sR H).sl ho.2.2.1).cells.2.1,((sR H).sl ho.2.2.2.2.1).cells.2.1]) nJ fun A1 H1 hS1=> ?_
 simp only[RT]at hS1
 simp(disch:=omega) only[↓RA,RB,simprocAttr,g1]
 refine hS1.eNew 5 [(.string d.name),(.bool d.pedal),I d.lo,I d.hi,d.sv] rfl rfl (by simp[OC,(hS1.sl hd.1).cells.2.1]) a3h fun A2 H2 hS2=> ?_
 simp only[RT]at hS2
 simp(disch:=omega) only[↓RA,RZ,simprocAttr,hn,hS2.aj 1 rfl]
 refine hS2.cF (a4B d.lo d.hi) fun H3 hS3=> ?_
 simp(disch:=omega) only[↓RA,RB,simprocAttr,hn]
 refine iC (fun p1=> ?_) (fun p1=> ?_)
 ·simp(disch:=omega) only[↓RA,RZ,simprocAttr,hn,a7s,p1]
  exact⟨by rw[divE,if_pos p1],hS3.forget⟩
 simp(disch:=omega) only[↓RA,RZ,simprocAttr,hn,hS3.ld 1 rfl,(hS3.sl hd.1).len,p1]
 refine iC (fun p2=> ?_) (fun p2=> ?_)
 ·simp(disch:=omega) only[↓RA,RZ,simprocAttr,hn,a7s,p1,p2]
  exact⟨by rw[divE,if_neg p1,if_pos (by omega)],hS3.forget⟩
 have hE:divE o.ranks d=lO (pI o.ranks d.lo d.hi d.stops) d.stops.length:=by rw[divE,if_neg p1,if_neg (by omega)]
 simp(disch:=omega) only[↓RA,simprocAttr]
 refine hS3.bV a5T fun M1 H4 hS4=> ?_
 simp only[RT]at hS4
 simp(disch:=omega) only[↓RA,RZ,simprocAttr,hn,hS4.ld 1 rfl,(hS4.sl hd.1).len,p1,p2]
 refine Wp.aq (fun n l H'=>l.length=47∧get l 2=(ptr A1 0 4)∧get l 3=(ptr A2 0 5)∧get l 6=(.map (some M1))∧get l 23=d.sv∧get l 24=I d.stops.length∧∃(i:Nat)(kvs:List (ByteArray×Bool)),(n+i=d.stops.length∧(∀j,j<i→pI o.ranks d.lo d.hi d.stops j=0)∧(∀t,qI kvs t=true↔∃q,q<i∧(iD d.stops q).name=t))∧get l 25=I i∧St prog H H' [⟨ptr A1 0 4,0,[(.string o.name),o.rv,o.dv,o.cv]⟩,⟨ptr A2 0 5,0,[(.string d.name),(.bool d.pedal),I d.lo,I d.hi,d.sv]⟩,⟨.map (some M1),0,KS kvs⟩]) d.stops.length ?_ ?_
 ·simp(disch:=omega) only[RB,RC,simprocAttr,hn]
  exact⟨0,[],⟨by omega,by simp,by simp[a1Z]⟩,rfl,hS4⟩
 rintro n l H5⟨hn,g2,g3,g6,g23,g24,i,kvs,⟨hi1,hz,hk⟩,g25,hS5⟩
 simp(disch:=omega) only[↓RA,RB,simprocAttr,hn,g24,g25]
 refine iC (fun q1=> ?_) (fun q1=> ?_)
 ·have key:pI o.ranks d.lo d.hi d.stops i≠0→divE o.ranks d=pI o.ranks d.lo d.hi d.stops i:=fun hne=>by rw[hE,oS _ _ i (by omega) hne hz]
  simp(disch:=omega) only[↓RA,RZ,simprocAttr,hn,g23,g25,(hS5.sl hd.1).idx,(hS5.sl hd.1).aj,Stp.cells,q1]
  refine hS5.eNew 4 [(.string ⟨#[]⟩),I 0,I 0,(.slice none 0 0)] rfl rfl rfl nA fun A3 H6 hS6=> ?_
  simp only[RT]at hS6
  simp(disch:=omega) only[↓RA,RZ,simprocAttr,hn,q1]
  refine hS6.aa 3 rfl [(.string (iD d.stops i).name),I (iD d.stops i).num,I (iD d.stops i).den,(iD d.stops i).gv] rfl (by simp[OC,(hS6.sl (hd.2.1 (iD d.stops i) (iG (by omega))).1).cells.2.1]) nA (by simp) fun H7 hS7=> ?_
  simp only[RT]at hS7
  simp(disch:=omega) only[↓RA,RZ,simprocAttr,hn,g2,g3,hS7.ld 0 rfl,hS7.aj 1 rfl,b2m (hS7.sl ho.1).cells,hS7.aj 3 rfl,q1]
  refine hS7.cF (b8Z o.rv o.ranks d.lo d.hi (hS7.sl ho.1) (fun r h=>(ho.2.1 r h).ae hS7) ho.2.2.2.2.2.1 (iD d.stops i) ((hd.2.1 _ (iG (by omega))).ae hS7)) fun H8 hS8=> ?_
  simp(disch:=omega) only[↓RA,RZ,simprocAttr,hn,q1]
  refine iC (fun q2=> ?_) (fun q2=> ?_)
  ·have e1:pI o.ranks d.lo d.hi d.stops i=stopE o.ranks d.lo d.hi (iD d.stops i):=by rw[pI,if_pos q2]
   simp(disch:=omega) only[↓RA,RZ,simprocAttr,hn,a7s,q1,q2]
   exact⟨by rw[key (by rw[e1];exact q2),e1],hS8.forget⟩
  simp(disch:=omega) only[↓RA,RZ,simprocAttr,hn,g6,hS8.ld 3 rfl,q1,q2]
  have hM1:=hS8.pick (os':=[⟨.map (some M1),0,_⟩]) [2] (by decide) rfl
  have hR1:=hS8.pick (os':=[⟨.map (some M1),0,_⟩,⟨ptr A1 0 4,0,_⟩,⟨ptr A2 0 5,0,_⟩,⟨ptr A3 0 4,0,_⟩]) [2,0,1,3] (by decide) rfl
  refine iK (a1p _ M1 kvs (iD d.stops i).name hM1.aH) ?_
  rintro r H9⟨rfl,kvs',hk',hT3⟩
  have hS9:=hR1.frame hT3
  simp only[RT]at hS9
  simp(disch:=omega) only[↓RA,RZ,simprocAttr,hn,q1,q2]
  refine iC (fun q3=> ?_) (fun q3=> ?_)
  ·have q3':qI kvs (iD d.stops i).name=true:=by
    by_cases hh:qI kvs (iD d.stops i).name=true
    ·exact hh
    ·rw[if_neg hh]at q3;exact absurd rfl q3
   have e1:pI o.ranks d.lo d.hi d.stops i=9:=by rw[pI,if_neg q2,if_pos ((hk _).1 q3')]
   simp(disch:=omega) only[↓RA,RZ,simprocAttr,hn,a7s,q1,q2,q3]
   exact⟨by rw[key (by rw[e1];decide),e1,if_pos q3'],hS9.forget⟩
  have q3':¬qI kvs (iD d.stops i).name=true:=fun hh=>q3 (by rw[if_pos hh];decide)
  have e0:pI o.ranks d.lo d.hi d.stops i=0:=by rw[pI,if_neg q2,if_neg (fun hh=>q3' ((hk _).2 hh))]
  simp(disch:=omega) only[↓RA,RZ,simprocAttr,hn,g2,g3,g6,g23,g24,g25,q1,q2,q3]
  exact⟨n-1,by omega,i+1,kvs',⟨by omega,fun j hj=>by rcases dw.1 hj with e|e;(· exact hz j e);(· rw[e];exact e0),a0q (f:=fun q=>(iD d.stops q).name) hk hk'⟩,by simp,hS9.pick [1,2,0] (by decide) rfl⟩
 simp(disch:=omega) only[↓RA,RZ,simprocAttr,hn,a7s,q1]
 exact⟨by rw[hE,kT _ _ fun j hj=>hz j (by omega)],hS5.forget⟩
def nU(l:List Rk)(j:Nat):Int:=if rankE (iD l j)≠0 then rankE (iD l j)else if ∃q,q<j∧(iD l q).name=(iD l j).name then 9 else 0
def tV(rs:List Rk)(l:List Dvn)(j:Nat):Int:=if kX (iD l j).name=false then 8 else if ∃q,q<j∧(iD l q).name=(iD l j).name then 9 else divE rs (iD l j)
def kps(l:List Dvn):List (Int×Int):=l.map fun d=>(d.lo,d.hi)
def organE(o:Org):Int:=if kX o.name=false then 8 else if 60<o.ranks.length then 4 else if lO (nU o.ranks) o.ranks.length≠0 then lO (nU o.ranks) o.ranks.length else
 if o.dvs.length=0 then 13 else if 8<o.dvs.length then 4 else if lO (tV o.ranks o.dvs) o.dvs.length≠0 then lO (tV o.ranks o.dvs) o.dvs.length else tK (kps o.dvs) o.cpls
theorem vF(k:Int×Int):(kpc k).length=2:=rfl
theorem b5M(l:List Dvn)(i:Nat)(h:i<l.length):(kps (l.take (i+1))).flatMap kpc=(kps (l.take i)).flatMap kpc++[I (iD l i).lo,I (iD l i).hi]:=by
 unfold kps
 rw[pM l i h,dO,dE]
 rfl
theorem a1S(o:Org)(ho:o.In H):Fn prog 73 [.agg #[.string o.name,o.rv,o.dv,o.cv]] H fun v H'=>v=I (organE o)∧St prog H H' []:=by
 have hlr:=ho.2.2.2.2.2.1
 have hld:=ho.2.2.2.2.2.2.1
 have hlc:=ho.2.2.2.2.2.2.2
 refine .aW func73 rfl (by kernel_rfl) (m:=89) rfl fun l hn g0=> ?_
 simp(disch:=omega) only[↓RA,RB,simprocAttr,g0]
 refine(sR H).eNew 4 [(.string o.name),o.rv,o.dv,o.cv] rfl rfl (by simp[OC,((sR H).sl ho.1).cells.2.1,((sR H).sl ho.2.2.1).cells.2.1,((sR H).sl ho.2.2.2.2.1).cells.2.1]) nJ fun A1 H1 hS1=> ?_
 simp only[RT]at hS1
 simp(disch:=omega) only[↓RA,RZ,simprocAttr,hn,hS1.ld 0 rfl]
 refine hS1.cF (qL _) fun H2 hS2=> ?_
 simp(disch:=omega) only[↓RA,RB,simprocAttr,hn]
 refine jJ (fun p1=> ?_) (fun p1=> ?_)
 ·simp(disch:=omega) only[↓RA,RB,simprocAttr,hn,a3b,p1]
  exact⟨by rw[organE,if_pos (by simpa using p1)],hS2.forget⟩
 have p1':¬kX o.name=false:=by simpa using p1
 simp(disch:=omega) only[↓RA,RZ,simprocAttr,hn,hS2.ld 0 rfl,(hS2.sl ho.1).len,p1]
 refine iC (fun p2=> ?_) (fun p2=> ?_)
 ·simp(disch:=omega) only[↓RA,RZ,simprocAttr,hn,a3b,p1,p2]
  exact⟨by rw[organE,if_neg p1',if_pos (by omega)],hS2.forget⟩
 simp(disch:=omega) only[↓RA,simprocAttr]
 refine hS2.bV a5T fun M1 H3 hS3=> ?_
 simp only[RT]at hS3
 simp(disch:=omega) only[↓RA,RZ,simprocAttr,hn,hS3.ld 0 rfl,(hS3.sl ho.1).len,p1,p2]
 refine Wp.aq (fun n l H'=>l.length=89∧get l 1=(ptr A1 0 4)∧get l 3=(.map (some M1))∧get l 25=o.rv∧get l 26=I o.ranks.length∧∃(i:Nat)(kvs:List (ByteArray×Bool)),(n+i=o.ranks.length∧(∀j,j<i→nU o.ranks j=0)∧(∀t,qI kvs t=true↔∃q,q<i∧(iD o.ranks q).name=t))∧get l 27=I i∧St prog H H' [⟨ptr A1 0 4,0,[(.string o.name),o.rv,o.dv,o.cv]⟩,⟨.map (some M1),0,KS kvs⟩]) o.ranks.length ?_ ?_
 ·simp(disch:=omega) only[RB,RC,simprocAttr,hn]
  exact⟨0,[],⟨by omega,by simp,by simp[a1Z]⟩,rfl,hS3⟩
 rintro n l H4⟨hn,g1,g3,g25,g26,i,kvs,⟨hi1,hz,hk⟩,g27,hS4⟩
 simp(disch:=omega) only[↓RA,RB,simprocAttr,hn,g26,g27]
 refine iC (fun q1=> ?_) (fun q1=> ?_)
 ·have key:nU o.ranks i≠0→organE o=nU o.ranks i:=fun hne=>by rw[organE,if_neg p1',if_neg (by omega),oS _ _ i (by omega) hne hz,if_pos hne]
  simp(disch:=omega) only[↓RA,RZ,simprocAttr,hn,g25,g27,(hS4.sl ho.1).idx,(hS4.sl ho.1).aj,Rk.cells,q1]
  refine hS4.eNew 6 [(.string ⟨#[]⟩),(.string ⟨#[]⟩),I 0,I 0,I 0,(.slice none 0 0)] rfl rfl rfl a2U fun A2 H5 hS5=> ?_
  simp only[RT]at hS5
  simp(disch:=omega) only[↓RA,RZ,simprocAttr,hn,q1]
  refine hS5.aa 2 rfl [(.string (iD o.ranks i).name),(.string (iD o.ranks i).tone),I (iD o.ranks i).num,I (iD o.ranks i).den,I (iD o.ranks i).first,(iD o.ranks i).wv] rfl (by simp[OC,(hS5.sl (ho.2.1 (iD o.ranks i) (iG (by omega))).1).cells.2.1]) a2U (by simp) fun H6 hS6=> ?_
  simp only[RT]at hS6
  simp(disch:=omega) only[↓RA,RZ,simprocAttr,hn,hS6.aj 2 rfl,q1]
  refine hS6.cF (b0H (iD o.ranks i) ((ho.2.1 _ (iG (by omega))).ae hS6)) fun H7 hS7=> ?_
  simp(disch:=omega) only[↓RA,RZ,simprocAttr,hn,q1]
  refine iC (fun q2=> ?_) (fun q2=> ?_)
  ·have e1:nU o.ranks i=rankE (iD o.ranks i):=by rw[nU,if_pos q2]
   simp(disch:=omega) only[↓RA,RZ,simprocAttr,hn,a3b,q1,q2]
   exact⟨by rw[key (by rw[e1];exact q2),e1],hS7.forget⟩
  simp(disch:=omega) only[↓RA,RZ,simprocAttr,hn,g3,hS7.ld 2 rfl,q1,q2]
  have hM1:=hS7.pick (os':=[⟨.map (some M1),0,_⟩]) [1] (by decide) rfl
  have hR1:=hS7.pick (os':=[⟨.map (some M1),0,_⟩,⟨ptr A1 0 4,0,_⟩,⟨ptr A2 0 6,0,_⟩]) [1,0,2] (by decide) rfl
  refine iK (a1p _ M1 kvs (iD o.ranks i).name hM1.aH) ?_
  rintro r H8⟨rfl,kvs',hk',hT3⟩
  have hS8:=hR1.frame hT3
  simp only[RT]at hS8
  simp(disch:=omega) only[↓RA,RZ,simprocAttr,hn,q1,q2]
  refine iC (fun q3=> ?_) (fun q3=> ?_)
  ·have q3':qI kvs (iD o.ranks i).name=true:=by
    by_cases hh:qI kvs (iD o.ranks i).name=true
    ·exact hh
    ·rw[if_neg hh]at q3;exact absurd rfl q3
   have e1:nU o.ranks i=9:=by rw[nU,if_neg q2,if_pos ((hk _).1 q3')]
   simp(disch:=omega) only[↓RA,RZ,simprocAttr,hn,a3b,q1,q2,q3]
   exact⟨by rw[key (by rw[e1];decide),e1,if_pos q3'],hS8.forget⟩
  have q3':¬qI kvs (iD o.ranks i).name=true:=fun hh=>q3 (by rw[if_pos hh];decide)
  have e0:nU o.ranks i=0:=by rw[nU,if_neg q2,if_neg (fun hh=>q3' ((hk _).2 hh))]
  simp(disch:=omega) only[↓RA,RZ,simprocAttr,hn,g1,g3,g25,g26,g27,q1,q2,q3]
  exact⟨n-1,by omega,i+1,kvs',⟨by omega,fun j hj=>by rcases dw.1 hj with e|e;(· exact hz j e);(· rw[e];exact e0),a0q (f:=fun q=>(iD o.ranks q).name) hk hk'⟩,by simp,hS8.pick [1,0] (by decide) rfl⟩
 have hR:lO (nU o.ranks) o.ranks.length=0:=kT _ _ fun j hj=>hz j (by omega)
 clear hk hz
 simp(disch:=omega) only[↓RA,RZ,simprocAttr,hn,g1,hS4.ld 0 rfl,(hS4.sl ho.2.2.1).len,q1]
 refine iC (fun p4=> ?_) (fun p4=> ?_)
 ·simp(disch:=omega) only[↓RA,RZ,simprocAttr,hn,a3b,q1,p4]
  exact⟨by rw[organE,if_neg p1',if_neg (by omega),if_neg (by rw[hR];simp),if_pos (by omega)],hS4.forget⟩
 simp(disch:=omega) only[↓RA,RZ,simprocAttr,hn,g1,hS4.ld 0 rfl,(hS4.sl ho.2.2.1).len,q1,p4]
 refine iC (fun p5=> ?_) (fun p5=> ?_)
 ·simp(disch:=omega) only[↓RA,RZ,simprocAttr,hn,a3b,q1,p4,p5]
  exact⟨by rw[organE,if_neg p1',if_neg (by omega),if_neg (by rw[hR];simp),if_neg (by omega),if_pos (by omega)],hS4.forget⟩
 have hE:organE o=if lO (tV o.ranks o.dvs) o.dvs.length≠0 then lO (tV o.ranks o.dvs) o.dvs.length else tK (kps o.dvs) o.cpls:=by
  rw[organE,if_neg p1',if_neg (by omega),if_neg (by rw[hR];simp),if_neg (by omega),if_neg (by omega)]
 clear hR
 simp(disch:=omega) only[↓RA,simprocAttr]
 refine hS4.bV a5T fun M2 H9 hS9=> ?_
 simp only[RT]at hS9
 simp(disch:=omega) only[↓RA,RZ,simprocAttr,hn,g1,hS9.ld 0 rfl,(hS9.sl ho.2.2.1).len,q1,p4,p5]
 have hS10:=hS9.pick (os':=[⟨ptr A1 0 4,0,_⟩,⟨.map (some M2),0,_⟩]) [0,2] (by decide) rfl
 have hS11:=hS10.nil 1
 simp only[RT]at hS11
 refine Wp.aq (fun n l H'=>l.length=89∧get l 1=(ptr A1 0 4)∧get l 3=(.map (some M2))∧get l 56=o.dv∧get l 57=I o.dvs.length∧∃(i:Nat)(kvs:List (ByteArray×Bool))(w:Value),(n+i=o.dvs.length∧(∀j,j<i→tV o.ranks o.dvs j=0)∧(∀t,qI kvs t=true↔∃q,q<i∧(iD o.dvs q).name=t))∧get l 58=I i∧get l 8=w∧St prog H H' [⟨ptr A1 0 4,0,[(.string o.name),o.rv,o.dv,o.cv]⟩,⟨.map (some M2),0,KS kvs⟩,⟨w,2,(kps (o.dvs.take i)).flatMap kpc⟩]) o.dvs.length ?_ ?_
 ·simp(disch:=omega) only[RB,RC,simprocAttr,hn,g1]
  exact⟨0,[],_,⟨by omega,by simp,by simp[a1Z]⟩,rfl,rfl,hS11⟩
 rintro n l H10⟨hn,g1,g3,g56,g57,i,kvs,w,⟨hi1,hz,hk⟩,g58,g8,hS12⟩
 simp(disch:=omega) only[↓RA,RB,simprocAttr,hn,g57,g58]
 refine iC (fun q1=> ?_) (fun q1=> ?_)
 ·have key:tV o.ranks o.dvs i≠0→organE o=tV o.ranks o.dvs i:=fun hne=>by rw[hE,oS _ _ i (by omega) hne hz,if_pos hne]
  simp(disch:=omega) only[↓RA,RZ,simprocAttr,hn,g56,g58,(hS12.sl ho.2.2.1).idx,(hS12.sl ho.2.2.1).aj,Dvn.cells,q1]
  refine hS12.eNew 5 [(.string ⟨#[]⟩),(.bool false),I 0,I 0,(.slice none 0 0)] rfl rfl rfl a3h fun A3 H11 hS13=> ?_
  simp only[RT]at hS13
  simp(disch:=omega) only[↓RA,RZ,simprocAttr,hn,q1]
  refine hS13.aa 3 rfl [(.string (iD o.dvs i).name),(.bool (iD o.dvs i).pedal),I (iD o.dvs i).lo,I (iD o.dvs i).hi,(iD o.dvs i).sv] rfl (by simp[OC,(hS13.sl (ho.2.2.2.1 (iD o.dvs i) (iG (by omega))).1).cells.2.1]) a3h (by simp) fun H12 hS14=> ?_
  simp only[RT]at hS14
  simp(disch:=omega) only[↓RA,RZ,simprocAttr,hn,hS14.ld 3 rfl,q1]
  refine hS14.cF (qL _) fun H13 hS15=> ?_
  simp(disch:=omega) only[↓RA,RZ,simprocAttr,hn,q1]
  refine jJ (fun q2=> ?_) (fun q2=> ?_)
  ·have e1:tV o.ranks o.dvs i=8:=by rw[tV,if_pos (by simpa using q2)]
   simp(disch:=omega) only[↓RA,RZ,simprocAttr,hn,a3b,q1,q2]
   exact⟨by rw[key (by rw[e1];decide),e1],hS15.forget⟩
  have q2':¬kX (iD o.dvs i).name=false:=by simpa using q2
  simp(disch:=omega) only[↓RA,RZ,simprocAttr,hn,g3,hS15.ld 3 rfl,q1,q2]
  have hM2:=hS15.pick (os':=[⟨.map (some M2),0,_⟩]) [1] (by decide) rfl
  have hR2:=hS15.pick (os':=[⟨.map (some M2),0,_⟩,⟨ptr A1 0 4,0,_⟩,⟨w,2,_⟩,⟨ptr A3 0 5,0,_⟩]) [1,0,2,3] (by decide) rfl
  refine iK (a1p _ M2 kvs (iD o.dvs i).name hM2.aH) ?_
  rintro r H14⟨rfl,kvs',hk',hT5⟩
  have hS16:=hR2.frame hT5
  simp only[RT]at hS16
  simp(disch:=omega) only[↓RA,RZ,simprocAttr,hn,q1,q2]
  refine iC (fun q3=> ?_) (fun q3=> ?_)
  ·have q3':qI kvs (iD o.dvs i).name=true:=by
    by_cases hh:qI kvs (iD o.dvs i).name=true
    ·exact hh
    ·rw[if_neg hh]at q3;exact absurd rfl q3
   have e1:tV o.ranks o.dvs i=9:=by rw[tV,if_neg q2',if_pos ((hk _).1 q3')]
   simp(disch:=omega) only[↓RA,RZ,simprocAttr,hn,a3b,q1,q2,q3]
   exact⟨by rw[key (by rw[e1];decide),e1,if_pos q3'],hS16.forget⟩
  have q3':¬qI kvs (iD o.dvs i).name=true:=fun hh=>q3 (by rw[if_pos hh];decide)
  simp(disch:=omega) only[↓RA,RZ,simprocAttr,hn,g1,hS16.aj 1 rfl,hS16.aj 3 rfl,q1,q2,q3]
  refine hS16.cF (c0o o (ho.ae hS16) (iD o.dvs i) ((ho.2.2.2.1 _ (iG (by omega))).ae hS16)) fun H15 hS17=> ?_
  have e0:tV o.ranks o.dvs i=divE o.ranks (iD o.dvs i):=by rw[tV,if_neg q2',if_neg (fun hh=>q3' ((hk _).2 hh))]
  simp(disch:=omega) only[↓RA,RZ,simprocAttr,hn,q1,q2,q3]
  refine iC (fun q4=> ?_) (fun q4=> ?_)
  ·simp(disch:=omega) only[↓RA,RZ,simprocAttr,hn,a3b,q1,q2,q3,q4]
   exact⟨by rw[key (by rw[e0];exact q4),e0],hS17.forget⟩
  have e2:tV o.ranks o.dvs i=0:=by rw[e0];exact dN.1 q4
  simp(disch:=omega) only[↓RA,RZ,simprocAttr,hn,g8,hS17.aj 3 rfl,q1,q2,q3,q4]
  refine hS17.ai [I (iD o.dvs i).lo,I (iD o.dvs i).hi] b9M c3C rfl rfl (by simp[Value.cells]) rfl rfl (by decide) (by decide) fun w1 H16 hS18=> ?_
  simp only[RT]at hS18
  simp(disch:=omega) only[↓RA,RZ,simprocAttr,hn,q1,q2,q3,q4]
  refine hS18.al 2 rfl (hS18.rd 4 rfl) b9M (by rw[iI vF];simp[kps];omega) fun w2 H17 hS19=> ?_
  simp only[RT]at hS19
  simp(disch:=omega) only[↓RA,RZ,simprocAttr,hn,g1,g3,g56,g57,g58,q1,q2,q3,q4]
  refine⟨n-1,by omega,i+1,kvs',_,⟨by omega,fun j hj=>by rcases dw.1 hj with e|e;(· exact hz j e);(· rw[e];exact e2),a0q (f:=fun q=>(iD o.dvs q).name) hk hk'⟩,by simp,rfl,?_⟩
  rw[b5M _ _ (by omega)]
  exact hS19.pick [1,0,2] (by decide) rfl
 have hD:lO (tV o.ranks o.dvs) o.dvs.length=0:=kT _ _ fun j hj=>hz j (by omega)
 have hi:i=o.dvs.length:=by omega
 subst hi
 rw[eE]at hS12
 simp(disch:=omega) only[↓RA,RZ,simprocAttr,hn,g1,g8,hS12.ld 0 rfl,q1]
 refine hS12.cF (a7E w o.cv (kps o.dvs) o.cpls (hS12.av 2 rfl vF) (hS12.sl ho.2.2.2.2.1) (by simp[kps];omega) hlc) fun H18 hS20=> ?_
 simp(disch:=omega) only[↓RA,RZ,simprocAttr,hn,a3b,q1]
 exact⟨by rw[hE,if_neg (by rw[hD];simp)],hS20.forget⟩
end Go.Ds
